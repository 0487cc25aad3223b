/- The reference's text of a formula: the recursion. -/
import Derived.Test.YtdiapojppmoghaaDoorFtext
namespace Go.Proofs.YtdiapojppmoghaaDoor
open Go.RowKit

set_option maxRecDepth 100000 in
set_option maxHeartbeats 4000000 in
theorem text_one (N : Nat) (W : World) (x : Nd) (A : Option Addr) (c : Nat) (ks : Fo) (hok : TxOk x ks) (hs : FoSl N W A c ks) (h0 : ¬ kidsN x.op = 0) (h1 : kidsN x.op = 1)
    (ih : ∀ y B d (js : Fo), TxOk y js → js.tr.size < ks.tr.size → ∀ W2, Fr Nob W W2 → FoSl N W2 B d js → TextAt y B d js W2) : TextAt x A c ks W := by
  have hop := wrong_op hok.wr
  obtain ⟨b, off, y, B, d, js, rs, K⟩ := hs.kid (k := 0) (by omega)
  have hok0 := hok.kid K.get
  have hpl : pl0 x.op = 6 := by unfold pl0; rcases op_one h0 h1 with h | h | h <;> rw [h] <;> rfl
  have HR := Lib.hid (textT_one h0 h1 (kid0_of K.get))
  rw [hpl] at HR
  have HTA := Lib.hid (fun W' (hf : Fr Nob W W') => ref_at W' y B d js.len 6 (textT y js.tr) hok0.text (fun W2 hf2 => ih y B d js hok0 (by have := K.size; omega) W2 (hf.call hf2 (fun _ h _ => h)) (K.sl.fr (hf.call hf2 (fun _ h _ => h)))))
  have hsz0 := wrapT_size 6 (y.op, textT y js.tr)
  have ht0 := hok0.text
  simp only at hsz0
  obtain ⟨d0, d1, d2, d3, d4, d5, d6⟩ := K.nd
  simp only [Nat.zero_mul, Nat.add_zero] at d0 d1 d2 d3 d4 d5 d6
  have hA := K.slice
  have HKN := Lib.hid (show ks.len = 1 by rw [hop.2.2, h1])
  have HSP := Lib.hid (fun W' n c => ref_span W' x A n c hok.nd.lo hok.nd.hi)
  have hbl := K.lt
  have hss := spanT_size hok.nd.lo hok.nd.hi
  have HO := Lib.hid (op_one h0 h1)
  unfold TextAt
  rw [HR.out, HKN.out]
  subst hA
  clear K hs ih hpl h0 h1 HR HKN hop hok hok0
  unfold fval at *
  generalize wrapT 6 (y.op, textT y js.tr) = t0 at *
  obtain ⟨op, nm, cm, va, lo, hi⟩ := x
  have ho := HO.out
  simp only at ho hss HSP ⊢
  clear HO
  rcases ho with rfl | rfl | rfl
  · have k1 := cat_ok ⟨#[33]⟩ t0 (by rw [sz1]; omega)
    rw [show signT ⟨4, nm, cm, va, lo, hi⟩ = ⟨#[33]⟩ from rfl]
    clear hsz0 ht0 hss
    go_enter Tryd.func32, Tryd.ntmps32
    go_wp2_with ((go_at_call 47); refine (HTA.out _ (((Fr.refl _ _).alloc _).alloc _)).mono ?_; rintro e w1 ⟨rfl, hf1⟩)
    go_ret
    exact ⟨rfl, (((Fr.refl _ _).alloc _).alloc _).call hf1 (fun _ h _ => h)⟩
  · have k1 := cat_ok ⟨#[70]⟩ (spanT lo hi) (by rw [sz1]; omega)
    have k2 := cat_ok (⟨#[70]⟩ ++ spanT lo hi) ⟨#[32]⟩ (by simp only [ByteArray.size_append, sz1]; omega)
    have k3 := cat_ok (⟨#[70]⟩ ++ spanT lo hi ++ ⟨#[32]⟩) t0 (by simp only [ByteArray.size_append, sz1]; omega)
    rw [show signT ⟨9, nm, cm, va, lo, hi⟩ = ⟨#[70]⟩ ++ spanT lo hi ++ ⟨#[32]⟩ from rfl]
    generalize spanT lo hi = sp at *
    clear hsz0 ht0 hss
    go_enter Tryd.func32, Tryd.ntmps32
    go_wp2_with fail
    go_region_held3 (fun w' => w'.cell? ⟨W.heap.size, 0, none⟩ = some (.int .i64 9) ∧ w'.cell? ⟨W.heap.size, 1, none⟩ = some (.string nm) ∧ w'.cell? ⟨W.heap.size, 2, none⟩ = some (.int .i64 cm) ∧ w'.cell? ⟨W.heap.size, 3, none⟩ = some (.int .i64 va) ∧ w'.cell? ⟨W.heap.size, 4, none⟩ = some (.int .i64 lo) ∧ w'.cell? ⟨W.heap.size, 5, none⟩ = some (.int .i64 hi) ∧ w'.cell? ⟨W.heap.size, 6, none⟩ = some (.slice (some ⟨b, off, none⟩) 1 c) ∧
        w'.cell? ⟨W.heap.size + 1, 0, none⟩ = some (.int .i64 y.op) ∧ w'.cell? ⟨W.heap.size + 1, 1, none⟩ = some (.string y.name) ∧ w'.cell? ⟨W.heap.size + 1, 2, none⟩ = some (.int .i64 y.cmp) ∧ w'.cell? ⟨W.heap.size + 1, 3, none⟩ = some (.int .i64 y.val) ∧ w'.cell? ⟨W.heap.size + 1, 4, none⟩ = some (.int .i64 y.lo) ∧ w'.cell? ⟨W.heap.size + 1, 5, none⟩ = some (.int .i64 y.hi) ∧ w'.cell? ⟨W.heap.size + 1, 6, none⟩ = some (.slice B js.len d))
      (first | go_keep | (go_split_ands; refine ⟨?_, ?_, ?_, ?_, ?_, ?_, ?_, ?_, ?_, ?_, ?_, ?_, ?_, ?_⟩ <;> first | exact Fr.cell hf2 (by assumption) (fun e => e) | exact Fr.cell hf1 (by assumption) (fun e => e)))
      (first | ((go_at_call 48); refine (HSP.out _ _ _).mono ?_; rintro e w1 ⟨rfl, hf1⟩) | ((go_at_call 47); refine (HTA.out _ ((((Fr.refl _ _).alloc _).alloc _).drew.call hf1 (fun _ h _ => h))).mono ?_; rintro e w2 ⟨rfl, hf2⟩))
    go_wp2_with fail
    go_ret
    exact ⟨rfl, ((((Fr.refl _ _).alloc _).alloc _).drew.call hf1 (fun _ h _ => h)).call hf2 (fun _ h _ => h)⟩
  · have k1 := cat_ok ⟨#[71]⟩ (spanT lo hi) (by rw [sz1]; omega)
    have k2 := cat_ok (⟨#[71]⟩ ++ spanT lo hi) ⟨#[32]⟩ (by simp only [ByteArray.size_append, sz1]; omega)
    have k3 := cat_ok (⟨#[71]⟩ ++ spanT lo hi ++ ⟨#[32]⟩) t0 (by simp only [ByteArray.size_append, sz1]; omega)
    rw [show signT ⟨10, nm, cm, va, lo, hi⟩ = ⟨#[71]⟩ ++ spanT lo hi ++ ⟨#[32]⟩ from rfl]
    generalize spanT lo hi = sp at *
    clear hsz0 ht0 hss
    go_enter Tryd.func32, Tryd.ntmps32
    go_wp2_with fail
    go_region_held3 (fun w' => w'.cell? ⟨W.heap.size, 0, none⟩ = some (.int .i64 10) ∧ w'.cell? ⟨W.heap.size, 1, none⟩ = some (.string nm) ∧ w'.cell? ⟨W.heap.size, 2, none⟩ = some (.int .i64 cm) ∧ w'.cell? ⟨W.heap.size, 3, none⟩ = some (.int .i64 va) ∧ w'.cell? ⟨W.heap.size, 4, none⟩ = some (.int .i64 lo) ∧ w'.cell? ⟨W.heap.size, 5, none⟩ = some (.int .i64 hi) ∧ w'.cell? ⟨W.heap.size, 6, none⟩ = some (.slice (some ⟨b, off, none⟩) 1 c) ∧
        w'.cell? ⟨W.heap.size + 1, 0, none⟩ = some (.int .i64 y.op) ∧ w'.cell? ⟨W.heap.size + 1, 1, none⟩ = some (.string y.name) ∧ w'.cell? ⟨W.heap.size + 1, 2, none⟩ = some (.int .i64 y.cmp) ∧ w'.cell? ⟨W.heap.size + 1, 3, none⟩ = some (.int .i64 y.val) ∧ w'.cell? ⟨W.heap.size + 1, 4, none⟩ = some (.int .i64 y.lo) ∧ w'.cell? ⟨W.heap.size + 1, 5, none⟩ = some (.int .i64 y.hi) ∧ w'.cell? ⟨W.heap.size + 1, 6, none⟩ = some (.slice B js.len d))
      (first | go_keep | (go_split_ands; refine ⟨?_, ?_, ?_, ?_, ?_, ?_, ?_, ?_, ?_, ?_, ?_, ?_, ?_, ?_⟩ <;> first | exact Fr.cell hf2 (by assumption) (fun e => e) | exact Fr.cell hf1 (by assumption) (fun e => e)))
      (first | ((go_at_call 48); refine (HSP.out _ _ _).mono ?_; rintro e w1 ⟨rfl, hf1⟩) | ((go_at_call 47); refine (HTA.out _ ((((Fr.refl _ _).alloc _).alloc _).drew.call hf1 (fun _ h _ => h))).mono ?_; rintro e w2 ⟨rfl, hf2⟩))
    go_wp2_with fail
    go_ret
    exact ⟨rfl, ((((Fr.refl _ _).alloc _).alloc _).drew.call hf1 (fun _ h _ => h)).call hf2 (fun _ h _ => h)⟩
set_option maxRecDepth 100000 in
set_option maxHeartbeats 8000000 in
theorem text_two (N : Nat) (W : World) (x : Nd) (A : Option Addr) (c : Nat) (ks : Fo) (hok : TxOk x ks) (hs : FoSl N W A c ks) (h0 : ¬ kidsN x.op = 0) (h1 : ¬ kidsN x.op = 1)
    (ih : ∀ y B d (js : Fo), TxOk y js → js.tr.size < ks.tr.size → ∀ W2, Fr Nob W W2 → FoSl N W2 B d js → TextAt y B d js W2) : TextAt x A c ks W := by
  have hop := wrong_op hok.wr
  have h2 := kidsN_two h0 h1
  obtain ⟨b, off, y, B, d, js, rs, K⟩ := hs.kid (k := 0) (by omega)
  obtain ⟨b', off', z, D, g, ls, rs', K'⟩ := hs.kid (k := 1) (by omega)
  have hok0 := hok.kid K.get
  have hok1 := hok.kid K'.get
  have HR := Lib.hid (textT_two h0 h1 (kid0_of K.get) (kid1_of K'.get))
  have HTA := Lib.hid (fun W' (hf : Fr Nob W W') => ref_at W' y B d js.len (pl0 x.op) (textT y js.tr) hok0.text (fun W2 hf2 => ih y B d js hok0 (by have := K.size; omega) W2 (hf.call hf2 (fun _ h _ => h)) (K.sl.fr (hf.call hf2 (fun _ h _ => h)))))
  have HTB := Lib.hid (fun W' (hf : Fr Nob W W') => ref_at W' z D g ls.len (pl1 x.op) (textT z ls.tr) hok1.text (fun W2 hf2 => ih z D g ls hok1 (by have := K'.size; omega) W2 (hf.call hf2 (fun _ h _ => h)) (K'.sl.fr (hf.call hf2 (fun _ h _ => h)))))
  have hsz0 := wrapT_size (pl0 x.op) (y.op, textT y js.tr)
  have hsz1 := wrapT_size (pl1 x.op) (z.op, textT z ls.tr)
  have ht0 := hok0.text
  have ht1 := hok1.text
  simp only at hsz0 hsz1
  obtain ⟨d0, d1, d2, d3, d4, d5, d6⟩ := K.nd
  obtain ⟨t0, t1, t2, t3, t4, t5, t6⟩ := K'.nd
  simp only [Nat.zero_mul, Nat.one_mul, Nat.add_zero] at d0 d1 d2 d3 d4 d5 d6 t0 t1 t2 t3 t4 t5 t6
  have hA := K.slice
  have hA' := K'.slice
  subst hA
  simp only [Option.some.injEq, Addr.mk.injEq, and_true] at hA'
  obtain ⟨rfl, rfl⟩ := hA'
  have HKN := Lib.hid (show ks.len = 2 by rw [hop.2.2, h2])
  have HSP := Lib.hid (fun W' n c => ref_span W' x (some ⟨b, off, none⟩) n c hok.nd.lo hok.nd.hi)
  have hbl := K.lt
  have hss := spanT_size hok.nd.lo hok.nd.hi
  have HO := Lib.hid (op_two ⟨hop.1, hop.2.1⟩ h0 h1)
  unfold TextAt
  rw [HR.out, HKN.out]
  clear K K' hs ih h0 h1 h2 HR HKN hop hok hok0 hok1
  unfold fval at *
  obtain ⟨op, nm, cm, va, lo, hi⟩ := x
  have ho := HO.out
  simp only at ho hss HSP HTA HTB hsz0 hsz1 ⊢
  clear HO
  generalize wrapT (pl0 op) (y.op, textT y js.tr) = u0 at *
  generalize wrapT (pl1 op) (z.op, textT z ls.tr) = u1 at *
  have hu0 : u0.size ≤ 1000062 := by omega
  have hu1 : u1.size ≤ 1000062 := by omega
  clear hsz0 hsz1 ht0 ht1
  rcases ho with rfl | rfl | rfl | rfl | rfl | rfl
  · rw [show pl0 5 = 4 from rfl] at HTA
    rw [show pl1 5 = 5 from rfl] at HTB
    rw [show (ByteArray.mk #[32] ++ signT ⟨5, nm, cm, va, lo, hi⟩ ++ ByteArray.mk #[32]) = ⟨#[32, 38, 32]⟩ from rfl]
    have k1 := cat_ok u0 ⟨#[32, 38, 32]⟩ (by rw [show (ByteArray.mk #[32, 38, 32]).size = 3 from rfl]; omega)
    have k2 := cat_ok (u0 ++ ⟨#[32, 38, 32]⟩) u1 (by simp only [ByteArray.size_append]; rw [show (ByteArray.mk #[32, 38, 32]).size = 3 from rfl]; omega)
    clear hu0 hu1 hss HSP
    as_aux_lemma =>
      go_enter Tryd.func32, Tryd.ntmps32
      go_wp2_with fail
      have g0 : Blk (((W.alloc (.cells #[.int .i64 5, .string nm, .int .i64 cm, .int .i64 va, .int .i64 lo, .int .i64 hi, .slice (some ⟨b, off, none⟩) 2 c] 33)).alloc (.cells #[.int .i64 y.op, .string y.name, .int .i64 y.cmp, .int .i64 y.val, .int .i64 y.lo, .int .i64 y.hi, .slice B js.len d] 33)).alloc (.cells #[.int .i64 z.op, .string z.name, .int .i64 z.cmp, .int .i64 z.val, .int .i64 z.lo, .int .i64 z.hi, .slice D ls.len g] 33)) W.heap.size 33 _ := ((Blk.new _ _ _).alloc _).alloc _
      have g1 : Blk (((W.alloc (.cells #[.int .i64 5, .string nm, .int .i64 cm, .int .i64 va, .int .i64 lo, .int .i64 hi, .slice (some ⟨b, off, none⟩) 2 c] 33)).alloc (.cells #[.int .i64 y.op, .string y.name, .int .i64 y.cmp, .int .i64 y.val, .int .i64 y.lo, .int .i64 y.hi, .slice B js.len d] 33)).alloc (.cells #[.int .i64 z.op, .string z.name, .int .i64 z.cmp, .int .i64 z.val, .int .i64 z.lo, .int .i64 z.hi, .slice D ls.len g] 33)) (W.heap.size + 1) 33 _ := (Blk.new_eq (by simp)).alloc _
      have g2 : Blk (((W.alloc (.cells #[.int .i64 5, .string nm, .int .i64 cm, .int .i64 va, .int .i64 lo, .int .i64 hi, .slice (some ⟨b, off, none⟩) 2 c] 33)).alloc (.cells #[.int .i64 y.op, .string y.name, .int .i64 y.cmp, .int .i64 y.val, .int .i64 y.lo, .int .i64 y.hi, .slice B js.len d] 33)).alloc (.cells #[.int .i64 z.op, .string z.name, .int .i64 z.cmp, .int .i64 z.val, .int .i64 z.lo, .int .i64 z.hi, .slice D ls.len g] 33)) (W.heap.size + 1 + 1) 33 _ := Blk.new_eq (by simp)
      have gf : Fr Nob W (((W.alloc (.cells #[.int .i64 5, .string nm, .int .i64 cm, .int .i64 va, .int .i64 lo, .int .i64 hi, .slice (some ⟨b, off, none⟩) 2 c] 33)).alloc (.cells #[.int .i64 y.op, .string y.name, .int .i64 y.cmp, .int .i64 y.val, .int .i64 y.lo, .int .i64 y.hi, .slice B js.len d] 33)).alloc (.cells #[.int .i64 z.op, .string z.name, .int .i64 z.cmp, .int .i64 z.val, .int .i64 z.lo, .int .i64 z.hi, .slice D ls.len g] 33)) := (((Fr.refl _ _).alloc _).alloc _).alloc _
      generalize ((W.alloc (.cells #[.int .i64 5, .string nm, .int .i64 cm, .int .i64 va, .int .i64 lo, .int .i64 hi, .slice (some ⟨b, off, none⟩) 2 c] 33)).alloc (.cells #[.int .i64 y.op, .string y.name, .int .i64 y.cmp, .int .i64 y.val, .int .i64 y.lo, .int .i64 y.hi, .slice B js.len d] 33)).alloc (.cells #[.int .i64 z.op, .string z.name, .int .i64 z.cmp, .int .i64 z.val, .int .i64 z.lo, .int .i64 z.hi, .slice D ls.len g] 33) = W3 at *
      have q00 := g0.cell 0
      have q01 := g0.cell 1
      have q02 := g0.cell 2
      have q03 := g0.cell 3
      have q04 := g0.cell 4
      have q05 := g0.cell 5
      have q06 := g0.cell 6
      have q10 := g1.cell 0
      have q11 := g1.cell 1
      have q12 := g1.cell 2
      have q13 := g1.cell 3
      have q14 := g1.cell 4
      have q15 := g1.cell 5
      have q16 := g1.cell 6
      have q20 := g2.cell 0
      have q21 := g2.cell 1
      have q22 := g2.cell 2
      have q23 := g2.cell 3
      have q24 := g2.cell 4
      have q25 := g2.cell 5
      have q26 := g2.cell 6
      simp only [List.getElem?_toArray, List.getElem?_cons_zero, List.getElem?_cons_succ] at q00 q01 q02 q03 q04 q05 q06 q10 q11 q12 q13 q14 q15 q16 q20 q21 q22 q23 q24 q25 q26
      have HGF := Lib.hid gf
      clear gf g0 g1 g2 d0 d1 d2 d3 d4 d5 d6 t0 t1 t2 t3 t4 t5 t6
      go_region_held3 (fun w' => w'.cell? ⟨W.heap.size + 1, 0, none⟩ = some (.int .i64 y.op) ∧ w'.cell? ⟨W.heap.size + 1, 1, none⟩ = some (.string y.name) ∧ w'.cell? ⟨W.heap.size + 1, 2, none⟩ = some (.int .i64 y.cmp) ∧ w'.cell? ⟨W.heap.size + 1, 3, none⟩ = some (.int .i64 y.val) ∧ w'.cell? ⟨W.heap.size + 1, 4, none⟩ = some (.int .i64 y.lo) ∧ w'.cell? ⟨W.heap.size + 1, 5, none⟩ = some (.int .i64 y.hi) ∧ w'.cell? ⟨W.heap.size + 1, 6, none⟩ = some (.slice B js.len d) ∧
          w'.cell? ⟨W.heap.size + 1 + 1, 0, none⟩ = some (.int .i64 z.op) ∧ w'.cell? ⟨W.heap.size + 1 + 1, 1, none⟩ = some (.string z.name) ∧ w'.cell? ⟨W.heap.size + 1 + 1, 2, none⟩ = some (.int .i64 z.cmp) ∧ w'.cell? ⟨W.heap.size + 1 + 1, 3, none⟩ = some (.int .i64 z.val) ∧ w'.cell? ⟨W.heap.size + 1 + 1, 4, none⟩ = some (.int .i64 z.lo) ∧ w'.cell? ⟨W.heap.size + 1 + 1, 5, none⟩ = some (.int .i64 z.hi) ∧ w'.cell? ⟨W.heap.size + 1 + 1, 6, none⟩ = some (.slice D ls.len g))
        (first | go_keep | (go_split_ands; refine ⟨?_, ?_, ?_, ?_, ?_, ?_, ?_, ?_, ?_, ?_, ?_, ?_, ?_, ?_⟩ <;> first | exact Fr.cell hf3 (by assumption) (fun e => e) | exact Fr.cell hf2 (by assumption) (fun e => e) | exact Fr.cell hf1 (by assumption) (fun e => e)))
        (first | ((go_at_call 47); with_reducible refine (HTA.out _ HGF.out.drew).mono ?_; rintro e w2 ⟨rfl, hf1⟩) | ((go_at_call 47); refine (HTB.out _ (HGF.out.drew.call hf1 (fun _ h _ => h))).mono ?_; rintro e w2 ⟨rfl, hf2⟩))
      go_wp2_with fail
      go_ret
      exact ⟨rfl, (HGF.out.drew.call hf1 (fun _ h _ => h)).call hf2 (fun _ h _ => h)⟩
  · rw [show pl0 6 = 3 from rfl] at HTA
    rw [show pl1 6 = 4 from rfl] at HTB
    rw [show (ByteArray.mk #[32] ++ signT ⟨6, nm, cm, va, lo, hi⟩ ++ ByteArray.mk #[32]) = ⟨#[32, 124, 32]⟩ from rfl]
    have k1 := cat_ok u0 ⟨#[32, 124, 32]⟩ (by rw [show (ByteArray.mk #[32, 124, 32]).size = 3 from rfl]; omega)
    have k2 := cat_ok (u0 ++ ⟨#[32, 124, 32]⟩) u1 (by simp only [ByteArray.size_append]; rw [show (ByteArray.mk #[32, 124, 32]).size = 3 from rfl]; omega)
    clear hu0 hu1 hss HSP
    as_aux_lemma =>
      go_enter Tryd.func32, Tryd.ntmps32
      go_wp2_with fail
      have g0 : Blk (((W.alloc (.cells #[.int .i64 6, .string nm, .int .i64 cm, .int .i64 va, .int .i64 lo, .int .i64 hi, .slice (some ⟨b, off, none⟩) 2 c] 33)).alloc (.cells #[.int .i64 y.op, .string y.name, .int .i64 y.cmp, .int .i64 y.val, .int .i64 y.lo, .int .i64 y.hi, .slice B js.len d] 33)).alloc (.cells #[.int .i64 z.op, .string z.name, .int .i64 z.cmp, .int .i64 z.val, .int .i64 z.lo, .int .i64 z.hi, .slice D ls.len g] 33)) W.heap.size 33 _ := ((Blk.new _ _ _).alloc _).alloc _
      have g1 : Blk (((W.alloc (.cells #[.int .i64 6, .string nm, .int .i64 cm, .int .i64 va, .int .i64 lo, .int .i64 hi, .slice (some ⟨b, off, none⟩) 2 c] 33)).alloc (.cells #[.int .i64 y.op, .string y.name, .int .i64 y.cmp, .int .i64 y.val, .int .i64 y.lo, .int .i64 y.hi, .slice B js.len d] 33)).alloc (.cells #[.int .i64 z.op, .string z.name, .int .i64 z.cmp, .int .i64 z.val, .int .i64 z.lo, .int .i64 z.hi, .slice D ls.len g] 33)) (W.heap.size + 1) 33 _ := (Blk.new_eq (by simp)).alloc _
      have g2 : Blk (((W.alloc (.cells #[.int .i64 6, .string nm, .int .i64 cm, .int .i64 va, .int .i64 lo, .int .i64 hi, .slice (some ⟨b, off, none⟩) 2 c] 33)).alloc (.cells #[.int .i64 y.op, .string y.name, .int .i64 y.cmp, .int .i64 y.val, .int .i64 y.lo, .int .i64 y.hi, .slice B js.len d] 33)).alloc (.cells #[.int .i64 z.op, .string z.name, .int .i64 z.cmp, .int .i64 z.val, .int .i64 z.lo, .int .i64 z.hi, .slice D ls.len g] 33)) (W.heap.size + 1 + 1) 33 _ := Blk.new_eq (by simp)
      have gf : Fr Nob W (((W.alloc (.cells #[.int .i64 6, .string nm, .int .i64 cm, .int .i64 va, .int .i64 lo, .int .i64 hi, .slice (some ⟨b, off, none⟩) 2 c] 33)).alloc (.cells #[.int .i64 y.op, .string y.name, .int .i64 y.cmp, .int .i64 y.val, .int .i64 y.lo, .int .i64 y.hi, .slice B js.len d] 33)).alloc (.cells #[.int .i64 z.op, .string z.name, .int .i64 z.cmp, .int .i64 z.val, .int .i64 z.lo, .int .i64 z.hi, .slice D ls.len g] 33)) := (((Fr.refl _ _).alloc _).alloc _).alloc _
      generalize ((W.alloc (.cells #[.int .i64 6, .string nm, .int .i64 cm, .int .i64 va, .int .i64 lo, .int .i64 hi, .slice (some ⟨b, off, none⟩) 2 c] 33)).alloc (.cells #[.int .i64 y.op, .string y.name, .int .i64 y.cmp, .int .i64 y.val, .int .i64 y.lo, .int .i64 y.hi, .slice B js.len d] 33)).alloc (.cells #[.int .i64 z.op, .string z.name, .int .i64 z.cmp, .int .i64 z.val, .int .i64 z.lo, .int .i64 z.hi, .slice D ls.len g] 33) = W3 at *
      have q00 := g0.cell 0
      have q01 := g0.cell 1
      have q02 := g0.cell 2
      have q03 := g0.cell 3
      have q04 := g0.cell 4
      have q05 := g0.cell 5
      have q06 := g0.cell 6
      have q10 := g1.cell 0
      have q11 := g1.cell 1
      have q12 := g1.cell 2
      have q13 := g1.cell 3
      have q14 := g1.cell 4
      have q15 := g1.cell 5
      have q16 := g1.cell 6
      have q20 := g2.cell 0
      have q21 := g2.cell 1
      have q22 := g2.cell 2
      have q23 := g2.cell 3
      have q24 := g2.cell 4
      have q25 := g2.cell 5
      have q26 := g2.cell 6
      simp only [List.getElem?_toArray, List.getElem?_cons_zero, List.getElem?_cons_succ] at q00 q01 q02 q03 q04 q05 q06 q10 q11 q12 q13 q14 q15 q16 q20 q21 q22 q23 q24 q25 q26
      have HGF := Lib.hid gf
      clear gf g0 g1 g2 d0 d1 d2 d3 d4 d5 d6 t0 t1 t2 t3 t4 t5 t6
      go_region_held3 (fun w' => w'.cell? ⟨W.heap.size + 1, 0, none⟩ = some (.int .i64 y.op) ∧ w'.cell? ⟨W.heap.size + 1, 1, none⟩ = some (.string y.name) ∧ w'.cell? ⟨W.heap.size + 1, 2, none⟩ = some (.int .i64 y.cmp) ∧ w'.cell? ⟨W.heap.size + 1, 3, none⟩ = some (.int .i64 y.val) ∧ w'.cell? ⟨W.heap.size + 1, 4, none⟩ = some (.int .i64 y.lo) ∧ w'.cell? ⟨W.heap.size + 1, 5, none⟩ = some (.int .i64 y.hi) ∧ w'.cell? ⟨W.heap.size + 1, 6, none⟩ = some (.slice B js.len d) ∧
          w'.cell? ⟨W.heap.size + 1 + 1, 0, none⟩ = some (.int .i64 z.op) ∧ w'.cell? ⟨W.heap.size + 1 + 1, 1, none⟩ = some (.string z.name) ∧ w'.cell? ⟨W.heap.size + 1 + 1, 2, none⟩ = some (.int .i64 z.cmp) ∧ w'.cell? ⟨W.heap.size + 1 + 1, 3, none⟩ = some (.int .i64 z.val) ∧ w'.cell? ⟨W.heap.size + 1 + 1, 4, none⟩ = some (.int .i64 z.lo) ∧ w'.cell? ⟨W.heap.size + 1 + 1, 5, none⟩ = some (.int .i64 z.hi) ∧ w'.cell? ⟨W.heap.size + 1 + 1, 6, none⟩ = some (.slice D ls.len g))
        (first | go_keep | (go_split_ands; refine ⟨?_, ?_, ?_, ?_, ?_, ?_, ?_, ?_, ?_, ?_, ?_, ?_, ?_, ?_⟩ <;> first | exact Fr.cell hf3 (by assumption) (fun e => e) | exact Fr.cell hf2 (by assumption) (fun e => e) | exact Fr.cell hf1 (by assumption) (fun e => e)))
        (first | ((go_at_call 47); with_reducible refine (HTA.out _ HGF.out.drew).mono ?_; rintro e w2 ⟨rfl, hf1⟩) | ((go_at_call 47); refine (HTB.out _ (HGF.out.drew.call hf1 (fun _ h _ => h))).mono ?_; rintro e w2 ⟨rfl, hf2⟩))
      go_wp2_with fail
      go_ret
      exact ⟨rfl, (HGF.out.drew.call hf1 (fun _ h _ => h)).call hf2 (fun _ h _ => h)⟩
  · rw [show pl0 7 = 3 from rfl] at HTA
    rw [show pl1 7 = 2 from rfl] at HTB
    rw [show (ByteArray.mk #[32] ++ signT ⟨7, nm, cm, va, lo, hi⟩ ++ ByteArray.mk #[32]) = ⟨#[32, 45, 62, 32]⟩ from rfl]
    have k1 := cat_ok u0 ⟨#[32, 45, 62, 32]⟩ (by rw [show (ByteArray.mk #[32, 45, 62, 32]).size = 4 from rfl]; omega)
    have k2 := cat_ok (u0 ++ ⟨#[32, 45, 62, 32]⟩) u1 (by simp only [ByteArray.size_append]; rw [show (ByteArray.mk #[32, 45, 62, 32]).size = 4 from rfl]; omega)
    clear hu0 hu1 hss HSP
    as_aux_lemma =>
      go_enter Tryd.func32, Tryd.ntmps32
      go_wp2_with fail
      have g0 : Blk (((W.alloc (.cells #[.int .i64 7, .string nm, .int .i64 cm, .int .i64 va, .int .i64 lo, .int .i64 hi, .slice (some ⟨b, off, none⟩) 2 c] 33)).alloc (.cells #[.int .i64 y.op, .string y.name, .int .i64 y.cmp, .int .i64 y.val, .int .i64 y.lo, .int .i64 y.hi, .slice B js.len d] 33)).alloc (.cells #[.int .i64 z.op, .string z.name, .int .i64 z.cmp, .int .i64 z.val, .int .i64 z.lo, .int .i64 z.hi, .slice D ls.len g] 33)) W.heap.size 33 _ := ((Blk.new _ _ _).alloc _).alloc _
      have g1 : Blk (((W.alloc (.cells #[.int .i64 7, .string nm, .int .i64 cm, .int .i64 va, .int .i64 lo, .int .i64 hi, .slice (some ⟨b, off, none⟩) 2 c] 33)).alloc (.cells #[.int .i64 y.op, .string y.name, .int .i64 y.cmp, .int .i64 y.val, .int .i64 y.lo, .int .i64 y.hi, .slice B js.len d] 33)).alloc (.cells #[.int .i64 z.op, .string z.name, .int .i64 z.cmp, .int .i64 z.val, .int .i64 z.lo, .int .i64 z.hi, .slice D ls.len g] 33)) (W.heap.size + 1) 33 _ := (Blk.new_eq (by simp)).alloc _
      have g2 : Blk (((W.alloc (.cells #[.int .i64 7, .string nm, .int .i64 cm, .int .i64 va, .int .i64 lo, .int .i64 hi, .slice (some ⟨b, off, none⟩) 2 c] 33)).alloc (.cells #[.int .i64 y.op, .string y.name, .int .i64 y.cmp, .int .i64 y.val, .int .i64 y.lo, .int .i64 y.hi, .slice B js.len d] 33)).alloc (.cells #[.int .i64 z.op, .string z.name, .int .i64 z.cmp, .int .i64 z.val, .int .i64 z.lo, .int .i64 z.hi, .slice D ls.len g] 33)) (W.heap.size + 1 + 1) 33 _ := Blk.new_eq (by simp)
      have gf : Fr Nob W (((W.alloc (.cells #[.int .i64 7, .string nm, .int .i64 cm, .int .i64 va, .int .i64 lo, .int .i64 hi, .slice (some ⟨b, off, none⟩) 2 c] 33)).alloc (.cells #[.int .i64 y.op, .string y.name, .int .i64 y.cmp, .int .i64 y.val, .int .i64 y.lo, .int .i64 y.hi, .slice B js.len d] 33)).alloc (.cells #[.int .i64 z.op, .string z.name, .int .i64 z.cmp, .int .i64 z.val, .int .i64 z.lo, .int .i64 z.hi, .slice D ls.len g] 33)) := (((Fr.refl _ _).alloc _).alloc _).alloc _
      generalize ((W.alloc (.cells #[.int .i64 7, .string nm, .int .i64 cm, .int .i64 va, .int .i64 lo, .int .i64 hi, .slice (some ⟨b, off, none⟩) 2 c] 33)).alloc (.cells #[.int .i64 y.op, .string y.name, .int .i64 y.cmp, .int .i64 y.val, .int .i64 y.lo, .int .i64 y.hi, .slice B js.len d] 33)).alloc (.cells #[.int .i64 z.op, .string z.name, .int .i64 z.cmp, .int .i64 z.val, .int .i64 z.lo, .int .i64 z.hi, .slice D ls.len g] 33) = W3 at *
      have q00 := g0.cell 0
      have q01 := g0.cell 1
      have q02 := g0.cell 2
      have q03 := g0.cell 3
      have q04 := g0.cell 4
      have q05 := g0.cell 5
      have q06 := g0.cell 6
      have q10 := g1.cell 0
      have q11 := g1.cell 1
      have q12 := g1.cell 2
      have q13 := g1.cell 3
      have q14 := g1.cell 4
      have q15 := g1.cell 5
      have q16 := g1.cell 6
      have q20 := g2.cell 0
      have q21 := g2.cell 1
      have q22 := g2.cell 2
      have q23 := g2.cell 3
      have q24 := g2.cell 4
      have q25 := g2.cell 5
      have q26 := g2.cell 6
      simp only [List.getElem?_toArray, List.getElem?_cons_zero, List.getElem?_cons_succ] at q00 q01 q02 q03 q04 q05 q06 q10 q11 q12 q13 q14 q15 q16 q20 q21 q22 q23 q24 q25 q26
      have HGF := Lib.hid gf
      clear gf g0 g1 g2 d0 d1 d2 d3 d4 d5 d6 t0 t1 t2 t3 t4 t5 t6
      go_region_held3 (fun w' => w'.cell? ⟨W.heap.size + 1, 0, none⟩ = some (.int .i64 y.op) ∧ w'.cell? ⟨W.heap.size + 1, 1, none⟩ = some (.string y.name) ∧ w'.cell? ⟨W.heap.size + 1, 2, none⟩ = some (.int .i64 y.cmp) ∧ w'.cell? ⟨W.heap.size + 1, 3, none⟩ = some (.int .i64 y.val) ∧ w'.cell? ⟨W.heap.size + 1, 4, none⟩ = some (.int .i64 y.lo) ∧ w'.cell? ⟨W.heap.size + 1, 5, none⟩ = some (.int .i64 y.hi) ∧ w'.cell? ⟨W.heap.size + 1, 6, none⟩ = some (.slice B js.len d) ∧
          w'.cell? ⟨W.heap.size + 1 + 1, 0, none⟩ = some (.int .i64 z.op) ∧ w'.cell? ⟨W.heap.size + 1 + 1, 1, none⟩ = some (.string z.name) ∧ w'.cell? ⟨W.heap.size + 1 + 1, 2, none⟩ = some (.int .i64 z.cmp) ∧ w'.cell? ⟨W.heap.size + 1 + 1, 3, none⟩ = some (.int .i64 z.val) ∧ w'.cell? ⟨W.heap.size + 1 + 1, 4, none⟩ = some (.int .i64 z.lo) ∧ w'.cell? ⟨W.heap.size + 1 + 1, 5, none⟩ = some (.int .i64 z.hi) ∧ w'.cell? ⟨W.heap.size + 1 + 1, 6, none⟩ = some (.slice D ls.len g))
        (first | go_keep | (go_split_ands; refine ⟨?_, ?_, ?_, ?_, ?_, ?_, ?_, ?_, ?_, ?_, ?_, ?_, ?_, ?_⟩ <;> first | exact Fr.cell hf3 (by assumption) (fun e => e) | exact Fr.cell hf2 (by assumption) (fun e => e) | exact Fr.cell hf1 (by assumption) (fun e => e)))
        (first | ((go_at_call 47); with_reducible refine (HTA.out _ HGF.out.drew).mono ?_; rintro e w2 ⟨rfl, hf1⟩) | ((go_at_call 47); refine (HTB.out _ (HGF.out.drew.call hf1 (fun _ h _ => h))).mono ?_; rintro e w2 ⟨rfl, hf2⟩))
      go_wp2_with fail
      go_ret
      exact ⟨rfl, (HGF.out.drew.call hf1 (fun _ h _ => h)).call hf2 (fun _ h _ => h)⟩
  · rw [show pl0 8 = 1 from rfl] at HTA
    rw [show pl1 8 = 2 from rfl] at HTB
    rw [show (ByteArray.mk #[32] ++ signT ⟨8, nm, cm, va, lo, hi⟩ ++ ByteArray.mk #[32]) = ⟨#[32, 60, 45, 62, 32]⟩ from rfl]
    have k1 := cat_ok u0 ⟨#[32, 60, 45, 62, 32]⟩ (by rw [show (ByteArray.mk #[32, 60, 45, 62, 32]).size = 5 from rfl]; omega)
    have k2 := cat_ok (u0 ++ ⟨#[32, 60, 45, 62, 32]⟩) u1 (by simp only [ByteArray.size_append]; rw [show (ByteArray.mk #[32, 60, 45, 62, 32]).size = 5 from rfl]; omega)
    clear hu0 hu1 hss HSP
    as_aux_lemma =>
      go_enter Tryd.func32, Tryd.ntmps32
      go_wp2_with fail
      have g0 : Blk (((W.alloc (.cells #[.int .i64 8, .string nm, .int .i64 cm, .int .i64 va, .int .i64 lo, .int .i64 hi, .slice (some ⟨b, off, none⟩) 2 c] 33)).alloc (.cells #[.int .i64 y.op, .string y.name, .int .i64 y.cmp, .int .i64 y.val, .int .i64 y.lo, .int .i64 y.hi, .slice B js.len d] 33)).alloc (.cells #[.int .i64 z.op, .string z.name, .int .i64 z.cmp, .int .i64 z.val, .int .i64 z.lo, .int .i64 z.hi, .slice D ls.len g] 33)) W.heap.size 33 _ := ((Blk.new _ _ _).alloc _).alloc _
      have g1 : Blk (((W.alloc (.cells #[.int .i64 8, .string nm, .int .i64 cm, .int .i64 va, .int .i64 lo, .int .i64 hi, .slice (some ⟨b, off, none⟩) 2 c] 33)).alloc (.cells #[.int .i64 y.op, .string y.name, .int .i64 y.cmp, .int .i64 y.val, .int .i64 y.lo, .int .i64 y.hi, .slice B js.len d] 33)).alloc (.cells #[.int .i64 z.op, .string z.name, .int .i64 z.cmp, .int .i64 z.val, .int .i64 z.lo, .int .i64 z.hi, .slice D ls.len g] 33)) (W.heap.size + 1) 33 _ := (Blk.new_eq (by simp)).alloc _
      have g2 : Blk (((W.alloc (.cells #[.int .i64 8, .string nm, .int .i64 cm, .int .i64 va, .int .i64 lo, .int .i64 hi, .slice (some ⟨b, off, none⟩) 2 c] 33)).alloc (.cells #[.int .i64 y.op, .string y.name, .int .i64 y.cmp, .int .i64 y.val, .int .i64 y.lo, .int .i64 y.hi, .slice B js.len d] 33)).alloc (.cells #[.int .i64 z.op, .string z.name, .int .i64 z.cmp, .int .i64 z.val, .int .i64 z.lo, .int .i64 z.hi, .slice D ls.len g] 33)) (W.heap.size + 1 + 1) 33 _ := Blk.new_eq (by simp)
      have gf : Fr Nob W (((W.alloc (.cells #[.int .i64 8, .string nm, .int .i64 cm, .int .i64 va, .int .i64 lo, .int .i64 hi, .slice (some ⟨b, off, none⟩) 2 c] 33)).alloc (.cells #[.int .i64 y.op, .string y.name, .int .i64 y.cmp, .int .i64 y.val, .int .i64 y.lo, .int .i64 y.hi, .slice B js.len d] 33)).alloc (.cells #[.int .i64 z.op, .string z.name, .int .i64 z.cmp, .int .i64 z.val, .int .i64 z.lo, .int .i64 z.hi, .slice D ls.len g] 33)) := (((Fr.refl _ _).alloc _).alloc _).alloc _
      generalize ((W.alloc (.cells #[.int .i64 8, .string nm, .int .i64 cm, .int .i64 va, .int .i64 lo, .int .i64 hi, .slice (some ⟨b, off, none⟩) 2 c] 33)).alloc (.cells #[.int .i64 y.op, .string y.name, .int .i64 y.cmp, .int .i64 y.val, .int .i64 y.lo, .int .i64 y.hi, .slice B js.len d] 33)).alloc (.cells #[.int .i64 z.op, .string z.name, .int .i64 z.cmp, .int .i64 z.val, .int .i64 z.lo, .int .i64 z.hi, .slice D ls.len g] 33) = W3 at *
      have q00 := g0.cell 0
      have q01 := g0.cell 1
      have q02 := g0.cell 2
      have q03 := g0.cell 3
      have q04 := g0.cell 4
      have q05 := g0.cell 5
      have q06 := g0.cell 6
      have q10 := g1.cell 0
      have q11 := g1.cell 1
      have q12 := g1.cell 2
      have q13 := g1.cell 3
      have q14 := g1.cell 4
      have q15 := g1.cell 5
      have q16 := g1.cell 6
      have q20 := g2.cell 0
      have q21 := g2.cell 1
      have q22 := g2.cell 2
      have q23 := g2.cell 3
      have q24 := g2.cell 4
      have q25 := g2.cell 5
      have q26 := g2.cell 6
      simp only [List.getElem?_toArray, List.getElem?_cons_zero, List.getElem?_cons_succ] at q00 q01 q02 q03 q04 q05 q06 q10 q11 q12 q13 q14 q15 q16 q20 q21 q22 q23 q24 q25 q26
      have HGF := Lib.hid gf
      clear gf g0 g1 g2 d0 d1 d2 d3 d4 d5 d6 t0 t1 t2 t3 t4 t5 t6
      go_region_held3 (fun w' => w'.cell? ⟨W.heap.size + 1, 0, none⟩ = some (.int .i64 y.op) ∧ w'.cell? ⟨W.heap.size + 1, 1, none⟩ = some (.string y.name) ∧ w'.cell? ⟨W.heap.size + 1, 2, none⟩ = some (.int .i64 y.cmp) ∧ w'.cell? ⟨W.heap.size + 1, 3, none⟩ = some (.int .i64 y.val) ∧ w'.cell? ⟨W.heap.size + 1, 4, none⟩ = some (.int .i64 y.lo) ∧ w'.cell? ⟨W.heap.size + 1, 5, none⟩ = some (.int .i64 y.hi) ∧ w'.cell? ⟨W.heap.size + 1, 6, none⟩ = some (.slice B js.len d) ∧
          w'.cell? ⟨W.heap.size + 1 + 1, 0, none⟩ = some (.int .i64 z.op) ∧ w'.cell? ⟨W.heap.size + 1 + 1, 1, none⟩ = some (.string z.name) ∧ w'.cell? ⟨W.heap.size + 1 + 1, 2, none⟩ = some (.int .i64 z.cmp) ∧ w'.cell? ⟨W.heap.size + 1 + 1, 3, none⟩ = some (.int .i64 z.val) ∧ w'.cell? ⟨W.heap.size + 1 + 1, 4, none⟩ = some (.int .i64 z.lo) ∧ w'.cell? ⟨W.heap.size + 1 + 1, 5, none⟩ = some (.int .i64 z.hi) ∧ w'.cell? ⟨W.heap.size + 1 + 1, 6, none⟩ = some (.slice D ls.len g))
        (first | go_keep | (go_split_ands; refine ⟨?_, ?_, ?_, ?_, ?_, ?_, ?_, ?_, ?_, ?_, ?_, ?_, ?_, ?_⟩ <;> first | exact Fr.cell hf3 (by assumption) (fun e => e) | exact Fr.cell hf2 (by assumption) (fun e => e) | exact Fr.cell hf1 (by assumption) (fun e => e)))
        (first | ((go_at_call 47); with_reducible refine (HTA.out _ HGF.out.drew).mono ?_; rintro e w2 ⟨rfl, hf1⟩) | ((go_at_call 47); refine (HTB.out _ (HGF.out.drew.call hf1 (fun _ h _ => h))).mono ?_; rintro e w2 ⟨rfl, hf2⟩))
      go_wp2_with fail
      go_ret
      exact ⟨rfl, (HGF.out.drew.call hf1 (fun _ h _ => h)).call hf2 (fun _ h _ => h)⟩
  · rw [show pl0 11 = 6 from rfl] at HTA
    rw [show pl1 11 = 5 from rfl] at HTB
    rw [show signT ⟨11, nm, cm, va, lo, hi⟩ = ⟨#[85]⟩ ++ spanT lo hi from rfl]
    have HAS := Lib.hid (show u0 ++ ⟨#[32, 85]⟩ ++ spanT lo hi ++ ⟨#[32]⟩ ++ u1 = u0 ++ (⟨#[32]⟩ ++ (⟨#[85]⟩ ++ spanT lo hi) ++ ⟨#[32]⟩) ++ u1 by
      rw [show (ByteArray.mk #[32, 85]) = ⟨#[32]⟩ ++ ⟨#[85]⟩ from rfl]; simp only [ByteArray.append_assoc])
    have k1 := cat_ok u0 ⟨#[32, 85]⟩ (by rw [show (ByteArray.mk #[32, 85]).size = 2 from rfl]; omega)
    have k2 := cat_ok (u0 ++ ⟨#[32, 85]⟩) (spanT lo hi) (by simp only [ByteArray.size_append]; rw [show (ByteArray.mk #[32, 85]).size = 2 from rfl]; omega)
    have k3 := cat_ok (u0 ++ ⟨#[32, 85]⟩ ++ spanT lo hi) ⟨#[32]⟩ (by simp only [ByteArray.size_append, sz1]; rw [show (ByteArray.mk #[32, 85]).size = 2 from rfl]; omega)
    have k4 := cat_ok (u0 ++ ⟨#[32, 85]⟩ ++ spanT lo hi ++ ⟨#[32]⟩) u1 (by simp only [ByteArray.size_append, sz1]; rw [show (ByteArray.mk #[32, 85]).size = 2 from rfl]; omega)
    generalize spanT lo hi = sp at *
    clear hu0 hu1 hss
    as_aux_lemma =>
      go_enter Tryd.func32, Tryd.ntmps32
      go_wp2_with fail
      have g0 : Blk (((W.alloc (.cells #[.int .i64 11, .string nm, .int .i64 cm, .int .i64 va, .int .i64 lo, .int .i64 hi, .slice (some ⟨b, off, none⟩) 2 c] 33)).alloc (.cells #[.int .i64 y.op, .string y.name, .int .i64 y.cmp, .int .i64 y.val, .int .i64 y.lo, .int .i64 y.hi, .slice B js.len d] 33)).alloc (.cells #[.int .i64 z.op, .string z.name, .int .i64 z.cmp, .int .i64 z.val, .int .i64 z.lo, .int .i64 z.hi, .slice D ls.len g] 33)) W.heap.size 33 _ := ((Blk.new _ _ _).alloc _).alloc _
      have g1 : Blk (((W.alloc (.cells #[.int .i64 11, .string nm, .int .i64 cm, .int .i64 va, .int .i64 lo, .int .i64 hi, .slice (some ⟨b, off, none⟩) 2 c] 33)).alloc (.cells #[.int .i64 y.op, .string y.name, .int .i64 y.cmp, .int .i64 y.val, .int .i64 y.lo, .int .i64 y.hi, .slice B js.len d] 33)).alloc (.cells #[.int .i64 z.op, .string z.name, .int .i64 z.cmp, .int .i64 z.val, .int .i64 z.lo, .int .i64 z.hi, .slice D ls.len g] 33)) (W.heap.size + 1) 33 _ := (Blk.new_eq (by simp)).alloc _
      have g2 : Blk (((W.alloc (.cells #[.int .i64 11, .string nm, .int .i64 cm, .int .i64 va, .int .i64 lo, .int .i64 hi, .slice (some ⟨b, off, none⟩) 2 c] 33)).alloc (.cells #[.int .i64 y.op, .string y.name, .int .i64 y.cmp, .int .i64 y.val, .int .i64 y.lo, .int .i64 y.hi, .slice B js.len d] 33)).alloc (.cells #[.int .i64 z.op, .string z.name, .int .i64 z.cmp, .int .i64 z.val, .int .i64 z.lo, .int .i64 z.hi, .slice D ls.len g] 33)) (W.heap.size + 1 + 1) 33 _ := Blk.new_eq (by simp)
      have gf : Fr Nob W (((W.alloc (.cells #[.int .i64 11, .string nm, .int .i64 cm, .int .i64 va, .int .i64 lo, .int .i64 hi, .slice (some ⟨b, off, none⟩) 2 c] 33)).alloc (.cells #[.int .i64 y.op, .string y.name, .int .i64 y.cmp, .int .i64 y.val, .int .i64 y.lo, .int .i64 y.hi, .slice B js.len d] 33)).alloc (.cells #[.int .i64 z.op, .string z.name, .int .i64 z.cmp, .int .i64 z.val, .int .i64 z.lo, .int .i64 z.hi, .slice D ls.len g] 33)) := (((Fr.refl _ _).alloc _).alloc _).alloc _
      generalize ((W.alloc (.cells #[.int .i64 11, .string nm, .int .i64 cm, .int .i64 va, .int .i64 lo, .int .i64 hi, .slice (some ⟨b, off, none⟩) 2 c] 33)).alloc (.cells #[.int .i64 y.op, .string y.name, .int .i64 y.cmp, .int .i64 y.val, .int .i64 y.lo, .int .i64 y.hi, .slice B js.len d] 33)).alloc (.cells #[.int .i64 z.op, .string z.name, .int .i64 z.cmp, .int .i64 z.val, .int .i64 z.lo, .int .i64 z.hi, .slice D ls.len g] 33) = W3 at *
      have q00 := g0.cell 0
      have q01 := g0.cell 1
      have q02 := g0.cell 2
      have q03 := g0.cell 3
      have q04 := g0.cell 4
      have q05 := g0.cell 5
      have q06 := g0.cell 6
      have q10 := g1.cell 0
      have q11 := g1.cell 1
      have q12 := g1.cell 2
      have q13 := g1.cell 3
      have q14 := g1.cell 4
      have q15 := g1.cell 5
      have q16 := g1.cell 6
      have q20 := g2.cell 0
      have q21 := g2.cell 1
      have q22 := g2.cell 2
      have q23 := g2.cell 3
      have q24 := g2.cell 4
      have q25 := g2.cell 5
      have q26 := g2.cell 6
      simp only [List.getElem?_toArray, List.getElem?_cons_zero, List.getElem?_cons_succ] at q00 q01 q02 q03 q04 q05 q06 q10 q11 q12 q13 q14 q15 q16 q20 q21 q22 q23 q24 q25 q26
      have HGF := Lib.hid gf
      clear gf g0 g1 g2 d0 d1 d2 d3 d4 d5 d6 t0 t1 t2 t3 t4 t5 t6
      go_region_held3 (fun w' => w'.cell? ⟨W.heap.size, 0, none⟩ = some (.int .i64 11) ∧ w'.cell? ⟨W.heap.size, 1, none⟩ = some (.string nm) ∧ w'.cell? ⟨W.heap.size, 2, none⟩ = some (.int .i64 cm) ∧ w'.cell? ⟨W.heap.size, 3, none⟩ = some (.int .i64 va) ∧ w'.cell? ⟨W.heap.size, 4, none⟩ = some (.int .i64 lo) ∧ w'.cell? ⟨W.heap.size, 5, none⟩ = some (.int .i64 hi) ∧ w'.cell? ⟨W.heap.size, 6, none⟩ = some (.slice (some ⟨b, off, none⟩) 2 c) ∧
          w'.cell? ⟨W.heap.size + 1, 0, none⟩ = some (.int .i64 y.op) ∧ w'.cell? ⟨W.heap.size + 1, 1, none⟩ = some (.string y.name) ∧ w'.cell? ⟨W.heap.size + 1, 2, none⟩ = some (.int .i64 y.cmp) ∧ w'.cell? ⟨W.heap.size + 1, 3, none⟩ = some (.int .i64 y.val) ∧ w'.cell? ⟨W.heap.size + 1, 4, none⟩ = some (.int .i64 y.lo) ∧ w'.cell? ⟨W.heap.size + 1, 5, none⟩ = some (.int .i64 y.hi) ∧ w'.cell? ⟨W.heap.size + 1, 6, none⟩ = some (.slice B js.len d) ∧
          w'.cell? ⟨W.heap.size + 1 + 1, 0, none⟩ = some (.int .i64 z.op) ∧ w'.cell? ⟨W.heap.size + 1 + 1, 1, none⟩ = some (.string z.name) ∧ w'.cell? ⟨W.heap.size + 1 + 1, 2, none⟩ = some (.int .i64 z.cmp) ∧ w'.cell? ⟨W.heap.size + 1 + 1, 3, none⟩ = some (.int .i64 z.val) ∧ w'.cell? ⟨W.heap.size + 1 + 1, 4, none⟩ = some (.int .i64 z.lo) ∧ w'.cell? ⟨W.heap.size + 1 + 1, 5, none⟩ = some (.int .i64 z.hi) ∧ w'.cell? ⟨W.heap.size + 1 + 1, 6, none⟩ = some (.slice D ls.len g))
        (first | go_keep | (go_split_ands; refine ⟨?_, ?_, ?_, ?_, ?_, ?_, ?_, ?_, ?_, ?_, ?_, ?_, ?_, ?_, ?_, ?_, ?_, ?_, ?_, ?_, ?_⟩ <;> first | exact Fr.cell hf3 (by assumption) (fun e => e) | exact Fr.cell hf2 (by assumption) (fun e => e) | exact Fr.cell hf1 (by assumption) (fun e => e)))
        (first | ((go_at_call 48); refine (HSP.out _ _ _).mono ?_; rintro e w1 ⟨rfl, hf2⟩) | ((go_at_call 47); with_reducible refine (HTA.out _ HGF.out.drew).mono ?_; rintro e w2 ⟨rfl, hf1⟩) | ((go_at_call 47); refine (HTB.out _ ((HGF.out.drew.call hf1 (fun _ h _ => h)).call hf2 (fun _ h _ => h))).mono ?_; rintro e w2 ⟨rfl, hf3⟩))
      go_wp2_with fail
      go_ret
      exact ⟨by rw [HAS.out]; rfl, ((HGF.out.drew.call hf1 (fun _ h _ => h)).call hf2 (fun _ h _ => h)).call hf3 (fun _ h _ => h)⟩
  · rw [show pl0 12 = 6 from rfl] at HTA
    rw [show pl1 12 = 5 from rfl] at HTB
    rw [show signT ⟨12, nm, cm, va, lo, hi⟩ = ⟨#[82]⟩ ++ spanT lo hi from rfl]
    have HAS := Lib.hid (show u0 ++ ⟨#[32, 82]⟩ ++ spanT lo hi ++ ⟨#[32]⟩ ++ u1 = u0 ++ (⟨#[32]⟩ ++ (⟨#[82]⟩ ++ spanT lo hi) ++ ⟨#[32]⟩) ++ u1 by
      rw [show (ByteArray.mk #[32, 82]) = ⟨#[32]⟩ ++ ⟨#[82]⟩ from rfl]; simp only [ByteArray.append_assoc])
    have k1 := cat_ok u0 ⟨#[32, 82]⟩ (by rw [show (ByteArray.mk #[32, 82]).size = 2 from rfl]; omega)
    have k2 := cat_ok (u0 ++ ⟨#[32, 82]⟩) (spanT lo hi) (by simp only [ByteArray.size_append]; rw [show (ByteArray.mk #[32, 82]).size = 2 from rfl]; omega)
    have k3 := cat_ok (u0 ++ ⟨#[32, 82]⟩ ++ spanT lo hi) ⟨#[32]⟩ (by simp only [ByteArray.size_append, sz1]; rw [show (ByteArray.mk #[32, 82]).size = 2 from rfl]; omega)
    have k4 := cat_ok (u0 ++ ⟨#[32, 82]⟩ ++ spanT lo hi ++ ⟨#[32]⟩) u1 (by simp only [ByteArray.size_append, sz1]; rw [show (ByteArray.mk #[32, 82]).size = 2 from rfl]; omega)
    generalize spanT lo hi = sp at *
    clear hu0 hu1 hss
    as_aux_lemma =>
      go_enter Tryd.func32, Tryd.ntmps32
      go_wp2_with fail
      have g0 : Blk (((W.alloc (.cells #[.int .i64 12, .string nm, .int .i64 cm, .int .i64 va, .int .i64 lo, .int .i64 hi, .slice (some ⟨b, off, none⟩) 2 c] 33)).alloc (.cells #[.int .i64 y.op, .string y.name, .int .i64 y.cmp, .int .i64 y.val, .int .i64 y.lo, .int .i64 y.hi, .slice B js.len d] 33)).alloc (.cells #[.int .i64 z.op, .string z.name, .int .i64 z.cmp, .int .i64 z.val, .int .i64 z.lo, .int .i64 z.hi, .slice D ls.len g] 33)) W.heap.size 33 _ := ((Blk.new _ _ _).alloc _).alloc _
      have g1 : Blk (((W.alloc (.cells #[.int .i64 12, .string nm, .int .i64 cm, .int .i64 va, .int .i64 lo, .int .i64 hi, .slice (some ⟨b, off, none⟩) 2 c] 33)).alloc (.cells #[.int .i64 y.op, .string y.name, .int .i64 y.cmp, .int .i64 y.val, .int .i64 y.lo, .int .i64 y.hi, .slice B js.len d] 33)).alloc (.cells #[.int .i64 z.op, .string z.name, .int .i64 z.cmp, .int .i64 z.val, .int .i64 z.lo, .int .i64 z.hi, .slice D ls.len g] 33)) (W.heap.size + 1) 33 _ := (Blk.new_eq (by simp)).alloc _
      have g2 : Blk (((W.alloc (.cells #[.int .i64 12, .string nm, .int .i64 cm, .int .i64 va, .int .i64 lo, .int .i64 hi, .slice (some ⟨b, off, none⟩) 2 c] 33)).alloc (.cells #[.int .i64 y.op, .string y.name, .int .i64 y.cmp, .int .i64 y.val, .int .i64 y.lo, .int .i64 y.hi, .slice B js.len d] 33)).alloc (.cells #[.int .i64 z.op, .string z.name, .int .i64 z.cmp, .int .i64 z.val, .int .i64 z.lo, .int .i64 z.hi, .slice D ls.len g] 33)) (W.heap.size + 1 + 1) 33 _ := Blk.new_eq (by simp)
      have gf : Fr Nob W (((W.alloc (.cells #[.int .i64 12, .string nm, .int .i64 cm, .int .i64 va, .int .i64 lo, .int .i64 hi, .slice (some ⟨b, off, none⟩) 2 c] 33)).alloc (.cells #[.int .i64 y.op, .string y.name, .int .i64 y.cmp, .int .i64 y.val, .int .i64 y.lo, .int .i64 y.hi, .slice B js.len d] 33)).alloc (.cells #[.int .i64 z.op, .string z.name, .int .i64 z.cmp, .int .i64 z.val, .int .i64 z.lo, .int .i64 z.hi, .slice D ls.len g] 33)) := (((Fr.refl _ _).alloc _).alloc _).alloc _
      generalize ((W.alloc (.cells #[.int .i64 12, .string nm, .int .i64 cm, .int .i64 va, .int .i64 lo, .int .i64 hi, .slice (some ⟨b, off, none⟩) 2 c] 33)).alloc (.cells #[.int .i64 y.op, .string y.name, .int .i64 y.cmp, .int .i64 y.val, .int .i64 y.lo, .int .i64 y.hi, .slice B js.len d] 33)).alloc (.cells #[.int .i64 z.op, .string z.name, .int .i64 z.cmp, .int .i64 z.val, .int .i64 z.lo, .int .i64 z.hi, .slice D ls.len g] 33) = W3 at *
      have q00 := g0.cell 0
      have q01 := g0.cell 1
      have q02 := g0.cell 2
      have q03 := g0.cell 3
      have q04 := g0.cell 4
      have q05 := g0.cell 5
      have q06 := g0.cell 6
      have q10 := g1.cell 0
      have q11 := g1.cell 1
      have q12 := g1.cell 2
      have q13 := g1.cell 3
      have q14 := g1.cell 4
      have q15 := g1.cell 5
      have q16 := g1.cell 6
      have q20 := g2.cell 0
      have q21 := g2.cell 1
      have q22 := g2.cell 2
      have q23 := g2.cell 3
      have q24 := g2.cell 4
      have q25 := g2.cell 5
      have q26 := g2.cell 6
      simp only [List.getElem?_toArray, List.getElem?_cons_zero, List.getElem?_cons_succ] at q00 q01 q02 q03 q04 q05 q06 q10 q11 q12 q13 q14 q15 q16 q20 q21 q22 q23 q24 q25 q26
      have HGF := Lib.hid gf
      clear gf g0 g1 g2 d0 d1 d2 d3 d4 d5 d6 t0 t1 t2 t3 t4 t5 t6
      go_region_held3 (fun w' => w'.cell? ⟨W.heap.size, 0, none⟩ = some (.int .i64 12) ∧ w'.cell? ⟨W.heap.size, 1, none⟩ = some (.string nm) ∧ w'.cell? ⟨W.heap.size, 2, none⟩ = some (.int .i64 cm) ∧ w'.cell? ⟨W.heap.size, 3, none⟩ = some (.int .i64 va) ∧ w'.cell? ⟨W.heap.size, 4, none⟩ = some (.int .i64 lo) ∧ w'.cell? ⟨W.heap.size, 5, none⟩ = some (.int .i64 hi) ∧ w'.cell? ⟨W.heap.size, 6, none⟩ = some (.slice (some ⟨b, off, none⟩) 2 c) ∧
          w'.cell? ⟨W.heap.size + 1, 0, none⟩ = some (.int .i64 y.op) ∧ w'.cell? ⟨W.heap.size + 1, 1, none⟩ = some (.string y.name) ∧ w'.cell? ⟨W.heap.size + 1, 2, none⟩ = some (.int .i64 y.cmp) ∧ w'.cell? ⟨W.heap.size + 1, 3, none⟩ = some (.int .i64 y.val) ∧ w'.cell? ⟨W.heap.size + 1, 4, none⟩ = some (.int .i64 y.lo) ∧ w'.cell? ⟨W.heap.size + 1, 5, none⟩ = some (.int .i64 y.hi) ∧ w'.cell? ⟨W.heap.size + 1, 6, none⟩ = some (.slice B js.len d) ∧
          w'.cell? ⟨W.heap.size + 1 + 1, 0, none⟩ = some (.int .i64 z.op) ∧ w'.cell? ⟨W.heap.size + 1 + 1, 1, none⟩ = some (.string z.name) ∧ w'.cell? ⟨W.heap.size + 1 + 1, 2, none⟩ = some (.int .i64 z.cmp) ∧ w'.cell? ⟨W.heap.size + 1 + 1, 3, none⟩ = some (.int .i64 z.val) ∧ w'.cell? ⟨W.heap.size + 1 + 1, 4, none⟩ = some (.int .i64 z.lo) ∧ w'.cell? ⟨W.heap.size + 1 + 1, 5, none⟩ = some (.int .i64 z.hi) ∧ w'.cell? ⟨W.heap.size + 1 + 1, 6, none⟩ = some (.slice D ls.len g))
        (first | go_keep | (go_split_ands; refine ⟨?_, ?_, ?_, ?_, ?_, ?_, ?_, ?_, ?_, ?_, ?_, ?_, ?_, ?_, ?_, ?_, ?_, ?_, ?_, ?_, ?_⟩ <;> first | exact Fr.cell hf3 (by assumption) (fun e => e) | exact Fr.cell hf2 (by assumption) (fun e => e) | exact Fr.cell hf1 (by assumption) (fun e => e)))
        (first | ((go_at_call 48); refine (HSP.out _ _ _).mono ?_; rintro e w1 ⟨rfl, hf2⟩) | ((go_at_call 47); with_reducible refine (HTA.out _ HGF.out.drew).mono ?_; rintro e w2 ⟨rfl, hf1⟩) | ((go_at_call 47); refine (HTB.out _ ((HGF.out.drew.call hf1 (fun _ h _ => h)).call hf2 (fun _ h _ => h))).mono ?_; rintro e w2 ⟨rfl, hf3⟩))
      go_wp2_with fail
      go_ret
      exact ⟨by rw [HAS.out]; rfl, ((HGF.out.drew.call hf1 (fun _ h _ => h)).call hf2 (fun _ h _ => h)).call hf3 (fun _ h _ => h)⟩
theorem ref_text : ∀ (m : Nat) (N : Nat) (W : World) (x : Nd) (A : Option Addr) (c : Nat) (ks : Fo), ks.tr.size ≤ m → TxOk x ks → FoSl N W A c ks → TextAt x A c ks W := by
  intro m
  induction m using Nat.strongRecOn with
  | _ m ih =>
    intro N W x A c ks hm hok hs
    by_cases h0 : kidsN x.op = 0
    · exact text_leaf W x A c ks hok h0
    by_cases h1 : kidsN x.op = 1
    · exact text_one N W x A c ks hok hs h0 h1 fun y B d js hok' hlt W2 _ hs' => ih js.tr.size (by omega) N W2 y B d js (Nat.le_refl _) hok' hs'
    · exact text_two N W x A c ks hok hs h0 h1 fun y B d js hok' hlt W2 _ hs' => ih js.tr.size (by omega) N W2 y B d js (Nat.le_refl _) hok' hs'
end Go.Proofs.YtdiapojppmoghaaDoor
