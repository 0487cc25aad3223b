/- The reference's text of a formula: bounds, and the walk. -/
import Derived.Test.YtdiapojppmoghaaDoorFshow
import Derived.Deep.RegionHeld3
namespace Go.Proofs.YtdiapojppmoghaaDoor
open Go.RowKit

/-- A bound for a text's bytes. -/
def Tr.wt : Tr → Nat
  | .nil => 0
  | .cons x k r => x.name.size + 100 + k.wt + r.wt
def tsum (l : List (Int × ByteArray)) : Nat := (l.map fun k => k.2.size + 2).sum
theorem kid_sum (l : List (Int × ByteArray)) : (kid0 l).2.size + (kid1 l).2.size ≤ tsum l := by
  match l with
  | [] => simp [kid0, kid1, tsum]
  | [a] => simp [kid0, kid1, tsum]
  | a :: b :: r => simp [kid0, kid1, tsum]; omega
theorem digB_size {n : Int} (hn : I64 n) : (digB n).size ≤ 20 := by
  unfold I64 at hn
  have h : ∀ u : Nat, u ≤ 9223372036854775808 → (dg u).length ≤ 19 := fun u hu => dg_len u 19 (by omega) (by omega)
  have h2 := h n.natAbs (by omega)
  unfold digB digsI
  by_cases hneg : n < 0
  · rw [if_pos hneg]; simp [ByteArray.size]; omega
  · rw [if_neg hneg]; simp [ByteArray.size]; omega
theorem spanT_size {lo hi : Int} (h1 : I64 lo) (h2 : I64 hi) : (spanT lo hi).size ≤ 43 := by
  have := digB_size h1; have := digB_size h2
  simp only [spanT, ByteArray.size_append]
  have e : ∀ b : UInt8, (ByteArray.mk #[b]).size = 1 := fun _ => rfl
  rw [e, e, e]; omega
theorem cmpT_size (c : Int) : (cmpT c).size ≤ 2 := by
  unfold cmpT; repeat' split
  all_goals decide
/-- A node's numbers are int64's. -/
structure NdOk (x : Nd) : Prop where
  op : I64 x.op
  cmp : I64 x.cmp
  val : I64 x.val
  lo : I64 x.lo
  hi : I64 x.hi
theorem signT_size {x : Nd} (h : NdOk x) : (signT x).size ≤ 45 := by
  have h1 := spanT_size h.lo h.hi
  have e1 : ∀ b : UInt8, (ByteArray.mk #[b]).size = 1 := fun _ => rfl
  have e2 : ∀ b c : UInt8, (ByteArray.mk #[b, c]).size = 2 := fun _ _ => rfl
  have e3 : ∀ b c d : UInt8, (ByteArray.mk #[b, c, d]).size = 3 := fun _ _ _ => rfl
  unfold signT
  repeat' split
  all_goals simp only [ByteArray.size_append, e1, e2, e3]
  all_goals omega
theorem leafT_size {x : Nd} (h : NdOk x) : (leafT x).size ≤ x.name.size + 24 := by
  have h1 := digB_size h.val
  have h2 := cmpT_size x.cmp
  have e1 : ∀ b : UInt8, (ByteArray.mk #[b]).size = 1 := fun _ => rfl
  have e4 : (ByteArray.mk #[116, 114, 117, 101]).size = 4 := rfl
  have e5 : (ByteArray.mk #[102, 97, 108, 115, 101]).size = 5 := rfl
  unfold leafT
  repeat' split
  all_goals (try simp only [ByteArray.size_append, e1, e4, e5])
  all_goals omega
theorem wrapT_size (p : Int) (k : Int × ByteArray) : (wrapT p k).size ≤ k.2.size + 2 := by
  have e1 : ∀ b : UInt8, (ByteArray.mk #[b]).size = 1 := fun _ => rfl
  unfold wrapT
  split
  · simp only [ByteArray.size_append, e1]; omega
  · omega
theorem nodeT_size {x : Nd} (h : NdOk x) (l : List (Int × ByteArray)) : (nodeT x l).size ≤ x.name.size + 60 + tsum l := by
  have h1 := signT_size h; have h2 := leafT_size h; have h3 := wrapT_size (pl0 x.op) (kid0 l); have h4 := wrapT_size (pl1 x.op) (kid1 l); have h5 := kid_sum l
  have e1 : ∀ b : UInt8, (ByteArray.mk #[b]).size = 1 := fun _ => rfl
  unfold nodeT
  repeat' split
  all_goals (try simp only [ByteArray.size_append, e1])
  all_goals omega
def Tr.ok : Tr → Prop
  | .nil => True
  | .cons x k r => NdOk x ∧ k.ok ∧ r.ok
theorem texts_size : ∀ t : Tr, t.ok → tsum t.texts ≤ t.wt
  | .nil, _ => Nat.le_refl _
  | .cons x k r, ⟨h1, h2, h3⟩ => by
    have a := nodeT_size h1 k.texts
    have b := texts_size k h2
    have c := texts_size r h3
    simp only [Tr.texts, tsum, List.map_cons, List.sum_cons, Tr.wt] at *
    omega
theorem textT_size {x : Nd} {ks : Tr} (h : NdOk x) (hk : ks.ok) : (textT x ks).size ≤ x.name.size + 60 + ks.wt := by
  have a := nodeT_size h ks.texts
  have b := texts_size ks hk
  unfold textT; omega

/-- What is known of a formula whose text is asked. -/
structure TxOk (x : Nd) (ks : Fo) : Prop where
  nd : NdOk x
  ok : ks.tr.ok
  wr : wrongN x ks.len = 0
  good : ks.tr.good
  wt : x.name.size + ks.tr.wt ≤ 1000000
  size : ks.tr.size ≤ 100000
theorem get_texts : ∀ {f : Fo} {k : Nat} {x : Nd} {A : Option Addr} {c : Nat} {ks rest : Fo}, f.get k = .cons x A c ks rest → f.tr.texts[k]? = some (x.op, textT x ks.tr)
  | .nil, _, _, _, _, _, _, h => by simp [Fo.get] at h
  | .cons _ _ _ _ _, 0, _, _, _, _, _, h => by
    simp only [Fo.get, Fo.cons.injEq] at h
    obtain ⟨rfl, rfl, rfl, rfl, rfl⟩ := h
    simp [Fo.tr, Tr.texts, textT]
  | .cons _ _ _ _ r, k + 1, _, _, _, _, _, h => by
    have := get_texts (f := r) (k := k) h
    simpa [Fo.tr, Tr.texts] using this
theorem get_tx : ∀ {f : Fo} {k : Nat} {x : Nd} {A : Option Addr} {c : Nat} {ks rest : Fo}, f.get k = .cons x A c ks rest → f.tr.ok → f.tr.good → f.tr.wt ≤ 1000000 → f.tr.size ≤ 100000 → TxOk x ks
  | .nil, _, _, _, _, _, _, h, _, _, _, _ => by simp [Fo.get] at h
  | .cons y B d js r, 0, _, _, _, _, _, h, h1, h2, h3, h4 => by
    simp only [Fo.get, Fo.cons.injEq] at h
    obtain ⟨rfl, rfl, rfl, rfl, rfl⟩ := h
    simp only [Fo.tr, Tr.ok, Tr.good, Tr.wt, Tr.size, Fo.tr_len] at h1 h2 h3 h4
    exact ⟨h1.1, h1.2.1, h2.1, h2.2.1, by omega, by omega⟩
  | .cons _ _ _ _ r, k + 1, _, _, _, _, _, h, h1, h2, h3, h4 => by
    simp only [Fo.tr, Tr.ok, Tr.good, Tr.wt, Tr.size] at h1 h2 h3 h4
    exact get_tx (f := r) (k := k) h h1.2.2 h2.2.2 (by omega) (by omega)
theorem TxOk.kid {x : Nd} {f : Fo} (h : TxOk x f) {k : Nat} {y : Nd} {A : Option Addr} {c : Nat} {ks rest : Fo} (hg : f.get k = .cons y A c ks rest) : TxOk y ks :=
  get_tx hg h.ok h.good (by have := h.wt; omega) h.size
theorem TxOk.text {x : Nd} {f : Fo} (h : TxOk x f) : (textT x f.tr).size ≤ 1000060 := by
  have := textT_size h.nd h.ok; have := h.wt; omega
theorem kid0_of {f : Fo} {y : Nd} {A : Option Addr} {c : Nat} {ks rest : Fo} (hg : f.get 0 = .cons y A c ks rest) : kid0 f.tr.texts = (y.op, textT y ks.tr) := by
  have := get_texts hg
  unfold kid0; rw [List.getD_eq_getElem?_getD, this]; rfl
theorem kid1_of {f : Fo} {y : Nd} {A : Option Addr} {c : Nat} {ks rest : Fo} (hg : f.get 1 = .cons y A c ks rest) : kid1 f.tr.texts = (y.op, textT y ks.tr) := by
  have := get_texts hg
  unfold kid1; rw [List.getD_eq_getElem?_getD, this]; rfl

set_option maxHeartbeats 1000000 in
theorem ref_place (w : World) (op : Int) : Calls Tryd.prog 53 #[.int .i64 op] w fun e w' => e = .returned (.int .i64 (placeN op)) ∧ w = w' := by
  go_enter Tryd.func53, Tryd.ntmps53
  go_wp2_with fail
  all_goals
    go_ret
    refine ⟨ret1i ?_, rfl⟩
    unfold placeN
  all_goals (repeat' split) <;> first | rfl | omega | (exfalso; simp at *; omega)
set_option maxHeartbeats 1000000 in
theorem ref_sign (w : World) (c : Int) : Calls Tryd.prog 45 #[.int .i64 c] w fun e w' => e = .returned (.string (cmpT c)) ∧ w = w' := by
  go_enter Tryd.func45, Tryd.ntmps45
  go_wp2_with fail
  all_goals
    go_ret
    refine ⟨ret1 ?_, rfl⟩
    unfold cmpT
  all_goals (repeat' split) <;> first | rfl | omega | (exfalso; simp at *; omega)
theorem cat_ok (x y : ByteArray) (h : x.size + y.size ≤ 9223372036854775807) : ∀ W : World, (Op.stringOp .add x y).run Tryd.prog W = .ok (.string (x ++ y)) W := fun W => run_string_add_sum W x y h
theorem ref_DigB (w : World) (n : Int) (hn : I64 n) : Calls Tryd.prog 46 #[.int .i64 n] w fun e w' => e = .returned (.string (digB n)) ∧ Fr Nob w w' := ref_Digits w n hn
theorem sz1 (b : UInt8) : (ByteArray.mk #[b]).size = 1 := rfl
set_option maxHeartbeats 1000000 in
theorem ref_Text (w : World) (lo hi : Int) (h1 : I64 lo) (h2 : I64 hi) : Calls Tryd.prog 54 #[.agg #[.int .i64 lo, .int .i64 hi]] w fun e w' => e = .returned (.string (spanT lo hi)) ∧ Fr Nob w w' := by
  have s1 := digB_size h1
  have s2 := digB_size h2
  unfold spanT
  have k1 := cat_ok ⟨#[91]⟩ (digB lo) (by rw [sz1]; omega)
  have k2 := cat_ok (⟨#[91]⟩ ++ digB lo) ⟨#[44]⟩ (by simp only [ByteArray.size_append, sz1]; omega)
  have k3 := cat_ok (⟨#[91]⟩ ++ digB lo ++ ⟨#[44]⟩) (digB hi) (by simp only [ByteArray.size_append, sz1]; omega)
  have k4 := cat_ok (⟨#[91]⟩ ++ digB lo ++ ⟨#[44]⟩ ++ digB hi) ⟨#[93]⟩ (by simp only [ByteArray.size_append, sz1]; omega)
  clear s1 s2
  go_enter Tryd.func54, Tryd.ntmps54
  go_wp2_with fail
  go_region_held3 (fun w' => w'.cell? ⟨w.heap.size, 0, none⟩ = some (.int .i64 lo) ∧ w'.cell? ⟨w.heap.size, 1, none⟩ = some (.int .i64 hi))
    (first | go_keep | (go_split_ands; refine ⟨?_, ?_⟩ <;> exact Fr.cell hf1 (by assumption) (fun e => e)))
    (first | ((go_at_call 46); refine (ref_DigB _ _ (by assumption)).mono ?_; rintro e w1 ⟨rfl, hf1⟩))
  go_wp2_with fail
  go_ret
  exact ⟨rfl, (((Fr.refl _ _).alloc _).drew.call (by assumption) (fun _ h _ => h)).call hf1 (fun _ h _ => h)⟩
theorem wrapT_yes {p : Int} {o : Int} {t : ByteArray} (h : placeN o < p) : wrapT p (o, t) = ⟨#[40]⟩ ++ t ++ ⟨#[41]⟩ := by unfold wrapT; rw [if_pos h]
theorem wrapT_no {p : Int} {o : Int} {t : ByteArray} (h : ¬ placeN o < p) : wrapT p (o, t) = t := by unfold wrapT; rw [if_neg h]
set_option maxHeartbeats 1000000 in
theorem ref_at (w : World) (x : Nd) (A : Option Addr) (c n : Nat) (p : Int) (t : ByteArray) (hsz : t.size ≤ 1000060)
    (hT : ∀ W, Fr Nob w W → Calls Tryd.prog 32 #[fval x A n c] W fun e w' => e = .returned (.string t) ∧ Fr Nob W w') :
    Calls Tryd.prog 47 #[fval x A n c, .int .i64 p] w fun e w' => e = .returned (.string (wrapT p (x.op, t))) ∧ Fr Nob w w' := by
  have HT := Lib.hid hT
  have HP := Lib.hid (fun W => ref_place W x.op)
  clear hT
  unfold fval at *
  have k1 := cat_ok ⟨#[40]⟩ t (by rw [sz1]; omega)
  have k2 := cat_ok (⟨#[40]⟩ ++ t) ⟨#[41]⟩ (by simp only [ByteArray.size_append, sz1]; omega)
  by_cases h : placeN x.op < p
  · have HR := Lib.hid (wrapT_yes (t := t) h)
    generalize placeN x.op = q at *
    go_enter Tryd.func47, Tryd.ntmps47
    go_wp2_with (first | ((go_at_call 53); refine (HP.out _).mono ?_; rintro e w1 ⟨rfl, rfl⟩) | ((go_at_call 32); refine (HT.out _ (by first | exact (Fr.refl _ _).alloc _ | exact ((Fr.refl _ _).alloc _).drew)).mono ?_; rintro e w1 ⟨rfl, hf1⟩))
    go_ret
    rw [HR.out]
    exact ⟨rfl, by first | exact ((Fr.refl _ _).alloc _).call hf1 (fun _ h _ => h) | exact (((Fr.refl _ _).alloc _).drew).call hf1 (fun _ h _ => h)⟩
  · have HR := Lib.hid (wrapT_no (t := t) h)
    have h' : ¬ placeN x.op < p := h
    clear h
    generalize placeN x.op = q at *
    go_enter Tryd.func47, Tryd.ntmps47
    go_wp2_with (first | ((go_at_call 53); refine (HP.out _).mono ?_; rintro e w1 ⟨rfl, rfl⟩) | ((go_at_call 32); refine (HT.out _ (by first | exact (Fr.refl _ _).alloc _ | exact ((Fr.refl _ _).alloc _).drew)).mono ?_; rintro e w1 ⟨rfl, hf1⟩))
    go_ret
    rw [HR.out]
    exact ⟨rfl, by first | exact ((Fr.refl _ _).alloc _).call hf1 (fun _ h _ => h) | exact (((Fr.refl _ _).alloc _).drew).call hf1 (fun _ h _ => h)⟩
/-- The reference's text of a formula. -/
def TextAt (x : Nd) (A : Option Addr) (c : Nat) (ks : Fo) (W : World) : Prop := Calls Tryd.prog 32 #[fval x A ks.len c] W fun e w' => e = .returned (.string (textT x ks.tr)) ∧ Fr Nob W w'
theorem text_leaf (W : World) (x : Nd) (A : Option Addr) (c : Nat) (ks : Fo) (h : TxOk x ks) (hk : kidsN x.op = 0) : TextAt x A c ks W := by
  have HS := Lib.hid (fun W => ref_sign W x.cmp)
  have HD := Lib.hid (fun W => ref_DigB W x.val h.nd.val)
  have HR := Lib.hid (show textT x ks.tr = leafT x by unfold textT nodeT; rw [if_pos hk])
  have hop := wrong_op h.wr
  have hop3 : x.op ≤ 3 := by unfold kidsN at hk; split at hk; assumption; split at hk <;> omega
  have s1 := digB_size h.nd.val
  have s2 := cmpT_size x.cmp
  have hw := h.wt
  have k1 := cat_ok x.name ⟨#[32]⟩ (by rw [sz1]; omega)
  have k2 := cat_ok (x.name ++ ⟨#[32]⟩) (cmpT x.cmp) (by simp only [ByteArray.size_append, sz1]; omega)
  have k3 := cat_ok (x.name ++ ⟨#[32]⟩ ++ cmpT x.cmp) ⟨#[32]⟩ (by simp only [ByteArray.size_append, sz1]; omega)
  have k4 := cat_ok (x.name ++ ⟨#[32]⟩ ++ cmpT x.cmp ++ ⟨#[32]⟩) (digB x.val) (by simp only [ByteArray.size_append, sz1]; omega)
  unfold TextAt fval
  rw [HR.out]
  unfold leafT
  clear s1 s2 hw h hk HR
  obtain ⟨op, nm, cm, va, lo, hi⟩ := x
  simp only at *
  generalize digB va = dv at *
  generalize cmpT cm = ct at *
  rcases (show op = 1 ∨ op = 2 ∨ op = 3 by omega) with rfl | rfl | rfl
  · clear hop hop3
    go_enter Tryd.func32, Tryd.ntmps32
    go_wp2_with fail
    go_ret
    exact ⟨rfl, (Fr.refl _ _).alloc _⟩
  · clear hop hop3
    go_enter Tryd.func32, Tryd.ntmps32
    go_wp2_with fail
    go_ret
    exact ⟨rfl, (Fr.refl _ _).alloc _⟩
  · clear hop hop3
    by_cases hc : cm = 0
    · subst hc
      go_enter Tryd.func32, Tryd.ntmps32
      go_wp2_with fail
      go_ret
      exact ⟨rfl, (Fr.refl _ _).alloc _⟩
    · have hc' : (cm == 0) = false := by simpa using hc
      rw [if_neg (by decide), if_neg (by decide), if_neg hc]
      clear hc
      go_enter Tryd.func32, Tryd.ntmps32
      go_wp2_with fail
      go_region_held3 (fun w' => w'.cell? ⟨W.heap.size, 1, none⟩ = some (.string nm) ∧ w'.cell? ⟨W.heap.size, 2, none⟩ = some (.int .i64 cm) ∧ w'.cell? ⟨W.heap.size, 3, none⟩ = some (.int .i64 va))
        (first | go_keep | (go_split_ands; refine ⟨?_, ?_, ?_⟩ <;> exact Fr.cell hf1 (by assumption) (fun e => e)))
        (first | ((go_at_call 45); refine (HS.out _).mono ?_; rintro e w1 ⟨rfl, rfl⟩) | ((go_at_call 46); refine (HD.out _).mono ?_; rintro e w1 ⟨rfl, hf1⟩))
      go_wp2_with fail
      go_ret
      exact ⟨rfl, (((Fr.refl _ _).alloc _).drew.call hf1 (fun _ h _ => h))⟩
theorem ref_span (w : World) (x : Nd) (A : Option Addr) (n c : Nat) (h1 : I64 x.lo) (h2 : I64 x.hi) : Calls Tryd.prog 48 #[fval x A n c] w fun e w' => e = .returned (.string (spanT x.lo x.hi)) ∧ Fr Nob w w' := by
  have HC := Lib.hid (fun W => ref_Text W x.lo x.hi h1 h2)
  unfold fval
  generalize spanT x.lo x.hi = s at *
  go_enter Tryd.func48, Tryd.ntmps48
  go_wp2_with ((go_at_call 54); refine (HC.out _).mono ?_; rintro e w1 ⟨rfl, hf1⟩)
  go_ret
  exact ⟨rfl, ((Fr.refl _ _).alloc _).call hf1 (fun _ h _ => h)⟩
theorem textT_one {x : Nd} {ks : Tr} {k : Int × ByteArray} (h0 : ¬ kidsN x.op = 0) (h1 : kidsN x.op = 1) (hk : kid0 ks.texts = k) : textT x ks = signT x ++ wrapT (pl0 x.op) k := by
  unfold textT nodeT; rw [if_neg h0, if_pos h1, hk]
theorem textT_two {x : Nd} {ks : Tr} {k j : Int × ByteArray} (h0 : ¬ kidsN x.op = 0) (h1 : ¬ kidsN x.op = 1) (hk : kid0 ks.texts = k) (hj : kid1 ks.texts = j) : textT x ks = wrapT (pl0 x.op) k ++ (⟨#[32]⟩ ++ signT x ++ ⟨#[32]⟩) ++ wrapT (pl1 x.op) j := by
  unfold textT nodeT; rw [if_neg h0, if_neg h1, hk, hj]
theorem op_one {op : Int} (h0 : ¬ kidsN op = 0) (h1 : kidsN op = 1) : (op = 4 ∨ op = 9 ∨ op = 10) := by
  unfold kidsN at h0 h1
  by_cases h : op ≤ 3
  · rw [if_pos h] at h0; omega
  · rw [if_neg h] at h1
    by_cases h2 : op = 4 ∨ op = 9 ∨ op = 10
    · exact h2
    · rw [if_neg h2] at h1; omega
theorem op_two {op : Int} (h : 1 ≤ op ∧ op ≤ 12) (h0 : ¬ kidsN op = 0) (h1 : ¬ kidsN op = 1) : op = 5 ∨ op = 6 ∨ op = 7 ∨ op = 8 ∨ op = 11 ∨ op = 12 := by
  unfold kidsN at h0 h1
  by_cases h3 : op ≤ 3
  · rw [if_pos h3] at h0; omega
  · rw [if_neg h3] at h1
    by_cases h2 : op = 4 ∨ op = 9 ∨ op = 10
    · rw [if_pos h2] at h1; omega
    · omega
theorem kidsN_two {op : Int} (h0 : ¬ kidsN op = 0) (h1 : ¬ kidsN op = 1) : kidsN op = 2 := by
  unfold kidsN at *
  split
  · rename_i h; rw [if_pos h] at h0; omega
  · rename_i h
    rw [if_neg h] at h1
    split
    · rename_i h2; rw [if_pos h2] at h1; omega
    · rfl
end Go.Proofs.YtdiapojppmoghaaDoor
