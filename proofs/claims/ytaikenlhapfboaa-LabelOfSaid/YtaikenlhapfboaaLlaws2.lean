/- The label laws of unions, walked. -/
import Derived.Test.YtaikenlhapfboaaLunion
namespace Go.Proofs.Ytaikenlhapfboaa
open Go.RowKit Go.Sort Go.Lib

theorem same_refl (l : List PP) : sameB l l = true := by simp [sameB]
theorem Fr.and {a b c : World} (h : Fr Nob a b) (k : Fr Nob b c) : Fr Nob a c := h.call k (fun _ h _ => h)

set_option maxRecDepth 100000 in
set_option maxHeartbeats 8000000 in
theorem law_Of (w : World) (A : Option Addr) (c : Nat) (a : List PP) (B : Option Addr) (d : Nat) (b : List PP) (ha : Sl w 2 A a.length c (a.flatMap pcs)) (hb : Sl w 2 B b.length d (b.flatMap pcs)) (hsz : ∀ p ∈ a, p.name.size ≤ 9223372036854775807) :
    Calls Try.prog 6 #[.slice A a.length c, .slice B b.length d] w fun e w' => e = .returned (.bool true) ∧ Fr Nob w w' := by
  have HA := Lib.hid ha
  have HB := Lib.hid hb
  have HZ := Lib.hid hsz
  clear ha hb hsz
  have E1 := Lib.hid (show sameB (lof a) (putAll [] a) = true by rw [putAll_nil]; exact same_refl _)
  have E2 := Lib.hid (show sameB (lof (a ++ b)) (putAll (putAll [] a) b) = true by rw [putAll_two]; exact same_refl _)
  have HR1 := Lib.hid (fun W (h : Fr Nob w W) => lab_Right W A c a (HA.out.pure h) HZ.out)
  have HR2 := Lib.hid (fun W (h : Fr Nob w W) => ref_Right W A c a (HA.out.pure h) HZ.out)
  generalize rightB a = rb at *
  go_enter Try.func6, Try.ntmps6
  go_wp2_with fail
  refine (law_awake _).mono ?_
  rintro e w1 ⟨rfl, hf⟩
  have F1 := Lib.hid ((Fr.refl Nob w).call hf (fun _ h _ => h))
  clear hf
  go_wp2_with fail
  refine (law_few _ A c a (HA.out.pure F1.out)).mono ?_
  rintro e w2 ⟨rfl, rfl⟩
  have HFa := Lib.hid (few_len (l := a))
  generalize fewB a = fb at *
  cases fb
  · go_wp2_with fail
    go_ret
    exact ⟨rfl, F1.out⟩
  have HLa := Lib.hid (HFa.out (by simp))
  have hla := HLa.out
  go_wp2_with fail
  refine (law_few _ B d b (HB.out.pure F1.out)).mono ?_
  rintro e w2 ⟨rfl, rfl⟩
  have HFb := Lib.hid (few_len (l := b))
  generalize fewB b = fb at *
  cases fb
  · go_wp2_with fail
    go_ret
    exact ⟨rfl, F1.out⟩
  have HLb := Lib.hid (HFb.out (by simp))
  have hlb := HLb.out
  go_wp2_with fail
  refine (lab_Of' _ A c a (HA.out.pure F1.out) (by omega)).mono ?_
  rintro e w3 ⟨A3, c3, rfl, hs, hf⟩
  have S3 := Lib.hid hs
  have G3 := Lib.hid hf
  have F3 := Lib.hid (F1.out.call hf (fun _ h _ => h))
  clear hs hf
  go_wp2_with fail
  refine (ref_Of _ A c a (HA.out.pure F3.out) (by omega)).mono ?_
  rintro e w4 ⟨A4, c4, rfl, hs, hf⟩
  have S4 := Lib.hid hs
  have G4 := Lib.hid hf
  have F4 := Lib.hid (F3.out.call hf (fun _ h _ => h))
  clear hs hf
  go_wp2_with fail
  refine (ref_Same _ A3 c3 (lof a) A4 c4 (putAll [] a) (S3.out.pure G4.out) S4.out).mono ?_
  rw [E1.out]
  rintro e w5 ⟨rfl, hf⟩
  have G5 := Lib.hid hf
  have F5 := Lib.hid (F4.out.call hf (fun _ h _ => h))
  clear hf
  go_wp2_with fail
  refine (lab_Union _ A c a B d b (HA.out.pure F5.out) (HB.out.pure F5.out) (by omega) (by omega)).mono ?_
  rintro e w6 ⟨A6, c6, rfl, hs, hf⟩
  have S6 := Lib.hid hs
  have G6 := Lib.hid hf
  have F6 := Lib.hid (F5.out.call hf (fun _ h _ => h))
  clear hs hf
  go_wp2_with fail
  refine (ref_Union _ A c a B d b (HA.out.pure F6.out) (HB.out.pure F6.out) (by omega) (by omega)).mono ?_
  rintro e w7 ⟨A7, c7, rfl, hs, hf⟩
  have S7 := Lib.hid hs
  have G7 := Lib.hid hf
  have F7 := Lib.hid (F6.out.call hf (fun _ h _ => h))
  clear hs hf
  go_wp2_with fail
  refine (ref_Same _ A6 c6 (lof (a ++ b)) A7 c7 (putAll (putAll [] a) b) (S6.out.pure G7.out) S7.out).mono ?_
  rw [E2.out]
  rintro e w8 ⟨rfl, hf⟩
  have G8 := Lib.hid hf
  have F8 := Lib.hid (F7.out.call hf (fun _ h _ => h))
  clear hf
  go_wp2_with fail
  refine (HR1.out _ F8.out).mono ?_
  skip
  rintro e w9 ⟨rfl, hf⟩
  have G9 := Lib.hid hf
  have F9 := Lib.hid (F8.out.call hf (fun _ h _ => h))
  clear hf
  go_wp2_with fail
  refine (HR2.out _ F9.out).mono ?_
  skip
  rintro e w10 ⟨rfl, hf⟩
  have G10 := Lib.hid hf
  have F10 := Lib.hid (F9.out.call hf (fun _ h _ => h))
  clear hf
  have hrr : (rb == rb) = true := by simp
  go_wp2_with fail
  go_ret
  exact ⟨by simp, F10.out⟩

set_option maxRecDepth 100000 in
set_option maxHeartbeats 8000000 in
theorem law_Union (w : World) (A : Option Addr) (c : Nat) (a : List PP) (B : Option Addr) (d : Nat) (b : List PP) (D : Option Addr) (f : Nat) (g : List PP) (ha : Sl w 2 A a.length c (a.flatMap pcs)) (hb : Sl w 2 B b.length d (b.flatMap pcs)) (hg : Sl w 2 D g.length f (g.flatMap pcs)) :
    Calls Try.prog 7 #[.slice A a.length c, .slice B b.length d, .slice D g.length f] w fun e w' => e = .returned (.bool true) ∧ Fr Nob w w' := by
  have HA := Lib.hid ha
  have HB := Lib.hid hb
  have HG := Lib.hid hg
  clear ha hb hg
  have E1 := Lib.hid (show sameB (lof (lof (a ++ b) ++ g)) (lof (a ++ lof (g ++ b))) = true by
    rw [lof_eq (lof_asc (a ++ lof (g ++ b))) (l := lof (a ++ b) ++ g) (fun x => by simp only [lof_mem, List.mem_append]; rw [or_assoc, Or.comm (a := x ∈ g)])]; exact same_refl _)
  have E2 := Lib.hid (show sameB (lof (a ++ a)) (lof a) = true by rw [lof_eq (lof_asc a) (l := a ++ a) (fun x => by simp [lof_mem])]; exact same_refl _)
  have E3 := Lib.hid (show sameB (lof ([] ++ a)) (lof (a ++ a)) = true by rw [lof_eq (lof_asc a) (l := a ++ a) (fun x => by simp [lof_mem])]; exact same_refl _)
  go_enter Try.func7, Try.ntmps7
  go_wp2_with fail
  refine (law_awake _).mono ?_
  rintro e w1 ⟨rfl, hf⟩
  have F1 := Lib.hid ((Fr.refl Nob w).call hf (fun _ h _ => h))
  clear hf
  go_wp2_with fail
  refine (law_few _ A c a (HA.out.pure F1.out)).mono ?_
  rintro e w2 ⟨rfl, rfl⟩
  have HFa := Lib.hid (few_len (l := a))
  generalize fewB a = fb at *
  cases fb
  · go_wp2_with fail
    go_ret
    exact ⟨rfl, F1.out⟩
  have HLa := Lib.hid (HFa.out (by simp))
  have hla := HLa.out
  go_wp2_with fail
  refine (law_few _ B d b (HB.out.pure F1.out)).mono ?_
  rintro e w2 ⟨rfl, rfl⟩
  have HFb := Lib.hid (few_len (l := b))
  generalize fewB b = fb at *
  cases fb
  · go_wp2_with fail
    go_ret
    exact ⟨rfl, F1.out⟩
  have HLb := Lib.hid (HFb.out (by simp))
  have hlb := HLb.out
  go_wp2_with fail
  refine (law_few _ D f g (HG.out.pure F1.out)).mono ?_
  rintro e w2 ⟨rfl, rfl⟩
  have HFg := Lib.hid (few_len (l := g))
  generalize fewB g = fb at *
  cases fb
  · go_wp2_with fail
    go_ret
    exact ⟨rfl, F1.out⟩
  have HLg := Lib.hid (HFg.out (by simp))
  have hlg := HLg.out
  have l1 := lof_len (a ++ b)
  have l2 := lof_len (g ++ b)
  simp only [List.length_append] at l1 l2
  go_wp2_with fail
  refine (lab_Union _ A c a B d b (HA.out.pure F1.out) (HB.out.pure F1.out) (by omega) (by omega)).mono ?_
  rintro e w3 ⟨A3, c3, rfl, hs, hf⟩
  have S3 := Lib.hid hs
  have G3 := Lib.hid hf
  have F3 := Lib.hid (F1.out.call hf (fun _ h _ => h))
  clear hs hf
  go_wp2_with fail
  refine (lab_Union _ A3 c3 (lof (a ++ b)) D f g S3.out (HG.out.pure F3.out) (by omega) (by omega)).mono ?_
  rintro e w4 ⟨A4, c4, rfl, hs, hf⟩
  have S4 := Lib.hid hs
  have G4 := Lib.hid hf
  have F4 := Lib.hid (F3.out.call hf (fun _ h _ => h))
  clear hs hf
  go_wp2_with fail
  refine (lab_Union _ D f g B d b (HG.out.pure F4.out) (HB.out.pure F4.out) (by omega) (by omega)).mono ?_
  rintro e w5 ⟨A5, c5, rfl, hs, hf⟩
  have S5 := Lib.hid hs
  have G5 := Lib.hid hf
  have F5 := Lib.hid (F4.out.call hf (fun _ h _ => h))
  clear hs hf
  go_wp2_with fail
  refine (lab_Union _ A c a A5 c5 (lof (g ++ b)) (HA.out.pure F5.out) S5.out (by omega) (by omega)).mono ?_
  rintro e w6 ⟨A6, c6, rfl, hs, hf⟩
  have S6 := Lib.hid hs
  have G6 := Lib.hid hf
  have F6 := Lib.hid (F5.out.call hf (fun _ h _ => h))
  clear hs hf
  go_wp2_with fail
  refine (lab_Union _ A c a A c a (HA.out.pure F6.out) (HA.out.pure F6.out) (by omega) (by omega)).mono ?_
  rintro e w7 ⟨A7, c7, rfl, hs, hf⟩
  have S7 := Lib.hid hs
  have G7 := Lib.hid hf
  have F7 := Lib.hid (F6.out.call hf (fun _ h _ => h))
  clear hs hf
  go_wp2_with fail
  refine (lab_Union _ none 0 [] A c a (Sl.none_ _ _) (HA.out.pure F7.out) (by simp) (by omega)).mono ?_
  rintro e w8 ⟨A8, c8, rfl, hs, hf⟩
  have S8 := Lib.hid hs
  have G8 := Lib.hid hf
  have F8 := Lib.hid (F7.out.call hf (fun _ h _ => h))
  clear hs hf
  go_wp2_with fail
  refine (ref_Same _ A4 c4 (lof (lof (a ++ b) ++ g)) A6 c6 (lof (a ++ lof (g ++ b))) (S4.out.pure (((G5.out.and G6.out).and G7.out).and G8.out)) (S6.out.pure (G7.out.and G8.out))).mono ?_
  rw [E1.out]
  rintro e w9 ⟨rfl, hf⟩
  have G9 := Lib.hid hf
  have F9 := Lib.hid (F8.out.call hf (fun _ h _ => h))
  clear hf
  go_wp2_with fail
  refine (lab_Of' _ A c a (HA.out.pure F9.out) (by omega)).mono ?_
  rintro e w10 ⟨A10, c10, rfl, hs, hf⟩
  have S10 := Lib.hid hs
  have G10 := Lib.hid hf
  have F10 := Lib.hid (F9.out.call hf (fun _ h _ => h))
  clear hs hf
  go_wp2_with fail
  refine (ref_Same _ A7 c7 (lof (a ++ a)) A10 c10 (lof a) (S7.out.pure ((G8.out.and G9.out).and G10.out)) S10.out).mono ?_
  rw [E2.out]
  rintro e w11 ⟨rfl, hf⟩
  have G11 := Lib.hid hf
  have F11 := Lib.hid (F10.out.call hf (fun _ h _ => h))
  clear hf
  go_wp2_with fail
  refine (ref_Same _ A8 c8 (lof ([] ++ a)) A7 c7 (lof (a ++ a)) (S8.out.pure ((G9.out.and G10.out).and G11.out)) (S7.out.pure (((G8.out.and G9.out).and G10.out).and G11.out))).mono ?_
  rw [E3.out]
  rintro e w12 ⟨rfl, hf⟩
  have G12 := Lib.hid hf
  have F12 := Lib.hid (F11.out.call hf (fun _ h _ => h))
  clear hf
  go_wp2_with fail
  go_ret
  exact ⟨by simp, F12.out⟩

theorem holds_mem {l m : List PP} (h : ∀ x, x ∈ l ↔ x ∈ m) (n : ByteArray) (op v : Int) : holdsB l n op v = holdsB m n op v := by
  unfold holdsB
  rw [Bool.eq_iff_iff, List.any_eq_true, List.any_eq_true]
  constructor
  · rintro ⟨x, hx, hp⟩; exact ⟨x, (h x).1 hx, hp⟩
  · rintro ⟨x, hx, hp⟩; exact ⟨x, (h x).2 hx, hp⟩
theorem holds_append (a b : List PP) (n : ByteArray) (op v : Int) : holdsB (a ++ b) n op v = (holdsB a n op v || holdsB b n op v) := by simp [holdsB]

set_option maxRecDepth 100000 in
set_option maxHeartbeats 8000000 in
theorem law_Grows (w : World) (A : Option Addr) (c : Nat) (a : List PP) (B : Option Addr) (d : Nat) (b : List PP) (n : ByteArray) (op v : Int) (ha : Sl w 2 A a.length c (a.flatMap pcs)) (hb : Sl w 2 B b.length d (b.flatMap pcs)) :
    Calls Try.prog 8 #[.slice A a.length c, .slice B b.length d, .agg #[.string n, .int .i64 op, .int .i64 v]] w fun e w' => e = .returned (.bool true) ∧ Fr Nob w w' := by
  have HA := Lib.hid ha
  have HB := Lib.hid hb
  clear ha hb
  have K1 := Lib.hid (fun W (h : Fr Nob w W) => lab_Holds W A c a n op v (HA.out.pure h))
  have K2 := Lib.hid (fun W (h : Fr Nob w W) => lab_Holds W B d b n op v (HB.out.pure h))
  have K3 := Lib.hid (fun W A' c' => lab_Holds W A' c' (lof (a ++ b)) n op v)
  have K4 := Lib.hid (fun W A' c' => lab_Holds W A' c' (lof a) n op v)
  rw [holds_mem (lof_mem (a ++ b)), holds_append] at K3
  rw [holds_mem (lof_mem a)] at K4
  generalize holdsB a n op v = pa at *
  generalize holdsB b n op v = qb at *
  go_enter Try.func8, Try.ntmps8
  go_wp2_with fail
  refine (law_awake _).mono ?_
  rintro e w1 ⟨rfl, hf⟩
  have F1 := Lib.hid (((Fr.refl Nob w).alloc _).call hf (fun _ h _ => h))
  have B1 := Lib.hid ((Blk.new w 26 #[.string n, .int .i64 op, .int .i64 v]).fr hf (fun e => e))
  have b0 := B1.out.cell 0
  have b1 := B1.out.cell 1
  have b2 := B1.out.cell 2
  clear hf
  go_wp2_with fail
  refine (law_few _ A c a (HA.out.pure F1.out)).mono ?_
  rintro e w2 ⟨rfl, rfl⟩
  have HFa := Lib.hid (few_len (l := a))
  generalize fewB a = fb at *
  cases fb
  · go_wp2_with fail
    go_ret
    exact ⟨rfl, F1.out⟩
  have HLa := Lib.hid (HFa.out (by simp))
  have hla := HLa.out
  go_wp2_with fail
  refine (law_few _ B d b (HB.out.pure F1.out)).mono ?_
  rintro e w2 ⟨rfl, rfl⟩
  have HFb := Lib.hid (few_len (l := b))
  generalize fewB b = fb at *
  cases fb
  · go_wp2_with fail
    go_ret
    exact ⟨rfl, F1.out⟩
  have HLb := Lib.hid (HFb.out (by simp))
  have hlb := HLb.out
  have H9 := Lib.hid (fun W (h : Fr Nob w W) => lab_Union W A c a B d b (HA.out.pure h) (HB.out.pure h) (by omega) (by omega))
  have H11 := Lib.hid (fun W (h : Fr Nob w W) => lab_Of' W A c a (HA.out.pure h) (by omega))
  generalize lof (a ++ b) = uu at *
  generalize lof a = oo at *
  go_wp2_with fail
  refine (K1.out _ F1.out).mono ?_
  skip
  rintro e w3 ⟨rfl, hf⟩
  have G3 := Lib.hid hf
  have F3 := Lib.hid (F1.out.call hf (fun _ h _ => h))
  clear hf
  have b0 := (B1.out.fr G3.out (fun e => e)).cell 0
  have b1 := (B1.out.fr G3.out (fun e => e)).cell 1
  have b2 := (B1.out.fr G3.out (fun e => e)).cell 2
  go_wp2_with fail
  refine (K2.out _ F3.out).mono ?_
  skip
  rintro e w4 ⟨rfl, hf⟩
  have G4 := Lib.hid hf
  have F4 := Lib.hid (F3.out.call hf (fun _ h _ => h))
  clear hf
  have b0 : w4.cell? ⟨w.heap.size, 0, none⟩ = some (.string n) := (B1.out.fr (G3.out.and G4.out) (fun e => e)).cell 0
  have b1 : w4.cell? ⟨w.heap.size, 1, none⟩ = some (.int .i64 op) := (B1.out.fr (G3.out.and G4.out) (fun e => e)).cell 1
  have b2 : w4.cell? ⟨w.heap.size, 2, none⟩ = some (.int .i64 v) := (B1.out.fr (G3.out.and G4.out) (fun e => e)).cell 2
  cases pa
  · cases qb
    all_goals
      go_wp2_with fail
      go_region_held3 (fun w' => w'.cell? ⟨w.heap.size, 0, none⟩ = some (.string n) ∧ w'.cell? ⟨w.heap.size, 1, none⟩ = some (.int .i64 op) ∧ w'.cell? ⟨w.heap.size, 2, none⟩ = some (.int .i64 v)) (first | go_keep | (go_split_ands; refine ⟨?_, ?_, ?_⟩ <;> first | exact Fr.cell h9 (by assumption) (fun e => e) | exact Fr.cell h10 (by assumption) (fun e => e) | exact Fr.cell h11 (by assumption) (fun e => e) | exact Fr.cell h12 (by assumption) (fun e => e)))
        (first
          | ((go_at_call 18); refine (H9.out _ F4.out.drew).mono ?_; rintro e w9 ⟨A9, c9, rfl, hs9, h9⟩)
          | ((go_at_call 16); refine (H11.out _ ((F4.out.drew.and h9).and h10)).mono ?_; rintro e w11 ⟨A11, c11, rfl, hs11, h11⟩)
          | ((go_at_call 13); (with_reducible refine (K3.out _ A9 c9 hs9).mono ?_); rintro e w10 ⟨rfl, h10⟩)
          | ((go_at_call 13); (with_reducible refine (K4.out _ A11 c11 hs11).mono ?_); rintro e w12 ⟨rfl, h12⟩))
      all_goals
        go_wp2_with fail
        go_ret
        exact ⟨rfl, ((((F4.out.drew).and h9).and h10).and h11).and h12⟩
  · go_wp2_with fail
    first
      | (go_region_with (first
          | ((go_at_call 18); refine (H9.out _ F4.out.drew).mono ?_; rintro e w9 ⟨A9, c9, rfl, hs9, h9⟩; have q0 := Fr.cell h9 b0 (fun e => e); have q1 := Fr.cell h9 b1 (fun e => e); have q2 := Fr.cell h9 b2 (fun e => e))
          | ((go_at_call 16); refine (H11.out _ ((F4.out.drew.and h9).and h10)).mono ?_; rintro e w11 ⟨A11, c11, rfl, hs11, h11⟩; have s0 := Fr.cell h11 r0 (fun e => e); have s1 := Fr.cell h11 r1 (fun e => e); have s2 := Fr.cell h11 r2 (fun e => e))
          | ((go_at_call 13); (with_reducible refine (K3.out _ A9 c9 hs9).mono ?_); rintro e w10 ⟨rfl, h10⟩; have r0 := Fr.cell h10 q0 (fun e => e); have r1 := Fr.cell h10 q1 (fun e => e); have r2 := Fr.cell h10 q2 (fun e => e))
          | ((go_at_call 13); (with_reducible refine (K4.out _ A11 c11 hs11).mono ?_); rintro e w12 ⟨rfl, h12⟩)))
      | fail
    all_goals
      go_wp2_with fail
      go_ret
      exact ⟨rfl, ((((F4.out.drew).and h9).and h10).and h11).and h12⟩
end Go.Proofs.Ytaikenlhapfboaa
