/- The law of numbers. -/
import Derived.Test.YtlhhnhbmiamhkaaDoorTlaw1
import Derived.Test.YtlhhnhbmiamhkaaDoorDigs
namespace Go.Proofs.YtlhhnhbmiamhkaaDoor
open Go.RowKit Go.Shelf

theorem dgt_nat {k : Nat} (h : k < 10) : (dgt k).toNat = 48 + k := by
  unfold dgt
  rw [UInt8.toNat_ofNat']
  omega
theorem dgt_dig {k : Nat} (h : k < 10) : digB (dgt k) = true := by
  simp only [digB, dgt_nat h, Bool.and_eq_true, decide_eq_true_eq]
  omega
theorem dg_digs (u : Nat) : ∀ c ∈ dg u, digB c = true := by
  refine dg_ind (p := fun u => ∀ c ∈ dg u, digB c = true) (fun u h c hc => ?_) (fun u h ih c hc => ?_) u
  · rw [dg_small h] at hc
    simp only [List.mem_singleton] at hc
    subst hc
    exact dgt_dig h
  · rw [dg_big h] at hc
    rcases List.mem_append.1 hc with hc | hc
    · exact ih c hc
    · simp only [List.mem_singleton] at hc
      subst hc
      exact dgt_dig (by omega)
theorem dg_ne (u : Nat) : dg u ≠ [] := by
  refine dg_ind (p := fun u => dg u ≠ []) (fun u h => by rw [dg_small h]; simp) (fun u h _ => by rw [dg_big h]; simp) u
theorem dg_dec (u : Nat) : ddec 0 (dg u) = u := by
  refine dg_ind (p := fun u => ddec 0 (dg u) = u) (fun u h => ?_) (fun u h ih => ?_) u
  · rw [dg_small h]
    show dstep 0 (dgt u) = u
    unfold dstep
    rw [dgt_nat h]
    omega
  · rw [dg_big h, ddec_snoc, ih]
    unfold dstep
    rw [dgt_nat (by omega)]
    omega
theorem dg_head (u : Nat) : (dg u).head? = some 48 → u = 0 := by
  refine dg_ind (p := fun u => (dg u).head? = some 48 → u = 0) (fun u h e => ?_) (fun u h ih e => ?_) u
  · rw [dg_small h] at e
    simp only [List.head?_cons, Option.some.injEq] at e
    have := dgt_nat h
    rw [e] at this
    have h48 : UInt8.toNat 48 = 48 := rfl
    omega
  · rw [dg_big h] at e
    obtain ⟨c, r, hc⟩ := List.exists_cons_of_ne_nil (dg_ne (u / 10))
    rw [hc] at e ih
    have := ih e
    omega

theorem isNum_len {neg : Bool} {l d : List UInt8} (h : IsNum neg l d) : numLen l = l.length ∧ 0 < l.length ∧ smallB (l.headD 0) = false ∧ blankB (l.headD 0) = false := by
  obtain ⟨rfl, hne, hd⟩ := h
  have hall : d.takeWhile digB = d := by
    have : ∀ l : List UInt8, (∀ c ∈ l, digB c = true) → l.takeWhile digB = l := by
      intro l
      induction l with
      | nil => intro _; rfl
      | cons c r ih => intro h; rw [List.takeWhile_cons_of_pos (h c (by simp)), ih (fun x hx => h x (by simp [hx]))]
    exact this d hd
  cases neg
  · obtain ⟨c, r, rfl⟩ := List.exists_cons_of_ne_nil hne
    have hc := hd c (by simp)
    simp only [Bool.false_eq_true, if_false]
    have h45 : ¬ c = 45 := by rintro rfl; revert hc; decide
    refine ⟨by rw [numLen_no h45, hall], by simp, ?_, ?_⟩
    · rw [List.headD_cons]
      simp only [digB, Bool.and_eq_true, decide_eq_true_eq] at hc
      simp only [smallB, Bool.and_eq_false_iff, decide_eq_false_iff_not]
      omega
    · rw [List.headD_cons, ← Bool.not_eq_true]
      intro hb
      rcases (blank_iff c).1 hb with rfl | rfl | rfl <;> revert hc <;> decide
  · simp only [if_true]
    refine ⟨?_, by simp, rfl, rfl⟩
    rw [numLen_45, hall, if_neg (by have := List.length_pos_iff.2 hne; omega), List.length_cons]
theorem nextT_num {neg : Bool} {l d : List UInt8} (h : IsNum neg l d) : nextT l = if (numVal l).1 = 0 then (0, ⟨2, l, (numVal l).2⟩) else ((numVal l).1, tk0) := by
  obtain ⟨h1, h2, h3, _⟩ := isNum_len h
  cases l with
  | nil => simp at h2
  | cons c r =>
    rw [List.headD_cons] at h3
    unfold nextT
    simp only [h3, Bool.false_eq_true, if_false, h1, List.take_length, if_pos h2]
    rfl
theorem digsI_num {n : Int} : IsNum (decide (n < 0)) (digsI n) (dg n.natAbs) := by
  refine ⟨?_, dg_ne _, dg_digs _⟩
  unfold digsI
  by_cases h : n < 0 <;> simp [h]
theorem digsI_len {n : Int} (h : I64 n) : (digsI n).length ≤ 21 := by
  unfold I64 at h
  have := dg_len n.natAbs 20 (by omega) (by omega)
  unfold digsI
  split <;> simp <;> omega
theorem digsI_val {n : Int} (h : I64 n) : numVal (digsI n) = (0, n) := by
  unfold I64 at h
  rw [isNum_val digsI_num, if_neg ?_, dg_dec]
  · unfold valB
    by_cases hn : n < 0
    · simp only [hn, decide_true, if_true]
      rw [if_pos (by omega)]
      simp only [vres]
      rw [show -((n.natAbs : Nat) : Int) = n by omega]
    · simp only [hn, decide_false, Bool.false_eq_true, if_false]
      rw [if_pos (by omega)]
      simp only [vres]
      rw [show ((n.natAbs : Nat) : Int) = n by omega]
  · intro e
    simp only [Bool.and_eq_true, beq_iff_eq, Bool.or_eq_true, decide_eq_true_eq] at e
    have h0 := dg_head _ e.1
    rcases e.2 with h1 | h1
    · omega
    · rw [h0] at h1; revert h1; decide
theorem readT_digs {n : Int} (h : I64 n) : readT (digsI n) = ((0, 0), [(⟨2, digsI n, n⟩, 0), (tk0, (digsI n).length)]) := by
  have hv := digsI_val h
  have hn := nextT_num (digsI_num (n := n))
  rw [hv, if_pos rfl] at hn
  exact readT_alone (T := ⟨2, digsI n, n⟩) hn (isNum_len digsI_num).2.2.2 (by have := digsI_len h; simp only; omega)
/-- With a nought ahead. -/
def digs0 (n : Int) : List UInt8 := if n < 0 then 45 :: 48 :: dg n.natAbs else 48 :: dg n.natAbs
theorem readT_digs0 {n : Int} (h : I64 n) : readT (digs0 n) = ((20, 0), []) := by
  have hi : IsNum (decide (n < 0)) (digs0 n) (48 :: dg n.natAbs) := by
    refine ⟨?_, by simp, fun c hc => ?_⟩
    · unfold digs0; by_cases h : n < 0 <;> simp [h]
    · rcases List.mem_cons.1 hc with rfl | hc
      · rfl
      · exact dg_digs _ c hc
  have hv : numVal (digs0 n) = (20, 0) := by
    rw [isNum_val hi, if_pos]
    have := List.length_pos_iff.2 (dg_ne n.natAbs)
    simp only [List.head?_cons, List.length_cons, Bool.and_eq_true, beq_self_eq_true, Bool.or_eq_true, decide_eq_true_eq, true_and]
    exact .inr (by omega)
  have hn := nextT_num hi
  rw [hv, if_neg (by decide)] at hn
  obtain ⟨_, h2, _, h4⟩ := isNum_len hi
  have hl : (digs0 n).length ≤ 512 := by
    unfold I64 at h
    have := dg_len n.natAbs 20 (by omega) (by omega)
    unfold digs0
    split <;> simp <;> omega
  have e : rdT 0 (digs0 n) = ((20, 0), []) := by
    obtain ⟨c, r, hc⟩ := List.exists_cons_of_ne_nil (List.length_pos_iff.1 h2)
    rw [hc] at hn h4 ⊢
    rw [rdT_err (c := c) (r := r) h4 (by rw [hn]; decide), hn]
  unfold readT
  rw [if_neg (by omega), e]
  rfl

set_option maxRecDepth 100000 in
set_option maxHeartbeats 8000000 in
theorem law_TokenNumbers (w : World) (n : Int) (hi : I64 n) (hv : ErrVar w) : Calls Tryd.prog 6 #[.int .i64 n] w fun e w' => e = .returned (.bool true) ∧ Fr Nob w w' := by
  have HD := Lib.hid (fun W => ref_Digits W n hi)
  have hlen := digsI_len hi
  have R1 := Lib.hid (fun W h => tok_Read W ⟨(digsI n).toArray⟩ (by simp [ByteArray.size]; omega) h)
  rw [show (ByteArray.mk (digsI n).toArray).data.toList = digsI n by simp, readT_digs hi] at R1
  have hl0 : (digs0 n).length ≤ 100 := by
    have h : I64 n := hi
    unfold I64 at h
    have := dg_len n.natAbs 20 (by omega) (by omega)
    unfold digs0
    split <;> simp <;> omega
  have R2 := Lib.hid (fun W h => tok_Read W ⟨(digs0 n).toArray⟩ (by simp [ByteArray.size]; omega) h)
  rw [show (ByteArray.mk (digs0 n).toArray).data.toList = digs0 n by simp, readT_digs0 hi] at R2
  have HZ1 := Lib.hid (fun (h : n < 0) => show ByteArray.mk #[45, 48] ++ (ByteArray.mk (digsI n).toArray).extract 1 (ByteArray.mk (digsI n).toArray).size = ⟨(digs0 n).toArray⟩ by
    rw [cut_from]
    apply ByteArray.ext
    simp [digsI, digs0, h])
  have HZ2 := Lib.hid (fun (h : ¬ n < 0) => show ByteArray.mk #[48] ++ (ByteArray.mk (digsI n).toArray) = ⟨(digs0 n).toArray⟩ by
    apply ByteArray.ext
    simp [digsI, digs0, h])
  have hsz : 1 ≤ (ByteArray.mk (digsI n).toArray).size ∧ (ByteArray.mk (digsI n).toArray).size ≤ 21 := by
    have := (isNum_len (digsI_num (n := n))).2.1
    simp [ByteArray.size]; omega
  obtain ⟨hz1, hz2⟩ := hsz
  clear hi hlen hl0
  generalize hdt : ByteArray.mk (digsI n).toArray = dt at *
  have HDT := Lib.hid hdt
  clear hdt
  have hzI : (1 : Int) ≤ dt.size := by omega
  have hzI2 : (dt.size : Int) ≤ 21 := by omega
  by_cases hneg : n < 0
  · have HZ := Lib.hid (HZ1.out hneg)
    clear HZ1 HZ2
    have HV := Lib.hid hv
    clear hv
    go_enter Tryd.func6, Tryd.ntmps6
    go_wp2_with fail
    refine (law_awake _ HV.out).mono ?_
    rintro e w0 ⟨rfl, hf0⟩
    have HV0 := Lib.hid (HV.out.fr hf0)
    clear HV
    go_wp2_with fail
    refine (HD.out _).mono ?_
    rintro e w1 ⟨rfl, hf1⟩
    go_wp2_with fail
    refine (R1.out _ (HV0.out.fr hf1)).mono ?_
    rintro e w2 ⟨A2, c2, rfl, hs2, hf2⟩
    obtain ⟨bb, off2, rfl, hbb, e0, e1, e2, e3⟩ := tk_cells (k := 0) hs2 (by simp)
    simp only [List.getElem_cons_zero, Nat.zero_mul, Nat.add_zero] at e0 e1 e2
    rw [HDT.out] at e1
    have HF := Lib.hid ((hf0.call hf1 (fun _ h _ => h)).call hf2 (fun _ h _ => h))
    have HV2 := Lib.hid ((HV0.out.fr hf1).fr hf2)
    clear hs2 hf2 hf0 hf1 e3 HV0
    go_wp2_with fail
    rw [HZ.out]
    refine (R2.out _ HV2.out).mono ?_
    rintro e w3 ⟨A3, c3, rfl, hs3, hf3⟩
    clear hs3
    have HF3 := Lib.hid (HF.out.call hf3 (fun _ h _ => h))
    clear hf3
    go_wp2_with fail
    go_ret
    exact ⟨rfl, HF3.out⟩
  · have HZ := Lib.hid (HZ2.out hneg)
    have hneg' : 0 ≤ n := by omega
    clear HZ1 HZ2
    have HV := Lib.hid hv
    clear hv
    go_enter Tryd.func6, Tryd.ntmps6
    go_wp2_with fail
    refine (law_awake _ HV.out).mono ?_
    rintro e w0 ⟨rfl, hf0⟩
    have HV0 := Lib.hid (HV.out.fr hf0)
    clear HV
    go_wp2_with fail
    refine (HD.out _).mono ?_
    rintro e w1 ⟨rfl, hf1⟩
    go_wp2_with fail
    refine (R1.out _ (HV0.out.fr hf1)).mono ?_
    rintro e w2 ⟨A2, c2, rfl, hs2, hf2⟩
    obtain ⟨bb, off2, rfl, hbb, e0, e1, e2, e3⟩ := tk_cells (k := 0) hs2 (by simp)
    simp only [List.getElem_cons_zero, Nat.zero_mul, Nat.add_zero] at e0 e1 e2
    rw [HDT.out] at e1
    have HF := Lib.hid ((hf0.call hf1 (fun _ h _ => h)).call hf2 (fun _ h _ => h))
    have HV2 := Lib.hid ((HV0.out.fr hf1).fr hf2)
    clear hs2 hf2 hf0 hf1 e3 HV0
    go_wp2_with fail
    rw [HZ.out]
    refine (R2.out _ HV2.out).mono ?_
    rintro e w3 ⟨A3, c3, rfl, hs3, hf3⟩
    clear hs3
    have HF3 := Lib.hid (HF.out.call hf3 (fun _ h _ => h))
    clear hf3
    go_wp2_with fail
    go_ret
    exact ⟨rfl, HF3.out⟩
end Go.Proofs.YtlhhnhbmiamhkaaDoor
