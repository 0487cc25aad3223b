/- A configuration's text: the program's walk. -/
import Derived.Test.YtoegdmpmagbaiaaDoorV15
import Derived.Test.YtoegdmpmagbaiaaDoorVbd
namespace Go.Proofs.YtoegdmpmagbaiaaDoor
open Go.RowKit Go.Lib Go.Shelf

theorem Bd.ne {B b g : Nat} {l : List UInt8} {w : World} {t : TypeId} {cs : Array Value} (h : Bd B b l w) (hb : Blk w g t cs) (ht : t ≠ 95) : g ≠ b := by
  intro e
  subst e
  unfold Blk at hb
  rcases h with ⟨_, v, hbk, _⟩ | ⟨_, v, hbk, _⟩
  · rw [hbk] at hb; injection hb with hb; injection hb with _ h2 _; exact ht h2.symm
  · rw [hbk] at hb; injection hb with hb; injection hb with _ h2 _; exact ht h2.symm
/-- The text so far, the settings' rows. -/
structure SwS (W0 wr : World) (gs : Nat) (acc : List UInt8) : Prop where
  fr : Fr Nob W0 wr
  st : Blk wr gs 90 setA
  bd : Bd W0.heap.size W0.heap.size acc wr
theorem SwS.call {W0 wr w1 : World} {gs : Nat} {acc : List UInt8} (h : SwS W0 wr gs acc) (hf : Fr Nob wr w1) : SwS W0 w1 gs acc :=
  ⟨h.fr.call hf (fun _ e _ => e), h.st.fr hf (fun e => e), h.bd.fr hf⟩
theorem SwS.write {W0 wr w1 : World} {gs : Nat} {acc acc' : List UInt8} (h : SwS W0 wr gs acc) (hb : Bd W0.heap.size W0.heap.size acc' w1) (hl : Below W0.heap.size wr w1) (hk : BdKeep W0.heap.size wr w1) : SwS W0 w1 gs acc' :=
  ⟨h.fr.call (S' := fun i => W0.heap.size ≤ i) ⟨hl.os, hl.tape, hl.output, hl.size, fun k _ hn => hl.block k (by omega)⟩ (fun i hi hlt => by omega), hk.blk h.st (h.bd.ne h.st (by decide)) (by decide), hb⟩
/-- A setting's numbers. -/
def TlS (w : World) (A : Option Addr) (d : Nat) (l : List Int) : Prop := Sl w 1 A l.length d (ints l) ∧ InI w A
theorem TlS.call {w w1 : World} {A : Option Addr} {d : Nat} {l : List Int} (h : TlS w A d l) (hf : Fr Nob w w1) : TlS w1 A d l :=
  ⟨h.1.pure hf, fun g o e => by obtain ⟨cs, hb⟩ := h.2 g o e; exact ⟨cs, hb.fr hf (fun e => e)⟩⟩
theorem TlS.write {w w1 : World} {A : Option Addr} {d B b : Nat} {l : List Int} {acc : List UInt8} (h : TlS w A d l) (hb : Bd B b acc w) (hk : BdKeep b w w1) : TlS w1 A d l := by
  have h1 : ∀ g o, A = some ⟨g, o, none⟩ → ∃ cs, Blk w g 2 cs ∧ Blk w1 g 2 cs := fun g o e => by
    obtain ⟨cs, hg⟩ := h.2 g o e
    exact ⟨cs, hg, hk.blk hg (hb.ne hg (by decide)) (by decide)⟩
  refine ⟨h.1.keep fun g o e _ _ => ?_, fun g o e => ?_⟩
  · obtain ⟨cs, e1, e2⟩ := h1 g o e
    unfold Blk at e1 e2
    rw [e1, e2]
  · obtain ⟨cs, e1, e2⟩ := h1 g o e
    exact ⟨cs, e2⟩
/-- The text behind k rows. -/
def preC (c : CF) (k : Nat) : List UInt8 := (List.range k).flatMap (rowC c)
/-- The text within row k, behind j of its numbers. -/
def midC (c : CF) (k j : Nat) : List UInt8 := preC c k ++ (keysC.getD k [] ++ ((tellC c k).take j).flatMap fun v => 32 :: textC k v)
theorem preC_next (c : CF) (k : Nat) : preC c (k + 1) = midC c k (tellC c k).length ++ [10] := by
  unfold preC midC
  rw [List.range_succ, List.flatMap_append, List.take_of_length_le (Nat.le_refl _)]
  simp only [List.flatMap_cons, List.flatMap_nil, List.append_nil]
  rw [List.append_assoc]
  rfl
theorem midC_next {c : CF} {k j : Nat} (h : j < (tellC c k).length) : midC c k (j + 1) = midC c k j ++ [32] ++ textC k (tellC c k)[j] := by
  unfold midC
  rw [List.take_succ_eq_append_getElem h, List.flatMap_append]
  simp
theorem preC_mono (c : CF) : ∀ {k n : Nat}, k ≤ n → (preC c k).length ≤ (preC c n).length := by
  intro k n h
  induction n with
  | zero => obtain rfl : k = 0 := by omega
            exact Nat.le_refl _
  | succ n ih =>
    rcases Nat.lt_or_ge n k with h1 | h1
    · obtain rfl : k = n + 1 := by omega
      exact Nat.le_refl _
    · refine Nat.le_trans (ih h1) ?_
      rw [show preC c (n + 1) = preC c n ++ rowC c n by unfold preC; rw [List.range_succ, List.flatMap_append]; simp, List.length_append]
      omega
theorem midC_mono (c : CF) (k : Nat) : ∀ {j n : Nat}, j ≤ n → n ≤ (tellC c k).length → (midC c k j).length ≤ (midC c k n).length := by
  intro j n h hn
  induction n with
  | zero => obtain rfl : j = 0 := by omega
            exact Nat.le_refl _
  | succ n ih =>
    rcases Nat.lt_or_ge n j with h1 | h1
    · obtain rfl : j = n + 1 := by omega
      exact Nat.le_refl _
    · refine Nat.le_trans (ih h1 (by omega)) ?_
      rw [midC_next (by omega), List.length_append, List.length_append]
      omega
theorem pre_512 {c : CF} (h : checkC c = 0) {k : Nat} (hk : k ≤ 7) : (preC c k).length ≤ 512 := by
  refine Nat.le_trans (preC_mono c hk) ?_
  have := show_len h
  unfold showC at this
  rw [if_pos h] at this
  exact this
theorem mid_512 {c : CF} (h : checkC c = 0) {k j : Nat} (hk : k < 7) (hj : j ≤ (tellC c k).length) : (midC c k j).length ≤ 511 := by
  have h1 := midC_mono c k hj (Nat.le_refl _)
  have h2 := pre_512 h (k := k + 1) (by omega)
  rw [preC_next, List.length_append] at h2
  simp at h2
  omega
theorem wr_bound {a b m : List UInt8} (h : a ++ b = m) (hm : m.length ≤ 511) : a.length + (⟨b.toArray⟩ : ByteArray).size ≤ 140737488355328 := by
  rw [← h, List.length_append] at hm
  have : (⟨b.toArray⟩ : ByteArray).size = b.length := by simp [ByteArray.size]
  omega
set_option maxRecDepth 100000 in
set_option maxHeartbeats 4000000 in
theorem prg_Show (w : World) (c : CF) (A : Option Addr) (cap : Nat) (hl : Sl w 1 A c.weights.length cap (ints c.weights)) (h63 : c.weights.length ≤ 1000) (ht : TbVar w) :
    Calls Tryd.prog 22 #[.agg (cfA c A cap)] w fun e w' => e = .returned (.string ⟨(showC c).toArray⟩) ∧ Fr Nob w w' := by
  have HT := Lib.hid (fun (W : World) (hf : Fr Nob w W) (k : Nat) (hk : k < 7) => tell_all W c A cap k hk (hl.pure hf) h63)
  have HL := Lib.hid hl
  have HTB := Lib.hid ht
  have HCK := Lib.hid (fun (W : World) (hf : Fr Nob w W) => prg_Check W c A cap (hl.pure hf) h63)
  clear hl ht
  go_enter Tryd.func22, Tryd.ntmps22
  go_upto_region 1 with fail
  obtain ⟨W0, hW0⟩ : ∃ W0, W0 = w.alloc (.cells (cfA c A cap) 43) := ⟨_, rfl⟩
  have HF0 := Lib.hid (show Fr Nob w W0 by rw [hW0]; exact (Fr.refl _ _).alloc _)
  have HB0 := Lib.hid (show Blk W0 w.heap.size 43 (cfA c A cap) by rw [hW0]; exact Blk.new _ _ _)
  rw [← hW0]
  clear hW0
  have HC0 := Lib.hid (HCK.out W0 HF0.out)
  have bx := HB0.out.cell
  have bl_ := HB0.out.lt
  unfold cfA at bx HC0
  by_cases hck : checkC c = 0
  · have HK := Lib.hid hck
    rw [hck] at HC0
    clear hck
    go_upto_region 3 with (first | ((go_at_call 20); (with_reducible refine HC0.out.mono ?_); rintro e W1 ⟨rfl, hf1⟩; have HF1 := Lib.hid (HF0.out.call hf1 (fun _ e _ => e)); have HB1 := Lib.hid (HB0.out.fr hf1 (fun e => e)); clear hf1) | fail)
    clear bx bl_
    go_upto_region 4 with fail
    obtain ⟨W2, hW2⟩ : ∃ W2, W2 = W1.alloc (.cells #[.pointer none, .slice none 0 0] 95) := ⟨_, rfl⟩
    have HF2 := Lib.hid (show Fr Nob W1 W2 by rw [hW2]; exact (Fr.refl _ _).alloc _)
    have HD2 := Lib.hid (show Bd W1.heap.size W1.heap.size [] W2 by rw [hW2]; exact Lib.IsBuilderF.of (Lib.fresh_isBuilder 95 5 W1))
    rw [← hW2]
    clear hW2
    go_wp2_with ((go_at_call 43); refine (prg_settings _).mono ?_; rintro e w' ⟨rfl, rfl⟩)
    have HS0 := Lib.hid (show SwS W1 (W2.alloc (.cells setA 90)) W2.heap.size (preC c 0) from ⟨HF2.out.alloc _, Blk.new _ _ _, HD2.out.alloc _⟩)
    generalize W2.heap.size = gs at *
    generalize W2.alloc (.cells setA 90) = W3 at *
    clear HD2 HF2
    go_loopw [13] (fun iv wr => ∃ k : Nat, k ≤ 7 ∧ iv = .int .i64 k ∧ Hid (SwS W1 wr gs (preC c k))) (fun iv _ => 7 - (RowKit.intOf iv).toNat)
    case atStart => exact ⟨0, by omega, rfl, HS0⟩
    case round =>
      obtain ⟨k, hk, rfl, hs⟩ := hrel
      by_cases hlt : k < 7
      · have hI : (k : Int) < 7 := by omega
        have hI3 : 0 ≤ (k : Int) := by omega
        obtain ⟨c0, c1, c2, c3, c4⟩ := set_row hs.out.st hlt
        have hgl := hs.out.st.lt
        have eg := tell_enters k hlt
        have HTK := Lib.hid (fun (W : World) (hf : Fr Nob w W) => HT.out W hf k hlt)
        have HTL := Lib.hid (tell_len c k)
        have HALL := Lib.hid ((check_all HK.out).1 k hlt)
        have HM0 := Lib.hid (show preC c k ++ keysC.getD k [] = midC c k 0 by unfold midC; simp)
        have HM5 := Lib.hid (fun j (hj : j ≤ (tellC c k).length) => mid_512 HK.out hlt hj)
        have HPN := Lib.hid (preC_next c k)
        have HMN := Lib.hid (fun j (hj : j < (tellC c k).length) => midC_next hj)
        have HKP := Lib.hid (show (keysC.getD k [] == [112, 111, 108, 105, 99, 121]) = decide (k = 2) from (show ∀ k, k < 7 → (keysC.getD k [] == [112, 111, 108, 105, 99, 121]) = decide (k = 2) by decide) k hlt)
        have HKL := Lib.hid (key_word hlt).2.2.2
        unfold strV at c0
        unfold fnV at c4 c3
        generalize keysC.getD k [] = kw at *
        generalize loC k = lo at *
        generalize hiC k = hi at *
        generalize takeN.getD k 0 = nQ at *
        generalize tellN.getD k 0 = nT at *
        generalize tellC c k = l at *
        unfold cfA at HTK
        have HBR := Lib.hid (fun (W : World) (h : Fr Nob W1 W) => HB1.out.fr h (fun e => e))
        unfold cfA at HBR
        go_wp2_with (first | (refine wpList_stBox rfl rfl (by rfl) (by rfl) (by kernel_rfl) (by rfl) (Blk.new _ _ _) (by rfl) ?_; intro W7 hb7 hf7; have HB7 := Lib.hid hb7; have HS7 := Lib.hid (hs.out.call (((Fr.refl Nob wr).alloc _).call hf7 (fun i (hi : i = wr.heap.size) hlt => by omega))); have b7 := hb7.cell; have l7 := hb7.lt; clear hb7 hf7) | ((go_at_call 44); refine (bd_WriteString W1.heap.size W1.heap.size _ ⟨kw.toArray⟩ _ HS7.out.bd (wr_bound HM0.out (HM5.out 0 (Nat.zero_le _))) HS7.out.fr.size).mono ?_; rintro e W8 ⟨rfl, hb8, hl8, hk8⟩; have HS8 := Lib.hid (HS7.out.write hb8 hl8 hk8); have HB8 := Lib.hid (hk8.blk HB7.out (HS7.out.bd.ne HB7.out (by decide)) (by decide)); have bx := (HBR.out W8 HS8.out.fr).cell; have bl_ := (HBR.out W8 HS8.out.fr).lt; have b8 := HB8.out.cell; have l8 := HB8.out.lt; clear hb8 hl8 hk8) | (refine (HTK.out _ (HF1.out.call HS8.out.fr (fun _ e _ => e))).mono ?_; rintro e W9 ⟨B, d, rfl, hsl, hin, hf9⟩; have HSL := Lib.hid (show TlS W9 B d l from ⟨hsl, hin⟩); have HS9 := Lib.hid (HS8.out.call hf9); have HB9 := Lib.hid (HB8.out.fr hf9 (fun e => e)); clear hsl hin hf9) | fail)
        rw [HM0.out] at HS9
        clear bx bl_ b7 l7 b8 l8 c0 c1 c2 c3 c4 eg hgl HTK HB7 HS7 HB8 HS8 hs
        have hmx := HSL.out.1.max
        have hle := HSL.out.1.le
        unfold maxLen at hmx
        have hl5 : l.length ≤ 1001 := by have := HTL.out; omega
        have HROW : ∀ W, Hid (Blk W wr.heap.size 90 #[.string ⟨kw.toArray⟩, .int .i64 lo, .int .i64 hi, .func (.func nQ) #[] #[], .func (.func nT) #[] #[]]) → W.cell? ⟨wr.heap.size, 0, none⟩ = some (.string ⟨kw.toArray⟩) ∧ wr.heap.size < W.heap.size := fun W h => ⟨h.out.cell 0, h.out.lt⟩
        have HROW := Lib.hid HROW
        generalize (#[.string ⟨kw.toArray⟩, .int .i64 lo, .int .i64 hi, .func (.func nQ) #[] #[], .func (.func nT) #[] #[]] : Array Value) = row at *
        generalize wr.heap.size = rb at *
        go_loopw [25] (fun jv wi => ∃ j : Nat, j ≤ l.length ∧ jv = .int .i64 j ∧ Hid (SwS W1 wi gs (midC c k j)) ∧ Hid (TlS wi B d l) ∧ Hid (Blk wi rb 90 row)) (fun jv _ => l.length - (RowKit.intOf jv).toNat)
        case atStart => exact ⟨0, Nat.zero_le _, rfl, HS9, HSL, HB9⟩
        case round =>
          obtain ⟨j, hj, rfl, hsj, htj, hbj⟩ := hrel
          by_cases hltj : j < l.length
          · have hJ : (j : Int) < l.length := by omega
            have hJ3 : 0 ≤ (j : Int) := by omega
            obtain ⟨g, off, hBe, hg, hcv⟩ := htj.out.1.int_at hltj
            subst hBe
            have HIN := Lib.hid (List.all_eq_true.1 HALL.out l[j] (List.getElem_mem _))
            have HNJ := Lib.hid (HMN.out j hltj)
            have HLJ := Lib.hid (HM5.out (j + 1) (by omega))
            have HLK := Lib.hid (show (midC c k j).length + 1 ≤ 140737488355328 by have := HM5.out j hj; omega)
            generalize l[j] = v at *
            have HKP1 := HKP.out
            by_cases h2 : k = 2
            · rw [decide_eq_true h2] at HKP1
              have hv : v = 0 ∨ v = 1 := by
                have := HIN.out
                rw [h2] at this
                simp only [inC, Bool.and_eq_true, decide_eq_true_eq, show loC 2 = 0 from rfl, show hiC 2 = 1 from rfl] at this
                omega
              rcases hv with rfl | rfl
              · have HTX := Lib.hid (show textC k 0 = tailC by rw [h2]; rfl)
                rw [HTX.out] at HNJ
                clear h2
                go_wp2_with (first | ((go_at_call 45); refine (bd_WriteByte W1.heap.size W1.heap.size _ 32 _ hsj.out.bd HLK.out hsj.out.fr.size).mono ?_; rintro e WA ⟨rfl, hb, hl, hk⟩; have HSA := Lib.hid (hsj.out.write hb hl hk); have HTA := Lib.hid (htj.out.write hsj.out.bd hk); have HBA := Lib.hid (hk.blk hbj.out (hsj.out.bd.ne hbj.out (by decide)) (by decide)); obtain ⟨rcA, rlA⟩ := HROW.out WA HBA; clear hb hl hk) | ((go_at_call 46); refine (prg_policies _).mono ?_; rintro e w' ⟨rfl, rfl⟩; have hap := Lib.hid ((Fr.refl Nob WA).alloc (.cells polA 9)); have HSP := Lib.hid (HSA.out.call hap.out); have HTP := Lib.hid (HTA.out.call hap.out); have HBP := Lib.hid (HBA.out.fr hap.out (fun e => e)); have pcq0 : polA[0]? = some (.string ⟨(tailC).toArray⟩) := rfl; have pcq1 : polA[1]? = some (.string ⟨(oldC).toArray⟩) := rfl) | ((go_at_call 44); refine (bd_WriteString W1.heap.size W1.heap.size _ ⟨(tailC).toArray⟩ _ HSP.out.bd (wr_bound HNJ.out.symm HLJ.out) HSP.out.fr.size).mono ?_; rintro e WB ⟨rfl, hb, hl, hk⟩; have HSB := Lib.hid (HSP.out.write hb hl hk); have HTB2 := Lib.hid (HTP.out.write HSP.out.bd hk); have HBB := Lib.hid (hk.blk HBP.out (HSP.out.bd.ne HBP.out (by decide)) (by decide)); clear hb hl hk) | fail)
                go_roundw
                case rel => exact ⟨j + 1, by omega, by go_num, by rw [HNJ.out]; exact HSB, HTB2, HBB⟩
                case measure => simp [RowKit.intOf]; omega
              · have HTX := Lib.hid (show textC k 1 = oldC by rw [h2]; rfl)
                rw [HTX.out] at HNJ
                clear h2
                go_wp2_with (first | ((go_at_call 45); refine (bd_WriteByte W1.heap.size W1.heap.size _ 32 _ hsj.out.bd HLK.out hsj.out.fr.size).mono ?_; rintro e WA ⟨rfl, hb, hl, hk⟩; have HSA := Lib.hid (hsj.out.write hb hl hk); have HTA := Lib.hid (htj.out.write hsj.out.bd hk); have HBA := Lib.hid (hk.blk hbj.out (hsj.out.bd.ne hbj.out (by decide)) (by decide)); obtain ⟨rcA, rlA⟩ := HROW.out WA HBA; clear hb hl hk) | ((go_at_call 46); refine (prg_policies _).mono ?_; rintro e w' ⟨rfl, rfl⟩; have hap := Lib.hid ((Fr.refl Nob WA).alloc (.cells polA 9)); have HSP := Lib.hid (HSA.out.call hap.out); have HTP := Lib.hid (HTA.out.call hap.out); have HBP := Lib.hid (HBA.out.fr hap.out (fun e => e)); have pcq0 : polA[0]? = some (.string ⟨(tailC).toArray⟩) := rfl; have pcq1 : polA[1]? = some (.string ⟨(oldC).toArray⟩) := rfl) | ((go_at_call 44); refine (bd_WriteString W1.heap.size W1.heap.size _ ⟨(oldC).toArray⟩ _ HSP.out.bd (wr_bound HNJ.out.symm HLJ.out) HSP.out.fr.size).mono ?_; rintro e WB ⟨rfl, hb, hl, hk⟩; have HSB := Lib.hid (HSP.out.write hb hl hk); have HTB2 := Lib.hid (HTP.out.write HSP.out.bd hk); have HBB := Lib.hid (hk.blk HBP.out (HSP.out.bd.ne HBP.out (by decide)) (by decide)); clear hb hl hk) | fail)
                go_roundw
                case rel => exact ⟨j + 1, by omega, by go_num, by rw [HNJ.out]; exact HSB, HTB2, HBB⟩
                case measure => simp [RowKit.intOf]; omega
            · rw [decide_eq_false h2] at HKP1
              have HTX := Lib.hid (show textC k v = digsI v by unfold textC; rw [if_neg h2])
              have H64 := Lib.hid (show I64 v by
                have := HIN.out
                simp only [inC, Bool.and_eq_true, decide_eq_true_eq] at this
                obtain ⟨e1, e2⟩ := this
                unfold I64
                have : 0 ≤ loC k := by unfold loC; split <;> decide
                have : hiC k ≤ 9223372036854775807 := by unfold hiC; (repeat' split) <;> decide
                omega)
              rw [HTX.out] at HNJ
              clear h2
              go_wp2_with (first | ((go_at_call 45); refine (bd_WriteByte W1.heap.size W1.heap.size _ 32 _ hsj.out.bd HLK.out hsj.out.fr.size).mono ?_; rintro e WA ⟨rfl, hb, hl, hk⟩; have HSA := Lib.hid (hsj.out.write hb hl hk); have HTA := Lib.hid (htj.out.write hsj.out.bd hk); have HBA := Lib.hid (hk.blk hbj.out (hsj.out.bd.ne hbj.out (by decide)) (by decide)); obtain ⟨rcA, rlA⟩ := HROW.out WA HBA; clear hb hl hk) | ((go_at_call 47); refine (sc_Digits _ v H64.out (HTB.out.fr (HF1.out.call HSA.out.fr (fun _ e _ => e)))).mono ?_; rintro e WP ⟨rfl, hf⟩; have HSP := Lib.hid (HSA.out.call hf); have HTP := Lib.hid (HTA.out.call hf); have HBP := Lib.hid (HBA.out.fr hf (fun e => e)); clear hf) | ((go_at_call 44); refine (bd_WriteString W1.heap.size W1.heap.size _ ⟨(digsI v).toArray⟩ _ HSP.out.bd (wr_bound HNJ.out.symm HLJ.out) HSP.out.fr.size).mono ?_; rintro e WB ⟨rfl, hb, hl, hk⟩; have HSB := Lib.hid (HSP.out.write hb hl hk); have HTB2 := Lib.hid (HTP.out.write HSP.out.bd hk); have HBB := Lib.hid (hk.blk HBP.out (HSP.out.bd.ne HBP.out (by decide)) (by decide)); clear hb hl hk) | fail)
              go_roundw
              case rel => exact ⟨j + 1, by omega, by go_num, by rw [HNJ.out]; exact HSB, HTB2, HBB⟩
              case measure => simp [RowKit.intOf]; omega
          · have hJ : ¬ (j : Int) < l.length := by omega
            obtain rfl : j = l.length := by omega
            have HLK := Lib.hid (show (midC c k l.length).length + 1 ≤ 140737488355328 by have := HM5.out _ hj; omega)
            go_wp2_with (first | ((go_at_call 45); refine (bd_WriteByte W1.heap.size W1.heap.size _ 10 _ hsj.out.bd HLK.out hsj.out.fr.size).mono ?_; rintro e WA ⟨rfl, hb, hl, hk⟩; have HSA := Lib.hid (hsj.out.write hb hl hk); rw [← HPN.out] at HSA; clear hb hl hk) | fail)
            go_roundw
            case rel => exact ⟨k + 1, by omega, by go_num, HSA⟩
            case measure => simp [RowKit.intOf]; omega
      · have hI : ¬ (k : Int) < 7 := by omega
        obtain rfl : k = 7 := by omega
        have HR := Lib.hid (show showC c = preC c 7 by unfold showC; rw [if_pos HK.out]; rfl)
        go_wp2_with (first | ((go_at_call 48); refine (bd_String _ _ _ _ hs.out.bd hs.out.fr.size).mono ?_; rintro e WA ⟨rfl, hb, hl, hk⟩; have HSA := Lib.hid (hs.out.write hb hl hk); clear hb hl hk) | fail)
        go_ret
        rw [HR.out]
        exact ⟨rfl, HF1.out.call HSA.out.fr (fun _ e _ => e)⟩
  · have HR := Lib.hid (show showC c = [] by unfold showC; rw [if_neg hck])
    have hck2 : (checkC c == 0) = false := by simpa using hck
    go_wp2_with (first | ((go_at_call 20); (with_reducible refine HC0.out.mono ?_); rintro e W1 ⟨rfl, hf1⟩; have HF1 := Lib.hid (HF0.out.call hf1 (fun _ e _ => e)); clear hf1) | fail)
    go_ret
    rw [HR.out]
    exact ⟨rfl, HF1.out⟩
end Go.Proofs.YtoegdmpmagbaiaaDoor
