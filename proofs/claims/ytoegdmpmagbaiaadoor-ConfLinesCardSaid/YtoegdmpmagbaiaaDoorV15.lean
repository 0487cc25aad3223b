/- What is wrong with a configuration: the program's walk. -/
import Derived.Test.YtoegdmpmagbaiaaDoorV9
import Derived.Test.YtoegdmpmagbaiaaDoorV5
import Derived.Test.YtoegdmpmagbaiaaDoorBox
import Derived.Deep.DeepCutAuto
import Derived.Shelf.Abstract
namespace Go.Proofs.YtoegdmpmagbaiaaDoor
open Go.RowKit Go.Lib Go.Shelf

theorem tell_all (w : World) (c : CF) (A : Option Addr) (cap k : Nat) (hk : k < 7) (hl : Sl w 1 A c.weights.length cap (ints c.weights)) (h63 : c.weights.length ≤ 1000) : Calls Tryd.prog (tellN.getD k 0) #[.agg (cfA c A cap)] w fun e w' => IsL e w w' (tellC c k) := by
  have a : k = 0 ∨ k = 1 ∨ k = 2 ∨ k = 3 ∨ k = 4 ∨ k = 5 ∨ k = 6 := by omega
  rcases a with rfl | rfl | rfl | rfl | rfl | rfl | rfl
  · exact tell_0 w c A cap
  · exact tell_1 w c A cap
  · exact tell_2 w c A cap
  · exact tell_3 w c A cap hl h63
  · exact tell_4 w c A cap
  · exact tell_5 w c A cap
  · exact tell_6 w c A cap
theorem tell_enters (k : Nat) (hk : k < 7) : ∀ args w, (callFunc (tellN.getD k 0) args).run Tryd.prog w = .ok (.enter (tellN.getD k 0) args) w := by
  have a : k = 0 ∨ k = 1 ∨ k = 2 ∨ k = 3 ∨ k = 4 ∨ k = 5 ∨ k = 6 := by omega
  rcases a with rfl | rfl | rfl | rfl | rfl | rfl | rfl
  · exact enters_of Tryd.func63 (by kernel_rfl) rfl
  · exact enters_of Tryd.func65 (by kernel_rfl) rfl
  · exact enters_of Tryd.func67 (by kernel_rfl) rfl
  · exact enters_of Tryd.func70 (by kernel_rfl) rfl
  · exact enters_of Tryd.func72 (by kernel_rfl) rfl
  · exact enters_of Tryd.func74 (by kernel_rfl) rfl
  · exact enters_of Tryd.func76 (by kernel_rfl) rfl
theorem tell_len (c : CF) (k : Nat) : (tellC c k).length ≤ c.weights.length + 1 := by
  unfold tellC
  (repeat' split) <;> simp
theorem check_far {c : CF} {k : Nat} (hk : k < 7) {v : Int} (hv : v ∈ tellC c k) (hn : inC k v = false) : checkC c = 33 := by
  unfold checkC
  rw [if_neg]
  intro h
  have := List.all_eq_true.1 (List.all_eq_true.1 h k (List.mem_range.2 hk)) v hv
  rw [hn] at this
  cases this
set_option maxRecDepth 100000 in
set_option maxHeartbeats 4000000 in
theorem prg_Check (w : World) (c : CF) (A : Option Addr) (cap : Nat) (hl : Sl w 1 A c.weights.length cap (ints c.weights)) (h63 : c.weights.length ≤ 1000) :
    Calls Tryd.prog 20 #[.agg (cfA c A cap)] w fun e w' => e = .returned (.int .i64 (checkC c)) ∧ Fr Nob w w' := by
  have HT := Lib.hid (fun (W : World) (hf : Fr Nob w W) (k : Nat) (hk : k < 7) => tell_all W c A cap k hk (hl.pure hf) h63)
  have HL := Lib.hid hl
  clear hl
  go_enter Tryd.func20, Tryd.ntmps20
  go_upto_region 1 with fail
  obtain ⟨W0, hW0⟩ : ∃ W0, W0 = w.alloc (.cells (cfA c A cap) 43) := ⟨_, rfl⟩
  have HF0 := Lib.hid (show Fr Nob w W0 by rw [hW0]; exact (Fr.refl _ _).alloc _)
  have HB0 := Lib.hid (show Blk W0 w.heap.size 43 (cfA c A cap) by rw [hW0]; exact Blk.new _ _ _)
  rw [← hW0]
  clear hW0
  go_wp2_with ((go_at_call 43); refine (prg_settings _).mono ?_; rintro e w' ⟨rfl, rfl⟩)
  have HF1 := Lib.hid (HF0.out.alloc (.cells setA 90))
  have HB1 := Lib.hid (HB0.out.alloc (.cells setA 90))
  have HS1 := Lib.hid (Blk.new W0 90 setA)
  generalize W0.heap.size = gs at *
  generalize W0.alloc (.cells setA 90) = W1 at *
  clear HF0 HB0
  go_loopw [9] (fun iv wr => ∃ k : Nat, k ≤ 7 ∧ iv = .int .i64 k ∧ Hid (Fr Nob W1 wr) ∧ Hid (∀ j, j < k → (tellC c j).all (inC j) = true)) (fun iv _ => 7 - (RowKit.intOf iv).toNat)
  case atStart => exact ⟨0, by omega, rfl, Lib.hid (Fr.refl _ _), Lib.hid (fun j hj => absurd hj (by omega))⟩
  case round =>
    obtain ⟨k, hk, rfl, hf, hr⟩ := hrel
    have HFr := Lib.hid (HF1.out.call hf.out (fun _ h _ => h))
    have HBr := Lib.hid (HB1.out.fr hf.out (fun e => e))
    have bx := HBr.out.cell
    have bl_ := HBr.out.lt
    unfold cfA at bx
    by_cases hlt : k < 7
    · have hI : (k : Int) < 7 := by omega
      have hI3 : 0 ≤ (k : Int) := by omega
      obtain ⟨c0, c1, c2, c3, c4⟩ := set_row (HS1.out.fr hf.out (fun e => e)) hlt
      have hgl := (HS1.out.fr hf.out (fun e => e)).lt
      have eg := tell_enters k hlt
      have HTK := Lib.hid (fun (W : World) (hf : Fr Nob w W) => HT.out W hf k hlt)
      have HTL := Lib.hid (tell_len c k)
      have HFAR := Lib.hid (fun (v : Int) (hv : v ∈ tellC c k) (hn : inC k v = false) => check_far hlt hv hn)
      have HIN := Lib.hid (show ∀ v, inC k v = (decide (loC k ≤ v) && decide (v ≤ hiC k)) from fun _ => rfl)
      have HNX := Lib.hid (show (tellC c k).all (inC k) = true → ∀ j, j < k + 1 → (tellC c j).all (inC j) = true from fun e j hj => by
        by_cases hjk : j < k
        · exact hr.out j hjk
        · obtain rfl : j = k := by omega
          exact e)
      unfold strV at c0
      unfold fnV at c4 c3
      generalize keysC.getD k [] = kw at *
      generalize loC k = lo at *
      generalize hiC k = hi at *
      generalize takeN.getD k 0 = nQ at *
      generalize tellN.getD k 0 = nT at *
      generalize tellC c k = l at *
      unfold cfA at HTK
      go_wp2_with (first | (refine wpList_stBox rfl rfl (by rfl) (by rfl) (by kernel_rfl) (by rfl) (Blk.new _ _ _) (by rfl) ?_; intro W7 hb7 hf7; have HB7 := Lib.hid hb7; have HF7 := Lib.hid (show Fr Nob wr W7 from ((Fr.refl Nob wr).alloc _).call hf7 (fun i (hi : i = wr.heap.size) hlt => by omega)); have bx := (HBr.out.fr HF7.out (fun e => e)).cell; have bl_ := (HBr.out.fr HF7.out (fun e => e)).lt; unfold cfA at bx; have b7 := hb7.cell; have l7 := hb7.lt; clear hb7 hf7) | (refine (HTK.out _ (HFr.out.call HF7.out (fun _ e _ => e.elim))).mono ?_; rintro e W2 ⟨B, d, rfl, hsl, _, hf2⟩; have HSL := Lib.hid hsl; have HF2 := Lib.hid hf2; clear hsl hf2) | fail)
      have HFW := Lib.hid ((HFr.out.call HF7.out (fun _ e _ => e.elim)).call HF2.out (fun _ e _ => e.elim))
      have HBW := Lib.hid ((HBr.out.fr HF7.out (fun e => e)).fr HF2.out (fun e => e))
      have HRW := Lib.hid (HB7.out.fr HF2.out (fun e => e))
      have HF1W := Lib.hid ((hf.out.call HF7.out (fun _ e _ => e.elim)).call HF2.out (fun _ e _ => e.elim))
      clear bx bl_ b7 l7 c0 c1 c2 c3 c4 eg hgl HTK HF7 HF2 HB7
      have hmx := HSL.out.max
      have hle := HSL.out.le
      unfold maxLen at hmx
      have hl5 : l.length ≤ 1001 := by have := HTL.out; omega
      go_loopw [18] (fun jv wi => ∃ j : Nat, j ≤ l.length ∧ jv = .int .i64 j ∧ Hid (Fr Nob W2 wi) ∧ Hid ((l.take j).all (inC k) = true)) (fun jv _ => l.length - (RowKit.intOf jv).toNat)
      case atStart => exact ⟨0, Nat.zero_le _, rfl, Lib.hid (Fr.refl _ _), Lib.hid rfl⟩
      case round =>
        obtain ⟨j, hj, rfl, hfi, hrj⟩ := hrel
        have b7 := (HRW.out.fr hfi.out (fun e => e)).cell
        have l7 := (HRW.out.fr hfi.out (fun e => e)).lt
        by_cases hltj : j < l.length
        · have hJ : (j : Int) < l.length := by omega
          have hJ3 : 0 ≤ (j : Int) := by omega
          obtain ⟨g, off, hBe, hg, hcv⟩ := (HSL.out.pure hfi.out).int_at hltj
          subst hBe
          have HM := Lib.hid (show l[j] ∈ l from List.getElem_mem _)
          have HT1 := Lib.hid (show inC k l[j] = true → (l.take (j + 1)).all (inC k) = true from fun e => by
            rw [List.take_succ_eq_append_getElem hltj, List.all_append, hrj.out]
            simp [e])
          generalize l[j] = v at *
          by_cases hlo : v < lo
          · have HR := Lib.hid (show checkC c = 33 from HFAR.out v HM.out (by rw [HIN.out]; simp [show ¬ lo ≤ v by omega]))
            go_wp2_with fail
            go_ret
            exact ⟨by rw [HR.out]; rfl, HFW.out.call hfi.out (fun _ e _ => e.elim)⟩
          · by_cases hhi : hi < v
            · have HR := Lib.hid (show checkC c = 33 from HFAR.out v HM.out (by rw [HIN.out]; simp [show ¬ v ≤ hi by omega]))
              go_wp2_with fail
              go_ret
              exact ⟨by rw [HR.out]; rfl, HFW.out.call hfi.out (fun _ e _ => e.elim)⟩
            · have HT2 := Lib.hid (HT1.out (by rw [HIN.out]; simp [show lo ≤ v by omega, show v ≤ hi by omega]))
              go_wp2_with fail
              go_roundw
              case rel => exact ⟨j + 1, by omega, by go_num, hfi, HT2⟩
              case measure => simp [RowKit.intOf]; omega
        · have hJ : ¬ (j : Int) < l.length := by omega
          have HA := Lib.hid (show l.all (inC k) = true by have := hrj.out; rwa [List.take_of_length_le (by omega)] at this)
          go_wp2_with fail
          go_roundw
          case rel => exact ⟨k + 1, by omega, by go_num, Lib.hid (HF1W.out.call hfi.out (fun _ e _ => e.elim)), Lib.hid (HNX.out HA.out)⟩
          case measure => simp [RowKit.intOf]; omega
    · have hI : ¬ (k : Int) < 7 := by omega
      obtain rfl : k = 7 := by omega
      have HCE := Lib.hid (show checkC c = if (c.weights.length : Int) = c.sources then 0 else 34 by
        unfold checkC
        rw [if_pos (List.all_eq_true.2 fun j hj => hr.out j (List.mem_range.1 hj))])
      by_cases hq : (c.weights.length : Int) = c.sources
      · have HR := Lib.hid (HCE.out.trans (if_pos hq))
        have hq2 : ((c.weights.length : Int) == c.sources) = true := by simpa using hq
        clear hq
        go_wp2_with fail
        go_ret
        exact ⟨by rw [HR.out]; rfl, HFr.out⟩
      · have HR := Lib.hid (HCE.out.trans (if_neg hq))
        have hq2 : ((c.weights.length : Int) == c.sources) = false := by simpa using hq
        clear hq
        go_wp2_with fail
        go_ret
        exact ⟨by rw [HR.out]; rfl, HFr.out⟩
end Go.Proofs.YtoegdmpmagbaiaaDoor
