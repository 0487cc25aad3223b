/- The reference: what comes of a setting's line. -/
import Derived.Test.YtoegdmpmagbaiaaDoorV21
import Derived.Test.YtoegdmpmagbaiaaDoorV22
import Derived.Test.YtoegdmpmagbaiaaDoorV23
namespace Go.Proofs.YtoegdmpmagbaiaaDoor
open Go.RowKit Go.Lib

/-- What a setting's line answers. -/
def LineP (w : World) (A0 : Option Addr) (c : CF) (k : Nat) (r : List (List UInt8)) (e : Ending) (w' : World) : Prop :=
  ∃ c' A' cap', e = .returned (.tuple #[.agg (cfA c' A' cap'), .int .i64 (restC (c, []) k r).1]) ∧ ((restC (c, []) k r).1 = 0 → c' = (restC (c, []) k r).2.1 ∧ Sl w' 1 A' c'.weights.length cap' (ints c'.weights) ∧ ∀ g o, A' = some ⟨g, o, none⟩ → (A' = A0 ∧ c'.weights = c.weights) ∨ w.heap.size ≤ g) ∧ Fr Nob w w'
theorem pol_one {x : List UInt8} : valsC 2 [x] = (polC x).map fun v => [v] := by
  unfold valsC
  rw [show valC 2 x = polC x from rfl]
  cases polC x <;> rfl
set_option maxRecDepth 100000 in
set_option maxHeartbeats 4000000 in
theorem ref_line (w : World) (c : CF) (A B : Option Addr) (cap n d k : Nat) (ws : List ByteArray) (hk : k < 7) (hw : k = 3 → c.weights = []) (hl : Sl w 1 A c.weights.length cap (ints c.weights)) (hs : Sl w 1 B n d (strB ws)) (hlen : ws.length ≤ 1000) (hsz : ∀ x ∈ ws, x.size ≤ 100000) :
    Calls Tryd.prog 42 #[.agg (cfA c A cap), .int .i64 ((k : Int) + 1), .slice B n d] w fun e w' => LineP w A c k (bl ws) e w' := by
  have hn : ws.length = n := by have := hs.len; rw [strB_len] at this; omega
  subst hn
  have HS := Lib.hid hs
  have hmx := hs.max
  have hle := hs.le
  unfold maxLen at hmx
  have hbl := bl_len ws
  have HL := Lib.hid hl
  have HWS := Lib.hid hw
  have HSZ := Lib.hid hsz
  obtain ⟨wl, HW⟩ : ∃ wl, Hid (c.weights.length = wl) := ⟨_, Lib.hid rfl⟩
  rw [HW.out] at HL
  clear hs hl hw hsz
  unfold cfA
  rw [HW.out]
  by_cases h0 : ws.length = 0
  · have HR := Lib.hid (show restC (c, []) k (bl ws) = (11, (c, [])) from restC_bad (.inl (List.length_eq_zero_iff.1 (by omega))))
    have hJ : ((ws.length : Int) == 0) = true := by simpa using h0
    rw [h0] at *
    clear h0 hbl
    go_enter Tryd.func42, Tryd.ntmps42
    go_wp2_with fail
    refine bodyPost_ret (ret_box1 (p := 6) (u := 7) rfl rfl ⟨_, Tryd.underlying47, rfl⟩ (by kernel_rfl) (by first | exact Blk.new_eq rfl | exact Blk.new_eq (by simp))) rfl ?_
    unfold LineP
    rw [HR.out]
    exact ⟨c, A, cap, by unfold cfA; rw [HW.out]; rfl, fun e => by simp at e, ((Fr.refl _ _).alloc _).alloc _⟩
  · have hJ : ((ws.length : Int) == 0) = false := by simpa using h0
    by_cases h1 : 1 < ws.length ∧ k ≠ 3
    · have HR := Lib.hid (show restC (c, []) k (bl ws) = (11, (c, [])) from restC_bad (.inr ⟨by omega, h1.2⟩))
      have hI : (1 : Int) < ws.length := by omega
      have hk3 : ((k : Int) + 1 == 4) = false := by simp; omega
      clear h0 h1 hbl
      go_enter Tryd.func42, Tryd.ntmps42
      go_wp2_with fail
      refine bodyPost_ret (ret_box1 (p := 6) (u := 7) rfl rfl ⟨_, Tryd.underlying47, rfl⟩ (by kernel_rfl) (by first | exact Blk.new_eq rfl | exact Blk.new_eq (by simp))) rfl ?_
      unfold LineP
      rw [HR.out]
      exact ⟨c, A, cap, by unfold cfA; rw [HW.out]; rfl, fun e => by simp at e, ((Fr.refl _ _).alloc _).alloc _⟩
    · have hbad : ¬ (bl ws = [] ∨ (1 < (bl ws).length ∧ k ≠ 3)) := by
        rintro (e | ⟨e1, e2⟩)
        · exact h0 (by rw [← hbl, e]; rfl)
        · exact h1 ⟨by omega, e2⟩
      have HBD := Lib.hid hbad
      have HN1 := Lib.hid (show k ≠ 3 → ws.length = 1 from fun h3 => by
        have : ¬ 1 < ws.length := fun e => h1 ⟨e, h3⟩
        omega)
      by_cases h2 : k = 2
      · subst h2
        obtain ⟨x, rfl⟩ := List.length_eq_one_iff.1 (HN1.out (by decide))
        obtain ⟨g, o, rfl, hg, hc⟩ := HS.out.str_at (k := 0) (by simp)
        simp only [List.getElem_cons_zero, Nat.add_zero] at hc
        have HB1 := Lib.hid (show bl [x] = [x.data.toList] from rfl)
        clear hbad h0 h1 hbl hJ
        by_cases ho : x.data.toList = oldC
        · have HR := Lib.hid (show restC (c, []) 2 (bl [x]) = (0, ({ c with oldest := true }, [2])) by
            rw [restC_ok (vs := [1]) HBD.out (by rw [HB1.out, pol_one, ho]; rfl) rfl]
            rfl)
          have q1 : (x.toList == [111, 108, 100, 101, 115, 116]) = true := by rw [ByteArray.toList_eq, ho]; rfl
          clear ho
          go_enter Tryd.func42, Tryd.ntmps42
          go_wp2_with fail
          refine bodyPost_ret (ret_box1 (p := 6) (u := 7) rfl rfl ⟨_, Tryd.underlying47, rfl⟩ (by kernel_rfl) (by first | exact Blk.new_eq rfl | exact Blk.new_eq (by simp))) rfl ?_
          unfold LineP
          rw [HR.out]
          refine ⟨{ c with oldest := true }, A, cap, by unfold cfA; simp only [HW.out]; rfl, fun _ => ⟨rfl, ?_, fun _ _ _ => .inl ⟨rfl, rfl⟩⟩, ((Fr.refl _ _).alloc _).alloc _⟩
          rw [HW.out]
          exact (HL.out.alloc _).alloc _
        · have q1 : (x.toList == [111, 108, 100, 101, 115, 116]) = false := by rw [ByteArray.toList_eq, beq_eq_false_iff_ne]; exact ho
          by_cases ht : x.data.toList = tailC
          · have HR := Lib.hid (show restC (c, []) 2 (bl [x]) = (0, ({ c with oldest := false }, [2])) by
              rw [restC_ok (vs := [0]) HBD.out (by rw [HB1.out, pol_one, ht]; rfl) rfl]
              rfl)
            have q2 : (x.toList == [116, 97, 105, 108]) = true := by rw [ByteArray.toList_eq, ht]; rfl
            clear ho ht
            go_enter Tryd.func42, Tryd.ntmps42
            go_wp2_with fail
            refine bodyPost_ret (ret_box1 (p := 6) (u := 7) rfl rfl ⟨_, Tryd.underlying47, rfl⟩ (by kernel_rfl) (by first | exact Blk.new_eq rfl | exact Blk.new_eq (by simp))) rfl ?_
            unfold LineP
            rw [HR.out]
            refine ⟨{ c with oldest := false }, A, cap, by unfold cfA; simp only [HW.out]; rfl, fun _ => ⟨rfl, ?_, fun _ _ _ => .inl ⟨rfl, rfl⟩⟩, ((Fr.refl _ _).alloc _).alloc _⟩
            rw [HW.out]
            exact (HL.out.alloc _).alloc _
          · have HR := Lib.hid (show restC (c, []) 2 (bl [x]) = (11, (c, [])) by
              rw [restC_none]
              rw [HB1.out, pol_one]
              unfold polC
              rw [if_neg ht, if_neg ho]
              rfl)
            have q2 : (x.toList == [116, 97, 105, 108]) = false := by rw [ByteArray.toList_eq, beq_eq_false_iff_ne]; exact ht
            clear ho ht
            go_enter Tryd.func42, Tryd.ntmps42
            go_wp2_with fail
            refine bodyPost_ret (ret_box1 (p := 6) (u := 7) rfl rfl ⟨_, Tryd.underlying47, rfl⟩ (by kernel_rfl) (by first | exact Blk.new_eq rfl | exact Blk.new_eq (by simp))) rfl ?_
            unfold LineP
            rw [HR.out]
            exact ⟨{ c with oldest := false }, A, cap, by unfold cfA; simp only [HW.out]; rfl, fun e => by simp at e, ((Fr.refl _ _).alloc _).alloc _⟩
      · have hk3 : ((k : Int) + 1 == 3) = false := by simp; omega
        have HK3 := Lib.hid hk3
        go_enter Tryd.func42, Tryd.ntmps42
        go_upto_region 1 with fail
        obtain ⟨W1, hW1⟩ : ∃ W1, W1 = (w.alloc (.cells #[.int .i64 c.sources, .int .i64 c.room, .bool c.oldest, .slice A wl cap, .int .i64 c.quantum, .int .i64 c.timeout, .int .i64 c.patience] 47)).alloc (.cells #[.int .i64 0, .int .i64 0, .bool false, .slice none 0 0, .int .i64 0, .int .i64 0, .int .i64 0] 47) := ⟨_, rfl⟩
        have HF1 := Lib.hid (show Fr Nob w W1 by rw [hW1]; exact ((Fr.refl _ _).alloc _).alloc _)
        have HB3 := Lib.hid (show Blk W1 w.heap.size 47 #[.int .i64 c.sources, .int .i64 c.room, .bool c.oldest, .slice A wl cap, .int .i64 c.quantum, .int .i64 c.timeout, .int .i64 c.patience] by rw [hW1]; exact (Blk.new _ _ _).alloc _)
        have HB6 := Lib.hid (show Blk W1 (w.heap.size + 1) 47 #[.int .i64 0, .int .i64 0, .bool false, .slice none 0 0, .int .i64 0, .int .i64 0, .int .i64 0] by rw [hW1]; exact Blk.new_eq (by simp))
        rw [← hW1]
        clear hW1
        go_cut [24] (fun cv wx => cv = .bool false ∧ wx = W1)
        case first =>
          clear hbl hbad
          by_cases hl1 : 1 < ws.length
          · have hI : (1 : Int) < ws.length := by omega
            have hk4 : ((k : Int) + 1 == 4) = true := by
              by_cases h3 : k = 3
              · subst h3; rfl
              · exact absurd ⟨hl1, h3⟩ h1
            clear h1 hl1 h0
            go_wp2_with fail
            go_meet
            exact ⟨by first | rfl | (simp only [bne, hk4]; rfl), rfl⟩
          · have hI : ¬ (1 : Int) < ws.length := by omega
            clear h1 hl1 h0
            go_wp2_with fail
            go_meet
            exact ⟨rfl, rfl⟩
        case rest =>
          obtain ⟨rfl, h4⟩ := hcut
          have h4' := h4.symm
          subst h4'
          have HBL := Lib.hid hbl
          clear h0 h1 hbad hJ hbl
          go_wp2_with fail
          go_loopw [8, 9] (fun sv iv wr => ∃ (j : Nat) (A' : Option Addr) (c' : Nat) (vs : List Int), j ≤ ws.length ∧ iv = .int .i64 j ∧ sv = .slice A' j c' ∧ Hid (vs.length = j) ∧ Hid (Ap W1 wr W1.heap.size 2 A' c' j (ints vs)) ∧ Hid (valsC k ((bl ws).take j) = some vs)) (fun _ iv _ => ws.length - (RowKit.intOf iv).toNat)
          case atStart => exact ⟨0, none, 0, [], Nat.zero_le _, rfl, rfl, Lib.hid rfl, Lib.hid (Ap.start (Fr.refl _ _) (Nat.le_refl _) (Nat.le_refl _)), Lib.hid rfl⟩
          case round =>
            obtain ⟨j, A', c', vs, hj, rfl, rfl, hvl, hp, hvs⟩ := hrel
            have HBa := Lib.hid (HB3.out.fr hp.out.fr (fun e => e))
            have HBb := Lib.hid (HB6.out.fr hp.out.fr (fun e => e))
            by_cases hlt : j < ws.length
            · have hI : (j : Int) < ws.length := by omega
              have hI3 : 0 ≤ (j : Int) := by omega
              obtain ⟨g2, o2, hBe, hg2, hcx⟩ := (HS.out.pure (HF1.out.call hp.out.fr (fun _ e _ => e))).str_at hlt
              subst hBe
              have hxs := HSZ.out ws[j] (List.getElem_mem _)
              have HNU := Lib.hid (ref_Number wr ws[j] hxs)
              have HAT := Lib.hid (bl_at hlt)
              generalize ws[j] = x at *
              have HVN := Lib.hid (show numC x.data.toList = none → restC (c, []) k (bl ws) = (11, (c, [])) from fun e => by
                have h9 := vals_snoc (x := x.data.toList) hvs.out
                rw [show valC k x.data.toList = numC x.data.toList by unfold valC; rw [if_neg h2], e, ← HAT.out] at h9
                have h8 := vals_none (r := (bl ws).drop (j + 1)) h9
                rw [List.take_append_drop] at h8
                exact restC_none h8)
              have HVS := Lib.hid (show ∀ v, numC x.data.toList = some v → valsC k ((bl ws).take (j + 1)) = some (vs ++ [v]) from fun v e => by
                rw [HAT.out, vals_snoc hvs.out, show valC k x.data.toList = numC x.data.toList by unfold valC; rw [if_neg h2], e]; rfl)
              generalize numC x.data.toList = o at *
              cases o with
              | none =>
                have HR := Lib.hid (HVN.out rfl)
                simp only [Option.getD_none, Option.isSome_none] at HNU
                clear HVN HVS
                go_wp2_with (first | ((go_at_call 58); (with_reducible refine HNU.out.mono ?_); rintro e w' ⟨rfl, rfl⟩) | (refine wpList_ldBox rfl rfl (by rfl) ⟨_, Tryd.underlying47, rfl⟩ (by kernel_rfl) HBa.out ?_) | (refine wpList_stBox rfl rfl (by rfl) (by rfl) (by kernel_rfl) (by rfl) HBb.out (by rfl) ?_; intro W7 hb7 hf7; have HB7 := Lib.hid hb7; have HF7 := Lib.hid hf7; clear hb7 hf7) | fail)
                refine bodyPost_ret (ret_box1 (p := 6) (u := 7) rfl rfl ⟨_, Tryd.underlying47, rfl⟩ (by kernel_rfl) HB7.out) rfl ?_
                unfold LineP
                rw [HR.out]
                exact ⟨c, A, cap, by unfold cfA; rw [HW.out]; rfl, fun e => by simp at e, (HF1.out.call hp.out.fr (fun _ e _ => e)).call HF7.out (fun i (e : i = w.heap.size + 1) hlt => by omega)⟩
              | some v =>
                have HVS := Lib.hid (HVS.out v rfl)
                simp only [Option.getD_some, Option.isSome_some] at HNU
                clear HVN
                go_wp2_with (first | ((go_at_call 58); (with_reducible refine HNU.out.mono ?_); rintro e w' ⟨rfl, rfl⟩) | (at_builtin; refine wpList_app rfl _ _ 91 rfl elemI (base := W1.heap.size) (xs := ints vs) (news := [.int .i64 v]) rfl ?own rfl ?src ?one ?h63 ?hby ?hbase ?_) | fail)
                case own => exact hp.out.own_al _
                case src => exact Sl.new1 (Blk.new_eq (by first | rfl | simp)) 1 1 rfl (by decide)
                case one => first | rfl | exact (by intro u hu; simp at hu; subst hu; rfl)
                case h63 => unfold maxLen; omega
                case hby => omega
                case hbase => have h1 := hp.out.hi; simp at h1 ⊢; omega
                intro A6 c6 W6 hown hgr _
                rw [show ints vs ++ [.int .i64 v] = ints (vs ++ [v]) from by unfold ints; simp] at hown
                have HP6 := Lib.hid ((hp.out.pure ((Fr.refl Nob _).alloc _)).app hown hgr)
                clear hown hgr
                go_wp2_with fail
                go_roundw
                case rel => exact ⟨j + 1, A6, c6, vs ++ [v], by omega, by go_num, rfl, Lib.hid (by rw [List.length_append, hvl.out]; rfl), HP6, HVS⟩
                case measure => simp [RowKit.intOf]; omega
            · have hI : ¬ (j : Int) < ws.length := by omega
              obtain rfl : j = ws.length := by omega
              have HVS := Lib.hid (show valsC k (bl ws) = some vs by have := hvs.out; rwa [List.take_of_length_le (by rw [HBL.out]; exact Nat.le_refl _)] at this)
              have HSV := Lib.hid (show Sl wr 1 A' vs.length c' (ints vs) by rw [hvl.out]; exact hp.out.sl)
              have HRF := Lib.hid (show vs.all (inC k) = false → restC (c, []) k (bl ws) = (33, (c, [])) from fun e => restC_far HBD.out HVS.out e)
              have HRO := Lib.hid (show vs.all (inC k) = true → restC (c, []) k (bl ws) = (0, (setC c k vs, [k])) from fun e => restC_ok HBD.out HVS.out e)
              have HFR := Lib.hid (HF1.out.call hp.out.fr (fun _ e _ => e))
              have hvl5 : vs.length ≤ 1000 := by rw [hvl.out]; omega
              have hmx2 := HSV.out.max
              unfold maxLen at hmx2
              have hle2 := HSV.out.le
              go_wp2_with fail
              rw [← hvl.out]
              go_loopw [12] (fun iv wi => ∃ j : Nat, j ≤ vs.length ∧ iv = .int .i64 j ∧ Hid (Fr Nob wr wi) ∧ Hid ((vs.take j).all (inC k) = true)) (fun iv _ => vs.length - (RowKit.intOf iv).toNat)
              case atStart => exact ⟨0, Nat.zero_le _, rfl, Lib.hid (Fr.refl _ _), Lib.hid rfl⟩
              case round =>
                obtain ⟨j, hj2, rfl, hfi, hrj⟩ := hrel
                have HBc := Lib.hid (HBa.out.fr hfi.out (fun e => e))
                have HBd := Lib.hid (HBb.out.fr hfi.out (fun e => e))
                by_cases hltj : j < vs.length
                · have hJ : (j : Int) < vs.length := by omega
                  have hJ3 : 0 ≤ (j : Int) := by omega
                  obtain ⟨g3, o3, hAe, hg3, hcv⟩ := (HSV.out.pure hfi.out).int_at hltj
                  subst hAe
                  have HT1 := Lib.hid (show inC k vs[j] = true → (vs.take (j + 1)).all (inC k) = true from fun e => by
                    rw [List.take_succ_eq_append_getElem hltj, List.all_append, hrj.out]
                    simp [e])
                  have HFF := Lib.hid (show inC k vs[j] = false → restC (c, []) k (bl ws) = (33, (c, [])) from fun e => HRF.out (by
                    rw [List.all_eq_false]
                    exact ⟨vs[j], List.getElem_mem _, by simp [e]⟩))
                  have HIN := Lib.hid (show ∀ v, inC k v = (decide (loC k ≤ v) && decide (v ≤ hiC k)) from fun _ => rfl)
                  have HLO := Lib.hid (fun W => ref_low W hk h2)
                  have HHI := Lib.hid (fun W => ref_high W hk h2)
                  generalize loC k = lo at *
                  generalize hiC k = hi at *
                  generalize vs[j] = v at *
                  by_cases hlo : v < lo
                  · have HR := Lib.hid (HFF.out (by rw [HIN.out]; simp [show ¬ lo ≤ v by omega]))
                    have hd1 : decide (v < lo) = true := decide_eq_true hlo
                    clear hlo
                    go_wp2_with fail
                    go_quiet (first | ((go_at_call 59); exact Calls.quiet_of_same ((HLO.out _).mono fun _ _ ⟨h1, h2⟩ => ⟨h1, h2.symm⟩)) | ((go_at_call 60); exact Calls.quiet_of_same ((HHI.out _).mono fun _ _ ⟨h1, h2⟩ => ⟨h1, h2.symm⟩)))
                    go_wp2_with (first | (refine wpList_ldBox rfl rfl (by rfl) ⟨_, Tryd.underlying47, rfl⟩ (by kernel_rfl) (HBc.out.drewN _) ?_) | (refine wpList_stBox rfl rfl (by rfl) (by rfl) (by kernel_rfl) (by rfl) (HBd.out.drewN _) (by rfl) ?_; intro W7 hb7 hf7; have HB7 := Lib.hid hb7; have HF7 := Lib.hid hf7; clear hb7 hf7) | fail)
                    refine bodyPost_ret (ret_box1 (p := 6) (u := 7) rfl rfl ⟨_, Tryd.underlying47, rfl⟩ (by kernel_rfl) HB7.out) rfl ?_
                    unfold LineP
                    rw [HR.out]
                    exact ⟨c, A, cap, by unfold cfA; rw [HW.out]; rfl, fun e => by simp at e, ((HFR.out.call hfi.out (fun _ e _ => e)).drewN _).call HF7.out (fun i (e : i = w.heap.size + 1) hlt => by omega)⟩
                  · by_cases hhi : hi < v
                    · have HR := Lib.hid (HFF.out (by rw [HIN.out]; simp [show ¬ v ≤ hi by omega]))
                      have hd1 : decide (v < lo) = false := decide_eq_false hlo
                      have hd2 : decide (hi < v) = true := decide_eq_true hhi
                      clear hlo hhi
                      go_wp2_with fail
                      go_quiet (first | ((go_at_call 59); exact Calls.quiet_of_same ((HLO.out _).mono fun _ _ ⟨h1, h2⟩ => ⟨h1, h2.symm⟩)) | ((go_at_call 60); exact Calls.quiet_of_same ((HHI.out _).mono fun _ _ ⟨h1, h2⟩ => ⟨h1, h2.symm⟩)))
                      go_wp2_with (first | (refine wpList_ldBox rfl rfl (by rfl) ⟨_, Tryd.underlying47, rfl⟩ (by kernel_rfl) (HBc.out.drewN _) ?_) | (refine wpList_stBox rfl rfl (by rfl) (by rfl) (by kernel_rfl) (by rfl) (HBd.out.drewN _) (by rfl) ?_; intro W7 hb7 hf7; have HB7 := Lib.hid hb7; have HF7 := Lib.hid hf7; clear hb7 hf7) | fail)
                      refine bodyPost_ret (ret_box1 (p := 6) (u := 7) rfl rfl ⟨_, Tryd.underlying47, rfl⟩ (by kernel_rfl) HB7.out) rfl ?_
                      unfold LineP
                      rw [HR.out]
                      exact ⟨c, A, cap, by unfold cfA; rw [HW.out]; rfl, fun e => by simp at e, ((HFR.out.call hfi.out (fun _ e _ => e)).drewN _).call HF7.out (fun i (e : i = w.heap.size + 1) hlt => by omega)⟩
                    · have HT2 := Lib.hid (HT1.out (by rw [HIN.out]; simp [show lo ≤ v by omega, show v ≤ hi by omega]))
                      have hd1 : decide (v < lo) = false := decide_eq_false hlo
                      have hd2 : decide (hi < v) = false := decide_eq_false hhi
                      clear hlo hhi
                      go_wp2_with fail
                      go_quiet (first | ((go_at_call 59); exact Calls.quiet_of_same ((HLO.out _).mono fun _ _ ⟨h1, h2⟩ => ⟨h1, h2.symm⟩)) | ((go_at_call 60); exact Calls.quiet_of_same ((HHI.out _).mono fun _ _ ⟨h1, h2⟩ => ⟨h1, h2.symm⟩)))
                      go_wp2_with fail
                      go_roundw
                      case rel => exact ⟨j + 1, by omega, by go_num, Lib.hid (hfi.out.drewN _), HT2⟩
                      case measure => simp [RowKit.intOf]; omega
                · have hJ : ¬ (j : Int) < vs.length := by omega
                  have HR := Lib.hid (HRO.out (by have := hrj.out; rwa [List.take_of_length_le (by omega)] at this))
                  have HFW := Lib.hid (HFR.out.call hfi.out (fun _ e _ => e))
                  have HST := Lib.hid (ref_set _ c A A' cap c' k vs.length vs hk h2 rfl (fun h3 => by rw [hvl.out]; exact HN1.out h3) HWS.out (by rw [HW.out]; exact HL.out.pure HFW.out) (HSV.out.pure hfi.out) hvl5)
                  unfold cfA at HST
                  rw [HW.out] at HST
                  go_wp2_with (first | (refine wpList_ldBox rfl rfl (by rfl) ⟨_, Tryd.underlying47, rfl⟩ (by kernel_rfl) HBc.out ?_) | ((go_at_call 61); (with_reducible refine HST.out.mono ?_); rintro e W5 ⟨A5, c5, rfl, hs5, ha5, hf5⟩; have HS5 := Lib.hid hs5; have HA5 := Lib.hid ha5; have HF5 := Lib.hid hf5; have HBe := Lib.hid (HBd.out.fr hf5 (fun e => e)); clear hs5 ha5 hf5) | (refine wpList_stBox rfl rfl (by rfl) (by rfl) (by kernel_rfl) (by rfl) HBe.out (by rfl) ?_; intro W7 hb7 hf7; have HB7 := Lib.hid hb7; have HF7 := Lib.hid hf7; clear hb7 hf7) | fail)
                  refine bodyPost_ret (ret_box1 (p := 6) (u := 7) rfl rfl ⟨_, Tryd.underlying47, rfl⟩ (by kernel_rfl) HB7.out) rfl ?_
                  unfold LineP
                  rw [HR.out]
                  have hgA : ∀ g o, A5 = some ⟨g, o, none⟩ → (A5 = A ∧ (setC c k vs).weights = c.weights) ∨ w.heap.size + 1 < g := fun g o e => (HA5.out g o e).imp id (fun q => by
                    have := HBd.out.lt
                    omega)
                  refine ⟨setC c k vs, A5, c5, rfl, fun _ => ⟨rfl, HS5.out.fr HF7.out (fun g o e hn q => ?_), fun g o e => (hgA g o e).imp id (fun q => by omega)⟩, (HFW.out.call HF5.out (fun _ e _ => e)).call HF7.out (fun i (e : i = w.heap.size + 1) hlt => by omega)⟩
                  have q : g = w.heap.size + 1 := q
                  rcases hgA g o e with ⟨e1, e2⟩ | e1
                  · rw [e2, HW.out] at hn
                    obtain ⟨b2, o2, e3, e4, _⟩ := HL.out.cells hn
                    rw [e1, e3] at e
                    injection e with e; injection e with e5
                    omega
                  · omega
end Go.Proofs.YtoegdmpmagbaiaaDoor
