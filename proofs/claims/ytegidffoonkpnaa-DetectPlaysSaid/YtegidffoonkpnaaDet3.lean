/- The detector: a tick. -/
import Derived.Test.YtegidffoonkpnaaDet2
namespace Go.Proofs.Ytegidffoonkpnaa
open Go.RowKit

def dupd (D : DD) : Nat → DD
  | 0 => D
  | k + 1 => if dsilent (dupd D k) k then { dupd D k with st := (dupd D k).st.set k 2 } else dupd D k
def dfound (D : DD) : Nat → List Int
  | 0 => []
  | k + 1 => if dsilent (dupd D k) k then dfound D k ++ [(k : Int)] else dfound D k
def dlate (D : DD) (n : Int) : DD := { D with now := (sadd D.now (max n 0)).1 }
def dtick (D : DD) (n : Int) : DD × List Int × Bool := (dupd (dlate D n) D.st.length, dfound (dlate D n) D.st.length, (sadd D.now (max n 0)).2)

theorem dupd_len (D : DD) (k : Nat) : (dupd D k).st.length = D.st.length := by
  induction k with
  | zero => rfl
  | succ k ih => simp only [dupd]; split <;> simp [ih]
theorem dfound_len (D : DD) (k : Nat) : (dfound D k).length ≤ k := by
  induction k with
  | zero => simp [dfound]
  | succ k ih => simp only [dfound]; split <;> first | omega | (simp; omega)
theorem wf_dupd {D : DD} (hw : WF D) (k : Nat) (hk : k ≤ D.st.length) : WF (dupd D k) := by
  induction k with
  | zero => exact hw
  | succ k ih =>
    have h := ih (by omega)
    have hl := dupd_len D k
    simp only [dupd]
    split
    · refine ⟨by simp [h.len], by simp [h.pos], by simp [h.le8], h.to1, h.to2, h.now0, h.now2, ?_, ?_⟩
      · intro i hi
        simp only [List.length_set] at hi ⊢
        rw [getD_set _ _ _ _ (by omega)]
        split
        · omega
        · exact h.sts i hi
      · intro i hi
        simp only [List.length_set] at hi
        exact h.las i hi
    · exact h
theorem sadd_up {a b : Int} (ha0 : 0 ≤ a) (ha : a ≤ 9223372036854775807) (hb : 0 ≤ b) : a ≤ (sadd a b).1 ∧ (sadd a b).1 ≤ 9223372036854775807 := by
  unfold sadd
  split
  · exact ⟨ha, Int.le_refl _⟩
  · split
    · omega
    · simp; omega
theorem wf_dlate {D : DD} (hw : WF D) (n : Int) : WF (dlate D n) := by
  have h := sadd_up (b := max n 0) hw.now0 hw.now2 (by omega)
  have h0 := hw.now0
  refine ⟨hw.len, hw.pos, hw.le8, hw.to1, hw.to2, by simp [dlate]; omega, by simp [dlate]; exact h.2, hw.sts, fun i hi => ?_⟩
  have := hw.las i hi
  simp only [dlate]; omega
theorem wf_dtick {D : DD} (hw : WF D) (n : Int) : WF (dtick D n).1 := wf_dupd (wf_dlate hw n) _ (Nat.le_refl _)

theorem el_int : ElemT Try.prog 28 3 1 8 := ElemT.mk (z := .int .i64 0) Try.underlying28 (by kernel_rfl) rfl (by decide)
theorem one_ints (l : List Int) : ∀ u ∈ ints l, u.oneCell' = true := by
  intro u hu
  simp only [ints, List.mem_map] at hu
  obtain ⟨x, _, rfl⟩ := hu
  rfl

set_option maxHeartbeats 400000 in
theorem det_Tick (w : World) (b : Nat) (D : DD) (n : Int) (hn : I64 n) (hw : WF D) (hD : Det w b D) :
    Calls Try.prog 10 #[.pointer (some ⟨b,0,none⟩), .int .i64 n] w fun e w' => ∃ A c, e = .returned (.tuple #[.slice A (dtick D n).2.1.length c, .bool (dtick D n).2.2]) ∧
      Det w' b (dtick D n).1 ∧ Sl w' 1 A (dtick D n).2.1.length c (ints (dtick D n).2.1) ∧ Fr (Only b) w w' ∧ (∀ g off, A = some ⟨g, off, none⟩ → w.heap.size ≤ g) := by
  have hbl : b < w.heap.size := Blk.lt hD
  have Hd := Lib.hid hD
  have h3 := hD.nowc
  have f3 := hD.free 18
  have hnd := hD.nc
  have hnow : I64 D.now := ⟨by have := hw.now0; omega, hw.now2⟩
  have Hnow := Lib.hid hnow
  by_cases hneg : n < 0
  · skip
    have hm : max n 0 = 0 := by omega
    have Hmx : Hid (I64 0) := by unfold I64 at hn ⊢; unfold Hid; omega
    have HT : Hid (dlate D n = { D with now := (sadd D.now 0).1 }) := by unfold dlate; rw [hm]; rfl
    have HC : Hid ((dtick D n).2.2 = (sadd D.now 0).2) := by unfold dtick; rw [hm]; rfl
    have HW := Lib.hid (wf_dlate hw n)
    rw [HT.out] at HW
    have Hw := Lib.hid hw
    have h8 := hw.le8
    clear hw hD hn hnow hm
    go_enter Try.func10, Try.ntmps10
    go_wp2_with fail
    refine (sat_Add _ _ _ Hnow.out Hmx.out).mono ?_
    rintro e w' ⟨rfl, rfl⟩
    have HD1 : Hid (Det (w.setCell ⟨b, 18, none⟩ (.int .i64 (sadd D.now 0).1)) b (dlate D n)) := by
      rw [HT.out]; have := Blk.set Hd.out 18 (.int .i64 (sadd D.now 0).1); rw [dcs_set_now] at this; exact this
    have HF1 : Hid (Fr (Only b) w (w.setCell ⟨b, 18, none⟩ (.int .i64 (sadd D.now 0).1))) := (Fr.refl (Only b) w).setCell (p := ⟨b, 18, none⟩) (fun _ => rfl) _
    rw [← HT.out] at HW
    have hlen : (dlate D n).st.length = D.st.length := rfl
    have Hlen := Lib.hid hlen
    clear hlen
    have HG : Hid (dtick D n = (dupd (dlate D n) D.st.length, dfound (dlate D n) D.st.length, (sadd D.now 0).2)) := by
      rw [← HC.out]; rfl
    clear HT HC
    generalize dlate D n = D1 at *
    generalize (sadd D.now 0).1 = nw at *
    generalize (sadd D.now 0).2 = cut at *
    generalize hN : D.st.length = N at *
    go_wp2_with fail
    go_loopw [9, 33] (fun f i wr => ∃ (k : Nat) (A : Option Addr) (c : Nat), k ≤ N ∧ i = .int .i64 k ∧ f = .slice A (dfound D1 k).length c ∧ Hid (Det wr b (dupd D1 k)) ∧
      Hid (wr.ownsRow w.heap.size 3 1 (.slice A (dfound D1 k).length c) (dfound D1 k).length (ints (dfound D1 k))) ∧ Hid (Fr (Only b) w wr)) (fun _ i _ => N - (intOf i).toNat)
    case atStart => exact ⟨0, none, 0, Nat.zero_le _, rfl, rfl, HD1, World.ownsRow_nil _ _ _ _, HF1⟩
    case round =>
      obtain ⟨k, A, c, hk, rfl, rfl, hd, hown, hfr⟩ := hrel
      by_cases hlt : k < N
      · have hlk : k < (dupd D1 k).st.length := by rw [dupd_len, Hlen.out]; exact hlt
        have hcall := fun W => det_silent W b (dupd D1 k) k (wf_dupd HW.out k (by rw [Hlen.out]; exact hk)) hlk
        have Hcall := Lib.hid hcall
        have hk8 : k < 8 := by omega
        have hI : (k : Int) < 8 := by omega
        have hI0 : 0 ≤ (k : Int) := by omega
        have hst := hd.out.stc hk8
        have hfz := hd.out.free (k * 2)
        have Hset := Lib.hid (fun W (h : Det W b (dupd D1 k)) => Blk.set h (k * 2) (.int .i64 2))
        have hdl := dfound_len D1 k
        have Hlk := Lib.hid hlk
        clear hcall hlk
        by_cases hs : dsilent (dupd D1 k) k = true
        · have HU := Lib.hid (show dupd D1 (k + 1) = { dupd D1 k with st := (dupd D1 k).st.set k 2 } by simp only [dupd]; rw [if_pos hs])
          have HO := Lib.hid (show dfound D1 (k + 1) = dfound D1 k ++ [(k : Int)] by simp only [dfound]; rw [if_pos hs])
          have HL := Lib.hid (show (dfound D1 (k + 1)).length = (dfound D1 k).length + 1 by rw [HO.out]; simp)
          go_wp2_with fail
          refine (Hcall.out _ hd.out).mono ?_
          rintro e w' ⟨rfl, nq, rfl⟩
          rw [hs]
          have Hs := Lib.hid hs
          clear hs
          generalize hF : dfound D1 k = F at *
          have HFF := Lib.hid hF
          clear hF
          go_wp2_with (at_builtin; refine wpList_app rfl _ _ 28 rfl el_int (base := w.heap.size) (xs := ints F) (news := [.int .i64 k]) rfl ?own rfl ?src ?one ?h63 ?hby ?hbase ?_)
          case own => exact own_fr hown.out (S := Only b) ((((Fr.refl (Only b) _).drewN nq).setCell (p := ⟨b, k * 2, none⟩) (fun _ => rfl) _).alloc _) (fun i _ hb _ e => by subst e; omega)
          case src => exact Sl.new1 (Blk.new_eq (by simp)) 1 1 rfl (by decide)
          case one => exact one_ints [(k : Int)]
          case h63 => unfold maxLen; omega
          case hby => omega
          case hbase => have := hfr.out.size; simp; omega
          intro A' c' w1 hown1 hgr hat
          have hb1 : ∀ i, A.map (·.block) = some i → w.heap.size ≤ i := own_base hown.out
          have HF2 := Lib.hid (((((hfr.out.drewN nq).setCell (p := ⟨b, k * 2, none⟩) (fun _ => rfl) (.int .i64 2)).alloc (.cells #[.int .i64 k] 3))).grown hgr (fun i hi hlt => by have := hb1 i hi; omega))
          have HD2 : Hid (Det w1 b (dupd D1 (k + 1))) := by
            have h := ((Hset.out _ (hd.out.drewN nq)).alloc (.cells #[.int .i64 k] 3)).grown hgr (fun e => by have := hb1 b e; omega)
            rw [dcs_set_st _ k 2 hk8 Hlk.out] at h
            rw [HU.out]; exact h
          have HO2 : Hid (w1.ownsRow w.heap.size 3 1 (.slice A' (dfound D1 (k + 1)).length c') (dfound D1 (k + 1)).length (ints (dfound D1 (k + 1)))) := by
            rw [HL.out, HO.out]; unfold ints; rw [List.map_append]; exact hown1
          clear hown1 hgr hat hb1
          go_wp2_with fail
          go_roundw
          case rel => exact ⟨k + 1, A', c', by omega, by go_num, by rw [HL.out], HD2, HO2, HF2⟩
          case measure => simp [intOf]; omega
        · have hs : dsilent (dupd D1 k) k = false := by simpa using hs
          have HU := Lib.hid (show dupd D1 (k + 1) = dupd D1 k by simp only [dupd]; rw [if_neg (by simp [hs])])
          have HO := Lib.hid (show dfound D1 (k + 1) = dfound D1 k by simp only [dfound]; rw [if_neg (by simp [hs])])
          go_wp2_with fail
          refine (Hcall.out _ hd.out).mono ?_
          rintro e w' ⟨rfl, nq, rfl⟩
          rw [hs]
          clear hs
          go_wp2_with fail
          go_roundw
          case rel => exact ⟨k + 1, A, c, by omega, by go_num, by rw [HO.out], by rw [HU.out]; exact hd.out.drewN nq, by rw [HO.out]; exact own_fr hown.out ((Fr.refl Nob _).drewN nq) (fun _ _ _ _ e => e), hfr.out.drewN nq⟩
          case measure => simp [intOf]; omega
      · have hkk : k = N := by omega
        subst hkk
        go_wp2
        go_ret2
        exact ⟨A, c, by rw [HG.out]; rfl, by rw [HG.out]; exact hd.out, by rw [HG.out]; exact Sl.of_own hown.out, hfr.out, own_addr hown.out⟩
  · skip
    have hm : max n 0 = n := by omega
    have Hmx : Hid (I64 n) := by unfold I64 at hn ⊢; unfold Hid; omega
    have HT : Hid (dlate D n = { D with now := (sadd D.now n).1 }) := by unfold dlate; rw [hm]; rfl
    have HC : Hid ((dtick D n).2.2 = (sadd D.now n).2) := by unfold dtick; rw [hm]; rfl
    have HW := Lib.hid (wf_dlate hw n)
    rw [HT.out] at HW
    have Hw := Lib.hid hw
    have h8 := hw.le8
    clear hw hD hn hnow hm
    go_enter Try.func10, Try.ntmps10
    go_wp2_with fail
    refine (sat_Add _ _ _ Hnow.out Hmx.out).mono ?_
    rintro e w' ⟨rfl, rfl⟩
    have HD1 : Hid (Det (w.setCell ⟨b, 18, none⟩ (.int .i64 (sadd D.now n).1)) b (dlate D n)) := by
      rw [HT.out]; have := Blk.set Hd.out 18 (.int .i64 (sadd D.now n).1); rw [dcs_set_now] at this; exact this
    have HF1 : Hid (Fr (Only b) w (w.setCell ⟨b, 18, none⟩ (.int .i64 (sadd D.now n).1))) := (Fr.refl (Only b) w).setCell (p := ⟨b, 18, none⟩) (fun _ => rfl) _
    rw [← HT.out] at HW
    have hlen : (dlate D n).st.length = D.st.length := rfl
    have Hlen := Lib.hid hlen
    clear hlen
    have HG : Hid (dtick D n = (dupd (dlate D n) D.st.length, dfound (dlate D n) D.st.length, (sadd D.now n).2)) := by
      rw [← HC.out]; rfl
    clear HT HC
    generalize dlate D n = D1 at *
    generalize (sadd D.now n).1 = nw at *
    generalize (sadd D.now n).2 = cut at *
    generalize hN : D.st.length = N at *
    go_wp2_with fail
    go_loopw [9, 33] (fun f i wr => ∃ (k : Nat) (A : Option Addr) (c : Nat), k ≤ N ∧ i = .int .i64 k ∧ f = .slice A (dfound D1 k).length c ∧ Hid (Det wr b (dupd D1 k)) ∧
      Hid (wr.ownsRow w.heap.size 3 1 (.slice A (dfound D1 k).length c) (dfound D1 k).length (ints (dfound D1 k))) ∧ Hid (Fr (Only b) w wr)) (fun _ i _ => N - (intOf i).toNat)
    case atStart => exact ⟨0, none, 0, Nat.zero_le _, rfl, rfl, HD1, World.ownsRow_nil _ _ _ _, HF1⟩
    case round =>
      obtain ⟨k, A, c, hk, rfl, rfl, hd, hown, hfr⟩ := hrel
      by_cases hlt : k < N
      · have hlk : k < (dupd D1 k).st.length := by rw [dupd_len, Hlen.out]; exact hlt
        have hcall := fun W => det_silent W b (dupd D1 k) k (wf_dupd HW.out k (by rw [Hlen.out]; exact hk)) hlk
        have Hcall := Lib.hid hcall
        have hk8 : k < 8 := by omega
        have hI : (k : Int) < 8 := by omega
        have hI0 : 0 ≤ (k : Int) := by omega
        have hst := hd.out.stc hk8
        have hfz := hd.out.free (k * 2)
        have Hset := Lib.hid (fun W (h : Det W b (dupd D1 k)) => Blk.set h (k * 2) (.int .i64 2))
        have hdl := dfound_len D1 k
        have Hlk := Lib.hid hlk
        clear hcall hlk
        by_cases hs : dsilent (dupd D1 k) k = true
        · have HU := Lib.hid (show dupd D1 (k + 1) = { dupd D1 k with st := (dupd D1 k).st.set k 2 } by simp only [dupd]; rw [if_pos hs])
          have HO := Lib.hid (show dfound D1 (k + 1) = dfound D1 k ++ [(k : Int)] by simp only [dfound]; rw [if_pos hs])
          have HL := Lib.hid (show (dfound D1 (k + 1)).length = (dfound D1 k).length + 1 by rw [HO.out]; simp)
          go_wp2_with fail
          refine (Hcall.out _ hd.out).mono ?_
          rintro e w' ⟨rfl, nq, rfl⟩
          rw [hs]
          have Hs := Lib.hid hs
          clear hs
          generalize hF : dfound D1 k = F at *
          have HFF := Lib.hid hF
          clear hF
          go_wp2_with (at_builtin; refine wpList_app rfl _ _ 28 rfl el_int (base := w.heap.size) (xs := ints F) (news := [.int .i64 k]) rfl ?own rfl ?src ?one ?h63 ?hby ?hbase ?_)
          case own => exact own_fr hown.out (S := Only b) ((((Fr.refl (Only b) _).drewN nq).setCell (p := ⟨b, k * 2, none⟩) (fun _ => rfl) _).alloc _) (fun i _ hb _ e => by subst e; omega)
          case src => exact Sl.new1 (Blk.new_eq (by simp)) 1 1 rfl (by decide)
          case one => exact one_ints [(k : Int)]
          case h63 => unfold maxLen; omega
          case hby => omega
          case hbase => have := hfr.out.size; simp; omega
          intro A' c' w1 hown1 hgr hat
          have hb1 : ∀ i, A.map (·.block) = some i → w.heap.size ≤ i := own_base hown.out
          have HF2 := Lib.hid (((((hfr.out.drewN nq).setCell (p := ⟨b, k * 2, none⟩) (fun _ => rfl) (.int .i64 2)).alloc (.cells #[.int .i64 k] 3))).grown hgr (fun i hi hlt => by have := hb1 i hi; omega))
          have HD2 : Hid (Det w1 b (dupd D1 (k + 1))) := by
            have h := ((Hset.out _ (hd.out.drewN nq)).alloc (.cells #[.int .i64 k] 3)).grown hgr (fun e => by have := hb1 b e; omega)
            rw [dcs_set_st _ k 2 hk8 Hlk.out] at h
            rw [HU.out]; exact h
          have HO2 : Hid (w1.ownsRow w.heap.size 3 1 (.slice A' (dfound D1 (k + 1)).length c') (dfound D1 (k + 1)).length (ints (dfound D1 (k + 1)))) := by
            rw [HL.out, HO.out]; unfold ints; rw [List.map_append]; exact hown1
          clear hown1 hgr hat hb1
          go_wp2_with fail
          go_roundw
          case rel => exact ⟨k + 1, A', c', by omega, by go_num, by rw [HL.out], HD2, HO2, HF2⟩
          case measure => simp [intOf]; omega
        · have hs : dsilent (dupd D1 k) k = false := by simpa using hs
          have HU := Lib.hid (show dupd D1 (k + 1) = dupd D1 k by simp only [dupd]; rw [if_neg (by simp [hs])])
          have HO := Lib.hid (show dfound D1 (k + 1) = dfound D1 k by simp only [dfound]; rw [if_neg (by simp [hs])])
          go_wp2_with fail
          refine (Hcall.out _ hd.out).mono ?_
          rintro e w' ⟨rfl, nq, rfl⟩
          rw [hs]
          clear hs
          go_wp2_with fail
          go_roundw
          case rel => exact ⟨k + 1, A, c, by omega, by go_num, by rw [HO.out], by rw [HU.out]; exact hd.out.drewN nq, by rw [HO.out]; exact own_fr hown.out ((Fr.refl Nob _).drewN nq) (fun _ _ _ _ e => e), hfr.out.drewN nq⟩
          case measure => simp [intOf]; omega
      · have hkk : k = N := by omega
        subst hkk
        go_wp2
        go_ret2
        exact ⟨A, c, by rw [HG.out]; rfl, by rw [HG.out]; exact hd.out, by rw [HG.out]; exact Sl.of_own hown.out, hfr.out, own_addr hown.out⟩
theorem det_Tick_nil (w : World) (n : Int) :
    Calls Try.prog 10 #[.pointer none, .int .i64 n] w fun e w' => e = .returned (.tuple #[.slice none 0 0, .bool false]) ∧ w = w' := by
  go_enter Try.func10, Try.ntmps10
  go_wp2
  go_ret2
  exact ⟨rfl, rfl⟩
end Go.Proofs.Ytegidffoonkpnaa
