/- Words: a word as the model has it; few events. -/
import Derived.Test.YtckmmihbipmkcaaW6
import Derived.StillTailTactics
namespace Go.Proofs.Ytckmmihbipmkcaa
open Go.RowKit Go.Sort Go.Lib

theorem pts_snoc {ps : List Pn} {k : Nat} (hk : k < ps.length) : (ps.take k).flatMap pnc ++ pnc ps[k] = (ps.take (k + 1)).flatMap pnc := by
  rw [List.take_succ_eq_append_getElem hk, List.flatMap_append, List.flatMap_cons, List.flatMap_nil, List.append_nil]
theorem WSl.of_take {w wr : World} {A A' : Option Addr} {c c' k base T : Nat} {ps : List Pn} (h : WSl w A c ps) (hf : Fr Nob w wr) (hown : wr.ownsRow base T 2 (.slice A' k c') k ((ps.take k).flatMap pnc)) (hk : ¬ k < ps.length) (hk2 : k ≤ ps.length) : k = ps.length ∧ WSl wr A' c' ps := by
  have e : k = ps.length := by omega
  subst e
  rw [List.take_length] at hown
  exact ⟨rfl, Sl.of_own hown, fun p hp => (h.inn p hp).pure hf⟩
set_option maxRecDepth 100000 in
set_option maxHeartbeats 4000000 in
theorem law_points (w : World) (A : Option Addr) (c : Nat) (ps : List Pn) (h : WSl w A c ps) (h63 : ps.length ≤ 1000) :
    Calls Try.prog 13 #[.slice A ps.length c] w fun e w' => ∃ A' c', e = .returned (.slice A' ps.length c') ∧ WSl w' A' c' ps ∧ Fr Nob w w' := by
  have HL := Lib.hid h
  clear h
  obtain ⟨i0, hi0, hz0, hz1, hz2⟩ := info_parts (show (Try.prog.info? 58).map (fun i => (i.zero, i.size, i.bytes)) = some (some (.agg #[.int .i64 0, .slice none 0 0]), 2, 32) by kernel_rfl)
  go_enter Try.func13, Try.ntmps13
  go_wp2_with fail
  go_loopw [3, 4] (fun sv i wr => ∃ (k : Nat) (A' : Option Addr) (c' : Nat), k ≤ ps.length ∧ i = .int .i64 k ∧ sv = .slice A' k c' ∧ Hid (Fr Nob w wr) ∧ Hid (wr.ownsRow w.heap.size 58 2 (.slice A' k c') k ((ps.take k).flatMap pnc))) (fun _ i _ => ps.length - (intOf i).toNat)
  case atStart => exact ⟨0, none, 0, Nat.zero_le _, rfl, rfl, Lib.hid (Fr.refl Nob w), Lib.hid (World.ownsRow_nil _ _ _ _)⟩
  case round =>
    obtain ⟨k, A', c', hk, rfl, rfl, hf, hs⟩ := hrel
    by_cases hlt : k < ps.length
    · have hI : (k : Int) < ps.length := by omega
      have hI3 : 0 ≤ (k : Int) := by omega
      obtain ⟨b, off, rfl, hb, d0, d1⟩ := (HL.out.pure hf.out).at_ hlt
      have HE := Lib.hid (pts_snoc hlt)
      generalize ps[k] = p at *
      obtain ⟨t, pA, pc, l⟩ := p
      dsimp only at d0 d1
      go_wp2_with fail
      have hdr := hf.out.drew
      have HOW := Lib.hid (own_fr hs.out (Fr.refl Nob wr).drew (fun _ _ _ _ e => e))
      have HDR := Lib.hid hdr
      have hs0 := hdr.size
      clear hf hs hdr
      go_region_law
        (first
          | (refine step_append_lies (wr.drew.alloc (.cells #[.int .i64 t, .slice pA l.length pc] 58)) (by rfl) _ _ _ (by rfl) w.heap.size 58 i0 _ 2 32 Try.underlying26 hi0 hz0 hz1 hz2 (by rfl) (by decide) (.slice A' k c') k ((ps.take k).flatMap pnc) (by rfl) (own_fr HOW.out ((Fr.refl _ _).alloc _) (fun _ _ _ _ e => e)) ⟨wr.drew.heap.size, 0, none⟩ 1 1 (pnc ⟨t, pA, pc, l⟩) (by rfl) (by rfl) (World.news_of_block (heap_alloc_new wr.drew _)) (pnc_one _) (by decide) (by unfold maxLen; omega) (by omega) (by simp at hs0 ⊢; omega) (wr.drew.heap.size + 1) (by simp) ?_
             intro g4 c4 w4 hown4 hgr hat4 hlt4
             have HO4 := Lib.hid hown4
             have HG4 := Lib.hid hgr
             clear hown4 hat4))
      all_goals
        have HF7 := Lib.hid ((HDR.out.alloc _).grown HG4.out (fun q e hlt => by have := HOW.out.lt q e; omega))
        have HO7 := HO4.out
        rw [HE.out] at HO7
        replace HO7 := Lib.hid HO7
        clear HO4 HG4 hgr
        go_wp2_with fail
        go_roundw
        case rel => exact ⟨k + 1, _, _, by omega, by go_num, rfl, HF7, HO7⟩
        case measure => simp [intOf]; omega
    · obtain ⟨rfl, hw⟩ := HL.out.of_take hf.out hs.out hlt hk
      have HW := Lib.hid hw
      clear hw
      go_wp2_with fail
      go_ret
      exact ⟨A', c', rfl, HW.out, hf.out⟩
end Go.Proofs.Ytckmmihbipmkcaa
