/- The statements' own helpers: an act is done; the document's example. -/
import Derived.Test.YtegidffoonkpnaaDref4
namespace Go.Proofs.Ytegidffoonkpnaa
open Go.RowKit

def dplay (D : DD) (a s n : Int) : DD × Bool :=
  if a = 0 then ((dtick D n).1, false) else if a = 1 then dheard D s else if a = 2 then dleave D s else denter D s
theorem wf_dplay {D : DD} (hw : WF D) (a s n : Int) : WF (dplay D a s n).1 := by
  unfold dplay
  split
  · exact wf_dtick hw n
  · split
    · exact wf_heard hw s
    · split
      · exact wf_leave hw s
      · exact wf_enter hw s

def actv (a s n : Int) : Value := .agg #[.int .u8 a, .int .i64 s, .int .i64 n]
theorem fr_alloc (b : Nat) (w : World) (o : Obj) {w' : World} (hf : Fr (Only b) (w.alloc o) w') (_hb : b < w.heap.size) : Fr (Only b) w w' := ((Fr.refl (Only b) w).alloc o).call hf (fun _ h _ => h)

theorem law_play (w : World) (b : Nat) (D : DD) (a s n : Int) (hn : I64 n) (hw : WF D) (hD : Det w b D) :
    Calls Try.prog 19 #[.pointer (some ⟨b, 0, none⟩), actv a s n] w fun e w' => e = .returned (.bool (dplay D a s n).2) ∧ Det w' b (dplay D a s n).1 ∧ Fr (Only b) w w' := by
  have hb : b < w.heap.size := Blk.lt hD
  have Hw := Lib.hid hw
  have Hd := Lib.hid hD
  have Hn := Lib.hid hn
  clear hw hD hn
  unfold actv
  by_cases h0 : a = 0
  · have HF := Lib.hid (show dplay D a s n = ((dtick D n).1, false) by unfold dplay; rw [if_pos h0])
    subst h0
    go_enter Try.func19, Try.ntmps19
    go_wp2_with fail
    refine (det_Tick _ b D n Hn.out Hw.out (Blk.alloc Hd.out _)).mono ?_
    rintro e w' ⟨A, c, rfl, hd, hsl, hf, hfresh⟩
    have Hd2 := Lib.hid hd
    have Hf2 := Lib.hid (fr_alloc b w _ hf hb)
    clear hd hf hsl hfresh
    go_wp2_with fail
    go_ret
    exact ⟨by rw [HF.out]; rfl, by rw [HF.out]; exact Hd2.out, Hf2.out⟩
  · have c0 : (a == 0) = false := by simpa using h0
    by_cases h1 : a = 1
    · subst h1
      have HF := Lib.hid (show dplay D 1 s n = dheard D s by unfold dplay; rw [if_neg (by omega), if_pos rfl])
      clear h0
      go_enter Try.func19, Try.ntmps19
      go_wp2_with fail
      refine (det_Heard _ b D s Hw.out (Blk.alloc Hd.out _)).mono ?_
      rintro e w' ⟨rfl, hd, hf⟩
      have Hd2 := Lib.hid hd
      have Hf2 := Lib.hid (fr_alloc b w _ hf hb)
      clear hd hf
      go_wp2_with fail
      go_ret
      exact ⟨by rw [HF.out]; rfl, by rw [HF.out]; exact Hd2.out, Hf2.out⟩
    · have c1 : (a == 1) = false := by simpa using h1
      by_cases h2 : a = 2
      · subst h2
        have HF := Lib.hid (show dplay D 2 s n = dleave D s by unfold dplay; rw [if_neg (by omega), if_neg (by omega), if_pos rfl])
        clear h0 h1
        go_enter Try.func19, Try.ntmps19
        go_wp2_with fail
        refine (det_Leave _ b D s Hw.out (Blk.alloc Hd.out _)).mono ?_
        rintro e w' ⟨rfl, hd, hf⟩
        have Hd2 := Lib.hid hd
        have Hf2 := Lib.hid (fr_alloc b w _ hf hb)
        clear hd hf
        go_wp2_with fail
        go_ret
        exact ⟨by rw [HF.out]; rfl, by rw [HF.out]; exact Hd2.out, Hf2.out⟩
      · have c2 : (a == 2) = false := by simpa using h2
        have HF := Lib.hid (show dplay D a s n = denter D s by unfold dplay; rw [if_neg h0, if_neg h1, if_neg h2])
        clear h0 h1 h2
        go_enter Try.func19, Try.ntmps19
        go_wp2_with fail
        refine (det_Enter _ b D s Hw.out (Blk.alloc Hd.out _)).mono ?_
        rintro e w' ⟨rfl, hd, hf⟩
        have Hd2 := Lib.hid hd
        have Hf2 := Lib.hid (fr_alloc b w _ hf hb)
        clear hd hf
        go_wp2_with fail
        go_ret
        exact ⟨by rw [HF.out]; rfl, by rw [HF.out]; exact Hd2.out, Hf2.out⟩

def aw (st la : List Int) (now : Int) : DD := { st := st, la := la, to := 5, now := now }
theorem aw1 : dtick (dnew 2 5) 3 = (aw [1, 1] [0, 0] 3, [], false) := rfl
theorem aw2 : dheard (aw [1, 1] [0, 0] 3) 0 = (aw [1, 1] [3, 0] 3, false) := rfl
theorem aw3 : dtick (aw [1, 1] [3, 0] 3) 3 = (aw [1, 2] [3, 0] 6, [1], false) := rfl
theorem aw4 : dheard (aw [1, 2] [3, 0] 6) 1 = (aw [1, 1] [3, 6] 6, true) := rfl
theorem aw5 : dtick (aw [1, 1] [3, 6] 6) 6 = (aw [2, 2] [3, 6] 12, [0, 1], false) := rfl
theorem aw6 : didle (aw [2, 2] [3, 6] 12) = (12, true) := rfl
theorem i64_small {n : Int} (h : -1000 ≤ n) (h' : n ≤ 1000) : I64 n := by unfold I64; omega

set_option maxHeartbeats 800000 in
theorem law_awake (w : World) : Calls Try.prog 7 #[] w fun e w' => e = .returned (.bool true) ∧ Fr Nob w w' := by
  have W0 := Lib.hid (wf_new 2 5 (by omega) (by omega) (by omega) (by omega))
  have W1 := Lib.hid (wf_dtick W0.out 3)
  rw [aw1] at W1
  have W2 := Lib.hid (wf_heard W1.out 0)
  rw [aw2] at W2
  have W3 := Lib.hid (wf_dtick W2.out 3)
  rw [aw3] at W3
  have W4 := Lib.hid (wf_heard W3.out 1)
  rw [aw4] at W4
  have W5 := Lib.hid (wf_dtick W4.out 6)
  rw [aw5] at W5
  go_enter Try.func7, Try.ntmps7
  go_wp2_with fail
  refine (det_New _ 2 5 (by omega) (by omega) (by omega)).mono ?_
  rintro e w1 ⟨rfl, hd, hf⟩
  have H1 := Lib.hid hd
  have F1 := Lib.hid hf
  clear hd hf
  have hbl : w.heap.size < w1.heap.size := Blk.lt H1.out
  go_wp2_with fail
  refine (det_Tick _ _ _ 3 (i64_small (by omega) (by omega)) W0.out H1.out).mono ?_
  rw [aw1]
  rintro e w2 ⟨A, c, rfl, hd, hsl, hf, hfresh⟩
  have H2 := Lib.hid hd
  have F2 := Lib.hid ((F1.out.mono (S' := Only w.heap.size) (fun _ _ h => h.elim)).call hf (fun _ h _ => h))
  clear hd hf hsl hfresh
  go_wp2_with fail
  refine (det_Heard _ _ _ 0 W1.out H2.out).mono ?_
  rw [aw2]
  rintro e w3 ⟨rfl, hd, hf⟩
  have H3 := Lib.hid hd
  have F3 := Lib.hid (F2.out.call hf (fun _ h _ => h))
  clear hd hf
  go_wp2_with fail
  refine (det_Tick _ _ _ 3 (i64_small (by omega) (by omega)) W2.out H3.out).mono ?_
  rw [aw3]
  rintro e w4 ⟨A2, c2, rfl, hd, hsl, hf, hfresh⟩
  have H4 := Lib.hid hd
  have F4 := Lib.hid (F3.out.call hf (fun _ h _ => h))
  have S4 := Lib.hid hsl
  have Fr4 := Lib.hid hfresh
  clear hd hf hsl hfresh
  go_wp2_with fail
  refine (det_Heard _ _ _ 1 W3.out H4.out).mono ?_
  rw [aw4]
  rintro e w5 ⟨rfl, hd, hf⟩
  obtain ⟨g, off, rfl, hg, hc⟩ := S4.out.int (k := 0) (by decide)
  have hgb : w.heap.size < g := by have h1 := Fr4.out g off rfl; have h2 := Blk.lt H3.out; omega
  have hc5 : w5.cell? ⟨g, off, none⟩ = some (.int .i64 1) := hf.cell hc (by unfold Only; show ¬ g = _; omega)
  have H5 := Lib.hid hd
  have F5 := Lib.hid (F4.out.call hf (fun _ h _ => h))
  clear hd hf hc S4 Fr4 hg
  go_wp2_with fail
  refine (det_Tick _ _ _ 6 (i64_small (by omega) (by omega)) W4.out H5.out).mono ?_
  rw [aw5]
  rintro e w6 ⟨A3, c3, rfl, hd, hsl, hf, hfresh⟩
  have hc6 : w6.cell? ⟨g, off, none⟩ = some (.int .i64 1) := hf.cell hc5 (by unfold Only; show ¬ g = _; omega)
  have H6 := Lib.hid hd
  have F6 := Lib.hid (F5.out.call hf (fun _ h _ => h))
  clear hd hf hsl hfresh hc5
  go_wp2_with fail
  refine (det_Idle _ _ _ W5.out H6.out).mono ?_
  rw [aw6]
  rintro e w7 ⟨rfl, hf⟩
  have hc7 : w7.cell? ⟨g, off, none⟩ = some (.int .i64 1) := hf.cell hc6 (fun e => e)
  have H7 := Lib.hid (Det.fr H6.out hf (fun e => e))
  have F7 := Lib.hid (F6.out.call hf (fun _ h _ => h.elim))
  clear hf hc6
  go_wp2_with fail
  refine (det_Now _ _ _ H7.out).mono ?_
  rintro e w8 ⟨rfl, rfl⟩
  go_wp2_with fail
  refine (det_State _ _ _ 0 W5.out H7.out).mono ?_
  rintro e w8 ⟨rfl, rfl⟩
  go_wp2_with fail
  refine (det_Last _ _ _ 1 W5.out H7.out).mono ?_
  rintro e w8 ⟨rfl, rfl⟩
  go_wp2_with fail
  go_ret
  exact ⟨rfl, F7.out.mono (fun i hi e => by unfold Only at e; omega)⟩
end Go.Proofs.Ytegidffoonkpnaa
