/- A script's text: the reference. -/
import Derived.Test.YtidhlfcmjpnhgaaGreatDoorQZ14
import Derived.Test.YtidhlfcmjpnhgaaGreatDoorSQ
import Derived.Test.YtidhlfcmjpnhgaaGreatDoorQYawake
namespace Go.Proofs.YtidhlfcmjpnhgaaGreatDoor
open Go.RowKit Go.Lib

theorem elemZ : ElemT Tryz.prog 27 61 4 40 := ElemT.mk (z := .agg #[.int .i64 0, .int .i64 0, .int .i64 0, .string default]) Tryz.underlying27 (by kernel_rfl) (by kernel_rfl) (by decide)
def zcs (z : ZC) : List Value := [.int .i64 z.kind, .int .i64 z.src, .int .i64 z.n, .string ⟨z.b.toArray⟩]
/-- The steps that were read. -/
structure ApZ (w wr : World) (N : Nat) (A : Option Addr) (c : Nat) (L : List ZC) : Prop where
  fr : Fr Nob w wr
  own : wr.ownsRow N 61 4 (.slice A L.length c) L.length (L.flatMap zcs)
section
variable {w wr w1 : World} {N : Nat} {A A' : Option Addr} {c c' : Nat} {L : List ZC}
theorem ApZ.pure (h : ApZ w wr N A c L) (hf : Fr Nob wr w1) : ApZ w w1 N A c L := ⟨h.fr.call hf (fun _ h _ => h), own_fr h.own hf (fun _ _ _ _ e => e)⟩
theorem ApZ.app (h : ApZ w wr N A c L) (hN : w.heap.size ≤ N) (x : ZC) (hown : w1.ownsRow N 61 4 (.slice A' (L.length + 1) c') (L.length + 1) (L.flatMap zcs ++ zcs x)) (hg : wr.grownBy w1 (A.map (·.block))) : ApZ w w1 N A' c' (L ++ [x]) := by
  refine ⟨h.fr.grown hg (fun k hk hlt => by have := own_base h.own k hk; omega), ?_⟩
  rw [show L.flatMap zcs ++ zcs x = (L ++ [x]).flatMap zcs by simp] at hown
  simpa using hown
end
/-- What reading a text answers: the reference. -/
def RReadP (w : World) (z : List ZC × Int × Int) (e : Ending) (w' : World) : Prop :=
  ∃ (A : Option Addr) (c : Nat), e = .returned (.tuple #[.slice A z.1.length c, .int .i64 z.2.1, .int .i64 z.2.2]) ∧ Sl w' 4 A z.1.length c (z.1.flatMap zcs) ∧ Fr Nob w w'
theorem RReadP.bad {w w' : World} {z : List ZC × Int × Int} {k i : Int} (h : z = ([], k, i)) (hf : Fr Nob w w') : RReadP w z (.returned (.tuple #[.slice none 0 0, .int .i64 k, .int .i64 i])) w' := by
  subst h
  exact ⟨none, 0, rfl, Sl.none_ _ _, hf⟩
set_option maxRecDepth 100000 in
set_option maxHeartbeats 40000000 in
theorem ref_SRead (w : World) (s : ByteArray) (hs : s.size ≤ 100000) : Calls Tryz.prog 8 #[.string s] w fun e w' => RReadP w (readS s.data.toList) e w' := by
  by_cases hl : 8192 < s.size
  · have hlI : (8192 : Int) < s.size := by omega
    have HR := Lib.hid (show readS s.data.toList = ([], 13, 0) by unfold readS; rw [if_pos (by rw [ba_len]; exact hl)])
    clear hl
    go_enter Tryz.func8, Tryz.ntmps8
    go_wp2_with fail
    go_ret3
    exact .bad HR.out (Fr.refl Nob w)
  · have hlI : ¬ (8192 : Int) < s.size := by omega
    have HRS := Lib.hid (show readS s.data.toList = loopS 0 [] (splitC 10 s.data.toList) by unfold readS; rw [if_neg (by rw [ba_len]; exact hl)])
    have HSP := Lib.hid (ref_Split w s 10 hs)
    go_enter Tryz.func8, Tryz.ntmps8
    go_wp2_with (first
      | ((go_at_call 19); (refine HSP.out.mono ?_); rintro e W1 ⟨PA, n, d, ps, rfl, hps, hsl, hPA, hf1⟩; have HPS := Lib.hid hps; have HSL := Lib.hid hsl; have HF1 := Lib.hid hf1; clear hps hsl hPA hf1)
      | fail)
    have hnn : ps.length = n := by have := HSL.out.len; simpa [strB] using this
    subst hnn
    have hn0 := splitC_len 10 s.data.toList
    rw [← HPS.out, ba_len] at hn0
    have hn5 : ps.length ≤ 8193 := by simpa [bl] using Nat.le_trans hn0 (by omega)
    have hmx := HSL.out.max
    have hle := HSL.out.le
    unfold maxLen at hmx
    have HL5 := Lib.hid hl
    clear hn0 hl HSP
    go_loopw [5, 7] (fun sv iv wr => ∃ (k : Nat) (A : Option Addr) (c : Nat) (L : List ZC), k ≤ ps.length ∧ iv = .int .i64 k ∧ sv = .slice A L.length c ∧ L.length ≤ k ∧ Hid (ApZ W1 wr W1.heap.size A c L) ∧ Hid (readS s.data.toList = loopS k L ((splitC 10 s.data.toList).drop k))) (fun _ iv _ => ps.length - (RowKit.intOf iv).toNat)
    case atStart => exact ⟨0, none, 0, [], Nat.zero_le _, rfl, rfl, Nat.le_refl _, Lib.hid ⟨Fr.refl _ _, ⟨rfl, .inl ⟨rfl, rfl⟩⟩⟩, Lib.hid (by rw [HRS.out]; rfl)⟩
    case round =>
      obtain ⟨k, A, c, L, hk, rfl, rfl, hLk, hst, hlp⟩ := hrel
      by_cases hlt : k < ps.length
      · have hI : (k : Int) < ps.length := by omega
        have hI3 : 0 ≤ (k : Int) := by omega
        obtain ⟨pb, po, rfl, hpb, hcp⟩ := (HSL.out.pure hst.out.fr).str_at hlt
        have hkb : k < (splitC 10 s.data.toList).length := by rw [← HPS.out]; simpa [bl] using hlt
        have hat : (splitC 10 s.data.toList)[k] = ps[k].data.toList := by
          have : (bl ps)[k]'(by simpa [bl] using hlt) = ps[k].data.toList := by simp [bl]
          rw [← this]
          congr 1
          exact HPS.out.symm
        have hsz : ps[k].size ≤ 8192 := by
          have := (splitC_part 10 s.data.toList ((splitC 10 s.data.toList)[k]) (List.getElem_mem _)).1
          rw [hat, ba_len, ba_len] at this
          have := HL5.out
          omega
        have HLP := Lib.hid (show readS s.data.toList = loopS k L (ps[k].data.toList :: (splitC 10 s.data.toList).drop (k + 1)) by
          rw [hlp.out, List.drop_eq_getElem_cons hkb, hat])
        rw [loopS_cons] at HLP
        clear hlp hat hkb
        have hst1 := hst.out.fr.size
        have HFL := Lib.hid (ref_Words wr ps[k] (by omega))
        generalize ps[k] = x at *
        go_upto_region 9 with (first
          | ((go_at_call 20); (refine HFL.out.mono ?_); rintro e W2 ⟨WA, m, wd, ws, rfl, hws, hwl, hWA, hf2⟩; have HWS := Lib.hid hws; have HWL := Lib.hid hwl; have HF2 := Lib.hid hf2; clear hws hwl hWA hf2)
          | fail)
        have hmm2 : ws.length = m := by have := HWL.out.len; simpa [strB] using this
        subst hmm2
        have HS2 := Lib.hid (hst.out.pure HF2.out)
        rw [← HWS.out] at HLP
        have hwn : ws.length ≤ 8193 := by
          have h := wordsC_len x.data.toList
          rw [← HWS.out, ba_len] at h
          simpa [bl] using Nat.le_trans h (by omega)
        have HWN := Lib.hid (show ∀ y ∈ ws, y.size ≤ 100000 ∧ y.size ≠ 0 from fun y hy => by
          obtain ⟨h1, h2, -⟩ := wordsC_mem (l := x.data.toList) (x := y.data.toList) (by rw [← HWS.out]; exact List.mem_map.2 ⟨y, hy, rfl⟩)
          rw [ba_len, ba_len] at h2
          exact ⟨by omega, fun e => h1 (by rw [← List.length_eq_zero_iff, ba_len, e])⟩)
        have hwmx := HWL.out.max
        have hwle := HWL.out.le
        unfold maxLen at hwmx
        by_cases hz : ws = []
        · subst hz
          have HNX := Lib.hid (show readS s.data.toList = loopS (k + 1) L ((splitC 10 s.data.toList).drop (k + 1)) from HLP.out)
          clear HLP
          go_wp2_with fail
          exact ⟨⟨k + 1, A, c, L, by omega, by go_num, rfl, by omega, HS2, HNX⟩, by simp [RowKit.intOf]; omega⟩
        · obtain ⟨a, r, hbl⟩ : ∃ a r, bl ws = a :: r := by
            cases ws with
            | nil => exact absurd rfl hz
            | cons y ys => exact ⟨_, _, rfl⟩
          obtain ⟨hw0, hx0⟩ := bl_head hbl
          obtain ⟨wg, wo, rfl, hwg, hwc⟩ := HWL.out.str_at hw0
          rw [Nat.add_zero] at hwc
          have hy0 := HWN.out _ (List.getElem_mem hw0)
          have HLI := Lib.hid (ref_Line W2 (some ⟨wg, wo, none⟩) wd ws a r HWL.out hbl (by omega) HWN.out)
          rw [hbl] at HLP
          have HL2 := Lib.hid (show readS s.data.toList = if a.head? = some 35 then loopS (k + 1) L ((splitC 10 s.data.toList).drop (k + 1)) else if (lineS a r).1 = 0 then loopS (k + 1) (L ++ [(lineS a r).2]) ((splitC 10 s.data.toList).drop (k + 1)) else ([], (lineS a r).1, (k + 1 : Nat)) from HLP.out)
          clear HLP
          generalize ws[0] = w0 at *
          have hhd : a.head? = some w0[0] := by rw [← hx0, list_cons w0 (by omega)]; rfl
          have hlI0 : (0 : Int) < ws.length := by omega
          have hlI1 : ((ws.length : Int) == 0) = false := by rw [beq_eq_false_iff_ne]; omega
          have hw0I : (0 : Int) < w0.size := by omega
          by_cases h35 : w0[0] = 35
          · have HNX := Lib.hid (show readS s.data.toList = loopS (k + 1) L ((splitC 10 s.data.toList).drop (k + 1)) by rw [HL2.out, if_pos (by rw [hhd, h35])])
            have hb : ((w0[0].toNat : Int) == 35) = true := by rw [h35]; rfl
            clear HL2 h35 hhd
            go_wp2_with fail
            exact ⟨⟨k + 1, A, c, L, by omega, by go_num, rfl, by omega, HS2, HNX⟩, by simp [RowKit.intOf]; omega⟩
          · have hb : ((w0[0].toNat : Int) == 35) = false := by rw [beq_eq_false_iff_ne]; intro e; exact h35 (UInt8.toNat_inj.1 (by have : (35 : UInt8).toNat = 35 := rfl; omega))
            rw [if_neg (by rw [hhd]; simpa using h35)] at HL2
            clear h35 hhd
            generalize lineS a r = zr at *
            obtain ⟨ze, zz⟩ := zr
            unfold MdP zV at HLI
            simp only at HL2 HLI
            by_cases he : ze = 0
            · subst he
              have HNX := Lib.hid (show readS s.data.toList = loopS (k + 1) (L ++ [zz]) ((splitC 10 s.data.toList).drop (k + 1)) by rw [HL2.out, if_pos rfl])
              clear HL2
              go_upto_region 13 with (first
                | ((go_at_call 21); (with_reducible refine HLI.out.mono ?_); rintro e W3 ⟨rfl, hf3⟩; have HF3 := Lib.hid hf3; clear hf3)
                | fail)
              go_wp2_with (at_builtin; refine wpList_app rfl _ _ 27 rfl elemZ (base := W1.heap.size) (xs := L.flatMap zcs) (news := zcs zz) rfl ?own rfl ?src ?one ?h63 ?hby ?hbase ?_)
              case own => exact ((HS2.out.pure HF3.out).pure (((Fr.refl Nob _).alloc _).alloc _)).own
              case src => exact Sl.new1 (Blk.new_eq (by first | rfl | simp)) 4 1 rfl (by decide)
              case one => exact (by intro u hu; simp [zcs] at hu; rcases hu with rfl | rfl | rfl | rfl <;> rfl)
              case h63 => unfold maxLen; omega
              case hby => omega
              case hbase => have h2 := HF2.out.size; have h3 := HF3.out.size; simp at h2 h3 ⊢; omega
              intro A4 c4 W4 hown hgr _
              have HP4 := Lib.hid (((HS2.out.pure HF3.out).pure (((Fr.refl Nob _).alloc _).alloc _)).app (Nat.le_refl _) zz hown hgr)
              clear hown hgr
              go_wp2_with fail
              exact ⟨⟨k + 1, A4, c4, L ++ [zz], by omega, by go_num, by simp, by simp; omega, HP4, HNX⟩, by simp [RowKit.intOf]; omega⟩
            · have HR := Lib.hid (show readS s.data.toList = ([], ze, (k : Int) + 1) by rw [HL2.out, if_neg he]; simp)
              have hne : ((ze : Int) == 0) = false := by rw [beq_eq_false_iff_ne]; exact he
              clear HL2 he
              go_wp2_with (first
                | ((go_at_call 21); (with_reducible refine HLI.out.mono ?_); rintro e W3 ⟨rfl, hf3⟩; have HF3 := Lib.hid hf3; clear hf3)
                | fail)
              go_ret3
              exact .bad HR.out ((HF1.out.call HS2.out.fr (fun _ e _ => e)).call (HF3.out.alloc _) (fun _ e _ => e))
      · have hI : ¬ (k : Int) < ps.length := by omega
        obtain rfl : k = ps.length := by omega
        have HR := Lib.hid (show readS s.data.toList = (L, 0, 0) by
          rw [hlp.out, List.drop_of_length_le (by rw [← HPS.out]; simp [bl]), loopS])
        go_wp2_with fail
        go_ret3
        rw [HR.out]
        exact ⟨A, c, rfl, Sl.of_own hst.out.own, HF1.out.call hst.out.fr (fun _ e _ => e)⟩
end Go.Proofs.YtidhlfcmjpnhgaaGreatDoor

/- Whether steps are the document's: the law's comparison. -/
namespace Go.Proofs.YtidhlfcmjpnhgaaGreatDoor
open Go.RowKit Go.Lib Go.Shelf Go.Sort

theorem zcs_len (e : ZC) : (zcs e).length = 4 := rfl
theorem zcs_at {w : World} {A : Option Addr} {c : Nat} {L : List ZC} (h : Sl w 4 A L.length c (L.flatMap zcs)) {k : Nat} (hk : k < L.length) : ∃ g o, A = some ⟨g, o, none⟩ ∧ g < w.heap.size ∧ w.cell? ⟨g, o + k * 4, none⟩ = some (.int .i64 L[k].kind) ∧ w.cell? ⟨g, o + k * 4 + 1, none⟩ = some (.int .i64 L[k].src) ∧ w.cell? ⟨g, o + k * 4 + 2, none⟩ = some (.int .i64 L[k].n) ∧ w.cell? ⟨g, o + k * 4 + 3, none⟩ = some (.string ⟨L[k].b.toArray⟩) := by
  obtain ⟨g, o, he, hb, hc⟩ := Sl.row (size := 4) zcs_len h hk
  exact ⟨g, o, he, hb, hc 0 _ rfl, by rw [Nat.add_assoc]; exact hc 1 _ rfl, by rw [Nat.add_assoc]; exact hc 2 _ rfl, by rw [Nat.add_assoc]; exact hc 3 _ rfl⟩
set_option maxRecDepth 100000 in
set_option maxHeartbeats 4000000 in
theorem law27_same (w : World) (A B : Option Addr) (c d : Nat) (L : List StV) (zs : List ZC) (hz : L.map StV.z = zs) (ha : Sl w 4 A L.length c (L.flatMap stc)) (hok : ∀ e ∈ L, StOk w e) (hb : Sl w 4 B zs.length d (zs.flatMap zcs)) :
    Calls Tryz.prog 9 #[.slice A L.length c, .slice B L.length d] w fun e w' => e = .returned (.bool true) ∧ Fr Nob w w' := by
  have HA := Lib.hid ha
  have HB := Lib.hid hb
  have HK := Lib.hid hok
  have hle := ha.le
  have hmx := ha.max
  have hzl : zs.length = L.length := by rw [← hz]; simp
  have hle2 := hb.le
  rw [hzl] at hle2
  unfold maxLen at hmx
  have HZ := Lib.hid hz
  have HZL := Lib.hid hzl
  clear ha hb hok hz hzl
  go_enter Tryz.func9, Tryz.ntmps9
  go_wp2_with fail
  go_loopw [5] (fun iv wr => ∃ k : Nat, k ≤ L.length ∧ iv = .int .i64 k ∧ Hid (Fr Nob w wr)) (fun iv _ => L.length - (RowKit.intOf iv).toNat)
  case atStart => exact ⟨0, Nat.zero_le _, rfl, Lib.hid (Fr.refl _ _)⟩
  case round =>
    obtain ⟨k, hk, rfl, hf⟩ := hrel
    by_cases hlt : k < L.length
    · have hI : (k : Int) < L.length := by omega
      have hI3 : 0 ≤ (k : Int) := by omega
      obtain ⟨g, o, rfl, hg, a0, a1, a2, a3⟩ := stc_at (HA.out.pure hf.out) hlt
      obtain ⟨g', o', rfl, hg', b0, b1, b2, b3⟩ := zcs_at (HB.out.pure hf.out) (k := k) (by rw [HZL.out]; exact hlt)
      have he : zs[k]'(by rw [HZL.out]; exact hlt) = L[k].z := by
        have h := HZ.out
        subst h
        simp
      rw [he] at b0 b1 b2 b3
      have HSO := Lib.hid ((HK.out _ (List.getElem_mem hlt)).pure hf.out)
      generalize L[k] = x at *
      clear he
      obtain ⟨⟨zk, zsr, zn, zb⟩, xB, xd⟩ := x
      simp only at a0 a1 a2 a3 b0 b1 b2 b3 HSO
      have k0 := fun d os => cell_regrown a0 d os
      have k1 := fun d os => cell_regrown a1 d os
      have k2 := fun d os => cell_regrown a2 d os
      have k3 := fun d os => cell_regrown a3 d os
      have l0 := fun d os => cell_regrown b0 d os
      have l1 := fun d os => cell_regrown b1 d os
      have l2 := fun d os => cell_regrown b2 d os
      have l3 := fun d os => cell_regrown b3 d os
      have hcv := fun (d : Nat) (os : Array Obj) => run_str (HSO.out.pure (Fr.of_below (S := Nob) (below_regrown wr d os)))
      go_upto_region 6 with fail
      refine wp_region_quiet_below (by kernel_rfl) (by kernel_rfl) ?_
      repeat (go_big_quiet_step (fail))
      refine wpQuiet_nil ?_
      intro _ hw'
      obtain ⟨⟨dq, osq⟩, hw''⟩ := hw'
      subst hw''
      go_wp2_with fail
      go_roundw
      case rel => exact ⟨k + 1, by omega, by go_num, Lib.hid (hf.out.call (Fr.of_below (S := Nob) (below_regrown _ dq osq)) (fun _ e _ => e))⟩
      case measure => simp [RowKit.intOf]; omega
    · have hI : ¬ (k : Int) < L.length := by omega
      go_wp2_with fail
      go_ret
      exact ⟨rfl, hf.out⟩
end Go.Proofs.YtidhlfcmjpnhgaaGreatDoor

/- ScriptReads. -/
namespace Go.Proofs.YtidhlfcmjpnhgaaGreatDoor
open Go.RowKit Go.Lib Go.Shelf Go.Sort

theorem law27_same' (w : World) (A B : Option Addr) (c d : Nat) (L : List StV) (zs : List ZC) (hz : L.map StV.z = zs) (ha : Sl w 4 A zs.length c (L.flatMap stc)) (hok : ∀ e ∈ L, StOk w e) (hb : Sl w 4 B zs.length d (zs.flatMap zcs)) :
    Calls Tryz.prog 9 #[.slice A zs.length c, .slice B zs.length d] w fun e w' => e = .returned (.bool true) ∧ Fr Nob w w' := by
  have h := hz
  have hl : zs.length = L.length := by rw [← hz]; simp
  rw [hl] at ha
  have := law27_same w A B c d L zs hz ha hok hb
  rw [← hl] at this
  exact this
theorem ref_SOf (w : World) (s : ByteArray) (hs : s.size ≤ 100000) {z : List ZC × Int × Int} (h : readS s.data.toList = z) : Calls Tryz.prog 8 #[.string s] w fun e w' => RReadP w z e w' := h ▸ ref_SRead w s hs
set_option maxRecDepth 100000 in
set_option maxHeartbeats 4000000 in
theorem law_ScriptReads (w : World) (s : ByteArray) (hv : SV w) : Calls Tryz.prog 3 #[.string s] w fun e w' => e = .returned (.bool true) ∧ Fr Nob w w' := by
  have HV := Lib.hid hv
  have HAW := Lib.hid (law27_awake w hv)
  clear hv
  by_cases hI : (10000 : Int) < (s.size : Nat)
  · go_enter Tryz.func3, Tryz.ntmps3
    go_wp2_with (first | ((go_at_call 6); (with_reducible refine HAW.out.mono ?_); rintro e w1 ⟨rfl, hf1⟩; have HF1 := Lib.hid hf1; clear hf1) | fail)
    go_ret
    exact ⟨rfl, HF1.out⟩
  · have hs : s.size ≤ 100000 := by omega
    obtain ⟨zs, er, ln, hz⟩ : ∃ zs er ln, readS s.data.toList = (zs, er, ln) := ⟨_, _, _, rfl⟩
    have HRP := Lib.hid (fun (W : World) (h : SV W) => prg_SOf W s hs h hz)
    have HRR := Lib.hid (fun (W : World) => ref_SOf W s hs hz)
    unfold SReadP at HRP
    unfold RReadP at HRR
    simp only at HRP HRR
    clear hz hs
    go_enter Tryz.func3, Tryz.ntmps3
    go_wp2_with (first
      | ((go_at_call 6); (with_reducible refine HAW.out.mono ?_); rintro e w1 ⟨rfl, hf1⟩; have HF1 := Lib.hid hf1; clear hf1)
      | ((go_at_call 7); (with_reducible refine (HRP.out _ (HV.out.fr HF1.out)).mono ?_); rintro e w2 ⟨A2, c2, L2, rfl, hL2, hs2, hk2, hf2⟩; have HF2 := Lib.hid (HF1.out.call hf2 (fun _ e _ => e)); have HS2 := Lib.hid hs2; have HL2 := Lib.hid hL2; have HK2 := Lib.hid hk2; clear hL2 hs2 hk2 hf2)
      | ((go_at_call 8); (with_reducible refine (HRR.out _).mono ?_); rintro e w3 ⟨A3, c3, rfl, hs3, hf3⟩; have HF3 := Lib.hid (HF2.out.call hf3 (fun _ e _ => e)); have HS3 := Lib.hid hs3; have HSM := Lib.hid (law27_same' w3 A2 A3 c2 c3 L2 zs HL2.out (HS2.out.pure hf3) (fun e he => (HK2.out e he).pure hf3) hs3); clear hs3 hf3)
      | ((go_at_call 9); (with_reducible refine HSM.out.mono ?_); rintro e w4 ⟨rfl, hf4⟩; have HF4 := Lib.hid (HF3.out.call hf4 (fun _ e _ => e)); clear hf4)
      | fail)
    go_ret
    exact ⟨by simp, HF4.out⟩
end Go.Proofs.YtidhlfcmjpnhgaaGreatDoor
