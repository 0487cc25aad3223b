/- The law DetectPlays, walked: the program and the reference side by side. -/
import Derived.Test.YtegidffoonkpnaaDlaw2
import Derived.Deep.DeepCutAuto
import Derived.Deep.RegionWith
namespace Go.Proofs.Ytegidffoonkpnaa
open Go.RowKit

/-- The detector in block b, the reference's D in the box B. -/
structure PlayW (w wr : World) (b B : Nat) (A1 : Option Addr) (c1 : Nat) (A2 : Option Addr) (c2 : Nat) (D E : DD) : Prop where
  fr : Fr Nob w wr
  det : Det wr b D
  box : Blk wr B 31 (rcells A1 c1 A2 c2 E)
  rd : Rd wr A1 c1 A2 c2 E
  wfD : WF D
  wfE : WF E
  hb : w.heap.size ≤ b
  hB : w.heap.size ≤ B
  ne : b ≠ B
  o1 : Off A1 b (b + 1)
  o2 : Off A2 b (b + 1)
  p1 : Off A1 B (B + 1)
  p2 : Off A2 B (B + 1)

section
variable {w wr w1 : World} {b B : Nat} {A1 A2 : Option Addr} {c1 c2 : Nat} {D E D' E' : DD}
theorem PlayW.pure (h : PlayW w wr b B A1 c1 A2 c2 D E) (hf : Fr Nob wr w1) : PlayW w w1 b B A1 c1 A2 c2 D E :=
  ⟨h.fr.call hf (fun _ h _ => h), h.det.fr hf (fun e => e), h.box.fr hf (fun e => e), h.rd.fr hf, h.wfD, h.wfE, h.hb, h.hB, h.ne, h.o1, h.o2, h.p1, h.p2⟩
theorem PlayW.step (h : PlayW w wr b B A1 c1 A2 c2 D E) (hd : Det w1 b D') (hw : WF D') (hf : Fr (Only b) wr w1) : PlayW w w1 b B A1 c1 A2 c2 D' E :=
  ⟨fr_only_new h.fr h.hb hf, hd, h.box.fr hf (fun e => h.ne e.symm), ⟨h.rd.st.fr hf (fun g off e _ hg => by unfold Only at hg; subst hg; exact (h.o1.ne (Nat.le_refl _) (by omega)) off e), h.rd.la.fr hf (fun g off e _ hg => by unfold Only at hg; subst hg; exact (h.o2.ne (Nat.le_refl _) (by omega)) off e)⟩,
    hw, h.wfE, h.hb, h.hB, h.ne, h.o1, h.o2, h.p1, h.p2⟩
theorem PlayW.put {A1' A2' : Option Addr} {c1' c2' : Nat} (h : PlayW w wr b B A1 c1 A2 c2 D E) (hf : Fr Nob wr w1) (hrd : Rd w1 A1' c1' A2' c2' E') (hw : WF E')
    (hoff : ∀ lo hi, hi ≤ wr.heap.size → Off A1 lo hi → Off A2 lo hi → Off A1' lo hi ∧ Off A2' lo hi) :
    PlayW w ((((w1.setCell ⟨B, 0, none⟩ (.slice A1' E'.st.length c1')).setCell ⟨B, 1, none⟩ (.slice A2' E'.la.length c2')).setCell ⟨B, 2, none⟩ (.int .i64 (DD.to E'))).setCell ⟨B, 3, none⟩ (.int .i64 E'.now)) b B A1' c1' A2' c2' D E' := by
  have hbl : b < wr.heap.size := Blk.lt h.det
  have hBl : B < wr.heap.size := Blk.lt h.box
  have hob := hoff b (b + 1) (by omega) h.o1 h.o2
  have hoB := hoff B (B + 1) (by omega) h.p1 h.p2
  refine ⟨rd_set4 (h.fr.call hf (fun _ h _ => h)) h.hB, (h.det.fr hf (fun e => e)).fr fr_set4 (fun e => h.ne e), ?_, hrd.set4 (hoB.1.ne (Nat.le_refl _) (by omega)) (hoB.2.ne (Nat.le_refl _) (by omega)), h.wfD, hw, h.hb, h.hB, h.ne, hob.1, hob.2, hoB.1, hoB.2⟩
  exact (((h.box.fr hf (fun e => e)).set 0 _).set 1 _ |>.set 2 _).set 3 _
end

/-- Behind the reference's tick, ahead of its being stored: the new D lies in the box V. -/
structure MidW (w wm : World) (b B V : Nat) (A1 : Option Addr) (c1 : Nat) (A2 : Option Addr) (c2 : Nat) (A1' : Option Addr) (c1' : Nat) (A2' : Option Addr) (c2' : Nat) (Ax : Option Addr) (cx : Nat) (Ay : Option Addr) (cy : Nat) (D E : DD) (F : List Int) : Prop where
  p : PlayW w wm b B A1 c1 A2 c2 D E
  v : Blk wm V 31 (rcells A1' c1' A2' c2' D)
  rd : Rd wm A1' c1' A2' c2' D
  ne : V ≠ B
  o1 : Off A1' b (b + 1)
  o2 : Off A2' b (b + 1)
  p1 : Off A1' B (B + 1)
  p2 : Off A2' B (B + 1)
  sx : Sl wm 1 Ax F.length cx (ints F)
  sy : Sl wm 1 Ay F.length cy (ints F)
  nx : ∀ g off, Ax = some ⟨g, off, none⟩ → g ≠ B
  ny : ∀ g off, Ay = some ⟨g, off, none⟩ → g ≠ B
section
variable {w wx wy : World} {b B : Nat} {A1 A2 A1' A2' Ax Ay : Option Addr} {c1 c2 c1' c2' cx cy : Nat} {D E : DD} {F : List Int}
theorem MidW.after (h : PlayW w wx b B A1 c1 A2 c2 D E) (hf : Fr Nob wx wy) (hrd : Rd wy A1' c1' A2' c2' D) (hoff : ∀ lo hi, hi ≤ wx.heap.size → Off A1 lo hi → Off A2 lo hi → Off A1' lo hi ∧ Off A2' lo hi)
    (hx : Sl wx 1 Ax F.length cx (ints F)) (hy : Sl wy 1 Ay F.length cy (ints F)) (hnx : ∀ g off, Ax = some ⟨g, off, none⟩ → g ≠ B) (hfy : ∀ g off, Ay = some ⟨g, off, none⟩ → wx.heap.size ≤ g) :
    MidW w (wy.alloc (.cells (rcells A1' c1' A2' c2' D) 31)) b B wy.heap.size A1 c1 A2 c2 A1' c1' A2' c2' Ax cx Ay cy D E F := by
  have hbl : b < wx.heap.size := Blk.lt h.det
  have hBl : B < wx.heap.size := Blk.lt h.box
  have hsz := hf.size
  have hob := hoff b (b + 1) (by omega) h.o1 h.o2
  have hoB := hoff B (B + 1) (by omega) h.p1 h.p2
  have hf2 : Fr Nob wy (wy.alloc (.cells (rcells A1' c1' A2' c2' D) 31)) := (Fr.refl Nob wy).alloc _
  exact ⟨(h.pure hf).pure hf2, Blk.new _ _ _, hrd.fr hf2, by omega, hob.1, hob.2, hoB.1, hoB.2, (hx.pure hf).pure hf2, hy.pure hf2, hnx, fun g off e => by have := hfy g off e; omega⟩
theorem MidW.before {Z : Array Value} (h : PlayW w wx b B A1 c1 A2 c2 D E) (hf : Fr Nob (wx.alloc (.cells Z 31)) wy) (hZ : Z.size = 4) (hrd : Rd wy A1' c1' A2' c2' D)
    (hoff : ∀ lo hi, hi ≤ (wx.alloc (.cells Z 31)).heap.size → Off A1 lo hi → Off A2 lo hi → Off A1' lo hi ∧ Off A2' lo hi)
    (hx : Sl wx 1 Ax F.length cx (ints F)) (hy : Sl wy 1 Ay F.length cy (ints F)) (hfy : ∀ g off, Ay = some ⟨g, off, none⟩ → (wx.alloc (.cells Z 31)).heap.size ≤ g) (hnx : ∀ g off, Ax = some ⟨g, off, none⟩ → g ≠ B) (hw : WF E) :
    MidW w ((((wy.setCell ⟨wx.heap.size, 0, none⟩ (.slice A1' D.st.length c1')).setCell ⟨wx.heap.size, 1, none⟩ (.slice A2' D.la.length c2')).setCell ⟨wx.heap.size, 2, none⟩ (.int .i64 (DD.to D))).setCell ⟨wx.heap.size, 3, none⟩ (.int .i64 D.now)) b B wx.heap.size A1 c1 A2 c2 A1' c1' A2' c2' Ax cx Ay cy D E F := by
  have hbl : b < wx.heap.size := Blk.lt h.det
  have hBl : B < wx.heap.size := Blk.lt h.box
  have hsz := hf.size
  simp only [World.size_alloc] at hsz hoff hfy
  have hob := hoff b (b + 1) (by omega) h.o1 h.o2
  have hoB := hoff B (B + 1) (by omega) h.p1 h.p2
  have hA := wf_ge hw h.rd
  have hV1 := hoff wx.heap.size (wx.heap.size + 1) (Nat.le_refl _) (fun g off e => .inl (hA.1 g off e)) (fun g off e => .inl (hA.2 g off e))
  have hpf : Fr Nob wx wy := ((Fr.refl Nob wx).alloc _).call hf (fun _ h _ => h)
  have hs4 : Fr (Only wx.heap.size) wy ((((wy.setCell ⟨wx.heap.size, 0, none⟩ (.slice A1' D.st.length c1')).setCell ⟨wx.heap.size, 1, none⟩ (.slice A2' D.la.length c2')).setCell ⟨wx.heap.size, 2, none⟩ (.int .i64 (DD.to D))).setCell ⟨wx.heap.size, 3, none⟩ (.int .i64 D.now)) := fr_set4
  have hall : Fr Nob wx ((((wy.setCell ⟨wx.heap.size, 0, none⟩ (.slice A1' D.st.length c1')).setCell ⟨wx.heap.size, 1, none⟩ (.slice A2' D.la.length c2')).setCell ⟨wx.heap.size, 2, none⟩ (.int .i64 (DD.to D))).setCell ⟨wx.heap.size, 3, none⟩ (.int .i64 D.now)) := rd_set4 hpf (Nat.le_refl _)
  refine ⟨h.pure hall, ?_, ⟨hrd.st.fr hs4 (fun g off e _ hg => by unfold Only at hg; subst hg; exact (hV1.1.ne (Nat.le_refl _) (by omega)) off e), hrd.la.fr hs4 (fun g off e _ hg => by unfold Only at hg; subst hg; exact (hV1.2.ne (Nat.le_refl _) (by omega)) off e)⟩, by omega, hob.1, hob.2, hoB.1, hoB.2, hx.pure hall, hy.fr hs4 (fun g off e _ hg => by unfold Only at hg; have := hfy g off e; omega), hnx, fun g off e => by have := hfy g off e; omega⟩
  have hb := (Blk.new wx 31 Z).fr hf (fun e => e)
  have := ((((hb.set 0 (.slice A1' D.st.length c1')).set 1 (.slice A2' D.la.length c2')).set 2 (.int .i64 (DD.to D))).set 3 (.int .i64 D.now))
  obtain ⟨z⟩ := Z
  match z, hZ with
  | [z0, z1, z2, z3], _ => exact this
/-- The new D is stored. -/
theorem MidW.put {V : Nat} (h : MidW w wx b B V A1 c1 A2 c2 A1' c1' A2' c2' Ax cx Ay cy D E F) :
    PlayW w ((((wx.setCell ⟨B, 0, none⟩ (.slice A1' D.st.length c1')).setCell ⟨B, 1, none⟩ (.slice A2' D.la.length c2')).setCell ⟨B, 2, none⟩ (.int .i64 (DD.to D))).setCell ⟨B, 3, none⟩ (.int .i64 D.now)) b B A1' c1' A2' c2' D D := by
  have q := h.p
  refine ⟨rd_set4 q.fr q.hB, q.det.fr fr_set4 (fun e => q.ne e), (((q.box.set 0 _).set 1 _ |>.set 2 _).set 3 _), h.rd.set4 (h.p1.ne (Nat.le_refl _) (by omega)) (h.p2.ne (Nat.le_refl _) (by omega)), q.wfD, q.wfD, q.hb, q.hB, q.ne, h.o1, h.o2, h.p1, h.p2⟩
end

def MidR (w : World) (b B : Nat) (A1 : Option Addr) (c1 : Nat) (A2 : Option Addr) (c2 : Nat) (Ax : Option Addr) (cx : Nat) (D E : DD) (F : List Int) (cut : Bool) (sv sy sq : Value) (wm : World) : Prop :=
  ∃ (V : Nat) (A1' : Option Addr) (c1' : Nat) (A2' : Option Addr) (c2' : Nat) (Ay : Option Addr) (cy : Nat), sv = .pointer (some ⟨V, 0, none⟩) ∧ sy = .slice Ay F.length cy ∧ sq = .bool cut ∧ MidW w wm b B V A1 c1 A2 c2 A1' c1' A2' c2' Ax cx Ay cy D E F
def RoundR (w : World) (b B N : Nat) (wx : World) : Prop := ∃ (D : DD) (A1 : Option Addr) (c1 : Nat) (A2 : Option Addr) (c2 : Nat), PlayW w wx b B A1 c1 A2 c2 D D ∧ D.st.length = N

set_option maxRecDepth 100000 in
set_option maxHeartbeats 20000000 in
theorem law_Plays (w : World) (n tt : Int) (hn : I64 n) (hto : I64 tt) (A : Option Addr) (c : Nat) (l : List Act3) (hl : Sl w 3 A l.length c (l.flatMap actc)) (hok : ∀ x ∈ l, actok x) :
    Calls Try.prog 3 #[.int .i64 n, .int .i64 tt, .slice A l.length c] w fun e w' => e = .returned (.bool true) ∧ Fr Nob w w' := by
  have HL := Lib.hid hl
  have HOK := Lib.hid hok
  have hto2 := hto.2
  clear hl hok hto
  go_enter Try.func3, Try.ntmps3
  go_wp2_with fail
  refine (law_awake _).mono ?_
  rintro e w1 ⟨rfl, hf⟩
  have F1 := Lib.hid hf
  clear hf
  by_cases h120 : 120 < l.length
  · have hI : 120 < (l.length : Int) := by omega
    go_wp2_with fail
    go_ret
    exact ⟨rfl, F1.out⟩
  · have hI : ¬ 120 < (l.length : Int) := by omega
    by_cases hbad : n < 1 ∨ 8 < n ∨ tt < 1
    · have Hbad := Lib.hid hbad
      clear hbad
      go_wp2_with fail
      refine (det_New_no _ n tt Hbad.out).mono ?_
      rintro e w2 ⟨rfl, rfl⟩
      go_wp2_with fail
      refine (ref_New_no _ n tt Hbad.out).mono ?_
      rintro e w3 ⟨rfl, hf3⟩
      have F3 := Lib.hid (F1.out.call hf3 (fun _ h _ => h))
      clear hf3
      go_wp2_with fail
      refine (det_Tick_nil _ _).mono ?_
      rintro e w4 ⟨rfl, rfl⟩
      go_wp2_with fail
      refine (det_Idle_nil _).mono ?_
      rintro e w4 ⟨rfl, rfl⟩
      go_wp2_with fail
      refine (det_Heard_nil _ _).mono ?_
      rintro e w4 ⟨rfl, rfl⟩
      go_wp2_with fail
      refine (det_Leave_nil _ _).mono ?_
      rintro e w4 ⟨rfl, rfl⟩
      go_wp2_with fail
      refine (det_Enter_nil _ _).mono ?_
      rintro e w4 ⟨rfl, rfl⟩
      go_wp2_with fail
      refine (det_State_nil _ _).mono ?_
      rintro e w4 ⟨rfl, rfl⟩
      go_wp2_with fail
      refine (det_Last_nil _ _).mono ?_
      rintro e w4 ⟨rfl, rfl⟩
      go_wp2_with fail
      refine (det_Now_nil _).mono ?_
      rintro e w4 ⟨rfl, rfl⟩
      go_wp2_with fail
      go_ret
      exact ⟨rfl, F3.out.alloc _⟩
    · have hn1 : 1 ≤ n := by omega
      have hn8 : n ≤ 8 := by omega
      have ht1 : 1 ≤ tt := by omega
      clear hbad
      obtain ⟨N, rfl⟩ := Int.eq_ofNat_of_zero_le (show 0 ≤ n by omega)
      go_wp2_with fail
      refine (det_New _ N tt (by omega) (by omega) ht1).mono ?_
      rintro e w2 ⟨rfl, hd, hf⟩
      have F2 := Lib.hid (F1.out.call hf (fun _ h _ => h))
      have D2 := Lib.hid hd
      have W2 := Lib.hid (wf_new N tt (by omega) (by omega) ht1 hto2)
      have hb0 : w.heap.size ≤ w1.heap.size := F1.out.size
      have hb1 : w1.heap.size < w2.heap.size := Blk.lt D2.out
      clear hd hf
      go_wp2_with fail
      refine (ref_New _ N tt (by omega) (by omega) ht1).mono ?_
      rintro e w3 ⟨A1, c1, A2, c2, rfl, hrd, hf, hoff⟩
      unfold rdv
      have HLs := Lib.hid (show (dnew N tt).st.length = N by simp [dnew])
      have HLl := Lib.hid (show (dnew N tt).la.length = N by simp [dnew])
      have P0 := Lib.hid (show PlayW w (w3.alloc (.cells (rcells A1 c1 A2 c2 (dnew N tt)) 31)) w1.heap.size w3.heap.size A1 c1 A2 c2 (dnew N tt) (dnew N tt) from by
        have hsz := hf.size
        have hA := wf_ge W2.out hrd
        refine ⟨(F2.out.call hf (fun _ h _ => h)).alloc _, (D2.out.fr hf (fun e => e)).fr ((Fr.refl Nob w3).alloc _) (fun e => e), Blk.new _ _ _, hrd.fr ((Fr.refl Nob w3).alloc _), W2.out, W2.out, hb0, by omega, by omega, (hoff _ _ (by omega)).1, (hoff _ _ (by omega)).2, ?_, ?_⟩
        · exact fun g off e => .inl (hA.1 g off e)
        · exact fun g off e => .inl (hA.2 g off e))
      unfold rcells at P0
      rw [HLs.out, HLl.out] at P0 ⊢
      clear hrd hf hoff D2 hb1
      generalize dnew N tt = D0 at *
      generalize w1.heap.size = b at *
      have HB0 := Lib.hid (show ∃ B, B = w3.heap.size from ⟨_, rfl⟩)
      go_wp2_with fail
      obtain ⟨B, hB⟩ := HB0.out
      rw [← hB] at P0 ⊢
      clear hB HB0
      go_loopw [16] (fun i wr => ∃ (k : Nat) (D : DD) (A1 : Option Addr) (c1 : Nat) (A2 : Option Addr) (c2 : Nat), k ≤ l.length ∧ i = .int .i64 k ∧ Hid (PlayW w wr b B A1 c1 A2 c2 D D) ∧ Hid (D.st.length = N)) (fun i _ => l.length - (intOf i).toNat)
      case atStart => exact ⟨0, D0, A1, c1, A2, c2, Nat.zero_le _, rfl, P0.out, HLs.out⟩
      case round =>
        clear P0 HLs HLl W2
        obtain ⟨k, D, A1, c1, A2, c2, hk, rfl, hp, hlen⟩ := hrel
        by_cases hlt : k < l.length
        · have hI2 : (k : Int) < l.length := by omega
          have hI3 : 0 ≤ (k : Int) := by omega
          have HC := Lib.hid (fun W (h : Fr Nob w W) => act_cells (HL.out.pure h) hlt)
          obtain ⟨ba, off, rfl, hba, d0, d1, d2⟩ := HC.out wr hp.out.fr
          have hak := HOK.out l[k] (List.getElem_mem hlt)
          have HA := Lib.hid hak
          have ha0 := hak.1.1
          have ha1 := hak.1.2
          clear hak
          have hle := HL.out.le
          have hmx := HL.out.max
          unfold maxLen at hmx
          generalize l[k] = x at *
          obtain ⟨xa, xs, xn⟩ := x
          simp only at d0 d1 d2 ha0 ha1 HC
          go_upto_if 122 with fail
          go_cut [16] (fun s wx => s = .int .i64 k ∧ RoundR w b B N wx)
          case first =>
            by_cases hx0 : xa = 0
            · subst hx0
              as_aux_lemma =>
                go_wp2_with fail
                refine (det_Tick _ b D xn HA.out.2.2 hp.out.wfD hp.out.det).mono ?_
                rintro e wx ⟨Ax, cx, rfl, hd1, hslx, hf1, hfreshx⟩
                have P1 := Lib.hid (hp.out.step hd1 (wf_dtick hp.out.wfD xn) hf1)
                have SX := Lib.hid hslx
                have FX := Lib.hid hfreshx
                have hb0 := P1.out.box.cell
                unfold rcells at hb0
                rw [hlen.out, (show D.la.length = N by rw [hp.out.wfD.len, hlen.out])] at hb0
                have Hll := Lib.hid (show D.la.length = N by rw [hp.out.wfD.len, hlen.out])
                clear hd1 hslx hf1 hfreshx d0 d1 d2
                obtain ⟨bb, oo, hA4, hal, d0, d1, d2⟩ := HC.out wx P1.out.fr
                cases hA4
                have HTick := Lib.hid (fun W h => ref_Tick W A1 c1 A2 c2 D xn HA.out.2.2 P1.out.wfE h)
                unfold rdv at HTick
                rw [hlen.out, Hll.out] at HTick
                have hBl : B < wx.heap.size := Blk.lt P1.out.box
                have HNX := Lib.hid (show ∀ g off, Ax = some ⟨g, off, none⟩ → g ≠ B from fun g off e => by have h1 := FX.out g off e; have h2 := Blk.lt hp.out.box; omega)
                go_upto_region 19 with fail
                go_cut [19, 20, 21] (fun sv sy sq wm => MidR w b B A1 c1 A2 c2 Ax cx (dtick D xn).1 D (dtick D xn).2.1 (dtick D xn).2.2 sv sy sq wm)
                case first =>
                  go_region_with ((go_at_call 18); refine (HTick.out _ ?_).mono ?_; (first | exact P1.out.rd.fr ((Fr.refl Nob _).drew) | exact P1.out.rd.fr (((Fr.refl Nob _).alloc _).drew)); rintro e wy ⟨A1', c1', A2', c2', Ay, cy, rfl, hrd, hsly, hf2, hoff, hfy⟩; (first | (have hvb := (Blk.new wx 31 #[.slice none 0 0, .slice none 0 0, .int .i64 0, .int .i64 0]).drew.fr hf2 (fun e => e); have hvc := hvb.cell; have hvf := hvb.frozen) | skip))
                  all_goals
                    go_wp2_with fail
                    go_meet
                    first
                      | exact ⟨_, A1', c1', A2', c2', Ay, cy, rfl, rfl, rfl, MidW.after P1.out (((Fr.refl Nob wx).drew).call hf2 (fun _ h _ => h)) hrd hoff SX.out hsly HNX.out hfy⟩
                      | exact ⟨_, A1', c1', A2', c2', Ay, cy, rfl, rfl, rfl, MidW.before P1.out (((Fr.refl Nob _).drew).call hf2 (fun _ h _ => h)) rfl hrd hoff SX.out hsly hfy HNX.out P1.out.wfE⟩
                case rest =>
                  obtain ⟨V, A1', c1', A2', c2', Ay, cy, rfl, rfl, rfl, hm'⟩ := hcut
                  have hm := Lib.hid hm'
                  clear hm'
                  have HLs := Lib.hid (show (dtick D xn).1.st.length = N by rw [(dtick_rest D xn).2.2.2, hlen.out])
                  have HLl := Lib.hid (show (dtick D xn).1.la.length = N by rw [(dtick_rest D xn).1, Hll.out])
                  have hv0 := hm.out.v.cell
                  have hbx0 := hm.out.p.box.cell
                  have hbf0 := hm.out.p.box.frozen
                  unfold rcells at hv0 hbx0
                  rw [HLs.out, HLl.out] at hv0
                  rw [hlen.out, Hll.out] at hbx0
                  have hne := hm.out.ne
                  have hne' : B ≠ V := fun e => hne e.symm
                  have HP := Lib.hid hm.out.put
                  rw [HLs.out, HLl.out] at HP
                  have HX := Lib.hid (hm.out.sx.fr (fr_set4 (g := B) (x := .slice A1' N c1') (y := .slice A2' N c2') (z := .int .i64 (DD.to (dtick D xn).1)) (u := .int .i64 (dtick D xn).1.now)) (fun g off e _ hg => hm.out.nx g off e hg))
                  have HY := Lib.hid (hm.out.sy.fr (fr_set4 (g := B) (x := .slice A1' N c1') (y := .slice A2' N c2') (z := .int .i64 (DD.to (dtick D xn).1)) (u := .int .i64 (dtick D xn).1.now)) (fun g off e _ hg => hm.out.ny g off e hg))
                  have hF8 : (dtick D xn).2.1.length ≤ 8 := by have := dfound_len (dlate D xn) D.st.length; have := hp.out.wfD.le8; show (dfound _ _).length ≤ 8; omega
                  clear hb0 d0 d1 d2 P1 SX FX HTick HNX
                  generalize (dtick D xn).1 = D2 at *
                  generalize (dtick D xn).2.1 = F at *
                  generalize (dtick D xn).2.2 = cut at *
                  have hcc : (cut != cut) = false := by simp
                  have hff : ((F.length : Int) != (F.length : Int)) = false := by simp
                  go_wp2_with fail
                  go_loopw [22] (fun s wl => ∃ j : Nat, j ≤ F.length ∧ s = .int .i64 j ∧ Hid (PlayW w wl b B A1' c1' A2' c2' D2 D2) ∧ Hid (Sl wl 1 Ax F.length cx (ints F)) ∧ Hid (Sl wl 1 Ay F.length cy (ints F))) (fun s _ => F.length - (intOf s).toNat)
                  case atStart => exact ⟨0, Nat.zero_le _, rfl, HP.out, HX.out, HY.out⟩
                  case round =>
                    obtain ⟨j, hj, rfl, hq, hx, hy⟩ := hrel
                    by_cases hjn : j < F.length
                    · have hjI : (j : Int) < F.length := by omega
                      have hjI0 : 0 ≤ (j : Int) := by omega
                      have hxl := hx.out.le
                      have hyl := hy.out.le
                      have hxm := hx.out.max
                      have hym := hy.out.max
                      unfold maxLen at hxm hym
                      obtain ⟨bx, ox, hAx, _, hcx⟩ := hx.out.int hjn
                      obtain ⟨by', oy, hAy, _, hcy⟩ := hy.out.int hjn
                      subst hAx hAy
                      generalize F.getD j 0 = fv at *
                      have hfv : (fv != fv) = false := by simp
                      go_wp2_with fail
                      go_quiet (fail)
                      go_wp2_with fail
                      go_roundw
                      case rel => exact ⟨j + 1, by omega, by go_num, hq.out.pure ((Fr.refl Nob _).drewN nq), hx.out.drewN nq, hy.out.drewN nq⟩
                      case measure => simp [intOf]; omega
                    · have hjj : j = F.length := by omega
                      go_wp2_with fail
                      go_meet
                      exact ⟨rfl, D2, A1', c1', A2', c2', hq.out, HLs.out⟩
            · have hx0' : (xa == 0) = false := by simpa using hx0
              as_aux_lemma =>
                go_wp2_with fail
                refine (law_play _ b D xa xs xn HA.out.2.2 hp.out.wfD hp.out.det).mono ?_
                rintro e wx ⟨rfl, hd1, hf1⟩
                have P1 := Lib.hid (hp.out.step hd1 (wf_dplay hp.out.wfD xa xs xn) hf1)
                have Hll := Lib.hid (show D.la.length = N by rw [hp.out.wfD.len, hlen.out])
                have hb0 := P1.out.box.cell
                unfold rcells at hb0
                rw [hlen.out, Hll.out] at hb0
                clear hd1 hf1 d0 d1 d2
                obtain ⟨bb, oo, hA4, hal, d0, d1, d2⟩ := HC.out wx P1.out.fr
                cases hA4
                have HLs := Lib.hid (show (dplay D xa xs xn).1.st.length = N by rw [(play_len D xa xs xn).1, hlen.out])
                have HLl := Lib.hid (show (dplay D xa xs xn).1.la.length = N by rw [(wf_dplay hp.out.wfD xa xs xn).len, HLs.out])
                by_cases hx1 : xa = 1
                · subst hx1
                  have HPl := Lib.hid (show dplay D 1 xs xn = dheard D xs by unfold dplay; rw [if_neg (by omega), if_pos rfl])
                  as_aux_lemma =>
                    have HR2 := Lib.hid (fun W h => ref_Heard W A1 c1 A2 c2 D xs P1.out.wfE h)
                    unfold rdv at HR2
                    rw [hlen.out, Hll.out, ← HPl.out, HLs.out, HLl.out] at HR2
                    go_wp2_with fail
                    go_region_with ((go_at_call 20); refine (HR2.out _ (P1.out.rd.fr ((Fr.refl Nob _).drew))).mono ?_; rintro e wy ⟨A1', c1', A2', c2', rfl, hrd, hf2, hoff⟩; have hbf := (P1.out.box.drew.fr hf2 (fun e => e)).cell; have hbz := (P1.out.box.drew.fr hf2 (fun e => e)).frozen; unfold rcells at hbf; rw [hlen.out, Hll.out] at hbf)
                    all_goals
                      have HP := Lib.hid (P1.out.put (((Fr.refl Nob wx).drew).call hf2 (fun _ h _ => h)) hrd (wf_dplay hp.out.wfD _ xs xn) hoff)
                      rw [HLs.out, HLl.out] at HP
                      generalize (dplay D _ xs xn).2 = vb at *
                      have hvv : (vb != vb) = false := by simp
                      go_wp2_with fail
                      go_meet
                      exact ⟨rfl, _, A1', c1', A2', c2', HP.out, HLs.out⟩
                · have hx1' : (xa == 1) = false := by simpa using hx1
                  by_cases hx2 : xa = 2
                  · subst hx2
                    have HPl := Lib.hid (show dplay D 2 xs xn = dleave D xs by unfold dplay; rw [if_neg (by omega), if_neg (by omega), if_pos rfl])
                    as_aux_lemma =>
                      have HR2 := Lib.hid (fun W h => ref_Leave W A1 c1 A2 c2 D xs P1.out.wfE h)
                      unfold rdv at HR2
                      rw [hlen.out, Hll.out, ← HPl.out, HLs.out, HLl.out] at HR2
                      go_wp2_with fail
                      go_region_with ((go_at_call 21); refine (HR2.out _ (P1.out.rd.fr ((Fr.refl Nob _).drew))).mono ?_; rintro e wy ⟨A1', c1', A2', c2', rfl, hrd, hf2, hoff⟩; have hbf := (P1.out.box.drew.fr hf2 (fun e => e)).cell; have hbz := (P1.out.box.drew.fr hf2 (fun e => e)).frozen; unfold rcells at hbf; rw [hlen.out, Hll.out] at hbf)
                      all_goals
                        have HP := Lib.hid (P1.out.put (((Fr.refl Nob wx).drew).call hf2 (fun _ h _ => h)) hrd (wf_dplay hp.out.wfD _ xs xn) hoff)
                        rw [HLs.out, HLl.out] at HP
                        generalize (dplay D _ xs xn).2 = vb at *
                        have hvv : (vb != vb) = false := by simp
                        go_wp2_with fail
                        go_meet
                        exact ⟨rfl, _, A1', c1', A2', c2', HP.out, HLs.out⟩
                  · have hx2' : (xa == 2) = false := by simpa using hx2
                    have HPl := Lib.hid (show dplay D xa xs xn = denter D xs by unfold dplay; rw [if_neg hx0, if_neg hx1, if_neg hx2])
                    clear hx2
                    as_aux_lemma =>
                      have HR2 := Lib.hid (fun W h => ref_Enter W A1 c1 A2 c2 D xs P1.out.wfE h)
                      unfold rdv at HR2
                      rw [hlen.out, Hll.out, ← HPl.out, HLs.out, HLl.out] at HR2
                      go_wp2_with fail
                      go_region_with ((go_at_call 22); refine (HR2.out _ (P1.out.rd.fr ((Fr.refl Nob _).drew))).mono ?_; rintro e wy ⟨A1', c1', A2', c2', rfl, hrd, hf2, hoff⟩; have hbf := (P1.out.box.drew.fr hf2 (fun e => e)).cell; have hbz := (P1.out.box.drew.fr hf2 (fun e => e)).frozen; unfold rcells at hbf; rw [hlen.out, Hll.out] at hbf)
                      all_goals
                        have HP := Lib.hid (P1.out.put (((Fr.refl Nob wx).drew).call hf2 (fun _ h _ => h)) hrd (wf_dplay hp.out.wfD _ xs xn) hoff)
                        rw [HLs.out, HLl.out] at HP
                        generalize (dplay D _ xs xn).2 = vb at *
                        have hvv : (vb != vb) = false := by simp
                        go_wp2_with fail
                        go_meet
                        exact ⟨rfl, _, A1', c1', A2', c2', HP.out, HLs.out⟩
          case rest =>
            as_aux_lemma =>
              clear hp hlen d0 d1 d2 HC HA
              obtain ⟨rfl, D, A1, c1, A2, c2, hp', hlen'⟩ := hcut
              have hp := Lib.hid hp'
              have hlen := Lib.hid hlen'
              clear hp' hlen'
              have Hll := Lib.hid (show D.la.length = N by rw [hp.out.wfD.len, hlen.out])
              go_wp2_with fail
              refine (det_Idle _ b D hp.out.wfD hp.out.det).mono ?_
              rintro e wi ⟨rfl, hfi⟩
              have P2 := Lib.hid (hp.out.pure hfi)
              have hb0 := P2.out.box.cell
              unfold rcells at hb0
              rw [hlen.out, Hll.out] at hb0
              have HI2 := Lib.hid (fun W h => ref_Idle W A1 c1 A2 c2 D P2.out.wfE h)
              unfold rdv at HI2
              rw [hlen.out, Hll.out] at HI2
              clear hfi
              go_wp2_with fail
              refine (HI2.out _ P2.out.rd).mono ?_
              rintro e wj ⟨rfl, hfj⟩
              have P3 := Lib.hid (P2.out.pure hfj)
              have hb1 := P3.out.box.cell
              unfold rcells at hb1
              rw [hlen.out, Hll.out] at hb1
              clear hfj hb0
              generalize (didle D).1 = i1 at *
              generalize (didle D).2 = i2 at *
              have hi1 : (i1 != i1) = false := by simp
              have hi2 : (i2 != i2) = false := by simp
              have hnn : (D.now != D.now) = false := by simp
              go_wp2_with fail
              go_quiet ((go_at_call 17; exact Calls.quiet_of_same ((det_Now _ b D (P3.out.det.drewN _)).mono fun _ _ ⟨h1, h2⟩ => ⟨h1, h2.symm⟩)))
              go_wp2_with fail
              have HS2 := Lib.hid (fun W s h => ref_State W A1 c1 A2 c2 D s h)
              have HL2 := Lib.hid (fun W s h => ref_Last W A1 c1 A2 c2 D s P3.out.wfE h)
              unfold rdv at HS2 HL2
              rw [hlen.out, Hll.out] at HS2 HL2
              obtain ⟨wo, hwo⟩ : ∃ wo : World, wo = wr := ⟨_, rfl⟩
              clear hwo hb1
              go_loopw [29] (fun s wl => ∃ j : Nat, j ≤ N + 2 ∧ s = .int .i64 ((j : Int) - 1) ∧ Hid (PlayW w wl b B A1 c1 A2 c2 D D)) (fun s _ => (N + 1 - intOf s).toNat)
              case atStart => exact ⟨0, by omega, rfl, P3.out.pure ((Fr.refl Nob _).drewN _)⟩
              case round =>
                obtain ⟨j, hj, rfl, hq⟩ := hrel
                have hb2 := hq.out.box.cell
                unfold rcells at hb2
                rw [hlen.out, Hll.out] at hb2
                by_cases hjn : j ≤ N + 1
                · have hjI : (j : Int) - 1 ≤ N := by omega
                  have hjI0 : -1 ≤ (j : Int) - 1 := by omega
                  have hjI2 : (j : Int) - 1 ≤ 9 := by omega
                  obtain ⟨sj, hsj⟩ : ∃ sj : Int, sj = (j : Int) - 1 := ⟨_, rfl⟩
                  rw [← hsj] at hjI hjI0 hjI2 ⊢
                  have HSJ := Lib.hid hsj
                  clear hsj
                  obtain ⟨ds, hds⟩ : ∃ ds, dstate D sj = ds := ⟨_, rfl⟩
                  obtain ⟨dl, hdl⟩ : ∃ dl, dlast D sj = dl := ⟨_, rfl⟩
                  have HSS := Lib.hid hds
                  have HLL := Lib.hid hdl
                  clear hds hdl
                  have hds : (ds != ds) = false := by simp
                  have hdl : (dl != dl) = false := by simp
                  go_wp2_with fail
                  go_region_with (first
                    | ((go_at_call 15); refine (det_State _ b D sj hq.out.wfD hq.out.det.drew).mono ?_; rintro e wz ⟨rfl, rfl⟩; rw [HSS.out])
                    | ((go_at_call 24); refine (HS2.out _ sj (hq.out.rd.fr ((Fr.refl Nob _).drew))).mono ?_; rintro e w7 ⟨rfl, hf7⟩; rw [HSS.out]; have P7 := Lib.hid (hq.out.pure (((Fr.refl Nob _).drew).call hf7 (fun _ h _ => h))); have hb7 := P7.out.box.cell; unfold rcells at hb7; rw [hlen.out, Hll.out] at hb7)
                    | ((go_at_call 16); refine (det_Last _ b D sj P7.out.wfD P7.out.det).mono ?_; rintro e wz ⟨rfl, rfl⟩; rw [HLL.out])
                    | ((go_at_call 25); refine (HL2.out _ sj P7.out.rd).mono ?_; rintro e w8 ⟨rfl, hf8⟩; rw [HLL.out]; have P8 := Lib.hid (P7.out.pure hf8)))
                  all_goals
                    go_wp2_with fail
                    go_roundw
                    case rel => exact ⟨j + 1, by omega, by rw [HSJ.out]; exact vint (by omega), P8.out⟩
                    case measure => simp [intOf]; have := HSJ.out; omega
                · have hjj : j = N + 2 := by omega
                  subst hjj
                  go_wp2_with fail
                  go_roundw
                  case rel => exact ⟨k + 1, D, A1, c1, A2, c2, by omega, by go_num, hq.out, hlen.out⟩
                  case measure => simp [intOf]; omega
        · have hkk : k = l.length := by omega
          subst hkk
          go_wp2_with fail
          go_ret
          exact ⟨rfl, hp.out.fr⟩
end Go.Proofs.Ytegidffoonkpnaa
