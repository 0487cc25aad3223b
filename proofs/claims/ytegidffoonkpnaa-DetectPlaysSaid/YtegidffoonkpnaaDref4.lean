/- The reference of the detector: a tick. -/
import Derived.Test.YtegidffoonkpnaaDref3
namespace Go.Proofs.Ytegidffoonkpnaa
open Go.RowKit

def rcells (A1 : Option Addr) (c1 : Nat) (A2 : Option Addr) (c2 : Nat) (D : DD) : Array Value :=
  #[.slice A1 D.st.length c1, .slice A2 D.la.length c2, .int .i64 D.to, .int .i64 D.now]

theorem rput_upd {D : DD} {k : Nat} (h : dsilent (dupd D k) k = true) : rput (dupd D k) k 2 false = dupd D (k + 1) := by
  simp only [dupd]; rw [if_pos h]; rfl

/-- The loop's world: the box, the result's slot, the row that is told. -/
structure TickW (w wr : World) (A1 : Option Addr) (c1 : Nat) (A2 : Option Addr) (c2 : Nat) (Ao : Option Addr) (co : Nat) (D : DD) (F : List Int) : Prop where
  fr : Fr Nob w wr
  box : Blk wr w.heap.size 31 (rcells A1 c1 A2 c2 D)
  res : Blk wr (w.heap.size + 1) 31 #[.slice none 0 0, .slice none 0 0, .int .i64 0, .int .i64 0]
  rd : Rd wr A1 c1 A2 c2 D
  own : wr.ownsRow (w.heap.size + 2) 3 1 (.slice Ao F.length co) F.length (ints F)
  big : w.heap.size + 2 ≤ wr.heap.size
  off1 : Off A1 w.heap.size (w.heap.size + 2)
  off2 : Off A2 w.heap.size (w.heap.size + 2)
  ap1 : ∀ g off, A1 = some ⟨g, off, none⟩ → Ao.map (·.block) ≠ some g
  ap2 : ∀ g off, A2 = some ⟨g, off, none⟩ → Ao.map (·.block) ≠ some g

theorem wf_ge {D : DD} (hw : WF D) {w : World} {A1 A2 : Option Addr} {c1 c2 : Nat} (h : Rd w A1 c1 A2 c2 D) : (∀ g off, A1 = some ⟨g, off, none⟩ → g < w.heap.size) ∧ (∀ g off, A2 = some ⟨g, off, none⟩ → g < w.heap.size) := by
  obtain ⟨b, off, rfl, hb, _⟩ := h.st.cells hw.pos
  obtain ⟨b2, off2, rfl, hb2, _⟩ := h.la.cells (by rw [hw.len]; exact hw.pos)
  exact ⟨fun g off e => by cases e; exact hb, fun g off e => by cases e; exact hb2⟩

/-- An append onto the row that is told. -/
theorem TickW.app {w wr w1 : World} {A1 A2 Ao Ao' : Option Addr} {c1 c2 co co' : Nat} {D : DD} {F : List Int} {x : Int} (hw : WF D) (h : TickW w wr A1 c1 A2 c2 Ao co D F) {o : Obj}
    (hgr : (wr.alloc o).grownBy w1 (Ao.map (·.block))) (hat : Lies Ao' Ao (wr.heap.size + 1))
    (hown : w1.ownsRow (w.heap.size + 2) 3 1 (.slice Ao' (F.length + 1) co') (F.length + 1) (ints F ++ [.int .i64 x])) : TickW w w1 A1 c1 A2 c2 Ao' co' D (F ++ [x]) := by
  have hb := own_base h.own
  have hA := wf_ge hw h.rd
  have hsz := hgr.size
  simp only [World.size_alloc] at hsz
  refine ⟨(h.fr.alloc o).grown hgr (fun i hi hlt => by have := hb i hi; omega), (h.box.alloc o).grown hgr (fun e => by have := hb _ e; omega), (h.res.alloc o).grown hgr (fun e => by have := hb _ e; omega), ?_, ?_, by have := h.big; omega, h.off1, h.off2, ?_, ?_⟩
  · have hF : Fr (fun k => Ao.map (·.block) = some k) wr w1 := ((Fr.refl _ wr).alloc o).grown hgr (fun k hk _ => hk)
    exact ⟨h.rd.st.fr hF (fun b off e _ hb => h.ap1 b off e hb), h.rd.la.fr hF (fun b off e _ hb => h.ap2 b off e hb)⟩
  · have e : (F ++ [x]).length = F.length + 1 := by simp
    rw [e]; unfold ints; rw [List.map_append]; exact hown
  · intro g off e e2
    rcases hat with hat | hat
    · rw [hat] at e2; exact h.ap1 g off e e2
    · rw [hat] at e2; have := hA.1 g off e; simp only [Option.some.injEq] at e2; omega
  · intro g off e e2
    rcases hat with hat | hat
    · rw [hat] at e2; exact h.ap2 g off e e2
    · rw [hat] at e2; have := hA.2 g off e; simp only [Option.some.injEq] at e2; omega

theorem TickW.drewN {w wr : World} {A1 A2 Ao : Option Addr} {c1 c2 co : Nat} {D : DD} {F : List Int} (h : TickW w wr A1 c1 A2 c2 Ao co D F) (n : Nat) : TickW w (wr.drewN n) A1 c1 A2 c2 Ao co D F :=
  ⟨h.fr.drewN n, h.box, h.res, ⟨h.rd.st.drewN n, h.rd.la.drewN n⟩, h.own, h.big, h.off1, h.off2, h.ap1, h.ap2⟩

/-- A new D stored into the box. -/
theorem TickW.put {w wr w1 : World} {A1 A2 Ao A1' A2' : Option Addr} {c1 c2 co c1' c2' : Nat} {D D' : DD} {F : List Int} (h : TickW w wr A1 c1 A2 c2 Ao co D F) (hf : Fr Nob wr w1)
    (hrd : Rd w1 A1' c1' A2' c2' D') (hoff : ∀ lo hi, hi ≤ wr.heap.size → Off A1' lo hi ∧ Off A2' lo hi) :
    TickW w ((((w1.setCell ⟨w.heap.size, 0, none⟩ (.slice A1' D'.st.length c1')).setCell ⟨w.heap.size, 1, none⟩ (.slice A2' D'.la.length c2')).setCell ⟨w.heap.size, 2, none⟩ (.int .i64 D'.to)).setCell ⟨w.heap.size, 3, none⟩ (.int .i64 D'.now)) A1' c1' A2' c2' Ao co D' F := by
  have hbig := h.big
  have hb := own_base h.own
  have hbl : ∀ g, Ao.map (·.block) = some g → g < wr.heap.size := fun g hg => (h.own.lt g (by cases Ao <;> simp_all [Value.ownBlock])).2
  obtain ⟨o1, o2⟩ := hoff w.heap.size (w.heap.size + 2) hbig
  refine ⟨rd_set4 (h.fr.call hf (fun _ h _ => h)) (Nat.le_refl _), ?_, (h.res.fr hf (fun e => e)).fr fr_set4 (by unfold Only; omega), hrd.set4 (o1.ne (Nat.le_refl _) (by omega)) (o2.ne (Nat.le_refl _) (by omega)), ?_, ?_, o1, o2, ?_, ?_⟩
  · exact (((h.box.fr hf (fun e => e)).set 0 _).set 1 _ |>.set 2 _).set 3 _
  · exact own_fr (own_fr h.own hf (fun _ _ _ _ e => e)) fr_set4 (fun i _ hb _ e => by unfold Only at e; omega)
  · have := hf.size; simp; omega
  · intro g off e e2
    rcases (hoff g (g + 1) (hbl g e2)).1 g off e with h | h <;> omega
  · intro g off e e2
    rcases (hoff g (g + 1) (hbl g e2)).2 g off e with h | h <;> omega

set_option maxHeartbeats 800000 in
theorem ref_Tick (w : World) (A1 : Option Addr) (c1 : Nat) (A2 : Option Addr) (c2 : Nat) (D : DD) (n : Int) (hn : I64 n) (hw : WF D) (hR : Rd w A1 c1 A2 c2 D) :
    Calls Try.prog 18 #[rdv A1 c1 A2 c2 D, .int .i64 n] w fun e w' => ∃ A1' c1' A2' c2' A c, e = .returned (.tuple #[rdv A1' c1' A2' c2' (dtick D n).1, .slice A (dtick D n).2.1.length c, .bool (dtick D n).2.2]) ∧ Rd w' A1' c1' A2' c2' (dtick D n).1 ∧
      Sl w' 1 A (dtick D n).2.1.length c (ints (dtick D n).2.1) ∧ Fr Nob w w' ∧
      (∀ lo hi, hi ≤ w.heap.size → Off A1 lo hi → Off A2 lo hi → Off A1' lo hi ∧ Off A2' lo hi) ∧ (∀ g off, A = some ⟨g, off, none⟩ → w.heap.size ≤ g) := by
  have hnow : I64 D.now := ⟨by have := hw.now0; omega, hw.now2⟩
  have hn0 : I64 0 := ⟨by omega, by omega⟩
  have Hn := Lib.hid hn
  have Hn0 := Lib.hid hn0
  have Hnow := Lib.hid hnow
  have Hw := Lib.hid hw
  have HR := Lib.hid hR
  have h8 := hw.le8
  unfold rdv
  clear hw hR hn0 hnow hn
  by_cases hneg : n < 0
  · skip
    have hm : max n 0 = 0 := by omega
    have HT := Lib.hid (show dlate D n = { D with now := (sadd D.now 0).1 } by unfold dlate; rw [hm])
    have HG := Lib.hid (show dtick D n = (dupd (dlate D n) D.st.length, dfound (dlate D n) D.st.length, (sadd D.now 0).2) by unfold dtick; rw [hm])
    clear hm
    go_enter Try.func18, Try.ntmps18
    go_wp2_with fail
    refine (ref_Add _ _ _ Hnow.out Hn0.out).mono ?_
    rintro e w' ⟨rfl, rfl⟩
    have HW := Lib.hid (wf_dlate Hw.out n)
    have HR1 := Lib.hid (show Rd w A1 c1 A2 c2 (dlate D n) from ⟨HR.out.st, HR.out.la⟩)
    have Hlen := Lib.hid (show (dlate D n).st.length = D.st.length from rfl)
    have Hto := Lib.hid (show (dlate D n).to = D.to from rfl)
    have Hllen := Lib.hid (show (dlate D n).la.length = D.la.length from rfl)
    have Hnw := Lib.hid (show (dlate D n).now = (sadd D.now 0).1 by rw [HT.out])
    clear HT
    generalize dlate D n = D1 at *
    generalize (sadd D.now 0).1 = nw at *
    generalize (sadd D.now 0).2 = cut at *
    generalize hN : D.st.length = N at *
    generalize hM : D.la.length = M at *
    generalize hT : D.to = to at *
    clear hN hM hT
    go_wp2_with fail
    have Hst : Hid (TickW w ((w.alloc (.cells #[.slice A1 N c1, .slice A2 M c2, .int .i64 to, .int .i64 nw] 31)).alloc (.cells #[.slice none 0 0, .slice none 0 0, .int .i64 0, .int .i64 0] 31)) A1 c1 A2 c2 none 0 (dupd D1 0) (dfound D1 0)) := by
      refine ⟨((Fr.refl _ _).alloc _).alloc _, ?_, Blk.new_eq (by simp), HR1.out.fr (((Fr.refl _ _).alloc _).alloc _), World.ownsRow_nil _ _ _ _, by simp, ?_, ?_, fun g off _ => by simp, fun g off _ => by simp⟩
      · have := (Blk.new w 31 #[.slice A1 N c1, .slice A2 M c2, .int .i64 to, .int .i64 nw]).alloc (.cells #[.slice none 0 0, .slice none 0 0, .int .i64 0, .int .i64 0] 31)
        rw [← Hlen.out, ← Hto.out, ← Hllen.out, ← Hnw.out] at this
        simp only [Hlen.out, Hto.out, Hllen.out, Hnw.out] at this ⊢
        unfold rcells dupd
        rw [Hlen.out, Hto.out, Hllen.out, Hnw.out]
        exact this
      · exact (HR1.out.off HW.out _ (Nat.le_refl _)).1
      · exact (HR1.out.off HW.out _ (Nat.le_refl _)).2
    go_loopw [9, 10] (fun f i wr => ∃ (k : Nat) (B1 : Option Addr) (e1 : Nat) (B2 : Option Addr) (e2 : Nat) (Ao : Option Addr) (co : Nat), k ≤ N ∧ i = .int .i64 k ∧ f = .slice Ao (dfound D1 k).length co ∧ TickW w wr B1 e1 B2 e2 Ao co (dupd D1 k) (dfound D1 k) ∧ Hid (∀ lo hi, hi ≤ w.heap.size → Off A1 lo hi → Off A2 lo hi → Off B1 lo hi ∧ Off B2 lo hi)) (fun _ i _ => N - (intOf i).toNat)
    case atStart => exact ⟨0, A1, c1, A2, c2, none, 0, Nat.zero_le _, rfl, rfl, Hst.out, fun _ _ _ h h' => ⟨h, h'⟩⟩
    case round =>
      obtain ⟨k, B1, e1, B2, e2, Ao, co, hk, rfl, rfl, ht, hof⟩ := hrel
      have HWk := Lib.hid (wf_dupd HW.out k (by rw [Hlen.out]; exact hk))
      have hln := dupd_len D1 k
      rw [Hlen.out] at hln
      have hlk := HWk.out.len
      rw [hln] at hlk
      have hb0 : ∀ i, wr.cell? ⟨w.heap.size, i, none⟩ = #[Value.slice B1 N e1, .slice B2 N e2, .int .i64 (dupd D1 k).to, .int .i64 (dupd D1 k).now][i]? := by
        have := ht.box.cell
        unfold rcells at this
        rw [hln, hlk] at this
        exact this
      have Hln := Lib.hid hln
      have Hlk := Lib.hid hlk
      clear hln hlk
      by_cases hlt : k < N
      · have hI : (k : Int) < N := by omega
        have hI0 : 0 ≤ (k : Int) := by omega
        have Hwith := Lib.hid (fun W v hd h => ref_with W B1 e1 B2 e2 (dupd D1 k) k v hd HWk.out (by rw [Hln.out]; exact hlt) h)
        unfold rdv at Hwith
        rw [Hln.out, Hlk.out] at Hwith
        have hdl := dfound_len D1 k
        obtain ⟨b, off, rfl, hb, h1⟩ := ht.rd.st.int (k := k) (by rw [Hln.out]; exact hlt)
        obtain ⟨b2, off2, rfl, hb2, h2⟩ := ht.rd.la.int (k := k) (by rw [Hlk.out]; exact hlt)
        have g1 := (HWk.out.las k (by rw [Hln.out]; exact hlt)).1
        have g2 := (HWk.out.las k (by rw [Hln.out]; exact hlt)).2
        have g3 := HWk.out.now2
        have HT := Lib.hid ht
        clear ht
        have hle := HT.out.rd.st.le
        have hle2 := HT.out.rd.la.le
        have hmx := HT.out.rd.st.max
        have hmx2 := HT.out.rd.la.max
        unfold maxLen at hmx hmx2
        rw [Hln.out] at hle
        rw [Hlk.out] at hle2
        by_cases hs : dsilent (dupd D1 k) k = true
        · have hs' : (dupd D1 k).st.getD k 0 = 1 ∧ (dupd D1 k).to < (dupd D1 k).now - (dupd D1 k).la.getD k 0 := by simpa [dsilent] using hs
          have hs1 := hs'.1
          have hs2 := hs'.2
          rw [hs1] at h1
          have HO := Lib.hid (show dfound D1 (k + 1) = dfound D1 k ++ [(k : Int)] by simp only [dfound]; rw [if_pos hs])
          have HL := Lib.hid (show (dfound D1 (k + 1)).length = (dfound D1 k).length + 1 by rw [HO.out]; simp)
          have HU := Lib.hid (rput_upd hs)
          have HWk1 := Lib.hid (wf_dupd HW.out (k + 1) (by rw [Hlen.out]; omega))
          have Hln1 := Lib.hid (show (dupd D1 (k + 1)).st.length = N by rw [dupd_len, Hlen.out])
          have Hlk1 := Lib.hid (show (dupd D1 (k + 1)).la.length = N by rw [HWk1.out.len, Hln1.out])
          clear hs hs' hs1
          generalize dfound D1 k = F at *
          generalize (dupd D1 k).la.getD k 0 = la at *
          go_wp2_with fail
          go_quiet (fail)
          go_wp2_with (at_builtin; refine wpList_app rfl _ _ 28 rfl el_int (base := w.heap.size + 2) (xs := ints F) (news := [.int .i64 k]) rfl ?owna rfl ?srca ?onea ?h63a ?hbya ?hbasea ?_)
          case owna => exact own_fr HT.out.own (((Fr.refl Nob _).drewN nq).alloc _) (fun _ _ _ _ e => e)
          case srca => exact Sl.new1 (Blk.new_eq (by simp)) 1 1 rfl (by decide)
          case onea => exact one_ints [(k : Int)]
          case h63a => unfold maxLen; omega
          case hbya => omega
          case hbasea => have := HT.out.big; simp; omega
          intro Ao' co' w1 hown1 hgr hat
          have ht1 := Lib.hid ((HT.out.drewN nq).app HWk.out hgr hat hown1)
          have hb1 := ht1.out.box.cell
          unfold rcells at hb1
          rw [Hln.out, Hlk.out] at hb1
          clear hown1 hgr hat hb0
          go_wp2_with fail
          refine (Hwith.out _ 2 false ht1.out.rd).mono ?_
          rw [HU.out, Hln1.out, Hlk1.out]
          rintro e w2 ⟨A1', c1', A2', c2', rfl, hrd, hf, hoff⟩
          have ht2 := Lib.hid (ht1.out.put hf hrd hoff)
          have Hof := Lib.hid (show ∀ lo hi, hi ≤ w.heap.size → Off A1 lo hi → Off A2 lo hi → Off A1' lo hi ∧ Off A2' lo hi from fun lo hi h _ _ => hoff lo hi (by have := ht1.out.big; omega))
          have hbx := ht1.out.box.fr hf (fun e => e)
          have hb0 := hbx.cell
          unfold rcells at hb0
          rw [Hln.out, Hlk.out] at hb0
          have hf0 := hbx.frozen
          rw [Hln1.out, Hlk1.out] at ht2
          clear hrd hf hoff hbx
          go_wp2_with fail
          go_roundw
          case rel => exact ⟨k + 1, A1', c1', A2', c2', Ao', co', by omega, by go_num, by rw [HL.out], by rw [HO.out]; exact ht2.out, Hof.out⟩
          case measure => simp [intOf]; omega
        · have hs : dsilent (dupd D1 k) k = false := by simpa using hs
          have HU := Lib.hid (show dupd D1 (k + 1) = dupd D1 k by simp only [dupd]; rw [if_neg (by simp [hs])])
          have HO := Lib.hid (show dfound D1 (k + 1) = dfound D1 k by simp only [dfound]; rw [if_neg (by simp [hs])])
          by_cases h10 : (dupd D1 k).st.getD k 0 = 1
          · have hs2 : ¬ (dupd D1 k).to < (dupd D1 k).now - (dupd D1 k).la.getD k 0 := by
              intro h; unfold dsilent at hs; rw [h10, decide_eq_true h] at hs; cases hs
            rw [h10] at h1
            clear h10 hs
            generalize (dupd D1 k).la.getD k 0 = la at *
            go_wp2_with fail
            go_quiet (fail)
            go_wp2_with fail
            go_roundw
            case rel => exact ⟨k + 1, _, e1, _, e2, Ao, co, by omega, by go_num, by rw [HO.out], by rw [HO.out, HU.out]; exact HT.out.drewN nq, hof⟩
            case measure => simp [intOf]; omega
          · have h1' : ((dupd D1 k).st.getD k 0 == 1) = false := by simpa using h10
            clear h10 hs
            generalize (dupd D1 k).st.getD k 0 = sv at *
            go_wp2_with fail
            go_quiet (fail)
            go_wp2_with fail
            go_roundw
            case rel => exact ⟨k + 1, _, e1, _, e2, Ao, co, by omega, by go_num, by rw [HO.out], by rw [HO.out, HU.out]; exact HT.out.drewN nq, hof⟩
            case measure => simp [intOf]; omega
      · have hkk : k = N := by omega
        subst hkk
        have HT := Lib.hid ht
        clear ht
        have hbr := HT.out.res.cell
        have hfr := HT.out.res.frozen
        go_wp2_with fail
        refine bodyPost_ret (v := .tuple #[.agg #[.slice B1 k e1, .slice B2 k e2, .int .i64 (dupd D1 k).to, .int .i64 (dupd D1 k).now], .slice Ao (dfound D1 k).length co, .bool cut]) (by simp [results, Try.results18, go_sem, hbr]) rfl ?_
        rw [HG.out]
        refine ⟨B1, e1, B2, e2, Ao, co, ?_, HT.out.rd.set4 (HT.out.off1.ne (by omega) (by omega)) (HT.out.off2.ne (by omega) (by omega)), ?_, rd_set4 HT.out.fr (by omega), ?_, fun g off e => by have := own_addr HT.out.own g off e; omega⟩
        · show _ = Ending.returned (.tuple #[.agg #[.slice B1 (dupd D1 k).st.length e1, .slice B2 (dupd D1 k).la.length e2, .int .i64 (dupd D1 k).to, .int .i64 (dupd D1 k).now], .slice Ao (dfound D1 k).length co, .bool cut])
          rw [Hln.out, Hlk.out]
        · exact (Sl.of_own HT.out.own).fr fr_set4 (fun b off e _ hb => by have := own_addr HT.out.own b off e; unfold Only at hb; omega)
        · exact hof.out
  · skip
    have hm : max n 0 = n := by omega
    have HT := Lib.hid (show dlate D n = { D with now := (sadd D.now n).1 } by unfold dlate; rw [hm])
    have HG := Lib.hid (show dtick D n = (dupd (dlate D n) D.st.length, dfound (dlate D n) D.st.length, (sadd D.now n).2) by unfold dtick; rw [hm])
    clear hm
    go_enter Try.func18, Try.ntmps18
    go_wp2_with fail
    refine (ref_Add _ _ _ Hnow.out Hn.out).mono ?_
    rintro e w' ⟨rfl, rfl⟩
    have HW := Lib.hid (wf_dlate Hw.out n)
    have HR1 := Lib.hid (show Rd w A1 c1 A2 c2 (dlate D n) from ⟨HR.out.st, HR.out.la⟩)
    have Hlen := Lib.hid (show (dlate D n).st.length = D.st.length from rfl)
    have Hto := Lib.hid (show (dlate D n).to = D.to from rfl)
    have Hllen := Lib.hid (show (dlate D n).la.length = D.la.length from rfl)
    have Hnw := Lib.hid (show (dlate D n).now = (sadd D.now n).1 by rw [HT.out])
    clear HT
    generalize dlate D n = D1 at *
    generalize (sadd D.now n).1 = nw at *
    generalize (sadd D.now n).2 = cut at *
    generalize hN : D.st.length = N at *
    generalize hM : D.la.length = M at *
    generalize hT : D.to = to at *
    clear hN hM hT
    go_wp2_with fail
    have Hst : Hid (TickW w ((w.alloc (.cells #[.slice A1 N c1, .slice A2 M c2, .int .i64 to, .int .i64 nw] 31)).alloc (.cells #[.slice none 0 0, .slice none 0 0, .int .i64 0, .int .i64 0] 31)) A1 c1 A2 c2 none 0 (dupd D1 0) (dfound D1 0)) := by
      refine ⟨((Fr.refl _ _).alloc _).alloc _, ?_, Blk.new_eq (by simp), HR1.out.fr (((Fr.refl _ _).alloc _).alloc _), World.ownsRow_nil _ _ _ _, by simp, ?_, ?_, fun g off _ => by simp, fun g off _ => by simp⟩
      · have := (Blk.new w 31 #[.slice A1 N c1, .slice A2 M c2, .int .i64 to, .int .i64 nw]).alloc (.cells #[.slice none 0 0, .slice none 0 0, .int .i64 0, .int .i64 0] 31)
        rw [← Hlen.out, ← Hto.out, ← Hllen.out, ← Hnw.out] at this
        simp only [Hlen.out, Hto.out, Hllen.out, Hnw.out] at this ⊢
        unfold rcells dupd
        rw [Hlen.out, Hto.out, Hllen.out, Hnw.out]
        exact this
      · exact (HR1.out.off HW.out _ (Nat.le_refl _)).1
      · exact (HR1.out.off HW.out _ (Nat.le_refl _)).2
    go_loopw [9, 10] (fun f i wr => ∃ (k : Nat) (B1 : Option Addr) (e1 : Nat) (B2 : Option Addr) (e2 : Nat) (Ao : Option Addr) (co : Nat), k ≤ N ∧ i = .int .i64 k ∧ f = .slice Ao (dfound D1 k).length co ∧ TickW w wr B1 e1 B2 e2 Ao co (dupd D1 k) (dfound D1 k) ∧ Hid (∀ lo hi, hi ≤ w.heap.size → Off A1 lo hi → Off A2 lo hi → Off B1 lo hi ∧ Off B2 lo hi)) (fun _ i _ => N - (intOf i).toNat)
    case atStart => exact ⟨0, A1, c1, A2, c2, none, 0, Nat.zero_le _, rfl, rfl, Hst.out, fun _ _ _ h h' => ⟨h, h'⟩⟩
    case round =>
      obtain ⟨k, B1, e1, B2, e2, Ao, co, hk, rfl, rfl, ht, hof⟩ := hrel
      have HWk := Lib.hid (wf_dupd HW.out k (by rw [Hlen.out]; exact hk))
      have hln := dupd_len D1 k
      rw [Hlen.out] at hln
      have hlk := HWk.out.len
      rw [hln] at hlk
      have hb0 : ∀ i, wr.cell? ⟨w.heap.size, i, none⟩ = #[Value.slice B1 N e1, .slice B2 N e2, .int .i64 (dupd D1 k).to, .int .i64 (dupd D1 k).now][i]? := by
        have := ht.box.cell
        unfold rcells at this
        rw [hln, hlk] at this
        exact this
      have Hln := Lib.hid hln
      have Hlk := Lib.hid hlk
      clear hln hlk
      by_cases hlt : k < N
      · have hI : (k : Int) < N := by omega
        have hI0 : 0 ≤ (k : Int) := by omega
        have Hwith := Lib.hid (fun W v hd h => ref_with W B1 e1 B2 e2 (dupd D1 k) k v hd HWk.out (by rw [Hln.out]; exact hlt) h)
        unfold rdv at Hwith
        rw [Hln.out, Hlk.out] at Hwith
        have hdl := dfound_len D1 k
        obtain ⟨b, off, rfl, hb, h1⟩ := ht.rd.st.int (k := k) (by rw [Hln.out]; exact hlt)
        obtain ⟨b2, off2, rfl, hb2, h2⟩ := ht.rd.la.int (k := k) (by rw [Hlk.out]; exact hlt)
        have g1 := (HWk.out.las k (by rw [Hln.out]; exact hlt)).1
        have g2 := (HWk.out.las k (by rw [Hln.out]; exact hlt)).2
        have g3 := HWk.out.now2
        have HT := Lib.hid ht
        clear ht
        have hle := HT.out.rd.st.le
        have hle2 := HT.out.rd.la.le
        have hmx := HT.out.rd.st.max
        have hmx2 := HT.out.rd.la.max
        unfold maxLen at hmx hmx2
        rw [Hln.out] at hle
        rw [Hlk.out] at hle2
        by_cases hs : dsilent (dupd D1 k) k = true
        · have hs' : (dupd D1 k).st.getD k 0 = 1 ∧ (dupd D1 k).to < (dupd D1 k).now - (dupd D1 k).la.getD k 0 := by simpa [dsilent] using hs
          have hs1 := hs'.1
          have hs2 := hs'.2
          rw [hs1] at h1
          have HO := Lib.hid (show dfound D1 (k + 1) = dfound D1 k ++ [(k : Int)] by simp only [dfound]; rw [if_pos hs])
          have HL := Lib.hid (show (dfound D1 (k + 1)).length = (dfound D1 k).length + 1 by rw [HO.out]; simp)
          have HU := Lib.hid (rput_upd hs)
          have HWk1 := Lib.hid (wf_dupd HW.out (k + 1) (by rw [Hlen.out]; omega))
          have Hln1 := Lib.hid (show (dupd D1 (k + 1)).st.length = N by rw [dupd_len, Hlen.out])
          have Hlk1 := Lib.hid (show (dupd D1 (k + 1)).la.length = N by rw [HWk1.out.len, Hln1.out])
          clear hs hs' hs1
          generalize dfound D1 k = F at *
          generalize (dupd D1 k).la.getD k 0 = la at *
          go_wp2_with fail
          go_quiet (fail)
          go_wp2_with (at_builtin; refine wpList_app rfl _ _ 28 rfl el_int (base := w.heap.size + 2) (xs := ints F) (news := [.int .i64 k]) rfl ?ownb rfl ?srcb ?oneb ?h63b ?hbyb ?hbaseb ?_)
          case ownb => exact own_fr HT.out.own (((Fr.refl Nob _).drewN nq).alloc _) (fun _ _ _ _ e => e)
          case srcb => exact Sl.new1 (Blk.new_eq (by simp)) 1 1 rfl (by decide)
          case oneb => exact one_ints [(k : Int)]
          case h63b => unfold maxLen; omega
          case hbyb => omega
          case hbaseb => have := HT.out.big; simp; omega
          intro Ao' co' w1 hown1 hgr hat
          have ht1 := Lib.hid ((HT.out.drewN nq).app HWk.out hgr hat hown1)
          have hb1 := ht1.out.box.cell
          unfold rcells at hb1
          rw [Hln.out, Hlk.out] at hb1
          clear hown1 hgr hat hb0
          go_wp2_with fail
          refine (Hwith.out _ 2 false ht1.out.rd).mono ?_
          rw [HU.out, Hln1.out, Hlk1.out]
          rintro e w2 ⟨A1', c1', A2', c2', rfl, hrd, hf, hoff⟩
          have ht2 := Lib.hid (ht1.out.put hf hrd hoff)
          have Hof := Lib.hid (show ∀ lo hi, hi ≤ w.heap.size → Off A1 lo hi → Off A2 lo hi → Off A1' lo hi ∧ Off A2' lo hi from fun lo hi h _ _ => hoff lo hi (by have := ht1.out.big; omega))
          have hbx := ht1.out.box.fr hf (fun e => e)
          have hb0 := hbx.cell
          unfold rcells at hb0
          rw [Hln.out, Hlk.out] at hb0
          have hf0 := hbx.frozen
          rw [Hln1.out, Hlk1.out] at ht2
          clear hrd hf hoff hbx
          go_wp2_with fail
          go_roundw
          case rel => exact ⟨k + 1, A1', c1', A2', c2', Ao', co', by omega, by go_num, by rw [HL.out], by rw [HO.out]; exact ht2.out, Hof.out⟩
          case measure => simp [intOf]; omega
        · have hs : dsilent (dupd D1 k) k = false := by simpa using hs
          have HU := Lib.hid (show dupd D1 (k + 1) = dupd D1 k by simp only [dupd]; rw [if_neg (by simp [hs])])
          have HO := Lib.hid (show dfound D1 (k + 1) = dfound D1 k by simp only [dfound]; rw [if_neg (by simp [hs])])
          by_cases h10 : (dupd D1 k).st.getD k 0 = 1
          · have hs2 : ¬ (dupd D1 k).to < (dupd D1 k).now - (dupd D1 k).la.getD k 0 := by
              intro h; unfold dsilent at hs; rw [h10, decide_eq_true h] at hs; cases hs
            rw [h10] at h1
            clear h10 hs
            generalize (dupd D1 k).la.getD k 0 = la at *
            go_wp2_with fail
            go_quiet (fail)
            go_wp2_with fail
            go_roundw
            case rel => exact ⟨k + 1, _, e1, _, e2, Ao, co, by omega, by go_num, by rw [HO.out], by rw [HO.out, HU.out]; exact HT.out.drewN nq, hof⟩
            case measure => simp [intOf]; omega
          · have h1' : ((dupd D1 k).st.getD k 0 == 1) = false := by simpa using h10
            clear h10 hs
            generalize (dupd D1 k).st.getD k 0 = sv at *
            go_wp2_with fail
            go_quiet (fail)
            go_wp2_with fail
            go_roundw
            case rel => exact ⟨k + 1, _, e1, _, e2, Ao, co, by omega, by go_num, by rw [HO.out], by rw [HO.out, HU.out]; exact HT.out.drewN nq, hof⟩
            case measure => simp [intOf]; omega
      · have hkk : k = N := by omega
        subst hkk
        have HT := Lib.hid ht
        clear ht
        have hbr := HT.out.res.cell
        have hfr := HT.out.res.frozen
        go_wp2_with fail
        refine bodyPost_ret (v := .tuple #[.agg #[.slice B1 k e1, .slice B2 k e2, .int .i64 (dupd D1 k).to, .int .i64 (dupd D1 k).now], .slice Ao (dfound D1 k).length co, .bool cut]) (by simp [results, Try.results18, go_sem, hbr]) rfl ?_
        rw [HG.out]
        refine ⟨B1, e1, B2, e2, Ao, co, ?_, HT.out.rd.set4 (HT.out.off1.ne (by omega) (by omega)) (HT.out.off2.ne (by omega) (by omega)), ?_, rd_set4 HT.out.fr (by omega), ?_, fun g off e => by have := own_addr HT.out.own g off e; omega⟩
        · show _ = Ending.returned (.tuple #[.agg #[.slice B1 (dupd D1 k).st.length e1, .slice B2 (dupd D1 k).la.length e2, .int .i64 (dupd D1 k).to, .int .i64 (dupd D1 k).now], .slice Ao (dfound D1 k).length co, .bool cut])
          rw [Hln.out, Hlk.out]
        · exact (Sl.of_own HT.out.own).fr fr_set4 (fun b off e _ hb => by have := own_addr HT.out.own b off e; unfold Only at hb; omega)
        · exact hof.out
end Go.Proofs.Ytegidffoonkpnaa
