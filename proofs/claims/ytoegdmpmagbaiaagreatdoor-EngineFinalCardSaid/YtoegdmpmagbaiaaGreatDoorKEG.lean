/- EngineFinal: what lies beside the engine: the word of all events that were taken, and what was told. -/
import Derived.Test.YtoegdmpmagbaiaaGreatDoorQE13
import Derived.Test.YtoegdmpmagbaiaaGreatDoorQW5
import Derived.Test.YtoegdmpmagbaiaaGreatDoorQH27
namespace Go.Proofs.YtoegdmpmagbaiaaGreatDoor
open Go.RowKit Go.Lib

theorem own_map (A : Option Addr) (n c : Nat) : (Value.slice A n c).ownBlock = A.map (·.block) := by cases A <;> rfl
theorem pb_lt {w : World} {b : Nat} (h : Pb w b) : b < w.heap.size := let ⟨_, _, hb⟩ := h; hb.lt
theorem EngS.grow {w0 : World} {L S : Nat → Prop} {w w' : World} {E : Nat} {x : Nd} {t : Tr} {far : Int} {g : EG} (h : EngS w0 L w E x t far g) (hf : Fr S w w') (hS : ∀ k, S k → k < w.heap.size → L k) : EngS w0 (fun k => L k ∨ (w.heap.size ≤ k ∧ k < w'.heap.size)) w' E x t far g := by
  have hEl : ∀ {N M}, Eng N w E M x t far g → N ≤ E ∧ E < w.heap.size := fun H => by
    have h1 := H
    obtain ⟨_, _, _, _, _, _, _, _, _, _, _, _, hM, _⟩ := H
    exact h1.low E ((hM E).2 (.inl rfl))
  obtain ⟨N, M, H, hN, hL⟩ := (h.write hf hS).of
  obtain ⟨⟨N1, M1, H1, hN1, hL1⟩, hfr, hlt⟩ := h
  have hf' : Fr (fun k => L k) w w' := hf.mono fun k hk hs => hS k hs hk
  refine ⟨⟨N1, M1, H1.fr hf' (fun k hk _ => (hL1 k hk).1) (fun k hk => (hL1 k hk).2), hN1, fun k hk => ?_⟩, hfr.call hf' (fun k hk hlt => by have := (hL1 k hk).1; omega), fun k hk => ?_⟩
  · rcases hk with hk | hk
    · exact hL1 k hk
    · have := hEl H1
      exact ⟨by omega, fun hm => by have := (H1.low k hm).2; omega⟩
  · rcases hk with hk | hk
    · exact Nat.lt_of_lt_of_le (hlt k hk) hf.size
    · exact hk.2
/-- The word, and what was told, beside the engine. -/
structure FinMem (L : Nat → Prop) (w3 wr : World) (E : Nat) (x : Nd) (t : Tr) (far : Int) (g : EG) (A : Option Addr) (c : Nat) (ps : List Pn) (B : Option Addr) (d : Nat) (vs : List VD) : Prop where
  eng : EngS w3 L wr E x t far g
  wsl : WSl wr A c ps
  top : ∀ b o, A = some ⟨b, o, none⟩ → L b
  inn : ∀ p ∈ ps, ∀ b o, p.A = some ⟨b, o, none⟩ → L b
  own : wr.ownsRow w3.heap.size 50 3 (.slice B vs.length d) vs.length (vs.flatMap vdc)
  row : ∀ k, B.map (·.block) = some k → L k ∧ (∀ o, A ≠ some ⟨k, o, none⟩) ∧ ∀ p ∈ ps, ∀ o, p.A ≠ some ⟨k, o, none⟩
section
variable {L : Nat → Prop} {w3 wr w' : World} {E : Nat} {x : Nd} {t : Tr} {far : Int} {g g' : EG} {A : Option Addr} {c : Nat} {ps : List Pn} {B : Option Addr} {d : Nat} {vs : List VD}
theorem FinMem.call (h : FinMem L w3 wr E x t far g A c ps B d vs) (hE : EngS w3 L w' E x t far g') (hf : Fr (OffE w3 L) wr w') : FinMem L w3 w' E x t far g' A c ps B d vs :=
  ⟨hE, ⟨h.wsl.sl.fr hf fun b o e _ hs => hs.2 (h.top b o e), fun p hp => (h.wsl.inn p hp).fr hf fun b o e _ hs => hs.2 (h.inn p hp b o e)⟩, h.top, h.inn, own_fr h.own hf (fun k hk _ _ hs => hs.2 (h.row k (by rw [own_map] at hk; exact hk)).1), h.row⟩
theorem FinMem.pure (h : FinMem L w3 wr E x t far g A c ps B d vs) (hf : Fr Nob wr w') : FinMem L w3 w' E x t far g A c ps B d vs :=
  ⟨h.eng.pure hf, h.wsl.pure hf, h.top, h.inn, own_fr h.own hf (fun _ _ _ _ hs => hs), h.row⟩
theorem FinMem.word (h : FinMem L w3 wr E x t far g A c ps B d vs) (hf : Fr Nob wr w') {A4 : Option Addr} {c4 : Nat} {zs : List Pn} (hx : WFresh wr.heap.size w' A4 c4 zs) : FinMem (fun k => L k ∨ (wr.heap.size ≤ k ∧ k < w'.heap.size)) w3 w' E x t far g A4 c4 zs B d vs :=
  ⟨h.eng.grow hf (fun _ e _ => e.elim), hx.wsl, fun b o e => .inr ⟨hx.top b o e, pb_lt (hx.tfree b o e)⟩, fun p hp b o e => .inr ⟨(hx.low p hp b o e).1, pb_lt (hx.free p hp b o e)⟩, own_fr h.own hf (fun _ _ _ _ hs => hs), fun k hk => by
    have hlt := (h.own.lt k (by rw [own_map]; exact hk)).2
    exact ⟨.inl (h.row k hk).1, fun o e => by have := hx.top k o e; omega, fun p hp o e => by have := (hx.low p hp k o e).1; omega⟩⟩
theorem FinMem.app (h : FinMem L w3 wr E x t far g A c ps B d vs) {W5 : World} {v : VD} {B' : Option Addr} {d' : Nat} {w1 : World} (hf0 : Fr Nob wr W5) (hg : W5.grownBy w1 (B.map (·.block)))
    (hown : w1.ownsRow w3.heap.size 50 3 (.slice B' (vs.length + 1) d') (vs.length + 1) (vs.flatMap vdc ++ vdc v)) (hl : Lies B' B W5.heap.size) :
    FinMem (fun k => L k ∨ (wr.heap.size ≤ k ∧ k < w1.heap.size)) w3 w1 E x t far g A c ps B' d' (vs ++ [v]) := by
  have hf : Fr (fun k => B.map (·.block) = some k) wr w1 := (hf0.mono fun _ _ h => h.elim).grown hg (fun k e _ => e)
  have hsz := hf.size
  refine ⟨h.eng.grow hf (fun k hk _ => (h.row k hk).1), ⟨h.wsl.sl.fr hf fun b o e _ hs => (h.row b hs).2.1 o e, fun p hp => (h.wsl.inn p hp).fr hf fun b o e _ hs => (h.row b hs).2.2 p hp o e⟩, fun b o e => .inl (h.top b o e), fun p hp b o e => .inl (h.inn p hp b o e), ?_, fun k hk => ?_⟩
  · rw [List.flatMap_append, List.length_append]; simpa using hown
  · rcases hl with hk2 | hk2
    · rw [hk2] at hk; exact ⟨.inl (h.row k hk).1, (h.row k hk).2⟩
    · have hlt := (hown.lt k (by rw [own_map]; exact hk)).2
      rw [hk] at hk2
      have hk3 : k = W5.heap.size := Option.some.inj hk2
      have hk2 : wr.heap.size ≤ k := by rw [hk3]; exact hf0.size
      exact ⟨.inr ⟨hk2, hlt⟩, fun o e => by have := h.eng.lt k (h.top k o e); omega, fun p hp o e => by have := h.eng.lt k (h.inn p hp k o e); omega⟩
end
/-- What was told is as the points are. -/
structure FinP (g : EG) (s : S1) (vs : List VD) : Prop where
  told : g.Told s (vs.map (·.yes))
  at_ : ∀ i, (hi : i < vs.length) → vs[i].at_ = tAt g.W i
theorem FinP.len {g : EG} {s : S1} {vs : List VD} (h : FinP g s vs) : vs.length = g.told := by have := h.told.1; rwa [List.length_map] at this
theorem FinP.new (s : S1) : FinP EG.new s [] := ⟨told_new s, fun i hi => by cases hi⟩
theorem FinP.put1 {g : EG} {s : S1} {vs : List VD} (h : FinP g s vs) (ho : g.Ok) {tm : Int} {l : List PP} (now : Int) (htm : tm ≤ last63) : FinP (g.put1 tm l now) s vs := by
  unfold EG.put1
  split
  · rename_i hm
    refine ⟨h.told.put ho now hm htm, fun i hi => ?_⟩
    rw [h.at_ i hi]
    have hi' : i < g.told := by rw [← h.len]; exact hi
    show tAt g.W i = tAt (putW g.W tm l).1 i
    rw [← tAt_take hi', ← EG.put_take ho hm, tAt_take hi']
  · exact h
theorem FinP.raise1 {g : EG} {s : S1} {vs : List VD} (h : FinP g s vs) (ho : g.Ok) (m : Int) : FinP (g.raise1 m) s vs := by
  unfold EG.raise1
  split
  · rename_i hm; exact ⟨h.told.raise ho hm, h.at_⟩
  · exact h
theorem FinP.next {g : EG} {s : S1} {vs : List VD} (h : FinP g s vs) (hv : g.nextV s ≠ 2) (si : Int) : FinP (g.next1 s) s (vs ++ [⟨tAt g.W g.told, si, g.nextV s == 1⟩]) := by
  unfold EG.next1
  rw [if_neg hv]
  refine ⟨by rw [List.map_append]; exact h.told.next hv, fun i hi => ?_⟩
  rw [List.length_append] at hi
  by_cases hlt : i < vs.length
  · rw [List.getElem_append_left hlt]; exact h.at_ i hlt
  · have : i = vs.length := by simp at hi; omega
    subst this
    rw [List.getElem_append_right (Nat.le_refl _)]
    simp only [Nat.sub_self, List.getElem_cons_zero]
    rw [h.len]; rfl
end Go.Proofs.YtoegdmpmagbaiaaGreatDoor

/- EngineFinal: each verdict that is told holds, or doesn't, at its point, on the word of all events that were taken. -/
namespace Go.Proofs.YtoegdmpmagbaiaaGreatDoor
open Go.RowKit Go.Lib

theorem bnd_pnE {qs : List Pn} {V : List Pt} {n m : Nat} (h : BndW V n m) (hq : pts qs = V) : qs.length ≤ n ∧ ∀ p ∈ qs, p.l.length ≤ m ∧ ∀ x ∈ p.l, x.name.size ≤ 40 := by
  subst hq
  exact ⟨by have := h.1; rwa [pts_len] at this, fun p hp => h.2 p.pt (List.mem_map_of_mem hp)⟩
/-- Behind so many acts. -/
def FinS (w3 wr : World) (E : Nat) (x : Nd) (t : Tr) (far : Int) (g : EG) (A : Option Addr) (c : Nat) (ps : List Pn) (B : Option Addr) (d : Nat) (vs : List VD) : Prop :=
  (∃ L, FinMem L w3 wr E x t far g A c ps B d vs) ∧ pts ps = g.W ∧ FinP g (madeS x t) vs
theorem FinS.new {w3 wr : World} {E : Nat} {x : Nd} {t : Tr} {far : Int} (h : EngS w3 Nob wr E x t far EG.new) : FinS w3 wr E x t far EG.new none 0 [] none 0 [] :=
  ⟨⟨Nob, h, ⟨Sl.none_ _ _, fun p hp => by cases hp⟩, (fun b o e => by cases e), (fun p hp => by cases hp), World.ownsRow_nil _ _ _ _, fun k hk => by cases hk⟩, rfl, FinP.new _⟩
theorem act_cells {w0 W : World} {L : Nat → Prop} {E : Nat} {x : Nd} {t : Tr} {far : Int} {g : EG} {b o : Nat} {v1 v2 v3 : Value} (h : EngS w0 L W E x t far g) (h1 : w0.cell? ⟨b, o + 1, none⟩ = some v1) (h2 : w0.cell? ⟨b, o + 2, none⟩ = some v2) (h3 : w0.cell? ⟨b, o + 3, none⟩ = some v3) :
    W.cell? ⟨b, o + 1, none⟩ = some v1 ∧ W.cell? ⟨b, o + 2, none⟩ = some v2 ∧ W.cell? ⟨b, o + 3, none⟩ = some v3 := ⟨h.cell h1, h.cell h2, h.cell h3⟩
set_option maxRecDepth 100000 in
set_option maxHeartbeats 16000000 in
theorem law_EngineFinal (w : World) (x : Nd) (B : Option Addr) (d : Nat) (ks : Fo) (hs : FoSl w.heap.size w B d ks) (hx : NdOk x) (hk : ks.tr.ok) (hv : ShVar w) (htv : ThVar w) (A : Option Addr) (c : Nat) (al : List Ac) (h : ASl w A c al) (h63 : ∀ a ∈ al, a.t ≤ last63 ∧ a.n ≤ last63) :
    Calls Tryz.prog 4 #[fval x B ks.len d, .slice A al.length c] w fun e w' => e = .returned (.bool true) ∧ Fr Nob w w' := by
  have H63 := Lib.hid h63
  clear h63
  obtain ⟨bf, hbf⟩ : ∃ bf : Bool, (bf = true ↔ FewA al) := by classical exact ⟨decide (FewA al), by simp⟩
  have HBF := Lib.hid hbf.1
  have HAW := Lib.hid (fun W (hf : Fr Nob w W) => l23_awake W (hv.fr hf) (htv.fr hf))
  have HLF := Lib.hid (fun W (hf : Fr Nob w W) => (show Calls Tryz.prog 9 #[fval x B ks.len d, .int .i64 50] W fun e w' => e = .returned (.int .i64 (left1 x ks.tr 50 : Nat)) ∧ Fr Nob W w' from l15_left 50 w.heap.size W x B d ks (by decide) (hs.fr hf)))
  have HFW := Lib.hid (fun W (hf : Fr Nob w W) => l23_few W A c al (h.pure hf) bf hbf)
  have HLP := Lib.hid (fun (h0 : 0 < left1 x ks.tr 50) => few_of (x := x) (ks := ks.tr) (n := 50) h0)
  have HNW := Lib.hid (fun (hL : Few x ks.tr 50) W (hf : Fr Nob w W) => (show Calls Tryz.prog 11 #[fval x B ks.len d] W (SNew W x ks.tr) from s_New W x B d ks ((hs.fr hf).mono hf.size) (by have := hL.size; omega) (hv.fr hf) hx hk hL.names))
  have HFO := Lib.hid (fun (hL : Few x ks.tr 50) (hg : firstW ((Tr.cons x ks.tr .nil).nodes 1) = 0) => (⟨hg, by have := hL.size; omega, hL.names⟩ : FOk x ks.tr))
  have HS := Lib.hid hs
  have HV := Lib.hid hv
  have HTV := Lib.hid htv
  have HA := Lib.hid h
  have HXO := Lib.hid hx
  have HKO := Lib.hid hk
  clear hs hv htv h hbf hx hk
  generalize left1 x ks.tr 50 = n0 at *
  unfold fval at *
  go_enter Tryz.func4, Tryz.ntmps4
  have HB0 := Lib.hid (show Blk (w.alloc (.cells #[.int .i64 x.op, .string x.name, .int .i64 x.cmp, .int .i64 x.val, .int .i64 x.lo, .int .i64 x.hi, .slice B ks.len d] 28)) w.heap.size 28 _ from Blk.new _ _ _)
  go_upto_region 6 with (first
    | ((go_at_call 8); (with_reducible refine (HAW.out _ ((Fr.refl _ _).alloc _)).mono ?_); rintro e w1 ⟨rfl, hf1⟩; have HF1 := Lib.hid (((Fr.refl Nob w).alloc _).call hf1 (fun _ h _ => h)); have HX1 := Lib.hid (HB0.out.fr hf1 (fun e => e)); have xc := HX1.out.cell; have xl := HX1.out.lt; clear hf1)
    | ((go_at_call 9); (with_reducible refine (HLF.out _ HF1.out).mono ?_); rintro e w2 ⟨rfl, hf2⟩; have HF2 := Lib.hid (HF1.out.call hf2 (fun _ h _ => h)); have HX2 := Lib.hid (HX1.out.fr hf2 (fun e => e)); clear hf2)
    | ((go_at_call 10); (with_reducible refine (HFW.out _ HF2.out).mono ?_); rintro e w3 ⟨rfl, rfl⟩)
    | fail)
  clear xc xl HX1 HF1 HB0 HAW HLF HFW
  have q0 := HX2.out.cell
  have q1 := HX2.out.lt
  by_cases hn : n0 = 0
  · subst hn
    go_wp2_with fail
    go_ret
    exact ⟨rfl, HF2.out⟩
  have hnI : ¬ (n0 : Int) ≤ 0 := by omega
  have hnI2 : (0 : Int) < n0 := by omega
  cases bf
  · skip
    go_wp2_with fail
    go_ret
    exact ⟨rfl, HF2.out⟩
  have HFA := Lib.hid (HBF.out rfl)
  have HL := Lib.hid (HLP.out (by omega))
  have HW3 := Lib.hid (HNW.out HL.out _ HF2.out)
  have HER : ∃ er, errH x ks.tr = er := ⟨_, rfl⟩
  obtain ⟨er, her⟩ := HER
  unfold SNew at HW3
  rw [her] at HW3
  replace her := Lib.hid her
  clear HNW HLP HBF hn
  go_upto_region 9 with (first
    | ((go_at_call 11); (with_reducible refine (HW3.out).mono ?_); rintro e w4 ⟨p, rfl, hf4, hnone, hsome⟩; have HNO := Lib.hid hnone; have HSO := Lib.hid hsome; have HF4 := Lib.hid hf4; clear hnone hsome hf4)
    | fail)
  clear q0 q1 hnI hnI2
  by_cases he0 : er = 0
  case neg =>
    obtain rfl := HNO.out he0
    have he1 : (er != 0) = true := by simpa using he0
    have HE1 := Lib.hid he0
    clear he0
    go_wp2_with fail
    go_ret
    exact ⟨rfl, HF2.out.call HF4.out (fun _ h _ => h)⟩
  subst he0
  obtain ⟨E, rfl, hg, h0, hI, hE⟩ := HSO.out rfl
  have HG := Lib.hid hg
  have HH0 := Lib.hid h0
  have HHI := Lib.hid hI
  have HE := Lib.hid hE
  have HFK := Lib.hid (HFO.out HL.out hg)
  have HV4 := Lib.hid (HV.out.fr HF2.out)
  have HT4 := Lib.hid (HTV.out.fr HF2.out)
  have HA4 := Lib.hid (HA.out.pure HF2.out)
  clear hg h0 hI hE HNO HSO HFO HW3
  go_wp2_with fail
  go_loopw [10, 11, 12] (fun wv tv iv wr => ∃ (k : Nat) (A1 : Option Addr) (c1 : Nat) (ps : List Pn) (B1 : Option Addr) (d1 : Nat) (vs : List VD), k ≤ al.length ∧ iv = .int .i64 k ∧ wv = .slice A1 (List.length ps) c1 ∧ tv = .slice B1 (List.length vs) d1 ∧ Hid (FinS w3 wr E x ks.tr (far1 (x, ks.tr)) (EG.run (madeS x ks.tr) al k) A1 c1 ps B1 d1 vs)) (fun _ _ iv _ => al.length - (RowKit.intOf iv).toNat)
  case atStart => exact ⟨0, none, 0, [], none, 0, [], Nat.zero_le _, rfl, rfl, rfl, Lib.hid (FinS.new HE.out)⟩
  case round =>
    obtain ⟨k, A1, c1, ps, B1, e1, vs, hk, rfl, rfl, rfl, hi⟩ := hrel
    have h24 := HFA.out.1
    have hmax := HA4.out.sl.max
    unfold maxLen at hmax
    obtain ⟨⟨L, hM⟩, hW, hP⟩ := hi.out
    have hE := Lib.hid hM.eng
    have HM := Lib.hid hM
    have HW := Lib.hid hW
    have HP9 := Lib.hid hP
    by_cases hlt : k < al.length
    · have hI : (k : Int) < al.length := by omega
      have hI3 : 0 ≤ (k : Int) := by omega
      clear hM hW hP hi
      obtain ⟨b, off, hA, hb, d0, d1, d2, d3⟩ := HA4.out.at_ hlt
      subst hA
      have HRS := Lib.hid (EG.run_succ (madeS x ks.tr) hlt)
      have HB8 := Lib.hid (EG.run_800 (madeS x ks.tr) HFA.out hk)
      have HOK := Lib.hid (HFA.out.2 _ (List.getElem_mem hlt))
      have H63A := Lib.hid (H63.out _ (List.getElem_mem hlt))
      have HAI := Lib.hid (HA4.out.inn _ (List.getElem_mem hlt))
      have HD1 := Lib.hid d1
      have HD2 := Lib.hid d2
      have HD3 := Lib.hid d3
      have HB3 := Lib.hid hb
      replace d0 := hE.out.cell d0
      replace d1 := hE.out.cell d1
      replace d2 := hE.out.cell d2
      replace d3 := hE.out.cell d3
      replace hb := Nat.lt_of_lt_of_le hb hE.out.fr.size
      generalize al[k] = a at *
      have HGE := Lib.hid hE.out.ok
      have HBK := Lib.hid ((EG.run_bnd (madeS x ks.tr) HFA.out hk).mono (n' := 24) (m' := 240) (by omega) (by omega))
      generalize EG.run (madeS x ks.tr) al k = g at *
      by_cases hd0 : a.do_ = 0
      · have HP := Lib.hid (fun W (hf : Fr Nob wr W) => s_Put (hE.out.pure hf) HB8.out a.t H63A.out.1 a.A a.c a.l ((HAI.out.pure hE.out.fr).pure hf) HOK.out a.n)
        have HAC := Lib.hid (show EG.run (madeS x ks.tr) al (k + 1) = g.put1 a.t a.l a.n by rw [HRS.out]; unfold EG.act; rw [if_pos hd0])
        have hd0b : (a.do_ == 0) = true := by simpa using hd0
        have HND := Lib.hid (HP9.out.put1 HGE.out (tm := a.t) (l := a.l) a.n H63A.out.1)
        unfold SPut at HP
        clear hd0 HRS
        go_wp2_with fail
        go_region_held3 (fun W => W.cell? ⟨b, off + k * 4 + 1, none⟩ = some (.int .i64 a.t) ∧ W.cell? ⟨b, off + k * 4 + 2, none⟩ = some (.slice a.A a.l.length a.c) ∧ W.cell? ⟨b, off + k * 4 + 3, none⟩ = some (.int .i64 a.n))
          (first | (with_reducible exact act_cells HE5.out HD1.out HD2.out HD3.out) | go_keep)
          (first
            | ((go_at_call 14); (with_reducible refine (HP.out _ (Fr.refl Nob _).drew).mono ?_); rintro e w5 ⟨rfl, hE5, hf5⟩; have HE5 := Lib.hid hE5; have HF5 := Lib.hid hf5; clear hE5 hf5))
        have HM5 := Lib.hid ((HM.out.pure (Fr.refl Nob wr).drew).call HE5.out HF5.out)
        clear d0 HP
        replace d1 := HE5.out.cell HD1.out
        replace d2 := HE5.out.cell HD2.out
        replace hb := Nat.lt_of_lt_of_le HB3.out HE5.out.fr.size
        obtain ⟨q1, q2⟩ := bnd_pnE HB8.out HW.out
        have HPU := Lib.hid (fun X (hf : Fr Nob w5 X) => wd_Put X A1 c1 ps a.t a.A a.c a.l (HM5.out.wsl.pure hf) (fun p hp y hy => by have := (q2 p hp).2 y hy; omega) (by omega) (fun p hp => by have := (q2 p hp).1; omega) ((HAI.out.pure HE5.out.fr).pure hf) (fun y hy => by have := HOK.out.2 y hy; omega) (by have := HOK.out.1; omega))
        rw [HW.out] at HPU
        clear q1 q2
        by_cases hm : g.may a.t a.l = true
        · have HWN := Lib.hid (show (g.put1 a.t a.l a.n).W = (putW g.W a.t a.l).1 by unfold EG.put1; rw [if_pos hm]; rfl)
          rw [hm]
          clear hm
          generalize g.put1 a.t a.l a.n = g5 at *
          generalize putW g.W a.t a.l = pq at *
          obtain ⟨pw, pk, pb⟩ := pq
          unfold PutR at HPU
          dsimp only at HPU HWN
          dsimp only
          go_wp2_with fail
          go_region_held3 (fun W => W.cell? ⟨b, off + k * 4 + 1, none⟩ = some (.int .i64 a.t) ∧ W.cell? ⟨b, off + k * 4 + 2, none⟩ = some (.slice a.A a.l.length a.c))
            (first | (go_split_ands; refine ⟨?_, ?_⟩ <;> with_reducible exact Fr.cell hf6 (by assumption) (fun e => e)) | go_keep)
            (first
              | ((go_at_call 26); (with_reducible refine (HPU.out _ (Fr.refl Nob _).drew).mono ?_); rintro e w6 ⟨A4, c4, zs, rfl, hx6, hfr6, hf6⟩; have HX6 := Lib.hid hx6; have HS6 := Lib.hid hfr6; have HF6 := Lib.hid hf6))
          have HM6 := Lib.hid ((HM5.out.pure (Fr.refl Nob w5).drew).word HF6.out HS6.out)
          clear hx6 hfr6 hf6
          go_wp2_with fail
          go_roundw
          case rel => exact ⟨k + 1, A4, c4, zs, B1, e1, vs, by omega, by go_num, rfl, rfl, Lib.hid ⟨⟨_, by rw [HAC.out]; exact HM6.out⟩, by rw [HAC.out, HWN.out]; exact HX6.out, by rw [HAC.out]; exact HND.out⟩⟩
          case measure => simp [RowKit.intOf]; omega
        · have hmf : g.may a.t a.l = false := by simpa using hm
          have HWN := Lib.hid (show (g.put1 a.t a.l a.n).W = g.W by unfold EG.put1; rw [if_neg hm])
          rw [hmf]
          clear hm hmf
          generalize g.put1 a.t a.l a.n = g5 at *
          go_wp2_with fail
          go_roundw
          case rel => exact ⟨k + 1, A1, c1, ps, B1, e1, vs, by omega, by go_num, rfl, rfl, Lib.hid ⟨⟨L, by rw [HAC.out]; exact HM5.out⟩, by rw [HAC.out, HWN.out]; exact HW.out, by rw [HAC.out]; exact HND.out⟩⟩
          case measure => simp [RowKit.intOf]; omega
      · have hd0b : (a.do_ == 0) = false := by simpa using hd0
        by_cases hd1 : a.do_ = 1
        · have HP := Lib.hid (s_Raise hE.out a.n H63A.out.2)
          have HAC := Lib.hid (show EG.run (madeS x ks.tr) al (k + 1) = g.raise1 a.n by rw [HRS.out]; unfold EG.act; rw [if_neg hd0, if_pos hd1])
          have HND := Lib.hid (HP9.out.raise1 HGE.out a.n)
          have HWN := Lib.hid (EG.raise1_W g a.n)
          have hd1b : (a.do_ == 1) = true := by simpa using hd1
          clear hd0 hd1 HRS
          unfold SRaise at HP
          generalize g.raise1 a.n = g5 at *
          go_wp2_with (first
            | ((go_at_call 16); (with_reducible refine (HP.out).mono ?_); rintro e w5 ⟨rfl, hE5, hf5⟩; have HM5 := Lib.hid (HM.out.call hE5 hf5); clear hE5 hf5)
            | fail)
          go_roundw
          case rel => exact ⟨k + 1, A1, c1, ps, B1, e1, vs, by omega, by go_num, rfl, rfl, Lib.hid ⟨⟨L, by rw [HAC.out]; exact HM5.out⟩, by rw [HAC.out, HWN.out]; exact HW.out, by rw [HAC.out]; exact HND.out⟩⟩
          case measure => simp [RowKit.intOf]; omega
        · have HP := Lib.hid (s_Next hE.out HB8.out HFK.out HV4.out HT4.out)
          have HAC := Lib.hid (show EG.run (madeS x ks.tr) al (k + 1) = g.next1 (madeS x ks.tr) by rw [HRS.out]; unfold EG.act; rw [if_neg hd0, if_neg hd1])
          have HWN := Lib.hid (EG.next1_W g (madeS x ks.tr))
          have hd1b : (a.do_ == 1) = false := by simpa using hd1
          clear hd0 hd1 HRS
          unfold SNext at HP
          by_cases hv2 : g.nextV (madeS x ks.tr) = 2
          · have HND := Lib.hid (show FinP (g.next1 (madeS x ks.tr)) (madeS x ks.tr) vs by unfold EG.next1; rw [if_pos hv2]; exact HP9.out)
            rw [hv2] at HP
            clear hv2
            generalize g.next1 (madeS x ks.tr) = g5 at *
            go_wp2_with (first
              | ((go_at_call 15); (with_reducible refine (HP.out).mono ?_); rintro e w5 ⟨⟨va, sv, vy, rfl, -⟩, hE5, hf5⟩; have HM5 := Lib.hid ((HM.out.call hE5 hf5).pure ((Fr.refl Nob w5).alloc (.cells #[.int .i64 va, .int .i64 sv, .bool vy] 50))); clear hE5 hf5)
              | fail)
            go_roundw
            case rel => exact ⟨k + 1, A1, c1, ps, B1, e1, vs, by omega, by go_num, rfl, rfl, Lib.hid ⟨⟨L, by rw [HAC.out]; exact HM5.out⟩, by rw [HAC.out, HWN.out]; exact HW.out, by rw [HAC.out]; exact HND.out⟩⟩
            case measure => simp [RowKit.intOf]; omega
          · have HND := Lib.hid (HP9.out.next hv2 (xAt g.S g.told))
            have hvb : (g.nextV (madeS x ks.tr) != 2) = true := by simpa using hv2
            rw [hvb] at HP
            simp only [if_neg hv2] at HP
            have hvl : vs.length ≤ 24 := by
              have h1 := HP9.out.len
              have h2 := HGE.out.told
              have h3 := HBK.out.1
              omega
            clear hv2 hvb
            generalize g.next1 (madeS x ks.tr) = g5 at *
            generalize tAt g.W g.told = va at *
            generalize xAt g.S g.told = sv at *
            generalize (g.nextV (madeS x ks.tr) == 1) = vy at *
            go_upto_region 18 with (first
              | ((go_at_call 15); (with_reducible refine (HP.out).mono ?_); rintro e w5 ⟨⟨a8, s8, y8, rfl, h8⟩, hE5, hf5⟩; obtain ⟨rfl, rfl, rfl⟩ : a8 = va ∧ s8 = sv ∧ y8 = vy := (by simpa using h8); have HM5 := Lib.hid (HM.out.call hE5 hf5); clear h8 hE5 hf5)
              | fail)
            obtain ⟨W6, hW6⟩ : ∃ W, w5.alloc (.cells #[.int .i64 a8, .int .i64 s8, .bool y8] 50) = W := ⟨_, rfl⟩
            have HVB := Lib.hid (show Blk W6 w5.heap.size 50 #[.int .i64 a8, .int .i64 s8, .bool y8] by rw [← hW6]; exact Blk.new _ _ _)
            have HM6 := Lib.hid (show FinMem L w3 W6 E x ks.tr (far1 (x, ks.tr)) g5 A1 c1 ps B1 e1 vs by rw [← hW6]; exact HM5.out.pure ((Fr.refl Nob w5).alloc _))
            rw [hW6]
            clear hW6
            have vc := HVB.out.cell
            have vl := HVB.out.lt
            generalize w5.heap.size = vb at *
            have hsz6 := HM6.out.eng.fr.size
            go_wp2_with (at_builtin; refine wpList_app rfl _ _ 54 rfl elemV (base := w3.heap.size) (xs := vs.flatMap vdc) (news := vdc ⟨a8, s8, y8⟩) rfl ?own rfl ?src ?one ?h63 ?hby ?hbase ?_)
            case own => exact own_fr HM6.out.own ((Fr.refl Nob _).alloc _) (fun _ _ _ _ e => e)
            case src => exact Sl.new1 (Blk.new_eq (by simp)) 3 1 rfl (by decide)
            case one => exact vdc_one _
            case h63 => unfold maxLen; omega
            case hby => omega
            case hbase => simp; omega
            intro B2 e2 w7 hown7 hgr7 hl7
            have HM7 := Lib.hid (HM6.out.app ((Fr.refl Nob W6).alloc _) hgr7 hown7 (by simpa using hl7))
            clear hown7 hgr7 hl7 vc vl
            go_wp2_with fail
            go_roundw
            case rel => exact ⟨k + 1, A1, c1, ps, B2, e2, vs ++ [⟨a8, s8, y8⟩], by omega, by go_num, rfl, by rw [List.length_append]; rfl, Lib.hid ⟨⟨_, by rw [HAC.out]; exact HM7.out⟩, by rw [HAC.out, HWN.out]; exact HW.out, by rw [HAC.out]; exact HND.out⟩⟩
            case measure => simp [RowKit.intOf]; omega
    · have hlt3 : ¬ (k : Int) < al.length := by omega
      obtain rfl : k = al.length := by omega
      have hbd := EG.run_bnd (madeS x ks.tr) HFA.out (Nat.le_refl al.length)
      generalize EG.run (madeS x ks.tr) al al.length = g at *
      have hok := hE.out.ok
      have hg0 := HG.out
      obtain ⟨h1, h2⟩ := (good_first x ks.tr).1 hg0
      obtain ⟨q1, q2⟩ := bnd_pnE hbd HW.out
      have hvs := HP9.out.len
      have hpl := pts_len ps
      rw [HW.out] at hpl
      have hV24 : vs.length ≤ 24 := by have := hok.told; omega
      have hP24 : ps.length ≤ 24 := by omega
      have hVP : vs.length ≤ ps.length := by have := hok.told; omega
      have hnw : NmW ps := fun p hp y hy => by have := (q2 p hp).2 y hy; omega
      have hp63 : ∀ p ∈ ps, p.t ≤ last63 := fun p hp => hok.h63 p.pt (by rw [← HW.out]; exact List.mem_map_of_mem hp)
      have hlz := HL.out.size
      have htl : (rowBA x ks.tr (pts ps)).length = ps.length := by
        unfold rowBA; rw [HW.out, if_pos ⟨hg0, hok.right⟩, rowTS_len, hpl]
      have HROW := Lib.hid (fun W (hf : Fr Nob wr W) => (tr_Row W x B d ks ((HS.out.fr (HF2.out.call (hE.out.fr.call hf (fun _ h _ => h)) (fun _ h _ => h))).mono (HF2.out.call (hE.out.fr.call hf (fun _ h _ => h)) (fun _ h _ => h)).size) (by omega) (HV4.out.fr (hE.out.fr.call hf (fun _ h _ => h))) HL.out.names A1 c1 ps (HM.out.wsl.pure hf) hnw hp63 (by omega)).mono fun e w' h => BMade.n h htl)
      have HVAL := Lib.hid (show ∀ i, (hi : i < vs.length) → bAt (rowBA x ks.tr (pts ps)) i = (vs[i]'hi).yes from fun i hi => by
        unfold rowBA
        rw [HW.out, if_pos ⟨hg0, hok.right⟩]
        have := HP9.out.told.holds hok h1 h2 (i := i) (by omega)
        unfold vT at this
        rw [this]
        unfold bAt
        rw [List.getD_eq_getElem?_getD, List.getElem?_map, List.getElem?_eq_getElem hi]; rfl)
      have HAT := Lib.hid (show ∀ i, (hi : i < vs.length) → (hj : i < ps.length) → vs[i].at_ = ps[i].t from fun i hi hj => by
        rw [HP9.out.at_ i hi, ← HW.out, tAt_get (by rw [pts_len]; omega), pts_get (by omega)]; rfl)
      have HFRM := Lib.hid (fun W (hf : Fr Nob wr W) i (hi : i < vs.length) => (show Calls Tryz.prog 28 #[.slice A1 ps.length c1, .int .i64 vs[i].at_] W fun e w' => e = .returned (.int .i64 (i : Nat)) ∧ Fr Nob W w' from by
        have h3 := wd_From W A1 c1 ps vs[i].at_ (HM.out.wsl.pure hf) hnw (by omega)
        have e : fromW (pts ps) vs[i].at_ = i := by
          unfold fromW
          rw [HW.out, hok.right, HP9.out.at_ i hi, tAt_get (by omega)]
          exact fromI_at hok.right (by omega)
        rwa [e] at h3))
      have HRIS := Lib.hid (show ∀ i, (hj : i < vs.length) → (hi : i + 1 < vs.length) → vs[i].at_ < vs[i + 1].at_ from fun i hj hi => by
        rw [HP9.out.at_ i (by omega), HP9.out.at_ (i + 1) hi]
        exact (wRight_rise hok.right (i := i + 1) (by omega)).2.2 i (Nat.lt_succ_self i))
      have HVS := Lib.hid (Sl.of_own HM.out.own)
      have HWS := Lib.hid HM.out.wsl
      have HXR := Lib.hid (HX2.out.fr hE.out.fr (fun e => e))
      have HFE := Lib.hid (HF2.out.call hE.out.fr (fun _ h _ => h))
      unfold fval at HROW
      obtain ⟨ly, hly⟩ : ∃ l, rowBA x ks.tr (pts ps) = l := ⟨_, rfl⟩
      rw [hly] at HROW htl
      have HVAL2 := Lib.hid (show ∀ i, (hi : i < vs.length) → bAt ly i = vs[i].yes from fun i hi => by rw [← hly]; exact HVAL.out i hi)
      have HYL := Lib.hid htl
      clear hly HVAL hvs
      clear htl hp63 hnw hlz hok hg0 h1 h2 q1 q2 hpl hbd hM hW hP hi
      have q0 := HXR.out.cell
      have q1 := HXR.out.lt
      go_upto_region 30 with (first
        | ((go_at_call 27); (with_reducible refine (HROW.out _ (Fr.refl Nob wr)).mono ?_); rintro e w9 ⟨A9, c9, rfl, hs9, hf9⟩; have HR9 := Lib.hid hs9; have HF9 := Lib.hid hf9; clear hs9 hf9)
        | fail)
      clear q0 q1 hlt hlt3 hE HXR
      have hmax1 := HWS.out.sl.max
      have hmax2 := HVS.out.max
      have hmax3 := HR9.out.max
      unfold maxLen at hmax1 hmax2 hmax3
      go_wp2_with fail
      go_loopw [21] (fun iv wq => ∃ i : Nat, i ≤ vs.length ∧ iv = .int .i64 i ∧ Hid (Fr Nob w9 wq)) (fun iv _ => vs.length - (RowKit.intOf iv).toNat)
      case atStart => exact ⟨0, Nat.zero_le _, rfl, Lib.hid (Fr.refl _ _)⟩
      case round =>
        obtain ⟨i, hi, rfl, hfr⟩ := hrel
        rename World => wq
        by_cases hlt : i < vs.length
        · have hI : (i : Int) < vs.length := by omega
          have hI2 : (i : Int) < ps.length := by omega
          have hI3 : 0 ≤ (i : Int) := by omega
          have hI4 : ¬ (ps.length : Int) ≤ i := by omega
          have hip : i < ps.length := by omega
          have hpd : decide (ps.length ≤ i) = false := by simp; omega
          have HFQ := Lib.hid (HF9.out.call hfr.out (fun _ h _ => h))
          obtain ⟨tb, to_, hB, tl⟩ : ∃ b o, B1 = some ⟨b, o, none⟩ ∧ b < wq.heap.size := by
            obtain ⟨b', off', hA, hb, _⟩ := Sl.row (size := 3) vdc_len (HVS.out.pure HFQ.out) hlt
            exact ⟨b', off', hA, hb⟩
          subst hB
          obtain ⟨tb1, t0, t1, t2⟩ := vd_cells (HVS.out.pure HFQ.out) hlt rfl
          have HFI := Lib.hid (HFRM.out wq HFQ.out i hlt)
          obtain ⟨b, off, rfl, hb, p0, _⟩ := (HWS.out.pure HFQ.out).at_ hip
          rw [← HAT.out i hlt hip] at p0
          obtain ⟨rb, ro, rfl, hrb, r0⟩ := rowb_at (L := ly) (c := c9) (A := A9) (w := wq) (by rw [HYL.out]; exact HR9.out.pure hfr.out) (k := i) (by rw [HYL.out]; exact hip)
          rw [HVAL2.out i hlt] at r0
          by_cases hi0 : i = 0
          · have hpos : decide (0 < i) = false := by simp; omega
            clear t1 tl hi0
            generalize vs[i].at_ = va at *
            generalize vs[i].yes = vy at *
            go_upto_region 34 with (first
              | ((go_at_call 28); (with_reducible refine (HFI.out).mono ?_); rintro e w11 ⟨rfl, hf11⟩; have HF11 := Lib.hid hf11; replace t0 := hf11.cell t0 (fun e => e); replace t2 := hf11.cell t2 (fun e => e); replace p0 := hf11.cell p0 (fun e => e); replace r0 := hf11.cell r0 (fun e => e); replace tb1 := Nat.lt_of_lt_of_le tb1 hf11.size; replace hb := Nat.lt_of_lt_of_le hb hf11.size; replace hrb := Nat.lt_of_lt_of_le hrb hf11.size; clear hf11)
              | fail)
            go_quiet (fail)
            go_wp2_with fail
            go_roundw
            case rel => exact ⟨i + 1, by omega, by go_num, Lib.hid (hfr.out.call (HF11.out.drewN _) (fun _ h _ => h))⟩
            case measure => simp [RowKit.intOf]; omega
          · obtain ⟨j, hkj⟩ : ∃ j, i = j + 1 := ⟨i - 1, by omega⟩
            have hj : j < vs.length := by omega
            have hpos : decide (0 < i) = true := by simp; omega
            have e2 : ((i : Int) - 1).toNat = j := by omega
            have e3 : (i : Int) - 1 < vs.length := by omega
            have e4 : 0 ≤ (i : Int) - 1 := by omega
            have e5 : IntKind.i64.wrap ((i : Int) - 1) = (i : Int) - 1 := by rw [IntKind.wrap_i64]; omega
            obtain ⟨tb2, u0, _, _⟩ := vd_cells (HVS.out.pure HFQ.out) hj rfl
            have hle : ¬ vs[i].at_ ≤ vs[j].at_ := by
              have := HRIS.out j hj (by omega)
              subst hkj
              omega
            clear t1 tl hi0 hkj
            generalize vs[i].at_ = va at *
            generalize vs[i].yes = vy at *
            generalize vs[j].at_ = vb at *
            have hleb : decide (va ≤ vb) = false := by simpa using hle
            go_upto_region 34 with (first
              | ((go_at_call 28); (with_reducible refine (HFI.out).mono ?_); rintro e w11 ⟨rfl, hf11⟩; have HF11 := Lib.hid hf11; replace t0 := hf11.cell t0 (fun e => e); replace u0 := hf11.cell u0 (fun e => e); replace t2 := hf11.cell t2 (fun e => e); replace p0 := hf11.cell p0 (fun e => e); replace r0 := hf11.cell r0 (fun e => e); replace tb1 := Nat.lt_of_lt_of_le tb1 hf11.size; replace hb := Nat.lt_of_lt_of_le hb hf11.size; replace hrb := Nat.lt_of_lt_of_le hrb hf11.size; clear hf11)
              | fail)
            go_quiet (fail)
            go_wp2_with fail
            go_roundw
            case rel => exact ⟨i + 1, by omega, by go_num, Lib.hid (hfr.out.call (HF11.out.drewN _) (fun _ h _ => h))⟩
            case measure => simp [RowKit.intOf]; omega
        · have hlt3 : ¬ (i : Int) < vs.length := by omega
          go_wp2_with fail
          go_ret
          exact ⟨rfl, (HFE.out.call HF9.out (fun _ h _ => h)).call hfr.out (fun _ h _ => h)⟩
end Go.Proofs.YtoegdmpmagbaiaaGreatDoor
