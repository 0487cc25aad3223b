/- WordOrder: events in whatever order. -/
import Derived.Test.YtckmmihbipmkcaaWl2
import Derived.Test.YtckmmihbipmkcaaWclose
namespace Go.Proofs.Ytckmmihbipmkcaa
open Go.RowKit Go.Sort Go.Lib Go.Shelf

theorem own_set {w : World} {base e size g n c : Nat} {xs : List Value} (h : w.ownsRow base e size (.slice (some ⟨g, 0, none⟩) n c) n xs) (i : Nat) (_ : i < xs.length) (v : Value) :
    (w.setCell ⟨g, i, none⟩ v).ownsRow base e size (.slice (some ⟨g, 0, none⟩) n c) n (xs.set i v) := by
  refine ⟨by rw [List.length_set]; exact h.1, .inr ?_⟩
  rcases h.2 with ⟨hv, _⟩ | ⟨g', cap, cur, hv, hge, hcur, hle, hmx, hcs, htake⟩
  · simp at hv
  · simp only [Value.slice.injEq, Option.some.injEq, Addr.mk.injEq, and_true, true_and] at hv
    obtain ⟨rfl, rfl⟩ := hv
    have hb : Blk w g e cur := hcur
    refine ⟨g, c, cur.setIfInBounds i v, rfl, hge, hb.set i v, hle, hmx, by simpa using hcs, ?_⟩
    rw [Array.toList_setIfInBounds, ← htake, List.take_set]
theorem ev_set : ∀ (ts : List Ev) (a : Nat) (x : Ev), a < ts.length → (((ts.flatMap evc).set (a * 3) (.int .u64 x.s)).set (a * 3 + 1) (.int .i64 x.t)).set (a * 3 + 2) (.slice x.A x.l.length x.c) = (ts.set a x).flatMap evc
  | [], _, _, h => by simp at h
  | t :: ts, 0, x, _ => rfl
  | t :: ts, a + 1, x, h => by
    have ih := ev_set ts a x (by simpa using h)
    rw [List.flatMap_cons, List.set_cons_succ, List.flatMap_cons, ← ih]
    rw [List.set_append_right _ _ (by rw [evc_len]; omega), List.set_append_right _ _ (by rw [evc_len]; omega), List.set_append_right _ _ (by rw [evc_len]; omega), evc_len]
    rw [show (a + 1) * 3 - 3 = a * 3 by omega, show (a + 1) * 3 + 1 - 3 = a * 3 + 1 by omega, show (a + 1) * 3 + 2 - 3 = a * 3 + 2 by omega]
/-- The events in a row of their own. -/
def EOwn (w : World) (base g n c : Nat) (ts : List Ev) : Prop := n = ts.length ∧ w.ownsRow base 32 3 (.slice (some ⟨g, 0, none⟩) n c) n (ts.flatMap evc)
theorem EOwn.set {w : World} {base g n c : Nat} {ts : List Ev} (h : EOwn w base g n c ts) {a : Nat} (ha : a < ts.length) (x : Ev) :
    EOwn (((w.setCell ⟨g, a * 3, none⟩ (.int .u64 x.s)).setCell ⟨g, a * 3 + 1, none⟩ (.int .i64 x.t)).setCell ⟨g, a * 3 + 2, none⟩ (.slice x.A x.l.length x.c)) base g n c (ts.set a x) := by
  have hl : (ts.flatMap evc).length = ts.length * 3 := flat_len evc 3 evc_len ts
  refine ⟨by rw [List.length_set]; exact h.1, ?_⟩
  rw [← ev_set ts a x ha]
  exact own_set (own_set (own_set h.2 _ (by omega) _) _ (by rw [List.length_set]; omega) _) _ (by rw [List.length_set, List.length_set]; omega) _
theorem EOwn.blk {w : World} {base g n c : Nat} {ts : List Ev} (h : EOwn w base g n c ts) : ∃ cur, Blk w g 32 cur := by
  rcases h.2.2 with ⟨hv, _⟩ | ⟨g', cap, cur, hv, _, hcur, _⟩
  · simp at hv
  · simp only [Value.slice.injEq, Option.some.injEq, Addr.mk.injEq, and_true, true_and] at hv
    obtain ⟨rfl, _⟩ := hv
    exact ⟨cur, hcur⟩
theorem EOwn.at_ {w : World} {base g n c : Nat} {ts : List Ev} (h : EOwn w base g n c ts) {k : Nat} (hk : k < ts.length) : w.cell? ⟨g, k * 3, none⟩ = some (.int .u64 ts[k].s) ∧ w.cell? ⟨g, k * 3 + 1, none⟩ = some (.int .i64 ts[k].t) ∧ w.cell? ⟨g, k * 3 + 2, none⟩ = some (.slice ts[k].A ts[k].l.length ts[k].c) := by
  obtain ⟨b, off, hA, _, d0, d1, d2⟩ := ev_at h.1 (Sl.of_own h.2) hk
  simp only [Option.some.injEq, Addr.mk.injEq, and_true] at hA
  obtain ⟨rfl, rfl⟩ := hA
  simp only [Nat.zero_add] at d0 d1 d2
  exact ⟨d0, d1, d2⟩
theorem evs_one (es : List Ev) : ∀ u ∈ es.flatMap evc, u.oneCell' = true := by
  intro u hu
  obtain ⟨x, _, hx⟩ := List.mem_flatMap.1 hu
  exact evc_one x u hx
/-- How far the events are moved. -/
structure MvI (w w1 : World) (es : List Ev) (A : Option Addr) (n c : Nat) (ts : List Ev) (wr : World) : Prop where
  fr : Fr Nob w1 wr
  perm : ts.Perm es
  len : n = ts.length
  own : wr.ownsRow w1.heap.size 32 3 (.slice A n c) n (ts.flatMap evc)
set_option maxRecDepth 100000 in
set_option maxHeartbeats 8000000 in
theorem law_WOrder (w : World) (A : Option Addr) (c : Nat) (es : List Ev) (B : Option Addr) (d : Nat) (ns : List Nat) (h : ESl w A c es) (hns : Sl w 1 B ns.length d (ns.flatMap u8c)) (h255 : ∀ n ∈ ns, n ≤ 255) :
    Calls Try.prog 5 #[.slice A es.length c, .slice B ns.length d] w fun e w' => e = .returned (.bool true) ∧ Fr Nob w w' := by
  have HL := Lib.hid h
  have HT := Lib.hid hns
  have H255 := Lib.hid h255
  clear h hns h255
  go_enter Try.func5, Try.ntmps5
  go_wp2_with fail
  refine (law_wawake _).mono ?_
  rintro e w1 ⟨rfl, hf⟩
  have F1 := Lib.hid hf
  clear hf
  have HFW := Lib.hid (fun X (hf : Fr Nob w X) => law_fewE X A c es (HL.out.pure hf))
  cases hfe : fewE es
  · rw [hfe] at HFW
    clear hfe
    go_wp2_with (first
      | ((go_at_call 9); (with_reducible refine (HFW.out _ F1.out).mono ?_); rintro e w2 ⟨rfl, rfl⟩))
    go_ret
    exact ⟨rfl, F1.out⟩
  · rw [hfe] at HFW
    obtain ⟨o1, o2, o3⟩ := fewE_of hfe
    have HQ := Lib.hid (fewE_imp hfe)
    have hes : es.length ≤ 30 := (fewE_imp hfe).1
    have HO := Lib.hid (fun X (hf : Fr Nob w X) => wd_Of X A c es (HL.out.pure hf) o1 o2 o3)
    unfold OfD at HO
    clear hfe o1 o2 o3
    by_cases hn60 : 60 < ns.length
    · have hI : (60 : Int) < ns.length := by omega
      go_wp2_with (first
        | ((go_at_call 9); (with_reducible refine (HFW.out _ F1.out).mono ?_); rintro e w2 ⟨rfl, rfl⟩))
      go_ret
      exact ⟨rfl, F1.out⟩
    have hI : (ns.length : Int) ≤ 60 := by omega
    go_wp2_with (first
      | ((go_at_call 9); (with_reducible refine (HFW.out _ F1.out).mono ?_); rintro e w2 ⟨rfl, hw2⟩; obtain rfl := hw2.symm)
      | (at_builtin; refine wpList_app rfl _ _ 22 rfl elemEv (base := w1.heap.size) (xs := []) (news := es.flatMap evc) rfl ?ow rfl ?sr ?oe ?h6 ?by_ ?bs ?_))
    case ow => exact World.ownsRow_nil _ _ _ _
    case sr => exact (HL.out.pure F1.out).sl
    case oe => first | exact evs_one _ | (intro u x hx hu; exact evc_one x u hu)
    case h6 => unfold maxLen; omega
    case by_ => omega
    case bs => exact Nat.le_refl _
    intro A7 c7 w7 hown7 hgr7 _
    have HM := Lib.hid (show MvI w w1 es A7 es.length c7 es w7 from ⟨(Fr.refl Nob w1).grown hgr7 (fun q e _ => by cases e), List.Perm.refl _, rfl, hown7⟩)
    obtain ⟨n, hn⟩ : ∃ n, es.length = n := ⟨_, rfl⟩
    have HN := Lib.hid hn
    rw [hn] at HM
    have hn30 : n ≤ 30 := by omega
    clear hown7 hgr7
    go_wp2_with fail
    (try rw [hn])
    go_loopw [8] (fun iv wr => ∃ (k : Nat) (ts : List Ev), k ≤ ns.length ∧ iv = .int .i64 k ∧ Hid (MvI w w1 es A7 n c7 ts wr)) (fun iv _ => ns.length - (intOf iv).toNat)
    case atStart => exact ⟨0, es, Nat.zero_le _, rfl, HM⟩
    case round =>
      obtain ⟨k, ts, hk, rfl, hi⟩ := hrel
      rename World => wr
      by_cases hlt : k < ns.length ∧ 0 < n
      · obtain ⟨hlt, hn0⟩ := hlt
        have hJ : (k : Int) < ns.length := by omega
        have hJ0 : 0 ≤ (k : Int) := by omega
        have hJ1 : (0 : Int) < n := by omega
        obtain ⟨bt, offt, hB, hbt, t0⟩ := Sl.row (size := 1) (f := u8c) (fun _ => rfl) (HT.out.pure (F1.out.call hi.out.fr (fun _ h _ => h))) hlt
        have t0 := t0 0 _ rfl
        simp only [Nat.mul_one, Nat.add_zero] at t0
        have h255 := H255.out _ (List.getElem_mem hlt)
        subst hB
        generalize ns[k] = u at *
        go_upto_region 14 with fail
        obtain ⟨a, ha⟩ : ∃ a, u % n = a := ⟨_, rfl⟩
        obtain ⟨b, hb⟩ : ∃ b, k % n = b := ⟨_, rfl⟩
        have han : a < n := by rw [← ha]; exact Nat.mod_lt _ hn0
        have hbn : b < n := by rw [← hb]; exact Nat.mod_lt _ hn0
        rw [show (u : Int) % (n : Int) = (a : Nat) by rw [← ha, Int.natCast_emod], show (k : Int) % (n : Int) = (b : Nat) by rw [← hb, Int.natCast_emod]]
        have hI1 : (a : Int) < n := by omega
        have hI2 : (b : Int) < n := by omega
        clear ha hb t0
        obtain ⟨g, hA7⟩ : ∃ g, A7 = some ⟨g, 0, none⟩ := by
          cases hA : A7 with
          | none =>
            have h1 := hi.out.own
            rw [hA] at h1
            rcases h1.2 with ⟨_, h0⟩ | ⟨g, cap, cur, hv, _⟩
            · omega
            · simp at hv
          | some x => exact hA ▸ own_shape hi.out.own hA
        subst hA7
        have HE := Lib.hid (show EOwn wr w1.heap.size g n c7 ts from ⟨hi.out.len, hi.out.own⟩)
        have HF := Lib.hid hi.out.fr
        have HPM := Lib.hid hi.out.perm
        have hlen := hi.out.len
        clear hi
        have hat : a < ts.length := by omega
        have hbt2 : b < ts.length := by omega
        obtain ⟨a0, a1, a2⟩ := HE.out.at_ hat
        obtain ⟨b0, b1, b2⟩ := HE.out.at_ hbt2
        obtain ⟨cur, hblk⟩ := HE.out.blk
        have f0 := hblk.frozen (a * 3)
        have f1 := hblk.frozen (a * 3 + 1)
        have f2 := hblk.frozen (a * 3 + 2)
        have hgl := hblk.lt
        have hgne : ¬ g = wr.heap.size := by omega
        have hgne2 : ¬ wr.heap.size = g := by omega
        have HXA := Lib.hid (show (ts[a]).pt = (ts[a]).pt from rfl)
        obtain ⟨xa, hxa⟩ : ∃ xa, ts[a] = xa := ⟨_, rfl⟩
        obtain ⟨xb, hxb⟩ : ∃ xb, ts[b] = xb := ⟨_, rfl⟩
        rw [hxa] at a0 a1 a2
        rw [hxb] at b0 b1 b2
        have HXS := Lib.hid (And.intro hxa hxb)
        clear hxa hxb hblk HXA
        obtain ⟨as_, at_, aA, ac, al⟩ := xa
        obtain ⟨bs_, bt_, bA, bc, bl⟩ := xb
        dsimp only at a0 a1 a2 b0 b1 b2
        have HLN := Lib.hid hlen
        clear hlen hn
        go_upto_region 16 with fail
        obtain ⟨W1, hW1⟩ : ∃ W1, (((wr.setCell ⟨g, a * 3, none⟩ (.int .u64 bs_)).setCell ⟨g, a * 3 + 1, none⟩ (.int .i64 bt_)).setCell ⟨g, a * 3 + 2, none⟩ (.slice bA bl.length bc)) = W1 := ⟨_, rfl⟩
        have hE1 : EOwn W1 w1.heap.size g n c7 (ts.set a ⟨bs_, bt_, bA, bc, bl⟩) := by rw [← hW1]; exact HE.out.set hat ⟨bs_, bt_, bA, bc, bl⟩
        have hs1 : W1.heap.size = wr.heap.size := by rw [← hW1]; simp
        have hgw : w1.heap.size ≤ g := by
          rcases HE.out.2.2 with ⟨hv, _⟩ | ⟨g', cap, cur, hv, hge, _⟩
          · simp at hv
          · simp only [Value.slice.injEq, Option.some.injEq, Addr.mk.injEq, and_true, true_and] at hv
            omega
        have hfr1 : Fr Nob w1 W1 := by
          rw [← hW1]
          exact ((HF.out.setCell (p := ⟨g, a * 3, none⟩) (fun h => absurd h (by simp; omega)) _).setCell (p := ⟨g, a * 3 + 1, none⟩) (fun h => absurd h (by simp; omega)) _).setCell (p := ⟨g, a * 3 + 2, none⟩) (fun h => absurd h (by simp; omega)) _
        rw [hW1]
        clear hW1
        obtain ⟨W2, hW2⟩ : ∃ W2, W1.alloc (.cells #[.int .u64 as_, .int .i64 at_, .slice aA al.length ac] 32) = W2 := ⟨_, rfl⟩
        have hbx : Blk W2 wr.heap.size 32 #[.int .u64 as_, .int .i64 at_, .slice aA al.length ac] := by rw [← hW2]; exact Blk.new_eq hs1.symm
        have hE2 : EOwn W2 w1.heap.size g n c7 (ts.set a ⟨bs_, bt_, bA, bc, bl⟩) := ⟨hE1.1, by rw [← hW2]; exact own_fr hE1.2 ((Fr.refl Nob W1).alloc _) (fun _ _ _ _ e => e)⟩
        have HF2 := Lib.hid (show Fr Nob w1 W2 by rw [← hW2]; exact hfr1.alloc _)
        have HE2 := Lib.hid hE2
        have HG := Lib.hid hgw
        rw [hW2]
        clear hW2 hE1 hs1 hfr1 a0 a1 a2 b0 b1 b2 f0 f1 f2 hgl hgw
        have bx0 := hbx.cell 0
        have bx1 := hbx.cell 1
        have bx2 := hbx.cell 2
        have bxl := hbx.lt
        obtain ⟨b0, b1, b2⟩ := hE2.at_ (k := b) (by rw [List.length_set]; exact hbt2)
        obtain ⟨cur2, hblk⟩ := hE2.blk
        have f0 := hblk.frozen (b * 3)
        have f1 := hblk.frozen (b * 3 + 1)
        have f2 := hblk.frozen (b * 3 + 2)
        have hgl := hblk.lt
        generalize (ts.set a ⟨bs_, bt_, bA, bc, bl⟩)[b]'(by rw [List.length_set]; exact hbt2) = xq at b0 b1 b2
        clear hbx hE2 hblk
        go_wp2_with fail
        go_roundw
        case rel =>
          have hres := HE2.out.set (a := b) (by rw [List.length_set]; exact hbt2) ⟨as_, at_, aA, ac, al⟩
          have hgw := HG.out
          refine ⟨k + 1, (ts.set a ⟨bs_, bt_, bA, bc, bl⟩).set b ⟨as_, at_, aA, ac, al⟩, by omega, by go_num, Lib.hid ⟨?_, ?_, hres.1, hres.2⟩⟩
          · exact ((HF2.out.setCell (p := ⟨g, b * 3, none⟩) (fun h => absurd h (by simp; omega)) _).setCell (p := ⟨g, b * 3 + 1, none⟩) (fun h => absurd h (by simp; omega)) _).setCell (p := ⟨g, b * 3 + 2, none⟩) (fun h => absurd h (by simp; omega)) _
          · have hp := List.set_set_perm hat hbt2
            rw [HXS.out.1, HXS.out.2] at hp
            exact hp.trans HPM.out
        case measure => simp [intOf]; omega
      · have hlen := hi.out.len
        have hT : ∀ e ∈ ts ++ es, e ∈ es := fun e he => by
          rcases List.mem_append.1 he with h1 | h1
          · exact hi.out.perm.mem_iff.1 h1
          · exact h1
        have HFW2 := Lib.hid (F1.out.call hi.out.fr (fun _ h _ => h))
        have HO2 := Lib.hid (fun X A8 c8 (hf : Fr Nob w X) (hs : Sl X 3 A8 (n + n) c8 (ts.flatMap evc ++ es.flatMap evc)) => (show Calls Try.prog 15 #[.slice A8 (n + n) c8] X (OfD X (ts ++ es)) by
          have hl : (ts ++ es).length = n + n := by rw [List.length_append, ← hlen, HN.out]
          have := wd_Of X A8 c8 (ts ++ es) ⟨by rw [hl, List.flatMap_append]; exact hs, fun e he => (HL.out.inn e (hT e he)).pure hf⟩ (fun e he x hx => Nat.le_trans ((HQ.out.2 e (hT e he)).2 x hx) (by decide)) (by omega) (fun e he => Nat.le_trans (HQ.out.2 e (hT e he)).1 (by decide))
          rwa [hl] at this))
        have HWE := Lib.hid (show wordP ((ts ++ es).map Ev.pt) = wordP (es.map Ev.pt) from wordP_congr fun e => by
          constructor
          · intro h1
            obtain ⟨x, hx, rfl⟩ := List.mem_map.1 h1
            exact List.mem_map.2 ⟨x, hT x hx, rfl⟩
          · intro h1
            obtain ⟨x, hx, rfl⟩ := List.mem_map.1 h1
            exact List.mem_map.2 ⟨x, List.mem_append.2 (.inr hx), rfl⟩)
        unfold OfD at HO2
        rw [HWE.out] at HO2
        rw [HN.out] at HO
        have HOW := Lib.hid hi.out.own
        have HF1r := Lib.hid hi.out.fr
        have HWK := Lib.hid (fun qs (h : pts qs = wordP (es.map Ev.pt)) => (show WOk qs (es.map Ev.pt) ∧ qs.length ≤ 30 from by
          have h3 : ∀ e ∈ es.map Ev.pt, ∀ x ∈ e.2, x.name.size ≤ 40 := fun e he x hx => by
            obtain ⟨v, hv, rfl⟩ := List.mem_map.1 he
            exact (HQ.out.2 v hv).2 x hx
          refine ⟨WOk.mk' h h3, Nat.le_trans (WOk.mk' h h3).len ?_⟩
          rw [List.length_map]; exact HQ.out.1))
        have HESL := Lib.hid (show Sl w 3 A n c (es.flatMap evc) from HN.out ▸ HL.out.sl)
        clear hi hlen hT hn
        have hstop : ¬ ((k : Int) < ns.length ∧ (0 : Int) < n) := by omega
        by_cases hks : (k : Int) < ns.length
        · have hn0 : ¬ (0 : Int) < n := fun h => hstop ⟨hks, h⟩
          clear hstop hlt
          go_wp2_with (first
            | ((go_at_call 15); (with_reducible refine (HO.out _ HFW2.out).mono ?_); rintro e w2 ⟨A2, c2, xs, rfl, hx, hfr, hf2⟩; have HX := Lib.hid hx; have HFR2 := Lib.hid hfr; have F2 := Lib.hid hf2; clear hx hfr hf2)
            | (at_builtin; refine wpList_app rfl _ _ 22 rfl elemEv (base := w1.heap.size) (xs := ts.flatMap evc) (news := es.flatMap evc) rfl ?ow1 rfl ?sr1 ?oe1 ?h61 ?by1 ?bs1 ?_))
          case ow1 => exact own_fr HOW.out F2.out (fun _ _ _ _ e => e)
          case sr1 => exact HESL.out.pure (HFW2.out.call F2.out (fun _ h _ => h))
          case oe1 => first | exact evs_one _ | (intro u x hx hu; exact evc_one x u hu)
          case h61 => unfold maxLen; omega
          case by1 => omega
          case bs1 => have := HF1r.out.size; have := F2.out.size; omega
          intro A8 c8 w8 hown8 hgr8 _
          have hf8 : Fr Nob w1 w8 := (HF1r.out.call F2.out (fun _ h _ => h)).grown hgr8 (fun q e hlt => by have := own_base HOW.out q e; omega)
          have H8 := Lib.hid (HO2.out w8 A8 c8 (F1.out.call hf8 (fun _ h _ => h)) (Sl.of_own hown8))
          have HFF := Lib.hid (F1.out.call hf8 (fun _ h _ => h))
          have S8 := Lib.hid (show WSl w8 A2 c2 xs from by
            have hq : ∀ q, A7.map (·.block) = some q → q < wr.heap.size := fun q e => by
              refine (HOW.out.lt q ?_).2
              cases A7 with
              | none => cases e
              | some a => exact e
            have hg8 : Fr (fun i => A7.map (·.block) = some i) w2 w8 := (Fr.refl _ _).grown hgr8 (fun q e _ => e)
            exact ⟨HFR2.out.wsl.sl.fr hg8 (fun b off e _ hb => by have := HFR2.out.top b off e; have := hq b hb; omega), fun p hp => (HFR2.out.wsl.inn p hp).fr hg8 (fun b off e _ hb => by have := (HFR2.out.low p hp b off e).1; have := hq b hb; omega)⟩)
          clear hown8 hgr8 hf8
          have HSAM := Lib.hid (fun X A9 c9 (hf : Fr Nob w8 X) (ys : List Pn) (hy : pts ys = wordP (es.map Ev.pt)) (hs : WSl X A9 c9 ys) => (show Calls Try.prog 20 #[.slice A2 xs.length c2, .slice A9 ys.length c9] X fun e w' => e = .returned (.bool true) ∧ Fr Nob X w' by
            have := wd_Same X A2 c2 xs A9 c9 ys (S8.out.pure hf) hs (by have := (HWK.out xs HX.out).2; omega)
            rwa [HX.out, hy, show sameW (wordP (es.map Ev.pt)) (wordP (es.map Ev.pt)) = true by unfold sameW; simp] at this))
          have HRI := Lib.hid (fun X (hf : Fr Nob w8 X) => (show Calls Try.prog 14 #[.slice A2 xs.length c2] X fun e w' => e = .returned (.bool true) ∧ Fr Nob X w' by
            have := wd_Right X A2 c2 xs (S8.out.pure hf) (HWK.out xs HX.out).1.nm (by have := (HWK.out xs HX.out).2; omega)
            rwa [(HWK.out xs HX.out).1.right] at this))
          go_wp2_with (first
            | ((go_at_call 15); (with_reducible refine (H8.out).mono ?_); rintro e w9 ⟨A9, c9, ys, rfl, hy, hfr, hf9⟩; have HY := Lib.hid hy; have S9 := Lib.hid hfr.wsl; have F9 := Lib.hid hf9; clear hy hfr hf9)
            | ((go_at_call 20); (with_reducible refine (HSAM.out _ _ _ F9.out _ HY.out S9.out).mono ?_); rintro e wa ⟨rfl, hfa⟩; have Fa := Lib.hid (F9.out.call hfa (fun _ h _ => h)); clear hfa)
            | ((go_at_call 14); (with_reducible refine (HRI.out _ Fa.out).mono ?_); rintro e wb ⟨rfl, hfb⟩; have Fb := Lib.hid (Fa.out.call hfb (fun _ h _ => h)); clear hfb))
          go_ret
          exact ⟨rfl, HFF.out.call Fb.out (fun _ h _ => h)⟩
        · clear hstop hlt
          go_wp2_with (first
            | ((go_at_call 15); (with_reducible refine (HO.out _ HFW2.out).mono ?_); rintro e w2 ⟨A2, c2, xs, rfl, hx, hfr, hf2⟩; have HX := Lib.hid hx; have HFR2 := Lib.hid hfr; have F2 := Lib.hid hf2; clear hx hfr hf2)
            | (at_builtin; refine wpList_app rfl _ _ 22 rfl elemEv (base := w1.heap.size) (xs := ts.flatMap evc) (news := es.flatMap evc) rfl ?ow2 rfl ?sr2 ?oe2 ?h62 ?by2 ?bs2 ?_))
          case ow2 => exact own_fr HOW.out F2.out (fun _ _ _ _ e => e)
          case sr2 => exact HESL.out.pure (HFW2.out.call F2.out (fun _ h _ => h))
          case oe2 => first | exact evs_one _ | (intro u x hx hu; exact evc_one x u hu)
          case h62 => unfold maxLen; omega
          case by2 => omega
          case bs2 => have := HF1r.out.size; have := F2.out.size; omega
          intro A8 c8 w8 hown8 hgr8 _
          have hf8 : Fr Nob w1 w8 := (HF1r.out.call F2.out (fun _ h _ => h)).grown hgr8 (fun q e hlt => by have := own_base HOW.out q e; omega)
          have H8 := Lib.hid (HO2.out w8 A8 c8 (F1.out.call hf8 (fun _ h _ => h)) (Sl.of_own hown8))
          have HFF := Lib.hid (F1.out.call hf8 (fun _ h _ => h))
          have S8 := Lib.hid (show WSl w8 A2 c2 xs from by
            have hq : ∀ q, A7.map (·.block) = some q → q < wr.heap.size := fun q e => by
              refine (HOW.out.lt q ?_).2
              cases A7 with
              | none => cases e
              | some a => exact e
            have hg8 : Fr (fun i => A7.map (·.block) = some i) w2 w8 := (Fr.refl _ _).grown hgr8 (fun q e _ => e)
            exact ⟨HFR2.out.wsl.sl.fr hg8 (fun b off e _ hb => by have := HFR2.out.top b off e; have := hq b hb; omega), fun p hp => (HFR2.out.wsl.inn p hp).fr hg8 (fun b off e _ hb => by have := (HFR2.out.low p hp b off e).1; have := hq b hb; omega)⟩)
          clear hown8 hgr8 hf8
          have HSAM := Lib.hid (fun X A9 c9 (hf : Fr Nob w8 X) (ys : List Pn) (hy : pts ys = wordP (es.map Ev.pt)) (hs : WSl X A9 c9 ys) => (show Calls Try.prog 20 #[.slice A2 xs.length c2, .slice A9 ys.length c9] X fun e w' => e = .returned (.bool true) ∧ Fr Nob X w' by
            have := wd_Same X A2 c2 xs A9 c9 ys (S8.out.pure hf) hs (by have := (HWK.out xs HX.out).2; omega)
            rwa [HX.out, hy, show sameW (wordP (es.map Ev.pt)) (wordP (es.map Ev.pt)) = true by unfold sameW; simp] at this))
          have HRI := Lib.hid (fun X (hf : Fr Nob w8 X) => (show Calls Try.prog 14 #[.slice A2 xs.length c2] X fun e w' => e = .returned (.bool true) ∧ Fr Nob X w' by
            have := wd_Right X A2 c2 xs (S8.out.pure hf) (HWK.out xs HX.out).1.nm (by have := (HWK.out xs HX.out).2; omega)
            rwa [(HWK.out xs HX.out).1.right] at this))
          go_wp2_with (first
            | ((go_at_call 15); (with_reducible refine (H8.out).mono ?_); rintro e w9 ⟨A9, c9, ys, rfl, hy, hfr, hf9⟩; have HY := Lib.hid hy; have S9 := Lib.hid hfr.wsl; have F9 := Lib.hid hf9; clear hy hfr hf9)
            | ((go_at_call 20); (with_reducible refine (HSAM.out _ _ _ F9.out _ HY.out S9.out).mono ?_); rintro e wa ⟨rfl, hfa⟩; have Fa := Lib.hid (F9.out.call hfa (fun _ h _ => h)); clear hfa)
            | ((go_at_call 14); (with_reducible refine (HRI.out _ Fa.out).mono ?_); rintro e wb ⟨rfl, hfb⟩; have Fb := Lib.hid (Fa.out.call hfb (fun _ h _ => h)); clear hfb))
          go_ret
          exact ⟨rfl, HFF.out.call Fb.out (fun _ h _ => h)⟩
end Go.Proofs.Ytckmmihbipmkcaa
