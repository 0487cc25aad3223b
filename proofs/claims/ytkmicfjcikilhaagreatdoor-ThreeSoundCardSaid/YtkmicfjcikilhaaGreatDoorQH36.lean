/- The laws of three: events. -/
import Derived.Test.YtkmicfjcikilhaaGreatDoorKT
import Derived.Test.YtkmicfjcikilhaaGreatDoorQH35
namespace Go.Proofs.YtkmicfjcikilhaaGreatDoor
open Go.RowKit Go.Lib

def ShortE (es : List Ev) : Prop := es.length ≤ 10 ∧ ∀ e ∈ es, OkL e.l
set_option maxRecDepth 100000 in
set_option maxHeartbeats 4000000 in
theorem l15_fewD (w : World) (A : Option Addr) (c : Nat) (ps : List Pn) (h : WSl w A c ps) (b0 : Bool) (hb0 : b0 = true ↔ FewW ps) :
    Calls Tryz.prog 6 #[.slice A ps.length c] w fun e w' => e = .returned (.bool b0) ∧ w' = w := by
  have HXF := Lib.hid (fun (h : ¬ FewW ps) => show b0 = false from Bool.eq_false_iff.2 (fun e => h (hb0.1 e)))
  have HXT := Lib.hid hb0.2
  clear hb0
  have HL := Lib.hid h
  have hmax := h.sl.max
  have hle := h.sl.le
  unfold maxLen at hmax
  clear h
  by_cases h16 : 16 < ps.length
  · have hI : (16 : Int) < ps.length := by omega
    go_enter Tryz.func6, Tryz.ntmps6
    go_wp2_with fail
    go_ret
    exact ⟨by have hb9 := HXF.out (fun h => by have := h.1; omega); subst hb9; rfl, rfl⟩
  · have hI : (ps.length : Int) ≤ 16 := by omega
    go_enter Tryz.func6, Tryz.ntmps6
    go_wp2_with fail
    go_loopw [3] (fun iv wr => ∃ i : Nat, i ≤ ps.length ∧ iv = .int .i64 i ∧ Hid (∀ j, (hj : j < ps.length) → j < i → OkL ps[j].l) ∧ wr = w) (fun iv _ => ps.length - (intOf iv).toNat)
    case atStart => exact ⟨0, Nat.zero_le _, rfl, Lib.hid (fun j _ hj => absurd hj (by omega)), rfl⟩
    case round =>
      obtain ⟨i, hi, rfl, hall, rfl⟩ := hrel
      by_cases hlt : i < ps.length
      · have hI2 : (i : Int) < ps.length := by omega
        have hI3 : 0 ≤ (i : Int) := by omega
        obtain ⟨b, off, rfl, hb, d0, d1⟩ := HL.out.at_ hlt
        have HIN := Lib.hid (HL.out.inn _ (List.getElem_mem hlt))
        have HNO := Lib.hid (fun (h : ¬ OkL ps[i].l) => HXF.out (fun hf => h (hf.2 _ (List.getElem_mem hlt))))
        have HALL := Lib.hid (fun (h : OkL ps[i].l) => show ∀ j, (hj : j < ps.length) → j < i + 1 → OkL ps[j].l from fun j hj hjk => by
          rcases Nat.lt_succ_iff_lt_or_eq.1 hjk with h' | h'
          · exact hall.out j hj h'
          · subst h'; exact h)
        generalize ps[i] = p at *
        obtain ⟨t, pA, pc, l⟩ := p
        dsimp only at d0 d1 HIN HALL HNO
        by_cases h10 : 10 < l.length
        · have hI4 : (10 : Int) < l.length := by omega
          go_wp2_with fail
          go_ret
          exact ⟨by have hb9 := HNO.out (fun h => by have := h.1; omega); subst hb9; rfl, rfl⟩
        · have hI4 : (l.length : Int) ≤ 10 := by omega
          go_wp2_with fail
          go_loopw [4] (fun kv wq => ∃ k : Nat, k ≤ l.length ∧ kv = .int .i64 k ∧ Hid (∀ j, (hj : j < l.length) → j < k → l[j].name.size ≤ 40) ∧ wq = wr) (fun kv _ => l.length - (intOf kv).toNat)
          case atStart => exact ⟨0, Nat.zero_le _, rfl, Lib.hid (fun j _ hj => absurd hj (by omega)), rfl⟩
          case round =>
            obtain ⟨k, hk, rfl, hnames, rfl⟩ := hrel
            by_cases hlt2 : k < l.length
            · have hK2 : (k : Int) < l.length := by omega
              have hK3 : 0 ≤ (k : Int) := by omega
              obtain ⟨pb, po, rfl, hpb, e0, e1⟩ := pp_cells HIN.out hlt2
              by_cases h40 : 40 < l[k].name.size
              · have hN : (40 : Int) < l[k].name.size := by omega
                have HN40 := Lib.hid (HNO.out (fun h => by have := h.2 _ (List.getElem_mem hlt2); omega))
                generalize l[k].name = nm at *
                go_wp2_with fail
                go_ret
                exact ⟨by have hb9 := HN40.out; subst hb9; rfl, rfl⟩
              · have hN : (l[k].name.size : Int) ≤ 40 := by omega
                have HY := Lib.hid (show ∀ j, (hj : j < l.length) → j < k + 1 → l[j].name.size ≤ 40 from fun j hj hjk => by
                  rcases Nat.lt_succ_iff_lt_or_eq.1 hjk with h' | h'
                  · exact hnames.out j hj h'
                  · subst h'; omega)
                generalize l[k].name = nm at *
                go_wp2_with fail
                go_roundw
                case rel => exact ⟨k + 1, by omega, by go_num, HY, by first | rfl | trivial⟩
                case measure => simp [intOf]; omega
            · have HY := Lib.hid (HALL.out (okl_all (by omega) (fun j hj => hnames.out j hj (by omega))))
              have hlt3 : ¬ (k : Int) < l.length := by omega
              go_wp2_with fail
              go_roundw
              case rel => exact ⟨i + 1, by omega, by go_num, HY, by first | rfl | trivial⟩
              case measure => simp [intOf]; omega
      · have HY := Lib.hid (show FewW ps from ⟨by omega, fun p hp => by
          obtain ⟨k, hk, rfl⟩ := List.getElem_of_mem hp
          exact hall.out k hk (by omega)⟩)
        have hlt3 : ¬ (i : Int) < ps.length := by omega
        go_wp2_with fail
        go_ret
        exact ⟨by have hb9 := HXT.out HY.out; subst hb9; rfl, rfl⟩
set_option maxRecDepth 100000 in
set_option maxHeartbeats 4000000 in
theorem l15_shortD (w : World) (A : Option Addr) (c : Nat) (ps : List Ev) (h : ESl w A c ps) (b0 : Bool) (hb0 : b0 = true ↔ ShortE ps) :
    Calls Tryz.prog 7 #[.slice A ps.length c] w fun e w' => e = .returned (.bool b0) ∧ w' = w := by
  have HXF := Lib.hid (fun (h : ¬ ShortE ps) => show b0 = false from Bool.eq_false_iff.2 (fun e => h (hb0.1 e)))
  have HXT := Lib.hid hb0.2
  clear hb0
  have HL := Lib.hid h
  have hmax := h.sl.max
  have hle := h.sl.le
  unfold maxLen at hmax
  clear h
  by_cases h10 : 10 < ps.length
  · have hI : (10 : Int) < ps.length := by omega
    go_enter Tryz.func7, Tryz.ntmps7
    go_wp2_with fail
    go_ret
    exact ⟨by have hb9 := HXF.out (fun h => by have := h.1; omega); subst hb9; rfl, rfl⟩
  · have hI : (ps.length : Int) ≤ 10 := by omega
    go_enter Tryz.func7, Tryz.ntmps7
    go_wp2_with fail
    go_loopw [3] (fun iv wr => ∃ i : Nat, i ≤ ps.length ∧ iv = .int .i64 i ∧ Hid (∀ j, (hj : j < ps.length) → j < i → OkL ps[j].l) ∧ wr = w) (fun iv _ => ps.length - (intOf iv).toNat)
    case atStart => exact ⟨0, Nat.zero_le _, rfl, Lib.hid (fun j _ hj => absurd hj (by omega)), rfl⟩
    case round =>
      obtain ⟨i, hi, rfl, hall, rfl⟩ := hrel
      by_cases hlt : i < ps.length
      · have hI2 : (i : Int) < ps.length := by omega
        have hI3 : 0 ≤ (i : Int) := by omega
        obtain ⟨b, off, rfl, hb, d0, d1, d2⟩ := ev_at rfl HL.out.sl hlt
        have HIN := Lib.hid (HL.out.inn _ (List.getElem_mem hlt))
        have HNO := Lib.hid (fun (h : ¬ OkL ps[i].l) => HXF.out (fun hf => h (hf.2 _ (List.getElem_mem hlt))))
        have HALL := Lib.hid (fun (h : OkL ps[i].l) => show ∀ j, (hj : j < ps.length) → j < i + 1 → OkL ps[j].l from fun j hj hjk => by
          rcases Nat.lt_succ_iff_lt_or_eq.1 hjk with h' | h'
          · exact hall.out j hj h'
          · subst h'; exact h)
        generalize ps[i] = p at *
        obtain ⟨es, t, pA, pc, l⟩ := p
        dsimp only at d0 d1 d2 HIN HALL HNO
        by_cases h10 : 10 < l.length
        · have hI4 : (10 : Int) < l.length := by omega
          go_wp2_with fail
          go_ret
          exact ⟨by have hb9 := HNO.out (fun h => by have := h.1; omega); subst hb9; rfl, rfl⟩
        · have hI4 : (l.length : Int) ≤ 10 := by omega
          go_wp2_with fail
          go_loopw [4] (fun kv wq => ∃ k : Nat, k ≤ l.length ∧ kv = .int .i64 k ∧ Hid (∀ j, (hj : j < l.length) → j < k → l[j].name.size ≤ 40) ∧ wq = wr) (fun kv _ => l.length - (intOf kv).toNat)
          case atStart => exact ⟨0, Nat.zero_le _, rfl, Lib.hid (fun j _ hj => absurd hj (by omega)), rfl⟩
          case round =>
            obtain ⟨k, hk, rfl, hnames, rfl⟩ := hrel
            by_cases hlt2 : k < l.length
            · have hK2 : (k : Int) < l.length := by omega
              have hK3 : 0 ≤ (k : Int) := by omega
              obtain ⟨pb, po, rfl, hpb, e0, e1⟩ := pp_cells HIN.out hlt2
              by_cases h40 : 40 < l[k].name.size
              · have hN : (40 : Int) < l[k].name.size := by omega
                have HN40 := Lib.hid (HNO.out (fun h => by have := h.2 _ (List.getElem_mem hlt2); omega))
                generalize l[k].name = nm at *
                go_wp2_with fail
                go_ret
                exact ⟨by have hb9 := HN40.out; subst hb9; rfl, rfl⟩
              · have hN : (l[k].name.size : Int) ≤ 40 := by omega
                have HY := Lib.hid (show ∀ j, (hj : j < l.length) → j < k + 1 → l[j].name.size ≤ 40 from fun j hj hjk => by
                  rcases Nat.lt_succ_iff_lt_or_eq.1 hjk with h' | h'
                  · exact hnames.out j hj h'
                  · subst h'; omega)
                generalize l[k].name = nm at *
                go_wp2_with fail
                go_roundw
                case rel => exact ⟨k + 1, by omega, by go_num, HY, by first | rfl | trivial⟩
                case measure => simp [intOf]; omega
            · have HY := Lib.hid (HALL.out (okl_all (by omega) (fun j hj => hnames.out j hj (by omega))))
              have hlt3 : ¬ (k : Int) < l.length := by omega
              go_wp2_with fail
              go_roundw
              case rel => exact ⟨i + 1, by omega, by go_num, HY, by first | rfl | trivial⟩
              case measure => simp [intOf]; omega
      · have HY := Lib.hid (show ShortE ps from ⟨by omega, fun p hp => by
          obtain ⟨k, hk, rfl⟩ := List.getElem_of_mem hp
          exact hall.out k hk (by omega)⟩)
        have hlt3 : ¬ (i : Int) < ps.length := by omega
        go_wp2_with fail
        go_ret
        exact ⟨by have hb9 := HXT.out HY.out; subst hb9; rfl, rfl⟩
theorem few_bnd {ps : List Pn} (h : FewW ps) : BndW (pts ps) 16 10 := ⟨by rw [pts_len]; exact h.1, fun p hp => by
  unfold pts at hp
  rw [List.mem_map] at hp
  obtain ⟨q, hq, rfl⟩ := hp
  exact h.2 q hq⟩
theorem bnd_pn {qs : List Pn} {n m : Nat} (h : BndW (pts qs) n m) : qs.length ≤ n ∧ ∀ p ∈ qs, p.l.length ≤ m ∧ ∀ x ∈ p.l, x.name.size ≤ 40 :=
  ⟨by have := h.1; rwa [pts_len] at this, fun p hp => h.2 p.pt (List.mem_map_of_mem hp)⟩
def MoreR (w : World) (V : List Pt) (e : Ending) (w' : World) : Prop := ∃ (A' : Option Addr) (c' : Nat) (qs : List Pn), e = .returned (.slice A' (List.length qs) c') ∧ pts qs = V ∧ BndW V 26 110 ∧ WSl w' A' c' qs ∧ Fr Nob w w'
structure MrI (w wr : World) (W : List Pt) (mark : Int) (es : List Ev) (k : Nat) (A' : Option Addr) (c' : Nat) (qs : List Pn) : Prop where
  eq : pts qs = moreW W mark (es.take k)
  sl : WSl wr A' c' qs
  fr : Fr Nob w wr
  bnd : BndW (pts qs) (16 + k) (10 + 10 * k)
theorem MrI.no {w wr : World} {W : List Pt} {mark : Int} {es : List Ev} {k : Nat} {A' : Option Addr} {c' : Nat} {qs : List Pn} (h : MrI w wr W mark es k A' c' qs) (hk : k < es.length) (ht : ¬ mark < es[k].t) : MrI w wr W mark es (k + 1) A' c' qs :=
  ⟨by rw [moreW_no hk ht]; exact h.eq, h.sl, h.fr, by have := h.bnd.1; omega, fun p hp => ⟨by have := (h.bnd.2 p hp).1; omega, (h.bnd.2 p hp).2⟩⟩
theorem MrI.yes {w wr w' : World} {W : List Pt} {mark : Int} {es : List Ev} {k : Nat} {A' A2 : Option Addr} {c' c2 : Nat} {qs zs : List Pn} (h : MrI w wr W mark es k A' c' qs) (hk : k < es.length) (hE : ShortE es) (ht : mark < es[k].t) (hz : pts zs = (putW (pts qs) es[k].t es[k].l).1) (hs : WSl w' A2 c2 zs) (hf : Fr Nob wr w') : MrI w w' W mark es (k + 1) A2 c2 zs :=
  ⟨by rw [moreW_yes hk ht, ← h.eq]; exact hz, hs, h.fr.call hf (fun _ h _ => h), by
    have h1 := hE.2 _ (List.getElem_mem hk)
    have := h.bnd.put es[k].t h1.1 h1.2
    rw [hz]
    exact this⟩
set_option maxRecDepth 100000 in
set_option maxHeartbeats 4000000 in
theorem l15_more (w : World) (A : Option Addr) (c : Nat) (ps : List Pn) (mark : Int) (B : Option Addr) (d : Nat) (es : List Ev) (h : WSl w A c ps) (he : ESl w B d es) (hF : FewW ps) (hE : ShortE es) :
    Calls Tryz.prog 11 #[.slice A ps.length c, .int .i64 mark, .slice B es.length d] w (MoreR w (moreW (pts ps) mark es)) := by
  have HS := Lib.hid (show MrI w w (pts ps) mark es 0 A c ps from ⟨by rw [List.take_zero]; rfl, h, Fr.refl _ _, few_bnd hF⟩)
  have HL := Lib.hid he
  have HE := Lib.hid hE
  have HPT : ∃ W, W = pts ps := ⟨_, rfl⟩
  obtain ⟨W, hW⟩ := HPT
  rw [← hW] at HS ⊢
  have hE10 := hE.1
  clear h he hF hE hW
  unfold MoreR
  go_enter Tryz.func11, Tryz.ntmps11
  go_wp2_with fail
  go_loopw [7, 8] (fun vv iv wr => ∃ (k : Nat) (A' : Option Addr) (c' : Nat) (qs : List Pn), k ≤ es.length ∧ iv = .int .i64 k ∧ vv = .slice A' (List.length qs) c' ∧ Hid (MrI w wr W mark es k A' c' qs)) (fun _ iv _ => es.length - (intOf iv).toNat)
  case atStart => exact ⟨0, A, c, ps, Nat.zero_le _, rfl, rfl, HS⟩
  case round =>
    obtain ⟨k, A', c', qs, hk, rfl, rfl, hi⟩ := hrel
    rename World => wr
    by_cases hlt : k < es.length
    · have hJ2 : (k : Int) < es.length := by omega
      have hJ3 : 0 ≤ (k : Int) := by omega
      obtain ⟨b, off, rfl, hb, d0, d1, d2⟩ := ev_at rfl (HL.out.pure hi.out.fr).sl hlt
      have HNO := Lib.hid (fun ht => hi.out.no hlt ht)
      have HYE := Lib.hid (fun w' A2 c2 zs ht hz hs hf => hi.out.yes (w' := w') (A2 := A2) (c2 := c2) (zs := zs) hlt HE.out ht hz hs hf)
      obtain ⟨q1, q2⟩ := bnd_pn hi.out.bnd
      have hev := HE.out.2 _ (List.getElem_mem hlt)
      have HPU := Lib.hid (fun X (hf : Fr Nob wr X) => wd_Put X A' c' qs es[k].t es[k].A es[k].c es[k].l (hi.out.sl.pure hf) (fun p hp y hy => by have := (q2 p hp).2 y hy; omega) (by omega) (fun p hp => by have := (q2 p hp).1; omega) (((HL.out.inn _ (List.getElem_mem hlt)).pure hi.out.fr).pure hf) (fun y hy => by have := hev.2 y hy; omega) (by have := hev.1; omega))
      clear hi q1 q2 hev
      generalize putW (pts qs) es[k].t es[k].l = pq at *
      generalize es[k] = ev at *
      obtain ⟨vs, vt, vA, vc, vl⟩ := ev
      obtain ⟨pw, pk, pb⟩ := pq
      unfold PutR at HPU
      dsimp only at d0 d1 d2 HPU HNO HYE
      by_cases ht : mark < vt
      · have hgt : mark < vt := ht
        go_upto_region 6 with fail
        go_region_held3 (fun w' => w'.cell? ⟨b, off + k * 3 + 1, none⟩ = some (.int .i64 vt) ∧ w'.cell? ⟨b, off + k * 3 + 2, none⟩ = some (.slice vA vl.length vc))
          (first | (go_split_ands; refine ⟨?_, ?_⟩ <;> with_reducible exact Fr.cell hf4 (by assumption) (fun e => e)) | go_keep)
          (first
            | ((go_at_call 23); (with_reducible refine (HPU.out _ ((Fr.refl Nob _).drew)).mono ?_); rintro e w4 ⟨A4, c4, zs, rfl, hx, hfr, hf4⟩; have HX := Lib.hid hx; have S4 := Lib.hid hfr.wsl; have F4 := Lib.hid hf4))
        have HN := Lib.hid (HYE.out _ _ _ _ ht HX.out S4.out (((Fr.refl Nob wr).drew).call F4.out (fun _ h _ => h)))
        clear hx hfr hf4
        go_wp2_with fail
        go_roundw
        case rel => exact ⟨k + 1, A4, c4, zs, by omega, by go_num, rfl, HN⟩
        case measure => simp [intOf]; omega
      · have HN := Lib.hid (HNO.out ht)
        go_wp2_with fail
        go_roundw
        case rel => exact ⟨k + 1, A', c', qs, by omega, by go_num, rfl, HN⟩
        case measure => simp [intOf]; omega
    · obtain rfl : k = es.length := by omega
      have HQ := Lib.hid (show pts qs = moreW W mark es ∧ BndW (moreW W mark es) 26 110 from by
        have h1 := hi.out.eq
        rw [List.take_length] at h1
        have h2 := hi.out.bnd
        rw [h1] at h2
        exact ⟨h1, by have := h2.1; omega, fun p hp => ⟨by have := (h2.2 p hp).1; omega, (h2.2 p hp).2⟩⟩)
      have hlt3 : ¬ (es.length : Int) < es.length := by omega
      go_wp2_with fail
      go_ret
      exact ⟨A', c', qs, rfl, HQ.out.1, HQ.out.2, hi.out.sl, hi.out.fr⟩
end Go.Proofs.YtkmicfjcikilhaaGreatDoor
