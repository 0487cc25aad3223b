/- The word laws: few events, the document's example. -/
import Derived.Test.YtckmmihbipmkcaaWo3
namespace Go.Proofs.Ytckmmihbipmkcaa
open Go.RowKit Go.Sort Go.Lib Go.Shelf

def fewE (es : List Ev) : Bool := decide (es.length ≤ 30) && es.all fun e => shortB 20 e.l
theorem fewE_no {es : List Ev} {k : Nat} (hk : k < es.length) (h : shortB 20 es[k].l = false) : fewE es = false := by
  unfold fewE
  rw [Bool.and_eq_false_iff, List.all_eq_false]
  exact .inr ⟨es[k], List.getElem_mem hk, by rw [h]; simp⟩
theorem fewE_all {es : List Ev} (hn : es.length ≤ 30) (h : ∀ k, (hk : k < es.length) → shortB 20 es[k].l = true) : fewE es = true := by
  unfold fewE
  rw [Bool.and_eq_true, List.all_eq_true]
  refine ⟨by simpa using hn, fun e he => ?_⟩
  obtain ⟨k, hk, rfl⟩ := List.getElem_of_mem he
  exact h k hk
theorem fewE_imp {es : List Ev} (h : fewE es = true) : es.length ≤ 30 ∧ ∀ e ∈ es, e.l.length ≤ 20 ∧ ∀ x ∈ e.l, x.name.size ≤ 40 := by
  unfold fewE at h
  rw [Bool.and_eq_true, List.all_eq_true] at h
  exact ⟨by simpa using h.1, fun e he => short_imp (h.2 e he)⟩
set_option maxRecDepth 100000 in
theorem law_fewE (w : World) (A : Option Addr) (c : Nat) (es : List Ev) (h : ESl w A c es) :
    Calls Try.prog 9 #[.slice A es.length c] w fun e w' => e = .returned (.bool (fewE es)) ∧ w' = w := by
  have HL := Lib.hid h
  clear h
  by_cases h30 : 30 < es.length
  · have hI : (30 : Int) < es.length := by omega
    have HR := Lib.hid (show fewE es = false by unfold fewE; rw [decide_eq_false (by omega)]; rfl)
    clear h30
    go_enter Try.func9, Try.ntmps9
    go_wp2_with fail
    go_ret
    rw [HR.out]
    exact ⟨rfl, rfl⟩
  · have hI : (es.length : Int) ≤ 30 := by omega
    go_enter Try.func9, Try.ntmps9
    go_wp2_with fail
    go_loop [3] (fun i => ∃ k : Nat, k ≤ es.length ∧ i = .int .i64 k ∧ Hid (∀ j, (hj : j < es.length) → j < k → shortB 20 es[j].l = true)) (fun i => es.length - (intOf i).toNat)
    case atStart => exact ⟨0, Nat.zero_le _, rfl, Lib.hid (fun j _ hj => absurd hj (by omega))⟩
    case round =>
      obtain ⟨k, hk, rfl, hall⟩ := hrel
      by_cases hlt : k < es.length
      · have hI2 : (k : Int) < es.length := by omega
        have hI3 : 0 ≤ (k : Int) := by omega
        obtain ⟨ba, off, rfl, hba, d0, d1, d2⟩ := ev_at rfl HL.out.sl hlt
        have HSH := Lib.hid (law_short w es[k].A es[k].c es[k].l (HL.out.inn _ (List.getElem_mem hlt)))
        have HF := Lib.hid (fun h => fewE_no hlt h)
        have HT := Lib.hid (fun (h : shortB 20 es[k].l = true) => show ∀ j, (hj : j < es.length) → j < k + 1 → shortB 20 es[j].l = true from fun j hj hjk => by
          rcases Nat.lt_succ_iff_lt_or_eq.1 hjk with h' | h'
          · exact hall.out j hj h'
          · subst h'; exact h)
        generalize es[k] = x at *
        obtain ⟨xs, xt, xA, xc, xl⟩ := x
        dsimp only at d0 d1 d2 HF HT HSH
        cases hsb : shortB 20 xl
        · have HR := Lib.hid (HF.out hsb)
          rw [hsb] at HSH
          clear HF HT hsb
          go_wp2_with (first | ((go_at_call 16); (with_reducible refine (HSH.out).mono ?_); rintro e w1 ⟨rfl, rfl⟩))
          go_ret
          rw [HR.out]
          exact ⟨rfl, rfl⟩
        · have HR := Lib.hid (HT.out hsb)
          rw [hsb] at HSH
          clear HF HT hsb
          go_wp2_with (first | ((go_at_call 16); (with_reducible refine (HSH.out).mono ?_); rintro e w1 ⟨rfl, rfl⟩))
          go_round
          case rel => exact ⟨k + 1, by omega, by go_num, HR⟩
          case measure => simp [intOf]; omega
      · have HR := Lib.hid (fewE_all (es := es) (by omega) (fun j hj => hall.out j hj (by omega)))
        go_wp2_with fail
        go_ret
        rw [HR.out]
        exact ⟨rfl, rfl⟩
def ba : ByteArray := ⟨#[97]⟩
def bb : ByteArray := ⟨#[98]⟩
def awE (n : Nat) : List Ev := [⟨0, 5, some ⟨n, 0, none⟩, 1, [⟨ba, 1⟩]⟩, ⟨0, 3, some ⟨n + 1, 0, none⟩, 1, [⟨bb, 1⟩]⟩, ⟨0, 5, some ⟨n + 1 + 1, 0, none⟩, 1, [⟨ba, 2⟩]⟩]
def awW : List Pt := [(3, [⟨bb, 1⟩]), (5, [⟨ba, 1⟩, ⟨ba, 2⟩])]
theorem nm_ba : nmOk ba = true := by decide +kernel
theorem nm_bb : nmOk bb = true := by decide +kernel
theorem awW_is (n : Nat) : IsWord ((awE n).map Ev.pt) awW := by
  have g1 : goodE (5, [⟨ba, 1⟩]) = true := (goodE_iff _).2 ⟨by simp, by intro x hx; simp at hx; subst hx; exact nm_ba⟩
  have g2 : goodE (3, [⟨bb, 1⟩]) = true := (goodE_iff _).2 ⟨by simp, by intro x hx; simp at hx; subst hx; exact nm_bb⟩
  have g3 : goodE (5, [⟨ba, 2⟩]) = true := (goodE_iff _).2 ⟨by simp, by intro x hx; simp at hx; subst hx; exact nm_ba⟩
  have e : (awE n).map Ev.pt = [(5, [⟨ba, 1⟩]), (3, [⟨bb, 1⟩]), (5, [⟨ba, 2⟩])] := rfl
  rw [e]
  refine ⟨by simp [awW], fun p hp => ?_, fun p hp x => ?_, fun p hp => ?_, fun e he hg => ?_⟩
  · simp [awW] at hp
    rcases hp with rfl | rfl
    · simp [Asc]
    · simp [Asc, plt]
  · simp [awW] at hp
    rcases hp with rfl | rfl
    · simp [g1, g2, g3]
    · simp [g1, g2, g3]
  · simp [awW] at hp
    rcases hp with rfl | rfl
    · exact ⟨_, by simp, g2, rfl⟩
    · exact ⟨(5, [⟨ba, 1⟩]), by simp, g1, rfl⟩
  · simp at he
    rcases he with rfl | rfl | rfl
    · exact ⟨(5, [⟨ba, 1⟩, ⟨ba, 2⟩]), by simp [awW], rfl⟩
    · exact ⟨(3, [⟨bb, 1⟩]), by simp [awW], rfl⟩
    · exact ⟨(5, [⟨ba, 1⟩, ⟨ba, 2⟩]), by simp [awW], rfl⟩
theorem awW_of (n : Nat) : wordP ((awE n).map Ev.pt) = awW := (wordP_is _).uniq (awW_is n)
theorem awW_put : ∃ x, putW awW 4 [] = (x, 1, true) := by
  have hr := (awW_is 0).right
  have hf : fromI awW 4 = 1 := by decide
  unfold putW
  rw [if_neg (by rw [hr]; simp), if_neg (by rw [lof_nil]; decide)]
  split
  · rename_i h
    obtain ⟨h1, h2⟩ := h
    simp only [hf] at h2
    exact absurd h2 (show ¬ (5 : Int) = 4 by decide)
  · rw [hf]; exact ⟨_, rfl⟩
theorem awW_from : fromW awW 4 = 1 := by
  unfold fromW
  rw [(awW_is 0).right]; decide
theorem aw_pts {qs : List Pn} (h : pts qs = awW) : ∃ p q : Pn, qs = [p, q] ∧ p.t = 3 ∧ q.l.length = 2 := by
  rcases qs with _ | ⟨p, _ | ⟨q, _ | ⟨r, s⟩⟩⟩
  · simp [pts, awW] at h
  · simp [pts, awW] at h
  · simp [pts, Pn.pt, awW] at h
    exact ⟨p, q, rfl, h.1.1, by rw [h.2.2]; rfl⟩
  · simp [pts, awW] at h
theorem nmE_aw (n : Nat) : NmE (awE n) := by
  intro e he x hx
  simp [awE] at he
  rcases he with rfl | rfl | rfl <;> (simp at hx; subst hx; decide)
theorem awE_few (n : Nat) : ∀ e ∈ awE n, e.l.length ≤ 100 := by
  intro e he
  simp [awE] at he
  rcases he with rfl | rfl | rfl <;> simp
theorem awE_in {W : World} {n : Nat} (B0 : Blk W n 51 #[.string ba, .int .i64 1]) (B1 : Blk W (n + 1) 51 #[.string bb, .int .i64 1]) (B2 : Blk W (n + 1 + 1) 51 #[.string ba, .int .i64 2]) : ∀ e ∈ awE n, Sl W 2 e.A e.l.length e.c (e.l.flatMap pcs) := by
  intro e he
  simp [awE] at he
  rcases he with rfl | rfl | rfl
  · exact Sl.new1 B0 2 1 rfl (by decide)
  · exact Sl.new1 B1 2 1 rfl (by decide)
  · exact Sl.new1 B2 2 1 rfl (by decide)
set_option maxRecDepth 100000 in
set_option maxHeartbeats 8000000 in
theorem law_wawake (w : World) : Calls Try.prog 8 #[] w fun e w' => e = .returned (.bool true) ∧ Fr Nob w w' := by
  have HO := Lib.hid (fun (W : World) (B0 : Blk W w.heap.size 51 #[.string ba, .int .i64 1]) (B1 : Blk W (w.heap.size + 1) 51 #[.string bb, .int .i64 1]) (B2 : Blk W (w.heap.size + 1 + 1) 51 #[.string ba, .int .i64 2])
      (B3 : Blk W (w.heap.size + 1 + 1 + 1) 32 #[.int .u64 0, .int .i64 5, .slice (some ⟨w.heap.size, 0, none⟩) 1 1, .int .u64 0, .int .i64 3, .slice (some ⟨w.heap.size + 1, 0, none⟩) 1 1, .int .u64 0, .int .i64 5, .slice (some ⟨w.heap.size + 1 + 1, 0, none⟩) 1 1]) =>
    (show Calls Try.prog 15 #[.slice (some ⟨w.heap.size + 1 + 1 + 1, 0, none⟩) 3 3] W (OfD W (awE w.heap.size)) from wd_Of W (some ⟨w.heap.size + 1 + 1 + 1, 0, none⟩) 3 (awE w.heap.size) ⟨Sl.new1 B3 3 3 rfl (by decide), awE_in B0 B1 B2⟩ (nmE_aw _) (by simp [awE]) (awE_few _)))
  unfold OfD at HO
  rw [awW_of] at HO
  obtain ⟨wx, hwx⟩ := awW_put
  go_enter Try.func8, Try.ntmps8
  go_wp2_with fail
  refine (HO.out _ ?_ ?_ ?_ ?_).mono ?_
  · exact (((Blk.new _ _ _).alloc _).alloc _).alloc _
  · exact ((Blk.new_eq (by simp)).alloc _).alloc _
  · exact (Blk.new_eq (by simp)).alloc _
  · exact Blk.new_eq (by simp)
  rintro e w1 ⟨A, c, qs, rfl, hqs, hfr, hf⟩
  obtain ⟨p, q, rfl, hp, hq⟩ := aw_pts hqs
  have HF := Lib.hid (((((Fr.refl Nob w).alloc _).alloc _).alloc _).alloc _ |>.call hf (fun _ h _ => h))
  have hnm : NmW [p, q] := by
    intro r hr x hx
    have h1 : r.pt ∈ awW := by rw [← hqs]; exact List.mem_map.2 ⟨r, hr, rfl⟩
    simp [awW, Pn.pt] at h1
    rcases h1 with ⟨_, h1⟩ | ⟨_, h1⟩
    · rw [h1] at hx; simp at hx; subst hx; decide
    · rw [h1] at hx; simp at hx; rcases hx with rfl | rfl <;> decide
  have hpl : ∀ r ∈ [p, q], r.l.length ≤ 900 := by
    intro r hr
    have h1 : r.pt ∈ awW := by rw [← hqs]; exact List.mem_map.2 ⟨r, hr, rfl⟩
    simp [awW, Pn.pt] at h1
    rcases h1 with ⟨_, h1⟩ | ⟨_, h1⟩ <;> (rw [h1]; simp)
  have HPU := Lib.hid (show Calls Try.prog 10 #[.slice A 2 c, .int .i64 4, .slice none 0 0] w1 (PutR w1 (wx, 1, true)) by
    have := wd_Put w1 A c [p, q] 4 none 0 [] hfr.wsl hnm (by simp) hpl (Sl.none_ _ _) (fun x hx => by cases hx) (by simp)
    rwa [hqs, hwx] at this)
  have HRI := Lib.hid (fun X (hf : Fr Nob w1 X) => (show Calls Try.prog 14 #[.slice A 2 c] X fun e w' => e = .returned (.bool true) ∧ Fr Nob X w' by
    have := wd_Right X A c [p, q] (hfr.wsl.pure hf) hnm (by simp)
    rwa [hqs, (awW_is 0).right] at this))
  have HFM := Lib.hid (fun X (hf : Fr Nob w1 X) => (show Calls Try.prog 18 #[.slice A 2 c, .int .i64 4] X fun e w' => e = .returned (.int .i64 1) ∧ Fr Nob X w' by
    have := wd_From X A c [p, q] 4 (hfr.wsl.pure hf) hnm (by simp)
    rwa [hqs, awW_from] at this))
  have HSA := Lib.hid (fun X (hf : Fr Nob w1 X) => (show Calls Try.prog 20 #[.slice A 2 c, .slice A 2 c] X fun e w' => e = .returned (.bool true) ∧ Fr Nob X w' by
    have := wd_Same X A c [p, q] A c [p, q] (hfr.wsl.pure hf) (hfr.wsl.pure hf) (by simp)
    rwa [show sameW (pts [p, q]) (pts [p, q]) = true by unfold sameW; simp] at this))
  obtain ⟨b, off, hA, hb, d0, d1⟩ := hfr.wsl.at_ (k := 0) (by simp)
  obtain ⟨b2, off2, hA2, _, e0, e1⟩ := hfr.wsl.at_ (k := 1) (by simp)
  rw [hA] at hA2
  obtain ⟨rfl, rfl⟩ : b = b2 ∧ off = off2 := by simpa using hA2
  simp only [List.getElem_cons_zero, List.getElem_cons_succ, hp, hq] at d0 d1 e0 e1
  subst hA
  simp only [Nat.zero_mul, Nat.add_zero, Nat.one_mul] at d0 e1
  clear hA2 hfr hf HO hnm hpl hqs hwx d1 e0
  go_wp2_with (first
    | ((go_at_call 10); (with_reducible refine (HPU.out).mono ?_); rintro e w2 ⟨A', c', qs', rfl, _, _, hf2⟩; have d02 := hf2.cell d0 (fun e => e); have e12 := hf2.cell e1 (fun e => e); have hb2 := Nat.lt_of_lt_of_le hb hf2.size; have HF2 := Lib.hid hf2; clear hf2)
    | ((go_at_call 14); (with_reducible refine (HRI.out _ HF2.out).mono ?_); rintro e w3 ⟨rfl, hf3⟩; have HF3 := Lib.hid (HF2.out.call hf3 (fun _ h _ => h)); clear hf3)
    | ((go_at_call 18); (with_reducible refine (HFM.out _ HF3.out).mono ?_); rintro e w4 ⟨rfl, hf4⟩; have HF4 := Lib.hid (HF3.out.call hf4 (fun _ h _ => h)); clear hf4)
    | ((go_at_call 20); (with_reducible refine (HSA.out _ HF4.out).mono ?_); rintro e w5 ⟨rfl, hf5⟩; have HF5 := Lib.hid (HF4.out.call hf5 (fun _ h _ => h)); clear hf5))
  go_ret
  exact ⟨rfl, HF.out.call HF5.out (fun _ h _ => h)⟩
end Go.Proofs.Ytckmmihbipmkcaa
