/- label.Of: the propositions sorted, each once. -/
import Derived.Test.YtckmmihbipmkcaaLof4
namespace Go.Proofs.Ytckmmihbipmkcaa
open Go.RowKit Go.Sort Go.Shelf Go.Lib

/-- A plain block. -/
def Pb (w : World) (b : Nat) : Prop := ∃ t cs, Blk w b t cs
section
variable {w w' : World} {b : Nat}
theorem Pb.lt (h : Pb w b) : b < w.heap.size := let ⟨_, _, h⟩ := h; h.lt
theorem Pb.fr {S : Nat → Prop} (h : Pb w b) (hf : Fr S w w') (hb : ¬ S b) : Pb w' b := let ⟨t, cs, h⟩ := h; ⟨t, cs, h.fr hf hb⟩
theorem Pb.set (h : Pb w b) (g i : Nat) (v : Value) : Pb (w.setCell ⟨g, i, none⟩ v) b := by
  obtain ⟨t, cs, h⟩ := h
  by_cases e : b = g
  · subst e; exact ⟨t, _, h.set i v⟩
  · exact ⟨t, cs, h.far (p := ⟨g, i, none⟩) e v⟩
theorem Pb.alloc (h : Pb w b) (o : Obj) : Pb (w.alloc o) b := let ⟨t, cs, h⟩ := h; ⟨t, cs, h.alloc o⟩
theorem Pb.free (h : Pb w b) (i : Nat) : w.frozen? ⟨b, i, none⟩ = false := let ⟨_, _, h⟩ := h; h.frozen i
theorem own_pb {base e size n c : Nat} {A : Option Addr} {xs : List Value} (h : w.ownsRow base e size (.slice A n c) n xs) : ∀ g off, A = some ⟨g, off, none⟩ → Pb w g := fun g off e => by
  subst e
  rcases h.2 with ⟨hv, _⟩ | ⟨g', cap, cur, hv, _, hcur, _⟩
  · simp at hv
  · simp only [Value.slice.injEq, Option.some.injEq, Addr.mk.injEq, and_true] at hv
    obtain ⟨⟨rfl, _⟩, _⟩ := hv
    exact ⟨_, cur, hcur⟩
end
theorem lab_Compact_nil (w : World) : Calls Try.prog 42 #[.slice none 0 0] w fun e w' => e = .returned (.slice none 0 0) ∧ w = w' := by
  go_enter Try.func42, Try.ntmps42
  go_wp2_with fail
  go_ret
  exact ⟨rfl, rfl⟩
theorem lab_sort_nil (w : World) (fv : Value) : Calls Try.prog 41 #[.slice none 0 0, fv] w fun e w' => e = .returned (.tuple #[]) ∧ w' = w := by
  have := AnyF.slices_SortFunc_none { Try.sortPP with } none 0 fv w
  exact this

theorem dd_len (l : List PP) : (dd l).length ≤ l.length := by
  unfold dd compactUpTo
  rw [List.length_map]
  exact Nat.le_trans (List.length_filter_le _ _) (by simp)
def lof (l : List PP) : List PP := dd (msort l)
theorem lof_nil : lof [] = [] := by unfold lof msort dd; simp [compactUpTo]

theorem lab_Of (w : World) (A : Option Addr) (c : Nat) (l : List PP) (hl : Sl w 2 A l.length c (l.flatMap pcs)) (h63 : l.length ≤ 10000) :
    Calls Try.prog 24 #[.slice A l.length c] w fun e w' => ∃ A' c', e = .returned (.slice A' (lof l).length c') ∧ Sl w' 2 A' (lof l).length c' ((lof l).flatMap pcs) ∧ Fr Nob w w' ∧ (∀ g off, A' = some ⟨g, off, none⟩ → w.heap.size ≤ g ∧ Pb w' g) := by
  have HL := Lib.hid hl
  clear hl
  go_enter Try.func24, Try.ntmps24
  go_wp2_with fail
  refine (lab_Clone _ A c l HL.out h63).mono ?_
  rintro e w1 ⟨A1, c1, rfl, hown, hf1⟩
  have HF1 := Lib.hid hf1
  clear hf1
  rcases hown.2 with ⟨hv, h0⟩ | ⟨g, cap, cur, hv, hge, hcur, hle, hmx, hcs, htake⟩
  · simp only [Value.slice.injEq] at hv
    obtain ⟨rfl, _, rfl⟩ := hv
    have h0' : l = [] := List.eq_nil_of_length_eq_zero h0
    subst h0'
    clear hown h0
    go_wp2_with fail
    refine (lab_sort_nil _ _).mono ?_
    rintro e w2 ⟨rfl, rfl⟩
    go_wp2_with fail
    refine (lab_Compact_nil _).mono ?_
    rintro e w3 ⟨rfl, rfl⟩
    go_wp2_with fail
    go_ret
    rw [lof_nil]
    exact ⟨none, 0, rfl, Sl.none_ _ _, HF1.out, fun g off e => by cases e⟩
  · simp only [Value.slice.injEq] at hv
    obtain ⟨rfl, _, rfl⟩ := hv
    have HB := Lib.hid (show Blk w1 g 51 cur from hcur)
    have HH := Lib.hid (show Heads cur l from htake)
    unfold maxLen at hmx
    have hsz : l.length * 2 ≤ cur.size := by omega
    have HS := Lib.hid hsz
    clear hown hcur htake hsz
    go_wp2_with fail
    refine (lab_sort HB.out HH.out HS.out (by omega)).mono ?_
    rintro e w2 ⟨rfl, hf2, cur2, hb2, hs2, hh2⟩
    have HF2 := Lib.hid hf2
    have HB2 := Lib.hid hb2
    have HH2 := Lib.hid hh2
    have hml := msort_len l
    clear hf2 hb2 hh2
    have hcon := lab_Compact w2 g 51 c1 cur2 (msort l) HB2.out HH2.out (by have := HS.out; omega) (by omega) (by omega) (by omega)
    rw [hml] at hcon
    have HCON := Lib.hid hcon
    clear hcon hml
    go_wp2_with fail
    refine HCON.out.mono ?_
    rintro e w3 ⟨rfl, hf3, cur3, hb3, hs3, hh3⟩
    have HF3 := Lib.hid hf3
    have HB3 := Lib.hid hb3
    have HH3 := Lib.hid hh3
    clear hf3 hb3 hh3
    go_wp2_with fail
    go_ret
    have hd : (dd (msort l)).length ≤ l.length := by have := dd_len (msort l); rw [msort_len] at this; exact this
    refine ⟨some ⟨g, 0, none⟩, c1, rfl, ⟨flat_len pcs 2 pcs_len _, by unfold lof; omega, by unfold maxLen; omega, (fun e => by cases e), fun _ => ⟨g, 0, rfl, HB3.out.lt, fun j u hu => ?_⟩⟩, ?_, fun g' off e => by cases e; exact ⟨hge, _, _, HB3.out⟩⟩
    · have hj : j < (dd (msort l)).length * 2 := by rw [← flat_len pcs 2 pcs_len]; exact (List.getElem?_eq_some_iff.1 hu).1
      rw [Nat.zero_add, HB3.out.cell, HH3.out.get hj]
      exact hu
    · exact (HF1.out.call HF2.out (fun i hi hlt => by unfold Only at hi; omega)).call HF3.out (fun i hi hlt => by unfold Only at hi; omega)
end Go.Proofs.Ytckmmihbipmkcaa
