/- The statements of parse: awake. -/
import Derived.Test.YtfebkjoohnlifaaDoorQ10
namespace Go.Proofs.YtfebkjoohnlifaaDoor
open Go.RowKit Go.Shelf
attribute [local go_sem] Instr.field asAgg

def aB1 : List UInt8 := [97, 32, 45, 62, 32, 98, 32, 45, 62, 32, 99]
def aB2 : List UInt8 := [97, 32, 98]
def aB3 : List UInt8 := [71, 91, 51, 44, 50, 93, 32, 97]
def nmN (c : UInt8) : Nd := ⟨3, ⟨#[c]⟩, 0, 0, 0, 0⟩
theorem aP1 : ParseIs aB1 (.good (nd1 7 0 0) (two (nmN 97) .nil (nd1 7 0 0) (two (nmN 98) .nil (nmN 99) .nil))) := by
  have h : readT aB1 = ((0, 0), [(⟨1, [97], 0⟩, 0), (⟨3, [45, 62], 0⟩, 2), (⟨1, [98], 0⟩, 5), (⟨3, [45, 62], 0⟩, 7), (⟨1, [99], 0⟩, 10), (tk0, 11)]) := by kernel_rfl
  have hr : gP 20 (.lev 1 [⟨1, [97], 0⟩, ⟨3, [45, 62], 0⟩, ⟨1, [98], 0⟩, ⟨3, [45, 62], 0⟩, ⟨1, [99], 0⟩, tk0]) = .ok (nd1 7 0 0) (two (nmN 97) .nil (nd1 7 0 0) (two (nmN 98) .nil (nmN 99) .nil)) [tk0] := by kernel_rfl
  refine .good (k := 5) (by rw [h]) (by rw [h]; decide) ?_ ?_ (by kernel_rfl)
  · have := Reads.of_fuel (j := .lev 1 [⟨1, [97], 0⟩, ⟨3, [45, 62], 0⟩, ⟨1, [98], 0⟩, ⟨3, [45, 62], 0⟩, ⟨1, [99], 0⟩, tk0]) (n := 20) (by rw [hr]; simp)
    rw [hr] at this
    rw [h]; exact this
  · simp only [h]; rfl
theorem aP2 : ParseIs aB2 (.bad 20 2) := by
  have h : readT aB2 = ((0, 0), [(⟨1, [97], 0⟩, 0), (⟨1, [98], 0⟩, 2), (tk0, 3)]) := by kernel_rfl
  have hr : gP 20 (.lev 1 [⟨1, [97], 0⟩, ⟨1, [98], 0⟩, tk0]) = .ok (nmN 97) .nil [⟨1, [98], 0⟩, tk0] := by kernel_rfl
  have h2 : ParseIs aB2 (.bad 20 (readT aB2).2[1].2) := by
    refine .more (k := 1) (x := nmN 97) (ks := .nil) (by rw [h]) (by rw [h]; decide) ?_ ?_
    · have := Reads.of_fuel (j := .lev 1 [⟨1, [97], 0⟩, ⟨1, [98], 0⟩, tk0]) (n := 20) (by rw [hr]; simp)
      rw [hr] at this
      rw [h]; exact this
    · have e1 : ∀ hk : 1 < (readT aB2).2.length, (readT aB2).2[1].1.kind = 1 := by rw [h]; intro _; rfl
      rw [e1]; decide
  have e2 : ∀ hk : 1 < (readT aB2).2.length, (readT aB2).2[1].2 = 2 := by rw [h]; intro _; rfl
  rw [e2] at h2; exact h2
theorem aP3 : ParseIs aB3 (.bad 24 4) := by
  have h : readT aB3 = ((0, 0), [(⟨3, [71], 0⟩, 0), (⟨3, [91], 0⟩, 1), (⟨2, [51], 3⟩, 2), (⟨3, [44], 0⟩, 3), (⟨2, [50], 2⟩, 4), (⟨3, [93], 0⟩, 5), (⟨1, [97], 0⟩, 7), (tk0, 8)]) := by kernel_rfl
  have hr : gP 20 (.lev 1 [⟨3, [71], 0⟩, ⟨3, [91], 0⟩, ⟨2, [51], 3⟩, ⟨3, [44], 0⟩, ⟨2, [50], 2⟩, ⟨3, [93], 0⟩, ⟨1, [97], 0⟩, tk0]) = .bad 24 [⟨2, [50], 2⟩, ⟨3, [93], 0⟩, ⟨1, [97], 0⟩, tk0] := by kernel_rfl
  have h2 : ParseIs aB3 (.bad 24 (readT aB3).2[4].2) := by
    refine .wrong (k := 4) (by rw [h]) (by rw [h]; decide) ?_
    have := Reads.of_fuel (j := .lev 1 [⟨3, [71], 0⟩, ⟨3, [91], 0⟩, ⟨2, [51], 3⟩, ⟨3, [44], 0⟩, ⟨2, [50], 2⟩, ⟨3, [93], 0⟩, ⟨1, [97], 0⟩, tk0]) (n := 20) (by rw [hr]; simp)
    rw [hr] at this
    rw [h]; exact this
  have e2 : ∀ hk : 4 < (readT aB3).2.length, (readT aB3).2[4].2 = 4 := by rw [h]; intro _; rfl
  rw [e2] at h2; exact h2
theorem aw_kid {p : Nat → Prop} {w : World} {B : Option Addr} {d : Nat} {f : Fo} {x y : Nd} {ks js : Tr} (h : FoSlP p w B d f) (ht : f.tr = two x ks y js) : f.len = 2 ∧ ∃ b off, B = some ⟨b, off, none⟩ ∧ w.cell? ⟨b, off + 7, none⟩ = some (.int .i64 y.op) := by
  cases f with
  | nil => cases ht
  | cons x1 A1 c1 k1 f =>
    cases f with
    | nil => simp [Fo.tr, two] at ht
    | cons x2 A2 c2 k2 f =>
      simp only [Fo.tr, two, Tr.cons.injEq] at ht
      obtain ⟨_, _, rfl, _, h3⟩ := ht
      cases f with
      | cons => simp [Fo.tr] at h3
      | nil =>
        obtain ⟨b, off, rfl⟩ := h.some_ (by simp [Fo.len])
        have h4 := h.at_ b off rfl
        exact ⟨rfl, b, off, rfl, by have := h4.2.2.2.2.2.2.2.2.1 0 (.int .i64 x2.op) rfl; simpa using this⟩
set_option maxRecDepth 100000 in
set_option maxHeartbeats 4000000 in
theorem law10_awake (W : World) (hv : ErrVar W) (hsh : ShVar W) : Calls Tryd.prog 15 #[] W fun en w' => en = .returned (.bool true) ∧ Fr Nob W w' := by
  have H1 := Lib.hid (fun X (hf : Fr Nob W X) => prg_Parse X ⟨#[97, 32, 45, 62, 32, 98, 32, 45, 62, 32, 99]⟩ (by decide) (hv.fr hf) (hsh.fr hf) _ aP1)
  have H2 := Lib.hid (fun X (hf : Fr Nob W X) => prg_Parse X ⟨#[97, 32, 98]⟩ (by decide) (hv.fr hf) (hsh.fr hf) _ aP2)
  have H3 := Lib.hid (fun X (hf : Fr Nob W X) => prg_Parse X ⟨#[71, 91, 51, 44, 50, 93, 32, 97]⟩ (by decide) (hv.fr hf) (hsh.fr hf) _ aP3)
  unfold ParseR fval nd1 at H1
  unfold ParseR fval at H2 H3
  clear hv hsh
  go_enter Tryd.func15, Tryd.ntmps15
  go_wp2_with (first
    | ((go_at_call 16); (with_reducible refine (H1.out _ (Fr.refl _ _)).mono ?_); rintro en w1 ⟨B, d, f, rfl, htr, hsl, hf⟩; have hk := aw_kid hsl htr; obtain ⟨hl, b, off, rfl, hc⟩ := hk; rw [hl]; have HF := Lib.hid hf; have HX := Lib.hid (Blk.new w1 28 #[.int .i64 7, .string ⟨#[]⟩, .int .i64 0, .int .i64 0, .int .i64 0, .int .i64 0, .slice (some ⟨b, off, none⟩) 2 d]); clear hsl htr hf hl)
    | ((go_at_call 16); (with_reducible refine (H2.out _ (HF.out.alloc _)).mono ?_); rintro en w2 ⟨rfl, hf⟩; replace HX := Lib.hid (HX.out.fr hf (fun e => e)); replace HF := Lib.hid ((HF.out.alloc _).call hf (fun _ h _ => h)); replace hc := hf.cell (((Fr.refl Nob _).alloc _).cell hc (fun e => e)) (fun e => e); clear hf)
    | ((go_at_call 16); (with_reducible refine (H3.out _ (HF.out.alloc _)).mono ?_); rintro en w3 ⟨rfl, hf⟩; replace HX := Lib.hid ((HX.out.alloc _).fr hf (fun e => e)); replace HF := Lib.hid ((HF.out.alloc _).call hf (fun _ h _ => h)); replace hc := hf.cell (((Fr.refl Nob _).alloc _).cell hc (fun e => e)) (fun e => e); have xc := HX.out.cell; have xl := HX.out.lt; have hb := World.block_lt_of_cell? _ _ hc; clear hf))
  go_ret
  exact ⟨rfl, HF.out.alloc _⟩
end Go.Proofs.YtfebkjoohnlifaaDoor
