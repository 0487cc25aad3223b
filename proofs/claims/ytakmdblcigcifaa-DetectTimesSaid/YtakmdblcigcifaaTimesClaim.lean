/- DetectTimes is proved: for every input the law returns true, and each argument reads as it did. No condition. -/
import Derived.Test.YtakmdblcigcifaaDlaw2
namespace Go.Proofs.Ytakmdblcigcifaa
open Go.ChangeShapes Go.WideShapes Go.ChangeAt Go.RowKit

theorem own_knob : ownKnob Try.prog.godebug = none := by kernel_rfl
theorem laid_out : laidOutB Try.prog = true := by kernel_rfl
theorem wf_i64 {n : Int} (h : (Lit.int .i64 n).wf = true) : I64 n := by
  simp [Lit.wf, IntKind.min, IntKind.max, IntKind.signed, IntKind.bits] at h
  unfold I64; omega
theorem wf_u8 {n : Int} (h : (Lit.int .u8 n).wf = true) : 0 ≤ n ∧ n ≤ 255 := by
  simp [Lit.wf, IntKind.min, IntKind.max, IntKind.signed, IntKind.bits] at h
  omega

section
variable {H : Type} {enc : TypeId × Value → H} {w : World} {base : Nat} {spare : Nat → Bool} {held : Bool}
theorem open_act {n : Nat} {cs : List Value} {x : DataW H × List MemPlace} (h : DataW.trod enc Try.prog w base spare held n 43 cs = some x) : ∃ y : Act3, cs = actc y ∧ actok y := by
  obtain ⟨xs, m, rfl, _, hlen, hxs, hf⟩ := DataW.trod_struct Try.underlying43 h
  have hl : cs.length = 3 := hlen.trans (by kernel_rfl)
  match cs, hl with
  | [v0, v1, v2], _ =>
    have e0 := hf 0 _ rfl
    have e1 := hf 1 _ rfl
    have e2 := hf 2 _ rfl
    have hx : xs.length = 3 := hxs
    rw [List.getElem?_eq_getElem (by omega)] at e0 e1 e2
    obtain ⟨a, ha, _, wa⟩ := DataW.trod_int (k := .u8) (by kernel_rfl) e0
    obtain ⟨s, hs, _, ws⟩ := DataW.trod_int (k := .i64) (by kernel_rfl) e1
    obtain ⟨m, hm, _, wm⟩ := DataW.trod_int (k := .i64) (by kernel_rfl) e2
    have h0 : [v0] = [Value.int .u8 a] := ha
    have h1 : [v1] = [Value.int .i64 s] := hs
    have h2 : [v2] = [Value.int .i64 m] := hm
    simp only [List.cons.injEq, and_true] at h0 h1 h2
    subst h0 h1 h2
    exact ⟨⟨a, s, m⟩, rfl, wf_u8 wa, wf_i64 ws, wf_i64 wm⟩
theorem open_acts {r : Reach} {b0 : Nat} {v : Value} {d : DataW H} {ps : List MemPlace} (hval : Value.okWide Try.prog w r b0 22 v) (h : DataW.Trod enc Try.prog w base spare held 22 v d ps) :
    ∃ A cap l, v = .slice A (List.length l) cap ∧ Sl w 3 A l.length cap (l.flatMap actc) ∧ ∀ y ∈ l, actok y := by
  obtain ⟨fuel, hf⟩ := h
  obtain ⟨a0, len0, cap0, rfl⟩ := okWide_slice Try.underlying22 hval
  obtain ⟨A, cap, l, hcs, hsl, hg⟩ := open_rows actc actok 3 (by decide) actc_len Try.underlying22 (by kernel_rfl) (fun n cs x hx => open_act hx) hf
  have : Value.slice a0 len0 cap0 = .slice A l.length cap := by simpa [Value.cells] using hcs
  exact ⟨A, cap, l, this, hsl, hg⟩
end

theorem times_contract (H : Type) (enc : TypeId × Value → H) (W : World) (base : Nat) (args : Array Value) (ds gs : List (DataW H)) (before : List MemPlace)
    (hval : ∀ (j : Nat) t v, Try.f4.params[j]? = some t → args[j]? = some v → Value.okWide Try.prog W .any base t v)
    (hW : DataW.Whole enc Try.prog Try.f4.params.toList Rows.detectTimesSpec.vars false W args.toList ds gs before) :
    Calls Try.prog 4 args W fun e W' => ∃ v, e = .returned v ∧ Rows.detectTimesSpec.post enc Try.prog Try.f4 false true false false W args v W' := by
  have hW' := hW
  obtain ⟨p, q, hA0, hV, rfl, hfz, hnd⟩ := hW
  have hA : DataW.TrodAll enc Try.prog W 0 (fun _ => true) true Try.f4.params.toList args.toList ds p := hA0
  rw [Try.params4] at hA hval
  obtain ⟨v0, v1, v2, d0, d1, d2, p0, p1, p2, rfl, rfl, rfl, h0, h1, h2⟩ := trodAll_three hA
  obtain ⟨n, rfl, rfl, rfl, wn⟩ := open_int Try.underlying3 (hval 0 3 v0 rfl rfl) h0
  obtain ⟨to, rfl, rfl, rfl, wt⟩ := open_int Try.underlying2 (hval 1 2 v1 rfl rfl) h1
  obtain ⟨A, cap, l, rfl, hsl, hok⟩ := open_acts (hval 2 22 v2 rfl rfl) h2
  obtain ⟨rfl, rfl⟩ := trodVars_none hV
  clear hA0
  refine (law_Times W n to (wf_i64 wn) (wf_i64 wt) A cap l hsl hok).mono fun e W' ⟨he, hb⟩ => ?_
  exact ⟨_, he, law_post laid_out (by kernel_rfl) rfl (by kernel_rfl) Try.underlying4 hW' rfl rfl rfl hb.below⟩

set_option maxRecDepth 100000 in
theorem times_lifted (os : Os) (started : os.Started) (H : Type) (enc : TypeId × Value → H) :
    ReturnsInHanded {} Try.checked os 4 .any (Rows.detectTimesSpec.pre6 enc Try.prog Try.f4 Rows.detectTimesRow.domain false) (Rows.detectTimesSpec.post enc Try.prog Try.f4 false true false false) := by
  refine returnsInHanded_of_change (C := Try.checked) own_knob started (by kernel_rfl) Try.func4
    (ChangeSpec.witness6 (enc := enc) (C := Try.checked) false ⟨#[], #[.int .i64 0, .int .i64 0, .slice none 0 0], []⟩ 8 (by kernel_rfl) (by kernel_rfl) (by kernel_rfl) (by kernel_rfl)) ?_
  intro W base args ds gs before hval hW _ _
  exact times_contract H enc W base args ds gs before hval hW

theorem times_holds : Rows.DetectTimesSaid :=
  OpenClaim.holds_of_wide 4 Try.f4 rfl rfl rfl rfl rfl rfl rfl ⟨rfl, rfl, rfl, rfl, rfl⟩ rfl rfl rfl rfl rfl (by kernel_rfl) Try.func4 (by kernel_rfl)
    (of_decide_eq_true (by kernel_rfl)) (by unfold Func.isWrapper; first | (rw [if_pos (by decide +kernel)]; kernel_rfl) | (rw [if_neg (by decide +kernel)]; exact ⟨rfl, rfl⟩))
    (fun os started H enc _ => times_lifted os started H enc)
end Go.Proofs.Ytakmdblcigcifaa
