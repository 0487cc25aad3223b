/- What the rows' listed variables give the formula laws. -/
import Derived.Test.YtoegdmpmagbaiaaDoorFlaws
import Derived.Test.YtoegdmpmagbaiaaDoorFclose
import Derived.LaidMore
import Derived.MakeChecks
import Derived.LaidHandle
import Derived.Stop.LaidErr
import Derived.Stop.Joined
import Derived.OpenShut
import Derived.Lib.LaidTab
namespace Go.Proofs.YtoegdmpmagbaiaaDoor
open Go.ChangeShapes Go.WideShapes Go.ChangeAt Go.ChangeMaps Go.RowKit

def laids : List (String × DataW Unit) := [("math/bits.deBruijn32tab", Rows.laid_math_bits_deBruijn32tab), ("math/bits.deBruijn64tab", Rows.laid_math_bits_deBruijn64tab), ("internal/strconv.uint64pow10", Rows.laid_internal_strconv_uint64pow10), ("lookout/formula.shapes", Rows.laid_lookout_formula_shapes)]
theorem door_met (os : Os) (args : Array Value) : laidMetH Tryd.prog laids ((World.doorLaid Tryd.prog 400 os).forCall (fun _ _ => 0) ⟨#[], args, []⟩).memory :=
  laidMetH_of_parts3 (fuel := 8) (laidMet_of_run' 8 (by kernel_rfl) (by kernel_rfl)) (by kernel_rfl) (by kernel_rfl)
theorem tb_data : Rows.laid_internal_strconv_uint64pow10 = Lib.tabData (H := Unit) .u64 Lib.pow10Tab := by kernel_rfl
theorem tb_type : (Tryd.prog.globals[1]?).map (·.type) = some 161 := by kernel_rfl
theorem tb_of_laid {w : World} (h : laidMetH Tryd.prog laids w) : TbVar w := by
  rw [MakeChecks.laidMetH_plain _ _ _ (by kernel_rfl)] at h
  have h2 := h.tail.tail
  rw [tb_data] at h2
  exact Lib.tabIs_of_head tb_name tb_type Tryd.underlying161 Tryd.underlying104 (by kernel_rfl) (by kernel_rfl) h2
section
variable {H : Type} {enc : TypeId × Value → H} {w : World} {base : Nat} {sp : Nat → Bool} {held : Bool}
theorem trod_arr {fuel : Nat} {t e : TypeId} {n : Nat} {cs : List Value} {ds : List (DataW H)} {p : List MemPlace} (ht : Tryd.prog.underlying t = some (.array n e)) (h : DataW.trod enc Tryd.prog w base sp held fuel t cs = some (DataW.agg ds, p)) :
    cs.length = Tryd.prog.cellsOf t ∧ ∃ f', ∀ i d, ds[i]? = some d → ∃ q, DataW.trod enc Tryd.prog w base sp held f' e ((cs.drop (i * Tryd.prog.cellsOf e)).take (Tryd.prog.cellsOf e)) = some (d, q) := by
  cases fuel with
  | zero => simp [DataW.trod] at h
  | succ fuel =>
    simp only [DataW.trod, ht] at h
    split at h
    · rename_i hl
      obtain ⟨xs, hm, hx⟩ := Option.map_eq_some_iff.1 h
      have hxs : xs.map (·.1) = ds := by
        have := congrArg Prod.fst hx
        simpa using this
      refine ⟨by simpa using hl, fuel, fun i d hd => ?_⟩
      have hxl := Lib.mapM_length hm
      rw [← hxs, List.getElem?_map, Option.map_eq_some_iff] at hd
      obtain ⟨x, hx1, rfl⟩ := hd
      have hi : i < n := by
        have := (List.getElem?_eq_some_iff.1 hx1).1
        rw [hxl] at this
        simpa using this
      obtain ⟨b, hb, hf⟩ := Lib.mapM_at hm i i (by simp [hi])
      rw [hb] at hx1
      simp only [Option.some.injEq] at hx1
      subst hx1
      exact ⟨b.2, hf⟩
    · cases h
def shapeD (r : Int × Int × Int × Int) : DataW H := .agg [.lit (.int .i64 r.1), .lit (.int .i64 r.2.1), .agg [.lit (.int .i64 r.2.2.1), .lit (.int .i64 r.2.2.2)]]
set_option maxRecDepth 100000 in
theorem shape_read {fuel : Nat} {cs : List Value} {r : Int × Int × Int × Int} {p : List MemPlace} (h : DataW.trod enc Tryd.prog w base sp held fuel 134 cs = some (shapeD r, p)) :
    cs = [.int .i64 r.1, .int .i64 r.2.1, .int .i64 r.2.2.1, .int .i64 r.2.2.2] := by
  obtain ⟨xs, m, _, hx, hlen, hxs, hf⟩ := DataW.trod_struct Tryd.underlying134 h
  have hl : cs.length = 4 := hlen.trans (by kernel_rfl)
  match cs, hl with
  | [v0, v1, v2, v3], _ =>
    have hxl : xs.length = 3 := hxs
    have e0 := hf 0 _ rfl
    have e1 := hf 1 _ rfl
    have e2 := hf 2 _ rfl
    rw [List.getElem?_eq_getElem (by omega)] at e0 e1 e2
    match xs, hxl with
    | [x0, x1, x2], _ =>
      simp only [shapeD, List.map_cons, List.map_nil, Prod.mk.injEq, DataW.agg.injEq, List.cons.injEq, and_true] at hx
      obtain ⟨⟨h0, h1, h2⟩, _⟩ := hx
      obtain ⟨a, ha, ga, _⟩ := DataW.trod_int (k := .i64) (by kernel_rfl) e0
      obtain ⟨b, hb, gb, _⟩ := DataW.trod_int (k := .i64) (by kernel_rfl) e1
      have e2' : DataW.trod enc Tryd.prog w base sp held m 132 [v2, v3] = some x2 := e2
      have e3 : DataW.trod enc Tryd.prog w base sp held m 132 [v2, v3] = some (.agg [.lit (.int .i64 r.2.2.1), .lit (.int .i64 r.2.2.2)], x2.2) := by rw [e2', h2]
      obtain ⟨_, f', hg⟩ := trod_arr Tryd.underlying132 e3
      rw [show Tryd.prog.cellsOf 3 = 1 by kernel_rfl] at hg
      obtain ⟨q0, g0⟩ := hg 0 _ rfl
      obtain ⟨q1, g1⟩ := hg 1 _ rfl
      obtain ⟨c, hc, gc, _⟩ := DataW.trod_int (k := .i64) Tryd.underlying3 g0
      obtain ⟨d, hd, gd, _⟩ := DataW.trod_int (k := .i64) Tryd.underlying3 g1
      have a1 : a = r.1 := by rw [show x0.1 = .lit (.int .i64 a) from congrArg Prod.fst ga] at h0; simp at h0; exact h0.symm
      have b1 : b = r.2.1 := by rw [show x1.1 = .lit (.int .i64 b) from congrArg Prod.fst gb] at h1; simp at h1; exact h1.symm
      have c1 : c = r.2.2.1 := by simp only [Prod.mk.injEq, DataW.lit.injEq, Lit.int.injEq, true_and] at gc; exact gc.1.symm
      have d1 : d = r.2.2.2 := by simp only [Prod.mk.injEq, DataW.lit.injEq, Lit.int.injEq, true_and] at gd; exact gd.1.symm
      subst a1 b1 c1 d1
      have ha' : [v0] = [Value.int .i64 r.1] := ha
      have hb' : [v1] = [Value.int .i64 r.2.1] := hb
      have hc' : [v2] = [Value.int .i64 r.2.2.1] := hc
      have hd' : [v3] = [Value.int .i64 r.2.2.2] := hd
      simp only [List.cons.injEq, and_true] at ha' hb' hc' hd'
      rw [ha', hb', hc', hd']
end
theorem sh_data : Rows.laid_lookout_formula_shapes (H := Unit) = .agg (shapeL.map shapeD) := by kernel_rfl
theorem sh_name : Tryd.prog.globalNamed "lookout/formula.shapes" = some 0 := by kernel_rfl
theorem sh_type : (Tryd.prog.globals[0]?).map (·.type) = some 135 := by kernel_rfl
set_option maxRecDepth 100000 in
theorem sh_of_laid {w : World} (h : laidMetH Tryd.prog laids w) : ShVar w := by
  rw [MakeChecks.laidMetH_plain _ _ _ (by kernel_rfl)] at h
  obtain ⟨ps, ⟨g', t', cs, fuel, p, q, hg', ht', hvar, hd, _, _⟩, _⟩ := h.tail.tail.tail
  obtain rfl := Option.some.inj (sh_name.symm.trans hg')
  obtain rfl := Option.some.inj (sh_type.symm.trans ht')
  rw [sh_data] at hd
  obtain ⟨hl, f', hg⟩ := trod_arr Tryd.underlying135 hd
  rw [show Tryd.prog.cellsOf 134 = 4 by kernel_rfl] at hg
  intro k hk
  obtain ⟨q, hq⟩ := hg k (shapeD shapeL[k]) (by rw [List.getElem?_map, List.getElem?_eq_getElem hk]; rfl)
  have hr := shape_read hq
  have hc : ∀ j v, [Value.int .i64 shapeL[k].1, .int .i64 shapeL[k].2.1, .int .i64 shapeL[k].2.2.1, .int .i64 shapeL[k].2.2.2][j]? = some v → w.cell? ⟨0, k * 4 + j, none⟩ = some v := fun j v hv => by
    rw [World.var?_cell sh_name hvar]
    rw [← hr, List.getElem?_take] at hv
    split at hv
    · rw [List.getElem?_drop] at hv; simpa using hv
    · cases hv
  exact ⟨hc 0 _ rfl, hc 1 _ rfl, hc 2 _ rfl, hc 3 _ rfl⟩
end Go.Proofs.YtoegdmpmagbaiaaDoor
