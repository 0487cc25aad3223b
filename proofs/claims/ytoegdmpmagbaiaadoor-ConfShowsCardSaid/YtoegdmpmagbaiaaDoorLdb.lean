/- A whole box is read, or handed out. -/
import Derived.Test.YtoegdmpmagbaiaaDoorBox
import Derived.Deep.RegionHeld3
namespace Go.Proofs.YtoegdmpmagbaiaaDoor
open Go.RowKit

section
variable {P : Program} {ops : Array Oper} {rest : List Oper} {o : Oper} {a : Act} {w : World} {Q : Exit → Act → World → Prop}
/-- A whole box is read. -/
theorem wpList_ldBox (hgd : o.guard = none) {ty : TypeId} {x : Operand} (ho : o.op = .load ty x) {g t : Nat} {arr : Array Value} (hx : a.eval x = .pointer (some ⟨g, 0, none⟩))
    (hu : ∃ d, (P.underlying ty = some d) ∧ d.isRow = true) (hi : (P.info? ty).map (·.size) = some arr.size) (hB : Blk w g t arr)
    (h : wpList P ops Q rest (a.put o.dst (.agg arr)) w) : wpList P ops Q (o :: rest) a w := by
  obtain ⟨d, h1, h2⟩ := hu
  exact wpList_load_row hgd ty x ho g hx t arr (0, 0) d hB h1 (by cases d <;> simp_all) hi h
theorem wp_ldBox {K : Act → World → Prop} {ty : TypeId} {x : Operand} (ho : o.op = .load ty x) {g t : Nat} {arr : Array Value} (hx : a.eval x = .pointer (some ⟨g, 0, none⟩))
    (hu : ∃ d, (P.underlying ty = some d) ∧ d.isRow = true) (hi : (P.info? ty).map (·.size) = some arr.size) (hB : Blk w g t arr)
    (h : K (a.put o.dst (.agg arr)) w) : o.wp P a w K Q := by
  obtain ⟨d, h1, h2⟩ := hu
  exact wp_load_row ty x ho g hx t arr (0, 0) d hB h1 (by cases d <;> simp_all) hi h
theorem run_ldBox {ty : TypeId} {g t : Nat} {arr : Array Value} (hu : ∃ d, (P.underlying ty = some d) ∧ d.isRow = true) (hi : (P.info? ty).map (·.size) = some arr.size) (hB : Blk w g t arr) :
    (loadVar ty ⟨g, 0, none⟩).run P w = .ok (.agg arr) w := by
  obtain ⟨d, h1, h2⟩ := hu
  exact run_loadVar_row w g t ty arr (0, 0) d hB h1 (by cases d <;> simp_all) hi
/-- A box alone is returned. -/
theorem ret_box0 {fn : Func} {p : Tmp} {ty : TypeId} (h : fn.results = #[.cell p ty]) {tmps : Array Value} {g t : Nat} {arr : Array Value} (hp : tmps.getD p undef = .pointer (some ⟨g, 0, none⟩))
    (hu : ∃ d, (P.underlying ty = some d) ∧ d.isRow = true) (hi : (P.info? ty).map (·.size) = some arr.size) (hB : Blk w g t arr) :
    (results fn tmps).run P w = .ok (.agg arr) w := by
  have hp' : tmps[p]?.getD undef = .pointer (some ⟨g, 0, none⟩) := by simpa using hp
  simp [results, h, hp', asAddr, run_ldBox hu hi hB]
/-- A box and what follows it are returned. -/
theorem ret_box1 {fn : Func} {p u : Tmp} {ty : TypeId} (h : fn.results = #[.cell p ty, .tmp u]) {tmps : Array Value} {g t : Nat} {arr : Array Value} (hp : tmps.getD p undef = .pointer (some ⟨g, 0, none⟩))
    (hu : ∃ d, (P.underlying ty = some d) ∧ d.isRow = true) (hi : (P.info? ty).map (·.size) = some arr.size) (hB : Blk w g t arr) :
    (results fn tmps).run P w = .ok (.tuple #[.agg arr, tmps.getD u undef]) w := by
  have hp' : tmps[p]?.getD undef = .pointer (some ⟨g, 0, none⟩) := by simpa using hp
  simp [results, h, hp', asAddr, run_ldBox hu hi hB]
theorem ret_box2 {fn : Func} {p u v : Tmp} {ty : TypeId} (h : fn.results = #[.cell p ty, .tmp u, .tmp v]) {tmps : Array Value} {g t : Nat} {arr : Array Value} (hp : tmps.getD p undef = .pointer (some ⟨g, 0, none⟩))
    (hu : ∃ d, (P.underlying ty = some d) ∧ d.isRow = true) (hi : (P.info? ty).map (·.size) = some arr.size) (hB : Blk w g t arr) :
    (results fn tmps).run P w = .ok (.tuple #[.agg arr, tmps.getD u undef, tmps.getD v undef]) w := by
  have hp' : tmps[p]?.getD undef = .pointer (some ⟨g, 0, none⟩) := by simpa using hp
  simp [results, h, hp', asAddr, run_ldBox hu hi hB]
theorem ret_boxes {fn : Func} {p q u : Tmp} {ty ty2 : TypeId} (h : fn.results = #[.cell p ty, .cell q ty2, .tmp u]) {tmps : Array Value} {g t : Nat} {arr : Array Value} (hp : tmps.getD p undef = .pointer (some ⟨g, 0, none⟩))
    (hu : ∃ d, (P.underlying ty = some d) ∧ d.isRow = true) (hi : (P.info? ty).map (·.size) = some arr.size) (hB : Blk w g t arr)
    {g2 t2 : Nat} {arr2 : Array Value} (hp2 : tmps.getD q undef = .pointer (some ⟨g2, 0, none⟩))
    (hu2 : ∃ d, (P.underlying ty2 = some d) ∧ d.isRow = true) (hi2 : (P.info? ty2).map (·.size) = some arr2.size) (hB2 : Blk w g2 t2 arr2) :
    (results fn tmps).run P w = .ok (.tuple #[.agg arr, .agg arr2, tmps.getD u undef]) w := by
  have hp' : tmps[p]?.getD undef = .pointer (some ⟨g, 0, none⟩) := by simpa using hp
  have hp2' : tmps[q]?.getD undef = .pointer (some ⟨g2, 0, none⟩) := by simpa using hp2
  simp [results, h, hp', hp2', asAddr, run_ldBox hu hi hB, run_ldBox hu2 hi2 hB2]
end
theorem yields_ldBox {P : Program} {ops : Array Oper} {S : World → Prop} {op : Oper} {a : Act} (hw : Region.wanted op (yielded ops a.tmps) = true) {ty : TypeId} {x : Operand} (ho : op.op = .load ty x)
    {g t : Nat} {arr : Array Value} (hx : a.eval x = .pointer (some ⟨g, 0, none⟩)) (hS : ∀ w, S w → Blk w g t arr) (hu : ∃ d, (P.underlying ty = some d) ∧ d.isRow = true) (hi : (P.info? ty).map (·.size) = some arr.size) : YieldsIf P ops S op (.agg arr) a :=
  .inl ⟨hw, fun w hw' => by
    unfold execOp
    simp only [ho, hx, Instr.loadAt, Instr.sureAddr, Sem.run_bind, Sem.run_pure, Result.andThen_ok, run_ldBox hu hi (hS w hw')]⟩
theorem takeH {P : Program} {md : _} {ops : Array Oper} {Q : Exit → Act → World → Prop} {S : World → Prop} {i : Nat} {oi : Oper} {v : Value} {t : Tmp} {fuel : Nat} {listed : Array Bool} {a : Act} {w : World} (hi : ops[i]? = some oi) (hd : oi.dst = some t)
    (hs : Region.noSelect ops = true) (hf : Region.free md ops listed i = true) (hr : (Region.ready md ops listed).contains i = true)
    (hQ : ∀ c a w, Q (.panic c) (a.put oi.dst v) w → Q (.panic c) a w) (hy : YieldsIf P ops S oi v a) (hS : S w)
    (h : wpAnyH P md ops Q S fuel (listed.setIfInBounds i true) ⟨a.tmps.setIfInBounds t v, a.defers⟩ w) : wpAnyH P md ops Q S (fuel + 1) listed a w :=
  wpAnyH_take hi hs hf hr hQ hy hS (by unfold Act.put; rw [hd]; exact h)
theorem wp_stBoxN {P : Program} {o : Oper} {a : Act} {w : World} {Q : Exit → Act → World → Prop} {K : Act → World → Prop} {ty : TypeId} {x y : Operand} (ho : o.op = .store ty x y) (hd : o.dst = none) {g t : Nat} {arr vs : Array Value} (hx : a.eval x = .pointer (some ⟨g, 0, none⟩)) (hy : a.eval y = .agg vs)
    (hi : (P.info? ty).map (·.size) = some vs.size) (h1 : vs.toList.all (·.oneCell') = true) (hB : Blk w g t arr) (hs : vs.size = arr.size)
    (h : ∀ w', Blk w' g t vs → Fr (Only g) w w' → K a w') : o.wp P a w K Q :=
  wp_stBox ho hx hy hi h1 hB hs fun w' h1 h2 => by rw [hd]; exact h w' h1 h2
end Go.Proofs.YtoegdmpmagbaiaaDoor
