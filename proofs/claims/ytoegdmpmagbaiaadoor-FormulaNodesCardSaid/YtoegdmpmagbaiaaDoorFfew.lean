/- Formulas that are not too great; copies of formulas. -/
import Derived.Test.YtoegdmpmagbaiaaDoorFtxt
import Derived.Test.YtoegdmpmagbaiaaDoorFref
import Derived.Test.YtoegdmpmagbaiaaDoorFplainw2
import Derived.Test.YtoegdmpmagbaiaaDoorFsame2
import Derived.Lib.QuietBelow
namespace Go.Proofs.YtoegdmpmagbaiaaDoor
open Go.RowKit Go.Shelf Go.Sort

/-- A callee that reads and makes memory, met in a region that draws its order. -/
theorem regr {f : FuncId} {args : Array Value} {W : World} {v : Value} (h : ∀ X, Fr Nob W X → Calls Tryd.prog f args X fun e w' => e = .returned v ∧ Fr Nob X w') (d : Nat) (os : Array Obj) :
    Calls Tryd.prog f args (grow (redrawn W d) os) fun e w'' => e = .returned v ∧ ∃ p : Regrown, w'' = grow (redrawn W p.d) p.os :=
  Calls.regrown_of ((h _ (Fr.of_below (below_regrown W d os))).mono fun _ _ ⟨h1, h2⟩ => ⟨h1, h2.below⟩)
theorem shortN_nodes (t : Tr) : t.shortN → ∀ d, ∀ y ∈ t.nodes d, y.1.name.size ≤ 40 := by
  induction t with
  | nil => intro _ d y hy; simp [Tr.nodes] at hy
  | cons x k r ihk ihr =>
    rintro ⟨h1, h2, h3⟩ d y hy
    simp only [Tr.nodes, List.mem_cons, List.mem_append] at hy
    rcases hy with rfl | hy | hy
    · exact h1
    · exact ihk h2 _ y hy
    · exact ihr h3 _ y hy
theorem shortN_wt (t : Tr) : t.shortN → t.wt ≤ t.size * 140 := by
  induction t with
  | nil => intro _; exact Nat.le_refl _
  | cons x k r ihk ihr =>
    rintro ⟨h1, h2, h3⟩
    have := ihk h2; have := ihr h3
    simp only [Tr.wt, Tr.size]; omega
/-- What a formula that is not too great gives. -/
structure Few (x : Nd) (ks : Tr) (n : Nat) : Prop where
  size : ks.size + 1 ≤ n
  names : ∀ y ∈ (Tr.cons x ks .nil).nodes 1, y.1.name.size ≤ 9223372036854775807
  wt : x.name.size + ks.wt ≤ 140 * n
theorem few_of {x : Nd} {ks : Tr} {n : Nat} (h : 0 < left1 x ks n) : Few x ks n := by
  obtain ⟨h1, h2, h3⟩ := left1_pos h
  refine ⟨h1, fun y hy => ?_, ?_⟩
  · have := shortN_nodes (.cons x ks .nil) ⟨h2, h3, trivial⟩ 1 y hy
    omega
  · have := shortN_wt ks h3; omega
/-- A copy that plain makes. -/
structure Cp (w w' : World) (x : Nd) (ks : Fo) (A : Option Addr) (c : Nat) (ks' : Fo) : Prop where
  tr : ks'.tr = ks.tr
  sl : FoSl w'.heap.size w' A c ks'
  fr : Fr Nob w w'
theorem law_plain' (w : World) (x : Nd) (B : Option Addr) (d : Nat) (ks : Fo) (hsz : ks.tr.size ≤ 100000) (hs : FoSl w.heap.size w B d ks) :
    Calls Tryd.prog 12 #[fval x B ks.len d] w fun e w' => ∃ A c ks', e = .returned (fval x A (Fo.len ks') c) ∧ Cp w w' x ks A c ks' :=
  (law_plain ks.tr.size w.heap.size w x B d ks (Nat.le_refl _) hsz hs (Nat.le_refl _)).mono fun _ _ ⟨A, c, ks', h1, h2, h3, h4⟩ => ⟨A, c, ks', h1, h2, h3.sl (fun _ hk => hk.2), h4⟩
end Go.Proofs.YtoegdmpmagbaiaaDoor
