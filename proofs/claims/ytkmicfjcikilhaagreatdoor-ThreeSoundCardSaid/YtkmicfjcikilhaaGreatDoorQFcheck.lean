/- formula.Check. -/
import Derived.Test.YtkmicfjcikilhaaGreatDoorQFsize
namespace Go.Proofs.YtkmicfjcikilhaaGreatDoor
open Go.RowKit Go.Shelf
attribute [local go_sem] Oper.semAt_some

/-- What is wrong with a formula. -/
def checkT (x : Nd) (ks : Tr) : Int := if 48 < ks.size + 1 then 23 else if 12 < ks.deep + 1 then 22 else firstW ((Tr.cons x ks .nil).nodes 1)
/-- What Check's own variables hold. -/
structure CkI (B : Nat) (pre : List Vis) (W : World) : Prop where
  res : Blk W (B + 1) 58 #[.int .i64 0]
  many : Blk W (B + 2) 3 #[.int .i64 (pre.length : Nat)]
  most : Blk W (B + 3) 3 #[.int .i64 (maxD 0 (pre.map ndOf) : Nat)]
  first : Blk W (B + 4) 58 #[.int .i64 (firstW (pre.map ndOf))]
  le : pre.length ≤ 48
theorem CkI.far {B C : Nat} (h : B + 5 ≤ C) : Far C (CkI B) := fun pre W W' row hs hg hr =>
  have f : ∀ {k : Nat} {o : Obj}, k < C → W.heap[k]? = some o → W'.heap[k]? = some o := fun hk ho => (hg.block _ (Array.getElem?_eq_some_iff.1 ho).1 (fun e => by have := hr _ e.symm; omega)).trans ho
  ⟨f (by omega) hs.res, f (by omega) hs.many, f (by omega) hs.most, f (by omega) hs.first, hs.le⟩
end Go.Proofs.YtkmicfjcikilhaaGreatDoor
