/- The walks of label and its reference that make nothing: ahead, holds, right, same, few. -/
import Derived.Test.YtckmmihbipmkcaaLord
namespace Go.Proofs.Ytckmmihbipmkcaa
open Go.RowKit Go.Sort

theorem fr_grow (w : World) (q : Nat) (os : Array Obj) : Fr Nob w (grow (w.drewN q) os) := by
  have h : ∀ (os : List Obj) (v : World), Fr Nob w v → Fr Nob w (grow v os.toArray) := by
    intro os
    induction os with
    | nil => intro v hv; simpa [grow] using hv
    | cons o os ih => intro v hv; have := ih _ (hv.alloc o); rwa [alloc_eq_grow, grow_grow, show #[o] ++ os.toArray = (o :: os).toArray by simp] at this
  simpa using h os.toList _ ((Fr.refl Nob w).drewN q)

theorem ref_Ahead (w : World) (a b : PP) :
    Calls Try.prog 45 #[.agg #[.string a.name, .int .i64 a.value], .agg #[.string b.name, .int .i64 b.value]] w fun e w' => e = .returned (.bool (paheadB a b)) ∧ Fr Nob w w' := by
  by_cases hl : Op.bytesLess a.name.toList b.name.toList = true
  · have H := Lib.hid (pahead_less hl)
    go_enter Try.func45, Try.ntmps45
    go_wp2
    go_ret
    exact ⟨ret1b H.out.symm, ((Fr.refl Nob w).alloc _).alloc _⟩
  · by_cases he : a.name.toList = b.name.toList
    · have H := Lib.hid (pahead_eq he)
      generalize hd : decide (a.value < b.value) = d at H
      go_enter Try.func45, Try.ntmps45
      go_wp2
      all_goals go_ret
      all_goals exact ⟨by rw [H.out]; first | rfl | exact ret1b hd | simp_all, ((Fr.refl Nob w).alloc _).alloc _⟩
    · have H := Lib.hid (pahead_no hl he)
      go_enter Try.func45, Try.ntmps45
      go_wp2
      all_goals go_ret
      all_goals exact ⟨ret1b H.out.symm, ((Fr.refl Nob w).alloc _).alloc _⟩

theorem pp_cells {w : World} {A : Option Addr} {c : Nat} {l : List PP} {k : Nat} (h : Sl w 2 A l.length c (l.flatMap pcs)) (hk : k < l.length) :
    ∃ b off, A = some ⟨b, off, none⟩ ∧ b < w.heap.size ∧ w.cell? ⟨b, off + k * 2, none⟩ = some (.string l[k].name) ∧ w.cell? ⟨b, off + k * 2 + 1, none⟩ = some (.int .i64 l[k].value) := by
  obtain ⟨b, off, hA, hb, hc⟩ := Sl.row (size := 2) pcs_len h hk
  exact ⟨b, off, hA, hb, hc 0 _ rfl, by rw [Nat.add_assoc]; exact hc 1 _ rfl⟩

def holdsB (l : List PP) (n : ByteArray) (op v : Int) : Bool := l.any fun p => p.name.toList == n.toList && meets p.value op v
theorem holds_snoc {l : List PP} {n : ByteArray} {op v : Int} {k : Nat} (hk : k < l.length) (h : holdsB (l.take k) n op v = false) (h2 : (l[k].name.toList == n.toList && meets l[k].value op v) = false) : holdsB (l.take (k + 1)) n op v = false := by
  unfold holdsB at *
  rw [List.take_succ_eq_append_getElem hk, List.any_append, h]
  simpa using h2
theorem holds_at {l : List PP} {n : ByteArray} {op v : Int} {k : Nat} (hk : k < l.length) (h2 : (l[k].name.toList == n.toList && meets l[k].value op v) = true) : holdsB l n op v = true := by
  unfold holdsB
  rw [List.any_eq_true]
  exact ⟨l[k], List.getElem_mem hk, h2⟩

end Go.Proofs.Ytckmmihbipmkcaa
