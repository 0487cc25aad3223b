/- The step of a line whose words are right, whole; a line's words in memory: the reference. -/
import Derived.Test.YtidhlfcmjpnhgaaGreatDoorQZ12
import Derived.Test.YtidhlfcmjpnhgaaGreatDoorSQ
namespace Go.Proofs.YtidhlfcmjpnhgaaGreatDoor
open Go.RowKit Go.Lib

theorem len_two {L : List Nat} (h : L.length = 2) : ∃ x y, L = [x, y] := by
  match L, h with
  | [x, y], _ => exact ⟨x, y, rfl⟩
theorem len_three {L : List Nat} (h : L.length = 3) : ∃ x y z, L = [x, y, z] := by
  match L, h with
  | [x, y, z], _ => exact ⟨x, y, z, rfl⟩
theorem mdp_eq {w w' : World} {z z' : Int × ZC} {e : Ending} (h : z = z') (hp : MdP w z e w') : MdP w z' e w' := h ▸ hp
set_option maxRecDepth 100000
set_option maxHeartbeats 4000000
theorem ref_made (w : World) (s : ByteArray) (q : Nat) (hq : wordN s.data.toList = q) (hq9 : q < 9) (NA PA : Option Addr) (nc pc : Nat) (L : List Nat) (bb : List UInt8) (ps : List PP) (hn : Sl w 1 NA L.length nc (u64s L)) (hL : L.length = (usesN q).length) (hm : ∀ i (h : i < L.length), L[i] ≤ mostN ((usesN q).getD i 0)) (hp : Sl w 2 PA ps.length pc (ps.flatMap pcs)) (hpl : ps.length ≤ 9000) (hpn : ∀ p ∈ ps, p.name.size ≤ 100000 ∧ I64 p.value) :
    Calls Tryz.prog 46 #[.string s, .slice NA L.length nc, .string ⟨bb.toArray⟩, .slice PA ps.length pc] w (MdP w (madeS q ⟨L, bb, ps, true⟩)) := by
  have h := wordIs hq
  clear hq
  have a : q = 0 ∨ q = 1 ∨ q = 2 ∨ q = 3 ∨ q = 4 ∨ q = 5 ∨ q = 6 ∨ q = 7 ∨ q = 8 := by omega
  rcases a with rfl | rfl | rfl | rfl | rfl | rfl | rfl | rfl | rfl
  · obtain ⟨x, rfl⟩ := List.length_eq_one_iff.1 (show L.length = 1 from hL)
    have h0 := hm 0 (by simp)
    exact (md_0 w s _ h NA PA nc _ pc x hn h0).mono fun e w' hx => mdp_eq (by simp [madeS]) hx
  · obtain ⟨x, rfl⟩ := List.length_eq_one_iff.1 (show L.length = 1 from hL)
    have h0 := hm 0 (by simp)
    exact (md_1 w s _ h NA PA nc _ pc x hn h0).mono fun e w' hx => mdp_eq (by simp [madeS]) hx
  · obtain ⟨x, y, rfl⟩ := len_two (show L.length = 2 from hL)
    have h0 := hm 0 (by simp)
    have h1 := hm 1 (by simp)
    have h1 : y ≤ 18446744073709551615 := h1
    exact (md_2 w s _ h NA PA nc _ pc x y hn h0 (by omega)).mono fun e w' hx => mdp_eq (by simp [madeS, msgS]) hx
  · obtain ⟨x, y, z, rfl⟩ := len_three (show L.length = 3 from hL)
    have h0 := hm 0 (by simp)
    have h1 := hm 1 (by simp)
    have h1 : y ≤ 18446744073709551615 := h1
    have h2 := hm 2 (by simp)
    exact (md_3 w s _ h NA PA nc pc x y z ps hn h0 (by omega) h2 hp hpl hpn).mono fun e w' hx => mdp_eq (by simp [madeS, msgS]) hx
  · obtain ⟨x, y, rfl⟩ := len_two (show L.length = 2 from hL)
    have h0 := hm 0 (by simp)
    have h1 := hm 1 (by simp)
    exact (md_4 w s _ h NA PA nc _ pc x y hn h0 h1).mono fun e w' hx => mdp_eq (by simp [madeS, msgS]) hx
  · obtain ⟨x, rfl⟩ := List.length_eq_one_iff.1 (show L.length = 1 from hL)
    have h0 := hm 0 (by simp)
    exact (md_5 w s _ h NA PA nc _ pc x hn h0).mono fun e w' hx => mdp_eq (by simp [madeS, msgS]) hx
  · exact (md_6 w s _ h NA PA _ nc _ pc).mono fun e w' hx => mdp_eq (by simp [madeS]) hx
  · exact (md_7 w s _ h NA PA _ nc _ pc).mono fun e w' hx => mdp_eq (by simp [madeS]) hx
  · exact (md_8 w s _ h NA PA _ nc _ pc).mono fun e w' hx => mdp_eq (by simp [madeS]) hx
theorem bl_tail {ws : List ByteArray} {a : List UInt8} {r : List (List UInt8)} (h : bl ws = a :: r) {j : Nat} (hj : j < r.length) : ∃ hw : j + 1 < ws.length, r[j] = ws[j + 1].data.toList := by
  have hl : ws.length = r.length + 1 := by have := congrArg List.length h; rw [bl_len] at this; simpa using this
  refine ⟨by omega, ?_⟩
  have h1 : (bl ws)[j + 1]'(by rw [bl_len]; omega) = ws[j + 1].data.toList := by simp [bl]
  rw [← h1]
  simp only [h, List.getElem_cons_succ]
theorem bl_head {ws : List ByteArray} {a : List UInt8} {r : List (List UInt8)} (h : bl ws = a :: r) : ∃ hw : 0 < ws.length, ws[0].data.toList = a := by
  have hl : ws.length = r.length + 1 := by have := congrArg List.length h; rw [bl_len] at this; simpa using this
  refine ⟨by omega, ?_⟩
  have h1 : (bl ws)[0]'(by rw [bl_len]; omega) = ws[0].data.toList := by simp [bl]
  rw [← h1]
  simp only [h, List.getElem_cons_zero]
theorem elemU64 : ElemT Tryz.prog 88 36 1 8 := ElemT.mk (z := .int .u64 0) Tryz.underlying88 (by kernel_rfl) (by kernel_rfl) (by decide)
/-- The propositions that a line has said. -/
structure ApP (w wr : World) (A : Option Addr) (c : Nat) (P : List PP) : Prop where
  fr : Fr Nob w wr
  own : wr.ownsRow w.heap.size 41 2 (.slice A P.length c) P.length (P.flatMap pcs)
section
variable {w wr w1 : World} {A A' : Option Addr} {c c' : Nat} {P : List PP}
theorem ApP.start (w : World) : ApP w w none 0 [] := ⟨Fr.refl _ _, ⟨rfl, .inl ⟨rfl, rfl⟩⟩⟩
theorem ApP.pure (h : ApP w wr A c P) (hf : Fr Nob wr w1) : ApP w w1 A c P := ⟨h.fr.call hf (fun _ h _ => h), own_fr h.own hf (fun _ _ _ _ e => e)⟩
theorem ApP.app (h : ApP w wr A c P) (x : PP) (hown : w1.ownsRow w.heap.size 41 2 (.slice A' (P.length + 1) c') (P.length + 1) (P.flatMap pcs ++ pcs x)) (hg : wr.grownBy w1 (A.map (·.block))) : ApP w w1 A' c' (P ++ [x]) := by
  refine ⟨h.fr.grown hg (fun k hk hlt => by have := own_base h.own k hk; omega), ?_⟩
  rw [flat1] at hown
  simpa using hown
end
end Go.Proofs.YtidhlfcmjpnhgaaGreatDoor
