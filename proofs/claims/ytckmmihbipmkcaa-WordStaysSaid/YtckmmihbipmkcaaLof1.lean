/- What the library's sort leaves behind, in this repo's words for memory. -/
import Derived.Test.YtckmmihbipmkcaaLwalk1
namespace Go.Proofs.Ytckmmihbipmkcaa
open Go.RowKit Go.Sort Go.Shelf

instance : Inhabited PP := ⟨⟨default, 0⟩⟩

theorem flatK_list (l : List PP) : (flatK pcs 2 l.toArray).toList = l.flatMap pcs := by
  apply List.ext_getElem?
  intro t
  by_cases h : t < l.length * 2
  · have h1 : t / 2 < l.length := by omega
    have h2 := flat_get pcs 2 pcs_len l (t / 2) (t % 2) h1 (by omega)
    rw [show t / 2 * 2 + t % 2 = t by omega] at h2
    have h3 := get_flatK pcs 2 l.toArray t (by simpa using h)
    have h4 : t < (flatK pcs 2 l.toArray).size := by simpa using h
    rw [getElem!_pos (flatK pcs 2 l.toArray) t h4, getElem!_pos l.toArray (t / 2) (by simpa using h1)] at h3
    have h5 : t % 2 < (pcs l[t / 2]).length := by rw [pcs_len]; omega
    rw [h2, List.getElem?_eq_getElem h5, List.getElem?_eq_getElem (by simpa using h4)]
    congr 1
    simp only [Array.getElem_toList, h3, List.getElem_toArray]
    rw [getElem!_pos (pcs l[t / 2]) (t % 2) h5]
  · rw [List.getElem?_eq_none (by simp; omega), List.getElem?_eq_none (by rw [flat_len pcs 2 pcs_len]; omega)]

/-- The cells of a row that hold l from their start on. -/
def Heads (cur : Array Value) (l : List PP) : Prop := cur.toList.take (l.length * 2) = l.flatMap pcs
theorem Heads.get {cur : Array Value} {l : List PP} (h : Heads cur l) {j : Nat} (hj : j < l.length * 2) : cur[j]? = (l.flatMap pcs)[j]? := by
  unfold Heads at h
  rw [← h, List.getElem?_take_of_lt hj, Array.getElem?_toList]

theorem holdsK_of {w : World} {b t : Nat} {cur : Array Value} {l : List PP} (h : Blk w b t cur) (hh : Heads cur l) : HoldsK pcs 2 w b 0 l.toArray := by
  intro j hj
  have hj' : j < l.length * 2 := by simpa using hj
  refine ⟨?_, h.frozen _⟩
  rw [Nat.zero_add, h.cell, hh.get hj', ← flatK_list, getElem!_pos (flatK pcs 2 l.toArray) j hj, Array.getElem?_toList, Array.getElem?_eq_getElem hj]
  rfl

theorem blk_sorted {w : World} {b t : Nat} {cur : Array Value} (h : Blk w b t cur) (d : List PP) (n : Nat) (os : Array Obj) (hsz : d.length * 2 ≤ cur.size) :
    ∃ cur', Blk (sortWorldK pcs 2 w b 0 n d.toArray os) b t cur' ∧ cur'.size = cur.size ∧ Heads cur' d := by
  refine ⟨putCells id 0 (flatK pcs 2 d.toArray) cur, ?_, by simp [putCells], ?_⟩
  · have hb : b < w.heap.size := h.lt
    unfold sortWorldK
    unfold Blk
    rw [heap_grow_old _ _ (by rw [size_putRowK]; exact hb)]
    show (w.heap.modify b _)[b]? = _
    rw [Array.getElem?_modify]
    simp only [if_true]
    rw [show w.heap[b]? = some (.cells cur t (0, 0)) from h]
    rfl
  · unfold Heads
    rw [← flatK_list]
    apply List.ext_getElem?
    intro j
    by_cases hj : j < d.length * 2
    · have h4 : j < (flatK pcs 2 d.toArray).size := by simpa using hj
      rw [List.getElem?_take_of_lt hj]
      have hjc : j < cur.size := by omega
      simp only [putCells, Array.getElem?_toList, Array.getElem?_mapIdx, Array.getElem?_eq_getElem hjc, Array.getElem?_eq_getElem h4, Option.map_some]
      rw [if_pos ⟨by omega, by simpa using hj⟩, Nat.sub_zero, getElem!_pos (flatK pcs 2 d.toArray) j h4]
      rfl
    · rw [List.getElem?_eq_none (by simp; omega), List.getElem?_eq_none (by simp; omega)]
theorem fr_sorted {w : World} {b : Nat} (d : List PP) (n : Nat) (os : Array Obj) : Fr (Only b) w (sortWorldK pcs 2 w b 0 n d.toArray os) := by
  have hs : (sortWorldK pcs 2 w b 0 n d.toArray os).heap.size = w.heap.size + os.size := by
    unfold sortWorldK; rw [size_grow, size_putRowK]; rfl
  refine ⟨rfl, rfl, rfl, by omega, fun k hk hn => ?_⟩
  unfold sortWorldK
  rw [heap_grow_old _ _ (by rw [size_putRowK]; exact hk)]
  show (w.heap.modify b _)[k]? = _
  rw [Array.getElem?_modify, if_neg (fun e => hn e.symm)]


theorem order_lays (blk off size : Nat) (w : World) : CmpLays Try.prog 40 #[] pcs 2 pord blk off size w := fun _ _ _ _ x y => lab_order _ x y

def msort (l : List PP) : List PP := l.mergeSort fun x y => !(ltOf pord) y x
theorem msort_len (l : List PP) : (msort l).length = l.length := by unfold msort; exact List.length_mergeSort _

theorem lab_sort {w : World} {b t cap : Nat} {cur : Array Value} {l : List PP} (h : Blk w b t cur) (hh : Heads cur l) (hc : l.length * 2 ≤ cur.size) (hl : l.length < 4611686018427387904) :
    Calls Try.prog 41 #[.slice (some ⟨b, 0, none⟩) l.length cap, .func (.func 40) #[] #[]] w fun e w' => e = .returned (.tuple #[]) ∧ Fr (Only b) w w' ∧ ∃ cur', Blk w' b t cur' ∧ cur'.size = cur.size ∧ Heads cur' (msort l) := by
  have eg : ∀ args w, (callFunc 40 args).run Try.prog w = .ok (.enter 40 args) w := enters_of Try.func40 (by kernel_rfl) rfl
  have hcon := AnyQ.slices_SortFunc_total Try.sortPP 2 Try.isAgg51 Try.sizeOf51 pcs (fun _ => rfl) (fun x v hv => by simp [pcs] at hv; rcases hv with rfl | rfl <;> rfl) pord pord_swo 40 #[] b 0 cap l.toArray w eg (order_lays b 0 l.toArray.size w) (holdsK_of h hh) h.lt (by simpa using hl) pord_tot
  change Calls Try.prog 41 _ _ _ at hcon
  refine hcon.mono ?_
  rintro e w' ⟨rfl, n, os, rfl⟩
  exact ⟨rfl, fr_sorted _ _ _, blk_sorted h _ n os (by rw [List.length_mergeSort]; simpa using hc)⟩
end Go.Proofs.Ytckmmihbipmkcaa
