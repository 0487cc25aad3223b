/- The walks of label and its reference that make nothing: ahead, holds, right, same, few. -/
import Derived.Test.YtoegdmpmagbaiaaGreatDoorKL
import Derived.Laws.StructEq
import Derived.Lib.SliceRun
import Derived.Lib.SlicesCompact
namespace Go.Proofs.YtoegdmpmagbaiaaGreatDoor
open Go.RowKit Go.Sort

theorem fr_grow (w : World) (q : Nat) (os : Array Obj) : Fr Nob w (grow (w.drewN q) os) := by
  have h : ∀ (os : List Obj) (v : World), Fr Nob w v → Fr Nob w (grow v os.toArray) := by
    intro os
    induction os with
    | nil => intro v hv; simpa [grow] using hv
    | cons o os ih => intro v hv; have := ih _ (hv.alloc o); rwa [alloc_eq_grow, grow_grow, show #[o] ++ os.toArray = (o :: os).toArray by simp] at this
  simpa using h os.toList _ ((Fr.refl Nob w).drewN q)

theorem ref_Ahead (w : World) (a b : PP) :
    Calls Tryz.prog 76 #[.agg #[.string a.name, .int .i64 a.value], .agg #[.string b.name, .int .i64 b.value]] w fun e w' => e = .returned (.bool (paheadB a b)) ∧ Fr Nob w w' := by
  by_cases hl : Op.bytesLess a.name.toList b.name.toList = true
  · have H := Lib.hid (pahead_less hl)
    go_enter Tryz.func76, Tryz.ntmps76
    go_wp2
    go_ret
    exact ⟨ret1b H.out.symm, ((Fr.refl Nob w).alloc _).alloc _⟩
  · by_cases he : a.name.toList = b.name.toList
    · have H := Lib.hid (pahead_eq he)
      generalize hd : decide (a.value < b.value) = d at H
      go_enter Tryz.func76, Tryz.ntmps76
      go_wp2
      all_goals go_ret
      all_goals exact ⟨by rw [H.out]; first | rfl | exact ret1b hd | simp_all, ((Fr.refl Nob w).alloc _).alloc _⟩
    · have H := Lib.hid (pahead_no hl he)
      go_enter Tryz.func76, Tryz.ntmps76
      go_wp2
      all_goals go_ret
      all_goals exact ⟨ret1b H.out.symm, ((Fr.refl Nob w).alloc _).alloc _⟩

theorem pp_cells {w : World} {A : Option Addr} {c : Nat} {l : List PP} {k : Nat} (h : Sl w 2 A l.length c (l.flatMap pcs)) (hk : k < l.length) :
    ∃ b off, A = some ⟨b, off, none⟩ ∧ b < w.heap.size ∧ w.cell? ⟨b, off + k * 2, none⟩ = some (.string l[k].name) ∧ w.cell? ⟨b, off + k * 2 + 1, none⟩ = some (.int .i64 l[k].value) := by
  obtain ⟨b, off, hA, hb, hc⟩ := Sl.row (size := 2) pcs_len h hk
  exact ⟨b, off, hA, hb, hc 0 _ rfl, by rw [Nat.add_assoc]; exact hc 1 _ rfl⟩

def holdsB (l : List PP) (n : ByteArray) (op v : Int) : Bool := l.any fun p => p.name.toList == n.toList && meets p.value op v
theorem holds_snoc {l : List PP} {n : ByteArray} {op v : Int} {k : Nat} (hk : k < l.length) (h : holdsB (l.take k) n op v = false) (h2 : (l[k].name.toList == n.toList && meets l[k].value op v) = false) : holdsB (l.take (k + 1)) n op v = false := by
  unfold holdsB at *
  rw [List.take_succ_eq_append_getElem hk, List.any_append, h]
  simpa using h2
theorem holds_at {l : List PP} {n : ByteArray} {op v : Int} {k : Nat} (hk : k < l.length) (h2 : (l[k].name.toList == n.toList && meets l[k].value op v) = true) : holdsB l n op v = true := by
  unfold holdsB
  rw [List.any_eq_true]
  exact ⟨l[k], List.getElem_mem hk, h2⟩

set_option maxHeartbeats 1000000 in
theorem lab_Holds (w : World) (A : Option Addr) (c : Nat) (l : List PP) (n : ByteArray) (op v : Int) (hl : Sl w 2 A l.length c (l.flatMap pcs)) :
    Calls Tryz.prog 89 #[.slice A l.length c, .agg #[.string n, .int .i64 op, .int .i64 v]] w fun e w' => e = .returned (.bool (holdsB l n op v)) ∧ Fr Nob w w' := by
  have HL := Lib.hid hl
  have hle := hl.le
  have hmx := hl.max
  unfold maxLen at hmx
  clear hl
  go_enter Tryz.func89, Tryz.ntmps89
  go_wp2_with fail
  go_loopw [9] (fun i wl => ∃ k : Nat, k ≤ l.length ∧ i = .int .i64 k ∧ Hid (Fr Nob w wl) ∧ Hid (Blk wl w.heap.size 23 #[.string n, .int .i64 op, .int .i64 v]) ∧ Hid (holdsB (l.take k) n op v = false)) (fun i _ => l.length - (intOf i).toNat)
  case atStart => exact ⟨0, Nat.zero_le _, rfl, Lib.hid ((Fr.refl Nob w).alloc _), Lib.hid (Blk.new _ _ _), Lib.hid rfl⟩
  case round =>
    obtain ⟨k, hk, rfl, hfr, hbx, hno⟩ := hrel
    have c0 := hbx.out.cell
    have hbl := Blk.lt hbx.out
    by_cases hlt : k < l.length
    · have hI : (k : Int) < l.length := by omega
      have hI3 : 0 ≤ (k : Int) := by omega
      obtain ⟨ba, off, rfl, hba, d0, d1⟩ := pp_cells (HL.out.pure hfr.out) hlt
      have HY := Lib.hid (fun h2 => holds_at (n := n) (op := op) (v := v) hlt h2)
      have HN := Lib.hid (fun h2 => holds_snoc hlt hno.out h2)
      generalize l[k] = x at *
      obtain ⟨xn, xv⟩ := x
      simp only at d0 d1 HY HN
      by_cases hn : xn.toList = n.toList
      · have hn' : (xn.toList == n.toList) = true := by simpa using hn
        rw [hn', Bool.true_and] at HY HN
        go_wp2_with ((go_at_call 131); refine (lab_stands _ _ _ _).mono ?_; rintro e w1 ⟨rfl, rfl⟩)
        · have HR := Lib.hid (HY.out (by assumption))
          go_ret
          exact ⟨ret1b HR.out.symm, by first | exact hfr.out | exact hfr.out.alloc _⟩
        · have HR := Lib.hid (HN.out (by assumption))
          go_roundw
          case rel => exact ⟨k + 1, by omega, by go_num, by first | exact Lib.hid hfr.out | exact Lib.hid (hfr.out.alloc _), by first | exact hbx | exact Lib.hid (hbx.out.alloc _), HR⟩
          case measure => simp [intOf]; omega
      · have hn' : (xn.toList == n.toList) = false := by simpa using hn
        rw [hn', Bool.false_and] at HN
        have HR := Lib.hid (HN.out rfl)
        clear HN HY
        go_wp2_with fail
        go_roundw
        case rel => exact ⟨k + 1, by omega, by go_num, by first | exact hfr | exact Lib.hid (hfr.out.alloc _), by first | exact hbx | exact Lib.hid (hbx.out.alloc _), HR⟩
        case measure => simp [intOf]; omega
    · have hkk : k = l.length := by omega
      have HR := Lib.hid (show holdsB l n op v = false by rw [← hno.out, List.take_of_length_le (by omega)])
      go_wp2_with fail
      go_ret
      exact ⟨ret1b HR.out.symm, hfr.out⟩
set_option maxHeartbeats 1000000 in
theorem ref_Holds (w : World) (A : Option Addr) (c : Nat) (l : List PP) (n : ByteArray) (op v : Int) (hl : Sl w 2 A l.length c (l.flatMap pcs)) :
    Calls Tryz.prog 125 #[.slice A l.length c, .agg #[.string n, .int .i64 op, .int .i64 v]] w fun e w' => e = .returned (.bool (holdsB l n op v)) ∧ Fr Nob w w' := by
  have HL := Lib.hid hl
  have hle := hl.le
  have hmx := hl.max
  unfold maxLen at hmx
  clear hl
  go_enter Tryz.func125, Tryz.ntmps125
  go_wp2_with fail
  go_loopw [5] (fun i wl => ∃ k : Nat, k ≤ l.length ∧ i = .int .i64 k ∧ Hid (Fr Nob w wl) ∧ Hid (Blk wl w.heap.size 172 #[.string n, .int .i64 op, .int .i64 v]) ∧ Hid (holdsB (l.take k) n op v = false)) (fun i _ => l.length - (intOf i).toNat)
  case atStart => exact ⟨0, Nat.zero_le _, rfl, Lib.hid ((Fr.refl Nob w).alloc _), Lib.hid (Blk.new _ _ _), Lib.hid rfl⟩
  case round =>
    obtain ⟨k, hk, rfl, hfr, hbx, hno⟩ := hrel
    have c0 := hbx.out.cell
    have hbl := Blk.lt hbx.out
    by_cases hlt : k < l.length
    · have hI : (k : Int) < l.length := by omega
      have hI3 : 0 ≤ (k : Int) := by omega
      obtain ⟨ba, off, rfl, hba, d0, d1⟩ := pp_cells (HL.out.pure hfr.out) hlt
      have HY := Lib.hid (fun h2 => holds_at (n := n) (op := op) (v := v) hlt h2)
      have HN := Lib.hid (fun h2 => holds_snoc hlt hno.out h2)
      generalize l[k] = x at *
      obtain ⟨xn, xv⟩ := x
      simp only at d0 d1 HY HN
      by_cases hn : xn.toList = n.toList
      · have hn' : (xn.toList == n.toList) = true := by simpa using hn
        rw [hn', Bool.true_and] at HY HN
        have HM := fun W => ref_Meets W xv op v
        generalize meets xv op v = mb at *
        cases mb
        all_goals
          go_wp2_with fail
          go_quiet ((go_at_call 155; exact Calls.quiet_of_same ((HM _).mono fun _ _ ⟨h1, h2⟩ => ⟨h1, h2.symm⟩)))
          go_wp2_with fail
        rotate_left
        · have HR := Lib.hid (HY.out (by simp))
          go_ret
          exact ⟨ret1b HR.out.symm, by first | exact hfr.out | exact hfr.out.drewN _⟩
        · have HR := Lib.hid (HN.out (by simp))
          go_roundw
          case rel => exact ⟨k + 1, by omega, by go_num, by first | exact Lib.hid hfr.out | exact Lib.hid (hfr.out.drewN _), by first | exact hbx | exact Lib.hid (hbx.out.drewN _), HR⟩
          case measure => simp [intOf]; omega
      · have hn' : (xn.toList == n.toList) = false := by simpa using hn
        rw [hn', Bool.false_and] at HN
        have HR := Lib.hid (HN.out rfl)
        clear HN HY
        go_wp2_with fail
        go_quiet (fail)
        go_wp2_with fail
        go_roundw
        case rel => exact ⟨k + 1, by omega, by go_num, by first | exact hfr | exact Lib.hid (hfr.out.drewN _), by first | exact hbx | exact Lib.hid (hbx.out.drewN _), HR⟩
        case measure => simp [intOf]; omega
    · have hkk : k = l.length := by omega
      have HR := Lib.hid (show holdsB l n op v = false by rw [← hno.out, List.take_of_length_le (by omega)])
      go_wp2_with fail
      go_ret
      exact ⟨ret1b HR.out.symm, hfr.out⟩
end Go.Proofs.YtoegdmpmagbaiaaGreatDoor

/- What the library's sort leaves behind, in this repo's words for memory. -/
namespace Go.Proofs.YtoegdmpmagbaiaaGreatDoor
open Go.RowKit Go.Sort Go.Shelf

instance : Inhabited PP := ⟨⟨default, 0⟩⟩

theorem flatK_list (l : List PP) : (flatK pcs 2 l.toArray).toList = l.flatMap pcs := by
  apply List.ext_getElem?
  intro t
  by_cases h : t < l.length * 2
  · have h1 : t / 2 < l.length := by omega
    have h2 := flat_get pcs 2 pcs_len l (t / 2) (t % 2) h1 (by omega)
    rw [show t / 2 * 2 + t % 2 = t by omega] at h2
    have h3 := get_flatK pcs 2 l.toArray t (by simpa using h)
    have h4 : t < (flatK pcs 2 l.toArray).size := by simpa using h
    rw [getElem!_pos (flatK pcs 2 l.toArray) t h4, getElem!_pos l.toArray (t / 2) (by simpa using h1)] at h3
    have h5 : t % 2 < (pcs l[t / 2]).length := by rw [pcs_len]; omega
    rw [h2, List.getElem?_eq_getElem h5, List.getElem?_eq_getElem (by simpa using h4)]
    congr 1
    simp only [Array.getElem_toList, h3, List.getElem_toArray]
    rw [getElem!_pos (pcs l[t / 2]) (t % 2) h5]
  · rw [List.getElem?_eq_none (by simp; omega), List.getElem?_eq_none (by rw [flat_len pcs 2 pcs_len]; omega)]

/-- The cells of a row that hold l from their start on. -/
def Heads (cur : Array Value) (l : List PP) : Prop := cur.toList.take (l.length * 2) = l.flatMap pcs
theorem Heads.get {cur : Array Value} {l : List PP} (h : Heads cur l) {j : Nat} (hj : j < l.length * 2) : cur[j]? = (l.flatMap pcs)[j]? := by
  unfold Heads at h
  rw [← h, List.getElem?_take_of_lt hj, Array.getElem?_toList]

theorem holdsK_of {w : World} {b t : Nat} {cur : Array Value} {l : List PP} (h : Blk w b t cur) (hh : Heads cur l) : HoldsK pcs 2 w b 0 l.toArray := by
  intro j hj
  have hj' : j < l.length * 2 := by simpa using hj
  refine ⟨?_, h.frozen _⟩
  rw [Nat.zero_add, h.cell, hh.get hj', ← flatK_list, getElem!_pos (flatK pcs 2 l.toArray) j hj, Array.getElem?_toList, Array.getElem?_eq_getElem hj]
  rfl

theorem blk_sorted {w : World} {b t : Nat} {cur : Array Value} (h : Blk w b t cur) (d : List PP) (n : Nat) (os : Array Obj) (hsz : d.length * 2 ≤ cur.size) :
    ∃ cur', Blk (sortWorldK pcs 2 w b 0 n d.toArray os) b t cur' ∧ cur'.size = cur.size ∧ Heads cur' d := by
  refine ⟨putCells id 0 (flatK pcs 2 d.toArray) cur, ?_, by simp [putCells], ?_⟩
  · have hb : b < w.heap.size := h.lt
    unfold sortWorldK
    unfold Blk
    rw [heap_grow_old _ _ (by rw [size_putRowK]; exact hb)]
    show (w.heap.modify b _)[b]? = _
    rw [Array.getElem?_modify]
    simp only [if_true]
    rw [show w.heap[b]? = some (.cells cur t (0, 0)) from h]
    rfl
  · unfold Heads
    rw [← flatK_list]
    apply List.ext_getElem?
    intro j
    by_cases hj : j < d.length * 2
    · have h4 : j < (flatK pcs 2 d.toArray).size := by simpa using hj
      rw [List.getElem?_take_of_lt hj]
      have hjc : j < cur.size := by omega
      simp only [putCells, Array.getElem?_toList, Array.getElem?_mapIdx, Array.getElem?_eq_getElem hjc, Array.getElem?_eq_getElem h4, Option.map_some]
      rw [if_pos ⟨by omega, by simpa using hj⟩, Nat.sub_zero, getElem!_pos (flatK pcs 2 d.toArray) j h4]
      rfl
    · rw [List.getElem?_eq_none (by simp; omega), List.getElem?_eq_none (by simp; omega)]
theorem fr_sorted {w : World} {b : Nat} (d : List PP) (n : Nat) (os : Array Obj) : Fr (Only b) w (sortWorldK pcs 2 w b 0 n d.toArray os) := by
  have hs : (sortWorldK pcs 2 w b 0 n d.toArray os).heap.size = w.heap.size + os.size := by
    unfold sortWorldK; rw [size_grow, size_putRowK]; rfl
  refine ⟨rfl, rfl, rfl, by omega, fun k hk hn => ?_⟩
  unfold sortWorldK
  rw [heap_grow_old _ _ (by rw [size_putRowK]; exact hk)]
  show (w.heap.modify b _)[k]? = _
  rw [Array.getElem?_modify, if_neg (fun e => hn e.symm)]


theorem order_lays (blk off size : Nat) (w : World) : CmpLays Tryz.prog 59 #[] pcs 2 pord blk off size w := fun _ _ _ _ x y => lab_order _ x y

def msort (l : List PP) : List PP := l.mergeSort fun x y => !(ltOf pord) y x
theorem msort_len (l : List PP) : (msort l).length = l.length := by unfold msort; exact List.length_mergeSort _

theorem lab_sort {w : World} {b t cap : Nat} {cur : Array Value} {l : List PP} (h : Blk w b t cur) (hh : Heads cur l) (hc : l.length * 2 ≤ cur.size) (hl : l.length < 4611686018427387904) :
    Calls Tryz.prog 61 #[.slice (some ⟨b, 0, none⟩) l.length cap, .func (.func 59) #[] #[]] w fun e w' => e = .returned (.tuple #[]) ∧ Fr (Only b) w w' ∧ ∃ cur', Blk w' b t cur' ∧ cur'.size = cur.size ∧ Heads cur' (msort l) := by
  have eg : ∀ args w, (callFunc 59 args).run Tryz.prog w = .ok (.enter 59 args) w := enters_of Tryz.func59 (by kernel_rfl) rfl
  have hcon := AnyQ.slices_SortFunc_total Tryz.sortPP 2 Tryz.isAgg91 Tryz.sizeOf91 pcs (fun _ => rfl) (fun x v hv => by simp [pcs] at hv; rcases hv with rfl | rfl <;> rfl) pord pord_swo 59 #[] b 0 cap l.toArray w eg (order_lays b 0 l.toArray.size w) (holdsK_of h hh) h.lt (by simpa using hl) pord_tot
  change Calls Tryz.prog 61 _ _ _ at hcon
  refine hcon.mono ?_
  rintro e w' ⟨rfl, n, os, rfl⟩
  exact ⟨rfl, fr_sorted _ _ _, blk_sorted h _ n os (by rw [List.length_mergeSort]; simpa using hc)⟩
end Go.Proofs.YtoegdmpmagbaiaaGreatDoor

/- slices.Clone and slices.Compact at propositions. -/
namespace Go.Proofs.YtoegdmpmagbaiaaGreatDoor
open Go.RowKit Go.Sort Go.Shelf

theorem elemPP : ElemT Tryz.prog 57 91 2 24 := ElemT.mk (z := .agg #[.string default, .int .i64 0]) Tryz.underlying57 (by kernel_rfl) (by kernel_rfl) (by decide)

theorem pcs_one {l : List PP} : ∀ u ∈ l.flatMap pcs, u.oneCell' = true := by
  intro u hu
  simp only [List.mem_flatMap] at hu
  obtain ⟨x, _, hx⟩ := hu
  simp [pcs] at hx
  rcases hx with rfl | rfl <;> rfl

/-- A row that the call owns, or none. -/
theorem lab_Clone (w : World) (A : Option Addr) (c : Nat) (l : List PP) (hl : Sl w 2 A l.length c (l.flatMap pcs)) (h63 : l.length ≤ 10000) :
    Calls Tryz.prog 60 #[.slice A l.length c] w fun e w' => ∃ A' c', e = .returned (.slice A' l.length c') ∧ w'.ownsRow w.heap.size 91 2 (.slice A' l.length c') l.length (l.flatMap pcs) ∧ Fr Nob w w' := by
  have HL := Lib.hid hl
  have hm := hl.max
  have hle := hl.le
  have hnil := hl.nil
  unfold maxLen at hm
  clear hl
  have q24 : ∀ (w : World) (a : Option Addr) (n c n' c' : Nat), Sem.run Tryz.prog (binOp .eql 57 (.slice a n c) (.slice none n' c')) w = .ok (.bool a.isNone) w := fun w a n c n' c' => Lib.run_eql_slice_nil w _ _ a n c n' c' Tryz.underlying57
  cases A with
  | none =>
    have h0 : l = [] := List.eq_nil_of_length_eq_zero (by have := hnil rfl; omega)
    subst h0
    clear hnil
    go_enter Tryz.func60, Tryz.ntmps60
    go_wp2_with fail
    go_ret
    exact ⟨none, 0, rfl, ⟨rfl, .inl ⟨rfl, rfl⟩⟩, Fr.refl _ _⟩
  | some a =>
    clear hnil
    go_enter Tryz.func60, Tryz.ntmps60
    go_wp2_with (at_builtin; refine wpList_app rfl _ _ 57 rfl elemPP (base := w.heap.size) (xs := []) (news := l.flatMap pcs) rfl ?own rfl ?src ?one ?h63 ?hby ?hbase ?_)
    case own => exact World.ownsRow_made w #[] 0 (Nat.le_refl _) (Nat.zero_le _) (by simp)
    case src => exact HL.out.alloc _
    case one => exact pcs_one
    case h63 => unfold maxLen; omega
    case hby => omega
    case hbase => simp
    intro A' c' w1 hown hgr hlies
    go_wp2_with fail
    go_ret
    dsimp only at hown ⊢
    exact ⟨A', c', rfl, hown, ((Fr.refl Nob w).alloc _).grown hgr (fun k hk hlt => by simp at hk; omega)⟩

end Go.Proofs.YtoegdmpmagbaiaaGreatDoor

/- slices.Compact at propositions. -/
namespace Go.Proofs.YtoegdmpmagbaiaaGreatDoor
open Go.RowKit Go.Sort Go.Shelf Go.Lib

def ppeq (x y : PP) : Bool := x.name.toList == y.name.toList && x.value == y.value
theorem ppeq_iff (x y : PP) : ppeq x y = true ↔ x = y := by
  unfold ppeq
  rw [ByteArray.toList_eq, ByteArray.toList_eq]
  constructor
  · intro h
    simp only [Bool.and_eq_true, beq_iff_eq] at h
    exact pp_ext h.1 h.2
  · rintro rfl; simp
instance : DecidableEq PP := fun x y => if h : ppeq x y = true then isTrue ((ppeq_iff x y).1 h) else isFalse fun e => h ((ppeq_iff x y).2 e)

theorem pp_eql (x y : PP) (w : World) : Sem.run Tryz.prog (binOp .eql 91 (.agg #[.string x.name, .int .i64 x.value]) (.agg #[.string y.name, .int .i64 y.value])) w = .ok (.bool (ppeq x y)) w := by
  have hS : Tryz.prog.underlying 91 = some (.struct (Tryz.prog.fieldsOf 91)) := by kernel_rfl
  have hp : Tryz.prog.stoodInHeld 91 = false := by kernel_rfl
  rw [run_eql_struct, show (10000 : Nat) = 9999 + 1 from rfl, run_equalIn_agg w 9999 91 _ _ hS hp]
  simp only [Program.fieldsOf, Tryz.underlying91]
  go_simp
  unfold ppeq
  by_cases h1 : x.name.toList = y.name.toList <;> by_cases h2 : x.value = y.value <;> simp [h1, h2]
theorem pp_neq (x y : PP) (w : World) : Sem.run Tryz.prog (binOp .neq 91 (.agg #[.string x.name, .int .i64 x.value]) (.agg #[.string y.name, .int .i64 y.value])) w = .ok (.bool (!ppeq x y)) w := by
  have hS : Tryz.prog.underlying 91 = some (.struct (Tryz.prog.fieldsOf 91)) := by kernel_rfl
  have hp : Tryz.prog.stoodInHeld 91 = false := by kernel_rfl
  rw [run_neq_struct, show (10000 : Nat) = 9999 + 1 from rfl, run_equalIn_agg w 9999 91 _ _ hS hp]
  simp only [Program.fieldsOf, Tryz.underlying91]
  go_simp
  unfold ppeq
  by_cases h1 : x.name.toList = y.name.toList <;> by_cases h2 : x.value = y.value <;> simp [h1, h2]
theorem pp_guard (op : BinOp) (a b : Operand) (x y : PP) (w : World) : Sem.run Tryz.prog (eqGuard op 91 a b (.agg #[.string x.name, .int .i64 x.value]) (.agg #[.string y.name, .int .i64 y.value])) w = .ok () w :=
  run_eqGuard_agg w op 91 a b _ _ (by kernel_rfl)
theorem Heads.cells {w : World} {b t : Nat} {cur : Array Value} {l : List PP} (h : Blk w b t cur) (hh : Heads cur l) {k : Nat} (hk : k < l.length) :
    w.cell? ⟨b, 0 + k * 2, none⟩ = some (.string l[k].name) ∧ w.cell? ⟨b, 0 + k * 2 + 1, none⟩ = some (.int .i64 l[k].value) := by
  have h0 := flat_get pcs 2 pcs_len l k 0 hk (by omega)
  have h1 := flat_get pcs 2 pcs_len l k 1 hk (by omega)
  rw [h.cell, h.cell, hh.get (by omega), hh.get (by omega), Nat.zero_add, ← Nat.add_zero (k * 2), h0, Nat.add_zero, h1]
  exact ⟨rfl, rfl⟩
theorem Heads.put {cur : Array Value} {l : List PP} (hh : Heads cur l) (hc : l.length * 2 ≤ cur.size) {k : Nat} (hk : k < l.length) (x : PP) :
    Heads ((cur.setIfInBounds (k * 2) (.string x.name)).setIfInBounds (k * 2 + 1) (.int .i64 x.value)) (l.set k x) := by
  unfold Heads
  apply List.ext_getElem?
  intro j
  by_cases hj : j < l.length * 2
  · have h2 := flat_get pcs 2 pcs_len (l.set k x) (j / 2) (j % 2) (by simp; omega) (by omega)
    rw [show j / 2 * 2 + j % 2 = j by omega] at h2
    rw [h2, List.getElem?_take_of_lt (by simpa using hj), Array.getElem?_toList, Array.getElem?_setIfInBounds, Array.getElem?_setIfInBounds, List.getElem_set]
    have h3 := flat_get pcs 2 pcs_len l (j / 2) (j % 2) (by omega) (by omega)
    rw [show j / 2 * 2 + j % 2 = j by omega] at h3
    by_cases hk2 : k = j / 2
    · rw [if_pos hk2]
      rcases Nat.mod_two_eq_zero_or_one j with h | h
      · rw [if_neg (by omega), if_pos (by omega), h, if_pos (by omega)]; rfl
      · rw [if_pos (by omega), h, if_pos (by simp; omega)]; rfl
    · rw [if_neg hk2, if_neg (by omega), if_neg (by omega), hh.get hj, h3]
  · rw [List.getElem?_eq_none (by simp; omega), List.getElem?_eq_none (by rw [flat_len pcs 2 pcs_len]; simp; omega)]
end Go.Proofs.YtoegdmpmagbaiaaGreatDoor

/- clear at a row of propositions. -/
namespace Go.Proofs.YtoegdmpmagbaiaaGreatDoor
open Go.RowKit Go.Sort Go.Shelf Go.Lib

theorem Blk.setCells {b t : Nat} : ∀ (L : List Value) (o : Nat) (w : World) (cur : Array Value), Blk w b t cur → ∃ cur', Blk (w.setCells b o L) b t cur' ∧ cur'.size = cur.size ∧ (∀ i, i < o → cur'[i]? = cur[i]?) ∧ Fr (Only b) w (w.setCells b o L)
  | [], _, w, cur, h => ⟨cur, h, rfl, fun _ _ => rfl, Fr.refl _ w⟩
  | v :: r, o, w, cur, h => by
    obtain ⟨cur', h1, h2, h3, h4⟩ := Blk.setCells r (o + 1) _ _ (h.set o v)
    refine ⟨cur', h1, by rw [h2]; simp, fun i hi => ?_, ((Fr.refl (Only b) w).setCell (p := ⟨b, o, none⟩) (fun _ => rfl) v).call h4 (fun _ e _ => e)⟩
    rw [h3 i (by omega), Array.getElem?_setIfInBounds, if_neg (by omega)]

theorem clear_PP {wr : World} {b t m c o : Nat} {cur : Array Value} (hb : Blk wr b t cur) (ho : o * 2 + m * 2 ≤ cur.size) (hm : 0 < m) :
    ∃ Z : List Value, ∀ ty, (Builtin.clear_ #[57] ty #[.slice (some ⟨b, o * 2, none⟩) m c]).run Tryz.prog wr = .ok (.tuple #[]) (wr.setCells b (o * 2) Z) := by
  have hv : ∀ w, (zeroValue 91).run Tryz.prog w = .ok (.agg #[.string default, .int .i64 0]) w := fun w => by kernel_rfl
  have hzl : (Builtin.zeroCells (Value.agg #[.string default, .int .i64 0]).cells m).toList.length = m * 2 := by simp [Builtin.zeroCells, Value.cells]
  refine ⟨(Builtin.zeroCells (Value.agg #[.string default, .int .i64 0]).cells m).toList, fun ty => ?_⟩
  have hst := run_storeCells_cells (P := Tryz.prog) b (o * 2) (Builtin.zeroCells (Value.agg #[.string default, .int .i64 0]).cells m).toList 0 wr
    (fun j hj => by rw [hb.cell, Array.getElem?_eq_getElem (by omega)]; rfl) (fun j _ => hb.frozen _) (fun v hv' => by
      simp only [Builtin.zeroCells, Value.cells, Array.toList_map, List.mem_map] at hv'
      obtain ⟨i, _, rfl⟩ := hv'
      have : i % 2 = 0 ∨ i % 2 = 1 := by omega
      simp only [List.size_toArray, List.length_cons, List.length_nil]
      rcases this with h | h <;> (simp only [Nat.zero_add, Nat.reduceAdd, h]; rfl))
  simp only [Nat.add_zero] at hst
  obtain ⟨n, rfl⟩ : ∃ n, m = n + 1 := ⟨m - 1, by omega⟩
  simp only [Builtin.clear_]
  simp [run_underlying Tryz.underlying57, hv, hst]
end Go.Proofs.YtoegdmpmagbaiaaGreatDoor
