/- strings.Builder and strconv.FormatInt, for any chapter. -/
import Derived.Test.YtoegdmpmagbaiaaDoorMem
import Derived.Test.YtoegdmpmagbaiaaDoorFlays
import Derived.Test.YtoegdmpmagbaiaaDoorDigs
import Derived.Lib.SmallJoins
import Derived.Lib.AppendIntMem
import Derived.Deep.QuietTactic
namespace Go.Proofs.YtoegdmpmagbaiaaDoor
open Go.RowKit Go.Shelf

theorem bd_sizeB : (Tryd.prog.info? 95).map (·.size) = some 2 := by kernel_rfl
theorem bd_extra : Builder.Extra Tryd.prog Tryd.bdString_ren where
  sizeBuilder := by kernel_rfl
  liesBuilder := by kernel_rfl
  t5 := Tryd.underlying5
  a5 := Tryd.isAgg5
  z5 := Tryd.sizeOf5
  v5 := Tryd.zeroValue5
  infoByte := by kernel_rfl
  cellsByte := by kernel_rfl
  sizeByte := by kernel_rfl
  neB5 := by decide
/-- A builder that holds bytes. -/
def Bd (B b : Nat) (l : List UInt8) (w : World) : Prop := Lib.IsBuilderF 95 5 B b (Lib.byteCells l) w
/-- All other blocks stand but rows of bytes. -/
def BdKeep (b : Nat) (w w' : World) : Prop := Lib.OthersKept 5 (some b) w w'
theorem bd_String (B b : Nat) (l : List UInt8) (w : World) (h : Bd B b l w) (hB : B ≤ w.heap.size) :
    Calls Tryd.prog 48 #[.pointer (some ⟨b, 0, none⟩)] w fun e w' => e = .returned (.string ⟨l.toArray⟩) ∧ Bd B b l w' ∧ Below B w w' ∧ BdKeep b w w' :=
  Any.Builder_String_any_k Tryd.bdString bd_extra B b l w h hB
set_option maxHeartbeats 1000000 in
set_option maxRecDepth 100000 in
theorem bd_check_used (b : Nat) (w : World) (h0 : w.cell? ⟨b, 0, none⟩ = some (.pointer (some ⟨b, 0, none⟩))) :
    Calls Tryd.prog 77 #[.pointer (some ⟨b, 0, none⟩)] w fun e w' => e = .returned (.tuple #[]) ∧ w = w' := by
  obtain ⟨j, hj, _⟩ := Option.map_eq_some_iff.1 bd_sizeB
  go_enter Tryd.func77, Tryd.ntmps77
  go_wp2
  rw [Lib.run_neq_ptr_same w _ Tryd.underlying92 hj]
  go_wp2
  go_end0
  exact ⟨rfl, rfl⟩
set_option maxHeartbeats 1000000 in
set_option maxRecDepth 100000 in
theorem bd_check_fresh (b : Nat) (w : World) (h0 : w.cell? ⟨b, 0, none⟩ = some (.pointer none)) (hsh : w.shape? b = some (95, 2)) (hfz : w.frozen? ⟨b, 0, none⟩ = false) :
    Calls Tryd.prog 77 #[.pointer (some ⟨b, 0, none⟩)] w fun e w' => e = .returned (.tuple #[]) ∧ w.setCell ⟨b, 0, none⟩ (.pointer (some ⟨b, 0, none⟩)) = w' := by
  obtain ⟨j, hj, hjs⟩ := Option.map_eq_some_iff.1 bd_sizeB
  go_enter Tryd.func77, Tryd.ntmps77
  go_wp2
  rw [Lib.run_to_unsafe w ⟨b, 0, none⟩ Tryd.underlying92 Tryd.underlying147 hj (by rw [hjs]; decide) hsh (Nat.zero_lt_succ 1)]
  simp only [Result.andThen]
  rw [Oper.upon_value]
  go_wp2
  rw [run_callFunc_extern Tryd.func90 (by kernel_rfl) (by kernel_rfl) (by kernel_rfl) (e := Extern.AbiNoEscape.same) (by kernel_rfl)]
  rw [Lib.run_noEscape]
  simp only [Result.andThen]
  rw [Oper.upon_value]
  go_wp2
  rw [Lib.run_from_unsafe w ⟨b, 0, none⟩ Tryd.underlying147 Tryd.underlying92 hj hsh (by kernel_rfl)]
  simp only [Result.andThen]
  rw [Oper.upon_value]
  go_wp2
  go_end0
  exact ⟨rfl, rfl⟩
theorem bd_check (B b : Nat) (l : List UInt8) (w : World) (h : Bd B b l w) :
    Calls Tryd.prog 77 #[.pointer (some ⟨b, 0, none⟩)] w fun e w' => e = .returned (.tuple #[]) ∧ (Lib.BuilderAtF 95 5 B b (.pointer (some ⟨b, 0, none⟩)) (Lib.byteCells l) w' ∧ Below B w w' ∧ BdKeep b w w') := by
  rcases h with h | h
  · refine (bd_check_fresh b w h.cell0 h.shape h.frozen0).mono ?_
    rintro e w' ⟨rfl, rfl⟩
    exact ⟨rfl, h.used _, (Below.refl B w).setCell (p := ⟨b, 0, none⟩) h.1 _, (Lib.OthersKept.refl _ _ w).setCell ⟨b, 0, none⟩ rfl _⟩
  · refine (bd_check_used b w h.cell0).mono ?_
    rintro e w' ⟨rfl, rfl⟩
    exact ⟨rfl, h, Below.refl B _, Lib.OthersKept.refl _ _ _⟩
theorem bd_info : (Tryd.prog.info? 5).map (fun i => (i.zero, i.size, i.bytes)) = some (some (.int .u8 0), 1, 1) := by kernel_rfl
theorem strCells_eq (s : ByteArray) : Lib.strCells s = Lib.byteCells s.data.toList := rfl
set_option maxHeartbeats 2000000 in
theorem bd_WriteString (B b : Nat) (l : List UInt8) (s : ByteArray) (w : World) (h : Bd B b l w) (hlen : l.length + s.size ≤ 140737488355328) (hBw : B ≤ w.heap.size) :
    Calls Tryd.prog 44 #[.pointer (some ⟨b, 0, none⟩), .string s] w fun e w' => e = .returned (.tuple #[.int .i64 s.size, .nilIface]) ∧ Bd B b (l ++ s.data.toList) w' ∧ Below B w w' ∧ BdKeep b w w' := by
  obtain ⟨i0, hi, hz0, hz1, hz2⟩ := info_parts bd_info
  go_enter Tryd.func44, Tryd.ntmps44
  go_wp2_with (go_at_call 77; refine (bd_check B b l _ h).mono ?_)
  rintro e w1 ⟨rfl, h1, hb1, hk1⟩
  obtain ⟨hB, v, hbk, hown, hne⟩ := h1
  have c0 : w1.cell? ⟨b, 0, none⟩ = some (.pointer (some ⟨b, 0, none⟩)) := by rw [Lib.cell_of_heap hbk]; rfl
  have c1 : w1.cell? ⟨b, 1, none⟩ = some v := by rw [Lib.cell_of_heap hbk]; rfl
  rw [Lib.byteCells_length] at hown
  go_wp2_with (at_builtin; refine Lib.wpList_append_own_stringF _ rfl _ _ 93 9 rfl B 5 i0 Tryd.underlying93 Tryd.underlying9 hi hz0 hz1 hz2 _ _ _ rfl hown s rfl ?c3 ?c4 ?c5 ?_)
  case c3 => unfold maxLen; omega
  case c4 => omega
  case c5 => have := hb1.size; omega
  intro v' w2 hown' hgrow _
  have hlt : b < w1.heap.size := by
    rcases Nat.lt_or_ge b w1.heap.size with h' | h'
    · exact h'
    · simp [Array.getElem?_eq_none h'] at hbk
  have hb2 : w2.heap[b]? = some (.cells #[.pointer (some ⟨b, 0, none⟩), v] 95 (0, 0)) := by
    rw [hgrow.block b hlt (fun e => hne e.symm)]
    exact hbk
  have d0 : w2.cell? ⟨b, 0, none⟩ = some (.pointer (some ⟨b, 0, none⟩)) := by rw [Lib.cell_of_heap hb2]; rfl
  have d1 : w2.cell? ⟨b, 1, none⟩ = some v := by rw [Lib.cell_of_heap hb2]; rfl
  have f1 : w2.frozen? ⟨b, 1, none⟩ = false := Lib.frozen_of_heap hb2 1
  obtain ⟨ao, n', cap, rfl⟩ : ∃ ao n' cap, v' = .slice ao n' cap := by
    rcases hown'.2 with ⟨hv, _⟩ | ⟨g, cap, cur, fz, hv, _⟩
    · exact ⟨_, _, _, hv⟩
    · exact ⟨_, _, _, hv⟩
  go_wp2
  go_ret2
  refine ⟨rfl, .inr ?_, ?_, (hk1.grown hgrow (Lib.ownsRowF_kind hown)).setCell ⟨b, 1, none⟩ rfl _⟩
  · refine Lib.BuilderAtF.put (T := 95) (e := 5) hB hb2 (bs' := Lib.byteCells (l ++ s.data.toList)) ?_ (by decide)
    rw [Lib.byteCells_length, List.length_append, Lib.byteCells_append]
    exact hown'
  · exact (hb1.grown hgrow (by have := hb1.size; omega) (fun k hk => (hown.lt k hk).1)).setCell (p := ⟨b, 1, none⟩) hB _
theorem Bd.fr {w w' : World} {B : Nat} {l : List UInt8} (h : Bd B B l w) (hf : Fr Nob w w') : Bd B B l w' := by
  have hk : ∀ k o, w.heap[k]? = some o → w'.heap[k]? = some o := fun k o ho => (hf.block k (Array.getElem?_eq_some_iff.1 ho).1 (fun e => e)).trans ho
  have h1 : ∀ p, Lib.BuilderAtF 95 5 B B p (Lib.byteCells l) w → Lib.BuilderAtF 95 5 B B p (Lib.byteCells l) w' := by
    rintro p ⟨h0, v, hb, hown, hne⟩
    refine ⟨h0, v, hk _ _ hb, ⟨hown.1, ?_⟩, hne⟩
    rcases hown.2 with hn | ⟨g, cap, cur, fz, hv, hbb, hg, rest⟩
    · exact .inl hn
    · exact .inr ⟨g, cap, cur, fz, hv, hbb, hk _ _ hg, rest⟩
  exact h.imp (h1 _) (h1 _)
theorem BdKeep.blk {B g : Nat} {w w' : World} {t : TypeId} {cs : Array Value} (h : BdKeep B w w') (hb : Blk w g t cs) (hg : g ≠ B) (ht : t ≠ 5) : Blk w' g t cs :=
  h g _ hb (by simpa using hg) (fun c fz e => by simp only [Obj.cells.injEq] at e; exact ht e.2.1)
end Go.Proofs.YtoegdmpmagbaiaaDoor
namespace Go.Proofs.YtoegdmpmagbaiaaDoor
open Go.RowKit Go.Shelf

/-- The library's table of powers stands. -/
def TbVar (w : World) : Prop := Lib.TabIs Tryd.prog w "internal/strconv.uint64pow10" .u64 Lib.pow10Tab
theorem tb_name : Tryd.prog.globalNamed "internal/strconv.uint64pow10" = some 1 := by kernel_rfl
theorem TbVar.fr {w w' : World} (h : TbVar w) (hf : Fr Nob w w') : TbVar w' := Go.Joins.tab_stays tb_name h hf.below (Nat.le_refl _)
theorem TbVar.below {N : Nat} {w w' : World} (h : TbVar w) (hb : Below N w w') (hN : w.heap.size ≤ N) : TbVar w' := Go.Joins.tab_stays tb_name h hb hN

theorem decDigits_dg : ∀ u : Nat, Lib.decDigits u = dg u := by
  refine dg_ind (p := fun u => Lib.decDigits u = dg u) (fun u h => ?_) (fun u h ih => ?_)
  · rw [dg_small h, Lib.decDigits]; simp [h, dgt]
  · rw [dg_big h, Lib.decDigits, ← ih]; simp [h, dgt]
theorem itoa_digs (n : Int) : Lib.itoa n = digsI n := by
  unfold Lib.itoa digsI
  rw [decDigits_dg, decDigits_dg]
  by_cases h : n < 0
  · rw [if_pos h, if_pos h]
  · rw [if_neg h, if_neg h]; congr 1; omega
theorem sc_Digits (w : World) (n : Int) (hn : I64 n) (ht : TbVar w) : Calls Tryd.prog 47 #[.int .i64 n, .int .i64 10] w fun e w' => e = .returned (.string ⟨(digsI n).toArray⟩) ∧ Fr Nob w w' := by
  have h := Any.strconv_FormatInt_10 Tryd.scFormat n hn.1 hn.2 w ht
  change Calls Tryd.prog 47 _ _ _ at h
  refine h.mono ?_
  rintro e w' ⟨rfl, k, os, rfl⟩
  exact ⟨by rw [itoa_digs], Fr.of_below (Lib.below_grow _ _ (Nat.le_refl _) _ _)⟩
end Go.Proofs.YtoegdmpmagbaiaaDoor
