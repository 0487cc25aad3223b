/- strings.Builder, strconv.FormatInt, formula.Show. -/
import Derived.Test.YtoegdmpmagbaiaaDoorMem
import Derived.Test.YtoegdmpmagbaiaaDoorFlays
import Derived.Test.YtoegdmpmagbaiaaDoorDigs
import Derived.Test.YtoegdmpmagbaiaaDoorFtxt
import Derived.Lib.SmallJoins
import Derived.Lib.AppendIntMem
import Derived.Deep.QuietTactic
import Derived.Test.YtoegdmpmagbaiaaDoorFsame2
namespace Go.Proofs.YtoegdmpmagbaiaaDoor
open Go.RowKit Go.Shelf

theorem bd_sizeB : (Tryd.prog.info? 95).map (·.size) = some 2 := by kernel_rfl
theorem bd_extra : Builder.Extra Tryd.prog Tryd.bdString_ren where
  sizeBuilder := by kernel_rfl
  liesBuilder := by kernel_rfl
  t5 := Tryd.underlying5
  a5 := Tryd.isAgg5
  z5 := Tryd.sizeOf5
  v5 := Tryd.zeroValue5
  infoByte := by kernel_rfl
  cellsByte := by kernel_rfl
  sizeByte := by kernel_rfl
  neB5 := by decide
/-- A builder that holds bytes. -/
def Bd (B b : Nat) (l : List UInt8) (w : World) : Prop := Lib.IsBuilderF 95 5 B b (Lib.byteCells l) w
/-- All other blocks stand but rows of bytes. -/
def BdKeep (b : Nat) (w w' : World) : Prop := Lib.OthersKept 5 (some b) w w'
theorem bd_String (B b : Nat) (l : List UInt8) (w : World) (h : Bd B b l w) (hB : B ≤ w.heap.size) :
    Calls Tryd.prog 48 #[.pointer (some ⟨b, 0, none⟩)] w fun e w' => e = .returned (.string ⟨l.toArray⟩) ∧ Bd B b l w' ∧ Below B w w' ∧ BdKeep b w w' :=
  Any.Builder_String_any_k Tryd.bdString bd_extra B b l w h hB
set_option maxHeartbeats 1000000 in
set_option maxRecDepth 100000 in
theorem bd_check_used (b : Nat) (w : World) (h0 : w.cell? ⟨b, 0, none⟩ = some (.pointer (some ⟨b, 0, none⟩))) :
    Calls Tryd.prog 77 #[.pointer (some ⟨b, 0, none⟩)] w fun e w' => e = .returned (.tuple #[]) ∧ w = w' := by
  obtain ⟨j, hj, _⟩ := Option.map_eq_some_iff.1 bd_sizeB
  go_enter Tryd.func77, Tryd.ntmps77
  go_wp2
  rw [Lib.run_neq_ptr_same w _ Tryd.underlying92 hj]
  go_wp2
  go_end0
  exact ⟨rfl, rfl⟩
set_option maxHeartbeats 1000000 in
set_option maxRecDepth 100000 in
theorem bd_check_fresh (b : Nat) (w : World) (h0 : w.cell? ⟨b, 0, none⟩ = some (.pointer none)) (hsh : w.shape? b = some (95, 2)) (hfz : w.frozen? ⟨b, 0, none⟩ = false) :
    Calls Tryd.prog 77 #[.pointer (some ⟨b, 0, none⟩)] w fun e w' => e = .returned (.tuple #[]) ∧ w.setCell ⟨b, 0, none⟩ (.pointer (some ⟨b, 0, none⟩)) = w' := by
  obtain ⟨j, hj, hjs⟩ := Option.map_eq_some_iff.1 bd_sizeB
  go_enter Tryd.func77, Tryd.ntmps77
  go_wp2
  rw [Lib.run_to_unsafe w ⟨b, 0, none⟩ Tryd.underlying92 Tryd.underlying147 hj (by rw [hjs]; decide) hsh (Nat.zero_lt_succ 1)]
  simp only [Result.andThen]
  rw [Oper.upon_value]
  go_wp2
  rw [run_callFunc_extern Tryd.func90 (by kernel_rfl) (by kernel_rfl) (by kernel_rfl) (e := Extern.AbiNoEscape.same) (by kernel_rfl)]
  rw [Lib.run_noEscape]
  simp only [Result.andThen]
  rw [Oper.upon_value]
  go_wp2
  rw [Lib.run_from_unsafe w ⟨b, 0, none⟩ Tryd.underlying147 Tryd.underlying92 hj hsh (by kernel_rfl)]
  simp only [Result.andThen]
  rw [Oper.upon_value]
  go_wp2
  go_end0
  exact ⟨rfl, rfl⟩
theorem bd_check (B b : Nat) (l : List UInt8) (w : World) (h : Bd B b l w) :
    Calls Tryd.prog 77 #[.pointer (some ⟨b, 0, none⟩)] w fun e w' => e = .returned (.tuple #[]) ∧ (Lib.BuilderAtF 95 5 B b (.pointer (some ⟨b, 0, none⟩)) (Lib.byteCells l) w' ∧ Below B w w' ∧ BdKeep b w w') := by
  rcases h with h | h
  · refine (bd_check_fresh b w h.cell0 h.shape h.frozen0).mono ?_
    rintro e w' ⟨rfl, rfl⟩
    exact ⟨rfl, h.used _, (Below.refl B w).setCell (p := ⟨b, 0, none⟩) h.1 _, (Lib.OthersKept.refl _ _ w).setCell ⟨b, 0, none⟩ rfl _⟩
  · refine (bd_check_used b w h.cell0).mono ?_
    rintro e w' ⟨rfl, rfl⟩
    exact ⟨rfl, h, Below.refl B _, Lib.OthersKept.refl _ _ _⟩
theorem bd_info : (Tryd.prog.info? 5).map (fun i => (i.zero, i.size, i.bytes)) = some (some (.int .u8 0), 1, 1) := by kernel_rfl
theorem strCells_eq (s : ByteArray) : Lib.strCells s = Lib.byteCells s.data.toList := rfl
set_option maxHeartbeats 2000000 in
theorem bd_WriteString (B b : Nat) (l : List UInt8) (s : ByteArray) (w : World) (h : Bd B b l w) (hlen : l.length + s.size ≤ 140737488355328) (hBw : B ≤ w.heap.size) :
    Calls Tryd.prog 44 #[.pointer (some ⟨b, 0, none⟩), .string s] w fun e w' => e = .returned (.tuple #[.int .i64 s.size, .nilIface]) ∧ Bd B b (l ++ s.data.toList) w' ∧ Below B w w' ∧ BdKeep b w w' := by
  obtain ⟨i0, hi, hz0, hz1, hz2⟩ := info_parts bd_info
  go_enter Tryd.func44, Tryd.ntmps44
  go_wp2_with (go_at_call 77; refine (bd_check B b l _ h).mono ?_)
  rintro e w1 ⟨rfl, h1, hb1, hk1⟩
  obtain ⟨hB, v, hbk, hown, hne⟩ := h1
  have c0 : w1.cell? ⟨b, 0, none⟩ = some (.pointer (some ⟨b, 0, none⟩)) := by rw [Lib.cell_of_heap hbk]; rfl
  have c1 : w1.cell? ⟨b, 1, none⟩ = some v := by rw [Lib.cell_of_heap hbk]; rfl
  rw [Lib.byteCells_length] at hown
  go_wp2_with (at_builtin; refine Lib.wpList_append_own_stringF _ rfl _ _ 93 9 rfl B 5 i0 Tryd.underlying93 Tryd.underlying9 hi hz0 hz1 hz2 _ _ _ rfl hown s rfl ?c3 ?c4 ?c5 ?_)
  case c3 => unfold maxLen; omega
  case c4 => omega
  case c5 => have := hb1.size; omega
  intro v' w2 hown' hgrow _
  have hlt : b < w1.heap.size := by
    rcases Nat.lt_or_ge b w1.heap.size with h' | h'
    · exact h'
    · simp [Array.getElem?_eq_none h'] at hbk
  have hb2 : w2.heap[b]? = some (.cells #[.pointer (some ⟨b, 0, none⟩), v] 95 (0, 0)) := by
    rw [hgrow.block b hlt (fun e => hne e.symm)]
    exact hbk
  have d0 : w2.cell? ⟨b, 0, none⟩ = some (.pointer (some ⟨b, 0, none⟩)) := by rw [Lib.cell_of_heap hb2]; rfl
  have d1 : w2.cell? ⟨b, 1, none⟩ = some v := by rw [Lib.cell_of_heap hb2]; rfl
  have f1 : w2.frozen? ⟨b, 1, none⟩ = false := Lib.frozen_of_heap hb2 1
  obtain ⟨ao, n', cap, rfl⟩ : ∃ ao n' cap, v' = .slice ao n' cap := by
    rcases hown'.2 with ⟨hv, _⟩ | ⟨g, cap, cur, fz, hv, _⟩
    · exact ⟨_, _, _, hv⟩
    · exact ⟨_, _, _, hv⟩
  go_wp2
  go_ret2
  refine ⟨rfl, .inr ?_, ?_, (hk1.grown hgrow (Lib.ownsRowF_kind hown)).setCell ⟨b, 1, none⟩ rfl _⟩
  · refine Lib.BuilderAtF.put (T := 95) (e := 5) hB hb2 (bs' := Lib.byteCells (l ++ s.data.toList)) ?_ (by decide)
    rw [Lib.byteCells_length, List.length_append, Lib.byteCells_append]
    exact hown'
  · exact (hb1.grown hgrow (by have := hb1.size; omega) (fun k hk => (hown.lt k hk).1)).setCell (p := ⟨b, 1, none⟩) hB _
end Go.Proofs.YtoegdmpmagbaiaaDoor
namespace Go.Proofs.YtoegdmpmagbaiaaDoor
open Go.RowKit Go.Shelf

/-- The library's table of powers stands. -/
def TbVar (w : World) : Prop := Lib.TabIs Tryd.prog w "internal/strconv.uint64pow10" .u64 Lib.pow10Tab
theorem tb_name : Tryd.prog.globalNamed "internal/strconv.uint64pow10" = some 1 := by kernel_rfl
theorem TbVar.fr {w w' : World} (h : TbVar w) (hf : Fr Nob w w') : TbVar w' := Go.Joins.tab_stays tb_name h hf.below (Nat.le_refl _)
theorem TbVar.below {N : Nat} {w w' : World} (h : TbVar w) (hb : Below N w w') (hN : w.heap.size ≤ N) : TbVar w' := Go.Joins.tab_stays tb_name h hb hN

theorem decDigits_dg : ∀ u : Nat, Lib.decDigits u = dg u := by
  refine dg_ind (p := fun u => Lib.decDigits u = dg u) (fun u h => ?_) (fun u h ih => ?_)
  · rw [dg_small h, Lib.decDigits]; simp [h, dgt]
  · rw [dg_big h, Lib.decDigits, ← ih]; simp [h, dgt]
theorem itoa_digs (n : Int) : Lib.itoa n = digsI n := by
  unfold Lib.itoa digsI
  rw [decDigits_dg, decDigits_dg]
  by_cases h : n < 0
  · rw [if_pos h, if_pos h]
  · rw [if_neg h, if_neg h]; congr 1; omega
theorem sc_Format (w : World) (n : Int) (hn : I64 n) (ht : TbVar w) : Calls Tryd.prog 47 #[.int .i64 n, .int .i64 10] w fun e w' => e = .returned (.string (decB n)) ∧ Fr Nob w w' := by
  have h := Any.strconv_FormatInt_10 Tryd.scFormat n hn.1 hn.2 w ht
  change Calls Tryd.prog 47 _ _ _ at h
  refine h.mono ?_
  rintro e w' ⟨rfl, k, os, rfl⟩
  exact ⟨by rw [itoa_digs]; rfl, Fr.of_below (Lib.below_grow _ _ (Nat.le_refl _) _ _)⟩
set_option maxHeartbeats 1000000 in
theorem sat_Text (w : World) (lo hi : Int) (h1 : I64 lo) (h2 : I64 hi) (ht : TbVar w) : Calls Tryd.prog 96 #[.agg #[.int .i64 lo, .int .i64 hi]] w fun e w' => e = .returned (.string (spanT lo hi)) ∧ Fr Nob w w' := by
  have s1 := decB_size h1
  have s2 := decB_size h2
  have HT := Lib.hid (fun W (h : Fr Nob w W) n hn => sc_Format W n hn (ht.fr h))
  unfold spanT
  have k1 := cat_ok ⟨#[91]⟩ (decB lo) (by rw [sz1]; omega)
  have k2 := cat_ok (⟨#[91]⟩ ++ decB lo) ⟨#[44]⟩ (by simp only [ByteArray.size_append, sz1]; omega)
  have k3 := cat_ok (⟨#[91]⟩ ++ decB lo ++ ⟨#[44]⟩) (decB hi) (by simp only [ByteArray.size_append, sz1]; omega)
  have k4 := cat_ok (⟨#[91]⟩ ++ decB lo ++ ⟨#[44]⟩ ++ decB hi) ⟨#[93]⟩ (by simp only [ByteArray.size_append, sz1]; omega)
  clear s1 s2 ht
  go_enter Tryd.func96, Tryd.ntmps96
  go_wp2_with fail
  go_region_held3 (fun w' => w'.cell? ⟨w.heap.size, 0, none⟩ = some (.int .i64 lo) ∧ w'.cell? ⟨w.heap.size, 1, none⟩ = some (.int .i64 hi))
    (first | go_keep | (go_split_ands; refine ⟨?_, ?_⟩ <;> first | exact Fr.cell hf2 (by assumption) (fun e => e) | exact Fr.cell hf1 (by assumption) (fun e => e)))
    (first | ((go_at_call 47); with_reducible refine (HT.out _ ((Fr.refl _ _).alloc _).drew lo h1).mono ?_; rintro e w1 ⟨rfl, hf1⟩) | ((go_at_call 47); refine (HT.out _ (((Fr.refl _ _).alloc _).drew.call hf1 (fun _ h _ => h)) hi h2).mono ?_; rintro e w2 ⟨rfl, hf2⟩))
  go_wp2_with fail
  go_ret
  exact ⟨rfl, (((Fr.refl _ _).alloc _).drew.call hf1 (fun _ h _ => h)).call hf2 (fun _ h _ => h)⟩
set_option maxHeartbeats 1000000 in
theorem prg_compare (w : World) (c : Int) : Calls Tryd.prog 95 #[.int .i64 c] w fun e w' => e = .returned (.string (cmpT c)) ∧ w = w' := by
  go_enter Tryd.func95, Tryd.ntmps95
  go_wp2_with fail
  all_goals
    go_ret
    refine ⟨ret1 ?_, rfl⟩
    unfold cmpT
  all_goals (repeat' split) <;> first | rfl | omega | (exfalso; simp at *; omega)
end Go.Proofs.YtoegdmpmagbaiaaDoor
namespace Go.Proofs.YtoegdmpmagbaiaaDoor
open Go.RowKit Go.Shelf

set_option maxHeartbeats 2000000 in
theorem prg_sign (w : World) (b off : Nat) (x : Nd) (A : Option Addr) (n c : Nat) (hx : NdOk x) (h4 : 4 ≤ x.op) (h12 : x.op ≤ 12) (ht : TbVar w) (hn : NdAt w b off x A n c) :
    Calls Tryd.prog 82 #[.pointer (some ⟨b, off, none⟩)] w fun e w' => e = .returned (.string (signT x)) ∧ Fr Nob w w' := by
  obtain ⟨d0, d1, d2, d3, d4, d5, d6⟩ := hn
  have hss := spanT_size hx.lo hx.hi
  have HC := Lib.hid (fun W (h : Fr Nob w W) => sat_Text W x.lo x.hi hx.lo hx.hi (ht.fr h))
  clear hx ht
  obtain ⟨op, nm, cm, va, lo, hi⟩ := x
  simp only at *
  have ho : op = 4 ∨ op = 5 ∨ op = 6 ∨ op = 7 ∨ op = 8 ∨ op = 9 ∨ op = 10 ∨ op = 11 ∨ op = 12 := by omega
  have k1 := cat_ok ⟨#[70]⟩ (spanT lo hi) (by rw [sz1]; omega)
  have k2 := cat_ok (⟨#[70]⟩ ++ spanT lo hi) ⟨#[32]⟩ (by simp only [ByteArray.size_append, sz1]; omega)
  have k3 := cat_ok ⟨#[71]⟩ (spanT lo hi) (by rw [sz1]; omega)
  have k4 := cat_ok (⟨#[71]⟩ ++ spanT lo hi) ⟨#[32]⟩ (by simp only [ByteArray.size_append, sz1]; omega)
  have k5 := cat_ok ⟨#[85]⟩ (spanT lo hi) (by rw [sz1]; omega)
  have k6 := cat_ok ⟨#[82]⟩ (spanT lo hi) (by rw [sz1]; omega)
  unfold signT
  simp only
  clear hss h4 h12
  generalize spanT lo hi = sp at *
  rcases ho with rfl | rfl | rfl | rfl | rfl | rfl | rfl | rfl | rfl
  all_goals
    go_enter Tryd.func82, Tryd.ntmps82
    go_wp2_with ((go_at_call 96); refine (HC.out _ (Fr.refl _ _)).mono ?_; rintro e w1 ⟨rfl, hf1⟩)
    go_ret
    exact ⟨rfl, by first | exact Fr.refl _ _ | exact hf1⟩
set_option maxHeartbeats 2000000 in
theorem prg_leaf (w : World) (b off : Nat) (x : Nd) (A : Option Addr) (n c : Nat) (hx : NdOk x) (h4 : 1 ≤ x.op) (h12 : x.op ≤ 3) (hsz : x.name.size ≤ 1000000) (ht : TbVar w) (hn : NdAt w b off x A n c) :
    Calls Tryd.prog 81 #[.pointer (some ⟨b, off, none⟩)] w fun e w' => e = .returned (.string (leafT x)) ∧ Fr Nob w w' := by
  obtain ⟨d0, d1, d2, d3, d4, d5, d6⟩ := hn
  have HS := Lib.hid (fun W => prg_compare W x.cmp)
  have HD := Lib.hid (fun W (h : Fr Nob w W) => sc_Format W x.val hx.val (ht.fr h))
  have s1 := decB_size hx.val
  have s2 := cmpT_size x.cmp
  have k1 := cat_ok x.name ⟨#[32]⟩ (by rw [sz1]; omega)
  have k2 := cat_ok (x.name ++ ⟨#[32]⟩) (cmpT x.cmp) (by simp only [ByteArray.size_append, sz1]; omega)
  have k3 := cat_ok (x.name ++ ⟨#[32]⟩ ++ cmpT x.cmp) ⟨#[32]⟩ (by simp only [ByteArray.size_append, sz1]; omega)
  have k4 := cat_ok (x.name ++ ⟨#[32]⟩ ++ cmpT x.cmp ++ ⟨#[32]⟩) (decB x.val) (by simp only [ByteArray.size_append, sz1]; omega)
  unfold leafT
  clear s1 s2 hx ht hsz
  obtain ⟨op, nm, cm, va, lo, hi⟩ := x
  simp only at *
  generalize decB va = dv at *
  generalize cmpT cm = ct at *
  rcases (show op = 1 ∨ op = 2 ∨ op = 3 by omega) with rfl | rfl | rfl
  · clear h4 h12
    go_enter Tryd.func81, Tryd.ntmps81
    go_wp2_with fail
    go_ret
    exact ⟨rfl, Fr.refl _ _⟩
  · clear h4 h12
    go_enter Tryd.func81, Tryd.ntmps81
    go_wp2_with fail
    go_ret
    exact ⟨rfl, Fr.refl _ _⟩
  · clear h4 h12
    by_cases hc : cm = 0
    · subst hc
      go_enter Tryd.func81, Tryd.ntmps81
      go_wp2_with fail
      go_ret
      exact ⟨rfl, Fr.refl _ _⟩
    · have hc' : (cm == 0) = false := by simpa using hc
      rw [if_neg (by decide), if_neg (by decide), if_neg hc]
      clear hc
      go_enter Tryd.func81, Tryd.ntmps81
      go_wp2_with fail
      go_region_held3 (fun w' => w'.cell? ⟨b, off + 1, none⟩ = some (.string nm) ∧ w'.cell? ⟨b, off + 2, none⟩ = some (.int .i64 cm) ∧ w'.cell? ⟨b, off + 3, none⟩ = some (.int .i64 va))
        (first | go_keep | (go_split_ands; refine ⟨?_, ?_, ?_⟩ <;> exact Fr.cell hf1 (by assumption) (fun e => e)))
        (first | ((go_at_call 95); refine (HS.out _).mono ?_; rintro e w1 ⟨rfl, rfl⟩) | ((go_at_call 47); refine (HD.out _ (Fr.refl _ _).drew).mono ?_; rintro e w1 ⟨rfl, hf1⟩))
      go_wp2_with fail
      go_ret
      exact ⟨rfl, (Fr.refl _ _).drew.call hf1 (fun _ h _ => h)⟩

/-- A piece of a text: bytes, and a node whose text stands behind them. -/
structure SPt where
  t : ByteArray
  q : Option Addr
def ptc (p : SPt) : List Value := [.string p.t, .pointer p.q]
theorem ptc_len (p : SPt) : (ptc p).length = 2 := rfl
def prow (l : List SPt) : List Value := l.flatMap ptc
theorem prow_len (l : List SPt) : (prow l).length = l.length * 2 := by
  induction l with
  | nil => rfl
  | cons e r ih => rw [prow, List.flatMap_cons, List.length_append, ptc_len]; rw [prow] at ih; rw [ih, List.length_cons]; omega
theorem prow_app (l m : List SPt) : prow (l ++ m) = prow l ++ prow m := by simp [prow]
theorem prow_one (l : List SPt) : ∀ u ∈ prow l, u.oneCell' = true := by
  intro u hu
  simp only [prow, List.mem_flatMap] at hu
  obtain ⟨p, _, hu⟩ := hu
  simp [ptc] at hu
  rcases hu with rfl | rfl <;> rfl
def kidP (p : Int) (o : Int) (a : Addr) : List SPt := if placeN o < p then [⟨⟨#[40]⟩, some a⟩, ⟨⟨#[41]⟩, none⟩] else [⟨⟨#[]⟩, some a⟩]
theorem kidP_len (p o : Int) (a : Addr) : 1 ≤ (kidP p o a).length ∧ (kidP p o a).length ≤ 2 := by unfold kidP; split <;> simp
theorem elemSPt : ElemT Tryd.prog 111 110 2 24 := ElemT.mk (z := .agg #[.string ⟨#[]⟩, .pointer none]) Tryd.underlying111 (by kernel_rfl) (by kernel_rfl) (by decide)
/-- The pieces that a call hands back, in memory of its own. -/
def PartsAt (w w' : World) (e : Ending) (l : List SPt) : Prop := ∃ A c, e = .returned (.slice A l.length c) ∧ w'.ownsRow w.heap.size 110 2 (.slice A l.length c) l.length (prow l) ∧ Fr Nob w w'
theorem parts_new {w : World} {e : Ending} {l : List SPt} {k : Nat} {cs : Array Value} (he : e = .returned (.slice (some ⟨w.heap.size, 0, none⟩) l.length l.length)) (hl : l.length ≤ 1000) (hc : cs.toList = prow l) : PartsAt w ((w.drewN k).alloc (.cells cs 110)) e l := by
  refine ⟨_, _, he, ⟨prow_len l, .inr ⟨w.heap.size, l.length, cs, rfl, Nat.le_refl _, ?_, Nat.le_refl _, by unfold maxLen; omega, ?_, ?_⟩⟩, ((Fr.refl _ _).drewN _).alloc _⟩
  · exact heap_alloc_new (w.drewN k) _
  · rw [← Array.length_toList, hc, prow_len]
  · rw [hc, List.take_of_length_le (by rw [prow_len]; exact Nat.le_refl _)]
theorem own_new1 {w : World} {base n : Nat} {l : List Value} {cs : Array Value} (hb : base ≤ w.heap.size) (hn : n ≤ 1000) (hl : l.length = n * 2) (hc : cs.toList = l) : (w.alloc (.cells cs 110)).ownsRow base 110 2 (.slice (some ⟨w.heap.size, 0, none⟩) n n) n l := by
  refine ⟨hl, .inr ⟨w.heap.size, n, cs, rfl, hb, heap_alloc_new w _, Nat.le_refl _, by unfold maxLen; omega, ?_, ?_⟩⟩
  · rw [← Array.length_toList, hc, hl]
  · rw [hc, List.take_of_length_le (by rw [hl]; exact Nat.le_refl _)]
theorem parts_own {w w' : World} {l : List SPt} {A : Option Addr} {n c : Nat} (hn : n = l.length) (h : w'.ownsRow w.heap.size 110 2 (.slice A n c) n (prow l)) (hf : Fr Nob w w') : PartsAt w w' (.returned (.slice A n c)) l := by
  subst hn; exact ⟨A, c, rfl, h, hf⟩
theorem parts_new' {w w1 : World} {e : Ending} {l : List SPt} {cs : Array Value} (hf : Fr Nob w w1) (he : e = .returned (.slice (some ⟨w1.heap.size, 0, none⟩) l.length l.length)) (hl : l.length ≤ 1000) (hc : cs.toList = prow l) : PartsAt w (w1.alloc (.cells cs 110)) e l :=
  ⟨_, _, he, own_new1 hf.size hl (prow_len l) hc, hf.alloc _⟩
theorem shape_place : ∀ k (h : k < shapeL.length), 1 ≤ k → shapeL[k].2.1 = placeN k ∧ (kidsN k ≠ 0 → shapeL[k].2.2.1 = pl0 k) ∧ (kidsN k = 2 → shapeL[k].2.2.2 = pl1 k) := by
  intro k h
  simp only [shapeL, List.length_cons, List.length_nil] at h
  have : k = 0 ∨ k = 1 ∨ k = 2 ∨ k = 3 ∨ k = 4 ∨ k = 5 ∨ k = 6 ∨ k = 7 ∨ k = 8 ∨ k = 9 ∨ k = 10 ∨ k = 11 ∨ k = 12 := by omega
  rcases this with rfl | rfl | rfl | rfl | rfl | rfl | rfl | rfl | rfl | rfl | rfl | rfl | rfl <;> intro _ <;> first | omega | (refine ⟨rfl, ?_, ?_⟩ <;> intro h <;> first | rfl | (exfalso; revert h; decide))
set_option maxHeartbeats 2000000 in
theorem prg_kid (w : World) (hv : ShVar w) (b off : Nat) (x : Nd) (kb ko : Nat) (n c : Nat) (hn : NdAt w b off x (some ⟨kb, ko, none⟩) n c) (i : Nat) (hi : i = 0 ∨ i = 1) (hin : i < n) (hx : 1 ≤ x.op ∧ x.op ≤ 12) (hk0 : kidsN x.op ≠ 0) (hk1 : i = 1 → kidsN x.op = 2)
    (y : Nd) (B : Option Addr) (m d : Nat) (hy : NdAt w kb (ko + i * 7) y B m d) (hyo : 1 ≤ y.op ∧ y.op ≤ 12) :
    Calls Tryd.prog 83 #[.pointer (some ⟨b, off, none⟩), .int .i64 i] w fun e w' => PartsAt w w' e (kidP (if i = 0 then pl0 x.op else pl1 x.op) y.op ⟨kb, ko + i * 7, none⟩) := by
  obtain ⟨d0, d1, d2, d3, d4, d5, d6⟩ := hn
  obtain ⟨t0, t1, t2, t3, t4, t5, t6⟩ := hy
  obtain ⟨k, hk⟩ : ∃ k : Nat, x.op = k := ⟨x.op.toNat, by omega⟩
  obtain ⟨l, hl⟩ : ∃ l : Nat, y.op = l := ⟨y.op.toNat, by omega⟩
  have hkl : k < shapeL.length := by simp [shapeL]; omega
  have hll : l < shapeL.length := by simp [shapeL]; omega
  have s1 := (hv l hll).2.1
  rw [(shape_place l hll (by omega)).1] at s1
  rw [hk] at d0 hk0 hk1 ⊢
  rw [hl] at t0 ⊢
  have hk13 : (k : Int) < 13 := by omega
  have hk00 : (0 : Int) ≤ k := by omega
  have hl13 : (l : Int) < 13 := by omega
  have hl00 : (0 : Int) ≤ l := by omega
  have hin' : (i : Int) < n := by omega
  have hi0 : (0 : Int) ≤ i := by omega
  have hi2 : (i : Int) < 2 := by omega
  have s2 : w.cell? ⟨0, k * 4 + 2 + i, none⟩ = some (.int .i64 (if i = 0 then pl0 k else pl1 k)) := by
    have hp := shape_place k hkl (by omega)
    rcases hi with rfl | rfl
    · rw [if_pos rfl, ← hp.2.1 hk0]; exact (hv k hkl).2.2.1
    · rw [if_neg (by decide), ← hp.2.2 (hk1 rfl)]; exact (hv k hkl).2.2.2
  generalize (if i = 0 then pl0 (k : Int) else pl1 (k : Int)) = p at *
  generalize hpl : placeN (l : Int) = q at *
  clear hx hyo hv hkl hll hi hk0 hk1 hk hl
  by_cases hq : q < p
  · have HR := Lib.hid (show kidP p l ⟨kb, ko + i * 7, none⟩ = [⟨⟨#[40]⟩, some ⟨kb, ko + i * 7, none⟩⟩, ⟨⟨#[41]⟩, none⟩] by unfold kidP; rw [hpl, if_pos hq])
    clear hpl
    go_enter Tryd.func83, Tryd.ntmps83
    go_wp2_with fail
    go_quiet (fail)
    go_wp2_with fail
    go_ret
    rw [HR.out]
    exact parts_new rfl (by simp) (by simp [prow, ptc])
  · have HR := Lib.hid (show kidP p l ⟨kb, ko + i * 7, none⟩ = [⟨⟨#[]⟩, some ⟨kb, ko + i * 7, none⟩⟩] by unfold kidP; rw [hpl, if_neg hq])
    have hq' : p ≤ q := by omega
    clear hpl hq
    go_enter Tryd.func83, Tryd.ntmps83
    go_wp2_with fail
    go_quiet (fail)
    go_wp2_with fail
    go_ret
    rw [HR.out]
    exact parts_new rfl (by simp) (by simp [prow, ptc])
/-- The pieces of a node's text. -/
def partsN (x : Nd) (ks : Fo) (kb ko : Nat) : List SPt :=
  if kidsN x.op = 0 then [⟨leafT x, none⟩]
  else match ks with
    | .cons y _ _ _ rs => if kidsN x.op = 1 then [⟨signT x, none⟩] ++ kidP (pl0 x.op) y.op ⟨kb, ko, none⟩
      else match rs with
        | .cons z _ _ _ _ => kidP (pl0 x.op) y.op ⟨kb, ko, none⟩ ++ [⟨⟨#[32]⟩ ++ signT x ++ ⟨#[32]⟩, none⟩] ++ kidP (pl1 x.op) z.op ⟨kb, ko + 7, none⟩
        | .nil => []
    | .nil => []
set_option maxHeartbeats 2000000 in
theorem prg_parts0 (w : World) (hv : ShVar w) (ht : TbVar w) (b off : Nat) (x : Nd) (A : Option Addr) (c : Nat) (ks : Fo) (hok : TxOk x ks) (hn : NdAt w b off x A ks.len c) (h0 : kidsN x.op = 0) :
    Calls Tryd.prog 50 #[.pointer (some ⟨b, off, none⟩)] w fun e w' => PartsAt w w' e [⟨leafT x, none⟩] := by
  have hop := wrong_op hok.wr
  have hop3 : x.op ≤ 3 := by unfold kidsN at h0; split at h0; assumption; split at h0 <;> omega
  obtain ⟨k, hk⟩ : ∃ k : Nat, x.op = k := ⟨x.op.toNat, by omega⟩
  have HL := Lib.hid (fun W (hf : Fr Nob w W) => prg_leaf W b off x A ks.len c hok.nd hop.1 hop3 (by have := hok.wt; omega) (ht.fr hf) (hn.fr hf))
  have hkl : k < shapeL.length := by simp [shapeL]; omega
  have s1 := (hv k hkl).1
  rw [shape_kids, ← hk, h0] at s1
  have hk13 : (k : Int) < 13 := by omega
  have hk00 : (0 : Int) ≤ k := by omega
  have d0 := hn.h0
  rw [hk] at d0
  clear hv ht hn hok hop h0 hop3 hk hkl
  go_enter Tryd.func50, Tryd.ntmps50
  go_wp2_with ((go_at_call 81); refine (HL.out _ (Fr.refl _ _)).mono ?_; rintro e w1 ⟨rfl, hf1⟩)
  go_ret
  exact parts_new' hf1 rfl (by simp) rfl
set_option maxRecDepth 100000 in
set_option maxHeartbeats 4000000 in
theorem prg_parts1 (w : World) (hv : ShVar w) (ht : TbVar w) (b off : Nat) (x : Nd) (kb ko : Nat) (c : Nat) (ks : Fo) (hok : TxOk x ks) (hn : NdAt w b off x (some ⟨kb, ko, none⟩) ks.len c) (h1 : kidsN x.op = 1)
    (y : Nd) (B : Option Addr) (m d : Nat) (hy : NdAt w kb ko y B m d) (hyo : 1 ≤ y.op ∧ y.op ≤ 12) :
    Calls Tryd.prog 50 #[.pointer (some ⟨b, off, none⟩)] w fun e w' => PartsAt w w' e ([⟨signT x, none⟩] ++ kidP (pl0 x.op) y.op ⟨kb, ko, none⟩) := by
  have hop := wrong_op hok.wr
  have ho := op_one (by omega) h1
  obtain ⟨k, hk⟩ : ∃ k : Nat, x.op = k := ⟨x.op.toNat, by omega⟩
  have HL := Lib.hid (fun W (hf : Fr Nob w W) => prg_sign W b off x (some ⟨kb, ko, none⟩) ks.len c hok.nd (by omega) hop.2.1 (ht.fr hf) (hn.fr hf))
  have HK := Lib.hid (fun W (hf : Fr Nob w W) => prg_kid W (hv.fr hf) b off x kb ko ks.len c (hn.fr hf) 0 (.inl rfl) (by omega) ⟨hop.1, hop.2.1⟩ (by omega) (by omega) y B m d (by simpa using hy.fr hf) hyo)
  simp only [Nat.zero_mul, Nat.add_zero, if_true, Int.natCast_zero] at HK
  have hkl : k < shapeL.length := by simp [shapeL]; omega
  have s1 := (hv k hkl).1
  rw [shape_kids, ← hk, h1] at s1
  have hk13 : (k : Int) < 13 := by omega
  have hk00 : (0 : Int) ≤ k := by omega
  have d0 := hn.h0
  rw [hk] at d0
  have hll := (kidP_len (pl0 x.op) y.op ⟨kb, ko, none⟩).2
  clear hv ht hn hok hop h1 hk hkl ho hy hyo
  generalize kidP (pl0 x.op) y.op ⟨kb, ko, none⟩ = L at *
  generalize signT x = sx at *
  go_enter Tryd.func50, Tryd.ntmps50
  go_wp2_with (first | ((go_at_call 82); refine (HL.out _ (Fr.refl _ _)).mono ?_; rintro e w1 ⟨rfl, hf1⟩) | ((go_at_call 83); refine (HK.out _ (hf1.alloc _)).mono ?_; intro e w2 hp; obtain ⟨A2, c2, rfl, hown2, hf2⟩ := hp; have HO2 := Lib.hid hown2; have HF2 := Lib.hid hf2; clear hown2 hf2) | (at_builtin; refine wpList_app rfl _ _ 111 rfl elemSPt (base := w.heap.size) (xs := prow [⟨sx, none⟩]) (news := prow L) rfl ?own rfl (Sl.of_own HO2.out) (prow_one _) ?h63 ?hby ?hbase ?_))
  case own => exact own_fr (own_new1 (by have := hf1.size; omega) (by simp) (prow_len [⟨sx, none⟩]) rfl) HF2.out (fun _ _ _ _ e => e)
  case h63 => unfold maxLen; omega
  case hby => omega
  case hbase => have h1 := hf1.size; have h2 := HF2.out.size; simp at h2; omega
  intro A4 c4 w4 hown4 hg4 _
  have HP := Lib.hid (show PartsAt w w4 (.returned (.slice A4 (1 + L.length) c4)) ([⟨sx, none⟩] ++ L) from parts_own (by simp; omega) (by rw [prow_app]; exact hown4) (((hf1.alloc _).call HF2.out (fun _ h _ => h)).grown hg4 (fun k e hlt => by simp at e; have h1 := hf1.size; omega)))
  clear hown4 hg4
  go_wp2_with fail
  go_ret
  exact HP.out
set_option maxRecDepth 100000 in
set_option maxHeartbeats 8000000 in
theorem prg_parts2 (w : World) (hv : ShVar w) (ht : TbVar w) (b off : Nat) (x : Nd) (kb ko : Nat) (c : Nat) (ks : Fo) (hok : TxOk x ks) (hn : NdAt w b off x (some ⟨kb, ko, none⟩) ks.len c) (h2 : kidsN x.op = 2)
    (y : Nd) (B : Option Addr) (m d : Nat) (hy : NdAt w kb ko y B m d) (hyo : 1 ≤ y.op ∧ y.op ≤ 12) (z : Nd) (D : Option Addr) (m' d' : Nat) (hz : NdAt w kb (ko + 7) z D m' d') (hzo : 1 ≤ z.op ∧ z.op ≤ 12) :
    Calls Tryd.prog 50 #[.pointer (some ⟨b, off, none⟩)] w fun e w' => PartsAt w w' e (kidP (pl0 x.op) y.op ⟨kb, ko, none⟩ ++ [⟨⟨#[32]⟩ ++ signT x ++ ⟨#[32]⟩, none⟩] ++ kidP (pl1 x.op) z.op ⟨kb, ko + 7, none⟩) := by
  have hop := wrong_op hok.wr
  have ho := op_two ⟨hop.1, hop.2.1⟩ (by omega) (by omega)
  obtain ⟨k, hk⟩ : ∃ k : Nat, x.op = k := ⟨x.op.toNat, by omega⟩
  have HL := Lib.hid (fun W (hf : Fr Nob w W) => prg_sign W b off x (some ⟨kb, ko, none⟩) ks.len c hok.nd (by omega) hop.2.1 (ht.fr hf) (hn.fr hf))
  have HK := Lib.hid (fun W (hf : Fr Nob w W) => prg_kid W (hv.fr hf) b off x kb ko ks.len c (hn.fr hf) 0 (.inl rfl) (by omega) ⟨hop.1, hop.2.1⟩ (by omega) (by omega) y B m d (by simpa using hy.fr hf) hyo)
  have HJ := Lib.hid (fun W (hf : Fr Nob w W) => prg_kid W (hv.fr hf) b off x kb ko ks.len c (hn.fr hf) 1 (.inr rfl) (by omega) ⟨hop.1, hop.2.1⟩ (by omega) (by omega) z D m' d' (by simpa using hz.fr hf) hzo)
  simp only [Nat.zero_mul, Nat.one_mul, Nat.add_zero, if_true, Int.natCast_zero, Int.natCast_one, Nat.one_ne_zero, if_false] at HK HJ
  have hkl : k < shapeL.length := by simp [shapeL]; omega
  have s1 := (hv k hkl).1
  rw [shape_kids, ← hk, h2] at s1
  have hk13 : (k : Int) < 13 := by omega
  have hk00 : (0 : Int) ≤ k := by omega
  have d0 := hn.h0
  rw [hk] at d0
  have hss := signT_size hok.nd
  have hll := (kidP_len (pl0 x.op) y.op ⟨kb, ko, none⟩).2
  have hmm := (kidP_len (pl1 x.op) z.op ⟨kb, ko + 7, none⟩).2
  have k1 := cat_ok ⟨#[32]⟩ (signT x) (by rw [sz1]; omega)
  have k2 := cat_ok (⟨#[32]⟩ ++ signT x) ⟨#[32]⟩ (by simp only [ByteArray.size_append, sz1]; omega)
  clear hv ht hn hok hop h2 hk hkl ho hy hyo hz hzo hss
  generalize kidP (pl0 x.op) y.op ⟨kb, ko, none⟩ = L at *
  generalize kidP (pl1 x.op) z.op ⟨kb, ko + 7, none⟩ = M at *
  generalize signT x = sx at *
  have HSP := Lib.hid (show ([⟨⟨#[32]⟩ ++ sx ++ ⟨#[32]⟩, none⟩] : List SPt).length = 1 from rfl)
  obtain ⟨sp, hsp⟩ : ∃ sp : List SPt, [⟨⟨#[32]⟩ ++ sx ++ ⟨#[32]⟩, none⟩] = sp := ⟨_, rfl⟩
  have HSQ := Lib.hid (show (#[.string (⟨#[32]⟩ ++ sx ++ ⟨#[32]⟩), .pointer none] : Array Value).toList = prow sp by rw [← hsp]; rfl)
  rw [hsp] at HSP ⊢
  clear hsp
  go_enter Tryd.func50, Tryd.ntmps50
  go_wp2_with (first | ((go_at_call 82); refine (HL.out _ hf1).mono ?_; rintro e w2 ⟨rfl, hf2⟩) | ((go_at_call 83); refine (HK.out _ (Fr.refl _ _)).mono ?_; intro e w1 hp; obtain ⟨A1, c1, rfl, hown1, hf1⟩ := hp; have HO1 := Lib.hid hown1; clear hown1) | (at_builtin; refine wpList_app rfl _ _ 111 rfl elemSPt (base := w.heap.size) (xs := prow L) (news := prow sp) rfl ?own rfl ?src (prow_one _) ?h63 ?hby ?hbase ?_))
  case own => exact World.ownsRow.alloc (own_fr HO1.out hf2 (fun _ _ _ _ e => e)) _
  case src => exact Sl.of_own (own_new1 (base := w.heap.size) (by have h1 := hf1.size; have h2 := hf2.size; omega) (by simp) (by rw [prow_len, HSP.out]) HSQ.out)
  case h63 => unfold maxLen; omega
  case hby => omega
  case hbase => have h1 := hf1.size; have h2 := hf2.size; simp; omega
  intro A3 c3 w3 hown3 hg3 _
  have hf3 : Fr Nob w w3 := ((hf1.call hf2 (fun _ h _ => h)).alloc _).grown hg3 (fun k e hlt => by have := own_base HO1.out k e; omega)
  have HO3 := Lib.hid hown3
  clear hown3 hg3
  go_wp2_with (first | ((go_at_call 83); refine (HJ.out _ hf3).mono ?_; intro e w4 hp; obtain ⟨A4, c4, rfl, hown4, hf4⟩ := hp; have HO4 := Lib.hid hown4; clear hown4) | (at_builtin; refine wpList_app rfl _ _ 111 rfl elemSPt (base := w.heap.size) (xs := prow L ++ prow sp) (news := prow M) rfl ?own rfl (Sl.of_own HO4.out) (prow_one _) ?h63 ?hby ?hbase ?_))
  case own => exact own_fr HO3.out hf4 (fun _ _ _ _ e => e)
  case h63 => unfold maxLen; omega
  case hby => omega
  case hbase => have h1 := hf3.size; have h2 := hf4.size; omega
  intro A5 c5 w5 hown5 hg5 _
  have HP := Lib.hid (show PartsAt w w5 (.returned (.slice A5 (L.length + 1 + M.length) c5)) (L ++ sp ++ M) from parts_own (by simp only [List.length_append, HSP.out]) (by rw [prow_app, prow_app, List.append_assoc]; exact hown5) ((hf3.call hf4 (fun _ h _ => h)).grown hg5 (fun k e hlt => by have := own_base HO3.out k e; omega)))
  clear hown5 hg5
  go_wp2_with fail
  go_ret
  exact HP.out
end Go.Proofs.YtoegdmpmagbaiaaDoor
namespace Go.Proofs.YtoegdmpmagbaiaaDoor
open Go.RowKit Go.Shelf

/-- A piece as it is known: bytes, and perhaps a node that lies somewhere. -/
structure Pc where
  t : ByteArray
  q : Option (Nd × Option Addr × Nat × Fo × Nat × Nat)
def Pc.addr (p : Pc) : Option Addr := p.q.map fun n => ⟨n.2.2.2.2.1, n.2.2.2.2.2, none⟩
def Pc.pt (p : Pc) : SPt := ⟨p.t, p.addr⟩
def Pc.ntext (p : Pc) : List UInt8 := match p.q with
  | none => []
  | some n => (textT n.1 n.2.2.2.1.tr).data.toList
def Pc.out (p : Pc) : List UInt8 := p.t.data.toList ++ p.ntext
def outL (l : List Pc) : List UInt8 := l.flatMap Pc.out
theorem outL_app (l m : List Pc) : outL (l ++ m) = outL l ++ outL m := by simp [outL]
/-- A stack's text: the last piece first. -/
def outS (st : List Pc) : List UInt8 := outL st.reverse
theorem outS_snoc (r : List Pc) (p : Pc) : outS (r ++ [p]) = p.out ++ outS r := by simp [outS, outL]
theorem outS_app (r m : List Pc) : outS (r ++ m) = outS m ++ outS r := by simp [outS, outL_app]
def Pc.wgt (p : Pc) : Nat := match p.q with
  | none => 1
  | some n => 6 * (n.2.2.2.1.tr.size + 1)
def wgtL (l : List Pc) : Nat := (l.map Pc.wgt).sum
theorem wgtL_app (l m : List Pc) : wgtL (l ++ m) = wgtL l + wgtL m := by simp [wgtL]
theorem wgtL_rev (l : List Pc) : wgtL l.reverse = wgtL l := by
  induction l with
  | nil => rfl
  | cons p l ih => rw [List.reverse_cons, wgtL_app, ih]; simp [wgtL]; omega
theorem Pc.wgt_pos (p : Pc) : 1 ≤ p.wgt := by unfold Pc.wgt; split <;> omega
theorem wgtL_len (l : List Pc) : l.length ≤ wgtL l := by
  induction l with
  | nil => exact Nat.zero_le _
  | cons p l ih => have := p.wgt_pos; simp only [wgtL, List.map_cons, List.sum_cons, List.length_cons] at ih ⊢; omega
/-- A node that lies below block N in a world. -/
structure NodeAt (N : Nat) (w : World) (x : Nd) (A : Option Addr) (c : Nat) (ks : Fo) (b off : Nat) : Prop where
  ok : TxOk x ks
  nd : NdAt w b off x A ks.len c
  sl : FoSl N w A c ks
  lt : b < N
def Pc.good (N : Nat) (w : World) (p : Pc) : Prop := ∀ n, p.q = some n → NodeAt N w n.1 n.2.1 n.2.2.1 n.2.2.2.1 n.2.2.2.2.1 n.2.2.2.2.2
/-- The pieces of a kid's text. -/
def kidC (p : Int) (y : Nd) (B : Option Addr) (d : Nat) (js : Fo) (kb ko : Nat) : List Pc := if placeN y.op < p then [⟨⟨#[40]⟩, some (y, B, d, js, kb, ko)⟩, ⟨⟨#[41]⟩, none⟩] else [⟨⟨#[]⟩, some (y, B, d, js, kb, ko)⟩]
theorem kidC_pt (p : Int) (y : Nd) (B : Option Addr) (d : Nat) (js : Fo) (kb ko : Nat) : (kidC p y B d js kb ko).map Pc.pt = kidP p y.op ⟨kb, ko, none⟩ := by
  unfold kidC kidP; split <;> rfl
theorem kidC_out (p : Int) (y : Nd) (B : Option Addr) (d : Nat) (js : Fo) (kb ko : Nat) : outL (kidC p y B d js kb ko) = (wrapT p (y.op, textT y js.tr)).data.toList := by
  unfold kidC wrapT
  by_cases h : placeN y.op < p
  · rw [if_pos h, if_pos h]; simp [outL, Pc.out, Pc.ntext, ByteArray.data_append]
  · rw [if_neg h, if_neg h]; simp [outL, Pc.out, Pc.ntext]
theorem kidC_wgt (p : Int) (y : Nd) (B : Option Addr) (d : Nat) (js : Fo) (kb ko : Nat) : wgtL (kidC p y B d js kb ko) ≤ 6 * (js.tr.size + 1) + 1 := by
  unfold kidC; split <;> simp [wgtL, Pc.wgt]
theorem kidC_good {N : Nat} {w : World} {p : Int} {y : Nd} {B : Option Addr} {d : Nat} {js : Fo} {kb ko : Nat} (h : NodeAt N w y B d js kb ko) : ∀ q ∈ kidC p y B d js kb ko, q.good N w := by
  intro q hq n hn
  unfold kidC at hq
  split at hq
  · simp only [List.mem_cons, List.not_mem_nil, or_false] at hq
    rcases hq with rfl | rfl
    · simp only [Option.some.injEq] at hn; subst hn; exact h
    · cases hn
  · simp only [List.mem_singleton] at hq
    subst hq
    simp only [Option.some.injEq] at hn; subst hn; exact h
/-- What the pieces of a node are: their text, how many, what they weigh. -/
structure PartsOf (N : Nat) (w : World) (x : Nd) (ks : Fo) (l : List Pc) : Prop where
  out : outL l = (textT x ks.tr).data.toList
  wgt : wgtL l < 6 * (ks.tr.size + 1)
  good : ∀ q ∈ l, q.good N w
  len : l.length ≤ 5
theorem PartsAt.pt {w w' : World} {e : Ending} {l : List Pc} {m : List SPt} (h : PartsAt w w' e m) (he : l.map Pc.pt = m) : PartsAt w w' e (l.map Pc.pt) := he ▸ h
theorem Calls.exist {P : Program} {f : Nat} {args : Array Value} {w : World} {α : Type} {q : α → Prop} {post : α → Ending → World → Prop} {a : α} (hq : q a) (h : Calls P f args w (post a)) : Calls P f args w fun e w' => ∃ a, q a ∧ post a e w' := h.mono fun _ _ hp => ⟨a, hq, hp⟩
theorem kid_size {f : Fo} {y z : Nd} {A D : Option Addr} {c d : Nat} {ks js r0 r1 : Fo} (h0 : f.get 0 = .cons y A c ks r0) (h1 : f.get 1 = .cons z D d js r1) : ks.tr.size + 1 + (js.tr.size + 1) ≤ f.tr.size := by
  have h2 := Fo.get_succ h0
  rw [h1] at h2
  have h3 := Fo.get_size h0
  rw [← h2] at h3
  simp only [Fo.tr, Tr.size] at h3
  omega
/-- formula.parts at a node that is good. -/
theorem prg_parts (N : Nat) (w : World) (hv : ShVar w) (ht : TbVar w) (b off : Nat) (x : Nd) (A : Option Addr) (c : Nat) (ks : Fo) (hn : NodeAt N w x A c ks b off) :
    Calls Tryd.prog 50 #[.pointer (some ⟨b, off, none⟩)] w fun e w' => ∃ l, PartsOf N w x ks l ∧ PartsAt w w' e (l.map Pc.pt) := by
  obtain ⟨hok, hnd, hsl, hlt⟩ := hn
  have hop := wrong_op hok.wr
  by_cases h0 : kidsN x.op = 0
  · refine Calls.exist (a := [⟨leafT x, none⟩]) (q := PartsOf N w x ks) (post := fun l e w' => PartsAt w w' e (l.map Pc.pt)) ?_ ((prg_parts0 w hv ht b off x A c ks hok hnd h0).mono fun _ _ h => h)
    exact ⟨by unfold textT nodeT; rw [if_pos h0]; simp [outL, Pc.out, Pc.ntext], by (simp [wgtL, Pc.wgt]; omega), (fun q hq n hn => by (simp only [List.mem_singleton] at hq; subst hq; cases hn)), by simp⟩
  obtain ⟨kb, ko, y, B, d, js, rs, K⟩ := hsl.kid (k := 0) (by omega)
  have hA := K.slice
  subst hA
  have hok0 := hok.kid K.get
  have hop0 := wrong_op hok0.wr
  have hnd0 := K.nd
  rw [Nat.zero_mul, Nat.add_zero] at hnd0
  have hN0 : NodeAt N w y B d js kb ko := ⟨hok0, hnd0, K.sl, K.bN⟩
  have hs0 := K.size
  by_cases h1 : kidsN x.op = 1
  · refine Calls.exist (a := [⟨signT x, none⟩] ++ kidC (pl0 x.op) y B d js kb ko) (q := PartsOf N w x ks) (post := fun l e w' => PartsAt w w' e (l.map Pc.pt)) ?_ ((prg_parts1 w hv ht b off x kb ko c ks hok hnd h1 y B js.len d hnd0 ⟨hop0.1, hop0.2.1⟩).mono fun _ _ h => h.pt (by simp [kidC_pt, Pc.pt, Pc.addr]))
    refine ⟨?_, ?_, ?_, ?_⟩
    · rw [textT_one h0 h1 (kid0_of K.get), outL_app, kidC_out]; simp [outL, Pc.out, Pc.ntext, ByteArray.data_append]
    · rw [wgtL_app]; have := kidC_wgt (pl0 x.op) y B d js kb ko; simp [wgtL, Pc.wgt] at *; omega
    · intro q hq
      rcases List.mem_append.1 hq with hq | hq
      · intro n hn; simp only [List.mem_singleton] at hq; subst hq; cases hn
      · exact kidC_good hN0 q hq
    · have := (kidP_len (pl0 x.op) y.op ⟨kb, ko, none⟩).2; rw [← kidC_pt (B := B) (d := d) (js := js), List.length_map] at this; simp; omega
  · have h2 := kidsN_two h0 h1
    obtain ⟨kb', ko', z, D, g, ls, rs', K'⟩ := hsl.kid (k := 1) (by omega)
    have hA' := K'.slice
    simp only [Option.some.injEq, Addr.mk.injEq, and_true] at hA'
    obtain ⟨rfl, rfl⟩ := hA'
    have hok1 := hok.kid K'.get
    have hop1 := wrong_op hok1.wr
    have hnd1 := K'.nd
    rw [Nat.one_mul] at hnd1
    have hN1 : NodeAt N w z D g ls kb (ko + 7) := ⟨hok1, hnd1, K'.sl, K'.bN⟩
    have hs1 := kid_size K.get K'.get
    refine Calls.exist (a := kidC (pl0 x.op) y B d js kb ko ++ [⟨⟨#[32]⟩ ++ signT x ++ ⟨#[32]⟩, none⟩] ++ kidC (pl1 x.op) z D g ls kb (ko + 7)) (q := PartsOf N w x ks) (post := fun l e w' => PartsAt w w' e (l.map Pc.pt)) ?_
      ((prg_parts2 w hv ht b off x kb ko c ks hok hnd h2 y B js.len d hnd0 ⟨hop0.1, hop0.2.1⟩ z D ls.len g hnd1 ⟨hop1.1, hop1.2.1⟩).mono fun _ _ h => h.pt (by simp [kidC_pt, Pc.pt, Pc.addr]))
    refine ⟨?_, ?_, ?_, ?_⟩
    · rw [textT_two h0 h1 (kid0_of K.get) (kid1_of K'.get), outL_app, outL_app, kidC_out, kidC_out]; simp [outL, Pc.out, Pc.ntext, ByteArray.data_append]
    · rw [wgtL_app, wgtL_app]; have := kidC_wgt (pl0 x.op) y B d js kb ko; have := kidC_wgt (pl1 x.op) z D g ls kb (ko + 7); simp [wgtL, Pc.wgt] at *; omega
    · intro q hq
      rcases List.mem_append.1 hq with hq | hq
      · rcases List.mem_append.1 hq with hq | hq
        · exact kidC_good hN0 q hq
        · intro n hn; simp only [List.mem_singleton] at hq; subst hq; cases hn
      · exact kidC_good hN1 q hq
    · have e1 := (kidP_len (pl0 x.op) y.op ⟨kb, ko, none⟩).2; rw [← kidC_pt (B := B) (d := d) (js := js), List.length_map] at e1
      have e2 := (kidP_len (pl1 x.op) z.op ⟨kb, ko + 7, none⟩).2; rw [← kidC_pt (B := D) (d := g) (js := ls), List.length_map] at e2
      simp; omega
end Go.Proofs.YtoegdmpmagbaiaaDoor
namespace Go.Proofs.YtoegdmpmagbaiaaDoor
open Go.RowKit Go.Shelf

def stp (st : List Pc) : List Value := prow (st.map Pc.pt)
theorem stp_len (st : List Pc) : (stp st).length = st.length * 2 := by rw [stp, prow_len, List.length_map]
theorem stp_snoc (r : List Pc) (p : Pc) : stp (r ++ [p]) = stp r ++ ptc p.pt := by simp [stp, prow]
theorem stp_app (r m : List Pc) : stp (r ++ m) = stp r ++ stp m := by simp [stp, prow]
/-- What stands while a formula is shown. B: the builder; w1: the world in which it was made. -/
structure ShC (w1 wr : World) (B : Nat) (A : Option Addr) (c : Nat) (st : List Pc) (acc : List UInt8) : Prop where
  bel : Below B w1 wr
  bd : Bd B B acc wr
  own : wr.ownsRow (B + 1) 110 2 (.slice A st.length c) st.length (stp st)
  good : ∀ q ∈ st, q.good B wr
  size : B + 1 ≤ wr.heap.size
/-- Rows of pieces are no rows of bytes: what is written to the builder leaves them. -/
theorem own_keep {w w' : World} {B base : Nat} {A : Option Addr} {n c : Nat} {xs : List Value} (h : w.ownsRow base 110 2 (.slice A n c) n xs) (hk : BdKeep B w w') (hB : B < base) : w'.ownsRow base 110 2 (.slice A n c) n xs := by
  refine ⟨h.1, ?_⟩
  rcases h.2 with hn | ⟨g, cap, cur, hv, hb, hg, rest⟩
  · exact .inl hn
  · exact .inr ⟨g, cap, cur, hv, hb, hk g _ hg (by simp; omega) (fun c fz e => by simp only [Obj.cells.injEq] at e; exact absurd e.2.1 (by decide)), rest⟩
theorem Bd.fr {w w' : World} {B : Nat} {l : List UInt8} (h : Bd B B l w) (hf : Fr Nob w w') : Bd B B l w' := by
  have hk : ∀ k o, w.heap[k]? = some o → w'.heap[k]? = some o := fun k o ho => (hf.block k (Array.getElem?_eq_some_iff.1 ho).1 (fun e => e)).trans ho
  have h1 : ∀ p, Lib.BuilderAtF 95 5 B B p (Lib.byteCells l) w → Lib.BuilderAtF 95 5 B B p (Lib.byteCells l) w' := by
    rintro p ⟨h0, v, hb, hown, hne⟩
    refine ⟨h0, v, hk _ _ hb, ⟨hown.1, ?_⟩, hne⟩
    rcases hown.2 with hn | ⟨g, cap, cur, fz, hv, hbb, hg, rest⟩
    · exact .inl hn
    · exact .inr ⟨g, cap, cur, fz, hv, hbb, hk _ _ hg, rest⟩
  exact h.imp (h1 _) (h1 _)
/-- An append to a row of pieces leaves the builder. -/
theorem Bd.grown {w w' : World} {B base : Nat} {l : List UInt8} {A : Option Addr} {n c : Nat} {xs : List Value} (h : Bd B B l w) (hown : w.ownsRow base 110 2 (.slice A n c) n xs) (hg : w.grownBy w' (A.map (·.block))) : Bd B B l w' := by
  have hk : ∀ k cs t fz, t ≠ 110 → w.heap[k]? = some (Obj.cells cs t fz) → w'.heap[k]? = some (Obj.cells cs t fz) := fun k cs t fz ht ho => by
    refine (hg.block k (Array.getElem?_eq_some_iff.1 ho).1 (fun e => ?_)).trans ho
    rcases hown.2 with ⟨hn, _⟩ | ⟨g, cap, cur, hv, _, hgg, _⟩
    · simp only [Value.slice.injEq] at hn; rw [hn.1] at e; cases e
    · simp only [Value.slice.injEq] at hv
      rw [hv.1] at e
      simp only [Option.map_some, Option.some.injEq] at e
      subst e
      rw [hgg] at ho
      simp only [Option.some.injEq, Obj.cells.injEq] at ho
      exact ht ho.2.1.symm
  have h1 : ∀ p, Lib.BuilderAtF 95 5 B B p (Lib.byteCells l) w → Lib.BuilderAtF 95 5 B B p (Lib.byteCells l) w' := by
    rintro p ⟨h0, v, hb, ho, hne⟩
    refine ⟨h0, v, hk _ _ _ _ (by decide) hb, ⟨ho.1, ?_⟩, hne⟩
    rcases ho.2 with hn | ⟨g, cap, cur, fz, hv, hbb, hgg, rest⟩
    · exact .inl hn
    · exact .inr ⟨g, cap, cur, fz, hv, hbb, hk _ _ _ _ (by decide) hgg, rest⟩
  exact h.imp (h1 _) (h1 _)
theorem NodeAt.below {N : Nat} {w w' : World} {x : Nd} {A : Option Addr} {c : Nat} {ks : Fo} {b off : Nat} (h : NodeAt N w x A c ks b off) (hb : Below N w w') : NodeAt N w' x A c ks b off :=
  have hc : ∀ {p : Addr} {v : Value}, p.block = b → w.cell? p = some v → w'.cell? p = some v := fun e hp => (hb.cell (by rw [e]; exact h.lt)).trans hp
  ⟨h.ok, ⟨hc rfl h.nd.h0, hc rfl h.nd.h1, hc rfl h.nd.h2, hc rfl h.nd.h3, hc rfl h.nd.h4, hc rfl h.nd.h5, hc rfl h.nd.h6⟩, h.sl.keep (fun k hk _ => hb.block k hk), h.lt⟩
theorem Pc.good.below {B : Nat} {w w' : World} {p : Pc} (h : p.good B w) (hb : Below B w w') : p.good B w' := fun n hn => (h n hn).below hb
theorem BdKeep.blk {B g : Nat} {w w' : World} {t : TypeId} {cs : Array Value} (h : BdKeep B w w') (hb : Blk w g t cs) (hg : g ≠ B) (ht : t ≠ 5) : Blk w' g t cs :=
  h g _ hb (by simpa using hg) (fun c fz e => by simp only [Obj.cells.injEq] at e; exact ht e.2.1)
theorem stp_get {l : List Pc} : ∀ {k : Nat} (hk : k < l.length), (stp l)[k * 2]? = some (.string l[k].t) ∧ (stp l)[k * 2 + 1]? = some (.pointer l[k].addr) := by
  induction l with
  | nil => intro k hk; simp at hk
  | cons p l ih =>
    intro k hk
    cases k with
    | zero => exact ⟨rfl, rfl⟩
    | succ k =>
      have h := ih (k := k) (by simpa using hk)
      rw [show (k + 1) * 2 = k * 2 + 2 by omega]
      exact h
theorem rev_take {l : List Pc} {k : Nat} (hk : k < l.length) : l.reverse.take (k + 1) = l.reverse.take k ++ [l[l.length - 1 - k]] := by
  rw [List.take_succ_eq_append_getElem (by simpa using hk), List.getElem_reverse]
theorem ShC.pop {w1 wr : World} {B : Nat} {A : Option Addr} {c : Nat} {r : List Pc} {p : Pc} {acc : List UInt8} (h : ShC w1 wr B A c (r ++ [p]) acc) : ShC w1 wr B A c r acc := by
  have ho := own_take h.own (by simp) (show r.length ≤ (r ++ [p]).length by simp)
  rw [show (stp (r ++ [p])).take (r.length * 2) = stp r by rw [stp_snoc, List.take_append_of_le_length (by rw [stp_len]; exact Nat.le_refl _), ← stp_len, List.take_length]] at ho
  exact ⟨h.bel, h.bd, ho, fun q hq => h.good q (List.mem_append_left _ hq), h.size⟩
theorem ShC.fr {w1 wr wi : World} {B : Nat} {A : Option Addr} {c : Nat} {st : List Pc} {acc : List UInt8} (h : ShC w1 wr B A c st acc) (hf : Fr Nob wr wi) : ShC w1 wi B A c st acc :=
  ⟨h.bel.trans (hf.below.mono (by have := h.size; omega)), h.bd.fr hf, own_fr h.own hf (fun _ _ _ _ e => e), fun q hq => (h.good q hq).below (hf.below.mono (by have := h.size; omega)), Nat.le_trans h.size hf.size⟩
theorem ShC.write {w1 wr wi : World} {B : Nat} {A : Option Addr} {c : Nat} {st : List Pc} {acc acc' : List UInt8} (h : ShC w1 wr B A c st acc) (hb : Bd B B acc' wi) (hl : Below B wr wi) (hk : BdKeep B wr wi) : ShC w1 wi B A c st acc' :=
  ⟨h.bel.trans hl, hb, own_keep h.own hk (by omega), fun q hq => (h.good q hq).below hl, Nat.le_trans h.size hl.size⟩
theorem ShC.push {w1 wr wi : World} {B : Nat} {A A' : Option Addr} {c c' : Nat} {st : List Pc} {acc : List UInt8} (q : Pc) (h : ShC w1 wr B A c st acc) (hq : q.good B wr) (hown : wi.ownsRow (B + 1) 110 2 (.slice A' (st.length + 1) c') (st.length + 1) (stp st ++ ptc q.pt)) (hg : wr.grownBy wi (A.map (·.block))) :
    ShC w1 wi B A' c' (st ++ [q]) acc :=
  ⟨h.bel.grown hg (by have := h.size; omega) (fun k e => by have := own_base h.own k e; omega), h.bd.grown h.own hg, by rw [stp_snoc, List.length_append]; exact hown,
    fun p hp => by
      rcases List.mem_append.1 hp with hp | hp
      · exact (h.good p hp).below ((Below.refl B wr).grown hg (by have := h.size; omega) (fun k e => by have := own_base h.own k e; omega))
      · rw [List.mem_singleton.1 hp]; exact hq.below ((Below.refl B wr).grown hg (by have := h.size; omega) (fun k e => by have := own_base h.own k e; omega)),
    Nat.le_trans h.size hg.size⟩
/-- What stands while the pieces are laid on the stack. -/
structure ShN (w1 wi : World) (B N : Nat) (A2 : Option Addr) (c2 : Nat) (r l : List Pc) (k : Nat) (acc : List UInt8) (Al : Option Addr) (cl : Nat) : Prop where
  c : ShC w1 wi B A2 c2 (r ++ l.reverse.take k) acc
  own : wi.ownsRow N 110 2 (.slice Al l.length cl) l.length (stp l)
  ne : ∀ q, A2.map (·.block) = some q → Al.map (·.block) ≠ some q
  good : ∀ q ∈ l, q.good B wi
theorem ShN.push {w1 wi w5 : World} {B N : Nat} {A2 A5 : Option Addr} {c2 c5 : Nat} {r l : List Pc} {k : Nat} {acc : List UInt8} {Al : Option Addr} {cl : Nat} {cs : Array Value} (h : ShN w1 wi B N A2 c2 r l k acc Al cl) (hk : k < l.length)
    (hown : w5.ownsRow (B + 1) 110 2 (.slice A5 (r.length + k + 1) c5) (r.length + k + 1) (stp (r ++ l.reverse.take k) ++ ptc l[l.length - 1 - k].pt)) (hg : (wi.alloc (.cells cs 110)).grownBy w5 (A2.map (·.block))) (hl : Lies A5 A2 (wi.heap.size + 1)) :
    ShN w1 w5 B N A5 c5 r l (k + 1) acc Al cl := by
  have hlen : (r ++ l.reverse.take k).length = r.length + k := by simp; omega
  have hbl : Below B wi w5 := ((Below.refl B wi).alloc (by have := h.c.size; omega) _).grown hg (by have := h.c.size; simp; omega) (fun q e => by have := own_base h.c.own q e; omega)
  refine ⟨?_, ?_, ?_, fun q hq => (h.good q hq).below hbl⟩
  · have h2 := (h.c.fr ((Fr.refl Nob wi).alloc (.cells cs 110))).push l[l.length - 1 - k] ((h.good _ (List.getElem_mem _)).below ((Below.refl B wi).alloc (by have := h.c.size; omega) _)) (by rw [hlen]; exact hown) hg
    rw [rev_take hk, ← List.append_assoc]
    exact h2
  · refine World.ownsRow.kept (h.own.alloc _) hg ?_
    cases Al with
    | none => exact .inl rfl
    | some a =>
      right
      intro e
      exact h.ne a.block e.symm rfl
  · intro q hq
    rcases hl with e | e
    · exact h.ne q (by rw [← e]; exact hq)
    · rw [hq] at e
      simp only [Option.some.injEq] at e
      intro e2
      have := h.own.lt q (by cases Al <;> simp_all [Value.ownBlock])
      omega
theorem outS_len {acc : List UInt8} {r : List Pc} {p : Pc} {T : List UInt8} (h : acc ++ outS (r ++ [p]) = T) : acc.length + p.t.size ≤ T.length := by
  have e : p.t.data.toList.length = p.t.size := Array.length_toList
  rw [← h, outS_snoc]
  simp only [List.length_append, Pc.out, e]
  omega
set_option maxRecDepth 100000 in
set_option maxHeartbeats 8000000 in
theorem prg_Show (w : World) (x : Nd) (A : Option Addr) (c : Nat) (ks : Fo) (hs : FoSl w.heap.size w A c ks) (hsz : ks.tr.size ≤ 100000) (hv : ShVar w) (ht : TbVar w) (hx : NdOk x) (hk : ks.tr.ok) (hwt : x.name.size + ks.tr.wt ≤ 1000000)
    (hnm : ∀ y ∈ (Tr.cons x ks.tr .nil).nodes 1, y.1.name.size ≤ 9223372036854775807) :
    Calls Tryd.prog 31 #[fval x A ks.len c] w fun e w' => e = .returned (.string (showT x ks.tr)) ∧ Fr Nob w w' := by
  have hb1 := box_at (x := x) hs 28
  have HSO := Lib.hid (fun W (hf : Fr Nob w W) => prg_Sound W x A c ks ((hs.fr hf).mono hf.size) hsz (hv.fr hf) hnm)
  by_cases hg : ¬ firstW ((Tr.cons x ks.tr .nil).nodes 1) = 0
  · have HR := Lib.hid (show showT x ks.tr = .empty by unfold showT; rw [if_neg hg])
    have HG := Lib.hid (show (firstW ((Tr.cons x ks.tr .nil).nodes 1) == 0) = false by simpa using hg)
    rw [HG.out] at HSO
    unfold fval at *
    go_enter Tryd.func31, Tryd.ntmps31
    go_wp2_with ((go_at_call 27); refine (HSO.out _ ((Fr.refl _ _).alloc _)).mono ?_; rintro e w1 ⟨rfl, hf1⟩)
    go_ret
    rw [HR.out]
    exact ⟨rfl, ((Fr.refl _ _).alloc _).call hf1 (fun _ h _ => h)⟩
  · replace hg : firstW ((Tr.cons x ks.tr .nil).nodes 1) = 0 := by simpa using hg
    have HR := Lib.hid (show showT x ks.tr = textT x ks.tr by unfold showT; rw [if_pos hg])
    have hgd := (good_first x ks.tr).1 hg
    rw [Fo.tr_len] at hgd
    have hok : TxOk x ks := ⟨hx, hk, hgd.1, hgd.2, hwt, hsz⟩
    have HG := Lib.hid (show (firstW ((Tr.cons x ks.tr .nil).nodes 1) == 0) = true by simpa using hg)
    rw [HG.out] at HSO
    have HTL := Lib.hid (show (textT x ks.tr).data.toList.length ≤ 1000060 by have := hok.text; rw [Array.length_toList]; exact this)
    have HS6 := Lib.hid (show 6 * (ks.tr.size + 1) ≤ 700000 by omega)
    have HV := Lib.hid hv
    have HT := Lib.hid ht
    have HND := Lib.hid (show NodeAt (w.heap.size + 1) (w.alloc (.cells #[.int .i64 x.op, .string x.name, .int .i64 x.cmp, .int .i64 x.val, .int .i64 x.lo, .int .i64 x.hi, .slice A ks.len c] 28)) x A c ks w.heap.size 0 from
      ⟨hok, NdAt.of (fun j u hu => by have := hb1.2.2.1 j u hu; exact this), (hs.keep (fun k _ hlt => Below.heap_alloc _ _ k hlt)).mono (by omega), by omega⟩)
    clear hs hsz hv ht hx hk hwt hnm hb1 hg hgd hok HG
    rw [HR.out]
    unfold fval at *
    generalize hTT : (textT x ks.tr) = T at *
    have HTT := Lib.hid hTT
    clear hTT HR
    go_enter Tryd.func31, Tryd.ntmps31
    go_wp2_with ((go_at_call 27); refine (HSO.out _ ((Fr.refl _ _).alloc _)).mono ?_; rintro e w1 ⟨rfl, hf1⟩)
    have hz1 : w.heap.size + 1 ≤ w1.heap.size := by have := hf1.size; simpa using this
    have HC := Lib.hid (show ShC w1 ((w1.alloc (.cells #[.pointer none, .slice none 0 0] 95)).alloc (.cells #[.string ⟨#[]⟩, .pointer (some ⟨w.heap.size, 0, none⟩)] 110)) w1.heap.size (some ⟨w1.heap.size + 1, 0, none⟩) 1 [⟨⟨#[]⟩, some (x, A, c, ks, w.heap.size, 0)⟩] [] from
      ⟨((Below.refl _ _).alloc (Nat.le_refl _) _).alloc (by simp) _, (Lib.IsBuilderF.of (Lib.fresh_isBuilder 95 5 w1)).alloc _,
        by
          have h := own_new1 (w := w1.alloc (.cells #[.pointer none, .slice none 0 0] 95)) (base := w1.heap.size + 1) (n := 1) (l := stp [⟨⟨#[]⟩, some (x, A, c, ks, w.heap.size, 0)⟩]) (cs := #[.string ⟨#[]⟩, .pointer (some ⟨w.heap.size, 0, none⟩)]) (by simp) (by omega) rfl rfl
          simpa using h,
        fun q hq n hn => by
          simp only [List.mem_singleton] at hq
          subst hq
          simp only [Option.some.injEq] at hn
          subst hn
          have h := HND.out.below (hf1.below.mono (by simp))
          exact NodeAt.below ⟨h.ok, h.nd, h.sl.mono hz1, Nat.lt_of_lt_of_le h.lt hz1⟩ (((Below.refl _ _).alloc (Nat.le_refl _) _).alloc (by simp) _), by simp⟩)
    have HFW := Lib.hid (show Fr Nob w w1 from ((Fr.refl _ _).alloc _).call hf1 (fun _ h _ => h))
    have HEQ := Lib.hid (show [] ++ outS [⟨⟨#[]⟩, some (x, A, c, ks, w.heap.size, 0)⟩] = T.data.toList by rw [← HTT.out]; simp [outS, outL, Pc.out, Pc.ntext])
    have HWG := Lib.hid (show wgtL [⟨⟨#[]⟩, some (x, A, c, ks, w.heap.size, 0)⟩] ≤ 700000 by have := HS6.out; simpa [wgtL, Pc.wgt] using this)
    generalize (⟨⟨#[]⟩, some (x, A, c, ks, w.heap.size, 0)⟩ : Pc) = p0 at *
    have HVV := Lib.hid (HV.out.fr HFW.out)
    have HTB := Lib.hid (HT.out.fr HFW.out)
    clear HND HV HT hf1 HSO
    go_loopg [4] (wgtL [p0]) (fun gk sv wr => ∃ (A' : Option Addr) (c' : Nat) (st : List Pc) (acc : List UInt8), sv = .slice A' st.length c' ∧ gk = wgtL st ∧ Hid (ShC w1 wr w1.heap.size A' c' st acc) ∧ Hid (acc ++ outS st = T.data.toList) ∧ Hid (wgtL st ≤ 700000))
    case atStart => exact ⟨_, _, _, _, rfl, rfl, HC, HEQ, HWG⟩
    case round =>
      clear HC HEQ HWG
      obtain ⟨A', c', st, acc, rfl, hgk, hi, heq, hwg⟩ := hrel
      rcases List.eq_nil_or_concat st with rfl | ⟨r, p, rfl⟩
      · have HAC := Lib.hid (show acc = T.data.toList by have := heq.out; simpa [outS, outL] using this)
        clear hgk
        have HSZ := Lib.hid (show w1.heap.size ≤ wr.heap.size from by have := hi.out.size; omega)
        go_wp2_with ((go_at_call 48); refine (bd_String _ _ _ _ hi.out.bd HSZ.out).mono ?_; rintro e w2 ⟨rfl, hb2, hl2, hk2⟩)
        go_ret
        rw [HAC.out]
        exact ⟨rfl, Fr.of_below ((HFW.out.below.trans (hi.out.bel.mono HFW.out.size)).trans (hl2.mono HFW.out.size))⟩
      · rw [List.concat_eq_append] at hi hgk heq hwg ⊢
        obtain ⟨g, rfl, hg1, hg2, hlc, hcm, hcell⟩ := own_get hi.out.own (by simp)
        try simp only [List.length_append, List.length_singleton] at hlc ⊢
        have hsmall : (r.length : Int) ≤ 700000 := by have h1 := wgtL_len (r ++ [p]); have h2 := hwg.out; rw [List.length_append, List.length_singleton] at h1; omega
        have hr0 : (0 : Int) ≤ r.length := by omega
        have e0 : wr.cell? ⟨g, r.length * 2, none⟩ = some (.string p.t) := hcell _ _ (by rw [stp_snoc, List.getElem?_append_right (by rw [stp_len]; omega), stp_len, Nat.sub_self]; rfl)
        have e1 : wr.cell? ⟨g, r.length * 2 + 1, none⟩ = some (.pointer p.addr) := hcell _ _ (by rw [stp_snoc, List.getElem?_append_right (by rw [stp_len]; omega), stp_len, Nat.add_sub_cancel_left]; rfl)
        have HGK := Lib.hid hgk
        have hlen := outS_len heq.out
        have HTL2 := HTL.out
        have hsi := hi.out.size
        have HPG := Lib.hid (hi.out.good p (by simp))
        have HPO := Lib.hid (show (acc ++ p.t.data.toList) ++ (p.ntext ++ outS r) = T.data.toList by
          rw [← heq.out, outS_snoc]; simp [Pc.out])
        have HC1 := Lib.hid (fun (W : World) (hf : Fr Nob wr W) => (hi.out.pop).fr hf)
        have HWR := Lib.hid (show wgtL r + p.wgt = gk by rw [hgk, wgtL_app]; simp [wgtL])
        have HSM := Lib.hid (show gk ≤ 700000 by rw [hgk]; exact hwg.out)
        have HWS := Lib.hid (fun (W : World) (hf : Fr Nob wr W) => bd_WriteString w1.heap.size w1.heap.size acc p.t W (hi.out.bd.fr hf) (by omega) (by have := hf.size; omega))
        clear hi heq hwg hgk hcell hlen HTL2
        obtain ⟨pt, pq⟩ := p
        simp only [Pc.addr] at e0 e1 HPG HPO HWR HWS
        cases pq with
        | none =>
          simp only [Option.map_none] at e1
          go_wp2_with ((go_at_call 44); refine (HWS.out _ ((Fr.refl _ _).alloc _)).mono ?_; rintro e w3 ⟨rfl, hb3, hl3, hk3⟩; have q1 : w3.cell? ⟨wr.heap.size, 1, none⟩ = some (.pointer none) := (BdKeep.blk hk3 (Blk.new wr _ _) (by omega) (by decide)).cell 1)
          have HI := Lib.hid ((HC1.out _ ((Fr.refl _ _).alloc _)).write hb3 hl3 hk3)
          have HE := Lib.hid (show (acc ++ pt.data.toList) ++ outS r = T.data.toList by simpa [Pc.ntext] using HPO.out)
          have HM := Lib.hid (show wgtL r < gk by have := HWR.out; simp only [Pc.wgt] at this; omega)
          have HM2 := Lib.hid (show wgtL r ≤ 700000 by have := HM.out; have := HSM.out; omega)
          clear hb3 hl3 hk3
          go_roundg (wgtL r)
          case rel => exact ⟨_, _, r, _, rfl, rfl, HI, HE, HM2⟩
          case measure => exact HM.out
        | some n =>
          obtain ⟨y, B, d, js, kb, ko⟩ := n
          simp only [Option.map_some] at e1
          have HPT := Lib.hid (fun (W : World) (hb : Below w1.heap.size w1 W) (h : NodeAt w1.heap.size W y B d js kb ko) => prg_parts w1.heap.size W (HVV.out.below hb (Nat.le_refl _)) (HTB.out.below hb (Nat.le_refl _)) kb ko y B d js h)
          go_wp2_with (first | ((go_at_call 44); refine (HWS.out _ ((Fr.refl _ _).alloc _)).mono ?_; rintro e w3 ⟨rfl, hb3, hl3, hk3⟩; have q1 : w3.cell? ⟨wr.heap.size, 1, none⟩ = some (.pointer (some ⟨kb, ko, none⟩)) := (BdKeep.blk hk3 (Blk.new wr _ _) (by omega) (by decide)).cell 1; have HI := Lib.hid ((HC1.out _ ((Fr.refl _ _).alloc _)).write hb3 hl3 hk3); have HNA := Lib.hid ((Pc.good.below HPG.out (((Below.refl w1.heap.size wr).alloc (by omega) _).trans hl3)) _ rfl); have HS3 := Lib.hid hl3.size; clear hb3 hl3 hk3) | ((go_at_call 50); refine (HPT.out _ HI.out.bel HNA.out).mono ?_; intro e w4 hp; obtain ⟨l, hpo, Al, cl, rfl, hown4, hf4⟩ := hp; have HPA := Lib.hid hpo; have HO4 := Lib.hid hown4; have HF4 := Lib.hid hf4; clear hpo hown4 hf4))
          rw [List.length_map] at HO4
          have hll := HPA.out.len
          have HN := Lib.hid (show ShN w1 w4 w1.heap.size w3.heap.size (some ⟨g, 0, none⟩) c' r l 0 (acc ++ pt.data.toList) Al cl from
            ⟨by rw [List.take_zero, List.append_nil]; exact HI.out.fr HF4.out, HO4.out, fun q hq e => by
                simp only [Option.map_some, Option.some.injEq] at hq
                have h1 := (HO4.out.lt q (by cases Al <;> simp_all [Value.ownBlock])).1
                have h2 := HS3.out
                simp at h2; omega, fun q hq => (HPA.out.good q hq).below (HF4.out.below.mono (by have := HI.out.size; omega))⟩)
          have HOL := Lib.hid (HPA.out.out)
          have HWL := Lib.hid (HPA.out.wgt)
          clear HPT HI HNA HO4 HF4 HPA q1 e0 e1
          obtain ⟨wo, rfl⟩ : ∃ wo : World, wo = wr := ⟨_, rfl⟩
          go_loopw [4, 38] (fun sv iv wi => ∃ (k : Nat) (A2 : Option Addr) (c2 : Nat), k ≤ l.length ∧ iv = .int .i64 k ∧ sv = .slice A2 (r.length + k) c2 ∧ Hid (ShN w1 wi w1.heap.size w3.heap.size A2 c2 r l k (acc ++ pt.data.toList) Al cl)) (fun _ iv _ => l.length - (intOf iv).toNat)
          case atStart => exact ⟨0, _, _, Nat.zero_le _, rfl, rfl, HN⟩
          case round =>
            clear HN
            obtain ⟨k, A2, c2, hk, rfl, rfl, hn⟩ := hrel
            by_cases hlt : k < l.length
            · have hI : (k : Int) < l.length := by omega
              have hI3 : 0 ≤ (k : Int) := by omega
              obtain ⟨gl, rfl, hgl1, hgl2, hlc2, hcm2, hcell⟩ := own_get hn.out.own (by omega)
              have hgt := stp_get (l := l) (k := l.length - 1 - k) (by omega)
              have c0 := hcell _ _ hgt.1
              have c1 := hcell _ _ hgt.2
              have hN := Lib.hid (fun A5 c5 w5 cs (h1 : w5.ownsRow (w1.heap.size + 1) 110 2 (.slice A5 (r.length + k + 1) c5) (r.length + k + 1) (stp (r ++ l.reverse.take k) ++ ptc l[l.length - 1 - k].pt)) (h2 : (wr.alloc (.cells cs 110)).grownBy w5 (A2.map (·.block))) h3 => hn.out.push hlt h1 h2 h3)
              have HOW := Lib.hid (show wr.ownsRow (w1.heap.size + 1) 110 2 (.slice A2 (r.length + k) c2) (r.length + k) (stp (r ++ l.reverse.take k)) by
                have h := hn.out.c.own
                rwa [show (r ++ l.reverse.take k).length = r.length + k by simp; omega] at h)
              have hws := hn.out.c.size
              clear hgt hcell hn
              generalize hpc : l[l.length - 1 - k] = pc at *
              go_wp2_with (at_builtin; refine wpList_app rfl _ _ 111 rfl elemSPt (base := w1.heap.size + 1) (xs := stp (r ++ l.reverse.take k)) (news := ptc pc.pt) rfl (HOW.out.alloc _) rfl ?src ?one ?h63 ?hby ?hbase ?_)
              case src => exact (show Sl _ 2 _ 1 1 (ptc pc.pt) from Sl.new1 (Blk.new _ _ _) 2 1 rfl (by decide))
              case one => intro u hu; simp [ptc] at hu; rcases hu with rfl | rfl <;> rfl
              case h63 => unfold maxLen; omega
              case hby => omega
              case hbase => simp; omega
              intro A5 c5 w5 hown5 hg5 hl5
              have HN2 := Lib.hid (hN.out _ _ _ _ hown5 hg5 hl5)
              clear hown5 hg5 hl5
              go_wp2_with fail
              go_roundw
              case rel => exact ⟨k + 1, A5, c5, by omega, by go_num, rfl, HN2⟩
              case measure => simp [intOf]; omega
            · have hkk : k = l.length := by omega
              have HC2 := Lib.hid (show ShC w1 wr w1.heap.size A2 c2 (r ++ l.reverse) (acc ++ pt.data.toList) by
                have h := hn.out.c
                rwa [hkk, List.take_of_length_le (by simp)] at h)
              have HE2 := Lib.hid (show (acc ++ pt.data.toList) ++ outS (r ++ l.reverse) = T.data.toList by
                rw [outS_app, show outS l.reverse = outL l by simp [outS], HOL.out]; exact HPO.out)
              have HM2 := Lib.hid (show wgtL (r ++ l.reverse) < gk by
                have h1 := HWR.out; have h2 := HWL.out
                simp only [Pc.wgt] at h1
                rw [wgtL_app, wgtL_rev]; omega)
              have HM3 := Lib.hid (show wgtL (r ++ l.reverse) ≤ 700000 by have := HM2.out; have := HSM.out; omega)
              have HLL := Lib.hid (show r.length + k = (r ++ l.reverse).length by simp; omega)
              clear hn hkk
              go_wp2_with fail
              go_roundg (wgtL (r ++ l.reverse))
              case rel => exact ⟨A2, c2, r ++ l.reverse, _, by rw [HLL.out], rfl, HC2, HE2, HM3⟩
              case measure => exact HM2.out
end Go.Proofs.YtoegdmpmagbaiaaDoor
