/- strconv.FormatInt in base 10, and a span's text by the program. -/
import Derived.Test.YtdiapojppmoghaaDoorDigs
import Derived.Test.YtdiapojppmoghaaDoorFlays
import Derived.Test.YtdiapojppmoghaaDoorFtext
import Derived.Lib.SmallJoins
import Derived.Lib.AppendIntMem
namespace Go.Proofs.YtdiapojppmoghaaDoor
open Go.RowKit Go.Shelf

/-- The library's table of powers stands. -/
def TbVar (w : World) : Prop := Lib.TabIs Tryd.prog w "internal/strconv.uint64pow10" .u64 Lib.pow10Tab
theorem tb_name : Tryd.prog.globalNamed "internal/strconv.uint64pow10" = some 1 := by kernel_rfl
theorem TbVar.fr {w w' : World} (h : TbVar w) (hf : Fr Nob w w') : TbVar w' := Go.Joins.tab_stays tb_name h hf.below (Nat.le_refl _)
theorem TbVar.below {N : Nat} {w w' : World} (h : TbVar w) (hb : Below N w w') (hN : w.heap.size ≤ N) : TbVar w' := Go.Joins.tab_stays tb_name h hb hN

theorem decDigits_dg : ∀ u : Nat, Lib.decDigits u = dg u := by
  refine dg_ind (p := fun u => Lib.decDigits u = dg u) (fun u h => ?_) (fun u h ih => ?_)
  · rw [dg_small h, Lib.decDigits]; simp [h, dgt]
  · rw [dg_big h, Lib.decDigits, ← ih]; simp [h, dgt]
theorem itoa_digs (n : Int) : Lib.itoa n = digsI n := by
  unfold Lib.itoa digsI
  rw [decDigits_dg, decDigits_dg]
  by_cases h : n < 0
  · rw [if_pos h, if_pos h]
  · rw [if_neg h, if_neg h]; congr 1; omega
theorem sc_Format (w : World) (n : Int) (hn : I64 n) (ht : TbVar w) : Calls Tryd.prog 51 #[.int .i64 n, .int .i64 10] w fun e w' => e = .returned (.string (digB n)) ∧ Fr Nob w w' := by
  have h := Any.strconv_FormatInt_10 Tryd.scFormat n hn.1 hn.2 w ht
  change Calls Tryd.prog 51 _ _ _ at h
  refine h.mono ?_
  rintro e w' ⟨rfl, k, os, rfl⟩
  exact ⟨by rw [itoa_digs]; rfl, Fr.of_below (Lib.below_grow _ _ (Nat.le_refl _) _ _)⟩
set_option maxHeartbeats 1000000 in
theorem sat_Text (w : World) (lo hi : Int) (h1 : I64 lo) (h2 : I64 hi) (ht : TbVar w) : Calls Tryd.prog 52 #[.agg #[.int .i64 lo, .int .i64 hi]] w fun e w' => e = .returned (.string (spanT lo hi)) ∧ Fr Nob w w' := by
  have s1 := digB_size h1
  have s2 := digB_size h2
  have HT := Lib.hid (fun W (h : Fr Nob w W) n hn => sc_Format W n hn (ht.fr h))
  unfold spanT
  have k1 := cat_ok ⟨#[91]⟩ (digB lo) (by rw [sz1]; omega)
  have k2 := cat_ok (⟨#[91]⟩ ++ digB lo) ⟨#[44]⟩ (by simp only [ByteArray.size_append, sz1]; omega)
  have k3 := cat_ok (⟨#[91]⟩ ++ digB lo ++ ⟨#[44]⟩) (digB hi) (by simp only [ByteArray.size_append, sz1]; omega)
  have k4 := cat_ok (⟨#[91]⟩ ++ digB lo ++ ⟨#[44]⟩ ++ digB hi) ⟨#[93]⟩ (by simp only [ByteArray.size_append, sz1]; omega)
  clear s1 s2 ht
  go_enter Tryd.func52, Tryd.ntmps52
  go_wp2_with fail
  go_region_held3 (fun w' => w'.cell? ⟨w.heap.size, 0, none⟩ = some (.int .i64 lo) ∧ w'.cell? ⟨w.heap.size, 1, none⟩ = some (.int .i64 hi))
    (first | go_keep | (go_split_ands; refine ⟨?_, ?_⟩ <;> first | exact Fr.cell hf2 (by assumption) (fun e => e) | exact Fr.cell hf1 (by assumption) (fun e => e)))
    (first | ((go_at_call 51); with_reducible refine (HT.out _ ((Fr.refl _ _).alloc _).drew lo h1).mono ?_; rintro e w1 ⟨rfl, hf1⟩) | ((go_at_call 51); refine (HT.out _ (((Fr.refl _ _).alloc _).drew.call hf1 (fun _ h _ => h)) hi h2).mono ?_; rintro e w2 ⟨rfl, hf2⟩))
  go_wp2_with fail
  go_ret
  exact ⟨rfl, (((Fr.refl _ _).alloc _).drew.call hf1 (fun _ h _ => h)).call hf2 (fun _ h _ => h)⟩
set_option maxHeartbeats 1000000 in
theorem prg_compare (w : World) (c : Int) : Calls Tryd.prog 50 #[.int .i64 c] w fun e w' => e = .returned (.string (cmpT c)) ∧ w = w' := by
  go_enter Tryd.func50, Tryd.ntmps50
  go_wp2_with fail
  all_goals
    go_ret
    refine ⟨ret1 ?_, rfl⟩
    unfold cmpT
  all_goals (repeat' split) <;> first | rfl | omega | (exfalso; simp at *; omega)
end Go.Proofs.YtdiapojppmoghaaDoor
