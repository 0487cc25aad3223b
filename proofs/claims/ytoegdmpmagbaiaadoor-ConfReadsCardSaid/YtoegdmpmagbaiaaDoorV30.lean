/- The laws of configurations: what they read, a configuration handed over, the document's examples. -/
import Derived.Test.YtoegdmpmagbaiaaDoorV14
import Derived.Test.YtoegdmpmagbaiaaDoorV16
import Derived.Test.YtoegdmpmagbaiaaDoorV25
import Derived.Test.YtoegdmpmagbaiaaDoorV27
import Derived.Lib.QuietBelow
namespace Go.Proofs.YtoegdmpmagbaiaaDoor
open Go.RowKit Go.Lib Go.Shelf Go.Sort

/-- What the library's variables hold. -/
structure CV (w : World) : Prop where
  er : ErrVar w
  mx : MaxVar w
  tb : TbVar w
theorem CV.fr {w w' : World} (h : CV w) (hf : Fr Nob w w') : CV w' := ⟨h.er.fr hf, h.mx.fr hf, h.tb.fr hf⟩
/-- A callee that reads and makes memory, met in a region that draws its order. -/
theorem cregr {f : FuncId} {args : Array Value} {W : World} {v : Value} (h : ∀ X, Fr Nob W X → Calls Tryd.prog f args X fun e w' => e = .returned v ∧ Fr Nob X w') (d : Nat) (os : Array Obj) :
    Calls Tryd.prog f args (grow (redrawn W d) os) fun e w'' => e = .returned v ∧ ∃ p : Regrown, w'' = grow (redrawn W p.d) p.os :=
  Calls.regrown_of ((h _ (Fr.of_below (below_regrown W d os))).mono fun _ _ ⟨h1, h2⟩ => ⟨h1, h2.below⟩)
set_option maxRecDepth 100000 in
set_option maxHeartbeats 4000000 in
theorem law_plain17 (w : World) (c : CF) (A : Option Addr) (cap : Nat) : Calls Tryd.prog 19 #[.agg (cfA c A cap)] w fun e w' => e = .returned (.agg (cfA c A cap)) ∧ Fr Nob w w' := by
  unfold cfA
  go_enter Tryd.func19, Tryd.ntmps19
  go_wp2_with fail
  refine bodyPost_ret (ret_box0 (p := 2) rfl rfl ⟨_, Tryd.underlying47, rfl⟩ (by kernel_rfl) (by first | exact Blk.new_eq rfl | exact Blk.new_eq (by simp))) rfl ?_
  exact ⟨rfl, ((Fr.refl _ _).alloc _).alloc _⟩
/-- What a reading hands over. -/
def RdP (w : World) (l : List UInt8) (e : Ending) (w' : World) : Prop := ∃ A cap, e = .returned (.tuple #[.agg (cfA (readC l).1 A cap), .int .i64 (readC l).2.1, .int .i64 (readC l).2.2]) ∧ Sl w' 1 A (readC l).1.weights.length cap (ints (readC l).1.weights) ∧ Fr Nob w w'
theorem prg_ReadP (w : World) (s : ByteArray) (hs : s.size ≤ 100000) (hv : CV w) : Calls Tryd.prog 16 #[.string s] w fun e w' => RdP w s.data.toList e w' := prg_Read w s hs hv.er hv.mx
theorem ref_ReadP (w : World) (s : ByteArray) (hs : s.size ≤ 100000) : Calls Tryd.prog 17 #[.string s] w fun e w' => RdP w s.data.toList e w' := ref_Read w s hs
theorem prg_ReadOf (w : World) (s : ByteArray) (hs : s.size ≤ 100000) (hv : CV w) {c : CF} {er ln : Int} (h : readC s.data.toList = (c, er, ln)) : Calls Tryd.prog 16 #[.string s] w fun e w' => ∃ A cap, e = .returned (.tuple #[.agg (cfA c A cap), .int .i64 er, .int .i64 ln]) ∧ Sl w' 1 A c.weights.length cap (ints c.weights) ∧ Fr Nob w w' := by
  have := prg_Read w s hs hv.er hv.mx
  rw [h] at this
  exact this
/-- The document's first example. -/
def cfE : CF := ⟨2, 8, false, [1, 1], 4, 10, 0⟩
theorem ex_1 : readC [115, 111, 117, 114, 99, 101, 115, 32, 50, 10, 116, 105, 109, 101, 111, 117, 116, 32, 49, 48] = (cfE, 0, 0) := by decide +kernel
theorem ex_2 : readC [115, 111, 117, 114, 99, 101, 115, 32, 57] = (cf0, 33, 1) := by decide +kernel
theorem ex_3 : readC [10, 116, 105, 109, 101, 111, 117, 116, 32, 116, 101, 110] = (cf0, 11, 2) := by decide +kernel
theorem ex_4 : checkC cfE = 0 := by decide +kernel
theorem ex_5 : (showC cfE == []) = false := by
  rw [beq_eq_false_iff_ne]
  intro e
  have h := read_show ex_4
  rw [e] at h
  revert h
  decide +kernel
theorem Fr.tail {N : Nat} {w w1 w2 : World} (hs : w.heap.size ≤ N) (h1 : Fr Nob w w1) (hN : w1.heap.size = N) (v : Obj) (h2 : Fr (Only N) (w1.alloc v) w2) : Fr Nob w w2 :=
  (h1.alloc v).call h2 (fun i (e : i = N) hlt => by omega)
set_option maxRecDepth 100000 in
set_option maxHeartbeats 4000000 in
theorem law17_awake (w : World) (hv : CV w) : Calls Tryd.prog 15 #[] w fun e w' => e = .returned (.bool true) ∧ Fr Nob w w' := by
  have HV := Lib.hid hv
  have HR1 := Lib.hid (fun (W : World) (h : CV W) => prg_ReadOf W ⟨#[115, 111, 117, 114, 99, 101, 115, 32, 50, 10, 116, 105, 109, 101, 111, 117, 116, 32, 49, 48]⟩ (by decide) h ex_1)
  have HR2 := Lib.hid (fun (W : World) (h : CV W) => prg_ReadOf W ⟨#[115, 111, 117, 114, 99, 101, 115, 32, 57]⟩ (by decide) h ex_2)
  have HR3 := Lib.hid (fun (W : World) (h : CV W) => prg_ReadOf W ⟨#[10, 116, 105, 109, 101, 111, 117, 116, 32, 116, 101, 110]⟩ (by decide) h ex_3)
  clear hv
  go_enter Tryd.func15, Tryd.ntmps15
  go_upto_region 2 with (first | ((go_at_call 16); (with_reducible refine (HR1.out _ HV.out).mono ?_); rintro e w1 ⟨A1, c1, rfl, hs1, hf1⟩; have HS1 := Lib.hid hs1; have HF1 := Lib.hid hf1; clear hs1 hf1) | (refine wpList_stBox rfl rfl (by rfl) (by rfl) (by kernel_rfl) (by rfl) (Blk.new _ _ _) (by rfl) ?_; intro W1 hb7 hf7; have HB1 := Lib.hid hb7; have HF7 := Lib.hid (Fr.tail HF1.out.size HF1.out rfl _ hf7); have HS7 := Lib.hid (HS1.out.pure (Fr.tail (Nat.le_refl _) (Fr.refl _ _) rfl _ hf7)); clear hb7 hf7) | fail)
  go_upto_region 3 with (first | ((go_at_call 16); (with_reducible refine (HR2.out _ (HV.out.fr HF7.out)).mono ?_); rintro e w2 ⟨A2, c2, rfl, _, hf1⟩; have HF2 := Lib.hid hf1; clear hf1) | (refine wpList_stBox rfl rfl (by rfl) (by rfl) (by kernel_rfl) (by rfl) (Blk.new _ _ _) (by rfl) ?_; intro W2 hb7 hf7; have HF8 := Lib.hid (Fr.tail HF2.out.size HF2.out rfl _ hf7); clear hb7 hf7) | fail)
  go_upto_region 4 with (first | ((go_at_call 16); (with_reducible refine (HR3.out _ (HV.out.fr (HF7.out.call HF8.out (fun _ e _ => e)))).mono ?_); rintro e w3 ⟨A3, c3, rfl, _, hf1⟩; have HF3 := Lib.hid hf1; clear hf1) | (refine wpList_stBox rfl rfl (by rfl) (by rfl) (by kernel_rfl) (by rfl) (Blk.new _ _ _) (by rfl) ?_; intro W3 hb7 hf7; have HF9 := Lib.hid (Fr.tail HF3.out.size HF3.out rfl _ hf7); clear hb7 hf7) | fail)
  have HG := Lib.hid (HF8.out.call HF9.out (fun _ e _ => e))
  have HB3 := Lib.hid (HB1.out.fr HG.out (fun e => e))
  have HS3 := Lib.hid (HS7.out.pure HG.out)
  have HW3 := Lib.hid (HF7.out.call HG.out (fun _ e _ => e))
  have HC := Lib.hid (prg_Check W3 cfE A1 c1 HS3.out (by decide))
  have HSH := Lib.hid (fun (W : World) (hf : Fr Nob W3 W) => prg_Show W cfE A1 c1 (HS3.out.pure hf) (by decide) ((HV.out.fr (HW3.out.call hf (fun _ e _ => e))).tb))
  rw [ex_4] at HC
  obtain ⟨g, o, hAe, hg, hc⟩ := (HS3.out).int_at (k := 1) (by decide)
  subst hAe
  have bx := HB3.out.cell
  have bl_ := HB3.out.lt
  have hsne : (showC cfE).isEmpty = false := by
    cases h : showC cfE with
    | nil => have := ex_5; rw [h] at this; simp at this
    | cons a l => rfl
  generalize showC cfE = sh at *
  have e1 : cfA cfE (some ⟨g, o, none⟩) c1 = #[.int .i64 2, .int .i64 8, .bool false, .slice (some ⟨g, o, none⟩) 2 c1, .int .i64 4, .int .i64 10, .int .i64 0] := rfl
  rw [e1] at bx HC HSH HB3
  replace hc : W3.cell? ⟨g, o + 1, none⟩ = some (.int .i64 1) := hc
  go_wp2_with (first | ((go_at_call 20); (with_reducible refine HC.out.mono ?_); rintro e w4 ⟨rfl, hf4⟩; have HF4 := Lib.hid hf4; have HB4 := Lib.hid (HB3.out.fr hf4 (fun e => e)); have b4 := HB4.out.cell; have l4 := HB4.out.lt; clear hf4) | ((go_at_call 22); (with_reducible refine (HSH.out _ HF4.out).mono ?_); rintro e w5 ⟨rfl, hf5⟩; have HF5 := Lib.hid (HF4.out.call hf5 (fun _ e _ => e)); clear hf5) | (refine wpList_ldBox rfl rfl (by rfl) ⟨_, Tryd.underlying43, rfl⟩ (by kernel_rfl) HB4.out ?_) | (refine wpList_ldBox rfl rfl (by rfl) ⟨_, Tryd.underlying43, rfl⟩ (by kernel_rfl) HB3.out ?_) | fail)
  go_ret
  exact ⟨rfl, HW3.out.call HF5.out (fun _ e _ => e)⟩
end Go.Proofs.YtoegdmpmagbaiaaDoor
