/- The document's example of formula. -/
import Derived.Test.YtoegdmpmagbaiaaDoorFshow3
import Derived.Test.YtoegdmpmagbaiaaDoorFtxt
import Derived.Test.YtoegdmpmagbaiaaDoorFref
import Derived.Test.YtoegdmpmagbaiaaDoorFplainw2
import Derived.Deep.DeepCutAuto
namespace Go.Proofs.YtoegdmpmagbaiaaDoor
open Go.RowKit Go.Shelf

/-- A box that holds a node. -/
structure Bx (w : World) (b : Nat) (x : Nd) (A : Option Addr) (n c : Nat) : Prop where
  h0 : w.cell? ⟨b, 0, none⟩ = some (.int .i64 x.op)
  h1 : w.cell? ⟨b, 1, none⟩ = some (.string x.name)
  h2 : w.cell? ⟨b, 2, none⟩ = some (.int .i64 x.cmp)
  h3 : w.cell? ⟨b, 3, none⟩ = some (.int .i64 x.val)
  h4 : w.cell? ⟨b, 4, none⟩ = some (.int .i64 x.lo)
  h5 : w.cell? ⟨b, 5, none⟩ = some (.int .i64 x.hi)
  h6 : w.cell? ⟨b, 6, none⟩ = some (.slice A n c)
theorem Bx.of {w : World} {b : Nat} {t : TypeId} {x : Nd} {A : Option Addr} {n c : Nat} (h : Blk w b t #[.int .i64 x.op, .string x.name, .int .i64 x.cmp, .int .i64 x.val, .int .i64 x.lo, .int .i64 x.hi, .slice A n c]) : Bx w b x A n c :=
  ⟨h.cell 0, h.cell 1, h.cell 2, h.cell 3, h.cell 4, h.cell 5, h.cell 6⟩
theorem Bx.fr {w w' : World} {b : Nat} {x : Nd} {A : Option Addr} {n c : Nat} (h : Bx w b x A n c) (hf : Fr Nob w w') : Bx w' b x A n c :=
  ⟨hf.cell h.h0 (fun e => e), hf.cell h.h1 (fun e => e), hf.cell h.h2 (fun e => e), hf.cell h.h3 (fun e => e), hf.cell h.h4 (fun e => e), hf.cell h.h5 (fun e => e), hf.cell h.h6 (fun e => e)⟩
theorem law_name (w : World) (s : ByteArray) : Calls Tryd.prog 25 #[.string s] w fun e w' => e = .returned (fval ⟨3, s, 0, 0, 0, 0⟩ none 0 0) ∧ Fr Nob w w' := by
  unfold fval
  go_enter Tryd.func25, Tryd.ntmps25
  go_wp2_with fail
  exact bodyPost_ret (v := .agg #[.int .i64 3, .string s, .int .i64 0, .int .i64 0, .int .i64 0, .int .i64 0, .slice none 0 0]) (by simp [results, Tryd.results25, go_sem]) rfl ⟨rfl, (Fr.refl _ _).alloc _⟩
theorem cells7 {S : Nat → Prop} {w W : World} {b : Nat} {v0 v1 v2 v3 v4 v5 v6 : Value} (hf : Fr S w W) (hS : ¬ S b)
    (h : w.cell? ⟨b, 0, none⟩ = some v0 ∧ w.cell? ⟨b, 1, none⟩ = some v1 ∧ w.cell? ⟨b, 2, none⟩ = some v2 ∧ w.cell? ⟨b, 3, none⟩ = some v3 ∧ w.cell? ⟨b, 4, none⟩ = some v4 ∧ w.cell? ⟨b, 5, none⟩ = some v5 ∧ w.cell? ⟨b, 6, none⟩ = some v6) :
    W.cell? ⟨b, 0, none⟩ = some v0 ∧ W.cell? ⟨b, 1, none⟩ = some v1 ∧ W.cell? ⟨b, 2, none⟩ = some v2 ∧ W.cell? ⟨b, 3, none⟩ = some v3 ∧ W.cell? ⟨b, 4, none⟩ = some v4 ∧ W.cell? ⟨b, 5, none⟩ = some v5 ∧ W.cell? ⟨b, 6, none⟩ = some v6 :=
  ⟨hf.cell h.1 hS, hf.cell h.2.1 hS, hf.cell h.2.2.1 hS, hf.cell h.2.2.2.1 hS, hf.cell h.2.2.2.2.1 hS, hf.cell h.2.2.2.2.2.1 hS, hf.cell h.2.2.2.2.2.2 hS⟩
theorem zbox {w w1 : World} {g : Nat} {t : TypeId} {v0 v1 v2 v3 v4 v5 v6 : Value} (hf : Fr Nob (w.alloc (.cells #[v0, v1, v2, v3, v4, v5, v6] t)) w1) (hg : g = w.heap.size) :
    (w1.cell? ⟨g, 0, none⟩ = some v0 ∧ w1.cell? ⟨g, 1, none⟩ = some v1 ∧ w1.cell? ⟨g, 2, none⟩ = some v2 ∧ w1.cell? ⟨g, 3, none⟩ = some v3 ∧ w1.cell? ⟨g, 4, none⟩ = some v4 ∧ w1.cell? ⟨g, 5, none⟩ = some v5 ∧ w1.cell? ⟨g, 6, none⟩ = some v6) ∧
    (w1.frozen? ⟨g, 0, none⟩ = false ∧ w1.frozen? ⟨g, 1, none⟩ = false ∧ w1.frozen? ⟨g, 2, none⟩ = false ∧ w1.frozen? ⟨g, 3, none⟩ = false ∧ w1.frozen? ⟨g, 4, none⟩ = false ∧ w1.frozen? ⟨g, 5, none⟩ = false ∧ w1.frozen? ⟨g, 6, none⟩ = false) := by
  have h := (Blk.new_eq (t := t) (cs := #[v0, v1, v2, v3, v4, v5, v6]) hg).fr hf (fun e => e)
  exact ⟨⟨h.cell 0, h.cell 1, h.cell 2, h.cell 3, h.cell 4, h.cell 5, h.cell 6⟩, h.frozen 0, h.frozen 1, h.frozen 2, h.frozen 3, h.frozen 4, h.frozen 5, h.frozen 6⟩
theorem zboxd {w w1 : World} {g : Nat} {t : TypeId} {v0 v1 v2 v3 v4 v5 v6 : Value} (hf : Fr Nob (w.alloc (.cells #[v0, v1, v2, v3, v4, v5, v6] t)).drew w1) (hg : g = w.heap.size) :
    (w1.cell? ⟨g, 0, none⟩ = some v0 ∧ w1.cell? ⟨g, 1, none⟩ = some v1 ∧ w1.cell? ⟨g, 2, none⟩ = some v2 ∧ w1.cell? ⟨g, 3, none⟩ = some v3 ∧ w1.cell? ⟨g, 4, none⟩ = some v4 ∧ w1.cell? ⟨g, 5, none⟩ = some v5 ∧ w1.cell? ⟨g, 6, none⟩ = some v6) ∧
    (w1.frozen? ⟨g, 0, none⟩ = false ∧ w1.frozen? ⟨g, 1, none⟩ = false ∧ w1.frozen? ⟨g, 2, none⟩ = false ∧ w1.frozen? ⟨g, 3, none⟩ = false ∧ w1.frozen? ⟨g, 4, none⟩ = false ∧ w1.frozen? ⟨g, 5, none⟩ = false ∧ w1.frozen? ⟨g, 6, none⟩ = false) := by
  have h := (Blk.new_eq (t := t) (cs := #[v0, v1, v2, v3, v4, v5, v6]) hg).drew.fr hf (fun e => e)
  exact ⟨⟨h.cell 0, h.cell 1, h.cell 2, h.cell 3, h.cell 4, h.cell 5, h.cell 6⟩, h.frozen 0, h.frozen 1, h.frozen 2, h.frozen 3, h.frozen 4, h.frozen 5, h.frozen 6⟩
theorem Fr.set_ {S : Nat → Prop} {a w : World} (h : Fr S a w) {p : Addr} (hp : S p.block) (v : Value) : Fr S a (w.setCell p v) := h.setCell (fun _ => hp) v
theorem zlater (w1 : World) (t : TypeId) (v0 v1 v2 v3 v4 v5 v6 : Value) :
    ((∀ o, ((w1.alloc (.cells #[v0, v1, v2, v3, v4, v5, v6] t)).alloc o).cell? ⟨w1.heap.size, 0, none⟩ = some v0) ∧ (∀ o, ((w1.alloc (.cells #[v0, v1, v2, v3, v4, v5, v6] t)).alloc o).cell? ⟨w1.heap.size, 1, none⟩ = some v1) ∧ (∀ o, ((w1.alloc (.cells #[v0, v1, v2, v3, v4, v5, v6] t)).alloc o).cell? ⟨w1.heap.size, 2, none⟩ = some v2) ∧ (∀ o, ((w1.alloc (.cells #[v0, v1, v2, v3, v4, v5, v6] t)).alloc o).cell? ⟨w1.heap.size, 3, none⟩ = some v3) ∧ (∀ o, ((w1.alloc (.cells #[v0, v1, v2, v3, v4, v5, v6] t)).alloc o).cell? ⟨w1.heap.size, 4, none⟩ = some v4) ∧ (∀ o, ((w1.alloc (.cells #[v0, v1, v2, v3, v4, v5, v6] t)).alloc o).cell? ⟨w1.heap.size, 5, none⟩ = some v5) ∧ (∀ o, ((w1.alloc (.cells #[v0, v1, v2, v3, v4, v5, v6] t)).alloc o).cell? ⟨w1.heap.size, 6, none⟩ = some v6)) ∧
    ((∀ o, ((w1.alloc (.cells #[v0, v1, v2, v3, v4, v5, v6] t)).alloc o).frozen? ⟨w1.heap.size, 0, none⟩ = false) ∧ (∀ o, ((w1.alloc (.cells #[v0, v1, v2, v3, v4, v5, v6] t)).alloc o).frozen? ⟨w1.heap.size, 1, none⟩ = false) ∧ (∀ o, ((w1.alloc (.cells #[v0, v1, v2, v3, v4, v5, v6] t)).alloc o).frozen? ⟨w1.heap.size, 2, none⟩ = false) ∧ (∀ o, ((w1.alloc (.cells #[v0, v1, v2, v3, v4, v5, v6] t)).alloc o).frozen? ⟨w1.heap.size, 3, none⟩ = false) ∧ (∀ o, ((w1.alloc (.cells #[v0, v1, v2, v3, v4, v5, v6] t)).alloc o).frozen? ⟨w1.heap.size, 4, none⟩ = false) ∧ (∀ o, ((w1.alloc (.cells #[v0, v1, v2, v3, v4, v5, v6] t)).alloc o).frozen? ⟨w1.heap.size, 5, none⟩ = false) ∧ (∀ o, ((w1.alloc (.cells #[v0, v1, v2, v3, v4, v5, v6] t)).alloc o).frozen? ⟨w1.heap.size, 6, none⟩ = false)) := by
  have h := fun o => (Blk.new w1 t #[v0, v1, v2, v3, v4, v5, v6]).alloc o
  exact ⟨⟨fun o => (h o).cell 0, fun o => (h o).cell 1, fun o => (h o).cell 2, fun o => (h o).cell 3, fun o => (h o).cell 4, fun o => (h o).cell 5, fun o => (h o).cell 6⟩, fun o => (h o).frozen 0, fun o => (h o).frozen 1, fun o => (h o).frozen 2, fun o => (h o).frozen 3, fun o => (h o).frozen 4, fun o => (h o).frozen 5, fun o => (h o).frozen 6⟩
/-- A node with kids has been laid: its box, and its kids' row. -/
def LitR (W : World) (arr : Array Value) (box : Value → Array Value) (s : Value) (wx : World) : Prop := ∃ g ga, s = .pointer (some ⟨g, 0, none⟩) ∧ Fr Nob W wx ∧ W.heap.size ≤ g ∧ W.heap.size ≤ ga ∧ Blk wx g 28 (box (.slice (some ⟨ga, 0, none⟩) 2 2)) ∧ Blk wx ga 28 arr
section
variable {W w1 : World} {arr : Array Value} {box : Value → Array Value}
theorem LitR.one (hf1 : Fr Nob W.drew w1) : LitR W arr box (.pointer (some ⟨w1.heap.size + 1, 0, none⟩)) ((w1.alloc (.cells arr 28)).alloc (.cells (box (.slice (some ⟨w1.heap.size, 0, none⟩) 2 2)) 28)) := by
  have hz : W.heap.size ≤ w1.heap.size := hf1.size
  exact ⟨w1.heap.size + 1, w1.heap.size, rfl, (((Fr.refl _ W).drew.call hf1 (fun _ h _ => h)).alloc _).alloc _, by omega, hz, Blk.new_eq (by simp), (Blk.new _ _ _).alloc _⟩
theorem LitR.two (hf1 : Fr Nob W.drew w1) : LitR W arr box (.pointer (some ⟨w1.heap.size, 0, none⟩)) ((w1.alloc (.cells (box (.slice (some ⟨w1.heap.size + 1, 0, none⟩) 2 2)) 28)).alloc (.cells arr 28)) := by
  have hz : W.heap.size ≤ w1.heap.size := hf1.size
  exact ⟨w1.heap.size, w1.heap.size + 1, rfl, (((Fr.refl _ W).drew.call hf1 (fun _ h _ => h)).alloc _).alloc _, hz, by omega, (Blk.new _ _ _).alloc _, Blk.new_eq (by simp)⟩
theorem LitR.three {v0 v1 v2 v3 v4 v5 v6 b0 b1 b2 b3 b4 b5 : Value} (hf1 : Fr Nob (W.alloc (.cells #[v0, v1, v2, v3, v4, v5, v6] 28)).drew w1) (hb : box (.slice (some ⟨w1.heap.size, 0, none⟩) 2 2) = #[b0, b1, b2, b3, b4, b5, .slice (some ⟨w1.heap.size, 0, none⟩) 2 2]) :
    LitR W arr box (.pointer (some ⟨W.heap.size, 0, none⟩)) ((set7 w1 W.heap.size b0 b1 b2 b3 b4 b5 (.slice (some ⟨w1.heap.size, 0, none⟩) 2 2)).alloc (.cells arr 28)) := by
  have hz : (W.alloc (.cells #[v0, v1, v2, v3, v4, v5, v6] 28)).heap.size ≤ w1.heap.size := hf1.size
  rw [World.size_alloc] at hz
  have hb0 : Blk w1 W.heap.size 28 #[v0, v1, v2, v3, v4, v5, v6] := (Blk.new W _ _).drew.fr hf1 (fun e => e)
  have hb7 := set7_blk hb0 b0 b1 b2 b3 b4 b5 (.slice (some ⟨w1.heap.size, 0, none⟩) 2 2)
  have hf7 := set7_fr w1 W.heap.size b0 b1 b2 b3 b4 b5 (.slice (some ⟨w1.heap.size, 0, none⟩) 2 2)
  have hs7 : (set7 w1 W.heap.size b0 b1 b2 b3 b4 b5 (.slice (some ⟨w1.heap.size, 0, none⟩) 2 2)).heap.size = w1.heap.size := by simp [set7]
  have hfw : Fr Nob W w1 := ((Fr.refl _ W).alloc _).drew.call hf1 (fun _ h _ => h)
  rw [← hb] at hb7
  generalize set7 w1 W.heap.size b0 b1 b2 b3 b4 b5 (.slice (some ⟨w1.heap.size, 0, none⟩) 2 2) = X at *
  exact ⟨W.heap.size, w1.heap.size, rfl, (hfw.trans hf7 (fun i hi h => by unfold Only at h; omega)).alloc _, Nat.le_refl _, by omega, hb7.alloc _, Blk.new_eq hs7.symm⟩
end
def orC (a : Value) : Array Value := #[.int .i64 6, .string ⟨#[]⟩, .int .i64 0, .int .i64 0, .int .i64 0, .int .i64 0, a]
def bcC : Array Value := #[.int .i64 3, .string ⟨#[98]⟩, .int .i64 0, .int .i64 0, .int .i64 0, .int .i64 0, .slice none 0 0, .int .i64 3, .string ⟨#[99]⟩, .int .i64 5, .int .i64 3, .int .i64 0, .int .i64 0, .slice none 0 0]
def unC (a : Value) : Array Value := #[.int .i64 11, .string ⟨#[]⟩, .int .i64 0, .int .i64 0, .int .i64 0, .int .i64 5, a]
def aoC (a : Value) : Array Value := #[.int .i64 3, .string ⟨#[97]⟩, .int .i64 0, .int .i64 0, .int .i64 0, .int .i64 0, .slice none 0 0, .int .i64 6, .string ⟨#[]⟩, .int .i64 0, .int .i64 0, .int .i64 0, .int .i64 0, a]
def awO : Fo := .cons ⟨3, ⟨#[98]⟩, 0, 0, 0, 0⟩ none 0 .nil (.cons ⟨3, ⟨#[99]⟩, 5, 3, 0, 0⟩ none 0 .nil .nil)
def awK (ga : Nat) : Fo := .cons ⟨3, ⟨#[97]⟩, 0, 0, 0, 0⟩ none 0 .nil (.cons ⟨6, ⟨#[]⟩, 0, 0, 0, 0⟩ (some ⟨ga, 0, none⟩) 2 awO .nil)
theorem aw_names {ga : Nat} : ∀ y ∈ (Tr.cons ⟨11, ⟨#[]⟩, 0, 0, 0, 5⟩ (awK ga).tr .nil).nodes 1, y.1.name.size ≤ 9223372036854775807 := by
  have h : ((Tr.cons ⟨11, ⟨#[]⟩, 0, 0, 0, 5⟩ (awK ga).tr .nil).nodes 1).all (fun y => decide (y.1.name.size ≤ 100)) = true := by rfl
  intro y hy
  have := of_decide_eq_true (List.all_eq_true.1 h y hy)
  omega
theorem aw_sz {ga : Nat} : (awK ga).tr.size ≤ 100000 := by rw [show (awK ga).tr.size = 4 from rfl]; decide
theorem aw_wt {ga : Nat} : (⟨11, ⟨#[]⟩, 0, 0, 0, 5⟩ : Nd).name.size + (awK ga).tr.wt ≤ 1000000 := by rw [show (⟨11, ⟨#[]⟩, 0, 0, 0, 5⟩ : Nd).name.size + (awK ga).tr.wt = 403 from rfl]; decide
theorem aw_ok {ga : Nat} : NdOk ⟨11, ⟨#[]⟩, 0, 0, 0, 5⟩ ∧ (awK ga).tr.ok := by
  have h : ∀ (a b c d e : Int) (s : ByteArray), 0 ≤ a → a ≤ 20 → 0 ≤ b → b ≤ 20 → 0 ≤ c → c ≤ 20 → 0 ≤ d → d ≤ 20 → 0 ≤ e → e ≤ 20 → NdOk ⟨a, s, b, c, d, e⟩ := fun a b c d e s h1 h2 h3 h4 h5 h6 h7 h8 h9 h0 =>
    ⟨⟨by simp only; omega, by simp only; omega⟩, ⟨by simp only; omega, by simp only; omega⟩, ⟨by simp only; omega, by simp only; omega⟩, ⟨by simp only; omega, by simp only; omega⟩, ⟨by simp only; omega, by simp only; omega⟩⟩
  refine ⟨h _ _ _ _ _ _ ?_ ?_ ?_ ?_ ?_ ?_ ?_ ?_ ?_ ?_, h _ _ _ _ _ _ ?_ ?_ ?_ ?_ ?_ ?_ ?_ ?_ ?_ ?_, trivial, h _ _ _ _ _ _ ?_ ?_ ?_ ?_ ?_ ?_ ?_ ?_ ?_ ?_, ⟨h _ _ _ _ _ _ ?_ ?_ ?_ ?_ ?_ ?_ ?_ ?_ ?_ ?_, trivial, h _ _ _ _ _ _ ?_ ?_ ?_ ?_ ?_ ?_ ?_ ?_ ?_ ?_, trivial, trivial⟩, trivial⟩ <;> decide
theorem row_two {N g : Nat} {w : World} {t : TypeId} {x y : Nd} {A B : Option Addr} {c d : Nat} {ks js : Fo} (h : Blk w g t #[.int .i64 x.op, .string x.name, .int .i64 x.cmp, .int .i64 x.val, .int .i64 x.lo, .int .i64 x.hi, .slice A ks.len c, .int .i64 y.op, .string y.name, .int .i64 y.cmp, .int .i64 y.val, .int .i64 y.lo, .int .i64 y.hi, .slice B js.len d])
    (hk : FoSl N w A c ks) (hj : FoSl N w B d js) (hg : g < N) : FoSl N w (some ⟨g, 0, none⟩) 2 (.cons x A c ks (.cons y B d js .nil)) := by
  refine ⟨⟨Nat.le_refl _, by decide, fun e => by cases e⟩, fun _ => ⟨g, 0, rfl⟩, fun bb oo e => ?_⟩
  simp only [Option.some.injEq, Addr.mk.injEq, and_true] at e
  obtain ⟨rfl, rfl⟩ := e
  refine ⟨hg, h.lt, fun j u hu => ?_, hk.ok, hk.some_, hk.at_, hg, h.lt, fun j u hu => ?_, hj.ok, hj.some_, hj.at_, trivial⟩
  · rw [Nat.zero_add, h.cell]
    match j, hu with
    | 0, hu => exact hu
    | 1, hu => exact hu
    | 2, hu => exact hu
    | 3, hu => exact hu
    | 4, hu => exact hu
    | 5, hu => exact hu
    | 6, hu => exact hu
    | j + 7, hu => simp [fcs] at hu
  · rw [Nat.zero_add, h.cell]
    match j, hu with
    | 0, hu => exact hu
    | 1, hu => exact hu
    | 2, hu => exact hu
    | 3, hu => exact hu
    | 4, hu => exact hu
    | 5, hu => exact hu
    | 6, hu => exact hu
    | j + 7, hu => simp [fcs] at hu
set_option maxRecDepth 100000 in
set_option maxHeartbeats 4000000 in
theorem law_awake (w : World) (hv : ShVar w) (ht : TbVar w) : Calls Tryd.prog 9 #[] w fun e w' => e = .returned (.bool true) ∧ Fr Nob w w' := by
  have HNM := Lib.hid law_name
  unfold fval at HNM
  go_enter Tryd.func9, Tryd.ntmps9
  go_upto_region 2 with fail
  obtain ⟨W, hW⟩ : ∃ W, w.alloc (.cells #[.int .i64 3, .string ⟨#[99]⟩, .int .i64 5, .int .i64 3, .int .i64 0, .int .i64 0, .slice none 0 0] 28) = W := ⟨_, rfl⟩
  have hfW : Fr Nob w W := by rw [← hW]; exact (Fr.refl _ _).alloc _
  have hbW : Blk W w.heap.size 28 #[.int .i64 3, .string ⟨#[99]⟩, .int .i64 5, .int .i64 3, .int .i64 0, .int .i64 0, .slice none 0 0] := by rw [← hW]; exact Blk.new _ _ _
  rw [hW]
  have HGL := Lib.hid hbW.lt
  have HFW := Lib.hid hfW
  obtain ⟨q0, q1, q2, q3, q4, q5, q6⟩ := Bx.of (x := ⟨3, ⟨#[99]⟩, 5, 3, 0, 0⟩) hbW
  clear hW hfW hbW
  go_cut [2] (fun s2 wx => LitR W bcC orC s2 wx)
  case first =>
    go_region_held3 (fun w' => w'.cell? ⟨w.heap.size, 0, none⟩ = some (.int .i64 3) ∧ w'.cell? ⟨w.heap.size, 1, none⟩ = some (.string ⟨#[99]⟩) ∧ w'.cell? ⟨w.heap.size, 2, none⟩ = some (.int .i64 5) ∧ w'.cell? ⟨w.heap.size, 3, none⟩ = some (.int .i64 3) ∧ w'.cell? ⟨w.heap.size, 4, none⟩ = some (.int .i64 0) ∧ w'.cell? ⟨w.heap.size, 5, none⟩ = some (.int .i64 0) ∧ w'.cell? ⟨w.heap.size, 6, none⟩ = some (.slice none 0 0))
      (first | exact cells7 (S := fun k => W.heap.size ≤ k) (w := w1) (by repeat' (first | with_reducible exact Fr.refl _ _ | with_reducible refine Fr.alloc ?_ _ | with_reducible refine Fr.set_ ?_ ?_ _ | exact Nat.le_refl _)) (Nat.not_le_of_lt HGL.out) hbx | with_reducible exact cells7 hf1 (fun e => e) (by assumption) | go_keep)
      (first | ((go_at_call 25); refine (HNM.out _ _).mono ?_; rintro e w1 ⟨rfl, hf1⟩; have hz : W.heap.size ≤ w1.heap.size := (by have := hf1.size; first | (simp at this; omega) | simpa using this); have hbx := cells7 hf1 (fun e => e) (by assumption); obtain ⟨⟨x0, x1, x2, x3, x4, x5, x6⟩, ⟨n0, n1, n2, n3, n4, n5, n6⟩⟩ := zlater w1 28 (.int .i64 0) (.string ⟨#[]⟩) (.int .i64 0) (.int .i64 0) (.int .i64 0) (.int .i64 0) (.slice none 0 0); first | (have hzz := zboxd (g := W.heap.size) hf1 rfl; obtain ⟨⟨z0, z1, z2, z3, z4, z5, z6⟩, ⟨y0, y1, y2, y3, y4, y5, y6⟩⟩ := hzz; have hz9 := World.block_lt_of_cell? w1 _ z0; simp only at hz9) | skip))
    all_goals (go_wp2_with fail; go_meet)
    · exact LitR.one hf1
    · exact LitR.two hf1
    · exact LitR.three hf1 rfl
  case rest =>
    obtain ⟨g, ga, rfl, hfr, _, _, hbg, hba⟩ := hcut
    clear q0 q1 q2 q3 q4 q5 q6 HGL
    have HGL := Lib.hid hbg.lt
    have HF1 := Lib.hid (HFW.out.call hfr (fun _ h _ => h))
    have HBG := Lib.hid hbg
    have HBA := Lib.hid hba
    obtain ⟨q0, q1, q2, q3, q4, q5, q6⟩ := Bx.of (x := ⟨6, ⟨#[]⟩, 0, 0, 0, 0⟩) hbg
    clear hbg hba hfr HFW
    go_upto_region 3 with fail
    go_cut [3] (fun s3 wx => LitR wc (aoC (.slice (some ⟨ga, 0, none⟩) 2 2)) unC s3 wx)
    case first =>
      go_region_held3 (fun w' => w'.cell? ⟨g, 0, none⟩ = some (.int .i64 6) ∧ w'.cell? ⟨g, 1, none⟩ = some (.string ⟨#[]⟩) ∧ w'.cell? ⟨g, 2, none⟩ = some (.int .i64 0) ∧ w'.cell? ⟨g, 3, none⟩ = some (.int .i64 0) ∧ w'.cell? ⟨g, 4, none⟩ = some (.int .i64 0) ∧ w'.cell? ⟨g, 5, none⟩ = some (.int .i64 0) ∧ w'.cell? ⟨g, 6, none⟩ = some (.slice (some ⟨ga, 0, none⟩) 2 2))
        (first | exact cells7 (S := fun k => wc.heap.size ≤ k) (w := w1) (by repeat' (first | with_reducible exact Fr.refl _ _ | with_reducible refine Fr.alloc ?_ _ | with_reducible refine Fr.set_ ?_ ?_ _ | exact Nat.le_refl _)) (Nat.not_le_of_lt HGL.out) hbx | with_reducible exact cells7 hf1 (fun e => e) (by assumption) | go_keep)
        (first | ((go_at_call 25); refine (HNM.out _ _).mono ?_; rintro e w1 ⟨rfl, hf1⟩; have hz : wc.heap.size ≤ w1.heap.size := (by have := hf1.size; first | (simp at this; omega) | simpa using this); have hbx := cells7 hf1 (fun e => e) (by assumption); obtain ⟨⟨x0, x1, x2, x3, x4, x5, x6⟩, ⟨n0, n1, n2, n3, n4, n5, n6⟩⟩ := zlater w1 28 (.int .i64 0) (.string ⟨#[]⟩) (.int .i64 0) (.int .i64 0) (.int .i64 0) (.int .i64 0) (.slice none 0 0); first | (have hzz := zboxd (g := wc.heap.size) hf1 rfl; obtain ⟨⟨z0, z1, z2, z3, z4, z5, z6⟩, ⟨y0, y1, y2, y3, y4, y5, y6⟩⟩ := hzz; have hz9 := World.block_lt_of_cell? w1 _ z0; simp only at hz9) | skip))
      all_goals (go_wp2_with fail; go_meet)
      · exact LitR.one hf1
      · exact LitR.two hf1
      · exact LitR.three hf1 rfl
    case rest =>
      obtain ⟨gf, gr, rfl, hfr, _, _, hbf, hbr⟩ := hcut
      clear q0 q1 q2 q3 q4 q5 q6 HGL
      have hbo := HBG.out.fr hfr (fun e => e)
      have hor := row_two (N := wc.heap.size) (x := ⟨3, ⟨#[98]⟩, 0, 0, 0, 0⟩) (y := ⟨3, ⟨#[99]⟩, 5, 3, 0, 0⟩) (HBA.out.fr hfr (fun e => e)) (FoSl.nil _ _) (FoSl.nil _ _) (HBA.out.fr hfr (fun e => e)).lt
      have hun := row_two (N := wc.heap.size) (x := ⟨3, ⟨#[97]⟩, 0, 0, 0, 0⟩) (y := ⟨6, ⟨#[]⟩, 0, 0, 0, 0⟩) (js := .cons ⟨3, ⟨#[98]⟩, 0, 0, 0, 0⟩ none 0 .nil (.cons ⟨3, ⟨#[99]⟩, 5, 3, 0, 0⟩ none 0 .nil .nil)) hbr (FoSl.nil _ _) hor hbr.lt
      have hfw : Fr Nob w wc := HF1.out.call hfr (fun _ h _ => h)
      have hv2 := hv.fr hfw
      have ht2 := ht.fr hfw
      have HCK := Lib.hid (fun W (hf : Fr Nob wc W) => prg_Check W ⟨11, ⟨#[]⟩, 0, 0, 0, 5⟩ _ 2 (awK ga) ((hun.fr hf).mono hf.size) aw_sz (hv2.fr hf) aw_names)
      have HSO := Lib.hid (fun W (hf : Fr Nob wc W) => prg_Sound W ⟨11, ⟨#[]⟩, 0, 0, 0, 5⟩ _ 2 (awK ga) ((hun.fr hf).mono hf.size) aw_sz (hv2.fr hf) aw_names)
      have HSZ := Lib.hid (fun W (hf : Fr Nob wc W) => prg_Size W ⟨11, ⟨#[]⟩, 0, 0, 0, 5⟩ _ 2 (awK ga) ((hun.fr hf).mono hf.size) aw_sz)
      have HDP := Lib.hid (fun W (hf : Fr Nob wc W) => prg_Deep W ⟨11, ⟨#[]⟩, 0, 0, 0, 5⟩ _ 2 (awK ga) ((hun.fr hf).mono hf.size) aw_sz)
      have HS1 := Lib.hid (fun W (hf : Fr Nob wc W) => prg_Same W ⟨11, ⟨#[]⟩, 0, 0, 0, 5⟩ ⟨11, ⟨#[]⟩, 0, 0, 0, 5⟩ _ _ 2 2 (awK ga) (awK ga) ((hun.fr hf).mono hf.size) ((hun.fr hf).mono hf.size) aw_sz)
      have HS2 := Lib.hid (fun W (hf : Fr Nob wc W) => prg_Same W ⟨11, ⟨#[]⟩, 0, 0, 0, 5⟩ ⟨6, ⟨#[]⟩, 0, 0, 0, 0⟩ _ _ 2 2 (awK ga) awO ((hun.fr hf).mono hf.size) ((hor.fr hf).mono hf.size) aw_sz)
      have HSH := Lib.hid (fun W (hf : Fr Nob wc W) => prg_Show W ⟨11, ⟨#[]⟩, 0, 0, 0, 5⟩ _ 2 (awK ga) ((hun.fr hf).mono hf.size) aw_sz (hv2.fr hf) (ht2.fr hf) (aw_ok (ga := ga)).1 (aw_ok (ga := ga)).2 aw_wt aw_names)
      have HC2 := Lib.hid (fun W (hf : Fr Nob wc W) => prg_Check W ⟨3, ⟨#[65]⟩, 0, 0, 0, 0⟩ none 0 .nil (FoSl.nil _ _) (by decide) (hv2.fr hf) (fun y hy => by simp [Fo.tr, Tr.nodes] at hy; subst hy; decide))
      rw [show (awK ga).len = 2 from rfl, show checkT ⟨11, ⟨#[]⟩, 0, 0, 0, 5⟩ (awK ga).tr = 0 by kernel_rfl] at HCK
      rw [show (awK ga).len = 2 from rfl, show (firstW ((Tr.cons ⟨11, ⟨#[]⟩, 0, 0, 0, 5⟩ (awK ga).tr .nil).nodes 1) == 0) = true by kernel_rfl] at HSO
      rw [show (awK ga).len = 2 from rfl, show (awK ga).tr.size + 1 = 5 from rfl] at HSZ
      rw [show (awK ga).len = 2 from rfl, show (awK ga).tr.deep + 1 = 3 from rfl] at HDP
      rw [show (awK ga).len = 2 from rfl, show same1 ⟨11, ⟨#[]⟩, 0, 0, 0, 5⟩ (awK ga).tr ⟨11, ⟨#[]⟩, 0, 0, 0, 5⟩ (awK ga).tr = true from (same1_iff _ _ _ _).2 ⟨rfl, rfl⟩] at HS1
      rw [show (awK ga).len = 2 from rfl, show awO.len = 2 from rfl, show same1 ⟨11, ⟨#[]⟩, 0, 0, 0, 5⟩ (awK ga).tr ⟨6, ⟨#[]⟩, 0, 0, 0, 0⟩ awO.tr = false by kernel_rfl] at HS2
      rw [show (awK ga).len = 2 from rfl, show showT ⟨11, ⟨#[]⟩, 0, 0, 0, 5⟩ (awK ga).tr = ⟨#[97, 32, 85, 91, 48, 44, 53, 93, 32, 40, 98, 32, 124, 32, 99, 32, 62, 32, 51, 41]⟩ by kernel_rfl] at HSH
      rw [show Fo.nil.len = 0 from rfl, show checkT ⟨3, ⟨#[65]⟩, 0, 0, 0, 0⟩ Fo.nil.tr = 21 by kernel_rfl] at HC2
      obtain ⟨q0, q1, q2, q3, q4, q5, q6⟩ := Bx.of (x := ⟨11, ⟨#[]⟩, 0, 0, 0, 5⟩) hbf
      obtain ⟨r0, r1, r2, r3, r4, r5, r6⟩ := Bx.of (x := ⟨6, ⟨#[]⟩, 0, 0, 0, 0⟩) hbo
      have HFW := Lib.hid hfw
      have hfc : Fr Nob wc wc := Fr.refl _ _
      unfold fval at HCK HSO HSZ HDP HS1 HS2 HSH HC2
      clear hbo hor hun hv2 ht2 hbf hbr hfr hfw hv ht HBA HBG HF1
      go_wp2_with (first | ((go_at_call 26); with_reducible refine (HCK.out _ hfc).mono ?_; rintro e w1 ⟨rfl, hf1⟩; replace hfc := hfc.call hf1 (fun _ h _ => h); replace q0 := hf1.cell q0 (fun e => e); replace q1 := hf1.cell q1 (fun e => e); replace q2 := hf1.cell q2 (fun e => e); replace q3 := hf1.cell q3 (fun e => e); replace q4 := hf1.cell q4 (fun e => e); replace q5 := hf1.cell q5 (fun e => e); replace q6 := hf1.cell q6 (fun e => e); replace r0 := hf1.cell r0 (fun e => e); replace r1 := hf1.cell r1 (fun e => e); replace r2 := hf1.cell r2 (fun e => e); replace r3 := hf1.cell r3 (fun e => e); replace r4 := hf1.cell r4 (fun e => e); replace r5 := hf1.cell r5 (fun e => e); replace r6 := hf1.cell r6 (fun e => e)) | ((go_at_call 27); with_reducible refine (HSO.out _ hfc).mono ?_; rintro e w1 ⟨rfl, hf1⟩; replace hfc := hfc.call hf1 (fun _ h _ => h); replace q0 := hf1.cell q0 (fun e => e); replace q1 := hf1.cell q1 (fun e => e); replace q2 := hf1.cell q2 (fun e => e); replace q3 := hf1.cell q3 (fun e => e); replace q4 := hf1.cell q4 (fun e => e); replace q5 := hf1.cell q5 (fun e => e); replace q6 := hf1.cell q6 (fun e => e); replace r0 := hf1.cell r0 (fun e => e); replace r1 := hf1.cell r1 (fun e => e); replace r2 := hf1.cell r2 (fun e => e); replace r3 := hf1.cell r3 (fun e => e); replace r4 := hf1.cell r4 (fun e => e); replace r5 := hf1.cell r5 (fun e => e); replace r6 := hf1.cell r6 (fun e => e)) | ((go_at_call 28); with_reducible refine (HSZ.out _ hfc).mono ?_; rintro e w1 ⟨rfl, hf1⟩; replace hfc := hfc.call hf1 (fun _ h _ => h); replace q0 := hf1.cell q0 (fun e => e); replace q1 := hf1.cell q1 (fun e => e); replace q2 := hf1.cell q2 (fun e => e); replace q3 := hf1.cell q3 (fun e => e); replace q4 := hf1.cell q4 (fun e => e); replace q5 := hf1.cell q5 (fun e => e); replace q6 := hf1.cell q6 (fun e => e); replace r0 := hf1.cell r0 (fun e => e); replace r1 := hf1.cell r1 (fun e => e); replace r2 := hf1.cell r2 (fun e => e); replace r3 := hf1.cell r3 (fun e => e); replace r4 := hf1.cell r4 (fun e => e); replace r5 := hf1.cell r5 (fun e => e); replace r6 := hf1.cell r6 (fun e => e)) | ((go_at_call 29); with_reducible refine (HDP.out _ hfc).mono ?_; rintro e w1 ⟨rfl, hf1⟩; replace hfc := hfc.call hf1 (fun _ h _ => h); replace q0 := hf1.cell q0 (fun e => e); replace q1 := hf1.cell q1 (fun e => e); replace q2 := hf1.cell q2 (fun e => e); replace q3 := hf1.cell q3 (fun e => e); replace q4 := hf1.cell q4 (fun e => e); replace q5 := hf1.cell q5 (fun e => e); replace q6 := hf1.cell q6 (fun e => e); replace r0 := hf1.cell r0 (fun e => e); replace r1 := hf1.cell r1 (fun e => e); replace r2 := hf1.cell r2 (fun e => e); replace r3 := hf1.cell r3 (fun e => e); replace r4 := hf1.cell r4 (fun e => e); replace r5 := hf1.cell r5 (fun e => e); replace r6 := hf1.cell r6 (fun e => e)) | ((go_at_call 30); with_reducible refine (HS1.out _ hfc).mono ?_; rintro e w1 ⟨rfl, hf1⟩; replace hfc := hfc.call hf1 (fun _ h _ => h); replace q0 := hf1.cell q0 (fun e => e); replace q1 := hf1.cell q1 (fun e => e); replace q2 := hf1.cell q2 (fun e => e); replace q3 := hf1.cell q3 (fun e => e); replace q4 := hf1.cell q4 (fun e => e); replace q5 := hf1.cell q5 (fun e => e); replace q6 := hf1.cell q6 (fun e => e); replace r0 := hf1.cell r0 (fun e => e); replace r1 := hf1.cell r1 (fun e => e); replace r2 := hf1.cell r2 (fun e => e); replace r3 := hf1.cell r3 (fun e => e); replace r4 := hf1.cell r4 (fun e => e); replace r5 := hf1.cell r5 (fun e => e); replace r6 := hf1.cell r6 (fun e => e)) | ((go_at_call 30); with_reducible refine (HS2.out _ hfc).mono ?_; rintro e w1 ⟨rfl, hf1⟩; replace hfc := hfc.call hf1 (fun _ h _ => h); replace q0 := hf1.cell q0 (fun e => e); replace q1 := hf1.cell q1 (fun e => e); replace q2 := hf1.cell q2 (fun e => e); replace q3 := hf1.cell q3 (fun e => e); replace q4 := hf1.cell q4 (fun e => e); replace q5 := hf1.cell q5 (fun e => e); replace q6 := hf1.cell q6 (fun e => e); replace r0 := hf1.cell r0 (fun e => e); replace r1 := hf1.cell r1 (fun e => e); replace r2 := hf1.cell r2 (fun e => e); replace r3 := hf1.cell r3 (fun e => e); replace r4 := hf1.cell r4 (fun e => e); replace r5 := hf1.cell r5 (fun e => e); replace r6 := hf1.cell r6 (fun e => e)) | ((go_at_call 31); with_reducible refine (HSH.out _ hfc).mono ?_; rintro e w1 ⟨rfl, hf1⟩; replace hfc := hfc.call hf1 (fun _ h _ => h); replace q0 := hf1.cell q0 (fun e => e); replace q1 := hf1.cell q1 (fun e => e); replace q2 := hf1.cell q2 (fun e => e); replace q3 := hf1.cell q3 (fun e => e); replace q4 := hf1.cell q4 (fun e => e); replace q5 := hf1.cell q5 (fun e => e); replace q6 := hf1.cell q6 (fun e => e); replace r0 := hf1.cell r0 (fun e => e); replace r1 := hf1.cell r1 (fun e => e); replace r2 := hf1.cell r2 (fun e => e); replace r3 := hf1.cell r3 (fun e => e); replace r4 := hf1.cell r4 (fun e => e); replace r5 := hf1.cell r5 (fun e => e); replace r6 := hf1.cell r6 (fun e => e)) | ((go_at_call 25); refine (HNM.out _ _).mono ?_; rintro e w1 ⟨rfl, hf1⟩; replace hfc := hfc.call hf1 (fun _ h _ => h)) | ((go_at_call 26); with_reducible refine (HC2.out _ hfc).mono ?_; rintro e w1 ⟨rfl, hf1⟩; replace hfc := hfc.call hf1 (fun _ h _ => h)))
      go_ret
      exact ⟨rfl, HFW.out.call hfc (fun _ h _ => h)⟩
end Go.Proofs.YtoegdmpmagbaiaaDoor
