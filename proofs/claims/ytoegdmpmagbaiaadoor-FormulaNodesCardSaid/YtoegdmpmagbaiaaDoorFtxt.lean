/- A formula's text: the reference. -/
import Derived.Test.YtoegdmpmagbaiaaDoorFshow
import Derived.Deep.RegionHeld3
namespace Go.Proofs.YtoegdmpmagbaiaaDoor
open Go.RowKit

/-- A bound for a text's bytes. -/
def Tr.wt : Tr → Nat
  | .nil => 0
  | .cons x k r => x.name.size + 100 + k.wt + r.wt
def tsum (l : List (Int × ByteArray)) : Nat := (l.map fun k => k.2.size + 2).sum
theorem kid_sum (l : List (Int × ByteArray)) : (kid0 l).2.size + (kid1 l).2.size ≤ tsum l := by
  match l with
  | [] => simp [kid0, kid1, tsum]
  | [a] => simp [kid0, kid1, tsum]
  | a :: b :: r => simp [kid0, kid1, tsum]; omega
theorem decB_size {n : Int} (hn : I64 n) : (decB n).size ≤ 20 := by
  unfold I64 at hn
  have h : ∀ u : Nat, u ≤ 9223372036854775808 → (dg u).length ≤ 19 := fun u hu => dg_len u 19 (by omega) (by omega)
  have h2 := h n.natAbs (by omega)
  unfold decB digsI
  by_cases hneg : n < 0
  · rw [if_pos hneg]; simp [ByteArray.size]; omega
  · rw [if_neg hneg]; simp [ByteArray.size]; omega
theorem spanT_size {lo hi : Int} (h1 : I64 lo) (h2 : I64 hi) : (spanT lo hi).size ≤ 43 := by
  have := decB_size h1; have := decB_size h2
  simp only [spanT, ByteArray.size_append]
  have e : ∀ b : UInt8, (ByteArray.mk #[b]).size = 1 := fun _ => rfl
  rw [e, e, e]; omega
theorem cmpT_size (c : Int) : (cmpT c).size ≤ 2 := by
  unfold cmpT; repeat' split
  all_goals decide
/-- A node's numbers are int64's. -/
structure NdOk (x : Nd) : Prop where
  op : I64 x.op
  cmp : I64 x.cmp
  val : I64 x.val
  lo : I64 x.lo
  hi : I64 x.hi
theorem signT_size {x : Nd} (h : NdOk x) : (signT x).size ≤ 45 := by
  have h1 := spanT_size h.lo h.hi
  have e1 : ∀ b : UInt8, (ByteArray.mk #[b]).size = 1 := fun _ => rfl
  have e2 : ∀ b c : UInt8, (ByteArray.mk #[b, c]).size = 2 := fun _ _ => rfl
  have e3 : ∀ b c d : UInt8, (ByteArray.mk #[b, c, d]).size = 3 := fun _ _ _ => rfl
  unfold signT
  repeat' split
  all_goals simp only [ByteArray.size_append, e1, e2, e3]
  all_goals omega
theorem leafT_size {x : Nd} (h : NdOk x) : (leafT x).size ≤ x.name.size + 24 := by
  have h1 := decB_size h.val
  have h2 := cmpT_size x.cmp
  have e1 : ∀ b : UInt8, (ByteArray.mk #[b]).size = 1 := fun _ => rfl
  have e4 : (ByteArray.mk #[116, 114, 117, 101]).size = 4 := rfl
  have e5 : (ByteArray.mk #[102, 97, 108, 115, 101]).size = 5 := rfl
  unfold leafT
  repeat' split
  all_goals (try simp only [ByteArray.size_append, e1, e4, e5])
  all_goals omega
theorem wrapT_size (p : Int) (k : Int × ByteArray) : (wrapT p k).size ≤ k.2.size + 2 := by
  have e1 : ∀ b : UInt8, (ByteArray.mk #[b]).size = 1 := fun _ => rfl
  unfold wrapT
  split
  · simp only [ByteArray.size_append, e1]; omega
  · omega
theorem nodeT_size {x : Nd} (h : NdOk x) (l : List (Int × ByteArray)) : (nodeT x l).size ≤ x.name.size + 60 + tsum l := by
  have h1 := signT_size h; have h2 := leafT_size h; have h3 := wrapT_size (pl0 x.op) (kid0 l); have h4 := wrapT_size (pl1 x.op) (kid1 l); have h5 := kid_sum l
  have e1 : ∀ b : UInt8, (ByteArray.mk #[b]).size = 1 := fun _ => rfl
  unfold nodeT
  repeat' split
  all_goals (try simp only [ByteArray.size_append, e1])
  all_goals omega
def Tr.ok : Tr → Prop
  | .nil => True
  | .cons x k r => NdOk x ∧ k.ok ∧ r.ok
theorem texts_size : ∀ t : Tr, t.ok → tsum t.texts ≤ t.wt
  | .nil, _ => Nat.le_refl _
  | .cons x k r, ⟨h1, h2, h3⟩ => by
    have a := nodeT_size h1 k.texts
    have b := texts_size k h2
    have c := texts_size r h3
    simp only [Tr.texts, tsum, List.map_cons, List.sum_cons, Tr.wt] at *
    omega
theorem textT_size {x : Nd} {ks : Tr} (h : NdOk x) (hk : ks.ok) : (textT x ks).size ≤ x.name.size + 60 + ks.wt := by
  have a := nodeT_size h ks.texts
  have b := texts_size ks hk
  unfold textT; omega

/-- What is known of a formula whose text is asked. -/
structure TxOk (x : Nd) (ks : Fo) : Prop where
  nd : NdOk x
  ok : ks.tr.ok
  wr : wrongN x ks.len = 0
  good : ks.tr.good
  wt : x.name.size + ks.tr.wt ≤ 1000000
  size : ks.tr.size ≤ 100000
theorem get_texts : ∀ {f : Fo} {k : Nat} {x : Nd} {A : Option Addr} {c : Nat} {ks rest : Fo}, f.get k = .cons x A c ks rest → f.tr.texts[k]? = some (x.op, textT x ks.tr)
  | .nil, _, _, _, _, _, _, h => by simp [Fo.get] at h
  | .cons _ _ _ _ _, 0, _, _, _, _, _, h => by
    simp only [Fo.get, Fo.cons.injEq] at h
    obtain ⟨rfl, rfl, rfl, rfl, rfl⟩ := h
    simp [Fo.tr, Tr.texts, textT]
  | .cons _ _ _ _ r, k + 1, _, _, _, _, _, h => by
    have := get_texts (f := r) (k := k) h
    simpa [Fo.tr, Tr.texts] using this
theorem get_tx : ∀ {f : Fo} {k : Nat} {x : Nd} {A : Option Addr} {c : Nat} {ks rest : Fo}, f.get k = .cons x A c ks rest → f.tr.ok → f.tr.good → f.tr.wt ≤ 1000000 → f.tr.size ≤ 100000 → TxOk x ks
  | .nil, _, _, _, _, _, _, h, _, _, _, _ => by simp [Fo.get] at h
  | .cons y B d js r, 0, _, _, _, _, _, h, h1, h2, h3, h4 => by
    simp only [Fo.get, Fo.cons.injEq] at h
    obtain ⟨rfl, rfl, rfl, rfl, rfl⟩ := h
    simp only [Fo.tr, Tr.ok, Tr.good, Tr.wt, Tr.size, Fo.tr_len] at h1 h2 h3 h4
    exact ⟨h1.1, h1.2.1, h2.1, h2.2.1, by omega, by omega⟩
  | .cons _ _ _ _ r, k + 1, _, _, _, _, _, h, h1, h2, h3, h4 => by
    simp only [Fo.tr, Tr.ok, Tr.good, Tr.wt, Tr.size] at h1 h2 h3 h4
    exact get_tx (f := r) (k := k) h h1.2.2 h2.2.2 (by omega) (by omega)
theorem TxOk.kid {x : Nd} {f : Fo} (h : TxOk x f) {k : Nat} {y : Nd} {A : Option Addr} {c : Nat} {ks rest : Fo} (hg : f.get k = .cons y A c ks rest) : TxOk y ks :=
  get_tx hg h.ok h.good (by have := h.wt; omega) h.size
theorem TxOk.text {x : Nd} {f : Fo} (h : TxOk x f) : (textT x f.tr).size ≤ 1000060 := by
  have := textT_size h.nd h.ok; have := h.wt; omega
theorem kid0_of {f : Fo} {y : Nd} {A : Option Addr} {c : Nat} {ks rest : Fo} (hg : f.get 0 = .cons y A c ks rest) : kid0 f.tr.texts = (y.op, textT y ks.tr) := by
  have := get_texts hg
  unfold kid0; rw [List.getD_eq_getElem?_getD, this]; rfl
theorem kid1_of {f : Fo} {y : Nd} {A : Option Addr} {c : Nat} {ks rest : Fo} (hg : f.get 1 = .cons y A c ks rest) : kid1 f.tr.texts = (y.op, textT y ks.tr) := by
  have := get_texts hg
  unfold kid1; rw [List.getD_eq_getElem?_getD, this]; rfl

theorem cat_ok (x y : ByteArray) (h : x.size + y.size ≤ 9223372036854775807) : ∀ W : World, (Op.stringOp .add x y).run Tryd.prog W = .ok (.string (x ++ y)) W := fun W => run_string_add_sum W x y h
theorem ref_DecB (w : World) (n : Int) (hn : I64 n) : Calls Tryd.prog 24 #[.int .i64 n] w fun e w' => e = .returned (.string (decB n)) ∧ Fr Nob w w' := ref_Digits w n hn
theorem sz1 (b : UInt8) : (ByteArray.mk #[b]).size = 1 := rfl
theorem wrapT_yes {p : Int} {o : Int} {t : ByteArray} (h : placeN o < p) : wrapT p (o, t) = ⟨#[40]⟩ ++ t ++ ⟨#[41]⟩ := by unfold wrapT; rw [if_pos h]
theorem wrapT_no {p : Int} {o : Int} {t : ByteArray} (h : ¬ placeN o < p) : wrapT p (o, t) = t := by unfold wrapT; rw [if_neg h]
theorem textT_one {x : Nd} {ks : Tr} {k : Int × ByteArray} (h0 : ¬ kidsN x.op = 0) (h1 : kidsN x.op = 1) (hk : kid0 ks.texts = k) : textT x ks = signT x ++ wrapT (pl0 x.op) k := by
  unfold textT nodeT; rw [if_neg h0, if_pos h1, hk]
theorem textT_two {x : Nd} {ks : Tr} {k j : Int × ByteArray} (h0 : ¬ kidsN x.op = 0) (h1 : ¬ kidsN x.op = 1) (hk : kid0 ks.texts = k) (hj : kid1 ks.texts = j) : textT x ks = wrapT (pl0 x.op) k ++ (⟨#[32]⟩ ++ signT x ++ ⟨#[32]⟩) ++ wrapT (pl1 x.op) j := by
  unfold textT nodeT; rw [if_neg h0, if_neg h1, hk, hj]
end Go.Proofs.YtoegdmpmagbaiaaDoor
namespace Go.Proofs.YtoegdmpmagbaiaaDoor
open Go.RowKit
end Go.Proofs.YtoegdmpmagbaiaaDoor
