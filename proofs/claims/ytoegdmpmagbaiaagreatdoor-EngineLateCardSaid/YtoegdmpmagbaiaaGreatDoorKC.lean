/- A number's digits: in plain words, and the reference's walk. -/
import Derived.Test.YtoegdmpmagbaiaaGreatDoorKA
import Derived.Laws.BytesArg
import Derived.IntWalk
import Derived.Test.YtoegdmpmagbaiaaGreatDoorQFsize
import Derived.Deep.RegionHeld3
namespace Go.Proofs.YtoegdmpmagbaiaaGreatDoor
open Go.RowKit

def dgt (k : Nat) : UInt8 := UInt8.ofNat (48 + k)
/-- A number's digits. -/
def dgF : Nat → Nat → List UInt8
  | 0, u => [dgt (u % 10)]
  | n + 1, u => if u < 10 then [dgt u] else dgF n (u / 10) ++ [dgt (u % 10)]
def dg (u : Nat) : List UInt8 := dgF u u
theorem dgF_fuel : ∀ (n m u : Nat), u ≤ n → u ≤ m → dgF n u = dgF m u
  | 0, 0, _, _, _ => rfl
  | 0, m + 1, u, h, _ => by
    have : u = 0 := by omega
    subst this; rfl
  | n + 1, 0, u, _, h => by
    have : u = 0 := by omega
    subst this; rfl
  | n + 1, m + 1, u, hn, hm => by
    unfold dgF
    by_cases h : u < 10
    · rw [if_pos h, if_pos h]
    · rw [if_neg h, if_neg h, dgF_fuel n m (u / 10) (by omega) (by omega)]
theorem dg_small {u : Nat} (h : u < 10) : dg u = [dgt u] := by
  unfold dg
  cases u with
  | zero => rfl
  | succ n => unfold dgF; rw [if_pos h]
theorem dg_big {u : Nat} (h : ¬ u < 10) : dg u = dg (u / 10) ++ [dgt (u % 10)] := by
  unfold dg
  cases u with
  | zero => omega
  | succ n =>
    rw [dgF, if_neg h, dgF_fuel n ((n + 1) / 10) _ (by omega) (Nat.le_refl _)]
theorem dg_ind {p : Nat → Prop} (h1 : ∀ u, u < 10 → p u) (h2 : ∀ u, ¬ u < 10 → p (u / 10) → p u) : ∀ u, p u := by
  intro u
  induction u using Nat.strongRecOn with
  | _ u ih =>
    by_cases h : u < 10
    · exact h1 u h
    · exact h2 u h (ih _ (by omega))
theorem dg_len (u : Nat) : ∀ k, 1 ≤ k → u < 10 ^ k → (dg u).length ≤ k := by
  refine dg_ind (p := fun u => ∀ k, 1 ≤ k → u < 10 ^ k → (dg u).length ≤ k) (fun u h k hk _ => by rw [dg_small h]; simpa using hk) (fun u h ih k hk hu => ?_) u
  rw [dg_big h, List.length_append, List.length_singleton]
  obtain ⟨m, rfl⟩ : ∃ m, k = m + 1 := ⟨k - 1, by omega⟩
  rcases Nat.eq_zero_or_pos m with rfl | hm
  · simp at hu; omega
  · have := ih m hm (by rw [Nat.pow_succ] at hu; omega)
    omega
def digsI (n : Int) : List UInt8 := if n < 0 then 45 :: dg n.natAbs else dg n.natAbs

theorem str_cons (d : Int) (acc : List UInt8) : strOfNums [d] ++ ⟨acc.toArray⟩ = ⟨(UInt8.ofNat d.toNat :: acc).toArray⟩ := by
  apply ByteArray.ext
  simp [strOfNums]
theorem str_45 (l : List UInt8) : ByteArray.mk #[45] ++ ByteArray.mk l.toArray = ⟨(45 :: l).toArray⟩ := by
  apply ByteArray.ext
  simp
theorem dgt_I (v : Nat) : UInt8.ofNat (48 + (v : Int)).toNat = dgt v := by unfold dgt; congr 1
theorem dgt_I2 (v : Nat) : UInt8.ofNat (48 + (v : Int) % 10).toNat = dgt (v % 10) := by unfold dgt; congr 1
def Dg (u : Nat) (v : Nat) (acc : List UInt8) : Prop := dg u = dg v ++ acc
theorem Dg.few {u v : Nat} {acc : List UInt8} (h : Dg u v acc) (hu : u < 18446744073709551616) : acc.length ≤ 20 := by
  have h1 := dg_len u 20 (by omega) (by omega)
  have h2 := congrArg List.length h
  rw [List.length_append] at h2
  omega
end Go.Proofs.YtoegdmpmagbaiaaGreatDoor

/- A formula's text, in plain words. -/
namespace Go.Proofs.YtoegdmpmagbaiaaGreatDoor
open Go.RowKit

def decB (n : Int) : ByteArray := ⟨(digsI n).toArray⟩
/-- A span's text. -/
def spanT (lo hi : Int) : ByteArray := ⟨#[91]⟩ ++ decB lo ++ ⟨#[44]⟩ ++ decB hi ++ ⟨#[93]⟩
/-- A comparison. -/
def cmpT (c : Int) : ByteArray := if c = 1 then ⟨#[61]⟩ else if c = 2 then ⟨#[33, 61]⟩ else if c = 3 then ⟨#[60]⟩ else if c = 4 then ⟨#[60, 61]⟩ else if c = 5 then ⟨#[62]⟩ else ⟨#[62, 61]⟩
/-- A node without kids. -/
def leafT (x : Nd) : ByteArray :=
  if x.op = 1 then ⟨#[116, 114, 117, 101]⟩ else if x.op = 2 then ⟨#[102, 97, 108, 115, 101]⟩ else if x.cmp = 0 then x.name else x.name ++ ⟨#[32]⟩ ++ cmpT x.cmp ++ ⟨#[32]⟩ ++ decB x.val
/-- Ahead of one kid, or between two. -/
def signT (x : Nd) : ByteArray :=
  if x.op = 4 then ⟨#[33]⟩ else if x.op = 5 then ⟨#[38]⟩ else if x.op = 6 then ⟨#[124]⟩ else if x.op = 7 then ⟨#[45, 62]⟩ else if x.op = 8 then ⟨#[60, 45, 62]⟩
  else if x.op = 9 then ⟨#[70]⟩ ++ spanT x.lo x.hi ++ ⟨#[32]⟩ else if x.op = 10 then ⟨#[71]⟩ ++ spanT x.lo x.hi ++ ⟨#[32]⟩ else if x.op = 11 then ⟨#[85]⟩ ++ spanT x.lo x.hi else ⟨#[82]⟩ ++ spanT x.lo x.hi
/-- Where a kind stands; where its kids stand. -/
def placeN (op : Int) : Int := if op ≤ 3 then 7 else if op = 8 then 1 else if op = 7 then 2 else if op = 6 then 3 else if op = 5 then 4 else if 11 ≤ op then 5 else 6
def pl0 (op : Int) : Int := if op = 5 then 4 else if op = 6 then 3 else if op = 7 then 3 else if op = 8 then 1 else 6
def pl1 (op : Int) : Int := if op = 6 then 4 else if op = 7 then 2 else if op = 8 then 2 else 5
def wrapT (p : Int) (k : Int × ByteArray) : ByteArray := if placeN k.1 < p then ⟨#[40]⟩ ++ k.2 ++ ⟨#[41]⟩ else k.2
def kid0 (l : List (Int × ByteArray)) : Int × ByteArray := l.getD 0 (0, .empty)
def kid1 (l : List (Int × ByteArray)) : Int × ByteArray := l.getD 1 (0, .empty)
/-- A node's text of its kids' texts. -/
def nodeT (x : Nd) (l : List (Int × ByteArray)) : ByteArray :=
  if kidsN x.op = 0 then leafT x else if kidsN x.op = 1 then signT x ++ wrapT (pl0 x.op) (kid0 l) else wrapT (pl0 x.op) (kid0 l) ++ (⟨#[32]⟩ ++ signT x ++ ⟨#[32]⟩) ++ wrapT (pl1 x.op) (kid1 l)
def Tr.texts : Tr → List (Int × ByteArray)
  | .nil => []
  | .cons x k r => (x.op, nodeT x k.texts) :: r.texts
/-- A formula's text, were each of its nodes sound. -/
def textT (x : Nd) (ks : Tr) : ByteArray := nodeT x ks.texts
/-- Sound throughout. -/
def Tr.good : Tr → Prop
  | .nil => True
  | .cons x k r => wrongN x k.len = 0 ∧ k.good ∧ r.good
def showT (x : Nd) (ks : Tr) : ByteArray := if firstW ((Tr.cons x ks .nil).nodes 1) = 0 then textT x ks else .empty
theorem wrong_op {x : Nd} {n : Nat} (h : wrongN x n = 0) : 1 ≤ x.op ∧ x.op ≤ 12 ∧ n = kidsN x.op := by
  unfold wrongN at h
  by_cases h1 : x.op < 1 ∨ 12 < x.op ∨ n ≠ kidsN x.op
  · rw [if_pos h1] at h; cases h
  · simp only [not_or, ne_eq, Decidable.not_not] at h1; omega
theorem firstW_zero (l : List (Nd × Nat × Nat)) : firstW l = 0 ↔ ∀ y ∈ l, wrongN y.1 y.2.1 = 0 := by
  have : ∀ (l : List (Nd × Nat × Nat)) (e : Int), l.foldl (fun e y => if e = 0 then wrongN y.1 y.2.1 else e) e = 0 ↔ e = 0 ∧ ∀ y ∈ l, wrongN y.1 y.2.1 = 0 := by
    intro l
    induction l with
    | nil => intro e; simp
    | cons y l ih =>
      intro e
      rw [List.foldl_cons, ih]
      by_cases he : e = 0
      · simp [he]
      · simp [he]
  unfold firstW
  rw [this]
  simp
theorem Tr.good_iff (t : Tr) : ∀ d, (∀ y ∈ t.nodes d, wrongN y.1 y.2.1 = 0) ↔ t.good := by
  induction t with
  | nil => intro d; simp [Tr.nodes, Tr.good]
  | cons x k r ihk ihr =>
    intro d
    simp only [Tr.nodes, Tr.good, List.mem_cons, List.mem_append, ← ihk (d + 1), ← ihr d]
    constructor
    · intro h; exact ⟨h (x, k.len, d) (.inl rfl), fun y hy => h y (.inr (.inl hy)), fun y hy => h y (.inr (.inr hy))⟩
    · rintro ⟨h1, h2, h3⟩ y (rfl | hy | hy)
      · exact h1
      · exact h2 y hy
      · exact h3 y hy
theorem good_first (x : Nd) (ks : Tr) : firstW ((Tr.cons x ks .nil).nodes 1) = 0 ↔ wrongN x ks.len = 0 ∧ ks.good := by
  rw [firstW_zero, Tr.good_iff]; simp [Tr.good]
theorem texts_len (t : Tr) : t.texts.length = t.len := by
  induction t with
  | nil => rfl
  | cons x k r _ ih => simp [Tr.texts, Tr.len, ih]
theorem op_one {op : Int} (h0 : ¬ kidsN op = 0) (h1 : kidsN op = 1) : (op = 4 ∨ op = 9 ∨ op = 10) := by
  unfold kidsN at h0 h1
  by_cases h : op ≤ 3
  · rw [if_pos h] at h0; omega
  · rw [if_neg h] at h1
    by_cases h2 : op = 4 ∨ op = 9 ∨ op = 10
    · exact h2
    · rw [if_neg h2] at h1; omega
theorem op_two {op : Int} (h : 1 ≤ op ∧ op ≤ 12) (h0 : ¬ kidsN op = 0) (h1 : ¬ kidsN op = 1) : op = 5 ∨ op = 6 ∨ op = 7 ∨ op = 8 ∨ op = 11 ∨ op = 12 := by
  unfold kidsN at h0 h1
  by_cases h3 : op ≤ 3
  · rw [if_pos h3] at h0; omega
  · rw [if_neg h3] at h1
    by_cases h2 : op = 4 ∨ op = 9 ∨ op = 10
    · rw [if_pos h2] at h1; omega
    · omega
theorem kidsN_two {op : Int} (h0 : ¬ kidsN op = 0) (h1 : ¬ kidsN op = 1) : kidsN op = 2 := by
  unfold kidsN at *
  split
  · rename_i h; rw [if_pos h] at h0; omega
  · rename_i h
    rw [if_neg h] at h1
    split
    · rename_i h2; rw [if_pos h2] at h1; omega
    · rfl
end Go.Proofs.YtoegdmpmagbaiaaGreatDoor

/- A formula's text: the reference. -/
namespace Go.Proofs.YtoegdmpmagbaiaaGreatDoor
open Go.RowKit

/-- A bound for a text's bytes. -/
def Tr.wt : Tr → Nat
  | .nil => 0
  | .cons x k r => x.name.size + 100 + k.wt + r.wt
def tsum (l : List (Int × ByteArray)) : Nat := (l.map fun k => k.2.size + 2).sum
theorem kid_sum (l : List (Int × ByteArray)) : (kid0 l).2.size + (kid1 l).2.size ≤ tsum l := by
  match l with
  | [] => simp [kid0, kid1, tsum]
  | [a] => simp [kid0, kid1, tsum]
  | a :: b :: r => simp [kid0, kid1, tsum]; omega
theorem decB_size {n : Int} (hn : I64 n) : (decB n).size ≤ 20 := by
  unfold I64 at hn
  have h : ∀ u : Nat, u ≤ 9223372036854775808 → (dg u).length ≤ 19 := fun u hu => dg_len u 19 (by omega) (by omega)
  have h2 := h n.natAbs (by omega)
  unfold decB digsI
  by_cases hneg : n < 0
  · rw [if_pos hneg]; simp [ByteArray.size]; omega
  · rw [if_neg hneg]; simp [ByteArray.size]; omega
theorem spanT_size {lo hi : Int} (h1 : I64 lo) (h2 : I64 hi) : (spanT lo hi).size ≤ 43 := by
  have := decB_size h1; have := decB_size h2
  simp only [spanT, ByteArray.size_append]
  have e : ∀ b : UInt8, (ByteArray.mk #[b]).size = 1 := fun _ => rfl
  rw [e, e, e]; omega
theorem cmpT_size (c : Int) : (cmpT c).size ≤ 2 := by
  unfold cmpT; repeat' split
  all_goals decide
/-- A node's numbers are int64's. -/
structure NdOk (x : Nd) : Prop where
  op : I64 x.op
  cmp : I64 x.cmp
  val : I64 x.val
  lo : I64 x.lo
  hi : I64 x.hi
theorem signT_size {x : Nd} (h : NdOk x) : (signT x).size ≤ 45 := by
  have h1 := spanT_size h.lo h.hi
  have e1 : ∀ b : UInt8, (ByteArray.mk #[b]).size = 1 := fun _ => rfl
  have e2 : ∀ b c : UInt8, (ByteArray.mk #[b, c]).size = 2 := fun _ _ => rfl
  have e3 : ∀ b c d : UInt8, (ByteArray.mk #[b, c, d]).size = 3 := fun _ _ _ => rfl
  unfold signT
  repeat' split
  all_goals simp only [ByteArray.size_append, e1, e2, e3]
  all_goals omega
theorem leafT_size {x : Nd} (h : NdOk x) : (leafT x).size ≤ x.name.size + 24 := by
  have h1 := decB_size h.val
  have h2 := cmpT_size x.cmp
  have e1 : ∀ b : UInt8, (ByteArray.mk #[b]).size = 1 := fun _ => rfl
  have e4 : (ByteArray.mk #[116, 114, 117, 101]).size = 4 := rfl
  have e5 : (ByteArray.mk #[102, 97, 108, 115, 101]).size = 5 := rfl
  unfold leafT
  repeat' split
  all_goals (try simp only [ByteArray.size_append, e1, e4, e5])
  all_goals omega
theorem wrapT_size (p : Int) (k : Int × ByteArray) : (wrapT p k).size ≤ k.2.size + 2 := by
  have e1 : ∀ b : UInt8, (ByteArray.mk #[b]).size = 1 := fun _ => rfl
  unfold wrapT
  split
  · simp only [ByteArray.size_append, e1]; omega
  · omega
theorem nodeT_size {x : Nd} (h : NdOk x) (l : List (Int × ByteArray)) : (nodeT x l).size ≤ x.name.size + 60 + tsum l := by
  have h1 := signT_size h; have h2 := leafT_size h; have h3 := wrapT_size (pl0 x.op) (kid0 l); have h4 := wrapT_size (pl1 x.op) (kid1 l); have h5 := kid_sum l
  have e1 : ∀ b : UInt8, (ByteArray.mk #[b]).size = 1 := fun _ => rfl
  unfold nodeT
  repeat' split
  all_goals (try simp only [ByteArray.size_append, e1])
  all_goals omega
def Tr.ok : Tr → Prop
  | .nil => True
  | .cons x k r => NdOk x ∧ k.ok ∧ r.ok
theorem texts_size : ∀ t : Tr, t.ok → tsum t.texts ≤ t.wt
  | .nil, _ => Nat.le_refl _
  | .cons x k r, ⟨h1, h2, h3⟩ => by
    have a := nodeT_size h1 k.texts
    have b := texts_size k h2
    have c := texts_size r h3
    simp only [Tr.texts, tsum, List.map_cons, List.sum_cons, Tr.wt] at *
    omega
theorem textT_size {x : Nd} {ks : Tr} (h : NdOk x) (hk : ks.ok) : (textT x ks).size ≤ x.name.size + 60 + ks.wt := by
  have a := nodeT_size h ks.texts
  have b := texts_size ks hk
  unfold textT; omega

/-- What is known of a formula whose text is asked. -/
structure TxOk (x : Nd) (ks : Fo) : Prop where
  nd : NdOk x
  ok : ks.tr.ok
  wr : wrongN x ks.len = 0
  good : ks.tr.good
  wt : x.name.size + ks.tr.wt ≤ 1000000
  size : ks.tr.size ≤ 100000
theorem get_texts : ∀ {f : Fo} {k : Nat} {x : Nd} {A : Option Addr} {c : Nat} {ks rest : Fo}, f.get k = .cons x A c ks rest → f.tr.texts[k]? = some (x.op, textT x ks.tr)
  | .nil, _, _, _, _, _, _, h => by simp [Fo.get] at h
  | .cons _ _ _ _ _, 0, _, _, _, _, _, h => by
    simp only [Fo.get, Fo.cons.injEq] at h
    obtain ⟨rfl, rfl, rfl, rfl, rfl⟩ := h
    simp [Fo.tr, Tr.texts, textT]
  | .cons _ _ _ _ r, k + 1, _, _, _, _, _, h => by
    have := get_texts (f := r) (k := k) h
    simpa [Fo.tr, Tr.texts] using this
theorem get_tx : ∀ {f : Fo} {k : Nat} {x : Nd} {A : Option Addr} {c : Nat} {ks rest : Fo}, f.get k = .cons x A c ks rest → f.tr.ok → f.tr.good → f.tr.wt ≤ 1000000 → f.tr.size ≤ 100000 → TxOk x ks
  | .nil, _, _, _, _, _, _, h, _, _, _, _ => by simp [Fo.get] at h
  | .cons y B d js r, 0, _, _, _, _, _, h, h1, h2, h3, h4 => by
    simp only [Fo.get, Fo.cons.injEq] at h
    obtain ⟨rfl, rfl, rfl, rfl, rfl⟩ := h
    simp only [Fo.tr, Tr.ok, Tr.good, Tr.wt, Tr.size, Fo.tr_len] at h1 h2 h3 h4
    exact ⟨h1.1, h1.2.1, h2.1, h2.2.1, by omega, by omega⟩
  | .cons _ _ _ _ r, k + 1, _, _, _, _, _, h, h1, h2, h3, h4 => by
    simp only [Fo.tr, Tr.ok, Tr.good, Tr.wt, Tr.size] at h1 h2 h3 h4
    exact get_tx (f := r) (k := k) h h1.2.2 h2.2.2 (by omega) (by omega)
theorem TxOk.kid {x : Nd} {f : Fo} (h : TxOk x f) {k : Nat} {y : Nd} {A : Option Addr} {c : Nat} {ks rest : Fo} (hg : f.get k = .cons y A c ks rest) : TxOk y ks :=
  get_tx hg h.ok h.good (by have := h.wt; omega) h.size
theorem TxOk.text {x : Nd} {f : Fo} (h : TxOk x f) : (textT x f.tr).size ≤ 1000060 := by
  have := textT_size h.nd h.ok; have := h.wt; omega
theorem kid0_of {f : Fo} {y : Nd} {A : Option Addr} {c : Nat} {ks rest : Fo} (hg : f.get 0 = .cons y A c ks rest) : kid0 f.tr.texts = (y.op, textT y ks.tr) := by
  have := get_texts hg
  unfold kid0; rw [List.getD_eq_getElem?_getD, this]; rfl
theorem kid1_of {f : Fo} {y : Nd} {A : Option Addr} {c : Nat} {ks rest : Fo} (hg : f.get 1 = .cons y A c ks rest) : kid1 f.tr.texts = (y.op, textT y ks.tr) := by
  have := get_texts hg
  unfold kid1; rw [List.getD_eq_getElem?_getD, this]; rfl

theorem cat_ok (x y : ByteArray) (h : x.size + y.size ≤ 9223372036854775807) : ∀ W : World, (Op.stringOp .add x y).run Tryz.prog W = .ok (.string (x ++ y)) W := fun W => run_string_add_sum W x y h
theorem sz1 (b : UInt8) : (ByteArray.mk #[b]).size = 1 := rfl
theorem wrapT_yes {p : Int} {o : Int} {t : ByteArray} (h : placeN o < p) : wrapT p (o, t) = ⟨#[40]⟩ ++ t ++ ⟨#[41]⟩ := by unfold wrapT; rw [if_pos h]
theorem wrapT_no {p : Int} {o : Int} {t : ByteArray} (h : ¬ placeN o < p) : wrapT p (o, t) = t := by unfold wrapT; rw [if_neg h]
theorem textT_one {x : Nd} {ks : Tr} {k : Int × ByteArray} (h0 : ¬ kidsN x.op = 0) (h1 : kidsN x.op = 1) (hk : kid0 ks.texts = k) : textT x ks = signT x ++ wrapT (pl0 x.op) k := by
  unfold textT nodeT; rw [if_neg h0, if_pos h1, hk]
theorem textT_two {x : Nd} {ks : Tr} {k j : Int × ByteArray} (h0 : ¬ kidsN x.op = 0) (h1 : ¬ kidsN x.op = 1) (hk : kid0 ks.texts = k) (hj : kid1 ks.texts = j) : textT x ks = wrapT (pl0 x.op) k ++ (⟨#[32]⟩ ++ signT x ++ ⟨#[32]⟩) ++ wrapT (pl1 x.op) j := by
  unfold textT nodeT; rw [if_neg h0, if_neg h1, hk, hj]
end Go.Proofs.YtoegdmpmagbaiaaGreatDoor
namespace Go.Proofs.YtoegdmpmagbaiaaGreatDoor
open Go.RowKit
end Go.Proofs.YtoegdmpmagbaiaaGreatDoor
