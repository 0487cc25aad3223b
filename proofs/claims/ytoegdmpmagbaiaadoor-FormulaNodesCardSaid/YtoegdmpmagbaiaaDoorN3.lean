/- FormulaNodes: an iterator over the nodes hands out each, ahead of its kids, and none behind the one at which it is stopped. -/
import Derived.Test.YtoegdmpmagbaiaaDoorN4
import Derived.Test.YtoegdmpmagbaiaaDoorN6
import Derived.Test.YtoegdmpmagbaiaaDoorFawake
import Derived.Test.YtoegdmpmagbaiaaDoorFfew
import Derived.Deep.AppendLies
import Derived.Sort.CutIn
namespace Go.Proofs.YtoegdmpmagbaiaaDoor
open Go.RowKit Go.Shelf Go.Lib
attribute [local go_sem] Oper.semAt_some

theorem prg_Nodes (w : World) (x : Nd) (A : Option Addr) (n c : Nat) : Calls Tryd.prog 13 #[fval x A n c] w fun e w' => e = .returned (.func (.func 32) #[] #[.pointer (some ⟨w.heap.size, 0, none⟩)]) ∧ w.alloc (.cells #[.int .i64 x.op, .string x.name, .int .i64 x.cmp, .int .i64 x.val, .int .i64 x.lo, .int .i64 x.hi, .slice A n c] 28) = w' := by
  unfold fval
  go_enter Tryd.func13, Tryd.ntmps13
  go_wp2_with fail
  go_ret
  exact ⟨rfl, rfl⟩
theorem zipf (p : Tmp) (u : Value) (arr : Array Value) : ((#[p].zip #[u]).foldl (fun t (q : Tmp × Value) => t.setIfInBounds q.1 q.2) arr) = arr.setIfInBounds p u := by simp
def nodeV (v : Vis) : Value := .agg #[.int .i64 v.x.op, .string v.x.name, .int .i64 v.x.cmp, .int .i64 v.x.val, .int .i64 v.x.lo, .int .i64 v.x.hi, .slice v.A v.n v.c]
def ndArr (v : Vis) : Array Value := #[.int .i64 v.x.op, .string v.x.name, .int .i64 v.x.cmp, .int .i64 v.x.val, .int .i64 v.x.lo, .int .i64 v.x.hi, .slice v.A v.n v.c]
/-- The law's frame in the loop. -/
def frN (fx fB RS : Value) (wz : Nat) (n n0 : Int) (G gf : Nat) (s9 s23 : Value) : Array Value :=
  #[fx, .int .u8 n, .pointer (some ⟨wz, 0, none⟩), .pointer (some ⟨wz + 1, 0, none⟩), .bool false, .bool true, .int .i64 n0, RS, .pointer (some ⟨G, 0, none⟩), s9, undef, .bool true, .bool true, .bool false, fx, .int .i64 n0, .int .i64 n0, .bool false, fx, fB, RS, fx, .func (.func 32) #[] #[.pointer (some ⟨gf, 0, none⟩)], s23,
    undef, undef, undef, undef, undef, undef, undef, undef, undef, undef, undef, undef, undef, undef, undef, undef, undef, undef, undef, undef, undef, undef, undef, undef, undef, undef, undef, undef, undef, undef, undef, undef, undef, undef, undef, undef, undef]
/-- What was gathered so far. -/
def GotI (N0 G : Nat) (pre : List Vis) (W : World) : Prop := ∃ A' c', Blk W G 26 #[.slice A' pre.length c'] ∧ W.ownsRow N0 28 7 (.slice A' pre.length c') pre.length (pre.flatMap vcs)
theorem own_grownT {W W' : World} {row : Option Nat} {base n : Nat} {v : Value} {xs : List Value} (h : W.ownsRow base 28 7 v n xs) (hg : W.grownBy W' row) (hr : ∀ r, row = some r → ∀ cs f, W.heap[r]? ≠ some (.cells cs 28 f)) : W'.ownsRow base 28 7 v n xs := by
  refine ⟨h.1, ?_⟩
  rcases h.2 with h2 | ⟨g, cap, cur, hv, hb, hgk, rest⟩
  · exact .inl h2
  · exact .inr ⟨g, cap, cur, hv, hb, (hg.block g (Array.getElem?_eq_some_iff.1 hgk).1 (fun e => hr g e.symm _ _ hgk)).trans hgk, rest⟩
theorem far_got {B N0 G : Nat} (hG : G < B) : FarT B (fun pre W => GotI N0 G pre W) := fun s W W' row ⟨A', c', h1, h2⟩ hg hr =>
  ⟨A', c', (hg.block G h1.lt (fun e => by have := (hr G e.symm).1; omega)).trans h1, own_grownT h2 hg (fun r e => (hr r e).2)⟩
theorem far_frG {B G : Nat} {W0 : World} {β : Type} (hB : W0.heap.size ≤ B) : Far B (fun (_ : β) W => Fr (Only G) W0 W) := fun _ W W' row hs hg hr =>
  hs.grown hg (fun k hk hlt => by have := hr k hk; omega)
def InN (n : Int) (G : Nat) (W0 : World) (pre : List Vis) (W : World) : Prop := (pre.length : Int) ≤ n ∧ Fr (Only G) W0 W ∧ GotI W0.heap.size G pre W
def IxN (n : Int) (G : Nat) (W0 : World) (cc : Code) (pre : List Vis) (W : World) : Prop := cc = .exit 0 ∧ (pre.length : Int) = n + 1 ∧ Fr (Only G) W0 W ∧ GotI W0.heap.size G pre W
theorem far_in {n : Int} {G B : Nat} {W0 : World} (hB : W0.heap.size ≤ B) (hG : G < B) : FarT B (InN n G W0) := fun s W W' row ⟨h1, h2, h3⟩ hg hr => ⟨h1, (far_frG (β := Unit) hB).toT () W W' row h2 hg hr, far_got hG s W W' row h3 hg hr⟩
theorem far_ix {n : Int} {G B : Nat} {W0 : World} {cc : Code} (hB : W0.heap.size ≤ B) (hG : G < B) : FarT B (IxN n G W0 cc) := fun s W W' row ⟨h0, h1, h2, h3⟩ hg hr => ⟨h0, h1, (far_frG (β := Unit) hB).toT () W W' row h2 hg hr, far_got hG s W W' row h3 hg hr⟩
def AxN (fr : Value → Value → Array Value) (N0 : Nat) (v : Vis) (a' : Act) (W : World) : Prop := ∃ gx, a' = { tmps := fr (.pointer (some ⟨gx, 0, none⟩)) (nodeV v), defers := [] } ∧ Blk W gx 28 (ndArr v) ∧ N0 ≤ gx
theorem far_ax {fr : Value → Value → Array Value} {N0 B : Nat} {v : Vis} {a' : Act} : FarT B (fun (_ : Unit) W => AxN fr N0 v a' W) := fun _ _ _ _ ⟨gx, h1, h2, h3⟩ hg hr =>
  ⟨gx, h1, (hg.block gx h2.lt (fun e => (hr gx e.symm).2 _ _ h2)).trans h2, h3⟩
theorem own_put7 {W : World} {base g k cap : Nat} {xs : List Value} {z0 z1 z2 z3 z4 z5 z6 : Value} (h : W.ownsRow base 28 7 (.slice (some ⟨g, 0, none⟩) (k + 1) cap) (k + 1) (xs ++ [z0, z1, z2, z3, z4, z5, z6])) (hx : xs.length = k * 7) (v0 v1 v2 v3 v4 v5 v6 : Value) :
    ((((((((W.setCell ⟨g, k * 7, none⟩ v0).setCell ⟨g, k * 7 + 1, none⟩ v1).setCell ⟨g, k * 7 + 2, none⟩ v2).setCell ⟨g, k * 7 + 3, none⟩ v3).setCell ⟨g, k * 7 + 4, none⟩ v4).setCell ⟨g, k * 7 + 5, none⟩ v5).setCell ⟨g, k * 7 + 6, none⟩ v6).ownsRow base 28 7 (.slice (some ⟨g, 0, none⟩) (k + 1) cap) (k + 1) (xs ++ [v0, v1, v2, v3, v4, v5, v6])) ∧
    (∀ j, W.frozen? ⟨g, j, none⟩ = false) ∧ W.cell? ⟨g, k * 7, none⟩ = some z0 ∧ W.cell? ⟨g, k * 7 + 1, none⟩ = some z1 ∧ W.cell? ⟨g, k * 7 + 2, none⟩ = some z2 ∧ W.cell? ⟨g, k * 7 + 3, none⟩ = some z3 ∧ W.cell? ⟨g, k * 7 + 4, none⟩ = some z4 ∧ W.cell? ⟨g, k * 7 + 5, none⟩ = some z5 ∧ W.cell? ⟨g, k * 7 + 6, none⟩ = some z6 ∧ base ≤ g := by
  obtain ⟨h1, h2⟩ := h
  rcases h2 with ⟨h2, _⟩ | ⟨g', cap', cur, hv, hb, hg, hn, hm, hs, ht⟩
  · cases h2
  · simp only [Value.slice.injEq, Option.some.injEq, Addr.mk.injEq] at hv
    obtain ⟨⟨rfl, _, _⟩, _, rfl⟩ := hv
    have hB : Blk W g 28 cur := hg
    have hcl : ∀ j, j < (k + 1) * 7 → cur.toList[j]? = (xs ++ [z0, z1, z2, z3, z4, z5, z6])[j]? := fun j hj => by
      rw [← ht, List.getElem?_take, if_pos hj]
    have hz : ∀ i u, [z0, z1, z2, z3, z4, z5, z6][i]? = some u → W.cell? ⟨g, k * 7 + i, none⟩ = some u := fun i u hu => by
      have hi : i < 7 := (List.getElem?_eq_some_iff.1 hu).1
      rw [hB.cell, ← Array.getElem?_toList, hcl _ (by omega), List.getElem?_append_right (by omega), hx, Nat.add_sub_cancel_left]
      exact hu
    refine ⟨⟨by simp [hx]; omega, .inr ⟨g, cap, _, rfl, hb, ((((((hB.set (k * 7) v0).set (k * 7 + 1) v1).set (k * 7 + 2) v2).set (k * 7 + 3) v3).set (k * 7 + 4) v4).set (k * 7 + 5) v5).set (k * 7 + 6) v6, hn, hm, by simpa using hs, ?_⟩⟩, hB.frozen, hz 0 _ rfl, hz 1 _ rfl, hz 2 _ rfl, hz 3 _ rfl, hz 4 _ rfl, hz 5 _ rfl, hz 6 _ rfl, hb⟩
    simp only [Array.toList_setIfInBounds, List.take_set, ht]
    rw [List.set_append_right _ _ (by omega), List.set_append_right _ _ (by omega), List.set_append_right _ _ (by omega), List.set_append_right _ _ (by omega), List.set_append_right _ _ (by omega), List.set_append_right _ _ (by omega), List.set_append_right _ _ (by omega)]
    simp [hx]
theorem far7 {W : World} {G g m : Nat} {t : TypeId} {cs : Array Value} (h : Blk W G t cs) (hne : ¬ G = g) (v0 v1 v2 v3 v4 v5 v6 : Value) : Blk (((((((W.setCell ⟨g, m, none⟩ v0).setCell ⟨g, m + 1, none⟩ v1).setCell ⟨g, m + 2, none⟩ v2).setCell ⟨g, m + 3, none⟩ v3).setCell ⟨g, m + 4, none⟩ v4).setCell ⟨g, m + 5, none⟩ v5).setCell ⟨g, m + 6, none⟩ v6) G t cs :=
  ((((((h.far (p := ⟨g, m, none⟩) hne v0).far (p := ⟨g, m + 1, none⟩) hne v1).far (p := ⟨g, m + 2, none⟩) hne v2).far (p := ⟨g, m + 3, none⟩) hne v3).far (p := ⟨g, m + 4, none⟩) hne v4).far (p := ⟨g, m + 5, none⟩) hne v5).far (p := ⟨g, m + 6, none⟩) hne v6
theorem set1 {W : World} {G : Nat} {t : TypeId} {s v : Value} (h : Blk W G t #[s]) : Blk (W.setCell ⟨G, 0, none⟩ v) G t #[v] := by have := h.set 0 v; simpa using this
theorem fr_set1 (W : World) (G : Nat) (v : Value) : Fr (fun j => j = G) W (W.setCell ⟨G, 0, none⟩ v) := (Fr.refl (fun j => j = G) W).setCell (p := ⟨G, 0, none⟩) (fun _ => rfl) v
theorem infoFN : (Tryd.prog.info? 28).map (fun i => (i.zero, i.size, i.bytes)) = some (some (.agg #[.int .i64 0, .string default, .int .i64 0, .int .i64 0, .int .i64 0, .int .i64 0, .slice none 0 0]), 7, 80) := by kernel_rfl
theorem z_one : ∀ u ∈ [Value.int .i64 0, .string ⟨#[]⟩, .int .i64 0, .int .i64 0, .int .i64 0, .int .i64 0, .slice none 0 0], u.oneCell' = true := by
  intro u hu; simp at hu; rcases hu with rfl | rfl | rfl | rfl | rfl | rfl | rfl <;> rfl
theorem wpIn_append_run {F : Fence} {n : Nat} {P : Program} {o : Oper} {a : Act} {K : Act → World → Prop} {Q : Exit → Act → World → Prop} {w w' : World} (s x : Operand) (t : TypeId) (ho : o.op = .call { callee := .builtin .append, args := #[s, x], argTypes := #[t, t] })
    {v xv v' : Value} (hs : a.eval s = v) (hx : a.eval x = xv) (hr : (Builtin.append_ #[t, t] o.type #[v, xv]).run P w = .ok v' w') (h : K (a.put o.dst v') w') : Oper.wpIn F n P o a w K Q := by
  unfold Oper.wpIn
  refine ⟨by simp [Oper.about, ho, resolve, Target.leads, Sem.run_pure], ?_⟩
  rw [Oper.semAt_plain F _ _ (by rw [ho]; intro c hc'; cases hc')]
  simp [execOp, ho, resolve, invoke, builtin, hs, hx, hr, Result.andThen]
  exact h
theorem cells15 {w W : World} {g b o b2 o2 : Nat} {u v0 v1 v2 v3 v4 v5 v6 r0 r1 r2 r3 r4 r5 r6 : Value} (hf : Fr Nob w W)
    (h : w.cell? ⟨g, 0, none⟩ = some u ∧ (w.cell? ⟨b, o, none⟩ = some v0 ∧ w.cell? ⟨b, o + 1, none⟩ = some v1 ∧ w.cell? ⟨b, o + 2, none⟩ = some v2 ∧ w.cell? ⟨b, o + 3, none⟩ = some v3 ∧ w.cell? ⟨b, o + 4, none⟩ = some v4 ∧ w.cell? ⟨b, o + 5, none⟩ = some v5 ∧ w.cell? ⟨b, o + 6, none⟩ = some v6) ∧ (w.cell? ⟨b2, o2, none⟩ = some r0 ∧ w.cell? ⟨b2, o2 + 1, none⟩ = some r1 ∧ w.cell? ⟨b2, o2 + 2, none⟩ = some r2 ∧ w.cell? ⟨b2, o2 + 3, none⟩ = some r3 ∧ w.cell? ⟨b2, o2 + 4, none⟩ = some r4 ∧ w.cell? ⟨b2, o2 + 5, none⟩ = some r5 ∧ w.cell? ⟨b2, o2 + 6, none⟩ = some r6)) :
    W.cell? ⟨g, 0, none⟩ = some u ∧ (W.cell? ⟨b, o, none⟩ = some v0 ∧ W.cell? ⟨b, o + 1, none⟩ = some v1 ∧ W.cell? ⟨b, o + 2, none⟩ = some v2 ∧ W.cell? ⟨b, o + 3, none⟩ = some v3 ∧ W.cell? ⟨b, o + 4, none⟩ = some v4 ∧ W.cell? ⟨b, o + 5, none⟩ = some v5 ∧ W.cell? ⟨b, o + 6, none⟩ = some v6) ∧ (W.cell? ⟨b2, o2, none⟩ = some r0 ∧ W.cell? ⟨b2, o2 + 1, none⟩ = some r1 ∧ W.cell? ⟨b2, o2 + 2, none⟩ = some r2 ∧ W.cell? ⟨b2, o2 + 3, none⟩ = some r3 ∧ W.cell? ⟨b2, o2 + 4, none⟩ = some r4 ∧ W.cell? ⟨b2, o2 + 5, none⟩ = some r5 ∧ W.cell? ⟨b2, o2 + 6, none⟩ = some r6) := by
  obtain ⟨h0, ⟨h1, h2, h3, h4, h5, h6, h7⟩, k1, k2, k3, k4, k5, k6, k7⟩ := h
  have hn : ∀ k, ¬ Nob k := fun _ e => e
  exact ⟨hf.cell h0 (hn _), ⟨hf.cell h1 (hn _), hf.cell h2 (hn _), hf.cell h3 (hn _), hf.cell h4 (hn _), hf.cell h5 (hn _), hf.cell h6 (hn _), hf.cell h7 (hn _)⟩, hf.cell k1 (hn _), hf.cell k2 (hn _), hf.cell k3 (hn _), hf.cell k4 (hn _), hf.cell k5 (hn _), hf.cell k6 (hn _), hf.cell k7 (hn _)⟩
theorem ci {n : Nat} {f : FuncId} {args : Array Value} {w : World} {R : Ending → World → Prop} (h : Calls Tryd.prog f args w R) : CallsIn Fence.wide n Tryd.prog f args w R := callsIn_wide.2 h
set_option maxRecDepth 100000 in
set_option maxHeartbeats 8000000 in
theorem law_FormulaNodes (w : World) (x : Nd) (A : Option Addr) (c : Nat) (ks : Fo) (hs : FoSl w.heap.size w A c ks) (hv : ShVar w) (ht : TbVar w) (n : Int) (hn0 : 0 ≤ n) (hn1 : n ≤ 255) :
    Calls Tryd.prog 3 #[fval x A ks.len c, .int .u8 n] w fun e w' => e = .returned (.bool true) ∧ Fr Nob w w' := by
  have HAW := Lib.hid (fun W (hf : Fr Nob w W) => law_awake W (hv.fr hf) (ht.fr hf))
  have HLF := Lib.hid (fun W (hf : Fr Nob w W) => law_left 60 w.heap.size W x A c ks (by decide) (hs.fr hf))
  have HLP := Lib.hid (fun (h0 : 0 < left1 x ks.tr 60) => few_of (x := x) (ks := ks.tr) (n := 60) h0)
  rw [show ((60 : Nat) : Int) = 60 from rfl] at HLF
  have HS := Lib.hid hs
  clear hs hv ht
  generalize left1 x ks.tr 60 = n0 at *
  unfold fval at *
  refine (callsIn_wide (n := 5)).1 ?_
  refine callsIn_of_wp_marks Tryd.func3 rfl trivial ?_ rfl
  simp only [Tryd.ntmps3, List.size_toArray, List.length_cons, List.length_nil, Nat.reduceAdd, Nat.reduceSub, Array.replicate_succ, Array.replicate_zero, List.push_toArray, List.append_toArray, List.nil_append, List.cons_append]
  gi_upto_region 1 with fail
  obtain ⟨W0, hW0⟩ : ∃ W0, (w.alloc (.cells #[.int .i64 x.op, .string x.name, .int .i64 x.cmp, .int .i64 x.val, .int .i64 x.lo, .int .i64 x.hi, .slice A ks.len c] 28)).alloc (.cells #[.int .u8 n] 5) = W0 := ⟨_, rfl⟩
  have HX0 := Lib.hid (show Blk W0 w.heap.size 28 #[.int .i64 x.op, .string x.name, .int .i64 x.cmp, .int .i64 x.val, .int .i64 x.lo, .int .i64 x.hi, .slice A ks.len c] by rw [← hW0]; exact (Blk.new _ _ _).alloc _)
  have HN0 := Lib.hid (show Blk W0 (w.heap.size + 1) 5 #[.int .u8 n] by rw [← hW0]; exact Blk.new_eq (by simp))
  have HF0 := Lib.hid (show Fr Nob w W0 by rw [← hW0]; exact ((Fr.refl _ _).alloc _).alloc _)
  rw [hW0]
  clear hW0
  gi_upto_region 5 with (refine ⟨trivial, ?_⟩; first
    | (gi_at_call 9; refine (ci (HAW.out _ HF0.out)).mono ?_; rintro e w1 ⟨rfl, hf1⟩; have HF1 := Lib.hid (HF0.out.call hf1 (fun _ h _ => h)); have HX1 := Lib.hid (HX0.out.fr hf1 (fun e => e)); have HN1 := Lib.hid (HN0.out.fr hf1 (fun e => e)); have xc := HX1.out.cell; have xl := HX1.out.lt; clear hf1)
    | (gi_at_call 10; refine (ci (HLF.out _ HF1.out)).mono ?_; rintro e w2 ⟨rfl, hf2⟩; have HF2 := Lib.hid (HF1.out.call hf2 (fun _ h _ => h)); have HX2 := Lib.hid (HX1.out.fr hf2 (fun e => e)); have HN2 := Lib.hid (HN1.out.fr hf2 (fun e => e)); clear hf2))
  clear xc xl HX1 HN1 HF1 HX0 HN0 HF0 HAW HLF
  have xc := HX2.out.cell
  have xl := HX2.out.lt
  by_cases hn : n0 = 0
  · subst hn
    gi_wp2
    exact ⟨_, results_tmp rfl _ _ _, rfl, HF2.out⟩
  have hnI : ¬ (n0 : Int) ≤ 0 := by omega
  have hnI2 : (0 : Int) < n0 := by omega
  have hL := HLP.out (by omega)
  have h1 := hL.size
  have HPL := Lib.hid (fun W (hf : Fr Nob w W) => law_plain' W x A c ks (by omega) ((HS.out.fr hf).mono hf.size))
  have HND := Lib.hid (fun N W (A' : Option Addr) (c' : Nat) (ks' : Fo) (htr : ks'.tr = ks.tr) (hsl : FoSl N W A' c' ks') => ref_Nodes ks'.tr.size N W x A' c' ks' (Nat.le_refl _) (by rw [htr]; omega) hsl)
  have HPN := Lib.hid (fun W => prg_Nodes W x A ks.len c)
  have hsz : ks.tr.size ≤ 100000 := by omega
  have hk60 : ks.tr.size ≤ 60 := by omega
  clear hL h1 hn HLP
  unfold fval at *
  gi_upto_region 8 with (refine ⟨trivial, ?_⟩; first
    | (gi_at_call 12; refine (ci (HPL.out _ HF2.out)).mono ?_; rintro e w3 ⟨B, d, js, rfl, hcp⟩; have HCP := Lib.hid hcp; clear hcp)
    | (gi_at_call 11; refine (ci (HND.out _ _ _ _ _ HCP.out.tr HCP.out.sl)).mono ?_; rintro e w4 ⟨RA, rc, rfl, hrs, hf4⟩; have HRS := Lib.hid hrs; have HF4 := Lib.hid hf4; clear hrs hf4))
  have HF5 := Lib.hid ((HF2.out.call HCP.out.fr (fun _ h _ => h)).call HF4.out (fun _ h _ => h))
  have HX4 := Lib.hid ((HX2.out.fr HCP.out.fr (fun e => e)).fr HF4.out (fun e => e))
  have HN4 := Lib.hid ((HN2.out.fr HCP.out.fr (fun e => e)).fr HF4.out (fun e => e))
  have HTR := Lib.hid HCP.out.tr
  have HJS := Lib.hid ((HCP.out.sl.fr HF4.out).mono HF4.out.size)
  clear xc xl HX2 HN2 HF2 HF4 HCP HPL HND
  have xc := HX4.out.cell
  have xl := HX4.out.lt
  gi_wp2_with (refine ⟨trivial, ?_⟩; (gi_at_call 13; refine (ci (HPN.out _)).mono ?_; rintro e w5 ⟨rfl, rfl⟩))
  obtain ⟨W5, hW5⟩ : ∃ W5, (w4.alloc (.cells #[.slice none 0 0] 26)).alloc (.cells #[.int .i64 x.op, .string x.name, .int .i64 x.cmp, .int .i64 x.val, .int .i64 x.lo, .int .i64 x.hi, .slice A ks.len c] 28) = W5 := ⟨_, rfl⟩
  have HF6 := Lib.hid (show Fr Nob w4 W5 by rw [← hW5]; exact ((Fr.refl _ _).alloc _).alloc _)
  have HG5 := Lib.hid (show Blk W5 w4.heap.size 26 #[.slice none 0 0] by rw [← hW5]; exact (Blk.new _ _ _).alloc _)
  have HR5 := Lib.hid (show Blk W5 (w4.heap.size + 1) 28 #[.int .i64 x.op, .string x.name, .int .i64 x.cmp, .int .i64 x.val, .int .i64 x.lo, .int .i64 x.hi, .slice A ks.len c] by rw [← hW5]; exact Blk.new_eq (by simp))
  have HZ5 := Lib.hid (show W5.heap.size = w4.heap.size + 2 by rw [← hW5]; simp)
  have hz4 : w.heap.size + 2 ≤ w4.heap.size := by have := HN4.out.lt; omega
  rw [hW5]
  clear hW5 xc xl
  have HT5 := Lib.hid ((HS.out.fr HF5.out).fr HF6.out)
  have HE := Lib.hid (nodes_far w.heap.size (SN w4.heap.size W5.heap.size) (fun k t h => by rcases h with h | h; omega; have := HZ5.out; omega) W5 (fun k t h => by rcases h with h | h; right; have := HZ5.out; omega; exact .inl h.2) (w4.heap.size + 1) x A c ks HT5.out HR5.out (fun h => by rcases h with h | h; omega; have := HZ5.out; omega) (by have := HZ5.out; omega) hsz)
  have hz5 := HZ5.out
  refine range_farHT rfl (by decide) (gf := 32) (lb := #[.pointer (some ⟨w4.heap.size + 1, 0, none⟩)]) rfl trivial (enters_of Tryd.func32 (by kernel_rfl) rfl) HE.out (Below.refl _ _) (fun _ => rfl)
    (InN n w4.heap.size W5) (IxN n w4.heap.size W5) (far_in (Nat.le_refl _) (by omega)) (fun _ => far_ix (Nat.le_refl _) (by omega)) ⟨hn0, Fr.refl _ _, none, 0, HG5.out, World.ownsRow_nil _ _ _ _⟩
    (AxN (frN (.agg #[.int .i64 x.op, .string x.name, .int .i64 x.cmp, .int .i64 x.val, .int .i64 x.lo, .int .i64 x.hi, .slice A ks.len c]) (.agg #[.int .i64 x.op, .string x.name, .int .i64 x.cmp, .int .i64 x.val, .int .i64 x.lo, .int .i64 x.hi, .slice B js.len d]) (.slice RA (js.tr.size + 1) rc) w.heap.size n n0 w4.heap.size (w4.heap.size + 1)) W5.heap.size)
    (fun _ _ => far_ax) ?assign ?body ?done ?stop
  case assign =>
    intro l2 pre v Wx K hi hK
    unfold nodeEnc
    rw [zipf]
    change Code.wpIn _ _ _ _ _ { tmps := frN (.agg #[.int .i64 x.op, .string x.name, .int .i64 x.cmp, .int .i64 x.val, .int .i64 x.lo, .int .i64 x.hi, .slice A ks.len c]) (.agg #[.int .i64 x.op, .string x.name, .int .i64 x.cmp, .int .i64 x.val, .int .i64 x.lo, .int .i64 x.hi, .slice B js.len d]) (.slice RA (js.tr.size + 1) rc) w.heap.size n n0 w4.heap.size (w4.heap.size + 1) undef (nodeV v), defers := [] } Wx
    unfold frN nodeV
    have hgl := hi.2.1.size
    gi_wp2
    exact hK _ _ (KeepsFrom.of_grownBy (World.grownBy_alloc Wx _ none) (fun j e => by cases e)) ⟨by simp, fun k cs t f hk _ => (Below.heap_alloc _ _ k (Array.getElem?_eq_some_iff.1 hk).1).trans hk⟩ ((far_in (Nat.le_refl _) (by omega)).alloc _ hi) ⟨Wx.heap.size, rfl, Blk.new _ _ _, hgl⟩
  case body =>
    rintro l2 pre v a' W6 ⟨hpn, hfr, A', c', hgb, hown⟩ ⟨gx, rfl, hbx, hgx⟩ hpre
    have hpl : (pre.length : Int) ≤ 255 := by omega
    have hs6 := hfr.size
    obtain ⟨i0, hi0, hz0, hz1, hz2⟩ := info_parts infoFN
    have hownA : (W6.drew.alloc (.cells #[.int .i64 0, .string ⟨#[]⟩, .int .i64 0, .int .i64 0, .int .i64 0, .int .i64 0, .slice none 0 0] 28)).ownsRow W5.heap.size 28 7 (.slice A' pre.length c') pre.length (pre.flatMap vcs) := own_fr hown ((Fr.refl Nob W6).drew.alloc _) (fun _ _ _ _ e => e)
    obtain ⟨g, cap, W7, hr, hown7, hgr7, hlies, hlt7⟩ := run_append_lies (P := Tryd.prog) (W6.drew.alloc (.cells #[.int .i64 0, .string ⟨#[]⟩, .int .i64 0, .int .i64 0, .int .i64 0, .int .i64 0, .slice none 0 0] 28)) 26 26 W5.heap.size 28 i0 _ 7 80 Tryd.underlying26 hi0 hz0 hz1 hz2 (by rfl) (by decide) (.slice A' pre.length c') pre.length (pre.flatMap vcs) hownA ⟨W6.heap.size, 0, none⟩ 1 1 [.int .i64 0, .string ⟨#[]⟩, .int .i64 0, .int .i64 0, .int .i64 0, .int .i64 0, .slice none 0 0] rfl (World.news_of_block (heap_alloc_new W6.drew _)) z_one (by decide) (by unfold maxLen; omega) (by omega) (by simp; omega) _ rfl
    have hxs : (pre.flatMap vcs).length = pre.length * 7 := flat_len vcs 7 vcs_len pre
    obtain ⟨vb, vo, ⟨op, nm, cm, va, lo, hi⟩, vA, vn, vc, vd⟩ := v
    unfold ndArr at hbx
    unfold frN nodeV
    dsimp only at *
    obtain ⟨hput, hfz, z0, z1, z2, z3, z4, z5, z6, hbg⟩ := own_put7 hown7 hxs (.int .i64 op) (.string nm) (.int .i64 cm) (.int .i64 va) (.int .i64 lo) (.int .i64 hi) (.slice vA vn vc)
    have hne : ¬ g = w4.heap.size := by omega
    have hne2 : ¬ w4.heap.size = g := by omega
    have hgl6 := hgb.lt
    have hrow : ∀ k, (Value.slice A' pre.length c').ownBlock = some k → k ≠ w4.heap.size := fun k hk => by have := (hown.lt k hk).1; omega
    have hgb7 : Blk W7 w4.heap.size 26 #[.slice A' pre.length c'] := (hgr7.block w4.heap.size (by simp; omega) (fun e => hrow _ e.symm rfl)).trans ((Below.heap_alloc _ _ w4.heap.size hgl6).trans hgb)
    have HPUT := Lib.hid hput
    have HRN := Lib.hid hr
    clear hr
    have hN6 : Blk W6 (w.heap.size + 1) 5 #[.int .u8 n] := (HN4.out.fr HF6.out (fun e => e)).fr hfr (fun e => by have : w.heap.size + 1 = w4.heap.size := e; omega)
    have HA := Lib.hid (show RoundOk n w4.heap.size (w.heap.size + 1) W5 W6 pre.length (pre.flatMap vcs ++ [.int .i64 op, .string nm, .int .i64 cm, .int .i64 va, .int .i64 lo, .int .i64 hi, .slice vA vn vc]) g cap ((((((((W7.setCell ⟨g, pre.length * 7, none⟩ (.int .i64 op)).setCell ⟨g, pre.length * 7 + 1, none⟩ (.string nm)).setCell ⟨g, pre.length * 7 + 2, none⟩ (.int .i64 cm)).setCell ⟨g, pre.length * 7 + 3, none⟩ (.int .i64 va)).setCell ⟨g, pre.length * 7 + 4, none⟩ (.int .i64 lo)).setCell ⟨g, pre.length * 7 + 5, none⟩ (.int .i64 hi)).setCell ⟨g, pre.length * 7 + 6, none⟩ (.slice vA vn vc)).setCell ⟨w4.heap.size, 0, none⟩ (.slice (some ⟨g, 0, none⟩) (pre.length + 1) cap)) from round_ok (by omega) (by omega) hfr hown hgr7 hlies hN6
      (by repeat' first
            | with_reducible exact Fr.refl _ _
            | refine Fr.setCell ?_ (fun _ => by first | exact .inl rfl | exact .inr rfl) _)
      (own_fr (S := fun j => j = w4.heap.size) hput (fr_set1 _ w4.heap.size _) (fun k hk _ _ e => by simp [Value.ownBlock] at hk; omega))
      (set1 (far7 hgb7 hne2 _ _ _ _ _ _ _)))
    have HBB := Lib.hid (show RoundOk n w4.heap.size (w.heap.size + 1) W5 W6 pre.length (pre.flatMap vcs ++ [.int .i64 op, .string nm, .int .i64 cm, .int .i64 va, .int .i64 lo, .int .i64 hi, .slice vA vn vc]) g cap ((((((((W7.setCell ⟨w4.heap.size, 0, none⟩ (.slice (some ⟨g, 0, none⟩) (pre.length + 1) cap)).setCell ⟨g, pre.length * 7, none⟩ (.int .i64 op)).setCell ⟨g, pre.length * 7 + 1, none⟩ (.string nm)).setCell ⟨g, pre.length * 7 + 2, none⟩ (.int .i64 cm)).setCell ⟨g, pre.length * 7 + 3, none⟩ (.int .i64 va)).setCell ⟨g, pre.length * 7 + 4, none⟩ (.int .i64 lo)).setCell ⟨g, pre.length * 7 + 5, none⟩ (.int .i64 hi)).setCell ⟨g, pre.length * 7 + 6, none⟩ (.slice vA vn vc)) from round_ok (by omega) (by omega) hfr hown hgr7 hlies hN6
      (by repeat' first
            | with_reducible exact Fr.refl _ _
            | refine Fr.setCell ?_ (fun _ => by first | exact .inl rfl | exact .inr rfl) _)
      (own_put7 (own_fr (S := fun j => j = w4.heap.size) hown7 (fr_set1 _ w4.heap.size (.slice (some ⟨g, 0, none⟩) (pre.length + 1) cap)) (fun k hk _ _ e => by simp [Value.ownBlock] at hk; omega)) hxs _ _ _ _ _ _ _).1
      (far7 (set1 hgb7) hne2 _ _ _ _ _ _ _))
    have HB7 := Lib.hid hgb7
    clear hN6
    have HGR := Lib.hid hgr7
    have HFR := Lib.hid hfr
    have HGB := Lib.hid hgb
    have HROW := Lib.hid hrow
    have gc6 := hgb.cell 0
    have gf6 := hgb.frozen 0
    have gc7 := hgb7.cell 0
    have gf7 := hgb7.frozen 0
    have gl7 := hgb7.lt
    have bc := hbx.cell
    have bl := hbx.lt
    have hI1 : (0 : Int) ≤ pre.length := by omega
    have hI2 : (pre.length : Int) < (pre.length : Int) + 1 := by omega
    clear hput hown7 hgr7 hlies hownA hz0 hz1 hz2 hi0 hown hgb hgb7 hfr hrow hpre hbx
    gi_wp2
    refine wpIn_region_any (by kernel_rfl) ?_
    change wpAnyIn _ _ _ _ _ _ _ _ _ (World.drew _)
    refine wpAnyIn_ready (rs := [0, 1, 3]) (by kernel_rfl) (by simp) ?_
    refine AllReadyIn.cons rfl (fun K hK => ?_) (AllReadyIn.cons rfl (fun K hK => ?_) (AllReadyIn.cons rfl (fun K hK => ?_) (AllReadyIn.nil)))
    · skip
      go_simp
      refine hK _ _ ?_
      clear hK K
      refine wpAnyIn_ready (rs := [1, 2, 3]) (by kernel_rfl) (by simp) ?_
      refine AllReadyIn.cons rfl (fun K hK => ?_) (AllReadyIn.cons rfl (fun K hK => ?_) (AllReadyIn.cons rfl (fun K hK => ?_) (AllReadyIn.nil)))
      · skip
        go_simp
        refine hK _ _ ?_
        clear hK K
        refine wpAnyIn_ready (rs := [2, 3]) (by kernel_rfl) (by simp) ?_
        refine AllReadyIn.cons rfl (fun K hK => ?_) (AllReadyIn.cons rfl (fun K hK => ?_) (AllReadyIn.nil))
        · skip
          go_simp
          refine hK _ _ ?_
          clear hK K
          refine wpAnyIn_ready (rs := [3]) (by kernel_rfl) (by simp) ?_
          refine AllReadyIn.cons rfl (fun K hK => ?_) (AllReadyIn.nil)
          · skip
            go_simp
            refine hK _ _ ?_
            clear hK K
            refine wpAnyIn_ready (rs := [4]) (by kernel_rfl) (by simp) ?_
            refine AllReadyIn.cons rfl (fun K hK => ?_) (AllReadyIn.nil)
            · skip
              rw [if_pos (by rfl)]
              refine wpIn_append_run (.tmp 24) (.tmp 27) 26 rfl rfl rfl HRN.out ?_
              refine hK _ _ ?_
              clear hK K
              refine wpAnyIn_ready (rs := [5, 7]) (by kernel_rfl) (by simp) ?_
              refine AllReadyIn.cons rfl (fun K hK => ?_) (AllReadyIn.cons rfl (fun K hK => ?_) (AllReadyIn.nil))
              · skip
                go_simp
                refine hK _ _ ?_
                clear hK K
                refine wpAnyIn_ready (rs := [6, 7]) (by kernel_rfl) (by simp) ?_
                refine AllReadyIn.cons rfl (fun K hK => ?_) (AllReadyIn.cons rfl (fun K hK => ?_) (AllReadyIn.nil))
                · skip
                  go_simp
                  refine hK _ _ ?_
                  clear hK K
                  refine wpAnyIn_ready (rs := [7]) (by kernel_rfl) (by simp) ?_
                  refine AllReadyIn.cons rfl (fun K hK => ?_) (AllReadyIn.nil)
                  · skip
                    go_simp
                    refine hK _ _ ?_
                    clear hK K
                    refine wpAnyIn_done (by kernel_rfl) ?_ _
                    first
                      | (obtain ⟨W8, hW8, h8⟩ : ∃ W8, ((((((((W7.setCell ⟨g, pre.length * 7, none⟩ (.int .i64 op)).setCell ⟨g, pre.length * 7 + 1, none⟩ (.string nm)).setCell ⟨g, pre.length * 7 + 2, none⟩ (.int .i64 cm)).setCell ⟨g, pre.length * 7 + 3, none⟩ (.int .i64 va)).setCell ⟨g, pre.length * 7 + 4, none⟩ (.int .i64 lo)).setCell ⟨g, pre.length * 7 + 5, none⟩ (.int .i64 hi)).setCell ⟨g, pre.length * 7 + 6, none⟩ (.slice vA vn vc)).setCell ⟨w4.heap.size, 0, none⟩ (.slice (some ⟨g, 0, none⟩) (pre.length + 1) cap)) = W8 ∧ RoundOk n w4.heap.size (w.heap.size + 1) W5 W6 pre.length (pre.flatMap vcs ++ [.int .i64 op, .string nm, .int .i64 cm, .int .i64 va, .int .i64 lo, .int .i64 hi, .slice vA vn vc]) g cap W8 := ⟨_, rfl, HA.out⟩; rw [hW8]; clear hW8)
                      | (obtain ⟨W8, hW8, h8⟩ : ∃ W8, ((((((((W7.setCell ⟨w4.heap.size, 0, none⟩ (.slice (some ⟨g, 0, none⟩) (pre.length + 1) cap)).setCell ⟨g, pre.length * 7, none⟩ (.int .i64 op)).setCell ⟨g, pre.length * 7 + 1, none⟩ (.string nm)).setCell ⟨g, pre.length * 7 + 2, none⟩ (.int .i64 cm)).setCell ⟨g, pre.length * 7 + 3, none⟩ (.int .i64 va)).setCell ⟨g, pre.length * 7 + 4, none⟩ (.int .i64 lo)).setCell ⟨g, pre.length * 7 + 5, none⟩ (.int .i64 hi)).setCell ⟨g, pre.length * 7 + 6, none⟩ (.slice vA vn vc)) = W8 ∧ RoundOk n w4.heap.size (w.heap.size + 1) W5 W6 pre.length (pre.flatMap vcs ++ [.int .i64 op, .string nm, .int .i64 cm, .int .i64 va, .int .i64 lo, .int .i64 hi, .slice vA vn vc]) g cap W8 := ⟨_, rfl, HBB.out⟩; rw [hW8]; clear hW8)
                    have H8 := Lib.hid h8
                    have c8 := h8.box.cell 0
                    have l8 := h8.box.lt
                    have d8 := h8.nbox.cell 0
                    have dl := h8.nbox.lt
                    have HVC := Lib.hid (show (pre ++ [(⟨vb, vo, ⟨op, nm, cm, va, lo, hi⟩, vA, vn, vc, vd⟩ : Vis)]).flatMap vcs = (pre.flatMap vcs ++ [.int .i64 op, .string nm, .int .i64 cm, .int .i64 va, .int .i64 lo, .int .i64 hi, .slice vA vn vc]) by simp [vcs, fcs])
                    have HVL := Lib.hid (show (pre ++ [(⟨vb, vo, ⟨op, nm, cm, va, lo, hi⟩, vA, vn, vc, vd⟩ : Vis)]).length = pre.length + 1 by simp)
                    clear h8 HA HBB HPUT HRN HB7 HGR HFR HGB HROW gc6 gf6 gc7 gf7 gl7 bc bl z0 z1 z2 z3 z4 z5 z6 hfz
                    by_cases hlen : n < (pre.length : Int) + 1
                    · gi_wp2
                      exact ⟨(by first | exact H8.out.kf | (rw [← HZ5.out]; exact H8.out.kf)), rfl, by rw [HVL.out]; omega, H8.out.fr, some ⟨g, 0, none⟩, cap, by rw [HVL.out]; exact H8.out.box, by rw [HVL.out, HVC.out]; exact H8.out.own⟩
                    · have hlen2 : (pre.length : Int) + 1 ≤ n := by omega
                      gi_wp2
                      exact ⟨(by first | exact H8.out.kf | (rw [← HZ5.out]; exact H8.out.kf)), (by first | exact H8.out.kp | (rw [← HZ5.out]; exact H8.out.kp)), by rw [HVL.out]; omega, H8.out.fr, some ⟨g, 0, none⟩, cap, by rw [HVL.out]; exact H8.out.box, by rw [HVL.out, HVC.out]; exact H8.out.own⟩
                · skip
                  go_simp
                  refine hK _ _ ?_
                  clear hK K
                  refine wpAnyIn_ready (rs := [6]) (by kernel_rfl) (by simp) ?_
                  refine AllReadyIn.cons rfl (fun K hK => ?_) (AllReadyIn.nil)
                  · skip
                    go_simp
                    refine hK _ _ ?_
                    clear hK K
                    refine wpAnyIn_done (by kernel_rfl) ?_ _
                    first
                      | (obtain ⟨W8, hW8, h8⟩ : ∃ W8, ((((((((W7.setCell ⟨g, pre.length * 7, none⟩ (.int .i64 op)).setCell ⟨g, pre.length * 7 + 1, none⟩ (.string nm)).setCell ⟨g, pre.length * 7 + 2, none⟩ (.int .i64 cm)).setCell ⟨g, pre.length * 7 + 3, none⟩ (.int .i64 va)).setCell ⟨g, pre.length * 7 + 4, none⟩ (.int .i64 lo)).setCell ⟨g, pre.length * 7 + 5, none⟩ (.int .i64 hi)).setCell ⟨g, pre.length * 7 + 6, none⟩ (.slice vA vn vc)).setCell ⟨w4.heap.size, 0, none⟩ (.slice (some ⟨g, 0, none⟩) (pre.length + 1) cap)) = W8 ∧ RoundOk n w4.heap.size (w.heap.size + 1) W5 W6 pre.length (pre.flatMap vcs ++ [.int .i64 op, .string nm, .int .i64 cm, .int .i64 va, .int .i64 lo, .int .i64 hi, .slice vA vn vc]) g cap W8 := ⟨_, rfl, HA.out⟩; rw [hW8]; clear hW8)
                      | (obtain ⟨W8, hW8, h8⟩ : ∃ W8, ((((((((W7.setCell ⟨w4.heap.size, 0, none⟩ (.slice (some ⟨g, 0, none⟩) (pre.length + 1) cap)).setCell ⟨g, pre.length * 7, none⟩ (.int .i64 op)).setCell ⟨g, pre.length * 7 + 1, none⟩ (.string nm)).setCell ⟨g, pre.length * 7 + 2, none⟩ (.int .i64 cm)).setCell ⟨g, pre.length * 7 + 3, none⟩ (.int .i64 va)).setCell ⟨g, pre.length * 7 + 4, none⟩ (.int .i64 lo)).setCell ⟨g, pre.length * 7 + 5, none⟩ (.int .i64 hi)).setCell ⟨g, pre.length * 7 + 6, none⟩ (.slice vA vn vc)) = W8 ∧ RoundOk n w4.heap.size (w.heap.size + 1) W5 W6 pre.length (pre.flatMap vcs ++ [.int .i64 op, .string nm, .int .i64 cm, .int .i64 va, .int .i64 lo, .int .i64 hi, .slice vA vn vc]) g cap W8 := ⟨_, rfl, HBB.out⟩; rw [hW8]; clear hW8)
                    have H8 := Lib.hid h8
                    have c8 := h8.box.cell 0
                    have l8 := h8.box.lt
                    have d8 := h8.nbox.cell 0
                    have dl := h8.nbox.lt
                    have HVC := Lib.hid (show (pre ++ [(⟨vb, vo, ⟨op, nm, cm, va, lo, hi⟩, vA, vn, vc, vd⟩ : Vis)]).flatMap vcs = (pre.flatMap vcs ++ [.int .i64 op, .string nm, .int .i64 cm, .int .i64 va, .int .i64 lo, .int .i64 hi, .slice vA vn vc]) by simp [vcs, fcs])
                    have HVL := Lib.hid (show (pre ++ [(⟨vb, vo, ⟨op, nm, cm, va, lo, hi⟩, vA, vn, vc, vd⟩ : Vis)]).length = pre.length + 1 by simp)
                    clear h8 HA HBB HPUT HRN HB7 HGR HFR HGB HROW gc6 gf6 gc7 gf7 gl7 bc bl z0 z1 z2 z3 z4 z5 z6 hfz
                    by_cases hlen : n < (pre.length : Int) + 1
                    · gi_wp2
                      exact ⟨(by first | exact H8.out.kf | (rw [← HZ5.out]; exact H8.out.kf)), rfl, by rw [HVL.out]; omega, H8.out.fr, some ⟨g, 0, none⟩, cap, by rw [HVL.out]; exact H8.out.box, by rw [HVL.out, HVC.out]; exact H8.out.own⟩
                    · have hlen2 : (pre.length : Int) + 1 ≤ n := by omega
                      gi_wp2
                      exact ⟨(by first | exact H8.out.kf | (rw [← HZ5.out]; exact H8.out.kf)), (by first | exact H8.out.kp | (rw [← HZ5.out]; exact H8.out.kp)), by rw [HVL.out]; omega, H8.out.fr, some ⟨g, 0, none⟩, cap, by rw [HVL.out]; exact H8.out.box, by rw [HVL.out, HVC.out]; exact H8.out.own⟩
              · skip
                go_simp
                refine hK _ _ ?_
                clear hK K
                refine wpAnyIn_ready (rs := [5]) (by kernel_rfl) (by simp) ?_
                refine AllReadyIn.cons rfl (fun K hK => ?_) (AllReadyIn.nil)
                · skip
                  go_simp
                  refine hK _ _ ?_
                  clear hK K
                  refine wpAnyIn_ready (rs := [6]) (by kernel_rfl) (by simp) ?_
                  refine AllReadyIn.cons rfl (fun K hK => ?_) (AllReadyIn.nil)
                  · skip
                    go_simp
                    refine hK _ _ ?_
                    clear hK K
                    refine wpAnyIn_done (by kernel_rfl) ?_ _
                    first
                      | (obtain ⟨W8, hW8, h8⟩ : ∃ W8, ((((((((W7.setCell ⟨g, pre.length * 7, none⟩ (.int .i64 op)).setCell ⟨g, pre.length * 7 + 1, none⟩ (.string nm)).setCell ⟨g, pre.length * 7 + 2, none⟩ (.int .i64 cm)).setCell ⟨g, pre.length * 7 + 3, none⟩ (.int .i64 va)).setCell ⟨g, pre.length * 7 + 4, none⟩ (.int .i64 lo)).setCell ⟨g, pre.length * 7 + 5, none⟩ (.int .i64 hi)).setCell ⟨g, pre.length * 7 + 6, none⟩ (.slice vA vn vc)).setCell ⟨w4.heap.size, 0, none⟩ (.slice (some ⟨g, 0, none⟩) (pre.length + 1) cap)) = W8 ∧ RoundOk n w4.heap.size (w.heap.size + 1) W5 W6 pre.length (pre.flatMap vcs ++ [.int .i64 op, .string nm, .int .i64 cm, .int .i64 va, .int .i64 lo, .int .i64 hi, .slice vA vn vc]) g cap W8 := ⟨_, rfl, HA.out⟩; rw [hW8]; clear hW8)
                      | (obtain ⟨W8, hW8, h8⟩ : ∃ W8, ((((((((W7.setCell ⟨w4.heap.size, 0, none⟩ (.slice (some ⟨g, 0, none⟩) (pre.length + 1) cap)).setCell ⟨g, pre.length * 7, none⟩ (.int .i64 op)).setCell ⟨g, pre.length * 7 + 1, none⟩ (.string nm)).setCell ⟨g, pre.length * 7 + 2, none⟩ (.int .i64 cm)).setCell ⟨g, pre.length * 7 + 3, none⟩ (.int .i64 va)).setCell ⟨g, pre.length * 7 + 4, none⟩ (.int .i64 lo)).setCell ⟨g, pre.length * 7 + 5, none⟩ (.int .i64 hi)).setCell ⟨g, pre.length * 7 + 6, none⟩ (.slice vA vn vc)) = W8 ∧ RoundOk n w4.heap.size (w.heap.size + 1) W5 W6 pre.length (pre.flatMap vcs ++ [.int .i64 op, .string nm, .int .i64 cm, .int .i64 va, .int .i64 lo, .int .i64 hi, .slice vA vn vc]) g cap W8 := ⟨_, rfl, HBB.out⟩; rw [hW8]; clear hW8)
                    have H8 := Lib.hid h8
                    have c8 := h8.box.cell 0
                    have l8 := h8.box.lt
                    have d8 := h8.nbox.cell 0
                    have dl := h8.nbox.lt
                    have HVC := Lib.hid (show (pre ++ [(⟨vb, vo, ⟨op, nm, cm, va, lo, hi⟩, vA, vn, vc, vd⟩ : Vis)]).flatMap vcs = (pre.flatMap vcs ++ [.int .i64 op, .string nm, .int .i64 cm, .int .i64 va, .int .i64 lo, .int .i64 hi, .slice vA vn vc]) by simp [vcs, fcs])
                    have HVL := Lib.hid (show (pre ++ [(⟨vb, vo, ⟨op, nm, cm, va, lo, hi⟩, vA, vn, vc, vd⟩ : Vis)]).length = pre.length + 1 by simp)
                    clear h8 HA HBB HPUT HRN HB7 HGR HFR HGB HROW gc6 gf6 gc7 gf7 gl7 bc bl z0 z1 z2 z3 z4 z5 z6 hfz
                    by_cases hlen : n < (pre.length : Int) + 1
                    · gi_wp2
                      exact ⟨(by first | exact H8.out.kf | (rw [← HZ5.out]; exact H8.out.kf)), rfl, by rw [HVL.out]; omega, H8.out.fr, some ⟨g, 0, none⟩, cap, by rw [HVL.out]; exact H8.out.box, by rw [HVL.out, HVC.out]; exact H8.out.own⟩
                    · have hlen2 : (pre.length : Int) + 1 ≤ n := by omega
                      gi_wp2
                      exact ⟨(by first | exact H8.out.kf | (rw [← HZ5.out]; exact H8.out.kf)), (by first | exact H8.out.kp | (rw [← HZ5.out]; exact H8.out.kp)), by rw [HVL.out]; omega, H8.out.fr, some ⟨g, 0, none⟩, cap, by rw [HVL.out]; exact H8.out.box, by rw [HVL.out, HVC.out]; exact H8.out.own⟩
        · skip
          go_simp
          refine hK _ _ ?_
          clear hK K
          refine wpAnyIn_ready (rs := [2]) (by kernel_rfl) (by simp) ?_
          refine AllReadyIn.cons rfl (fun K hK => ?_) (AllReadyIn.nil)
          · skip
            go_simp
            refine hK _ _ ?_
            clear hK K
            refine wpAnyIn_ready (rs := [4]) (by kernel_rfl) (by simp) ?_
            refine AllReadyIn.cons rfl (fun K hK => ?_) (AllReadyIn.nil)
            · skip
              rw [if_pos (by rfl)]
              refine wpIn_append_run (.tmp 24) (.tmp 27) 26 rfl rfl rfl HRN.out ?_
              refine hK _ _ ?_
              clear hK K
              refine wpAnyIn_ready (rs := [5, 7]) (by kernel_rfl) (by simp) ?_
              refine AllReadyIn.cons rfl (fun K hK => ?_) (AllReadyIn.cons rfl (fun K hK => ?_) (AllReadyIn.nil))
              · skip
                go_simp
                refine hK _ _ ?_
                clear hK K
                refine wpAnyIn_ready (rs := [6, 7]) (by kernel_rfl) (by simp) ?_
                refine AllReadyIn.cons rfl (fun K hK => ?_) (AllReadyIn.cons rfl (fun K hK => ?_) (AllReadyIn.nil))
                · skip
                  go_simp
                  refine hK _ _ ?_
                  clear hK K
                  refine wpAnyIn_ready (rs := [7]) (by kernel_rfl) (by simp) ?_
                  refine AllReadyIn.cons rfl (fun K hK => ?_) (AllReadyIn.nil)
                  · skip
                    go_simp
                    refine hK _ _ ?_
                    clear hK K
                    refine wpAnyIn_done (by kernel_rfl) ?_ _
                    first
                      | (obtain ⟨W8, hW8, h8⟩ : ∃ W8, ((((((((W7.setCell ⟨g, pre.length * 7, none⟩ (.int .i64 op)).setCell ⟨g, pre.length * 7 + 1, none⟩ (.string nm)).setCell ⟨g, pre.length * 7 + 2, none⟩ (.int .i64 cm)).setCell ⟨g, pre.length * 7 + 3, none⟩ (.int .i64 va)).setCell ⟨g, pre.length * 7 + 4, none⟩ (.int .i64 lo)).setCell ⟨g, pre.length * 7 + 5, none⟩ (.int .i64 hi)).setCell ⟨g, pre.length * 7 + 6, none⟩ (.slice vA vn vc)).setCell ⟨w4.heap.size, 0, none⟩ (.slice (some ⟨g, 0, none⟩) (pre.length + 1) cap)) = W8 ∧ RoundOk n w4.heap.size (w.heap.size + 1) W5 W6 pre.length (pre.flatMap vcs ++ [.int .i64 op, .string nm, .int .i64 cm, .int .i64 va, .int .i64 lo, .int .i64 hi, .slice vA vn vc]) g cap W8 := ⟨_, rfl, HA.out⟩; rw [hW8]; clear hW8)
                      | (obtain ⟨W8, hW8, h8⟩ : ∃ W8, ((((((((W7.setCell ⟨w4.heap.size, 0, none⟩ (.slice (some ⟨g, 0, none⟩) (pre.length + 1) cap)).setCell ⟨g, pre.length * 7, none⟩ (.int .i64 op)).setCell ⟨g, pre.length * 7 + 1, none⟩ (.string nm)).setCell ⟨g, pre.length * 7 + 2, none⟩ (.int .i64 cm)).setCell ⟨g, pre.length * 7 + 3, none⟩ (.int .i64 va)).setCell ⟨g, pre.length * 7 + 4, none⟩ (.int .i64 lo)).setCell ⟨g, pre.length * 7 + 5, none⟩ (.int .i64 hi)).setCell ⟨g, pre.length * 7 + 6, none⟩ (.slice vA vn vc)) = W8 ∧ RoundOk n w4.heap.size (w.heap.size + 1) W5 W6 pre.length (pre.flatMap vcs ++ [.int .i64 op, .string nm, .int .i64 cm, .int .i64 va, .int .i64 lo, .int .i64 hi, .slice vA vn vc]) g cap W8 := ⟨_, rfl, HBB.out⟩; rw [hW8]; clear hW8)
                    have H8 := Lib.hid h8
                    have c8 := h8.box.cell 0
                    have l8 := h8.box.lt
                    have d8 := h8.nbox.cell 0
                    have dl := h8.nbox.lt
                    have HVC := Lib.hid (show (pre ++ [(⟨vb, vo, ⟨op, nm, cm, va, lo, hi⟩, vA, vn, vc, vd⟩ : Vis)]).flatMap vcs = (pre.flatMap vcs ++ [.int .i64 op, .string nm, .int .i64 cm, .int .i64 va, .int .i64 lo, .int .i64 hi, .slice vA vn vc]) by simp [vcs, fcs])
                    have HVL := Lib.hid (show (pre ++ [(⟨vb, vo, ⟨op, nm, cm, va, lo, hi⟩, vA, vn, vc, vd⟩ : Vis)]).length = pre.length + 1 by simp)
                    clear h8 HA HBB HPUT HRN HB7 HGR HFR HGB HROW gc6 gf6 gc7 gf7 gl7 bc bl z0 z1 z2 z3 z4 z5 z6 hfz
                    by_cases hlen : n < (pre.length : Int) + 1
                    · gi_wp2
                      exact ⟨(by first | exact H8.out.kf | (rw [← HZ5.out]; exact H8.out.kf)), rfl, by rw [HVL.out]; omega, H8.out.fr, some ⟨g, 0, none⟩, cap, by rw [HVL.out]; exact H8.out.box, by rw [HVL.out, HVC.out]; exact H8.out.own⟩
                    · have hlen2 : (pre.length : Int) + 1 ≤ n := by omega
                      gi_wp2
                      exact ⟨(by first | exact H8.out.kf | (rw [← HZ5.out]; exact H8.out.kf)), (by first | exact H8.out.kp | (rw [← HZ5.out]; exact H8.out.kp)), by rw [HVL.out]; omega, H8.out.fr, some ⟨g, 0, none⟩, cap, by rw [HVL.out]; exact H8.out.box, by rw [HVL.out, HVC.out]; exact H8.out.own⟩
                · skip
                  go_simp
                  refine hK _ _ ?_
                  clear hK K
                  refine wpAnyIn_ready (rs := [6]) (by kernel_rfl) (by simp) ?_
                  refine AllReadyIn.cons rfl (fun K hK => ?_) (AllReadyIn.nil)
                  · skip
                    go_simp
                    refine hK _ _ ?_
                    clear hK K
                    refine wpAnyIn_done (by kernel_rfl) ?_ _
                    first
                      | (obtain ⟨W8, hW8, h8⟩ : ∃ W8, ((((((((W7.setCell ⟨g, pre.length * 7, none⟩ (.int .i64 op)).setCell ⟨g, pre.length * 7 + 1, none⟩ (.string nm)).setCell ⟨g, pre.length * 7 + 2, none⟩ (.int .i64 cm)).setCell ⟨g, pre.length * 7 + 3, none⟩ (.int .i64 va)).setCell ⟨g, pre.length * 7 + 4, none⟩ (.int .i64 lo)).setCell ⟨g, pre.length * 7 + 5, none⟩ (.int .i64 hi)).setCell ⟨g, pre.length * 7 + 6, none⟩ (.slice vA vn vc)).setCell ⟨w4.heap.size, 0, none⟩ (.slice (some ⟨g, 0, none⟩) (pre.length + 1) cap)) = W8 ∧ RoundOk n w4.heap.size (w.heap.size + 1) W5 W6 pre.length (pre.flatMap vcs ++ [.int .i64 op, .string nm, .int .i64 cm, .int .i64 va, .int .i64 lo, .int .i64 hi, .slice vA vn vc]) g cap W8 := ⟨_, rfl, HA.out⟩; rw [hW8]; clear hW8)
                      | (obtain ⟨W8, hW8, h8⟩ : ∃ W8, ((((((((W7.setCell ⟨w4.heap.size, 0, none⟩ (.slice (some ⟨g, 0, none⟩) (pre.length + 1) cap)).setCell ⟨g, pre.length * 7, none⟩ (.int .i64 op)).setCell ⟨g, pre.length * 7 + 1, none⟩ (.string nm)).setCell ⟨g, pre.length * 7 + 2, none⟩ (.int .i64 cm)).setCell ⟨g, pre.length * 7 + 3, none⟩ (.int .i64 va)).setCell ⟨g, pre.length * 7 + 4, none⟩ (.int .i64 lo)).setCell ⟨g, pre.length * 7 + 5, none⟩ (.int .i64 hi)).setCell ⟨g, pre.length * 7 + 6, none⟩ (.slice vA vn vc)) = W8 ∧ RoundOk n w4.heap.size (w.heap.size + 1) W5 W6 pre.length (pre.flatMap vcs ++ [.int .i64 op, .string nm, .int .i64 cm, .int .i64 va, .int .i64 lo, .int .i64 hi, .slice vA vn vc]) g cap W8 := ⟨_, rfl, HBB.out⟩; rw [hW8]; clear hW8)
                    have H8 := Lib.hid h8
                    have c8 := h8.box.cell 0
                    have l8 := h8.box.lt
                    have d8 := h8.nbox.cell 0
                    have dl := h8.nbox.lt
                    have HVC := Lib.hid (show (pre ++ [(⟨vb, vo, ⟨op, nm, cm, va, lo, hi⟩, vA, vn, vc, vd⟩ : Vis)]).flatMap vcs = (pre.flatMap vcs ++ [.int .i64 op, .string nm, .int .i64 cm, .int .i64 va, .int .i64 lo, .int .i64 hi, .slice vA vn vc]) by simp [vcs, fcs])
                    have HVL := Lib.hid (show (pre ++ [(⟨vb, vo, ⟨op, nm, cm, va, lo, hi⟩, vA, vn, vc, vd⟩ : Vis)]).length = pre.length + 1 by simp)
                    clear h8 HA HBB HPUT HRN HB7 HGR HFR HGB HROW gc6 gf6 gc7 gf7 gl7 bc bl z0 z1 z2 z3 z4 z5 z6 hfz
                    by_cases hlen : n < (pre.length : Int) + 1
                    · gi_wp2
                      exact ⟨(by first | exact H8.out.kf | (rw [← HZ5.out]; exact H8.out.kf)), rfl, by rw [HVL.out]; omega, H8.out.fr, some ⟨g, 0, none⟩, cap, by rw [HVL.out]; exact H8.out.box, by rw [HVL.out, HVC.out]; exact H8.out.own⟩
                    · have hlen2 : (pre.length : Int) + 1 ≤ n := by omega
                      gi_wp2
                      exact ⟨(by first | exact H8.out.kf | (rw [← HZ5.out]; exact H8.out.kf)), (by first | exact H8.out.kp | (rw [← HZ5.out]; exact H8.out.kp)), by rw [HVL.out]; omega, H8.out.fr, some ⟨g, 0, none⟩, cap, by rw [HVL.out]; exact H8.out.box, by rw [HVL.out, HVC.out]; exact H8.out.own⟩
              · skip
                go_simp
                refine hK _ _ ?_
                clear hK K
                refine wpAnyIn_ready (rs := [5]) (by kernel_rfl) (by simp) ?_
                refine AllReadyIn.cons rfl (fun K hK => ?_) (AllReadyIn.nil)
                · skip
                  go_simp
                  refine hK _ _ ?_
                  clear hK K
                  refine wpAnyIn_ready (rs := [6]) (by kernel_rfl) (by simp) ?_
                  refine AllReadyIn.cons rfl (fun K hK => ?_) (AllReadyIn.nil)
                  · skip
                    go_simp
                    refine hK _ _ ?_
                    clear hK K
                    refine wpAnyIn_done (by kernel_rfl) ?_ _
                    first
                      | (obtain ⟨W8, hW8, h8⟩ : ∃ W8, ((((((((W7.setCell ⟨g, pre.length * 7, none⟩ (.int .i64 op)).setCell ⟨g, pre.length * 7 + 1, none⟩ (.string nm)).setCell ⟨g, pre.length * 7 + 2, none⟩ (.int .i64 cm)).setCell ⟨g, pre.length * 7 + 3, none⟩ (.int .i64 va)).setCell ⟨g, pre.length * 7 + 4, none⟩ (.int .i64 lo)).setCell ⟨g, pre.length * 7 + 5, none⟩ (.int .i64 hi)).setCell ⟨g, pre.length * 7 + 6, none⟩ (.slice vA vn vc)).setCell ⟨w4.heap.size, 0, none⟩ (.slice (some ⟨g, 0, none⟩) (pre.length + 1) cap)) = W8 ∧ RoundOk n w4.heap.size (w.heap.size + 1) W5 W6 pre.length (pre.flatMap vcs ++ [.int .i64 op, .string nm, .int .i64 cm, .int .i64 va, .int .i64 lo, .int .i64 hi, .slice vA vn vc]) g cap W8 := ⟨_, rfl, HA.out⟩; rw [hW8]; clear hW8)
                      | (obtain ⟨W8, hW8, h8⟩ : ∃ W8, ((((((((W7.setCell ⟨w4.heap.size, 0, none⟩ (.slice (some ⟨g, 0, none⟩) (pre.length + 1) cap)).setCell ⟨g, pre.length * 7, none⟩ (.int .i64 op)).setCell ⟨g, pre.length * 7 + 1, none⟩ (.string nm)).setCell ⟨g, pre.length * 7 + 2, none⟩ (.int .i64 cm)).setCell ⟨g, pre.length * 7 + 3, none⟩ (.int .i64 va)).setCell ⟨g, pre.length * 7 + 4, none⟩ (.int .i64 lo)).setCell ⟨g, pre.length * 7 + 5, none⟩ (.int .i64 hi)).setCell ⟨g, pre.length * 7 + 6, none⟩ (.slice vA vn vc)) = W8 ∧ RoundOk n w4.heap.size (w.heap.size + 1) W5 W6 pre.length (pre.flatMap vcs ++ [.int .i64 op, .string nm, .int .i64 cm, .int .i64 va, .int .i64 lo, .int .i64 hi, .slice vA vn vc]) g cap W8 := ⟨_, rfl, HBB.out⟩; rw [hW8]; clear hW8)
                    have H8 := Lib.hid h8
                    have c8 := h8.box.cell 0
                    have l8 := h8.box.lt
                    have d8 := h8.nbox.cell 0
                    have dl := h8.nbox.lt
                    have HVC := Lib.hid (show (pre ++ [(⟨vb, vo, ⟨op, nm, cm, va, lo, hi⟩, vA, vn, vc, vd⟩ : Vis)]).flatMap vcs = (pre.flatMap vcs ++ [.int .i64 op, .string nm, .int .i64 cm, .int .i64 va, .int .i64 lo, .int .i64 hi, .slice vA vn vc]) by simp [vcs, fcs])
                    have HVL := Lib.hid (show (pre ++ [(⟨vb, vo, ⟨op, nm, cm, va, lo, hi⟩, vA, vn, vc, vd⟩ : Vis)]).length = pre.length + 1 by simp)
                    clear h8 HA HBB HPUT HRN HB7 HGR HFR HGB HROW gc6 gf6 gc7 gf7 gl7 bc bl z0 z1 z2 z3 z4 z5 z6 hfz
                    by_cases hlen : n < (pre.length : Int) + 1
                    · gi_wp2
                      exact ⟨(by first | exact H8.out.kf | (rw [← HZ5.out]; exact H8.out.kf)), rfl, by rw [HVL.out]; omega, H8.out.fr, some ⟨g, 0, none⟩, cap, by rw [HVL.out]; exact H8.out.box, by rw [HVL.out, HVC.out]; exact H8.out.own⟩
                    · have hlen2 : (pre.length : Int) + 1 ≤ n := by omega
                      gi_wp2
                      exact ⟨(by first | exact H8.out.kf | (rw [← HZ5.out]; exact H8.out.kf)), (by first | exact H8.out.kp | (rw [← HZ5.out]; exact H8.out.kp)), by rw [HVL.out]; omega, H8.out.fr, some ⟨g, 0, none⟩, cap, by rw [HVL.out]; exact H8.out.box, by rw [HVL.out, HVC.out]; exact H8.out.own⟩
      · skip
        go_simp
        refine hK _ _ ?_
        clear hK K
        refine wpAnyIn_ready (rs := [1, 3]) (by kernel_rfl) (by simp) ?_
        refine AllReadyIn.cons rfl (fun K hK => ?_) (AllReadyIn.cons rfl (fun K hK => ?_) (AllReadyIn.nil))
        · skip
          go_simp
          refine hK _ _ ?_
          clear hK K
          refine wpAnyIn_ready (rs := [3]) (by kernel_rfl) (by simp) ?_
          refine AllReadyIn.cons rfl (fun K hK => ?_) (AllReadyIn.nil)
          · skip
            go_simp
            refine hK _ _ ?_
            clear hK K
            refine wpAnyIn_ready (rs := [4]) (by kernel_rfl) (by simp) ?_
            refine AllReadyIn.cons rfl (fun K hK => ?_) (AllReadyIn.nil)
            · skip
              rw [if_pos (by rfl)]
              refine wpIn_append_run (.tmp 24) (.tmp 27) 26 rfl rfl rfl HRN.out ?_
              refine hK _ _ ?_
              clear hK K
              refine wpAnyIn_ready (rs := [5, 7]) (by kernel_rfl) (by simp) ?_
              refine AllReadyIn.cons rfl (fun K hK => ?_) (AllReadyIn.cons rfl (fun K hK => ?_) (AllReadyIn.nil))
              · skip
                go_simp
                refine hK _ _ ?_
                clear hK K
                refine wpAnyIn_ready (rs := [6, 7]) (by kernel_rfl) (by simp) ?_
                refine AllReadyIn.cons rfl (fun K hK => ?_) (AllReadyIn.cons rfl (fun K hK => ?_) (AllReadyIn.nil))
                · skip
                  go_simp
                  refine hK _ _ ?_
                  clear hK K
                  refine wpAnyIn_ready (rs := [7]) (by kernel_rfl) (by simp) ?_
                  refine AllReadyIn.cons rfl (fun K hK => ?_) (AllReadyIn.nil)
                  · skip
                    go_simp
                    refine hK _ _ ?_
                    clear hK K
                    refine wpAnyIn_done (by kernel_rfl) ?_ _
                    first
                      | (obtain ⟨W8, hW8, h8⟩ : ∃ W8, ((((((((W7.setCell ⟨g, pre.length * 7, none⟩ (.int .i64 op)).setCell ⟨g, pre.length * 7 + 1, none⟩ (.string nm)).setCell ⟨g, pre.length * 7 + 2, none⟩ (.int .i64 cm)).setCell ⟨g, pre.length * 7 + 3, none⟩ (.int .i64 va)).setCell ⟨g, pre.length * 7 + 4, none⟩ (.int .i64 lo)).setCell ⟨g, pre.length * 7 + 5, none⟩ (.int .i64 hi)).setCell ⟨g, pre.length * 7 + 6, none⟩ (.slice vA vn vc)).setCell ⟨w4.heap.size, 0, none⟩ (.slice (some ⟨g, 0, none⟩) (pre.length + 1) cap)) = W8 ∧ RoundOk n w4.heap.size (w.heap.size + 1) W5 W6 pre.length (pre.flatMap vcs ++ [.int .i64 op, .string nm, .int .i64 cm, .int .i64 va, .int .i64 lo, .int .i64 hi, .slice vA vn vc]) g cap W8 := ⟨_, rfl, HA.out⟩; rw [hW8]; clear hW8)
                      | (obtain ⟨W8, hW8, h8⟩ : ∃ W8, ((((((((W7.setCell ⟨w4.heap.size, 0, none⟩ (.slice (some ⟨g, 0, none⟩) (pre.length + 1) cap)).setCell ⟨g, pre.length * 7, none⟩ (.int .i64 op)).setCell ⟨g, pre.length * 7 + 1, none⟩ (.string nm)).setCell ⟨g, pre.length * 7 + 2, none⟩ (.int .i64 cm)).setCell ⟨g, pre.length * 7 + 3, none⟩ (.int .i64 va)).setCell ⟨g, pre.length * 7 + 4, none⟩ (.int .i64 lo)).setCell ⟨g, pre.length * 7 + 5, none⟩ (.int .i64 hi)).setCell ⟨g, pre.length * 7 + 6, none⟩ (.slice vA vn vc)) = W8 ∧ RoundOk n w4.heap.size (w.heap.size + 1) W5 W6 pre.length (pre.flatMap vcs ++ [.int .i64 op, .string nm, .int .i64 cm, .int .i64 va, .int .i64 lo, .int .i64 hi, .slice vA vn vc]) g cap W8 := ⟨_, rfl, HBB.out⟩; rw [hW8]; clear hW8)
                    have H8 := Lib.hid h8
                    have c8 := h8.box.cell 0
                    have l8 := h8.box.lt
                    have d8 := h8.nbox.cell 0
                    have dl := h8.nbox.lt
                    have HVC := Lib.hid (show (pre ++ [(⟨vb, vo, ⟨op, nm, cm, va, lo, hi⟩, vA, vn, vc, vd⟩ : Vis)]).flatMap vcs = (pre.flatMap vcs ++ [.int .i64 op, .string nm, .int .i64 cm, .int .i64 va, .int .i64 lo, .int .i64 hi, .slice vA vn vc]) by simp [vcs, fcs])
                    have HVL := Lib.hid (show (pre ++ [(⟨vb, vo, ⟨op, nm, cm, va, lo, hi⟩, vA, vn, vc, vd⟩ : Vis)]).length = pre.length + 1 by simp)
                    clear h8 HA HBB HPUT HRN HB7 HGR HFR HGB HROW gc6 gf6 gc7 gf7 gl7 bc bl z0 z1 z2 z3 z4 z5 z6 hfz
                    by_cases hlen : n < (pre.length : Int) + 1
                    · gi_wp2
                      exact ⟨(by first | exact H8.out.kf | (rw [← HZ5.out]; exact H8.out.kf)), rfl, by rw [HVL.out]; omega, H8.out.fr, some ⟨g, 0, none⟩, cap, by rw [HVL.out]; exact H8.out.box, by rw [HVL.out, HVC.out]; exact H8.out.own⟩
                    · have hlen2 : (pre.length : Int) + 1 ≤ n := by omega
                      gi_wp2
                      exact ⟨(by first | exact H8.out.kf | (rw [← HZ5.out]; exact H8.out.kf)), (by first | exact H8.out.kp | (rw [← HZ5.out]; exact H8.out.kp)), by rw [HVL.out]; omega, H8.out.fr, some ⟨g, 0, none⟩, cap, by rw [HVL.out]; exact H8.out.box, by rw [HVL.out, HVC.out]; exact H8.out.own⟩
                · skip
                  go_simp
                  refine hK _ _ ?_
                  clear hK K
                  refine wpAnyIn_ready (rs := [6]) (by kernel_rfl) (by simp) ?_
                  refine AllReadyIn.cons rfl (fun K hK => ?_) (AllReadyIn.nil)
                  · skip
                    go_simp
                    refine hK _ _ ?_
                    clear hK K
                    refine wpAnyIn_done (by kernel_rfl) ?_ _
                    first
                      | (obtain ⟨W8, hW8, h8⟩ : ∃ W8, ((((((((W7.setCell ⟨g, pre.length * 7, none⟩ (.int .i64 op)).setCell ⟨g, pre.length * 7 + 1, none⟩ (.string nm)).setCell ⟨g, pre.length * 7 + 2, none⟩ (.int .i64 cm)).setCell ⟨g, pre.length * 7 + 3, none⟩ (.int .i64 va)).setCell ⟨g, pre.length * 7 + 4, none⟩ (.int .i64 lo)).setCell ⟨g, pre.length * 7 + 5, none⟩ (.int .i64 hi)).setCell ⟨g, pre.length * 7 + 6, none⟩ (.slice vA vn vc)).setCell ⟨w4.heap.size, 0, none⟩ (.slice (some ⟨g, 0, none⟩) (pre.length + 1) cap)) = W8 ∧ RoundOk n w4.heap.size (w.heap.size + 1) W5 W6 pre.length (pre.flatMap vcs ++ [.int .i64 op, .string nm, .int .i64 cm, .int .i64 va, .int .i64 lo, .int .i64 hi, .slice vA vn vc]) g cap W8 := ⟨_, rfl, HA.out⟩; rw [hW8]; clear hW8)
                      | (obtain ⟨W8, hW8, h8⟩ : ∃ W8, ((((((((W7.setCell ⟨w4.heap.size, 0, none⟩ (.slice (some ⟨g, 0, none⟩) (pre.length + 1) cap)).setCell ⟨g, pre.length * 7, none⟩ (.int .i64 op)).setCell ⟨g, pre.length * 7 + 1, none⟩ (.string nm)).setCell ⟨g, pre.length * 7 + 2, none⟩ (.int .i64 cm)).setCell ⟨g, pre.length * 7 + 3, none⟩ (.int .i64 va)).setCell ⟨g, pre.length * 7 + 4, none⟩ (.int .i64 lo)).setCell ⟨g, pre.length * 7 + 5, none⟩ (.int .i64 hi)).setCell ⟨g, pre.length * 7 + 6, none⟩ (.slice vA vn vc)) = W8 ∧ RoundOk n w4.heap.size (w.heap.size + 1) W5 W6 pre.length (pre.flatMap vcs ++ [.int .i64 op, .string nm, .int .i64 cm, .int .i64 va, .int .i64 lo, .int .i64 hi, .slice vA vn vc]) g cap W8 := ⟨_, rfl, HBB.out⟩; rw [hW8]; clear hW8)
                    have H8 := Lib.hid h8
                    have c8 := h8.box.cell 0
                    have l8 := h8.box.lt
                    have d8 := h8.nbox.cell 0
                    have dl := h8.nbox.lt
                    have HVC := Lib.hid (show (pre ++ [(⟨vb, vo, ⟨op, nm, cm, va, lo, hi⟩, vA, vn, vc, vd⟩ : Vis)]).flatMap vcs = (pre.flatMap vcs ++ [.int .i64 op, .string nm, .int .i64 cm, .int .i64 va, .int .i64 lo, .int .i64 hi, .slice vA vn vc]) by simp [vcs, fcs])
                    have HVL := Lib.hid (show (pre ++ [(⟨vb, vo, ⟨op, nm, cm, va, lo, hi⟩, vA, vn, vc, vd⟩ : Vis)]).length = pre.length + 1 by simp)
                    clear h8 HA HBB HPUT HRN HB7 HGR HFR HGB HROW gc6 gf6 gc7 gf7 gl7 bc bl z0 z1 z2 z3 z4 z5 z6 hfz
                    by_cases hlen : n < (pre.length : Int) + 1
                    · gi_wp2
                      exact ⟨(by first | exact H8.out.kf | (rw [← HZ5.out]; exact H8.out.kf)), rfl, by rw [HVL.out]; omega, H8.out.fr, some ⟨g, 0, none⟩, cap, by rw [HVL.out]; exact H8.out.box, by rw [HVL.out, HVC.out]; exact H8.out.own⟩
                    · have hlen2 : (pre.length : Int) + 1 ≤ n := by omega
                      gi_wp2
                      exact ⟨(by first | exact H8.out.kf | (rw [← HZ5.out]; exact H8.out.kf)), (by first | exact H8.out.kp | (rw [← HZ5.out]; exact H8.out.kp)), by rw [HVL.out]; omega, H8.out.fr, some ⟨g, 0, none⟩, cap, by rw [HVL.out]; exact H8.out.box, by rw [HVL.out, HVC.out]; exact H8.out.own⟩
              · skip
                go_simp
                refine hK _ _ ?_
                clear hK K
                refine wpAnyIn_ready (rs := [5]) (by kernel_rfl) (by simp) ?_
                refine AllReadyIn.cons rfl (fun K hK => ?_) (AllReadyIn.nil)
                · skip
                  go_simp
                  refine hK _ _ ?_
                  clear hK K
                  refine wpAnyIn_ready (rs := [6]) (by kernel_rfl) (by simp) ?_
                  refine AllReadyIn.cons rfl (fun K hK => ?_) (AllReadyIn.nil)
                  · skip
                    go_simp
                    refine hK _ _ ?_
                    clear hK K
                    refine wpAnyIn_done (by kernel_rfl) ?_ _
                    first
                      | (obtain ⟨W8, hW8, h8⟩ : ∃ W8, ((((((((W7.setCell ⟨g, pre.length * 7, none⟩ (.int .i64 op)).setCell ⟨g, pre.length * 7 + 1, none⟩ (.string nm)).setCell ⟨g, pre.length * 7 + 2, none⟩ (.int .i64 cm)).setCell ⟨g, pre.length * 7 + 3, none⟩ (.int .i64 va)).setCell ⟨g, pre.length * 7 + 4, none⟩ (.int .i64 lo)).setCell ⟨g, pre.length * 7 + 5, none⟩ (.int .i64 hi)).setCell ⟨g, pre.length * 7 + 6, none⟩ (.slice vA vn vc)).setCell ⟨w4.heap.size, 0, none⟩ (.slice (some ⟨g, 0, none⟩) (pre.length + 1) cap)) = W8 ∧ RoundOk n w4.heap.size (w.heap.size + 1) W5 W6 pre.length (pre.flatMap vcs ++ [.int .i64 op, .string nm, .int .i64 cm, .int .i64 va, .int .i64 lo, .int .i64 hi, .slice vA vn vc]) g cap W8 := ⟨_, rfl, HA.out⟩; rw [hW8]; clear hW8)
                      | (obtain ⟨W8, hW8, h8⟩ : ∃ W8, ((((((((W7.setCell ⟨w4.heap.size, 0, none⟩ (.slice (some ⟨g, 0, none⟩) (pre.length + 1) cap)).setCell ⟨g, pre.length * 7, none⟩ (.int .i64 op)).setCell ⟨g, pre.length * 7 + 1, none⟩ (.string nm)).setCell ⟨g, pre.length * 7 + 2, none⟩ (.int .i64 cm)).setCell ⟨g, pre.length * 7 + 3, none⟩ (.int .i64 va)).setCell ⟨g, pre.length * 7 + 4, none⟩ (.int .i64 lo)).setCell ⟨g, pre.length * 7 + 5, none⟩ (.int .i64 hi)).setCell ⟨g, pre.length * 7 + 6, none⟩ (.slice vA vn vc)) = W8 ∧ RoundOk n w4.heap.size (w.heap.size + 1) W5 W6 pre.length (pre.flatMap vcs ++ [.int .i64 op, .string nm, .int .i64 cm, .int .i64 va, .int .i64 lo, .int .i64 hi, .slice vA vn vc]) g cap W8 := ⟨_, rfl, HBB.out⟩; rw [hW8]; clear hW8)
                    have H8 := Lib.hid h8
                    have c8 := h8.box.cell 0
                    have l8 := h8.box.lt
                    have d8 := h8.nbox.cell 0
                    have dl := h8.nbox.lt
                    have HVC := Lib.hid (show (pre ++ [(⟨vb, vo, ⟨op, nm, cm, va, lo, hi⟩, vA, vn, vc, vd⟩ : Vis)]).flatMap vcs = (pre.flatMap vcs ++ [.int .i64 op, .string nm, .int .i64 cm, .int .i64 va, .int .i64 lo, .int .i64 hi, .slice vA vn vc]) by simp [vcs, fcs])
                    have HVL := Lib.hid (show (pre ++ [(⟨vb, vo, ⟨op, nm, cm, va, lo, hi⟩, vA, vn, vc, vd⟩ : Vis)]).length = pre.length + 1 by simp)
                    clear h8 HA HBB HPUT HRN HB7 HGR HFR HGB HROW gc6 gf6 gc7 gf7 gl7 bc bl z0 z1 z2 z3 z4 z5 z6 hfz
                    by_cases hlen : n < (pre.length : Int) + 1
                    · gi_wp2
                      exact ⟨(by first | exact H8.out.kf | (rw [← HZ5.out]; exact H8.out.kf)), rfl, by rw [HVL.out]; omega, H8.out.fr, some ⟨g, 0, none⟩, cap, by rw [HVL.out]; exact H8.out.box, by rw [HVL.out, HVC.out]; exact H8.out.own⟩
                    · have hlen2 : (pre.length : Int) + 1 ≤ n := by omega
                      gi_wp2
                      exact ⟨(by first | exact H8.out.kf | (rw [← HZ5.out]; exact H8.out.kf)), (by first | exact H8.out.kp | (rw [← HZ5.out]; exact H8.out.kp)), by rw [HVL.out]; omega, H8.out.fr, some ⟨g, 0, none⟩, cap, by rw [HVL.out]; exact H8.out.box, by rw [HVL.out, HVC.out]; exact H8.out.own⟩
        · skip
          go_simp
          refine hK _ _ ?_
          clear hK K
          refine wpAnyIn_ready (rs := [1]) (by kernel_rfl) (by simp) ?_
          refine AllReadyIn.cons rfl (fun K hK => ?_) (AllReadyIn.nil)
          · skip
            go_simp
            refine hK _ _ ?_
            clear hK K
            refine wpAnyIn_ready (rs := [4]) (by kernel_rfl) (by simp) ?_
            refine AllReadyIn.cons rfl (fun K hK => ?_) (AllReadyIn.nil)
            · skip
              rw [if_pos (by rfl)]
              refine wpIn_append_run (.tmp 24) (.tmp 27) 26 rfl rfl rfl HRN.out ?_
              refine hK _ _ ?_
              clear hK K
              refine wpAnyIn_ready (rs := [5, 7]) (by kernel_rfl) (by simp) ?_
              refine AllReadyIn.cons rfl (fun K hK => ?_) (AllReadyIn.cons rfl (fun K hK => ?_) (AllReadyIn.nil))
              · skip
                go_simp
                refine hK _ _ ?_
                clear hK K
                refine wpAnyIn_ready (rs := [6, 7]) (by kernel_rfl) (by simp) ?_
                refine AllReadyIn.cons rfl (fun K hK => ?_) (AllReadyIn.cons rfl (fun K hK => ?_) (AllReadyIn.nil))
                · skip
                  go_simp
                  refine hK _ _ ?_
                  clear hK K
                  refine wpAnyIn_ready (rs := [7]) (by kernel_rfl) (by simp) ?_
                  refine AllReadyIn.cons rfl (fun K hK => ?_) (AllReadyIn.nil)
                  · skip
                    go_simp
                    refine hK _ _ ?_
                    clear hK K
                    refine wpAnyIn_done (by kernel_rfl) ?_ _
                    first
                      | (obtain ⟨W8, hW8, h8⟩ : ∃ W8, ((((((((W7.setCell ⟨g, pre.length * 7, none⟩ (.int .i64 op)).setCell ⟨g, pre.length * 7 + 1, none⟩ (.string nm)).setCell ⟨g, pre.length * 7 + 2, none⟩ (.int .i64 cm)).setCell ⟨g, pre.length * 7 + 3, none⟩ (.int .i64 va)).setCell ⟨g, pre.length * 7 + 4, none⟩ (.int .i64 lo)).setCell ⟨g, pre.length * 7 + 5, none⟩ (.int .i64 hi)).setCell ⟨g, pre.length * 7 + 6, none⟩ (.slice vA vn vc)).setCell ⟨w4.heap.size, 0, none⟩ (.slice (some ⟨g, 0, none⟩) (pre.length + 1) cap)) = W8 ∧ RoundOk n w4.heap.size (w.heap.size + 1) W5 W6 pre.length (pre.flatMap vcs ++ [.int .i64 op, .string nm, .int .i64 cm, .int .i64 va, .int .i64 lo, .int .i64 hi, .slice vA vn vc]) g cap W8 := ⟨_, rfl, HA.out⟩; rw [hW8]; clear hW8)
                      | (obtain ⟨W8, hW8, h8⟩ : ∃ W8, ((((((((W7.setCell ⟨w4.heap.size, 0, none⟩ (.slice (some ⟨g, 0, none⟩) (pre.length + 1) cap)).setCell ⟨g, pre.length * 7, none⟩ (.int .i64 op)).setCell ⟨g, pre.length * 7 + 1, none⟩ (.string nm)).setCell ⟨g, pre.length * 7 + 2, none⟩ (.int .i64 cm)).setCell ⟨g, pre.length * 7 + 3, none⟩ (.int .i64 va)).setCell ⟨g, pre.length * 7 + 4, none⟩ (.int .i64 lo)).setCell ⟨g, pre.length * 7 + 5, none⟩ (.int .i64 hi)).setCell ⟨g, pre.length * 7 + 6, none⟩ (.slice vA vn vc)) = W8 ∧ RoundOk n w4.heap.size (w.heap.size + 1) W5 W6 pre.length (pre.flatMap vcs ++ [.int .i64 op, .string nm, .int .i64 cm, .int .i64 va, .int .i64 lo, .int .i64 hi, .slice vA vn vc]) g cap W8 := ⟨_, rfl, HBB.out⟩; rw [hW8]; clear hW8)
                    have H8 := Lib.hid h8
                    have c8 := h8.box.cell 0
                    have l8 := h8.box.lt
                    have d8 := h8.nbox.cell 0
                    have dl := h8.nbox.lt
                    have HVC := Lib.hid (show (pre ++ [(⟨vb, vo, ⟨op, nm, cm, va, lo, hi⟩, vA, vn, vc, vd⟩ : Vis)]).flatMap vcs = (pre.flatMap vcs ++ [.int .i64 op, .string nm, .int .i64 cm, .int .i64 va, .int .i64 lo, .int .i64 hi, .slice vA vn vc]) by simp [vcs, fcs])
                    have HVL := Lib.hid (show (pre ++ [(⟨vb, vo, ⟨op, nm, cm, va, lo, hi⟩, vA, vn, vc, vd⟩ : Vis)]).length = pre.length + 1 by simp)
                    clear h8 HA HBB HPUT HRN HB7 HGR HFR HGB HROW gc6 gf6 gc7 gf7 gl7 bc bl z0 z1 z2 z3 z4 z5 z6 hfz
                    by_cases hlen : n < (pre.length : Int) + 1
                    · gi_wp2
                      exact ⟨(by first | exact H8.out.kf | (rw [← HZ5.out]; exact H8.out.kf)), rfl, by rw [HVL.out]; omega, H8.out.fr, some ⟨g, 0, none⟩, cap, by rw [HVL.out]; exact H8.out.box, by rw [HVL.out, HVC.out]; exact H8.out.own⟩
                    · have hlen2 : (pre.length : Int) + 1 ≤ n := by omega
                      gi_wp2
                      exact ⟨(by first | exact H8.out.kf | (rw [← HZ5.out]; exact H8.out.kf)), (by first | exact H8.out.kp | (rw [← HZ5.out]; exact H8.out.kp)), by rw [HVL.out]; omega, H8.out.fr, some ⟨g, 0, none⟩, cap, by rw [HVL.out]; exact H8.out.box, by rw [HVL.out, HVC.out]; exact H8.out.own⟩
                · skip
                  go_simp
                  refine hK _ _ ?_
                  clear hK K
                  refine wpAnyIn_ready (rs := [6]) (by kernel_rfl) (by simp) ?_
                  refine AllReadyIn.cons rfl (fun K hK => ?_) (AllReadyIn.nil)
                  · skip
                    go_simp
                    refine hK _ _ ?_
                    clear hK K
                    refine wpAnyIn_done (by kernel_rfl) ?_ _
                    first
                      | (obtain ⟨W8, hW8, h8⟩ : ∃ W8, ((((((((W7.setCell ⟨g, pre.length * 7, none⟩ (.int .i64 op)).setCell ⟨g, pre.length * 7 + 1, none⟩ (.string nm)).setCell ⟨g, pre.length * 7 + 2, none⟩ (.int .i64 cm)).setCell ⟨g, pre.length * 7 + 3, none⟩ (.int .i64 va)).setCell ⟨g, pre.length * 7 + 4, none⟩ (.int .i64 lo)).setCell ⟨g, pre.length * 7 + 5, none⟩ (.int .i64 hi)).setCell ⟨g, pre.length * 7 + 6, none⟩ (.slice vA vn vc)).setCell ⟨w4.heap.size, 0, none⟩ (.slice (some ⟨g, 0, none⟩) (pre.length + 1) cap)) = W8 ∧ RoundOk n w4.heap.size (w.heap.size + 1) W5 W6 pre.length (pre.flatMap vcs ++ [.int .i64 op, .string nm, .int .i64 cm, .int .i64 va, .int .i64 lo, .int .i64 hi, .slice vA vn vc]) g cap W8 := ⟨_, rfl, HA.out⟩; rw [hW8]; clear hW8)
                      | (obtain ⟨W8, hW8, h8⟩ : ∃ W8, ((((((((W7.setCell ⟨w4.heap.size, 0, none⟩ (.slice (some ⟨g, 0, none⟩) (pre.length + 1) cap)).setCell ⟨g, pre.length * 7, none⟩ (.int .i64 op)).setCell ⟨g, pre.length * 7 + 1, none⟩ (.string nm)).setCell ⟨g, pre.length * 7 + 2, none⟩ (.int .i64 cm)).setCell ⟨g, pre.length * 7 + 3, none⟩ (.int .i64 va)).setCell ⟨g, pre.length * 7 + 4, none⟩ (.int .i64 lo)).setCell ⟨g, pre.length * 7 + 5, none⟩ (.int .i64 hi)).setCell ⟨g, pre.length * 7 + 6, none⟩ (.slice vA vn vc)) = W8 ∧ RoundOk n w4.heap.size (w.heap.size + 1) W5 W6 pre.length (pre.flatMap vcs ++ [.int .i64 op, .string nm, .int .i64 cm, .int .i64 va, .int .i64 lo, .int .i64 hi, .slice vA vn vc]) g cap W8 := ⟨_, rfl, HBB.out⟩; rw [hW8]; clear hW8)
                    have H8 := Lib.hid h8
                    have c8 := h8.box.cell 0
                    have l8 := h8.box.lt
                    have d8 := h8.nbox.cell 0
                    have dl := h8.nbox.lt
                    have HVC := Lib.hid (show (pre ++ [(⟨vb, vo, ⟨op, nm, cm, va, lo, hi⟩, vA, vn, vc, vd⟩ : Vis)]).flatMap vcs = (pre.flatMap vcs ++ [.int .i64 op, .string nm, .int .i64 cm, .int .i64 va, .int .i64 lo, .int .i64 hi, .slice vA vn vc]) by simp [vcs, fcs])
                    have HVL := Lib.hid (show (pre ++ [(⟨vb, vo, ⟨op, nm, cm, va, lo, hi⟩, vA, vn, vc, vd⟩ : Vis)]).length = pre.length + 1 by simp)
                    clear h8 HA HBB HPUT HRN HB7 HGR HFR HGB HROW gc6 gf6 gc7 gf7 gl7 bc bl z0 z1 z2 z3 z4 z5 z6 hfz
                    by_cases hlen : n < (pre.length : Int) + 1
                    · gi_wp2
                      exact ⟨(by first | exact H8.out.kf | (rw [← HZ5.out]; exact H8.out.kf)), rfl, by rw [HVL.out]; omega, H8.out.fr, some ⟨g, 0, none⟩, cap, by rw [HVL.out]; exact H8.out.box, by rw [HVL.out, HVC.out]; exact H8.out.own⟩
                    · have hlen2 : (pre.length : Int) + 1 ≤ n := by omega
                      gi_wp2
                      exact ⟨(by first | exact H8.out.kf | (rw [← HZ5.out]; exact H8.out.kf)), (by first | exact H8.out.kp | (rw [← HZ5.out]; exact H8.out.kp)), by rw [HVL.out]; omega, H8.out.fr, some ⟨g, 0, none⟩, cap, by rw [HVL.out]; exact H8.out.box, by rw [HVL.out, HVC.out]; exact H8.out.own⟩
              · skip
                go_simp
                refine hK _ _ ?_
                clear hK K
                refine wpAnyIn_ready (rs := [5]) (by kernel_rfl) (by simp) ?_
                refine AllReadyIn.cons rfl (fun K hK => ?_) (AllReadyIn.nil)
                · skip
                  go_simp
                  refine hK _ _ ?_
                  clear hK K
                  refine wpAnyIn_ready (rs := [6]) (by kernel_rfl) (by simp) ?_
                  refine AllReadyIn.cons rfl (fun K hK => ?_) (AllReadyIn.nil)
                  · skip
                    go_simp
                    refine hK _ _ ?_
                    clear hK K
                    refine wpAnyIn_done (by kernel_rfl) ?_ _
                    first
                      | (obtain ⟨W8, hW8, h8⟩ : ∃ W8, ((((((((W7.setCell ⟨g, pre.length * 7, none⟩ (.int .i64 op)).setCell ⟨g, pre.length * 7 + 1, none⟩ (.string nm)).setCell ⟨g, pre.length * 7 + 2, none⟩ (.int .i64 cm)).setCell ⟨g, pre.length * 7 + 3, none⟩ (.int .i64 va)).setCell ⟨g, pre.length * 7 + 4, none⟩ (.int .i64 lo)).setCell ⟨g, pre.length * 7 + 5, none⟩ (.int .i64 hi)).setCell ⟨g, pre.length * 7 + 6, none⟩ (.slice vA vn vc)).setCell ⟨w4.heap.size, 0, none⟩ (.slice (some ⟨g, 0, none⟩) (pre.length + 1) cap)) = W8 ∧ RoundOk n w4.heap.size (w.heap.size + 1) W5 W6 pre.length (pre.flatMap vcs ++ [.int .i64 op, .string nm, .int .i64 cm, .int .i64 va, .int .i64 lo, .int .i64 hi, .slice vA vn vc]) g cap W8 := ⟨_, rfl, HA.out⟩; rw [hW8]; clear hW8)
                      | (obtain ⟨W8, hW8, h8⟩ : ∃ W8, ((((((((W7.setCell ⟨w4.heap.size, 0, none⟩ (.slice (some ⟨g, 0, none⟩) (pre.length + 1) cap)).setCell ⟨g, pre.length * 7, none⟩ (.int .i64 op)).setCell ⟨g, pre.length * 7 + 1, none⟩ (.string nm)).setCell ⟨g, pre.length * 7 + 2, none⟩ (.int .i64 cm)).setCell ⟨g, pre.length * 7 + 3, none⟩ (.int .i64 va)).setCell ⟨g, pre.length * 7 + 4, none⟩ (.int .i64 lo)).setCell ⟨g, pre.length * 7 + 5, none⟩ (.int .i64 hi)).setCell ⟨g, pre.length * 7 + 6, none⟩ (.slice vA vn vc)) = W8 ∧ RoundOk n w4.heap.size (w.heap.size + 1) W5 W6 pre.length (pre.flatMap vcs ++ [.int .i64 op, .string nm, .int .i64 cm, .int .i64 va, .int .i64 lo, .int .i64 hi, .slice vA vn vc]) g cap W8 := ⟨_, rfl, HBB.out⟩; rw [hW8]; clear hW8)
                    have H8 := Lib.hid h8
                    have c8 := h8.box.cell 0
                    have l8 := h8.box.lt
                    have d8 := h8.nbox.cell 0
                    have dl := h8.nbox.lt
                    have HVC := Lib.hid (show (pre ++ [(⟨vb, vo, ⟨op, nm, cm, va, lo, hi⟩, vA, vn, vc, vd⟩ : Vis)]).flatMap vcs = (pre.flatMap vcs ++ [.int .i64 op, .string nm, .int .i64 cm, .int .i64 va, .int .i64 lo, .int .i64 hi, .slice vA vn vc]) by simp [vcs, fcs])
                    have HVL := Lib.hid (show (pre ++ [(⟨vb, vo, ⟨op, nm, cm, va, lo, hi⟩, vA, vn, vc, vd⟩ : Vis)]).length = pre.length + 1 by simp)
                    clear h8 HA HBB HPUT HRN HB7 HGR HFR HGB HROW gc6 gf6 gc7 gf7 gl7 bc bl z0 z1 z2 z3 z4 z5 z6 hfz
                    by_cases hlen : n < (pre.length : Int) + 1
                    · gi_wp2
                      exact ⟨(by first | exact H8.out.kf | (rw [← HZ5.out]; exact H8.out.kf)), rfl, by rw [HVL.out]; omega, H8.out.fr, some ⟨g, 0, none⟩, cap, by rw [HVL.out]; exact H8.out.box, by rw [HVL.out, HVC.out]; exact H8.out.own⟩
                    · have hlen2 : (pre.length : Int) + 1 ≤ n := by omega
                      gi_wp2
                      exact ⟨(by first | exact H8.out.kf | (rw [← HZ5.out]; exact H8.out.kf)), (by first | exact H8.out.kp | (rw [← HZ5.out]; exact H8.out.kp)), by rw [HVL.out]; omega, H8.out.fr, some ⟨g, 0, none⟩, cap, by rw [HVL.out]; exact H8.out.box, by rw [HVL.out, HVC.out]; exact H8.out.own⟩
      · skip
        go_simp
        refine hK _ _ ?_
        clear hK K
        refine wpAnyIn_ready (rs := [1, 2]) (by kernel_rfl) (by simp) ?_
        refine AllReadyIn.cons rfl (fun K hK => ?_) (AllReadyIn.cons rfl (fun K hK => ?_) (AllReadyIn.nil))
        · skip
          go_simp
          refine hK _ _ ?_
          clear hK K
          refine wpAnyIn_ready (rs := [2]) (by kernel_rfl) (by simp) ?_
          refine AllReadyIn.cons rfl (fun K hK => ?_) (AllReadyIn.nil)
          · skip
            go_simp
            refine hK _ _ ?_
            clear hK K
            refine wpAnyIn_ready (rs := [4]) (by kernel_rfl) (by simp) ?_
            refine AllReadyIn.cons rfl (fun K hK => ?_) (AllReadyIn.nil)
            · skip
              rw [if_pos (by rfl)]
              refine wpIn_append_run (.tmp 24) (.tmp 27) 26 rfl rfl rfl HRN.out ?_
              refine hK _ _ ?_
              clear hK K
              refine wpAnyIn_ready (rs := [5, 7]) (by kernel_rfl) (by simp) ?_
              refine AllReadyIn.cons rfl (fun K hK => ?_) (AllReadyIn.cons rfl (fun K hK => ?_) (AllReadyIn.nil))
              · skip
                go_simp
                refine hK _ _ ?_
                clear hK K
                refine wpAnyIn_ready (rs := [6, 7]) (by kernel_rfl) (by simp) ?_
                refine AllReadyIn.cons rfl (fun K hK => ?_) (AllReadyIn.cons rfl (fun K hK => ?_) (AllReadyIn.nil))
                · skip
                  go_simp
                  refine hK _ _ ?_
                  clear hK K
                  refine wpAnyIn_ready (rs := [7]) (by kernel_rfl) (by simp) ?_
                  refine AllReadyIn.cons rfl (fun K hK => ?_) (AllReadyIn.nil)
                  · skip
                    go_simp
                    refine hK _ _ ?_
                    clear hK K
                    refine wpAnyIn_done (by kernel_rfl) ?_ _
                    first
                      | (obtain ⟨W8, hW8, h8⟩ : ∃ W8, ((((((((W7.setCell ⟨g, pre.length * 7, none⟩ (.int .i64 op)).setCell ⟨g, pre.length * 7 + 1, none⟩ (.string nm)).setCell ⟨g, pre.length * 7 + 2, none⟩ (.int .i64 cm)).setCell ⟨g, pre.length * 7 + 3, none⟩ (.int .i64 va)).setCell ⟨g, pre.length * 7 + 4, none⟩ (.int .i64 lo)).setCell ⟨g, pre.length * 7 + 5, none⟩ (.int .i64 hi)).setCell ⟨g, pre.length * 7 + 6, none⟩ (.slice vA vn vc)).setCell ⟨w4.heap.size, 0, none⟩ (.slice (some ⟨g, 0, none⟩) (pre.length + 1) cap)) = W8 ∧ RoundOk n w4.heap.size (w.heap.size + 1) W5 W6 pre.length (pre.flatMap vcs ++ [.int .i64 op, .string nm, .int .i64 cm, .int .i64 va, .int .i64 lo, .int .i64 hi, .slice vA vn vc]) g cap W8 := ⟨_, rfl, HA.out⟩; rw [hW8]; clear hW8)
                      | (obtain ⟨W8, hW8, h8⟩ : ∃ W8, ((((((((W7.setCell ⟨w4.heap.size, 0, none⟩ (.slice (some ⟨g, 0, none⟩) (pre.length + 1) cap)).setCell ⟨g, pre.length * 7, none⟩ (.int .i64 op)).setCell ⟨g, pre.length * 7 + 1, none⟩ (.string nm)).setCell ⟨g, pre.length * 7 + 2, none⟩ (.int .i64 cm)).setCell ⟨g, pre.length * 7 + 3, none⟩ (.int .i64 va)).setCell ⟨g, pre.length * 7 + 4, none⟩ (.int .i64 lo)).setCell ⟨g, pre.length * 7 + 5, none⟩ (.int .i64 hi)).setCell ⟨g, pre.length * 7 + 6, none⟩ (.slice vA vn vc)) = W8 ∧ RoundOk n w4.heap.size (w.heap.size + 1) W5 W6 pre.length (pre.flatMap vcs ++ [.int .i64 op, .string nm, .int .i64 cm, .int .i64 va, .int .i64 lo, .int .i64 hi, .slice vA vn vc]) g cap W8 := ⟨_, rfl, HBB.out⟩; rw [hW8]; clear hW8)
                    have H8 := Lib.hid h8
                    have c8 := h8.box.cell 0
                    have l8 := h8.box.lt
                    have d8 := h8.nbox.cell 0
                    have dl := h8.nbox.lt
                    have HVC := Lib.hid (show (pre ++ [(⟨vb, vo, ⟨op, nm, cm, va, lo, hi⟩, vA, vn, vc, vd⟩ : Vis)]).flatMap vcs = (pre.flatMap vcs ++ [.int .i64 op, .string nm, .int .i64 cm, .int .i64 va, .int .i64 lo, .int .i64 hi, .slice vA vn vc]) by simp [vcs, fcs])
                    have HVL := Lib.hid (show (pre ++ [(⟨vb, vo, ⟨op, nm, cm, va, lo, hi⟩, vA, vn, vc, vd⟩ : Vis)]).length = pre.length + 1 by simp)
                    clear h8 HA HBB HPUT HRN HB7 HGR HFR HGB HROW gc6 gf6 gc7 gf7 gl7 bc bl z0 z1 z2 z3 z4 z5 z6 hfz
                    by_cases hlen : n < (pre.length : Int) + 1
                    · gi_wp2
                      exact ⟨(by first | exact H8.out.kf | (rw [← HZ5.out]; exact H8.out.kf)), rfl, by rw [HVL.out]; omega, H8.out.fr, some ⟨g, 0, none⟩, cap, by rw [HVL.out]; exact H8.out.box, by rw [HVL.out, HVC.out]; exact H8.out.own⟩
                    · have hlen2 : (pre.length : Int) + 1 ≤ n := by omega
                      gi_wp2
                      exact ⟨(by first | exact H8.out.kf | (rw [← HZ5.out]; exact H8.out.kf)), (by first | exact H8.out.kp | (rw [← HZ5.out]; exact H8.out.kp)), by rw [HVL.out]; omega, H8.out.fr, some ⟨g, 0, none⟩, cap, by rw [HVL.out]; exact H8.out.box, by rw [HVL.out, HVC.out]; exact H8.out.own⟩
                · skip
                  go_simp
                  refine hK _ _ ?_
                  clear hK K
                  refine wpAnyIn_ready (rs := [6]) (by kernel_rfl) (by simp) ?_
                  refine AllReadyIn.cons rfl (fun K hK => ?_) (AllReadyIn.nil)
                  · skip
                    go_simp
                    refine hK _ _ ?_
                    clear hK K
                    refine wpAnyIn_done (by kernel_rfl) ?_ _
                    first
                      | (obtain ⟨W8, hW8, h8⟩ : ∃ W8, ((((((((W7.setCell ⟨g, pre.length * 7, none⟩ (.int .i64 op)).setCell ⟨g, pre.length * 7 + 1, none⟩ (.string nm)).setCell ⟨g, pre.length * 7 + 2, none⟩ (.int .i64 cm)).setCell ⟨g, pre.length * 7 + 3, none⟩ (.int .i64 va)).setCell ⟨g, pre.length * 7 + 4, none⟩ (.int .i64 lo)).setCell ⟨g, pre.length * 7 + 5, none⟩ (.int .i64 hi)).setCell ⟨g, pre.length * 7 + 6, none⟩ (.slice vA vn vc)).setCell ⟨w4.heap.size, 0, none⟩ (.slice (some ⟨g, 0, none⟩) (pre.length + 1) cap)) = W8 ∧ RoundOk n w4.heap.size (w.heap.size + 1) W5 W6 pre.length (pre.flatMap vcs ++ [.int .i64 op, .string nm, .int .i64 cm, .int .i64 va, .int .i64 lo, .int .i64 hi, .slice vA vn vc]) g cap W8 := ⟨_, rfl, HA.out⟩; rw [hW8]; clear hW8)
                      | (obtain ⟨W8, hW8, h8⟩ : ∃ W8, ((((((((W7.setCell ⟨w4.heap.size, 0, none⟩ (.slice (some ⟨g, 0, none⟩) (pre.length + 1) cap)).setCell ⟨g, pre.length * 7, none⟩ (.int .i64 op)).setCell ⟨g, pre.length * 7 + 1, none⟩ (.string nm)).setCell ⟨g, pre.length * 7 + 2, none⟩ (.int .i64 cm)).setCell ⟨g, pre.length * 7 + 3, none⟩ (.int .i64 va)).setCell ⟨g, pre.length * 7 + 4, none⟩ (.int .i64 lo)).setCell ⟨g, pre.length * 7 + 5, none⟩ (.int .i64 hi)).setCell ⟨g, pre.length * 7 + 6, none⟩ (.slice vA vn vc)) = W8 ∧ RoundOk n w4.heap.size (w.heap.size + 1) W5 W6 pre.length (pre.flatMap vcs ++ [.int .i64 op, .string nm, .int .i64 cm, .int .i64 va, .int .i64 lo, .int .i64 hi, .slice vA vn vc]) g cap W8 := ⟨_, rfl, HBB.out⟩; rw [hW8]; clear hW8)
                    have H8 := Lib.hid h8
                    have c8 := h8.box.cell 0
                    have l8 := h8.box.lt
                    have d8 := h8.nbox.cell 0
                    have dl := h8.nbox.lt
                    have HVC := Lib.hid (show (pre ++ [(⟨vb, vo, ⟨op, nm, cm, va, lo, hi⟩, vA, vn, vc, vd⟩ : Vis)]).flatMap vcs = (pre.flatMap vcs ++ [.int .i64 op, .string nm, .int .i64 cm, .int .i64 va, .int .i64 lo, .int .i64 hi, .slice vA vn vc]) by simp [vcs, fcs])
                    have HVL := Lib.hid (show (pre ++ [(⟨vb, vo, ⟨op, nm, cm, va, lo, hi⟩, vA, vn, vc, vd⟩ : Vis)]).length = pre.length + 1 by simp)
                    clear h8 HA HBB HPUT HRN HB7 HGR HFR HGB HROW gc6 gf6 gc7 gf7 gl7 bc bl z0 z1 z2 z3 z4 z5 z6 hfz
                    by_cases hlen : n < (pre.length : Int) + 1
                    · gi_wp2
                      exact ⟨(by first | exact H8.out.kf | (rw [← HZ5.out]; exact H8.out.kf)), rfl, by rw [HVL.out]; omega, H8.out.fr, some ⟨g, 0, none⟩, cap, by rw [HVL.out]; exact H8.out.box, by rw [HVL.out, HVC.out]; exact H8.out.own⟩
                    · have hlen2 : (pre.length : Int) + 1 ≤ n := by omega
                      gi_wp2
                      exact ⟨(by first | exact H8.out.kf | (rw [← HZ5.out]; exact H8.out.kf)), (by first | exact H8.out.kp | (rw [← HZ5.out]; exact H8.out.kp)), by rw [HVL.out]; omega, H8.out.fr, some ⟨g, 0, none⟩, cap, by rw [HVL.out]; exact H8.out.box, by rw [HVL.out, HVC.out]; exact H8.out.own⟩
              · skip
                go_simp
                refine hK _ _ ?_
                clear hK K
                refine wpAnyIn_ready (rs := [5]) (by kernel_rfl) (by simp) ?_
                refine AllReadyIn.cons rfl (fun K hK => ?_) (AllReadyIn.nil)
                · skip
                  go_simp
                  refine hK _ _ ?_
                  clear hK K
                  refine wpAnyIn_ready (rs := [6]) (by kernel_rfl) (by simp) ?_
                  refine AllReadyIn.cons rfl (fun K hK => ?_) (AllReadyIn.nil)
                  · skip
                    go_simp
                    refine hK _ _ ?_
                    clear hK K
                    refine wpAnyIn_done (by kernel_rfl) ?_ _
                    first
                      | (obtain ⟨W8, hW8, h8⟩ : ∃ W8, ((((((((W7.setCell ⟨g, pre.length * 7, none⟩ (.int .i64 op)).setCell ⟨g, pre.length * 7 + 1, none⟩ (.string nm)).setCell ⟨g, pre.length * 7 + 2, none⟩ (.int .i64 cm)).setCell ⟨g, pre.length * 7 + 3, none⟩ (.int .i64 va)).setCell ⟨g, pre.length * 7 + 4, none⟩ (.int .i64 lo)).setCell ⟨g, pre.length * 7 + 5, none⟩ (.int .i64 hi)).setCell ⟨g, pre.length * 7 + 6, none⟩ (.slice vA vn vc)).setCell ⟨w4.heap.size, 0, none⟩ (.slice (some ⟨g, 0, none⟩) (pre.length + 1) cap)) = W8 ∧ RoundOk n w4.heap.size (w.heap.size + 1) W5 W6 pre.length (pre.flatMap vcs ++ [.int .i64 op, .string nm, .int .i64 cm, .int .i64 va, .int .i64 lo, .int .i64 hi, .slice vA vn vc]) g cap W8 := ⟨_, rfl, HA.out⟩; rw [hW8]; clear hW8)
                      | (obtain ⟨W8, hW8, h8⟩ : ∃ W8, ((((((((W7.setCell ⟨w4.heap.size, 0, none⟩ (.slice (some ⟨g, 0, none⟩) (pre.length + 1) cap)).setCell ⟨g, pre.length * 7, none⟩ (.int .i64 op)).setCell ⟨g, pre.length * 7 + 1, none⟩ (.string nm)).setCell ⟨g, pre.length * 7 + 2, none⟩ (.int .i64 cm)).setCell ⟨g, pre.length * 7 + 3, none⟩ (.int .i64 va)).setCell ⟨g, pre.length * 7 + 4, none⟩ (.int .i64 lo)).setCell ⟨g, pre.length * 7 + 5, none⟩ (.int .i64 hi)).setCell ⟨g, pre.length * 7 + 6, none⟩ (.slice vA vn vc)) = W8 ∧ RoundOk n w4.heap.size (w.heap.size + 1) W5 W6 pre.length (pre.flatMap vcs ++ [.int .i64 op, .string nm, .int .i64 cm, .int .i64 va, .int .i64 lo, .int .i64 hi, .slice vA vn vc]) g cap W8 := ⟨_, rfl, HBB.out⟩; rw [hW8]; clear hW8)
                    have H8 := Lib.hid h8
                    have c8 := h8.box.cell 0
                    have l8 := h8.box.lt
                    have d8 := h8.nbox.cell 0
                    have dl := h8.nbox.lt
                    have HVC := Lib.hid (show (pre ++ [(⟨vb, vo, ⟨op, nm, cm, va, lo, hi⟩, vA, vn, vc, vd⟩ : Vis)]).flatMap vcs = (pre.flatMap vcs ++ [.int .i64 op, .string nm, .int .i64 cm, .int .i64 va, .int .i64 lo, .int .i64 hi, .slice vA vn vc]) by simp [vcs, fcs])
                    have HVL := Lib.hid (show (pre ++ [(⟨vb, vo, ⟨op, nm, cm, va, lo, hi⟩, vA, vn, vc, vd⟩ : Vis)]).length = pre.length + 1 by simp)
                    clear h8 HA HBB HPUT HRN HB7 HGR HFR HGB HROW gc6 gf6 gc7 gf7 gl7 bc bl z0 z1 z2 z3 z4 z5 z6 hfz
                    by_cases hlen : n < (pre.length : Int) + 1
                    · gi_wp2
                      exact ⟨(by first | exact H8.out.kf | (rw [← HZ5.out]; exact H8.out.kf)), rfl, by rw [HVL.out]; omega, H8.out.fr, some ⟨g, 0, none⟩, cap, by rw [HVL.out]; exact H8.out.box, by rw [HVL.out, HVC.out]; exact H8.out.own⟩
                    · have hlen2 : (pre.length : Int) + 1 ≤ n := by omega
                      gi_wp2
                      exact ⟨(by first | exact H8.out.kf | (rw [← HZ5.out]; exact H8.out.kf)), (by first | exact H8.out.kp | (rw [← HZ5.out]; exact H8.out.kp)), by rw [HVL.out]; omega, H8.out.fr, some ⟨g, 0, none⟩, cap, by rw [HVL.out]; exact H8.out.box, by rw [HVL.out, HVC.out]; exact H8.out.own⟩
        · skip
          go_simp
          refine hK _ _ ?_
          clear hK K
          refine wpAnyIn_ready (rs := [1]) (by kernel_rfl) (by simp) ?_
          refine AllReadyIn.cons rfl (fun K hK => ?_) (AllReadyIn.nil)
          · skip
            go_simp
            refine hK _ _ ?_
            clear hK K
            refine wpAnyIn_ready (rs := [4]) (by kernel_rfl) (by simp) ?_
            refine AllReadyIn.cons rfl (fun K hK => ?_) (AllReadyIn.nil)
            · skip
              rw [if_pos (by rfl)]
              refine wpIn_append_run (.tmp 24) (.tmp 27) 26 rfl rfl rfl HRN.out ?_
              refine hK _ _ ?_
              clear hK K
              refine wpAnyIn_ready (rs := [5, 7]) (by kernel_rfl) (by simp) ?_
              refine AllReadyIn.cons rfl (fun K hK => ?_) (AllReadyIn.cons rfl (fun K hK => ?_) (AllReadyIn.nil))
              · skip
                go_simp
                refine hK _ _ ?_
                clear hK K
                refine wpAnyIn_ready (rs := [6, 7]) (by kernel_rfl) (by simp) ?_
                refine AllReadyIn.cons rfl (fun K hK => ?_) (AllReadyIn.cons rfl (fun K hK => ?_) (AllReadyIn.nil))
                · skip
                  go_simp
                  refine hK _ _ ?_
                  clear hK K
                  refine wpAnyIn_ready (rs := [7]) (by kernel_rfl) (by simp) ?_
                  refine AllReadyIn.cons rfl (fun K hK => ?_) (AllReadyIn.nil)
                  · skip
                    go_simp
                    refine hK _ _ ?_
                    clear hK K
                    refine wpAnyIn_done (by kernel_rfl) ?_ _
                    first
                      | (obtain ⟨W8, hW8, h8⟩ : ∃ W8, ((((((((W7.setCell ⟨g, pre.length * 7, none⟩ (.int .i64 op)).setCell ⟨g, pre.length * 7 + 1, none⟩ (.string nm)).setCell ⟨g, pre.length * 7 + 2, none⟩ (.int .i64 cm)).setCell ⟨g, pre.length * 7 + 3, none⟩ (.int .i64 va)).setCell ⟨g, pre.length * 7 + 4, none⟩ (.int .i64 lo)).setCell ⟨g, pre.length * 7 + 5, none⟩ (.int .i64 hi)).setCell ⟨g, pre.length * 7 + 6, none⟩ (.slice vA vn vc)).setCell ⟨w4.heap.size, 0, none⟩ (.slice (some ⟨g, 0, none⟩) (pre.length + 1) cap)) = W8 ∧ RoundOk n w4.heap.size (w.heap.size + 1) W5 W6 pre.length (pre.flatMap vcs ++ [.int .i64 op, .string nm, .int .i64 cm, .int .i64 va, .int .i64 lo, .int .i64 hi, .slice vA vn vc]) g cap W8 := ⟨_, rfl, HA.out⟩; rw [hW8]; clear hW8)
                      | (obtain ⟨W8, hW8, h8⟩ : ∃ W8, ((((((((W7.setCell ⟨w4.heap.size, 0, none⟩ (.slice (some ⟨g, 0, none⟩) (pre.length + 1) cap)).setCell ⟨g, pre.length * 7, none⟩ (.int .i64 op)).setCell ⟨g, pre.length * 7 + 1, none⟩ (.string nm)).setCell ⟨g, pre.length * 7 + 2, none⟩ (.int .i64 cm)).setCell ⟨g, pre.length * 7 + 3, none⟩ (.int .i64 va)).setCell ⟨g, pre.length * 7 + 4, none⟩ (.int .i64 lo)).setCell ⟨g, pre.length * 7 + 5, none⟩ (.int .i64 hi)).setCell ⟨g, pre.length * 7 + 6, none⟩ (.slice vA vn vc)) = W8 ∧ RoundOk n w4.heap.size (w.heap.size + 1) W5 W6 pre.length (pre.flatMap vcs ++ [.int .i64 op, .string nm, .int .i64 cm, .int .i64 va, .int .i64 lo, .int .i64 hi, .slice vA vn vc]) g cap W8 := ⟨_, rfl, HBB.out⟩; rw [hW8]; clear hW8)
                    have H8 := Lib.hid h8
                    have c8 := h8.box.cell 0
                    have l8 := h8.box.lt
                    have d8 := h8.nbox.cell 0
                    have dl := h8.nbox.lt
                    have HVC := Lib.hid (show (pre ++ [(⟨vb, vo, ⟨op, nm, cm, va, lo, hi⟩, vA, vn, vc, vd⟩ : Vis)]).flatMap vcs = (pre.flatMap vcs ++ [.int .i64 op, .string nm, .int .i64 cm, .int .i64 va, .int .i64 lo, .int .i64 hi, .slice vA vn vc]) by simp [vcs, fcs])
                    have HVL := Lib.hid (show (pre ++ [(⟨vb, vo, ⟨op, nm, cm, va, lo, hi⟩, vA, vn, vc, vd⟩ : Vis)]).length = pre.length + 1 by simp)
                    clear h8 HA HBB HPUT HRN HB7 HGR HFR HGB HROW gc6 gf6 gc7 gf7 gl7 bc bl z0 z1 z2 z3 z4 z5 z6 hfz
                    by_cases hlen : n < (pre.length : Int) + 1
                    · gi_wp2
                      exact ⟨(by first | exact H8.out.kf | (rw [← HZ5.out]; exact H8.out.kf)), rfl, by rw [HVL.out]; omega, H8.out.fr, some ⟨g, 0, none⟩, cap, by rw [HVL.out]; exact H8.out.box, by rw [HVL.out, HVC.out]; exact H8.out.own⟩
                    · have hlen2 : (pre.length : Int) + 1 ≤ n := by omega
                      gi_wp2
                      exact ⟨(by first | exact H8.out.kf | (rw [← HZ5.out]; exact H8.out.kf)), (by first | exact H8.out.kp | (rw [← HZ5.out]; exact H8.out.kp)), by rw [HVL.out]; omega, H8.out.fr, some ⟨g, 0, none⟩, cap, by rw [HVL.out]; exact H8.out.box, by rw [HVL.out, HVC.out]; exact H8.out.own⟩
                · skip
                  go_simp
                  refine hK _ _ ?_
                  clear hK K
                  refine wpAnyIn_ready (rs := [6]) (by kernel_rfl) (by simp) ?_
                  refine AllReadyIn.cons rfl (fun K hK => ?_) (AllReadyIn.nil)
                  · skip
                    go_simp
                    refine hK _ _ ?_
                    clear hK K
                    refine wpAnyIn_done (by kernel_rfl) ?_ _
                    first
                      | (obtain ⟨W8, hW8, h8⟩ : ∃ W8, ((((((((W7.setCell ⟨g, pre.length * 7, none⟩ (.int .i64 op)).setCell ⟨g, pre.length * 7 + 1, none⟩ (.string nm)).setCell ⟨g, pre.length * 7 + 2, none⟩ (.int .i64 cm)).setCell ⟨g, pre.length * 7 + 3, none⟩ (.int .i64 va)).setCell ⟨g, pre.length * 7 + 4, none⟩ (.int .i64 lo)).setCell ⟨g, pre.length * 7 + 5, none⟩ (.int .i64 hi)).setCell ⟨g, pre.length * 7 + 6, none⟩ (.slice vA vn vc)).setCell ⟨w4.heap.size, 0, none⟩ (.slice (some ⟨g, 0, none⟩) (pre.length + 1) cap)) = W8 ∧ RoundOk n w4.heap.size (w.heap.size + 1) W5 W6 pre.length (pre.flatMap vcs ++ [.int .i64 op, .string nm, .int .i64 cm, .int .i64 va, .int .i64 lo, .int .i64 hi, .slice vA vn vc]) g cap W8 := ⟨_, rfl, HA.out⟩; rw [hW8]; clear hW8)
                      | (obtain ⟨W8, hW8, h8⟩ : ∃ W8, ((((((((W7.setCell ⟨w4.heap.size, 0, none⟩ (.slice (some ⟨g, 0, none⟩) (pre.length + 1) cap)).setCell ⟨g, pre.length * 7, none⟩ (.int .i64 op)).setCell ⟨g, pre.length * 7 + 1, none⟩ (.string nm)).setCell ⟨g, pre.length * 7 + 2, none⟩ (.int .i64 cm)).setCell ⟨g, pre.length * 7 + 3, none⟩ (.int .i64 va)).setCell ⟨g, pre.length * 7 + 4, none⟩ (.int .i64 lo)).setCell ⟨g, pre.length * 7 + 5, none⟩ (.int .i64 hi)).setCell ⟨g, pre.length * 7 + 6, none⟩ (.slice vA vn vc)) = W8 ∧ RoundOk n w4.heap.size (w.heap.size + 1) W5 W6 pre.length (pre.flatMap vcs ++ [.int .i64 op, .string nm, .int .i64 cm, .int .i64 va, .int .i64 lo, .int .i64 hi, .slice vA vn vc]) g cap W8 := ⟨_, rfl, HBB.out⟩; rw [hW8]; clear hW8)
                    have H8 := Lib.hid h8
                    have c8 := h8.box.cell 0
                    have l8 := h8.box.lt
                    have d8 := h8.nbox.cell 0
                    have dl := h8.nbox.lt
                    have HVC := Lib.hid (show (pre ++ [(⟨vb, vo, ⟨op, nm, cm, va, lo, hi⟩, vA, vn, vc, vd⟩ : Vis)]).flatMap vcs = (pre.flatMap vcs ++ [.int .i64 op, .string nm, .int .i64 cm, .int .i64 va, .int .i64 lo, .int .i64 hi, .slice vA vn vc]) by simp [vcs, fcs])
                    have HVL := Lib.hid (show (pre ++ [(⟨vb, vo, ⟨op, nm, cm, va, lo, hi⟩, vA, vn, vc, vd⟩ : Vis)]).length = pre.length + 1 by simp)
                    clear h8 HA HBB HPUT HRN HB7 HGR HFR HGB HROW gc6 gf6 gc7 gf7 gl7 bc bl z0 z1 z2 z3 z4 z5 z6 hfz
                    by_cases hlen : n < (pre.length : Int) + 1
                    · gi_wp2
                      exact ⟨(by first | exact H8.out.kf | (rw [← HZ5.out]; exact H8.out.kf)), rfl, by rw [HVL.out]; omega, H8.out.fr, some ⟨g, 0, none⟩, cap, by rw [HVL.out]; exact H8.out.box, by rw [HVL.out, HVC.out]; exact H8.out.own⟩
                    · have hlen2 : (pre.length : Int) + 1 ≤ n := by omega
                      gi_wp2
                      exact ⟨(by first | exact H8.out.kf | (rw [← HZ5.out]; exact H8.out.kf)), (by first | exact H8.out.kp | (rw [← HZ5.out]; exact H8.out.kp)), by rw [HVL.out]; omega, H8.out.fr, some ⟨g, 0, none⟩, cap, by rw [HVL.out]; exact H8.out.box, by rw [HVL.out, HVC.out]; exact H8.out.own⟩
              · skip
                go_simp
                refine hK _ _ ?_
                clear hK K
                refine wpAnyIn_ready (rs := [5]) (by kernel_rfl) (by simp) ?_
                refine AllReadyIn.cons rfl (fun K hK => ?_) (AllReadyIn.nil)
                · skip
                  go_simp
                  refine hK _ _ ?_
                  clear hK K
                  refine wpAnyIn_ready (rs := [6]) (by kernel_rfl) (by simp) ?_
                  refine AllReadyIn.cons rfl (fun K hK => ?_) (AllReadyIn.nil)
                  · skip
                    go_simp
                    refine hK _ _ ?_
                    clear hK K
                    refine wpAnyIn_done (by kernel_rfl) ?_ _
                    first
                      | (obtain ⟨W8, hW8, h8⟩ : ∃ W8, ((((((((W7.setCell ⟨g, pre.length * 7, none⟩ (.int .i64 op)).setCell ⟨g, pre.length * 7 + 1, none⟩ (.string nm)).setCell ⟨g, pre.length * 7 + 2, none⟩ (.int .i64 cm)).setCell ⟨g, pre.length * 7 + 3, none⟩ (.int .i64 va)).setCell ⟨g, pre.length * 7 + 4, none⟩ (.int .i64 lo)).setCell ⟨g, pre.length * 7 + 5, none⟩ (.int .i64 hi)).setCell ⟨g, pre.length * 7 + 6, none⟩ (.slice vA vn vc)).setCell ⟨w4.heap.size, 0, none⟩ (.slice (some ⟨g, 0, none⟩) (pre.length + 1) cap)) = W8 ∧ RoundOk n w4.heap.size (w.heap.size + 1) W5 W6 pre.length (pre.flatMap vcs ++ [.int .i64 op, .string nm, .int .i64 cm, .int .i64 va, .int .i64 lo, .int .i64 hi, .slice vA vn vc]) g cap W8 := ⟨_, rfl, HA.out⟩; rw [hW8]; clear hW8)
                      | (obtain ⟨W8, hW8, h8⟩ : ∃ W8, ((((((((W7.setCell ⟨w4.heap.size, 0, none⟩ (.slice (some ⟨g, 0, none⟩) (pre.length + 1) cap)).setCell ⟨g, pre.length * 7, none⟩ (.int .i64 op)).setCell ⟨g, pre.length * 7 + 1, none⟩ (.string nm)).setCell ⟨g, pre.length * 7 + 2, none⟩ (.int .i64 cm)).setCell ⟨g, pre.length * 7 + 3, none⟩ (.int .i64 va)).setCell ⟨g, pre.length * 7 + 4, none⟩ (.int .i64 lo)).setCell ⟨g, pre.length * 7 + 5, none⟩ (.int .i64 hi)).setCell ⟨g, pre.length * 7 + 6, none⟩ (.slice vA vn vc)) = W8 ∧ RoundOk n w4.heap.size (w.heap.size + 1) W5 W6 pre.length (pre.flatMap vcs ++ [.int .i64 op, .string nm, .int .i64 cm, .int .i64 va, .int .i64 lo, .int .i64 hi, .slice vA vn vc]) g cap W8 := ⟨_, rfl, HBB.out⟩; rw [hW8]; clear hW8)
                    have H8 := Lib.hid h8
                    have c8 := h8.box.cell 0
                    have l8 := h8.box.lt
                    have d8 := h8.nbox.cell 0
                    have dl := h8.nbox.lt
                    have HVC := Lib.hid (show (pre ++ [(⟨vb, vo, ⟨op, nm, cm, va, lo, hi⟩, vA, vn, vc, vd⟩ : Vis)]).flatMap vcs = (pre.flatMap vcs ++ [.int .i64 op, .string nm, .int .i64 cm, .int .i64 va, .int .i64 lo, .int .i64 hi, .slice vA vn vc]) by simp [vcs, fcs])
                    have HVL := Lib.hid (show (pre ++ [(⟨vb, vo, ⟨op, nm, cm, va, lo, hi⟩, vA, vn, vc, vd⟩ : Vis)]).length = pre.length + 1 by simp)
                    clear h8 HA HBB HPUT HRN HB7 HGR HFR HGB HROW gc6 gf6 gc7 gf7 gl7 bc bl z0 z1 z2 z3 z4 z5 z6 hfz
                    by_cases hlen : n < (pre.length : Int) + 1
                    · gi_wp2
                      exact ⟨(by first | exact H8.out.kf | (rw [← HZ5.out]; exact H8.out.kf)), rfl, by rw [HVL.out]; omega, H8.out.fr, some ⟨g, 0, none⟩, cap, by rw [HVL.out]; exact H8.out.box, by rw [HVL.out, HVC.out]; exact H8.out.own⟩
                    · have hlen2 : (pre.length : Int) + 1 ≤ n := by omega
                      gi_wp2
                      exact ⟨(by first | exact H8.out.kf | (rw [← HZ5.out]; exact H8.out.kf)), (by first | exact H8.out.kp | (rw [← HZ5.out]; exact H8.out.kp)), by rw [HVL.out]; omega, H8.out.fr, some ⟨g, 0, none⟩, cap, by rw [HVL.out]; exact H8.out.box, by rw [HVL.out, HVC.out]; exact H8.out.own⟩
    · skip
      go_simp
      refine hK _ _ ?_
      clear hK K
      refine wpAnyIn_ready (rs := [0, 3]) (by kernel_rfl) (by simp) ?_
      refine AllReadyIn.cons rfl (fun K hK => ?_) (AllReadyIn.cons rfl (fun K hK => ?_) (AllReadyIn.nil))
      · skip
        go_simp
        refine hK _ _ ?_
        clear hK K
        refine wpAnyIn_ready (rs := [2, 3]) (by kernel_rfl) (by simp) ?_
        refine AllReadyIn.cons rfl (fun K hK => ?_) (AllReadyIn.cons rfl (fun K hK => ?_) (AllReadyIn.nil))
        · skip
          go_simp
          refine hK _ _ ?_
          clear hK K
          refine wpAnyIn_ready (rs := [3]) (by kernel_rfl) (by simp) ?_
          refine AllReadyIn.cons rfl (fun K hK => ?_) (AllReadyIn.nil)
          · skip
            go_simp
            refine hK _ _ ?_
            clear hK K
            refine wpAnyIn_ready (rs := [4]) (by kernel_rfl) (by simp) ?_
            refine AllReadyIn.cons rfl (fun K hK => ?_) (AllReadyIn.nil)
            · skip
              rw [if_pos (by rfl)]
              refine wpIn_append_run (.tmp 24) (.tmp 27) 26 rfl rfl rfl HRN.out ?_
              refine hK _ _ ?_
              clear hK K
              refine wpAnyIn_ready (rs := [5, 7]) (by kernel_rfl) (by simp) ?_
              refine AllReadyIn.cons rfl (fun K hK => ?_) (AllReadyIn.cons rfl (fun K hK => ?_) (AllReadyIn.nil))
              · skip
                go_simp
                refine hK _ _ ?_
                clear hK K
                refine wpAnyIn_ready (rs := [6, 7]) (by kernel_rfl) (by simp) ?_
                refine AllReadyIn.cons rfl (fun K hK => ?_) (AllReadyIn.cons rfl (fun K hK => ?_) (AllReadyIn.nil))
                · skip
                  go_simp
                  refine hK _ _ ?_
                  clear hK K
                  refine wpAnyIn_ready (rs := [7]) (by kernel_rfl) (by simp) ?_
                  refine AllReadyIn.cons rfl (fun K hK => ?_) (AllReadyIn.nil)
                  · skip
                    go_simp
                    refine hK _ _ ?_
                    clear hK K
                    refine wpAnyIn_done (by kernel_rfl) ?_ _
                    first
                      | (obtain ⟨W8, hW8, h8⟩ : ∃ W8, ((((((((W7.setCell ⟨g, pre.length * 7, none⟩ (.int .i64 op)).setCell ⟨g, pre.length * 7 + 1, none⟩ (.string nm)).setCell ⟨g, pre.length * 7 + 2, none⟩ (.int .i64 cm)).setCell ⟨g, pre.length * 7 + 3, none⟩ (.int .i64 va)).setCell ⟨g, pre.length * 7 + 4, none⟩ (.int .i64 lo)).setCell ⟨g, pre.length * 7 + 5, none⟩ (.int .i64 hi)).setCell ⟨g, pre.length * 7 + 6, none⟩ (.slice vA vn vc)).setCell ⟨w4.heap.size, 0, none⟩ (.slice (some ⟨g, 0, none⟩) (pre.length + 1) cap)) = W8 ∧ RoundOk n w4.heap.size (w.heap.size + 1) W5 W6 pre.length (pre.flatMap vcs ++ [.int .i64 op, .string nm, .int .i64 cm, .int .i64 va, .int .i64 lo, .int .i64 hi, .slice vA vn vc]) g cap W8 := ⟨_, rfl, HA.out⟩; rw [hW8]; clear hW8)
                      | (obtain ⟨W8, hW8, h8⟩ : ∃ W8, ((((((((W7.setCell ⟨w4.heap.size, 0, none⟩ (.slice (some ⟨g, 0, none⟩) (pre.length + 1) cap)).setCell ⟨g, pre.length * 7, none⟩ (.int .i64 op)).setCell ⟨g, pre.length * 7 + 1, none⟩ (.string nm)).setCell ⟨g, pre.length * 7 + 2, none⟩ (.int .i64 cm)).setCell ⟨g, pre.length * 7 + 3, none⟩ (.int .i64 va)).setCell ⟨g, pre.length * 7 + 4, none⟩ (.int .i64 lo)).setCell ⟨g, pre.length * 7 + 5, none⟩ (.int .i64 hi)).setCell ⟨g, pre.length * 7 + 6, none⟩ (.slice vA vn vc)) = W8 ∧ RoundOk n w4.heap.size (w.heap.size + 1) W5 W6 pre.length (pre.flatMap vcs ++ [.int .i64 op, .string nm, .int .i64 cm, .int .i64 va, .int .i64 lo, .int .i64 hi, .slice vA vn vc]) g cap W8 := ⟨_, rfl, HBB.out⟩; rw [hW8]; clear hW8)
                    have H8 := Lib.hid h8
                    have c8 := h8.box.cell 0
                    have l8 := h8.box.lt
                    have d8 := h8.nbox.cell 0
                    have dl := h8.nbox.lt
                    have HVC := Lib.hid (show (pre ++ [(⟨vb, vo, ⟨op, nm, cm, va, lo, hi⟩, vA, vn, vc, vd⟩ : Vis)]).flatMap vcs = (pre.flatMap vcs ++ [.int .i64 op, .string nm, .int .i64 cm, .int .i64 va, .int .i64 lo, .int .i64 hi, .slice vA vn vc]) by simp [vcs, fcs])
                    have HVL := Lib.hid (show (pre ++ [(⟨vb, vo, ⟨op, nm, cm, va, lo, hi⟩, vA, vn, vc, vd⟩ : Vis)]).length = pre.length + 1 by simp)
                    clear h8 HA HBB HPUT HRN HB7 HGR HFR HGB HROW gc6 gf6 gc7 gf7 gl7 bc bl z0 z1 z2 z3 z4 z5 z6 hfz
                    by_cases hlen : n < (pre.length : Int) + 1
                    · gi_wp2
                      exact ⟨(by first | exact H8.out.kf | (rw [← HZ5.out]; exact H8.out.kf)), rfl, by rw [HVL.out]; omega, H8.out.fr, some ⟨g, 0, none⟩, cap, by rw [HVL.out]; exact H8.out.box, by rw [HVL.out, HVC.out]; exact H8.out.own⟩
                    · have hlen2 : (pre.length : Int) + 1 ≤ n := by omega
                      gi_wp2
                      exact ⟨(by first | exact H8.out.kf | (rw [← HZ5.out]; exact H8.out.kf)), (by first | exact H8.out.kp | (rw [← HZ5.out]; exact H8.out.kp)), by rw [HVL.out]; omega, H8.out.fr, some ⟨g, 0, none⟩, cap, by rw [HVL.out]; exact H8.out.box, by rw [HVL.out, HVC.out]; exact H8.out.own⟩
                · skip
                  go_simp
                  refine hK _ _ ?_
                  clear hK K
                  refine wpAnyIn_ready (rs := [6]) (by kernel_rfl) (by simp) ?_
                  refine AllReadyIn.cons rfl (fun K hK => ?_) (AllReadyIn.nil)
                  · skip
                    go_simp
                    refine hK _ _ ?_
                    clear hK K
                    refine wpAnyIn_done (by kernel_rfl) ?_ _
                    first
                      | (obtain ⟨W8, hW8, h8⟩ : ∃ W8, ((((((((W7.setCell ⟨g, pre.length * 7, none⟩ (.int .i64 op)).setCell ⟨g, pre.length * 7 + 1, none⟩ (.string nm)).setCell ⟨g, pre.length * 7 + 2, none⟩ (.int .i64 cm)).setCell ⟨g, pre.length * 7 + 3, none⟩ (.int .i64 va)).setCell ⟨g, pre.length * 7 + 4, none⟩ (.int .i64 lo)).setCell ⟨g, pre.length * 7 + 5, none⟩ (.int .i64 hi)).setCell ⟨g, pre.length * 7 + 6, none⟩ (.slice vA vn vc)).setCell ⟨w4.heap.size, 0, none⟩ (.slice (some ⟨g, 0, none⟩) (pre.length + 1) cap)) = W8 ∧ RoundOk n w4.heap.size (w.heap.size + 1) W5 W6 pre.length (pre.flatMap vcs ++ [.int .i64 op, .string nm, .int .i64 cm, .int .i64 va, .int .i64 lo, .int .i64 hi, .slice vA vn vc]) g cap W8 := ⟨_, rfl, HA.out⟩; rw [hW8]; clear hW8)
                      | (obtain ⟨W8, hW8, h8⟩ : ∃ W8, ((((((((W7.setCell ⟨w4.heap.size, 0, none⟩ (.slice (some ⟨g, 0, none⟩) (pre.length + 1) cap)).setCell ⟨g, pre.length * 7, none⟩ (.int .i64 op)).setCell ⟨g, pre.length * 7 + 1, none⟩ (.string nm)).setCell ⟨g, pre.length * 7 + 2, none⟩ (.int .i64 cm)).setCell ⟨g, pre.length * 7 + 3, none⟩ (.int .i64 va)).setCell ⟨g, pre.length * 7 + 4, none⟩ (.int .i64 lo)).setCell ⟨g, pre.length * 7 + 5, none⟩ (.int .i64 hi)).setCell ⟨g, pre.length * 7 + 6, none⟩ (.slice vA vn vc)) = W8 ∧ RoundOk n w4.heap.size (w.heap.size + 1) W5 W6 pre.length (pre.flatMap vcs ++ [.int .i64 op, .string nm, .int .i64 cm, .int .i64 va, .int .i64 lo, .int .i64 hi, .slice vA vn vc]) g cap W8 := ⟨_, rfl, HBB.out⟩; rw [hW8]; clear hW8)
                    have H8 := Lib.hid h8
                    have c8 := h8.box.cell 0
                    have l8 := h8.box.lt
                    have d8 := h8.nbox.cell 0
                    have dl := h8.nbox.lt
                    have HVC := Lib.hid (show (pre ++ [(⟨vb, vo, ⟨op, nm, cm, va, lo, hi⟩, vA, vn, vc, vd⟩ : Vis)]).flatMap vcs = (pre.flatMap vcs ++ [.int .i64 op, .string nm, .int .i64 cm, .int .i64 va, .int .i64 lo, .int .i64 hi, .slice vA vn vc]) by simp [vcs, fcs])
                    have HVL := Lib.hid (show (pre ++ [(⟨vb, vo, ⟨op, nm, cm, va, lo, hi⟩, vA, vn, vc, vd⟩ : Vis)]).length = pre.length + 1 by simp)
                    clear h8 HA HBB HPUT HRN HB7 HGR HFR HGB HROW gc6 gf6 gc7 gf7 gl7 bc bl z0 z1 z2 z3 z4 z5 z6 hfz
                    by_cases hlen : n < (pre.length : Int) + 1
                    · gi_wp2
                      exact ⟨(by first | exact H8.out.kf | (rw [← HZ5.out]; exact H8.out.kf)), rfl, by rw [HVL.out]; omega, H8.out.fr, some ⟨g, 0, none⟩, cap, by rw [HVL.out]; exact H8.out.box, by rw [HVL.out, HVC.out]; exact H8.out.own⟩
                    · have hlen2 : (pre.length : Int) + 1 ≤ n := by omega
                      gi_wp2
                      exact ⟨(by first | exact H8.out.kf | (rw [← HZ5.out]; exact H8.out.kf)), (by first | exact H8.out.kp | (rw [← HZ5.out]; exact H8.out.kp)), by rw [HVL.out]; omega, H8.out.fr, some ⟨g, 0, none⟩, cap, by rw [HVL.out]; exact H8.out.box, by rw [HVL.out, HVC.out]; exact H8.out.own⟩
              · skip
                go_simp
                refine hK _ _ ?_
                clear hK K
                refine wpAnyIn_ready (rs := [5]) (by kernel_rfl) (by simp) ?_
                refine AllReadyIn.cons rfl (fun K hK => ?_) (AllReadyIn.nil)
                · skip
                  go_simp
                  refine hK _ _ ?_
                  clear hK K
                  refine wpAnyIn_ready (rs := [6]) (by kernel_rfl) (by simp) ?_
                  refine AllReadyIn.cons rfl (fun K hK => ?_) (AllReadyIn.nil)
                  · skip
                    go_simp
                    refine hK _ _ ?_
                    clear hK K
                    refine wpAnyIn_done (by kernel_rfl) ?_ _
                    first
                      | (obtain ⟨W8, hW8, h8⟩ : ∃ W8, ((((((((W7.setCell ⟨g, pre.length * 7, none⟩ (.int .i64 op)).setCell ⟨g, pre.length * 7 + 1, none⟩ (.string nm)).setCell ⟨g, pre.length * 7 + 2, none⟩ (.int .i64 cm)).setCell ⟨g, pre.length * 7 + 3, none⟩ (.int .i64 va)).setCell ⟨g, pre.length * 7 + 4, none⟩ (.int .i64 lo)).setCell ⟨g, pre.length * 7 + 5, none⟩ (.int .i64 hi)).setCell ⟨g, pre.length * 7 + 6, none⟩ (.slice vA vn vc)).setCell ⟨w4.heap.size, 0, none⟩ (.slice (some ⟨g, 0, none⟩) (pre.length + 1) cap)) = W8 ∧ RoundOk n w4.heap.size (w.heap.size + 1) W5 W6 pre.length (pre.flatMap vcs ++ [.int .i64 op, .string nm, .int .i64 cm, .int .i64 va, .int .i64 lo, .int .i64 hi, .slice vA vn vc]) g cap W8 := ⟨_, rfl, HA.out⟩; rw [hW8]; clear hW8)
                      | (obtain ⟨W8, hW8, h8⟩ : ∃ W8, ((((((((W7.setCell ⟨w4.heap.size, 0, none⟩ (.slice (some ⟨g, 0, none⟩) (pre.length + 1) cap)).setCell ⟨g, pre.length * 7, none⟩ (.int .i64 op)).setCell ⟨g, pre.length * 7 + 1, none⟩ (.string nm)).setCell ⟨g, pre.length * 7 + 2, none⟩ (.int .i64 cm)).setCell ⟨g, pre.length * 7 + 3, none⟩ (.int .i64 va)).setCell ⟨g, pre.length * 7 + 4, none⟩ (.int .i64 lo)).setCell ⟨g, pre.length * 7 + 5, none⟩ (.int .i64 hi)).setCell ⟨g, pre.length * 7 + 6, none⟩ (.slice vA vn vc)) = W8 ∧ RoundOk n w4.heap.size (w.heap.size + 1) W5 W6 pre.length (pre.flatMap vcs ++ [.int .i64 op, .string nm, .int .i64 cm, .int .i64 va, .int .i64 lo, .int .i64 hi, .slice vA vn vc]) g cap W8 := ⟨_, rfl, HBB.out⟩; rw [hW8]; clear hW8)
                    have H8 := Lib.hid h8
                    have c8 := h8.box.cell 0
                    have l8 := h8.box.lt
                    have d8 := h8.nbox.cell 0
                    have dl := h8.nbox.lt
                    have HVC := Lib.hid (show (pre ++ [(⟨vb, vo, ⟨op, nm, cm, va, lo, hi⟩, vA, vn, vc, vd⟩ : Vis)]).flatMap vcs = (pre.flatMap vcs ++ [.int .i64 op, .string nm, .int .i64 cm, .int .i64 va, .int .i64 lo, .int .i64 hi, .slice vA vn vc]) by simp [vcs, fcs])
                    have HVL := Lib.hid (show (pre ++ [(⟨vb, vo, ⟨op, nm, cm, va, lo, hi⟩, vA, vn, vc, vd⟩ : Vis)]).length = pre.length + 1 by simp)
                    clear h8 HA HBB HPUT HRN HB7 HGR HFR HGB HROW gc6 gf6 gc7 gf7 gl7 bc bl z0 z1 z2 z3 z4 z5 z6 hfz
                    by_cases hlen : n < (pre.length : Int) + 1
                    · gi_wp2
                      exact ⟨(by first | exact H8.out.kf | (rw [← HZ5.out]; exact H8.out.kf)), rfl, by rw [HVL.out]; omega, H8.out.fr, some ⟨g, 0, none⟩, cap, by rw [HVL.out]; exact H8.out.box, by rw [HVL.out, HVC.out]; exact H8.out.own⟩
                    · have hlen2 : (pre.length : Int) + 1 ≤ n := by omega
                      gi_wp2
                      exact ⟨(by first | exact H8.out.kf | (rw [← HZ5.out]; exact H8.out.kf)), (by first | exact H8.out.kp | (rw [← HZ5.out]; exact H8.out.kp)), by rw [HVL.out]; omega, H8.out.fr, some ⟨g, 0, none⟩, cap, by rw [HVL.out]; exact H8.out.box, by rw [HVL.out, HVC.out]; exact H8.out.own⟩
        · skip
          go_simp
          refine hK _ _ ?_
          clear hK K
          refine wpAnyIn_ready (rs := [2]) (by kernel_rfl) (by simp) ?_
          refine AllReadyIn.cons rfl (fun K hK => ?_) (AllReadyIn.nil)
          · skip
            go_simp
            refine hK _ _ ?_
            clear hK K
            refine wpAnyIn_ready (rs := [4]) (by kernel_rfl) (by simp) ?_
            refine AllReadyIn.cons rfl (fun K hK => ?_) (AllReadyIn.nil)
            · skip
              rw [if_pos (by rfl)]
              refine wpIn_append_run (.tmp 24) (.tmp 27) 26 rfl rfl rfl HRN.out ?_
              refine hK _ _ ?_
              clear hK K
              refine wpAnyIn_ready (rs := [5, 7]) (by kernel_rfl) (by simp) ?_
              refine AllReadyIn.cons rfl (fun K hK => ?_) (AllReadyIn.cons rfl (fun K hK => ?_) (AllReadyIn.nil))
              · skip
                go_simp
                refine hK _ _ ?_
                clear hK K
                refine wpAnyIn_ready (rs := [6, 7]) (by kernel_rfl) (by simp) ?_
                refine AllReadyIn.cons rfl (fun K hK => ?_) (AllReadyIn.cons rfl (fun K hK => ?_) (AllReadyIn.nil))
                · skip
                  go_simp
                  refine hK _ _ ?_
                  clear hK K
                  refine wpAnyIn_ready (rs := [7]) (by kernel_rfl) (by simp) ?_
                  refine AllReadyIn.cons rfl (fun K hK => ?_) (AllReadyIn.nil)
                  · skip
                    go_simp
                    refine hK _ _ ?_
                    clear hK K
                    refine wpAnyIn_done (by kernel_rfl) ?_ _
                    first
                      | (obtain ⟨W8, hW8, h8⟩ : ∃ W8, ((((((((W7.setCell ⟨g, pre.length * 7, none⟩ (.int .i64 op)).setCell ⟨g, pre.length * 7 + 1, none⟩ (.string nm)).setCell ⟨g, pre.length * 7 + 2, none⟩ (.int .i64 cm)).setCell ⟨g, pre.length * 7 + 3, none⟩ (.int .i64 va)).setCell ⟨g, pre.length * 7 + 4, none⟩ (.int .i64 lo)).setCell ⟨g, pre.length * 7 + 5, none⟩ (.int .i64 hi)).setCell ⟨g, pre.length * 7 + 6, none⟩ (.slice vA vn vc)).setCell ⟨w4.heap.size, 0, none⟩ (.slice (some ⟨g, 0, none⟩) (pre.length + 1) cap)) = W8 ∧ RoundOk n w4.heap.size (w.heap.size + 1) W5 W6 pre.length (pre.flatMap vcs ++ [.int .i64 op, .string nm, .int .i64 cm, .int .i64 va, .int .i64 lo, .int .i64 hi, .slice vA vn vc]) g cap W8 := ⟨_, rfl, HA.out⟩; rw [hW8]; clear hW8)
                      | (obtain ⟨W8, hW8, h8⟩ : ∃ W8, ((((((((W7.setCell ⟨w4.heap.size, 0, none⟩ (.slice (some ⟨g, 0, none⟩) (pre.length + 1) cap)).setCell ⟨g, pre.length * 7, none⟩ (.int .i64 op)).setCell ⟨g, pre.length * 7 + 1, none⟩ (.string nm)).setCell ⟨g, pre.length * 7 + 2, none⟩ (.int .i64 cm)).setCell ⟨g, pre.length * 7 + 3, none⟩ (.int .i64 va)).setCell ⟨g, pre.length * 7 + 4, none⟩ (.int .i64 lo)).setCell ⟨g, pre.length * 7 + 5, none⟩ (.int .i64 hi)).setCell ⟨g, pre.length * 7 + 6, none⟩ (.slice vA vn vc)) = W8 ∧ RoundOk n w4.heap.size (w.heap.size + 1) W5 W6 pre.length (pre.flatMap vcs ++ [.int .i64 op, .string nm, .int .i64 cm, .int .i64 va, .int .i64 lo, .int .i64 hi, .slice vA vn vc]) g cap W8 := ⟨_, rfl, HBB.out⟩; rw [hW8]; clear hW8)
                    have H8 := Lib.hid h8
                    have c8 := h8.box.cell 0
                    have l8 := h8.box.lt
                    have d8 := h8.nbox.cell 0
                    have dl := h8.nbox.lt
                    have HVC := Lib.hid (show (pre ++ [(⟨vb, vo, ⟨op, nm, cm, va, lo, hi⟩, vA, vn, vc, vd⟩ : Vis)]).flatMap vcs = (pre.flatMap vcs ++ [.int .i64 op, .string nm, .int .i64 cm, .int .i64 va, .int .i64 lo, .int .i64 hi, .slice vA vn vc]) by simp [vcs, fcs])
                    have HVL := Lib.hid (show (pre ++ [(⟨vb, vo, ⟨op, nm, cm, va, lo, hi⟩, vA, vn, vc, vd⟩ : Vis)]).length = pre.length + 1 by simp)
                    clear h8 HA HBB HPUT HRN HB7 HGR HFR HGB HROW gc6 gf6 gc7 gf7 gl7 bc bl z0 z1 z2 z3 z4 z5 z6 hfz
                    by_cases hlen : n < (pre.length : Int) + 1
                    · gi_wp2
                      exact ⟨(by first | exact H8.out.kf | (rw [← HZ5.out]; exact H8.out.kf)), rfl, by rw [HVL.out]; omega, H8.out.fr, some ⟨g, 0, none⟩, cap, by rw [HVL.out]; exact H8.out.box, by rw [HVL.out, HVC.out]; exact H8.out.own⟩
                    · have hlen2 : (pre.length : Int) + 1 ≤ n := by omega
                      gi_wp2
                      exact ⟨(by first | exact H8.out.kf | (rw [← HZ5.out]; exact H8.out.kf)), (by first | exact H8.out.kp | (rw [← HZ5.out]; exact H8.out.kp)), by rw [HVL.out]; omega, H8.out.fr, some ⟨g, 0, none⟩, cap, by rw [HVL.out]; exact H8.out.box, by rw [HVL.out, HVC.out]; exact H8.out.own⟩
                · skip
                  go_simp
                  refine hK _ _ ?_
                  clear hK K
                  refine wpAnyIn_ready (rs := [6]) (by kernel_rfl) (by simp) ?_
                  refine AllReadyIn.cons rfl (fun K hK => ?_) (AllReadyIn.nil)
                  · skip
                    go_simp
                    refine hK _ _ ?_
                    clear hK K
                    refine wpAnyIn_done (by kernel_rfl) ?_ _
                    first
                      | (obtain ⟨W8, hW8, h8⟩ : ∃ W8, ((((((((W7.setCell ⟨g, pre.length * 7, none⟩ (.int .i64 op)).setCell ⟨g, pre.length * 7 + 1, none⟩ (.string nm)).setCell ⟨g, pre.length * 7 + 2, none⟩ (.int .i64 cm)).setCell ⟨g, pre.length * 7 + 3, none⟩ (.int .i64 va)).setCell ⟨g, pre.length * 7 + 4, none⟩ (.int .i64 lo)).setCell ⟨g, pre.length * 7 + 5, none⟩ (.int .i64 hi)).setCell ⟨g, pre.length * 7 + 6, none⟩ (.slice vA vn vc)).setCell ⟨w4.heap.size, 0, none⟩ (.slice (some ⟨g, 0, none⟩) (pre.length + 1) cap)) = W8 ∧ RoundOk n w4.heap.size (w.heap.size + 1) W5 W6 pre.length (pre.flatMap vcs ++ [.int .i64 op, .string nm, .int .i64 cm, .int .i64 va, .int .i64 lo, .int .i64 hi, .slice vA vn vc]) g cap W8 := ⟨_, rfl, HA.out⟩; rw [hW8]; clear hW8)
                      | (obtain ⟨W8, hW8, h8⟩ : ∃ W8, ((((((((W7.setCell ⟨w4.heap.size, 0, none⟩ (.slice (some ⟨g, 0, none⟩) (pre.length + 1) cap)).setCell ⟨g, pre.length * 7, none⟩ (.int .i64 op)).setCell ⟨g, pre.length * 7 + 1, none⟩ (.string nm)).setCell ⟨g, pre.length * 7 + 2, none⟩ (.int .i64 cm)).setCell ⟨g, pre.length * 7 + 3, none⟩ (.int .i64 va)).setCell ⟨g, pre.length * 7 + 4, none⟩ (.int .i64 lo)).setCell ⟨g, pre.length * 7 + 5, none⟩ (.int .i64 hi)).setCell ⟨g, pre.length * 7 + 6, none⟩ (.slice vA vn vc)) = W8 ∧ RoundOk n w4.heap.size (w.heap.size + 1) W5 W6 pre.length (pre.flatMap vcs ++ [.int .i64 op, .string nm, .int .i64 cm, .int .i64 va, .int .i64 lo, .int .i64 hi, .slice vA vn vc]) g cap W8 := ⟨_, rfl, HBB.out⟩; rw [hW8]; clear hW8)
                    have H8 := Lib.hid h8
                    have c8 := h8.box.cell 0
                    have l8 := h8.box.lt
                    have d8 := h8.nbox.cell 0
                    have dl := h8.nbox.lt
                    have HVC := Lib.hid (show (pre ++ [(⟨vb, vo, ⟨op, nm, cm, va, lo, hi⟩, vA, vn, vc, vd⟩ : Vis)]).flatMap vcs = (pre.flatMap vcs ++ [.int .i64 op, .string nm, .int .i64 cm, .int .i64 va, .int .i64 lo, .int .i64 hi, .slice vA vn vc]) by simp [vcs, fcs])
                    have HVL := Lib.hid (show (pre ++ [(⟨vb, vo, ⟨op, nm, cm, va, lo, hi⟩, vA, vn, vc, vd⟩ : Vis)]).length = pre.length + 1 by simp)
                    clear h8 HA HBB HPUT HRN HB7 HGR HFR HGB HROW gc6 gf6 gc7 gf7 gl7 bc bl z0 z1 z2 z3 z4 z5 z6 hfz
                    by_cases hlen : n < (pre.length : Int) + 1
                    · gi_wp2
                      exact ⟨(by first | exact H8.out.kf | (rw [← HZ5.out]; exact H8.out.kf)), rfl, by rw [HVL.out]; omega, H8.out.fr, some ⟨g, 0, none⟩, cap, by rw [HVL.out]; exact H8.out.box, by rw [HVL.out, HVC.out]; exact H8.out.own⟩
                    · have hlen2 : (pre.length : Int) + 1 ≤ n := by omega
                      gi_wp2
                      exact ⟨(by first | exact H8.out.kf | (rw [← HZ5.out]; exact H8.out.kf)), (by first | exact H8.out.kp | (rw [← HZ5.out]; exact H8.out.kp)), by rw [HVL.out]; omega, H8.out.fr, some ⟨g, 0, none⟩, cap, by rw [HVL.out]; exact H8.out.box, by rw [HVL.out, HVC.out]; exact H8.out.own⟩
              · skip
                go_simp
                refine hK _ _ ?_
                clear hK K
                refine wpAnyIn_ready (rs := [5]) (by kernel_rfl) (by simp) ?_
                refine AllReadyIn.cons rfl (fun K hK => ?_) (AllReadyIn.nil)
                · skip
                  go_simp
                  refine hK _ _ ?_
                  clear hK K
                  refine wpAnyIn_ready (rs := [6]) (by kernel_rfl) (by simp) ?_
                  refine AllReadyIn.cons rfl (fun K hK => ?_) (AllReadyIn.nil)
                  · skip
                    go_simp
                    refine hK _ _ ?_
                    clear hK K
                    refine wpAnyIn_done (by kernel_rfl) ?_ _
                    first
                      | (obtain ⟨W8, hW8, h8⟩ : ∃ W8, ((((((((W7.setCell ⟨g, pre.length * 7, none⟩ (.int .i64 op)).setCell ⟨g, pre.length * 7 + 1, none⟩ (.string nm)).setCell ⟨g, pre.length * 7 + 2, none⟩ (.int .i64 cm)).setCell ⟨g, pre.length * 7 + 3, none⟩ (.int .i64 va)).setCell ⟨g, pre.length * 7 + 4, none⟩ (.int .i64 lo)).setCell ⟨g, pre.length * 7 + 5, none⟩ (.int .i64 hi)).setCell ⟨g, pre.length * 7 + 6, none⟩ (.slice vA vn vc)).setCell ⟨w4.heap.size, 0, none⟩ (.slice (some ⟨g, 0, none⟩) (pre.length + 1) cap)) = W8 ∧ RoundOk n w4.heap.size (w.heap.size + 1) W5 W6 pre.length (pre.flatMap vcs ++ [.int .i64 op, .string nm, .int .i64 cm, .int .i64 va, .int .i64 lo, .int .i64 hi, .slice vA vn vc]) g cap W8 := ⟨_, rfl, HA.out⟩; rw [hW8]; clear hW8)
                      | (obtain ⟨W8, hW8, h8⟩ : ∃ W8, ((((((((W7.setCell ⟨w4.heap.size, 0, none⟩ (.slice (some ⟨g, 0, none⟩) (pre.length + 1) cap)).setCell ⟨g, pre.length * 7, none⟩ (.int .i64 op)).setCell ⟨g, pre.length * 7 + 1, none⟩ (.string nm)).setCell ⟨g, pre.length * 7 + 2, none⟩ (.int .i64 cm)).setCell ⟨g, pre.length * 7 + 3, none⟩ (.int .i64 va)).setCell ⟨g, pre.length * 7 + 4, none⟩ (.int .i64 lo)).setCell ⟨g, pre.length * 7 + 5, none⟩ (.int .i64 hi)).setCell ⟨g, pre.length * 7 + 6, none⟩ (.slice vA vn vc)) = W8 ∧ RoundOk n w4.heap.size (w.heap.size + 1) W5 W6 pre.length (pre.flatMap vcs ++ [.int .i64 op, .string nm, .int .i64 cm, .int .i64 va, .int .i64 lo, .int .i64 hi, .slice vA vn vc]) g cap W8 := ⟨_, rfl, HBB.out⟩; rw [hW8]; clear hW8)
                    have H8 := Lib.hid h8
                    have c8 := h8.box.cell 0
                    have l8 := h8.box.lt
                    have d8 := h8.nbox.cell 0
                    have dl := h8.nbox.lt
                    have HVC := Lib.hid (show (pre ++ [(⟨vb, vo, ⟨op, nm, cm, va, lo, hi⟩, vA, vn, vc, vd⟩ : Vis)]).flatMap vcs = (pre.flatMap vcs ++ [.int .i64 op, .string nm, .int .i64 cm, .int .i64 va, .int .i64 lo, .int .i64 hi, .slice vA vn vc]) by simp [vcs, fcs])
                    have HVL := Lib.hid (show (pre ++ [(⟨vb, vo, ⟨op, nm, cm, va, lo, hi⟩, vA, vn, vc, vd⟩ : Vis)]).length = pre.length + 1 by simp)
                    clear h8 HA HBB HPUT HRN HB7 HGR HFR HGB HROW gc6 gf6 gc7 gf7 gl7 bc bl z0 z1 z2 z3 z4 z5 z6 hfz
                    by_cases hlen : n < (pre.length : Int) + 1
                    · gi_wp2
                      exact ⟨(by first | exact H8.out.kf | (rw [← HZ5.out]; exact H8.out.kf)), rfl, by rw [HVL.out]; omega, H8.out.fr, some ⟨g, 0, none⟩, cap, by rw [HVL.out]; exact H8.out.box, by rw [HVL.out, HVC.out]; exact H8.out.own⟩
                    · have hlen2 : (pre.length : Int) + 1 ≤ n := by omega
                      gi_wp2
                      exact ⟨(by first | exact H8.out.kf | (rw [← HZ5.out]; exact H8.out.kf)), (by first | exact H8.out.kp | (rw [← HZ5.out]; exact H8.out.kp)), by rw [HVL.out]; omega, H8.out.fr, some ⟨g, 0, none⟩, cap, by rw [HVL.out]; exact H8.out.box, by rw [HVL.out, HVC.out]; exact H8.out.own⟩
      · skip
        go_simp
        refine hK _ _ ?_
        clear hK K
        refine wpAnyIn_ready (rs := [0]) (by kernel_rfl) (by simp) ?_
        refine AllReadyIn.cons rfl (fun K hK => ?_) (AllReadyIn.nil)
        · skip
          go_simp
          refine hK _ _ ?_
          clear hK K
          refine wpAnyIn_ready (rs := [2]) (by kernel_rfl) (by simp) ?_
          refine AllReadyIn.cons rfl (fun K hK => ?_) (AllReadyIn.nil)
          · skip
            go_simp
            refine hK _ _ ?_
            clear hK K
            refine wpAnyIn_ready (rs := [4]) (by kernel_rfl) (by simp) ?_
            refine AllReadyIn.cons rfl (fun K hK => ?_) (AllReadyIn.nil)
            · skip
              rw [if_pos (by rfl)]
              refine wpIn_append_run (.tmp 24) (.tmp 27) 26 rfl rfl rfl HRN.out ?_
              refine hK _ _ ?_
              clear hK K
              refine wpAnyIn_ready (rs := [5, 7]) (by kernel_rfl) (by simp) ?_
              refine AllReadyIn.cons rfl (fun K hK => ?_) (AllReadyIn.cons rfl (fun K hK => ?_) (AllReadyIn.nil))
              · skip
                go_simp
                refine hK _ _ ?_
                clear hK K
                refine wpAnyIn_ready (rs := [6, 7]) (by kernel_rfl) (by simp) ?_
                refine AllReadyIn.cons rfl (fun K hK => ?_) (AllReadyIn.cons rfl (fun K hK => ?_) (AllReadyIn.nil))
                · skip
                  go_simp
                  refine hK _ _ ?_
                  clear hK K
                  refine wpAnyIn_ready (rs := [7]) (by kernel_rfl) (by simp) ?_
                  refine AllReadyIn.cons rfl (fun K hK => ?_) (AllReadyIn.nil)
                  · skip
                    go_simp
                    refine hK _ _ ?_
                    clear hK K
                    refine wpAnyIn_done (by kernel_rfl) ?_ _
                    first
                      | (obtain ⟨W8, hW8, h8⟩ : ∃ W8, ((((((((W7.setCell ⟨g, pre.length * 7, none⟩ (.int .i64 op)).setCell ⟨g, pre.length * 7 + 1, none⟩ (.string nm)).setCell ⟨g, pre.length * 7 + 2, none⟩ (.int .i64 cm)).setCell ⟨g, pre.length * 7 + 3, none⟩ (.int .i64 va)).setCell ⟨g, pre.length * 7 + 4, none⟩ (.int .i64 lo)).setCell ⟨g, pre.length * 7 + 5, none⟩ (.int .i64 hi)).setCell ⟨g, pre.length * 7 + 6, none⟩ (.slice vA vn vc)).setCell ⟨w4.heap.size, 0, none⟩ (.slice (some ⟨g, 0, none⟩) (pre.length + 1) cap)) = W8 ∧ RoundOk n w4.heap.size (w.heap.size + 1) W5 W6 pre.length (pre.flatMap vcs ++ [.int .i64 op, .string nm, .int .i64 cm, .int .i64 va, .int .i64 lo, .int .i64 hi, .slice vA vn vc]) g cap W8 := ⟨_, rfl, HA.out⟩; rw [hW8]; clear hW8)
                      | (obtain ⟨W8, hW8, h8⟩ : ∃ W8, ((((((((W7.setCell ⟨w4.heap.size, 0, none⟩ (.slice (some ⟨g, 0, none⟩) (pre.length + 1) cap)).setCell ⟨g, pre.length * 7, none⟩ (.int .i64 op)).setCell ⟨g, pre.length * 7 + 1, none⟩ (.string nm)).setCell ⟨g, pre.length * 7 + 2, none⟩ (.int .i64 cm)).setCell ⟨g, pre.length * 7 + 3, none⟩ (.int .i64 va)).setCell ⟨g, pre.length * 7 + 4, none⟩ (.int .i64 lo)).setCell ⟨g, pre.length * 7 + 5, none⟩ (.int .i64 hi)).setCell ⟨g, pre.length * 7 + 6, none⟩ (.slice vA vn vc)) = W8 ∧ RoundOk n w4.heap.size (w.heap.size + 1) W5 W6 pre.length (pre.flatMap vcs ++ [.int .i64 op, .string nm, .int .i64 cm, .int .i64 va, .int .i64 lo, .int .i64 hi, .slice vA vn vc]) g cap W8 := ⟨_, rfl, HBB.out⟩; rw [hW8]; clear hW8)
                    have H8 := Lib.hid h8
                    have c8 := h8.box.cell 0
                    have l8 := h8.box.lt
                    have d8 := h8.nbox.cell 0
                    have dl := h8.nbox.lt
                    have HVC := Lib.hid (show (pre ++ [(⟨vb, vo, ⟨op, nm, cm, va, lo, hi⟩, vA, vn, vc, vd⟩ : Vis)]).flatMap vcs = (pre.flatMap vcs ++ [.int .i64 op, .string nm, .int .i64 cm, .int .i64 va, .int .i64 lo, .int .i64 hi, .slice vA vn vc]) by simp [vcs, fcs])
                    have HVL := Lib.hid (show (pre ++ [(⟨vb, vo, ⟨op, nm, cm, va, lo, hi⟩, vA, vn, vc, vd⟩ : Vis)]).length = pre.length + 1 by simp)
                    clear h8 HA HBB HPUT HRN HB7 HGR HFR HGB HROW gc6 gf6 gc7 gf7 gl7 bc bl z0 z1 z2 z3 z4 z5 z6 hfz
                    by_cases hlen : n < (pre.length : Int) + 1
                    · gi_wp2
                      exact ⟨(by first | exact H8.out.kf | (rw [← HZ5.out]; exact H8.out.kf)), rfl, by rw [HVL.out]; omega, H8.out.fr, some ⟨g, 0, none⟩, cap, by rw [HVL.out]; exact H8.out.box, by rw [HVL.out, HVC.out]; exact H8.out.own⟩
                    · have hlen2 : (pre.length : Int) + 1 ≤ n := by omega
                      gi_wp2
                      exact ⟨(by first | exact H8.out.kf | (rw [← HZ5.out]; exact H8.out.kf)), (by first | exact H8.out.kp | (rw [← HZ5.out]; exact H8.out.kp)), by rw [HVL.out]; omega, H8.out.fr, some ⟨g, 0, none⟩, cap, by rw [HVL.out]; exact H8.out.box, by rw [HVL.out, HVC.out]; exact H8.out.own⟩
                · skip
                  go_simp
                  refine hK _ _ ?_
                  clear hK K
                  refine wpAnyIn_ready (rs := [6]) (by kernel_rfl) (by simp) ?_
                  refine AllReadyIn.cons rfl (fun K hK => ?_) (AllReadyIn.nil)
                  · skip
                    go_simp
                    refine hK _ _ ?_
                    clear hK K
                    refine wpAnyIn_done (by kernel_rfl) ?_ _
                    first
                      | (obtain ⟨W8, hW8, h8⟩ : ∃ W8, ((((((((W7.setCell ⟨g, pre.length * 7, none⟩ (.int .i64 op)).setCell ⟨g, pre.length * 7 + 1, none⟩ (.string nm)).setCell ⟨g, pre.length * 7 + 2, none⟩ (.int .i64 cm)).setCell ⟨g, pre.length * 7 + 3, none⟩ (.int .i64 va)).setCell ⟨g, pre.length * 7 + 4, none⟩ (.int .i64 lo)).setCell ⟨g, pre.length * 7 + 5, none⟩ (.int .i64 hi)).setCell ⟨g, pre.length * 7 + 6, none⟩ (.slice vA vn vc)).setCell ⟨w4.heap.size, 0, none⟩ (.slice (some ⟨g, 0, none⟩) (pre.length + 1) cap)) = W8 ∧ RoundOk n w4.heap.size (w.heap.size + 1) W5 W6 pre.length (pre.flatMap vcs ++ [.int .i64 op, .string nm, .int .i64 cm, .int .i64 va, .int .i64 lo, .int .i64 hi, .slice vA vn vc]) g cap W8 := ⟨_, rfl, HA.out⟩; rw [hW8]; clear hW8)
                      | (obtain ⟨W8, hW8, h8⟩ : ∃ W8, ((((((((W7.setCell ⟨w4.heap.size, 0, none⟩ (.slice (some ⟨g, 0, none⟩) (pre.length + 1) cap)).setCell ⟨g, pre.length * 7, none⟩ (.int .i64 op)).setCell ⟨g, pre.length * 7 + 1, none⟩ (.string nm)).setCell ⟨g, pre.length * 7 + 2, none⟩ (.int .i64 cm)).setCell ⟨g, pre.length * 7 + 3, none⟩ (.int .i64 va)).setCell ⟨g, pre.length * 7 + 4, none⟩ (.int .i64 lo)).setCell ⟨g, pre.length * 7 + 5, none⟩ (.int .i64 hi)).setCell ⟨g, pre.length * 7 + 6, none⟩ (.slice vA vn vc)) = W8 ∧ RoundOk n w4.heap.size (w.heap.size + 1) W5 W6 pre.length (pre.flatMap vcs ++ [.int .i64 op, .string nm, .int .i64 cm, .int .i64 va, .int .i64 lo, .int .i64 hi, .slice vA vn vc]) g cap W8 := ⟨_, rfl, HBB.out⟩; rw [hW8]; clear hW8)
                    have H8 := Lib.hid h8
                    have c8 := h8.box.cell 0
                    have l8 := h8.box.lt
                    have d8 := h8.nbox.cell 0
                    have dl := h8.nbox.lt
                    have HVC := Lib.hid (show (pre ++ [(⟨vb, vo, ⟨op, nm, cm, va, lo, hi⟩, vA, vn, vc, vd⟩ : Vis)]).flatMap vcs = (pre.flatMap vcs ++ [.int .i64 op, .string nm, .int .i64 cm, .int .i64 va, .int .i64 lo, .int .i64 hi, .slice vA vn vc]) by simp [vcs, fcs])
                    have HVL := Lib.hid (show (pre ++ [(⟨vb, vo, ⟨op, nm, cm, va, lo, hi⟩, vA, vn, vc, vd⟩ : Vis)]).length = pre.length + 1 by simp)
                    clear h8 HA HBB HPUT HRN HB7 HGR HFR HGB HROW gc6 gf6 gc7 gf7 gl7 bc bl z0 z1 z2 z3 z4 z5 z6 hfz
                    by_cases hlen : n < (pre.length : Int) + 1
                    · gi_wp2
                      exact ⟨(by first | exact H8.out.kf | (rw [← HZ5.out]; exact H8.out.kf)), rfl, by rw [HVL.out]; omega, H8.out.fr, some ⟨g, 0, none⟩, cap, by rw [HVL.out]; exact H8.out.box, by rw [HVL.out, HVC.out]; exact H8.out.own⟩
                    · have hlen2 : (pre.length : Int) + 1 ≤ n := by omega
                      gi_wp2
                      exact ⟨(by first | exact H8.out.kf | (rw [← HZ5.out]; exact H8.out.kf)), (by first | exact H8.out.kp | (rw [← HZ5.out]; exact H8.out.kp)), by rw [HVL.out]; omega, H8.out.fr, some ⟨g, 0, none⟩, cap, by rw [HVL.out]; exact H8.out.box, by rw [HVL.out, HVC.out]; exact H8.out.own⟩
              · skip
                go_simp
                refine hK _ _ ?_
                clear hK K
                refine wpAnyIn_ready (rs := [5]) (by kernel_rfl) (by simp) ?_
                refine AllReadyIn.cons rfl (fun K hK => ?_) (AllReadyIn.nil)
                · skip
                  go_simp
                  refine hK _ _ ?_
                  clear hK K
                  refine wpAnyIn_ready (rs := [6]) (by kernel_rfl) (by simp) ?_
                  refine AllReadyIn.cons rfl (fun K hK => ?_) (AllReadyIn.nil)
                  · skip
                    go_simp
                    refine hK _ _ ?_
                    clear hK K
                    refine wpAnyIn_done (by kernel_rfl) ?_ _
                    first
                      | (obtain ⟨W8, hW8, h8⟩ : ∃ W8, ((((((((W7.setCell ⟨g, pre.length * 7, none⟩ (.int .i64 op)).setCell ⟨g, pre.length * 7 + 1, none⟩ (.string nm)).setCell ⟨g, pre.length * 7 + 2, none⟩ (.int .i64 cm)).setCell ⟨g, pre.length * 7 + 3, none⟩ (.int .i64 va)).setCell ⟨g, pre.length * 7 + 4, none⟩ (.int .i64 lo)).setCell ⟨g, pre.length * 7 + 5, none⟩ (.int .i64 hi)).setCell ⟨g, pre.length * 7 + 6, none⟩ (.slice vA vn vc)).setCell ⟨w4.heap.size, 0, none⟩ (.slice (some ⟨g, 0, none⟩) (pre.length + 1) cap)) = W8 ∧ RoundOk n w4.heap.size (w.heap.size + 1) W5 W6 pre.length (pre.flatMap vcs ++ [.int .i64 op, .string nm, .int .i64 cm, .int .i64 va, .int .i64 lo, .int .i64 hi, .slice vA vn vc]) g cap W8 := ⟨_, rfl, HA.out⟩; rw [hW8]; clear hW8)
                      | (obtain ⟨W8, hW8, h8⟩ : ∃ W8, ((((((((W7.setCell ⟨w4.heap.size, 0, none⟩ (.slice (some ⟨g, 0, none⟩) (pre.length + 1) cap)).setCell ⟨g, pre.length * 7, none⟩ (.int .i64 op)).setCell ⟨g, pre.length * 7 + 1, none⟩ (.string nm)).setCell ⟨g, pre.length * 7 + 2, none⟩ (.int .i64 cm)).setCell ⟨g, pre.length * 7 + 3, none⟩ (.int .i64 va)).setCell ⟨g, pre.length * 7 + 4, none⟩ (.int .i64 lo)).setCell ⟨g, pre.length * 7 + 5, none⟩ (.int .i64 hi)).setCell ⟨g, pre.length * 7 + 6, none⟩ (.slice vA vn vc)) = W8 ∧ RoundOk n w4.heap.size (w.heap.size + 1) W5 W6 pre.length (pre.flatMap vcs ++ [.int .i64 op, .string nm, .int .i64 cm, .int .i64 va, .int .i64 lo, .int .i64 hi, .slice vA vn vc]) g cap W8 := ⟨_, rfl, HBB.out⟩; rw [hW8]; clear hW8)
                    have H8 := Lib.hid h8
                    have c8 := h8.box.cell 0
                    have l8 := h8.box.lt
                    have d8 := h8.nbox.cell 0
                    have dl := h8.nbox.lt
                    have HVC := Lib.hid (show (pre ++ [(⟨vb, vo, ⟨op, nm, cm, va, lo, hi⟩, vA, vn, vc, vd⟩ : Vis)]).flatMap vcs = (pre.flatMap vcs ++ [.int .i64 op, .string nm, .int .i64 cm, .int .i64 va, .int .i64 lo, .int .i64 hi, .slice vA vn vc]) by simp [vcs, fcs])
                    have HVL := Lib.hid (show (pre ++ [(⟨vb, vo, ⟨op, nm, cm, va, lo, hi⟩, vA, vn, vc, vd⟩ : Vis)]).length = pre.length + 1 by simp)
                    clear h8 HA HBB HPUT HRN HB7 HGR HFR HGB HROW gc6 gf6 gc7 gf7 gl7 bc bl z0 z1 z2 z3 z4 z5 z6 hfz
                    by_cases hlen : n < (pre.length : Int) + 1
                    · gi_wp2
                      exact ⟨(by first | exact H8.out.kf | (rw [← HZ5.out]; exact H8.out.kf)), rfl, by rw [HVL.out]; omega, H8.out.fr, some ⟨g, 0, none⟩, cap, by rw [HVL.out]; exact H8.out.box, by rw [HVL.out, HVC.out]; exact H8.out.own⟩
                    · have hlen2 : (pre.length : Int) + 1 ≤ n := by omega
                      gi_wp2
                      exact ⟨(by first | exact H8.out.kf | (rw [← HZ5.out]; exact H8.out.kf)), (by first | exact H8.out.kp | (rw [← HZ5.out]; exact H8.out.kp)), by rw [HVL.out]; omega, H8.out.fr, some ⟨g, 0, none⟩, cap, by rw [HVL.out]; exact H8.out.box, by rw [HVL.out, HVC.out]; exact H8.out.own⟩
    · skip
      go_simp
      refine hK _ _ ?_
      clear hK K
      refine wpAnyIn_ready (rs := [0, 1]) (by kernel_rfl) (by simp) ?_
      refine AllReadyIn.cons rfl (fun K hK => ?_) (AllReadyIn.cons rfl (fun K hK => ?_) (AllReadyIn.nil))
      · skip
        go_simp
        refine hK _ _ ?_
        clear hK K
        refine wpAnyIn_ready (rs := [1, 2]) (by kernel_rfl) (by simp) ?_
        refine AllReadyIn.cons rfl (fun K hK => ?_) (AllReadyIn.cons rfl (fun K hK => ?_) (AllReadyIn.nil))
        · skip
          go_simp
          refine hK _ _ ?_
          clear hK K
          refine wpAnyIn_ready (rs := [2]) (by kernel_rfl) (by simp) ?_
          refine AllReadyIn.cons rfl (fun K hK => ?_) (AllReadyIn.nil)
          · skip
            go_simp
            refine hK _ _ ?_
            clear hK K
            refine wpAnyIn_ready (rs := [4]) (by kernel_rfl) (by simp) ?_
            refine AllReadyIn.cons rfl (fun K hK => ?_) (AllReadyIn.nil)
            · skip
              rw [if_pos (by rfl)]
              refine wpIn_append_run (.tmp 24) (.tmp 27) 26 rfl rfl rfl HRN.out ?_
              refine hK _ _ ?_
              clear hK K
              refine wpAnyIn_ready (rs := [5, 7]) (by kernel_rfl) (by simp) ?_
              refine AllReadyIn.cons rfl (fun K hK => ?_) (AllReadyIn.cons rfl (fun K hK => ?_) (AllReadyIn.nil))
              · skip
                go_simp
                refine hK _ _ ?_
                clear hK K
                refine wpAnyIn_ready (rs := [6, 7]) (by kernel_rfl) (by simp) ?_
                refine AllReadyIn.cons rfl (fun K hK => ?_) (AllReadyIn.cons rfl (fun K hK => ?_) (AllReadyIn.nil))
                · skip
                  go_simp
                  refine hK _ _ ?_
                  clear hK K
                  refine wpAnyIn_ready (rs := [7]) (by kernel_rfl) (by simp) ?_
                  refine AllReadyIn.cons rfl (fun K hK => ?_) (AllReadyIn.nil)
                  · skip
                    go_simp
                    refine hK _ _ ?_
                    clear hK K
                    refine wpAnyIn_done (by kernel_rfl) ?_ _
                    first
                      | (obtain ⟨W8, hW8, h8⟩ : ∃ W8, ((((((((W7.setCell ⟨g, pre.length * 7, none⟩ (.int .i64 op)).setCell ⟨g, pre.length * 7 + 1, none⟩ (.string nm)).setCell ⟨g, pre.length * 7 + 2, none⟩ (.int .i64 cm)).setCell ⟨g, pre.length * 7 + 3, none⟩ (.int .i64 va)).setCell ⟨g, pre.length * 7 + 4, none⟩ (.int .i64 lo)).setCell ⟨g, pre.length * 7 + 5, none⟩ (.int .i64 hi)).setCell ⟨g, pre.length * 7 + 6, none⟩ (.slice vA vn vc)).setCell ⟨w4.heap.size, 0, none⟩ (.slice (some ⟨g, 0, none⟩) (pre.length + 1) cap)) = W8 ∧ RoundOk n w4.heap.size (w.heap.size + 1) W5 W6 pre.length (pre.flatMap vcs ++ [.int .i64 op, .string nm, .int .i64 cm, .int .i64 va, .int .i64 lo, .int .i64 hi, .slice vA vn vc]) g cap W8 := ⟨_, rfl, HA.out⟩; rw [hW8]; clear hW8)
                      | (obtain ⟨W8, hW8, h8⟩ : ∃ W8, ((((((((W7.setCell ⟨w4.heap.size, 0, none⟩ (.slice (some ⟨g, 0, none⟩) (pre.length + 1) cap)).setCell ⟨g, pre.length * 7, none⟩ (.int .i64 op)).setCell ⟨g, pre.length * 7 + 1, none⟩ (.string nm)).setCell ⟨g, pre.length * 7 + 2, none⟩ (.int .i64 cm)).setCell ⟨g, pre.length * 7 + 3, none⟩ (.int .i64 va)).setCell ⟨g, pre.length * 7 + 4, none⟩ (.int .i64 lo)).setCell ⟨g, pre.length * 7 + 5, none⟩ (.int .i64 hi)).setCell ⟨g, pre.length * 7 + 6, none⟩ (.slice vA vn vc)) = W8 ∧ RoundOk n w4.heap.size (w.heap.size + 1) W5 W6 pre.length (pre.flatMap vcs ++ [.int .i64 op, .string nm, .int .i64 cm, .int .i64 va, .int .i64 lo, .int .i64 hi, .slice vA vn vc]) g cap W8 := ⟨_, rfl, HBB.out⟩; rw [hW8]; clear hW8)
                    have H8 := Lib.hid h8
                    have c8 := h8.box.cell 0
                    have l8 := h8.box.lt
                    have d8 := h8.nbox.cell 0
                    have dl := h8.nbox.lt
                    have HVC := Lib.hid (show (pre ++ [(⟨vb, vo, ⟨op, nm, cm, va, lo, hi⟩, vA, vn, vc, vd⟩ : Vis)]).flatMap vcs = (pre.flatMap vcs ++ [.int .i64 op, .string nm, .int .i64 cm, .int .i64 va, .int .i64 lo, .int .i64 hi, .slice vA vn vc]) by simp [vcs, fcs])
                    have HVL := Lib.hid (show (pre ++ [(⟨vb, vo, ⟨op, nm, cm, va, lo, hi⟩, vA, vn, vc, vd⟩ : Vis)]).length = pre.length + 1 by simp)
                    clear h8 HA HBB HPUT HRN HB7 HGR HFR HGB HROW gc6 gf6 gc7 gf7 gl7 bc bl z0 z1 z2 z3 z4 z5 z6 hfz
                    by_cases hlen : n < (pre.length : Int) + 1
                    · gi_wp2
                      exact ⟨(by first | exact H8.out.kf | (rw [← HZ5.out]; exact H8.out.kf)), rfl, by rw [HVL.out]; omega, H8.out.fr, some ⟨g, 0, none⟩, cap, by rw [HVL.out]; exact H8.out.box, by rw [HVL.out, HVC.out]; exact H8.out.own⟩
                    · have hlen2 : (pre.length : Int) + 1 ≤ n := by omega
                      gi_wp2
                      exact ⟨(by first | exact H8.out.kf | (rw [← HZ5.out]; exact H8.out.kf)), (by first | exact H8.out.kp | (rw [← HZ5.out]; exact H8.out.kp)), by rw [HVL.out]; omega, H8.out.fr, some ⟨g, 0, none⟩, cap, by rw [HVL.out]; exact H8.out.box, by rw [HVL.out, HVC.out]; exact H8.out.own⟩
                · skip
                  go_simp
                  refine hK _ _ ?_
                  clear hK K
                  refine wpAnyIn_ready (rs := [6]) (by kernel_rfl) (by simp) ?_
                  refine AllReadyIn.cons rfl (fun K hK => ?_) (AllReadyIn.nil)
                  · skip
                    go_simp
                    refine hK _ _ ?_
                    clear hK K
                    refine wpAnyIn_done (by kernel_rfl) ?_ _
                    first
                      | (obtain ⟨W8, hW8, h8⟩ : ∃ W8, ((((((((W7.setCell ⟨g, pre.length * 7, none⟩ (.int .i64 op)).setCell ⟨g, pre.length * 7 + 1, none⟩ (.string nm)).setCell ⟨g, pre.length * 7 + 2, none⟩ (.int .i64 cm)).setCell ⟨g, pre.length * 7 + 3, none⟩ (.int .i64 va)).setCell ⟨g, pre.length * 7 + 4, none⟩ (.int .i64 lo)).setCell ⟨g, pre.length * 7 + 5, none⟩ (.int .i64 hi)).setCell ⟨g, pre.length * 7 + 6, none⟩ (.slice vA vn vc)).setCell ⟨w4.heap.size, 0, none⟩ (.slice (some ⟨g, 0, none⟩) (pre.length + 1) cap)) = W8 ∧ RoundOk n w4.heap.size (w.heap.size + 1) W5 W6 pre.length (pre.flatMap vcs ++ [.int .i64 op, .string nm, .int .i64 cm, .int .i64 va, .int .i64 lo, .int .i64 hi, .slice vA vn vc]) g cap W8 := ⟨_, rfl, HA.out⟩; rw [hW8]; clear hW8)
                      | (obtain ⟨W8, hW8, h8⟩ : ∃ W8, ((((((((W7.setCell ⟨w4.heap.size, 0, none⟩ (.slice (some ⟨g, 0, none⟩) (pre.length + 1) cap)).setCell ⟨g, pre.length * 7, none⟩ (.int .i64 op)).setCell ⟨g, pre.length * 7 + 1, none⟩ (.string nm)).setCell ⟨g, pre.length * 7 + 2, none⟩ (.int .i64 cm)).setCell ⟨g, pre.length * 7 + 3, none⟩ (.int .i64 va)).setCell ⟨g, pre.length * 7 + 4, none⟩ (.int .i64 lo)).setCell ⟨g, pre.length * 7 + 5, none⟩ (.int .i64 hi)).setCell ⟨g, pre.length * 7 + 6, none⟩ (.slice vA vn vc)) = W8 ∧ RoundOk n w4.heap.size (w.heap.size + 1) W5 W6 pre.length (pre.flatMap vcs ++ [.int .i64 op, .string nm, .int .i64 cm, .int .i64 va, .int .i64 lo, .int .i64 hi, .slice vA vn vc]) g cap W8 := ⟨_, rfl, HBB.out⟩; rw [hW8]; clear hW8)
                    have H8 := Lib.hid h8
                    have c8 := h8.box.cell 0
                    have l8 := h8.box.lt
                    have d8 := h8.nbox.cell 0
                    have dl := h8.nbox.lt
                    have HVC := Lib.hid (show (pre ++ [(⟨vb, vo, ⟨op, nm, cm, va, lo, hi⟩, vA, vn, vc, vd⟩ : Vis)]).flatMap vcs = (pre.flatMap vcs ++ [.int .i64 op, .string nm, .int .i64 cm, .int .i64 va, .int .i64 lo, .int .i64 hi, .slice vA vn vc]) by simp [vcs, fcs])
                    have HVL := Lib.hid (show (pre ++ [(⟨vb, vo, ⟨op, nm, cm, va, lo, hi⟩, vA, vn, vc, vd⟩ : Vis)]).length = pre.length + 1 by simp)
                    clear h8 HA HBB HPUT HRN HB7 HGR HFR HGB HROW gc6 gf6 gc7 gf7 gl7 bc bl z0 z1 z2 z3 z4 z5 z6 hfz
                    by_cases hlen : n < (pre.length : Int) + 1
                    · gi_wp2
                      exact ⟨(by first | exact H8.out.kf | (rw [← HZ5.out]; exact H8.out.kf)), rfl, by rw [HVL.out]; omega, H8.out.fr, some ⟨g, 0, none⟩, cap, by rw [HVL.out]; exact H8.out.box, by rw [HVL.out, HVC.out]; exact H8.out.own⟩
                    · have hlen2 : (pre.length : Int) + 1 ≤ n := by omega
                      gi_wp2
                      exact ⟨(by first | exact H8.out.kf | (rw [← HZ5.out]; exact H8.out.kf)), (by first | exact H8.out.kp | (rw [← HZ5.out]; exact H8.out.kp)), by rw [HVL.out]; omega, H8.out.fr, some ⟨g, 0, none⟩, cap, by rw [HVL.out]; exact H8.out.box, by rw [HVL.out, HVC.out]; exact H8.out.own⟩
              · skip
                go_simp
                refine hK _ _ ?_
                clear hK K
                refine wpAnyIn_ready (rs := [5]) (by kernel_rfl) (by simp) ?_
                refine AllReadyIn.cons rfl (fun K hK => ?_) (AllReadyIn.nil)
                · skip
                  go_simp
                  refine hK _ _ ?_
                  clear hK K
                  refine wpAnyIn_ready (rs := [6]) (by kernel_rfl) (by simp) ?_
                  refine AllReadyIn.cons rfl (fun K hK => ?_) (AllReadyIn.nil)
                  · skip
                    go_simp
                    refine hK _ _ ?_
                    clear hK K
                    refine wpAnyIn_done (by kernel_rfl) ?_ _
                    first
                      | (obtain ⟨W8, hW8, h8⟩ : ∃ W8, ((((((((W7.setCell ⟨g, pre.length * 7, none⟩ (.int .i64 op)).setCell ⟨g, pre.length * 7 + 1, none⟩ (.string nm)).setCell ⟨g, pre.length * 7 + 2, none⟩ (.int .i64 cm)).setCell ⟨g, pre.length * 7 + 3, none⟩ (.int .i64 va)).setCell ⟨g, pre.length * 7 + 4, none⟩ (.int .i64 lo)).setCell ⟨g, pre.length * 7 + 5, none⟩ (.int .i64 hi)).setCell ⟨g, pre.length * 7 + 6, none⟩ (.slice vA vn vc)).setCell ⟨w4.heap.size, 0, none⟩ (.slice (some ⟨g, 0, none⟩) (pre.length + 1) cap)) = W8 ∧ RoundOk n w4.heap.size (w.heap.size + 1) W5 W6 pre.length (pre.flatMap vcs ++ [.int .i64 op, .string nm, .int .i64 cm, .int .i64 va, .int .i64 lo, .int .i64 hi, .slice vA vn vc]) g cap W8 := ⟨_, rfl, HA.out⟩; rw [hW8]; clear hW8)
                      | (obtain ⟨W8, hW8, h8⟩ : ∃ W8, ((((((((W7.setCell ⟨w4.heap.size, 0, none⟩ (.slice (some ⟨g, 0, none⟩) (pre.length + 1) cap)).setCell ⟨g, pre.length * 7, none⟩ (.int .i64 op)).setCell ⟨g, pre.length * 7 + 1, none⟩ (.string nm)).setCell ⟨g, pre.length * 7 + 2, none⟩ (.int .i64 cm)).setCell ⟨g, pre.length * 7 + 3, none⟩ (.int .i64 va)).setCell ⟨g, pre.length * 7 + 4, none⟩ (.int .i64 lo)).setCell ⟨g, pre.length * 7 + 5, none⟩ (.int .i64 hi)).setCell ⟨g, pre.length * 7 + 6, none⟩ (.slice vA vn vc)) = W8 ∧ RoundOk n w4.heap.size (w.heap.size + 1) W5 W6 pre.length (pre.flatMap vcs ++ [.int .i64 op, .string nm, .int .i64 cm, .int .i64 va, .int .i64 lo, .int .i64 hi, .slice vA vn vc]) g cap W8 := ⟨_, rfl, HBB.out⟩; rw [hW8]; clear hW8)
                    have H8 := Lib.hid h8
                    have c8 := h8.box.cell 0
                    have l8 := h8.box.lt
                    have d8 := h8.nbox.cell 0
                    have dl := h8.nbox.lt
                    have HVC := Lib.hid (show (pre ++ [(⟨vb, vo, ⟨op, nm, cm, va, lo, hi⟩, vA, vn, vc, vd⟩ : Vis)]).flatMap vcs = (pre.flatMap vcs ++ [.int .i64 op, .string nm, .int .i64 cm, .int .i64 va, .int .i64 lo, .int .i64 hi, .slice vA vn vc]) by simp [vcs, fcs])
                    have HVL := Lib.hid (show (pre ++ [(⟨vb, vo, ⟨op, nm, cm, va, lo, hi⟩, vA, vn, vc, vd⟩ : Vis)]).length = pre.length + 1 by simp)
                    clear h8 HA HBB HPUT HRN HB7 HGR HFR HGB HROW gc6 gf6 gc7 gf7 gl7 bc bl z0 z1 z2 z3 z4 z5 z6 hfz
                    by_cases hlen : n < (pre.length : Int) + 1
                    · gi_wp2
                      exact ⟨(by first | exact H8.out.kf | (rw [← HZ5.out]; exact H8.out.kf)), rfl, by rw [HVL.out]; omega, H8.out.fr, some ⟨g, 0, none⟩, cap, by rw [HVL.out]; exact H8.out.box, by rw [HVL.out, HVC.out]; exact H8.out.own⟩
                    · have hlen2 : (pre.length : Int) + 1 ≤ n := by omega
                      gi_wp2
                      exact ⟨(by first | exact H8.out.kf | (rw [← HZ5.out]; exact H8.out.kf)), (by first | exact H8.out.kp | (rw [← HZ5.out]; exact H8.out.kp)), by rw [HVL.out]; omega, H8.out.fr, some ⟨g, 0, none⟩, cap, by rw [HVL.out]; exact H8.out.box, by rw [HVL.out, HVC.out]; exact H8.out.own⟩
        · skip
          go_simp
          refine hK _ _ ?_
          clear hK K
          refine wpAnyIn_ready (rs := [1]) (by kernel_rfl) (by simp) ?_
          refine AllReadyIn.cons rfl (fun K hK => ?_) (AllReadyIn.nil)
          · skip
            go_simp
            refine hK _ _ ?_
            clear hK K
            refine wpAnyIn_ready (rs := [4]) (by kernel_rfl) (by simp) ?_
            refine AllReadyIn.cons rfl (fun K hK => ?_) (AllReadyIn.nil)
            · skip
              rw [if_pos (by rfl)]
              refine wpIn_append_run (.tmp 24) (.tmp 27) 26 rfl rfl rfl HRN.out ?_
              refine hK _ _ ?_
              clear hK K
              refine wpAnyIn_ready (rs := [5, 7]) (by kernel_rfl) (by simp) ?_
              refine AllReadyIn.cons rfl (fun K hK => ?_) (AllReadyIn.cons rfl (fun K hK => ?_) (AllReadyIn.nil))
              · skip
                go_simp
                refine hK _ _ ?_
                clear hK K
                refine wpAnyIn_ready (rs := [6, 7]) (by kernel_rfl) (by simp) ?_
                refine AllReadyIn.cons rfl (fun K hK => ?_) (AllReadyIn.cons rfl (fun K hK => ?_) (AllReadyIn.nil))
                · skip
                  go_simp
                  refine hK _ _ ?_
                  clear hK K
                  refine wpAnyIn_ready (rs := [7]) (by kernel_rfl) (by simp) ?_
                  refine AllReadyIn.cons rfl (fun K hK => ?_) (AllReadyIn.nil)
                  · skip
                    go_simp
                    refine hK _ _ ?_
                    clear hK K
                    refine wpAnyIn_done (by kernel_rfl) ?_ _
                    first
                      | (obtain ⟨W8, hW8, h8⟩ : ∃ W8, ((((((((W7.setCell ⟨g, pre.length * 7, none⟩ (.int .i64 op)).setCell ⟨g, pre.length * 7 + 1, none⟩ (.string nm)).setCell ⟨g, pre.length * 7 + 2, none⟩ (.int .i64 cm)).setCell ⟨g, pre.length * 7 + 3, none⟩ (.int .i64 va)).setCell ⟨g, pre.length * 7 + 4, none⟩ (.int .i64 lo)).setCell ⟨g, pre.length * 7 + 5, none⟩ (.int .i64 hi)).setCell ⟨g, pre.length * 7 + 6, none⟩ (.slice vA vn vc)).setCell ⟨w4.heap.size, 0, none⟩ (.slice (some ⟨g, 0, none⟩) (pre.length + 1) cap)) = W8 ∧ RoundOk n w4.heap.size (w.heap.size + 1) W5 W6 pre.length (pre.flatMap vcs ++ [.int .i64 op, .string nm, .int .i64 cm, .int .i64 va, .int .i64 lo, .int .i64 hi, .slice vA vn vc]) g cap W8 := ⟨_, rfl, HA.out⟩; rw [hW8]; clear hW8)
                      | (obtain ⟨W8, hW8, h8⟩ : ∃ W8, ((((((((W7.setCell ⟨w4.heap.size, 0, none⟩ (.slice (some ⟨g, 0, none⟩) (pre.length + 1) cap)).setCell ⟨g, pre.length * 7, none⟩ (.int .i64 op)).setCell ⟨g, pre.length * 7 + 1, none⟩ (.string nm)).setCell ⟨g, pre.length * 7 + 2, none⟩ (.int .i64 cm)).setCell ⟨g, pre.length * 7 + 3, none⟩ (.int .i64 va)).setCell ⟨g, pre.length * 7 + 4, none⟩ (.int .i64 lo)).setCell ⟨g, pre.length * 7 + 5, none⟩ (.int .i64 hi)).setCell ⟨g, pre.length * 7 + 6, none⟩ (.slice vA vn vc)) = W8 ∧ RoundOk n w4.heap.size (w.heap.size + 1) W5 W6 pre.length (pre.flatMap vcs ++ [.int .i64 op, .string nm, .int .i64 cm, .int .i64 va, .int .i64 lo, .int .i64 hi, .slice vA vn vc]) g cap W8 := ⟨_, rfl, HBB.out⟩; rw [hW8]; clear hW8)
                    have H8 := Lib.hid h8
                    have c8 := h8.box.cell 0
                    have l8 := h8.box.lt
                    have d8 := h8.nbox.cell 0
                    have dl := h8.nbox.lt
                    have HVC := Lib.hid (show (pre ++ [(⟨vb, vo, ⟨op, nm, cm, va, lo, hi⟩, vA, vn, vc, vd⟩ : Vis)]).flatMap vcs = (pre.flatMap vcs ++ [.int .i64 op, .string nm, .int .i64 cm, .int .i64 va, .int .i64 lo, .int .i64 hi, .slice vA vn vc]) by simp [vcs, fcs])
                    have HVL := Lib.hid (show (pre ++ [(⟨vb, vo, ⟨op, nm, cm, va, lo, hi⟩, vA, vn, vc, vd⟩ : Vis)]).length = pre.length + 1 by simp)
                    clear h8 HA HBB HPUT HRN HB7 HGR HFR HGB HROW gc6 gf6 gc7 gf7 gl7 bc bl z0 z1 z2 z3 z4 z5 z6 hfz
                    by_cases hlen : n < (pre.length : Int) + 1
                    · gi_wp2
                      exact ⟨(by first | exact H8.out.kf | (rw [← HZ5.out]; exact H8.out.kf)), rfl, by rw [HVL.out]; omega, H8.out.fr, some ⟨g, 0, none⟩, cap, by rw [HVL.out]; exact H8.out.box, by rw [HVL.out, HVC.out]; exact H8.out.own⟩
                    · have hlen2 : (pre.length : Int) + 1 ≤ n := by omega
                      gi_wp2
                      exact ⟨(by first | exact H8.out.kf | (rw [← HZ5.out]; exact H8.out.kf)), (by first | exact H8.out.kp | (rw [← HZ5.out]; exact H8.out.kp)), by rw [HVL.out]; omega, H8.out.fr, some ⟨g, 0, none⟩, cap, by rw [HVL.out]; exact H8.out.box, by rw [HVL.out, HVC.out]; exact H8.out.own⟩
                · skip
                  go_simp
                  refine hK _ _ ?_
                  clear hK K
                  refine wpAnyIn_ready (rs := [6]) (by kernel_rfl) (by simp) ?_
                  refine AllReadyIn.cons rfl (fun K hK => ?_) (AllReadyIn.nil)
                  · skip
                    go_simp
                    refine hK _ _ ?_
                    clear hK K
                    refine wpAnyIn_done (by kernel_rfl) ?_ _
                    first
                      | (obtain ⟨W8, hW8, h8⟩ : ∃ W8, ((((((((W7.setCell ⟨g, pre.length * 7, none⟩ (.int .i64 op)).setCell ⟨g, pre.length * 7 + 1, none⟩ (.string nm)).setCell ⟨g, pre.length * 7 + 2, none⟩ (.int .i64 cm)).setCell ⟨g, pre.length * 7 + 3, none⟩ (.int .i64 va)).setCell ⟨g, pre.length * 7 + 4, none⟩ (.int .i64 lo)).setCell ⟨g, pre.length * 7 + 5, none⟩ (.int .i64 hi)).setCell ⟨g, pre.length * 7 + 6, none⟩ (.slice vA vn vc)).setCell ⟨w4.heap.size, 0, none⟩ (.slice (some ⟨g, 0, none⟩) (pre.length + 1) cap)) = W8 ∧ RoundOk n w4.heap.size (w.heap.size + 1) W5 W6 pre.length (pre.flatMap vcs ++ [.int .i64 op, .string nm, .int .i64 cm, .int .i64 va, .int .i64 lo, .int .i64 hi, .slice vA vn vc]) g cap W8 := ⟨_, rfl, HA.out⟩; rw [hW8]; clear hW8)
                      | (obtain ⟨W8, hW8, h8⟩ : ∃ W8, ((((((((W7.setCell ⟨w4.heap.size, 0, none⟩ (.slice (some ⟨g, 0, none⟩) (pre.length + 1) cap)).setCell ⟨g, pre.length * 7, none⟩ (.int .i64 op)).setCell ⟨g, pre.length * 7 + 1, none⟩ (.string nm)).setCell ⟨g, pre.length * 7 + 2, none⟩ (.int .i64 cm)).setCell ⟨g, pre.length * 7 + 3, none⟩ (.int .i64 va)).setCell ⟨g, pre.length * 7 + 4, none⟩ (.int .i64 lo)).setCell ⟨g, pre.length * 7 + 5, none⟩ (.int .i64 hi)).setCell ⟨g, pre.length * 7 + 6, none⟩ (.slice vA vn vc)) = W8 ∧ RoundOk n w4.heap.size (w.heap.size + 1) W5 W6 pre.length (pre.flatMap vcs ++ [.int .i64 op, .string nm, .int .i64 cm, .int .i64 va, .int .i64 lo, .int .i64 hi, .slice vA vn vc]) g cap W8 := ⟨_, rfl, HBB.out⟩; rw [hW8]; clear hW8)
                    have H8 := Lib.hid h8
                    have c8 := h8.box.cell 0
                    have l8 := h8.box.lt
                    have d8 := h8.nbox.cell 0
                    have dl := h8.nbox.lt
                    have HVC := Lib.hid (show (pre ++ [(⟨vb, vo, ⟨op, nm, cm, va, lo, hi⟩, vA, vn, vc, vd⟩ : Vis)]).flatMap vcs = (pre.flatMap vcs ++ [.int .i64 op, .string nm, .int .i64 cm, .int .i64 va, .int .i64 lo, .int .i64 hi, .slice vA vn vc]) by simp [vcs, fcs])
                    have HVL := Lib.hid (show (pre ++ [(⟨vb, vo, ⟨op, nm, cm, va, lo, hi⟩, vA, vn, vc, vd⟩ : Vis)]).length = pre.length + 1 by simp)
                    clear h8 HA HBB HPUT HRN HB7 HGR HFR HGB HROW gc6 gf6 gc7 gf7 gl7 bc bl z0 z1 z2 z3 z4 z5 z6 hfz
                    by_cases hlen : n < (pre.length : Int) + 1
                    · gi_wp2
                      exact ⟨(by first | exact H8.out.kf | (rw [← HZ5.out]; exact H8.out.kf)), rfl, by rw [HVL.out]; omega, H8.out.fr, some ⟨g, 0, none⟩, cap, by rw [HVL.out]; exact H8.out.box, by rw [HVL.out, HVC.out]; exact H8.out.own⟩
                    · have hlen2 : (pre.length : Int) + 1 ≤ n := by omega
                      gi_wp2
                      exact ⟨(by first | exact H8.out.kf | (rw [← HZ5.out]; exact H8.out.kf)), (by first | exact H8.out.kp | (rw [← HZ5.out]; exact H8.out.kp)), by rw [HVL.out]; omega, H8.out.fr, some ⟨g, 0, none⟩, cap, by rw [HVL.out]; exact H8.out.box, by rw [HVL.out, HVC.out]; exact H8.out.own⟩
              · skip
                go_simp
                refine hK _ _ ?_
                clear hK K
                refine wpAnyIn_ready (rs := [5]) (by kernel_rfl) (by simp) ?_
                refine AllReadyIn.cons rfl (fun K hK => ?_) (AllReadyIn.nil)
                · skip
                  go_simp
                  refine hK _ _ ?_
                  clear hK K
                  refine wpAnyIn_ready (rs := [6]) (by kernel_rfl) (by simp) ?_
                  refine AllReadyIn.cons rfl (fun K hK => ?_) (AllReadyIn.nil)
                  · skip
                    go_simp
                    refine hK _ _ ?_
                    clear hK K
                    refine wpAnyIn_done (by kernel_rfl) ?_ _
                    first
                      | (obtain ⟨W8, hW8, h8⟩ : ∃ W8, ((((((((W7.setCell ⟨g, pre.length * 7, none⟩ (.int .i64 op)).setCell ⟨g, pre.length * 7 + 1, none⟩ (.string nm)).setCell ⟨g, pre.length * 7 + 2, none⟩ (.int .i64 cm)).setCell ⟨g, pre.length * 7 + 3, none⟩ (.int .i64 va)).setCell ⟨g, pre.length * 7 + 4, none⟩ (.int .i64 lo)).setCell ⟨g, pre.length * 7 + 5, none⟩ (.int .i64 hi)).setCell ⟨g, pre.length * 7 + 6, none⟩ (.slice vA vn vc)).setCell ⟨w4.heap.size, 0, none⟩ (.slice (some ⟨g, 0, none⟩) (pre.length + 1) cap)) = W8 ∧ RoundOk n w4.heap.size (w.heap.size + 1) W5 W6 pre.length (pre.flatMap vcs ++ [.int .i64 op, .string nm, .int .i64 cm, .int .i64 va, .int .i64 lo, .int .i64 hi, .slice vA vn vc]) g cap W8 := ⟨_, rfl, HA.out⟩; rw [hW8]; clear hW8)
                      | (obtain ⟨W8, hW8, h8⟩ : ∃ W8, ((((((((W7.setCell ⟨w4.heap.size, 0, none⟩ (.slice (some ⟨g, 0, none⟩) (pre.length + 1) cap)).setCell ⟨g, pre.length * 7, none⟩ (.int .i64 op)).setCell ⟨g, pre.length * 7 + 1, none⟩ (.string nm)).setCell ⟨g, pre.length * 7 + 2, none⟩ (.int .i64 cm)).setCell ⟨g, pre.length * 7 + 3, none⟩ (.int .i64 va)).setCell ⟨g, pre.length * 7 + 4, none⟩ (.int .i64 lo)).setCell ⟨g, pre.length * 7 + 5, none⟩ (.int .i64 hi)).setCell ⟨g, pre.length * 7 + 6, none⟩ (.slice vA vn vc)) = W8 ∧ RoundOk n w4.heap.size (w.heap.size + 1) W5 W6 pre.length (pre.flatMap vcs ++ [.int .i64 op, .string nm, .int .i64 cm, .int .i64 va, .int .i64 lo, .int .i64 hi, .slice vA vn vc]) g cap W8 := ⟨_, rfl, HBB.out⟩; rw [hW8]; clear hW8)
                    have H8 := Lib.hid h8
                    have c8 := h8.box.cell 0
                    have l8 := h8.box.lt
                    have d8 := h8.nbox.cell 0
                    have dl := h8.nbox.lt
                    have HVC := Lib.hid (show (pre ++ [(⟨vb, vo, ⟨op, nm, cm, va, lo, hi⟩, vA, vn, vc, vd⟩ : Vis)]).flatMap vcs = (pre.flatMap vcs ++ [.int .i64 op, .string nm, .int .i64 cm, .int .i64 va, .int .i64 lo, .int .i64 hi, .slice vA vn vc]) by simp [vcs, fcs])
                    have HVL := Lib.hid (show (pre ++ [(⟨vb, vo, ⟨op, nm, cm, va, lo, hi⟩, vA, vn, vc, vd⟩ : Vis)]).length = pre.length + 1 by simp)
                    clear h8 HA HBB HPUT HRN HB7 HGR HFR HGB HROW gc6 gf6 gc7 gf7 gl7 bc bl z0 z1 z2 z3 z4 z5 z6 hfz
                    by_cases hlen : n < (pre.length : Int) + 1
                    · gi_wp2
                      exact ⟨(by first | exact H8.out.kf | (rw [← HZ5.out]; exact H8.out.kf)), rfl, by rw [HVL.out]; omega, H8.out.fr, some ⟨g, 0, none⟩, cap, by rw [HVL.out]; exact H8.out.box, by rw [HVL.out, HVC.out]; exact H8.out.own⟩
                    · have hlen2 : (pre.length : Int) + 1 ≤ n := by omega
                      gi_wp2
                      exact ⟨(by first | exact H8.out.kf | (rw [← HZ5.out]; exact H8.out.kf)), (by first | exact H8.out.kp | (rw [← HZ5.out]; exact H8.out.kp)), by rw [HVL.out]; omega, H8.out.fr, some ⟨g, 0, none⟩, cap, by rw [HVL.out]; exact H8.out.box, by rw [HVL.out, HVC.out]; exact H8.out.own⟩
      · skip
        go_simp
        refine hK _ _ ?_
        clear hK K
        refine wpAnyIn_ready (rs := [0]) (by kernel_rfl) (by simp) ?_
        refine AllReadyIn.cons rfl (fun K hK => ?_) (AllReadyIn.nil)
        · skip
          go_simp
          refine hK _ _ ?_
          clear hK K
          refine wpAnyIn_ready (rs := [2]) (by kernel_rfl) (by simp) ?_
          refine AllReadyIn.cons rfl (fun K hK => ?_) (AllReadyIn.nil)
          · skip
            go_simp
            refine hK _ _ ?_
            clear hK K
            refine wpAnyIn_ready (rs := [4]) (by kernel_rfl) (by simp) ?_
            refine AllReadyIn.cons rfl (fun K hK => ?_) (AllReadyIn.nil)
            · skip
              rw [if_pos (by rfl)]
              refine wpIn_append_run (.tmp 24) (.tmp 27) 26 rfl rfl rfl HRN.out ?_
              refine hK _ _ ?_
              clear hK K
              refine wpAnyIn_ready (rs := [5, 7]) (by kernel_rfl) (by simp) ?_
              refine AllReadyIn.cons rfl (fun K hK => ?_) (AllReadyIn.cons rfl (fun K hK => ?_) (AllReadyIn.nil))
              · skip
                go_simp
                refine hK _ _ ?_
                clear hK K
                refine wpAnyIn_ready (rs := [6, 7]) (by kernel_rfl) (by simp) ?_
                refine AllReadyIn.cons rfl (fun K hK => ?_) (AllReadyIn.cons rfl (fun K hK => ?_) (AllReadyIn.nil))
                · skip
                  go_simp
                  refine hK _ _ ?_
                  clear hK K
                  refine wpAnyIn_ready (rs := [7]) (by kernel_rfl) (by simp) ?_
                  refine AllReadyIn.cons rfl (fun K hK => ?_) (AllReadyIn.nil)
                  · skip
                    go_simp
                    refine hK _ _ ?_
                    clear hK K
                    refine wpAnyIn_done (by kernel_rfl) ?_ _
                    first
                      | (obtain ⟨W8, hW8, h8⟩ : ∃ W8, ((((((((W7.setCell ⟨g, pre.length * 7, none⟩ (.int .i64 op)).setCell ⟨g, pre.length * 7 + 1, none⟩ (.string nm)).setCell ⟨g, pre.length * 7 + 2, none⟩ (.int .i64 cm)).setCell ⟨g, pre.length * 7 + 3, none⟩ (.int .i64 va)).setCell ⟨g, pre.length * 7 + 4, none⟩ (.int .i64 lo)).setCell ⟨g, pre.length * 7 + 5, none⟩ (.int .i64 hi)).setCell ⟨g, pre.length * 7 + 6, none⟩ (.slice vA vn vc)).setCell ⟨w4.heap.size, 0, none⟩ (.slice (some ⟨g, 0, none⟩) (pre.length + 1) cap)) = W8 ∧ RoundOk n w4.heap.size (w.heap.size + 1) W5 W6 pre.length (pre.flatMap vcs ++ [.int .i64 op, .string nm, .int .i64 cm, .int .i64 va, .int .i64 lo, .int .i64 hi, .slice vA vn vc]) g cap W8 := ⟨_, rfl, HA.out⟩; rw [hW8]; clear hW8)
                      | (obtain ⟨W8, hW8, h8⟩ : ∃ W8, ((((((((W7.setCell ⟨w4.heap.size, 0, none⟩ (.slice (some ⟨g, 0, none⟩) (pre.length + 1) cap)).setCell ⟨g, pre.length * 7, none⟩ (.int .i64 op)).setCell ⟨g, pre.length * 7 + 1, none⟩ (.string nm)).setCell ⟨g, pre.length * 7 + 2, none⟩ (.int .i64 cm)).setCell ⟨g, pre.length * 7 + 3, none⟩ (.int .i64 va)).setCell ⟨g, pre.length * 7 + 4, none⟩ (.int .i64 lo)).setCell ⟨g, pre.length * 7 + 5, none⟩ (.int .i64 hi)).setCell ⟨g, pre.length * 7 + 6, none⟩ (.slice vA vn vc)) = W8 ∧ RoundOk n w4.heap.size (w.heap.size + 1) W5 W6 pre.length (pre.flatMap vcs ++ [.int .i64 op, .string nm, .int .i64 cm, .int .i64 va, .int .i64 lo, .int .i64 hi, .slice vA vn vc]) g cap W8 := ⟨_, rfl, HBB.out⟩; rw [hW8]; clear hW8)
                    have H8 := Lib.hid h8
                    have c8 := h8.box.cell 0
                    have l8 := h8.box.lt
                    have d8 := h8.nbox.cell 0
                    have dl := h8.nbox.lt
                    have HVC := Lib.hid (show (pre ++ [(⟨vb, vo, ⟨op, nm, cm, va, lo, hi⟩, vA, vn, vc, vd⟩ : Vis)]).flatMap vcs = (pre.flatMap vcs ++ [.int .i64 op, .string nm, .int .i64 cm, .int .i64 va, .int .i64 lo, .int .i64 hi, .slice vA vn vc]) by simp [vcs, fcs])
                    have HVL := Lib.hid (show (pre ++ [(⟨vb, vo, ⟨op, nm, cm, va, lo, hi⟩, vA, vn, vc, vd⟩ : Vis)]).length = pre.length + 1 by simp)
                    clear h8 HA HBB HPUT HRN HB7 HGR HFR HGB HROW gc6 gf6 gc7 gf7 gl7 bc bl z0 z1 z2 z3 z4 z5 z6 hfz
                    by_cases hlen : n < (pre.length : Int) + 1
                    · gi_wp2
                      exact ⟨(by first | exact H8.out.kf | (rw [← HZ5.out]; exact H8.out.kf)), rfl, by rw [HVL.out]; omega, H8.out.fr, some ⟨g, 0, none⟩, cap, by rw [HVL.out]; exact H8.out.box, by rw [HVL.out, HVC.out]; exact H8.out.own⟩
                    · have hlen2 : (pre.length : Int) + 1 ≤ n := by omega
                      gi_wp2
                      exact ⟨(by first | exact H8.out.kf | (rw [← HZ5.out]; exact H8.out.kf)), (by first | exact H8.out.kp | (rw [← HZ5.out]; exact H8.out.kp)), by rw [HVL.out]; omega, H8.out.fr, some ⟨g, 0, none⟩, cap, by rw [HVL.out]; exact H8.out.box, by rw [HVL.out, HVC.out]; exact H8.out.own⟩
                · skip
                  go_simp
                  refine hK _ _ ?_
                  clear hK K
                  refine wpAnyIn_ready (rs := [6]) (by kernel_rfl) (by simp) ?_
                  refine AllReadyIn.cons rfl (fun K hK => ?_) (AllReadyIn.nil)
                  · skip
                    go_simp
                    refine hK _ _ ?_
                    clear hK K
                    refine wpAnyIn_done (by kernel_rfl) ?_ _
                    first
                      | (obtain ⟨W8, hW8, h8⟩ : ∃ W8, ((((((((W7.setCell ⟨g, pre.length * 7, none⟩ (.int .i64 op)).setCell ⟨g, pre.length * 7 + 1, none⟩ (.string nm)).setCell ⟨g, pre.length * 7 + 2, none⟩ (.int .i64 cm)).setCell ⟨g, pre.length * 7 + 3, none⟩ (.int .i64 va)).setCell ⟨g, pre.length * 7 + 4, none⟩ (.int .i64 lo)).setCell ⟨g, pre.length * 7 + 5, none⟩ (.int .i64 hi)).setCell ⟨g, pre.length * 7 + 6, none⟩ (.slice vA vn vc)).setCell ⟨w4.heap.size, 0, none⟩ (.slice (some ⟨g, 0, none⟩) (pre.length + 1) cap)) = W8 ∧ RoundOk n w4.heap.size (w.heap.size + 1) W5 W6 pre.length (pre.flatMap vcs ++ [.int .i64 op, .string nm, .int .i64 cm, .int .i64 va, .int .i64 lo, .int .i64 hi, .slice vA vn vc]) g cap W8 := ⟨_, rfl, HA.out⟩; rw [hW8]; clear hW8)
                      | (obtain ⟨W8, hW8, h8⟩ : ∃ W8, ((((((((W7.setCell ⟨w4.heap.size, 0, none⟩ (.slice (some ⟨g, 0, none⟩) (pre.length + 1) cap)).setCell ⟨g, pre.length * 7, none⟩ (.int .i64 op)).setCell ⟨g, pre.length * 7 + 1, none⟩ (.string nm)).setCell ⟨g, pre.length * 7 + 2, none⟩ (.int .i64 cm)).setCell ⟨g, pre.length * 7 + 3, none⟩ (.int .i64 va)).setCell ⟨g, pre.length * 7 + 4, none⟩ (.int .i64 lo)).setCell ⟨g, pre.length * 7 + 5, none⟩ (.int .i64 hi)).setCell ⟨g, pre.length * 7 + 6, none⟩ (.slice vA vn vc)) = W8 ∧ RoundOk n w4.heap.size (w.heap.size + 1) W5 W6 pre.length (pre.flatMap vcs ++ [.int .i64 op, .string nm, .int .i64 cm, .int .i64 va, .int .i64 lo, .int .i64 hi, .slice vA vn vc]) g cap W8 := ⟨_, rfl, HBB.out⟩; rw [hW8]; clear hW8)
                    have H8 := Lib.hid h8
                    have c8 := h8.box.cell 0
                    have l8 := h8.box.lt
                    have d8 := h8.nbox.cell 0
                    have dl := h8.nbox.lt
                    have HVC := Lib.hid (show (pre ++ [(⟨vb, vo, ⟨op, nm, cm, va, lo, hi⟩, vA, vn, vc, vd⟩ : Vis)]).flatMap vcs = (pre.flatMap vcs ++ [.int .i64 op, .string nm, .int .i64 cm, .int .i64 va, .int .i64 lo, .int .i64 hi, .slice vA vn vc]) by simp [vcs, fcs])
                    have HVL := Lib.hid (show (pre ++ [(⟨vb, vo, ⟨op, nm, cm, va, lo, hi⟩, vA, vn, vc, vd⟩ : Vis)]).length = pre.length + 1 by simp)
                    clear h8 HA HBB HPUT HRN HB7 HGR HFR HGB HROW gc6 gf6 gc7 gf7 gl7 bc bl z0 z1 z2 z3 z4 z5 z6 hfz
                    by_cases hlen : n < (pre.length : Int) + 1
                    · gi_wp2
                      exact ⟨(by first | exact H8.out.kf | (rw [← HZ5.out]; exact H8.out.kf)), rfl, by rw [HVL.out]; omega, H8.out.fr, some ⟨g, 0, none⟩, cap, by rw [HVL.out]; exact H8.out.box, by rw [HVL.out, HVC.out]; exact H8.out.own⟩
                    · have hlen2 : (pre.length : Int) + 1 ≤ n := by omega
                      gi_wp2
                      exact ⟨(by first | exact H8.out.kf | (rw [← HZ5.out]; exact H8.out.kf)), (by first | exact H8.out.kp | (rw [← HZ5.out]; exact H8.out.kp)), by rw [HVL.out]; omega, H8.out.fr, some ⟨g, 0, none⟩, cap, by rw [HVL.out]; exact H8.out.box, by rw [HVL.out, HVC.out]; exact H8.out.own⟩
              · skip
                go_simp
                refine hK _ _ ?_
                clear hK K
                refine wpAnyIn_ready (rs := [5]) (by kernel_rfl) (by simp) ?_
                refine AllReadyIn.cons rfl (fun K hK => ?_) (AllReadyIn.nil)
                · skip
                  go_simp
                  refine hK _ _ ?_
                  clear hK K
                  refine wpAnyIn_ready (rs := [6]) (by kernel_rfl) (by simp) ?_
                  refine AllReadyIn.cons rfl (fun K hK => ?_) (AllReadyIn.nil)
                  · skip
                    go_simp
                    refine hK _ _ ?_
                    clear hK K
                    refine wpAnyIn_done (by kernel_rfl) ?_ _
                    first
                      | (obtain ⟨W8, hW8, h8⟩ : ∃ W8, ((((((((W7.setCell ⟨g, pre.length * 7, none⟩ (.int .i64 op)).setCell ⟨g, pre.length * 7 + 1, none⟩ (.string nm)).setCell ⟨g, pre.length * 7 + 2, none⟩ (.int .i64 cm)).setCell ⟨g, pre.length * 7 + 3, none⟩ (.int .i64 va)).setCell ⟨g, pre.length * 7 + 4, none⟩ (.int .i64 lo)).setCell ⟨g, pre.length * 7 + 5, none⟩ (.int .i64 hi)).setCell ⟨g, pre.length * 7 + 6, none⟩ (.slice vA vn vc)).setCell ⟨w4.heap.size, 0, none⟩ (.slice (some ⟨g, 0, none⟩) (pre.length + 1) cap)) = W8 ∧ RoundOk n w4.heap.size (w.heap.size + 1) W5 W6 pre.length (pre.flatMap vcs ++ [.int .i64 op, .string nm, .int .i64 cm, .int .i64 va, .int .i64 lo, .int .i64 hi, .slice vA vn vc]) g cap W8 := ⟨_, rfl, HA.out⟩; rw [hW8]; clear hW8)
                      | (obtain ⟨W8, hW8, h8⟩ : ∃ W8, ((((((((W7.setCell ⟨w4.heap.size, 0, none⟩ (.slice (some ⟨g, 0, none⟩) (pre.length + 1) cap)).setCell ⟨g, pre.length * 7, none⟩ (.int .i64 op)).setCell ⟨g, pre.length * 7 + 1, none⟩ (.string nm)).setCell ⟨g, pre.length * 7 + 2, none⟩ (.int .i64 cm)).setCell ⟨g, pre.length * 7 + 3, none⟩ (.int .i64 va)).setCell ⟨g, pre.length * 7 + 4, none⟩ (.int .i64 lo)).setCell ⟨g, pre.length * 7 + 5, none⟩ (.int .i64 hi)).setCell ⟨g, pre.length * 7 + 6, none⟩ (.slice vA vn vc)) = W8 ∧ RoundOk n w4.heap.size (w.heap.size + 1) W5 W6 pre.length (pre.flatMap vcs ++ [.int .i64 op, .string nm, .int .i64 cm, .int .i64 va, .int .i64 lo, .int .i64 hi, .slice vA vn vc]) g cap W8 := ⟨_, rfl, HBB.out⟩; rw [hW8]; clear hW8)
                    have H8 := Lib.hid h8
                    have c8 := h8.box.cell 0
                    have l8 := h8.box.lt
                    have d8 := h8.nbox.cell 0
                    have dl := h8.nbox.lt
                    have HVC := Lib.hid (show (pre ++ [(⟨vb, vo, ⟨op, nm, cm, va, lo, hi⟩, vA, vn, vc, vd⟩ : Vis)]).flatMap vcs = (pre.flatMap vcs ++ [.int .i64 op, .string nm, .int .i64 cm, .int .i64 va, .int .i64 lo, .int .i64 hi, .slice vA vn vc]) by simp [vcs, fcs])
                    have HVL := Lib.hid (show (pre ++ [(⟨vb, vo, ⟨op, nm, cm, va, lo, hi⟩, vA, vn, vc, vd⟩ : Vis)]).length = pre.length + 1 by simp)
                    clear h8 HA HBB HPUT HRN HB7 HGR HFR HGB HROW gc6 gf6 gc7 gf7 gl7 bc bl z0 z1 z2 z3 z4 z5 z6 hfz
                    by_cases hlen : n < (pre.length : Int) + 1
                    · gi_wp2
                      exact ⟨(by first | exact H8.out.kf | (rw [← HZ5.out]; exact H8.out.kf)), rfl, by rw [HVL.out]; omega, H8.out.fr, some ⟨g, 0, none⟩, cap, by rw [HVL.out]; exact H8.out.box, by rw [HVL.out, HVC.out]; exact H8.out.own⟩
                    · have hlen2 : (pre.length : Int) + 1 ≤ n := by omega
                      gi_wp2
                      exact ⟨(by first | exact H8.out.kf | (rw [← HZ5.out]; exact H8.out.kf)), (by first | exact H8.out.kp | (rw [← HZ5.out]; exact H8.out.kp)), by rw [HVL.out]; omega, H8.out.fr, some ⟨g, 0, none⟩, cap, by rw [HVL.out]; exact H8.out.box, by rw [HVL.out, HVC.out]; exact H8.out.own⟩
  case done =>
    rintro D W hD ⟨hpn, hfr, A', c', hgb, hown⟩ hK
    have hpre := List.prefix_refl ((Fo.cons x A c ks .nil).vis (w4.heap.size + 1) 0 1)
    have hvl : ((Fo.cons x A c ks .nil).vis (w4.heap.size + 1) 0 1).length = ks.tr.size + 1 := by rw [Fo.vis_len]; simp [Fo.tr, Tr.size]
    have hmn : min ((ks.tr.size : Int) + 1) (n + 1) = (((Fo.cons x A c ks .nil).vis (w4.heap.size + 1) 0 1).length : Int) := by rw [hvl] at hpn ⊢; omega
    have hp61 : ((Fo.cons x A c ks .nil).vis (w4.heap.size + 1) 0 1).length ≤ 61 := by omega
    clear hvl
    obtain ⟨pre, hpe⟩ : ∃ pre, pre = (Fo.cons x A c ks .nil).vis (w4.heap.size + 1) 0 1 := ⟨_, rfl⟩
    rw [← hpe] at hpn hgb hown hmn hp61
    have hpre : pre <+: (Fo.cons x A c ks .nil).vis (w4.heap.size + 1) 0 1 := by rw [hpe]; exact hpre
    clear hpe
    have hjl : js.tr.size = ks.tr.size := by rw [HTR.out]
    have gc := hgb.cell 0
    have gl := hgb.lt
    have hN6 : Blk W (w.heap.size + 1) 5 #[.int .u8 n] := (HN4.out.fr HF6.out (fun e => e)).fr hfr (fun e => by have : w.heap.size + 1 = w4.heap.size := e; omega)
    have nc := hN6.cell 0
    have nl := hN6.lt
    have HGT := Lib.hid (Sl.of_own hown)
    have HKD := Lib.hid hK
    have HPR := Lib.hid hpre
    have HSW := Lib.hid (HT5.out.keep (fun k hk hlt => hfr.block k hlt (fun e => by have : k = w4.heap.size := e; omega)))
    have HJW := Lib.hid ((HJS.out.fr HF6.out).keep (fun k hk hlt => hfr.block k hlt (fun e => by have : k = w4.heap.size := e; omega)))
    have HRW := Lib.hid (HRS.out.keep (fun b off e _ hlt => (hfr.block b (Nat.lt_of_lt_of_le hlt HF6.out.size) (fun e => by have : b = w4.heap.size := e; omega)).trans (HF6.out.block b hlt (fun e => e))))
    have HFN := Lib.hid ((HF5.out.call HF6.out (fun _ h _ => h)).call hfr (fun k e hlt => absurd hlt (by have : k = w4.heap.size := e; omega)))
    have hD2 : w.heap.size ≤ D := by omega
    obtain ⟨m, hm⟩ : ∃ m, js.tr.size + 1 = m := ⟨_, rfl⟩
    have hmn2 : min (m : Int) (n + 1) = (pre.length : Int) := by omega
    have hpm : pre.length ≤ m := by omega
    rw [hm] at HRW ⊢
    have HM := Lib.hid hm
    clear hjl hmn hm
    clear hown hpre hK hfr hgb HT5 HJS HRS HE HZ5 HR5 HG5 HX4 HN4 HF5 HF6
    gi_wp2
    refine wpIn_wide.2 ?_
    go_loopw [10] (fun iv wr => ∃ i : Nat, i ≤ pre.length ∧ iv = .int .i64 i ∧ Hid (Fr Nob W wr)) (fun iv _ => pre.length - (RowKit.intOf iv).toNat)
    case atStart => exact ⟨0, Nat.zero_le _, rfl, Lib.hid (Fr.refl _ _)⟩
    case round =>
      obtain ⟨i, hi, rfl, hfw⟩ := hrel
      have gcr := hfw.out.cell gc (fun e => e)
      have glr := Nat.lt_of_lt_of_le gl hfw.out.size
      by_cases hlt : i < pre.length
      · have hI : (i : Int) < pre.length := by omega
        have hI3 : 0 ≤ (i : Int) := by omega
        have hI4 : (i : Int) < m := by omega
        obtain ⟨y, z, b, off, b2, off2, hN⟩ := nodes_at HPR.out (HGT.out.pure hfw.out) (HSW.out.fr hfw.out) HM.out.symm (HRW.out.pure hfw.out) (HJW.out.fr hfw.out) HTR.out hlt
        have HN := Lib.hid hN
        obtain rfl := hN.a1
        obtain rfl := hN.a2
        have hb1 := hN.l1
        have hb2 := hN.l2
        obtain ⟨d0, d1, d2, d3, d4, d5, d6⟩ := hN.n1
        obtain ⟨r0, r1, r2, r3, r4, r5, r6⟩ := hN.n2
        clear hN
        obtain ⟨⟨yo, yn, ym, yv, yl, yh⟩, yA, yc, yk⟩ := y
        obtain ⟨zx, zA, zc, zk⟩ := z
        obtain rfl : zx = ⟨yo, yn, ym, yv, yl, yh⟩ := HN.out.x
        have HPL := Lib.hid (fun X (hf : Fr Nob wr X) => law_plain' X ⟨yo, yn, ym, yv, yl, yh⟩ yA yc yk (by have := HN.out.size; dsimp only at this; omega) ((HN.out.s1.fr hf).mono (by have := hfw.out.size; have := hf.size; omega)))
        have HSM := Lib.hid (fun X Y (A2 : Option Addr) (c2 : Nat) (ks2 : Fo) (hcp : Cp X Y ⟨yo, yn, ym, yv, yl, yh⟩ yk A2 c2 ks2) (hfX : Fr Nob wr X) (hlX : w4.heap.size ≤ X.heap.size) Z (hf : Fr Nob Y Z) =>
          (show Calls Tryd.prog 14 #[fval ⟨yo, yn, ym, yv, yl, yh⟩ A2 ks2.len c2, fval ⟨yo, yn, ym, yv, yl, yh⟩ zA zk.len zc] Z fun e w' => e = .returned (.bool true) ∧ Fr Nob Z w' by
            have h1 := ref_Same ks2.tr.size Z.heap.size Z ⟨yo, yn, ym, yv, yl, yh⟩ ⟨yo, yn, ym, yv, yl, yh⟩ A2 zA c2 zc ks2 zk (Nat.le_refl _) (by rw [hcp.tr]; have := HN.out.size; dsimp only at this; omega) ((hcp.sl.fr hf).mono hf.size) ((((HN.out.s2.fr hfX).fr hcp.fr).fr hf).mono (by have := hcp.fr.size; have := hf.size; omega))
            rwa [(same1_iff _ _ _ _).2 ⟨rfl, hcp.tr.trans HN.out.tr.symm⟩] at h1))
        unfold fval at HPL HSM
        have hlw : w4.heap.size ≤ wr.heap.size := Nat.le_of_lt glr
        dsimp only at *
        go_upto_region 18 with fail
        go_region_held3 (fun w' => (w'.cell? ⟨w4.heap.size, 0, none⟩ = some (.slice (some ⟨b, off, none⟩) pre.length c')) ∧ (w'.cell? ⟨b, off + i * 7, none⟩ = some (.int .i64 yo) ∧ w'.cell? ⟨b, off + i * 7 + 1, none⟩ = some (.string yn) ∧ w'.cell? ⟨b, off + i * 7 + 2, none⟩ = some (.int .i64 ym) ∧ w'.cell? ⟨b, off + i * 7 + 3, none⟩ = some (.int .i64 yv) ∧ w'.cell? ⟨b, off + i * 7 + 4, none⟩ = some (.int .i64 yl) ∧ w'.cell? ⟨b, off + i * 7 + 5, none⟩ = some (.int .i64 yh) ∧ w'.cell? ⟨b, off + i * 7 + 6, none⟩ = some (.slice yA yk.len yc)) ∧ (w'.cell? ⟨b2, off2 + i * 7, none⟩ = some (.int .i64 yo) ∧ w'.cell? ⟨b2, off2 + i * 7 + 1, none⟩ = some (.string yn) ∧ w'.cell? ⟨b2, off2 + i * 7 + 2, none⟩ = some (.int .i64 ym) ∧ w'.cell? ⟨b2, off2 + i * 7 + 3, none⟩ = some (.int .i64 yv) ∧ w'.cell? ⟨b2, off2 + i * 7 + 4, none⟩ = some (.int .i64 yl) ∧ w'.cell? ⟨b2, off2 + i * 7 + 5, none⟩ = some (.int .i64 yh) ∧ w'.cell? ⟨b2, off2 + i * 7 + 6, none⟩ = some (.slice zA zk.len zc)))
          (first | with_reducible exact cells15 hf2 (by assumption) | go_keep)
          (first
            | ((go_at_call 12); (with_reducible refine (HPL.out _ ((Fr.refl _ _).drew)).mono ?_); rintro e w2 ⟨A2, c2, ks2, rfl, hcp⟩; have hf2 := hcp.fr; have HS2 := Lib.hid (HSM.out _ _ _ _ _ hcp ((Fr.refl _ _).drew) hlw); have HF2 := Lib.hid (((Fr.refl Nob wr).drew).call hf2 (fun _ h _ => h)))
            | ((go_at_call 14); (with_reducible refine (HS2.out _ (Fr.refl _ _)).mono ?_); rintro e w6 ⟨rfl, hf2⟩; replace HF2 := Lib.hid (HF2.out.call hf2 (fun _ h _ => h))))
        go_wp2_with fail
        go_roundw
        case rel => exact ⟨i + 1, by omega, by go_num, Lib.hid (hfw.out.call HF2.out (fun _ h _ => h))⟩
        case measure => simp [RowKit.intOf]; omega
      · obtain rfl : i = pre.length := by omega
        have hII : ¬ (pre.length : Int) < pre.length := by omega
        have HKR := Lib.hid (show wr.heap[D]? = some (.deferred (some [])) from (hfw.out.block D (Array.getElem?_eq_some_iff.1 HKD.out).1 (fun e => e)).trans HKD.out)
        have HFE := Lib.hid (HFN.out.call hfw.out (fun _ h _ => h))
        clear hfw
        go_wp2_with fail
        gi_wp2
        refine ⟨by simp, .inl ⟨_, _, rfl, run_takeDeferred HKR.out, ?_⟩⟩
        exact ⟨_, results_tmp rfl _ _ _, rfl, HFE.out.grown (grownBy_putObj' wr D (.deferred none)) (fun r e hlt => absurd hlt (by cases e; omega))⟩
  case stop =>
    rintro D cc pre W hD hpre ⟨rfl, hpn, hfr, A', c', hgb, hown⟩ hK
    have hvl : ((Fo.cons x A c ks .nil).vis (w4.heap.size + 1) 0 1).length = ks.tr.size + 1 := by rw [Fo.vis_len]; simp [Fo.tr, Tr.size]
    have hple := hpre.length_le
    rw [hvl] at hple
    have hmn : min ((ks.tr.size : Int) + 1) (n + 1) = (pre.length : Int) := by omega
    have hp61 : pre.length ≤ 61 := by omega
    clear hvl hple
    have hjl : js.tr.size = ks.tr.size := by rw [HTR.out]
    have gc := hgb.cell 0
    have gl := hgb.lt
    have hN6 : Blk W (w.heap.size + 1) 5 #[.int .u8 n] := (HN4.out.fr HF6.out (fun e => e)).fr hfr (fun e => by have : w.heap.size + 1 = w4.heap.size := e; omega)
    have nc := hN6.cell 0
    have nl := hN6.lt
    have HGT := Lib.hid (Sl.of_own hown)
    have HKD := Lib.hid hK
    have HPR := Lib.hid hpre
    have HSW := Lib.hid (HT5.out.keep (fun k hk hlt => hfr.block k hlt (fun e => by have : k = w4.heap.size := e; omega)))
    have HJW := Lib.hid ((HJS.out.fr HF6.out).keep (fun k hk hlt => hfr.block k hlt (fun e => by have : k = w4.heap.size := e; omega)))
    have HRW := Lib.hid (HRS.out.keep (fun b off e _ hlt => (hfr.block b (Nat.lt_of_lt_of_le hlt HF6.out.size) (fun e => by have : b = w4.heap.size := e; omega)).trans (HF6.out.block b hlt (fun e => e))))
    have HFN := Lib.hid ((HF5.out.call HF6.out (fun _ h _ => h)).call hfr (fun k e hlt => absurd hlt (by have : k = w4.heap.size := e; omega)))
    have hD2 : w.heap.size ≤ D := by omega
    obtain ⟨m, hm⟩ : ∃ m, js.tr.size + 1 = m := ⟨_, rfl⟩
    have hmn2 : min (m : Int) (n + 1) = (pre.length : Int) := by omega
    have hpm : pre.length ≤ m := by omega
    rw [hm] at HRW ⊢
    have HM := Lib.hid hm
    clear hjl hmn hm
    clear hown hpre hK hfr hgb HT5 HJS HRS HE HZ5 HR5 HG5 HX4 HN4 HF5 HF6
    gi_wp2
    refine wpIn_wide.2 ?_
    go_loopw [10] (fun iv wr => ∃ i : Nat, i ≤ pre.length ∧ iv = .int .i64 i ∧ Hid (Fr Nob W wr)) (fun iv _ => pre.length - (RowKit.intOf iv).toNat)
    case atStart => exact ⟨0, Nat.zero_le _, rfl, Lib.hid (Fr.refl _ _)⟩
    case round =>
      obtain ⟨i, hi, rfl, hfw⟩ := hrel
      have gcr := hfw.out.cell gc (fun e => e)
      have glr := Nat.lt_of_lt_of_le gl hfw.out.size
      by_cases hlt : i < pre.length
      · have hI : (i : Int) < pre.length := by omega
        have hI3 : 0 ≤ (i : Int) := by omega
        have hI4 : (i : Int) < m := by omega
        obtain ⟨y, z, b, off, b2, off2, hN⟩ := nodes_at HPR.out (HGT.out.pure hfw.out) (HSW.out.fr hfw.out) HM.out.symm (HRW.out.pure hfw.out) (HJW.out.fr hfw.out) HTR.out hlt
        have HN := Lib.hid hN
        obtain rfl := hN.a1
        obtain rfl := hN.a2
        have hb1 := hN.l1
        have hb2 := hN.l2
        obtain ⟨d0, d1, d2, d3, d4, d5, d6⟩ := hN.n1
        obtain ⟨r0, r1, r2, r3, r4, r5, r6⟩ := hN.n2
        clear hN
        obtain ⟨⟨yo, yn, ym, yv, yl, yh⟩, yA, yc, yk⟩ := y
        obtain ⟨zx, zA, zc, zk⟩ := z
        obtain rfl : zx = ⟨yo, yn, ym, yv, yl, yh⟩ := HN.out.x
        have HPL := Lib.hid (fun X (hf : Fr Nob wr X) => law_plain' X ⟨yo, yn, ym, yv, yl, yh⟩ yA yc yk (by have := HN.out.size; dsimp only at this; omega) ((HN.out.s1.fr hf).mono (by have := hfw.out.size; have := hf.size; omega)))
        have HSM := Lib.hid (fun X Y (A2 : Option Addr) (c2 : Nat) (ks2 : Fo) (hcp : Cp X Y ⟨yo, yn, ym, yv, yl, yh⟩ yk A2 c2 ks2) (hfX : Fr Nob wr X) (hlX : w4.heap.size ≤ X.heap.size) Z (hf : Fr Nob Y Z) =>
          (show Calls Tryd.prog 14 #[fval ⟨yo, yn, ym, yv, yl, yh⟩ A2 ks2.len c2, fval ⟨yo, yn, ym, yv, yl, yh⟩ zA zk.len zc] Z fun e w' => e = .returned (.bool true) ∧ Fr Nob Z w' by
            have h1 := ref_Same ks2.tr.size Z.heap.size Z ⟨yo, yn, ym, yv, yl, yh⟩ ⟨yo, yn, ym, yv, yl, yh⟩ A2 zA c2 zc ks2 zk (Nat.le_refl _) (by rw [hcp.tr]; have := HN.out.size; dsimp only at this; omega) ((hcp.sl.fr hf).mono hf.size) ((((HN.out.s2.fr hfX).fr hcp.fr).fr hf).mono (by have := hcp.fr.size; have := hf.size; omega))
            rwa [(same1_iff _ _ _ _).2 ⟨rfl, hcp.tr.trans HN.out.tr.symm⟩] at h1))
        unfold fval at HPL HSM
        have hlw : w4.heap.size ≤ wr.heap.size := Nat.le_of_lt glr
        dsimp only at *
        go_upto_region 18 with fail
        go_region_held3 (fun w' => (w'.cell? ⟨w4.heap.size, 0, none⟩ = some (.slice (some ⟨b, off, none⟩) pre.length c')) ∧ (w'.cell? ⟨b, off + i * 7, none⟩ = some (.int .i64 yo) ∧ w'.cell? ⟨b, off + i * 7 + 1, none⟩ = some (.string yn) ∧ w'.cell? ⟨b, off + i * 7 + 2, none⟩ = some (.int .i64 ym) ∧ w'.cell? ⟨b, off + i * 7 + 3, none⟩ = some (.int .i64 yv) ∧ w'.cell? ⟨b, off + i * 7 + 4, none⟩ = some (.int .i64 yl) ∧ w'.cell? ⟨b, off + i * 7 + 5, none⟩ = some (.int .i64 yh) ∧ w'.cell? ⟨b, off + i * 7 + 6, none⟩ = some (.slice yA yk.len yc)) ∧ (w'.cell? ⟨b2, off2 + i * 7, none⟩ = some (.int .i64 yo) ∧ w'.cell? ⟨b2, off2 + i * 7 + 1, none⟩ = some (.string yn) ∧ w'.cell? ⟨b2, off2 + i * 7 + 2, none⟩ = some (.int .i64 ym) ∧ w'.cell? ⟨b2, off2 + i * 7 + 3, none⟩ = some (.int .i64 yv) ∧ w'.cell? ⟨b2, off2 + i * 7 + 4, none⟩ = some (.int .i64 yl) ∧ w'.cell? ⟨b2, off2 + i * 7 + 5, none⟩ = some (.int .i64 yh) ∧ w'.cell? ⟨b2, off2 + i * 7 + 6, none⟩ = some (.slice zA zk.len zc)))
          (first | with_reducible exact cells15 hf2 (by assumption) | go_keep)
          (first
            | ((go_at_call 12); (with_reducible refine (HPL.out _ ((Fr.refl _ _).drew)).mono ?_); rintro e w2 ⟨A2, c2, ks2, rfl, hcp⟩; have hf2 := hcp.fr; have HS2 := Lib.hid (HSM.out _ _ _ _ _ hcp ((Fr.refl _ _).drew) hlw); have HF2 := Lib.hid (((Fr.refl Nob wr).drew).call hf2 (fun _ h _ => h)))
            | ((go_at_call 14); (with_reducible refine (HS2.out _ (Fr.refl _ _)).mono ?_); rintro e w6 ⟨rfl, hf2⟩; replace HF2 := Lib.hid (HF2.out.call hf2 (fun _ h _ => h))))
        go_wp2_with fail
        go_roundw
        case rel => exact ⟨i + 1, by omega, by go_num, Lib.hid (hfw.out.call HF2.out (fun _ h _ => h))⟩
        case measure => simp [RowKit.intOf]; omega
      · obtain rfl : i = pre.length := by omega
        have hII : ¬ (pre.length : Int) < pre.length := by omega
        have HKR := Lib.hid (show wr.heap[D]? = some (.deferred (some [])) from (hfw.out.block D (Array.getElem?_eq_some_iff.1 HKD.out).1 (fun e => e)).trans HKD.out)
        have HFE := Lib.hid (HFN.out.call hfw.out (fun _ h _ => h))
        clear hfw
        go_wp2_with fail
        gi_wp2
        refine ⟨by simp, .inl ⟨_, _, rfl, run_takeDeferred HKR.out, ?_⟩⟩
        exact ⟨_, results_tmp rfl _ _ _, rfl, HFE.out.grown (grownBy_putObj' wr D (.deferred none)) (fun r e hlt => absurd hlt (by cases e; omega))⟩
end Go.Proofs.YtoegdmpmagbaiaaDoor
