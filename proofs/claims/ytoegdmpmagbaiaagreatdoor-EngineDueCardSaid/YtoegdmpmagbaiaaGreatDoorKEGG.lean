/- plan.step: a part of a formula, by its node and its kids' places. -/
import Derived.Test.YtoegdmpmagbaiaaGreatDoorKK
import Derived.Test.YtoegdmpmagbaiaaGreatDoorKS
import Derived.Test.YtoegdmpmagbaiaaGreatDoorKA
import Derived.Deep.RegionHeld3
import Derived.MapKept
import Derived.Test.YtoegdmpmagbaiaaGreatDoorQH16
import Derived.Test.YtoegdmpmagbaiaaGreatDoorQW6
import Derived.Deep.CutBlock
import Derived.Deep.LoopGhost
namespace Go.Proofs.YtoegdmpmagbaiaaGreatDoor
open Go.RowKit Go.Lib

theorem infoSt : (Tryz.prog.info? 129).map (·.size) = some 8 := by kernel_rfl
theorem undSt : ∃ d, (Tryz.prog.underlying 129 = some d) ∧ d.isRow = true := ⟨_, Tryz.underlying129, rfl⟩
/-- A part, as a value. -/
def stV (o : Int) (nm : ByteArray) (ao av lo hi a b : Int) : Array Value := #[.int .i64 o, .string nm, .int .i64 ao, .int .i64 av, .int .i64 lo, .int .i64 hi, .int .i64 a, .int .i64 b]
def StR (w : World) (e : Ending) (w' : World) : Prop := ∃ o nm ao av lo hi a b, e = .returned (.agg (stV o nm ao av lo hi a b)) ∧ Fr Nob w w'
theorem wpList_ldBoxG {P : Program} {ops : Array Oper} {rest : List Oper} {o : Oper} {a : Act} {w : World} {Q : Exit → Act → World → Prop} (hgd : o.guard = none) {ty : TypeId} {x : Operand} (ho : o.op = .load ty x) {g t : Nat} {arr : Array Value} (hx : a.eval x = .pointer (some ⟨g, 0, none⟩))
    (hu : ∃ d, (P.underlying ty = some d) ∧ d.isRow = true) (hi : (P.info? ty).map (·.size) = some arr.size) (hB : Blk w g t arr)
    (h : wpList P ops Q rest (a.put o.dst (.agg arr)) w) : wpList P ops Q (o :: rest) a w := by
  obtain ⟨d, h1, h2⟩ := hu
  exact wpList_load_row hgd ty x ho g hx t arr (0, 0) d hB h1 (by cases d <;> simp_all) hi h
theorem ret_boxG {P : Program} {w : World} {fn : Func} {p : Tmp} {ty : TypeId} (h : fn.results = #[.cell p ty]) {tmps : Array Value} {g t : Nat} {arr : Array Value} (hp : tmps.getD p undef = .pointer (some ⟨g, 0, none⟩))
    (hu : ∃ d, (P.underlying ty = some d) ∧ d.isRow = true) (hi : (P.info? ty).map (·.size) = some arr.size) (hB : Blk w g t arr) :
    (results fn tmps).run P w = .ok (.agg arr) w := by
  obtain ⟨d, h1, h2⟩ := hu
  exact results_cell_row h tmps w g t arr (0, 0) d hp hB h1 (by cases d <;> simp_all) hi
set_option maxRecDepth 100000 in
set_option maxHeartbeats 4000000 in
theorem pl_step (w : World) (b off : Nat) (x : Nd) (A : Option Addr) (n c : Nat) (hn : NdAt w b off x A n c) (hb : b < w.heap.size) (KA : Option Addr) (kn kc : Nat) (ls : List Int) (hk : Sl w 1 KA kn kc (ls.map ivI)) (hl : ls.length = kn) :
    Calls Tryz.prog 66 #[.pointer (some ⟨b, off, none⟩), .slice KA kn kc] w (StR w) := by
  subst hl
  obtain ⟨d0, d1, d2, d3, d4, d5, d6⟩ := hn
  have HK := Lib.hid hk
  have hmx := hk.max
  have hle := hk.le
  unfold maxLen at hmx
  unfold StR
  clear hk
  obtain ⟨op, nm, cm, va, lo, hi⟩ := x
  dsimp only at d0 d1 d2 d3 d4 d5
  go_enter Tryz.func66, Tryz.ntmps66
  go_upto_region 1 with fail
  have HR0 := Lib.hid (show Blk (w.alloc (.cells #[.int .i64 0, .string ⟨#[]⟩, .int .i64 0, .int .i64 0, .int .i64 0, .int .i64 0, .int .i64 0, .int .i64 0] 129)) w.heap.size 129 _ from Blk.new _ _ _)
  obtain ⟨W0, hW0⟩ : ∃ W0, W0 = w.alloc (.cells #[.int .i64 0, .string ⟨#[]⟩, .int .i64 0, .int .i64 0, .int .i64 0, .int .i64 0, .int .i64 0, .int .i64 0] 129) := ⟨_, rfl⟩
  rw [← hW0] at HR0 ⊢
  have HF0 := Lib.hid (show Fr Nob w W0 by rw [hW0]; exact (Fr.refl _ _).alloc _)
  clear hW0
  replace d0 := HF0.out.cell d0 (fun e => e)
  replace d1 := HF0.out.cell d1 (fun e => e)
  replace d2 := HF0.out.cell d2 (fun e => e)
  replace d3 := HF0.out.cell d3 (fun e => e)
  replace d4 := HF0.out.cell d4 (fun e => e)
  replace d5 := HF0.out.cell d5 (fun e => e)
  replace hb := Nat.lt_of_lt_of_le hb HF0.out.size
  clear d6
  have hw0 := HR0.out.lt
  go_region_held3 (fun W => W.cell? ⟨b, off, none⟩ = some (.int .i64 op) ∧ W.cell? ⟨b, off + 1, none⟩ = some (.string nm) ∧ W.cell? ⟨b, off + 2, none⟩ = some (.int .i64 cm) ∧ W.cell? ⟨b, off + 3, none⟩ = some (.int .i64 va) ∧ W.cell? ⟨b, off + 4, none⟩ = some (.int .i64 lo) ∧ W.cell? ⟨b, off + 5, none⟩ = some (.int .i64 hi))
    (go_keep)
    (fail)
  go_upto_region 2 with fail
  obtain ⟨W1, hW1⟩ : ∃ W1, W1 = (W0.alloc (.cells #[.int .i64 op, .string nm, .int .i64 cm, .int .i64 va, .int .i64 lo, .int .i64 hi, .int .i64 (-1), .int .i64 (-1)] 129)).drew := ⟨_, rfl⟩
  have HS1 := Lib.hid (show Blk W1 W0.heap.size 129 #[.int .i64 op, .string nm, .int .i64 cm, .int .i64 va, .int .i64 lo, .int .i64 hi, .int .i64 (-1), .int .i64 (-1)] by rw [hW1]; exact (Blk.new _ _ _).drew)
  have HR1 := Lib.hid (show Blk W1 w.heap.size 129 _ by rw [hW1]; exact (HR0.out.alloc _).drew)
  have HF1 := Lib.hid (show Fr Nob w W1 by rw [hW1]; exact (HF0.out.alloc _).drew)
  rw [← hW1]
  clear hW1 d0 d1 d2 d3 d4 d5
  rcases ls with _ | ⟨v1, _ | ⟨v2, lr⟩⟩
  · clear HK hle
    go_wp2_with (first
      | (refine wpList_ldBoxG rfl rfl (by rfl) undSt (by exact infoSt) HS1.out ?_)
      | (refine wpList_stBox rfl rfl (by rfl) (by rfl) (by exact infoSt) (by rfl) (by exact HR1.out) (by rfl) ?_; intro W7 hb7 hf7; have HB7 := Lib.hid hb7; have HF7 := Lib.hid hf7; clear hb7 hf7)
      | fail)
    refine bodyPost_ret (ret_boxG rfl (by rfl) undSt (by exact infoSt) HB7.out) rfl ?_
    exact ⟨op, nm, cm, va, lo, hi, (-1), (-1), rfl, HF1.out.call HF7.out (fun k (hk : k = w.heap.size) hlt => by omega)⟩
  · obtain ⟨kb, ko, rfl, hkb, k0⟩ := row_at HK.out (k := 0) (by simp)
    replace k0 := HF1.out.cell k0 (fun e => e)
    replace hkb := Nat.lt_of_lt_of_le hkb HF1.out.size
    rw [show xAt [v1] 0 = v1 from rfl, Nat.add_zero] at k0
    have c6 := HS1.out.cell 6
    have f6 := HS1.out.frozen 6
    have cl := HS1.out.lt
    simp only [List.length_cons, List.length_nil] at hle ⊢
    clear HK
    go_upto_region 4 with fail
    obtain ⟨W2, hW2⟩ : ∃ W2, W2 = W1.setCell ⟨W0.heap.size, 6, none⟩ (.int .i64 v1) := ⟨_, rfl⟩
    have hso : Fr (Only W0.heap.size) W1 W2 := by rw [hW2]; exact (Fr.refl (Only W0.heap.size) W1).setCell (p := ⟨W0.heap.size, 6, none⟩) (fun _ => rfl) _
    have HS2 := Lib.hid (show Blk W2 W0.heap.size 129 #[.int .i64 op, .string nm, .int .i64 cm, .int .i64 va, .int .i64 lo, .int .i64 hi, .int .i64 v1, .int .i64 (-1)] by
      have := HS1.out.set 6 (.int .i64 v1)
      rw [hW2]; simpa using this)
    have HR2 := Lib.hid (HR1.out.fr hso (fun (e : w.heap.size = W0.heap.size) => by omega))
    have HF2 := Lib.hid (HF1.out.call hso (fun k (hk : k = W0.heap.size) hlt => by omega))
    rw [← hW2]
    clear hW2 hso
    clear c6 f6 cl k0 HS1 HR1 HF1
    go_wp2_with (first
      | (refine wpList_ldBoxG rfl rfl (by rfl) undSt (by exact infoSt) HS2.out ?_)
      | (refine wpList_stBox rfl rfl (by rfl) (by rfl) (by exact infoSt) (by rfl) (by exact HR2.out) (by rfl) ?_; intro W7 hb7 hf7; have HB7 := Lib.hid hb7; have HF7 := Lib.hid hf7; clear hb7 hf7)
      | fail)
    refine bodyPost_ret (ret_boxG rfl (by rfl) undSt (by exact infoSt) HB7.out) rfl ?_
    exact ⟨op, nm, cm, va, lo, hi, v1, (-1), rfl, HF2.out.call HF7.out (fun k (hk : k = w.heap.size) hlt => by omega)⟩
  · obtain ⟨kb, ko, rfl, hkb, k0⟩ := row_at HK.out (k := 0) (by simp)
    obtain ⟨kb', ko', hA, hkb', k1⟩ := row_at HK.out (k := 1) (by simp)
    obtain ⟨rfl, rfl⟩ : kb = kb' ∧ ko = ko' := by simpa using hA
    replace k0 := HF1.out.cell k0 (fun e => e)
    have K1 := Lib.hid (HF1.out.cell k1 (fun e => e))
    replace hkb := Nat.lt_of_lt_of_le hkb HF1.out.size
    have hkw : kb ≠ W0.heap.size := fun e => by have := hkb'; omega
    rw [show xAt (v1 :: v2 :: lr) 0 = v1 from rfl, Nat.add_zero] at k0
    rw [show xAt (v1 :: v2 :: lr) 1 = v2 from rfl] at K1
    have c6 := HS1.out.cell 6
    have f6 := HS1.out.frozen 6
    have cl := HS1.out.lt
    obtain ⟨n2, hn2⟩ : ∃ n2, (v1 :: v2 :: lr).length = n2 + 2 := ⟨lr.length, rfl⟩
    rw [hn2] at hle ⊢
    have hi0 : (0 : Int) < ((n2 + 2 : Nat) : Int) := by omega
    have hi1 : (1 : Int) < ((n2 + 2 : Nat) : Int) := by omega
    clear HK hA k1 hkb' hn2
    go_upto_region 4 with fail
    obtain ⟨W2, hW2⟩ : ∃ W2, W2 = W1.setCell ⟨W0.heap.size, 6, none⟩ (.int .i64 v1) := ⟨_, rfl⟩
    have hso : Fr (Only W0.heap.size) W1 W2 := by rw [hW2]; exact (Fr.refl (Only W0.heap.size) W1).setCell (p := ⟨W0.heap.size, 6, none⟩) (fun _ => rfl) _
    have HS2 := Lib.hid (show Blk W2 W0.heap.size 129 #[.int .i64 op, .string nm, .int .i64 cm, .int .i64 va, .int .i64 lo, .int .i64 hi, .int .i64 v1, .int .i64 (-1)] by
      have := HS1.out.set 6 (.int .i64 v1)
      rw [hW2]; simpa using this)
    have HR2 := Lib.hid (HR1.out.fr hso (fun (e : w.heap.size = W0.heap.size) => by omega))
    have HF2 := Lib.hid (HF1.out.call hso (fun k (hk : k = W0.heap.size) hlt => by omega))
    have HK2 := Lib.hid (hso.cell K1.out (fun (e : kb = W0.heap.size) => hkw e))
    rw [← hW2]
    clear hW2 hso
    clear c6 f6 cl k0 HR1 HF1
    have k1 := HK2.out
    have c7 := HS2.out.cell 7
    have f7 := HS2.out.frozen 7
    have cl := HS2.out.lt
    go_upto_region 6 with fail
    obtain ⟨W3, hW3⟩ : ∃ W3, W3 = W2.setCell ⟨W0.heap.size, 7, none⟩ (.int .i64 v2) := ⟨_, rfl⟩
    have hso : Fr (Only W0.heap.size) W2 W3 := by rw [hW3]; exact (Fr.refl (Only W0.heap.size) W2).setCell (p := ⟨W0.heap.size, 7, none⟩) (fun _ => rfl) _
    have HS3 := Lib.hid (show Blk W3 W0.heap.size 129 #[.int .i64 op, .string nm, .int .i64 cm, .int .i64 va, .int .i64 lo, .int .i64 hi, .int .i64 v1, .int .i64 v2] by
      have := HS2.out.set 7 (.int .i64 v2)
      rw [hW3]; simpa using this)
    have HR3 := Lib.hid (HR2.out.fr hso (fun (e : w.heap.size = W0.heap.size) => by omega))
    have HF3 := Lib.hid (HF2.out.call hso (fun k (hk : k = W0.heap.size) hlt => by omega))
    rw [← hW3]
    clear hW3 hso
    clear c7 f7 cl k1 HS2 HR2 HF2
    go_wp2_with (first
      | (refine wpList_ldBoxG rfl rfl (by rfl) undSt (by exact infoSt) HS3.out ?_)
      | (refine wpList_stBox rfl rfl (by rfl) (by rfl) (by exact infoSt) (by rfl) (by exact HR3.out) (by rfl) ?_; intro W7 hb7 hf7; have HB7 := Lib.hid hb7; have HF7 := Lib.hid hf7; clear hb7 hf7)
      | fail)
    refine bodyPost_ret (ret_boxG rfl (by rfl) undSt (by exact infoSt) HB7.out) rfl ?_
    exact ⟨op, nm, cm, va, lo, hi, v1, v2, rfl, HF3.out.call HF7.out (fun k (hk : k = w.heap.size) hlt => by omega)⟩
end Go.Proofs.YtoegdmpmagbaiaaGreatDoor

/- The map of plan.Of: parts as keys. -/
namespace Go.Proofs.YtoegdmpmagbaiaaGreatDoor
open Go.RowKit Go.Lib

set_option maxRecDepth 100000 in
theorem at_equalIn (d : Nat) (n m : ByteArray) (o v p u : Int) (w : World) : ∃ r, (Op.equalIn (d + 2) 23 (.agg #[.string n, .int .i64 o, .int .i64 v]) (.agg #[.string m, .int .i64 p, .int .i64 u])).run Tryz.prog w = .ok r w := by
  have hS : Tryz.prog.underlying 23 = some (.struct (Tryz.prog.fieldsOf 23)) := by kernel_rfl
  have hp : Tryz.prog.stoodInHeld 23 = false := by kernel_rfl
  rw [show d + 2 = (d + 1) + 1 from rfl, run_equalIn_agg w (d + 1) 23 _ _ hS hp]
  simp only [Program.fieldsOf, Tryz.underlying23]
  go_simp
  by_cases h1 : n.toList = m.toList <;> by_cases h2 : o = p <;> by_cases h3 : v = u <;> simp [h1, h2, h3]
theorem sp_equalIn (d : Nat) (v p u o : Int) (w : World) : ∃ r, (Op.equalIn (d + 2) 25 (.agg #[.int .i64 o, .int .i64 v]) (.agg #[.int .i64 p, .int .i64 u])).run Tryz.prog w = .ok r w := by
  have hS : Tryz.prog.underlying 25 = some (.struct (Tryz.prog.fieldsOf 25)) := by kernel_rfl
  have hp : Tryz.prog.stoodInHeld 25 = false := by kernel_rfl
  rw [show d + 2 = (d + 1) + 1 from rfl, run_equalIn_agg w (d + 1) 25 _ _ hS hp]
  simp only [Program.fieldsOf, Tryz.underlying25]
  go_simp
  by_cases h2 : o = p <;> by_cases h3 : v = u <;> simp [h2, h3]
set_option maxRecDepth 100000 in
theorem st_equal (o1 : Int) (n1 : ByteArray) (a1 v1 l1 h1 x1 y1 o2 : Int) (n2 : ByteArray) (a2 v2 l2 h2 x2 y2 : Int) (w : World) : ∃ r, (Op.equal 129 (.agg (stV o1 n1 a1 v1 l1 h1 x1 y1)) (.agg (stV o2 n2 a2 v2 l2 h2 x2 y2))).run Tryz.prog w = .ok r w := by
  have hS : Tryz.prog.underlying 129 = some (.struct (Tryz.prog.fieldsOf 129)) := by kernel_rfl
  have hp : Tryz.prog.stoodInHeld 129 = false := by kernel_rfl
  obtain ⟨ra, ha⟩ := at_equalIn 9997 n1 n2 a1 v1 a2 v2 w
  obtain ⟨rs, hs⟩ := sp_equalIn 9997 h1 l2 h2 l1 w
  unfold Op.equal Op.maxDepth stV
  rw [show (10000 : Nat) = 9999 + 1 from rfl, run_equalIn_agg w 9999 129 _ _ hS hp]
  simp only [Program.fieldsOf, Tryz.underlying129]
  go_simp
  by_cases e0 : o1 = o2
  case neg => simp [e0]
  by_cases e1 : n1.toList = n2.toList
  case neg => simp [e0, e1]
  by_cases e2 : a1 = a2
  case neg => simp [e0, e1, e2]
  by_cases e3 : v1 = v2
  case neg => simp [e0, e1, e2, e3]
  by_cases e4 : l1 = l2
  case neg => simp [e0, e1, e2, e3, e4]
  by_cases e5 : h1 = h2
  case neg => simp [e0, e1, e2, e3, e4, e5]
  by_cases e6 : x1 = x2
  case neg => simp [e0, e1, e2, e3, e4, e5, e6]
  by_cases e7 : y1 = y2
  case neg => simp [e0, e1, e2, e3, e4, e5, e6, e7]
  simp [e0, e1, e2, e3, e4, e5, e6, e7]
/-- A part as a key. -/
def StK (v : Value) : Prop := ∃ o nm ao av lo hi a b, v = .agg (stV o nm ao av lo hi a b)
/-- An entry: a part, and a number. -/
def StE (e : MapEntry) : Prop := StK e.key ∧ ∃ n : Int, e.val = .int .i64 n
theorem st_find (k : Value) (hk : StK k) (w : World) : ∀ (es : List MapEntry) (i : Nat), (∀ e ∈ es, StE e) → ((Instr.findAsking 129 k es i).run Tryz.prog w = .ok none w) ∨ ∃ j n, es ≠ [] ∧ (Instr.findAsking 129 k es i).run Tryz.prog w = .ok (some (j, .int .i64 n)) w
  | [], i, _ => .inl rfl
  | e :: es, i, h => by
    obtain ⟨o1, n1, a1, v1, l1, h1, x1, y1, rfl⟩ := hk
    obtain ⟨⟨o2, n2, a2, v2, l2, h2, x2, y2, h3⟩, n, h4⟩ := h e (List.mem_cons_self)
    obtain ⟨r, hr⟩ := st_equal o1 n1 a1 v1 l1 h1 x1 y1 o2 n2 a2 v2 l2 h2 x2 y2 w
    have ih := st_find _ ⟨o1, n1, a1, v1, l1, h1, x1, y1, rfl⟩ w es (i + 1) (fun e' he => h e' (List.mem_cons_of_mem _ he))
    rw [← h3] at hr
    unfold Instr.findAsking
    simp only [Sem.run_bind, hr, Result.andThen_ok]
    cases r
    · simp only [Bool.false_eq_true, if_false]
      rcases ih with ih | ⟨j, m, _, ih⟩
      · exact .inl ih
      · exact .inr ⟨j, m, by simp, ih⟩
    · exact .inr ⟨i, n, by simp, by simp [h4]⟩
theorem st_findKey (k : Value) (hk : StK k) (w : World) (es : List MapEntry) (h : ∀ e ∈ es, StE e) : ((Instr.findKey 129 k es).run Tryz.prog w = .ok none w) ∨ ∃ j n, es ≠ [] ∧ (Instr.findKey 129 k es).run Tryz.prog w = .ok (some (j, .int .i64 n)) w := by
  have hu : (underlying 129).run Tryz.prog w = .ok (.struct (Tryz.prog.fieldsOf 129)) w := run_underlying (show Tryz.prog.underlying 129 = some (.struct (Tryz.prog.fieldsOf 129)) by kernel_rfl) w
  unfold Instr.findKey
  simp only [Sem.run_bind, hu, Result.andThen_ok]
  cases es with
  | nil => exact .inl rfl
  | cons e es =>
    have hn : Instr.findNow (.struct (Tryz.prog.fieldsOf 129)) k (e :: es) 0 = none := by
      unfold Instr.findNow
      simp [Instr.sameNow]
    rw [hn]
    exact st_find k hk w (e :: es) 0 h
theorem ck_int (em : Bool) (n : Nat) (t : TypeId) (q : IntKind) (hd : Tryz.prog.underlying t = some (.int q)) (v : Int) (w : World) : (Instr.checkKey em (n + 1) t (.int .i64 v)).run Tryz.prog w = .ok () w := by
  rw [Instr.checkKey]
  simp only [Sem.run_bind, run_underlying hd, Result.andThen_ok]
  rfl
theorem ck_str (em : Bool) (n : Nat) (t : TypeId) (hd : Tryz.prog.underlying t = some .string) (v : ByteArray) (w : World) : (Instr.checkKey em (n + 1) t (.string v)).run Tryz.prog w = .ok () w := by
  rw [Instr.checkKey]
  simp only [Sem.run_bind, run_underlying hd, Result.andThen_ok]
  rfl
set_option maxRecDepth 100000 in
set_option maxHeartbeats 4000000 in
theorem ck_at (em : Bool) (n : Nat) (nm : ByteArray) (ao av : Int) (w : World) : (Instr.checkKey em (n + 2) 23 (.agg #[.string nm, .int .i64 ao, .int .i64 av])).run Tryz.prog w = .ok () w := by
  have hS : Tryz.prog.underlying 23 = some (.struct (Tryz.prog.fieldsOf 23)) := by kernel_rfl
  rw [show n + 2 = (n + 1) + 1 from rfl, Instr.checkKey]
  simp only [Sem.run_bind, run_underlying hS, Result.andThen_ok]
  rw [← Array.forIn_toList]
  simp only [Program.fieldsOf, Tryz.underlying23]
  have k1 := ck_str em n 9 (by kernel_rfl) nm w
  have k2 := ck_int em n 3 .i64 (by kernel_rfl) ao w
  have k3 := ck_int em n 2 .i64 (by kernel_rfl) av w
  go_simp
theorem ck_sp (em : Bool) (n : Nat) (lo hi : Int) (w : World) : (Instr.checkKey em (n + 2) 25 (.agg #[.int .i64 lo, .int .i64 hi])).run Tryz.prog w = .ok () w := by
  have hS : Tryz.prog.underlying 25 = some (.struct (Tryz.prog.fieldsOf 25)) := by kernel_rfl
  rw [show n + 2 = (n + 1) + 1 from rfl, Instr.checkKey]
  simp only [Sem.run_bind, run_underlying hS, Result.andThen_ok]
  rw [← Array.forIn_toList]
  simp only [Program.fieldsOf, Tryz.underlying25]
  have k2 := ck_int em n 2 .i64 (by kernel_rfl) lo w
  have k3 := ck_int em n 2 .i64 (by kernel_rfl) hi w
  go_simp
set_option maxRecDepth 100000 in
set_option maxHeartbeats 4000000 in
theorem st_check (em : Bool) (k : Value) (hk : StK k) (w : World) : (Instr.checkKey em 10000 129 k).run Tryz.prog w = .ok () w := by
  obtain ⟨o, nm, ao, av, lo, hi, a, b, rfl⟩ := hk
  unfold stV
  have hS : Tryz.prog.underlying 129 = some (.struct (Tryz.prog.fieldsOf 129)) := by kernel_rfl
  rw [show (10000 : Nat) = 9999 + 1 from rfl, Instr.checkKey]
  simp only [Sem.run_bind, run_underlying hS, Result.andThen_ok]
  rw [← Array.forIn_toList]
  simp only [Program.fieldsOf, Tryz.underlying129]
  have k1 := ck_at em 9997 nm ao av w
  have k2 := ck_sp em 9997 lo hi w
  have k3 := ck_int em 9998 3 .i64 (by kernel_rfl) o w
  have k4 := ck_int em 9998 3 .i64 (by kernel_rfl) a w
  have k5 := ck_int em 9998 3 .i64 (by kernel_rfl) b w
  go_simp
/-- Is a part there? -/
theorem st_lookup (w : World) (r : Nat) (es : Array MapEntry) (clock : Nat) (hb : w.heap[r]? = some (.map es clock)) (hes : ∀ e ∈ es.toList, StE e) (k : Value) (hk : StK k) :
    ∃ (n : Int) (ok : Bool), (Instr.lookup 122 (.map (some r)) k true).run Tryz.prog w = .ok (.tuple #[.int .i64 n, .bool ok]) w ∧ (ok = true → es ≠ #[]) ∧ (ok = false → (Instr.findKey 129 k es.toList).run Tryz.prog w = .ok none w) := by
  have hu : Tryz.prog.underlying 122 = some (.map 129 3) := by kernel_rfl
  have hc := st_check es.isEmpty k hk w
  have hz : (zeroValue 3).run Tryz.prog w = .ok (.int .i64 0) w := by go_simp
  have hb2 := Go.MapKept.run_getObj_map (P := Tryz.prog) hb
  unfold Instr.lookup
  rcases st_findKey k hk w es.toList hes with h | ⟨j, n, hne, h⟩
  · refine ⟨0, false, ?_, (fun e => by cases e), fun _ => h⟩
    simp only [Sem.run_bind, run_underlying hu, Result.andThen_ok, hb2, Sem.run_pure, hc, h, hz]
    rfl
  · refine ⟨n, true, ?_, (fun _ e => hne (by rw [e])), (fun e => by cases e)⟩
    simp only [Sem.run_bind, run_underlying hu, Result.andThen_ok, hb2, Sem.run_pure, hc, h]
    rfl
/-- A new part is laid. -/
theorem st_update (w : World) (r : Nat) (es : Array MapEntry) (clock : Nat) (hb : w.heap[r]? = some (.map es clock)) (k : Value) (hk : StK k) (v : Value) (hf : (Instr.findKey 129 k es.toList).run Tryz.prog w = .ok none w) :
    ∃ w', (Instr.mapUpdate 122 (.map (some r)) k v).run Tryz.prog w = .ok () w' ∧ w'.heap[r]? = some (.map (es.push { key := k, val := v, born := clock }) (clock + 1)) ∧ Fr (Only r) w w' := by
  have hu : Tryz.prog.underlying 122 = some (.map 129 3) := by kernel_rfl
  have hc := st_check false k hk w
  have hb2 := Go.MapKept.run_getObj_map (P := Tryz.prog) hb
  have hlt : r < w.heap.size := (Array.getElem?_eq_some_iff.1 hb).1
  refine ⟨{ w with heap := w.heap.setIfInBounds r (.map (es.push { key := k, val := v, born := clock }) (clock + 1)) }, ?_, ?_, ?_⟩
  · unfold Instr.mapUpdate
    simp only [Sem.run_bind, run_underlying hu, Result.andThen_ok, hb2, hc, hf]
    exact Go.MapKept.run_setObj_map _ hb
  · simp [hlt]
  · exact ⟨rfl, rfl, rfl, by simp, fun q hq hn => by
      show (w.heap.setIfInBounds r _)[q]? = _
      rw [Array.getElem?_setIfInBounds, if_neg (fun e => hn e.symm)]⟩
end Go.Proofs.YtoegdmpmagbaiaaGreatDoor

/- plan.Of: what stands on the way, in plain words and in memory. -/
namespace Go.Proofs.YtoegdmpmagbaiaaGreatDoor
open Go.RowKit Go.Lib

/-- A node on the way, and whether its kids were gone through. -/
structure VE where
  b : Nat
  off : Nat
  x : Nd
  A : Option Addr
  c : Nat
  ks : Fo
  fl : Bool
def vec (e : VE) : List Value := [.pointer (some ⟨e.b, e.off, none⟩), .bool e.fl]
theorem vec_len (e : VE) : (vec e).length = 2 := rfl
structure VE.At (N : Nat) (w : World) (e : VE) : Prop where
  nd : NdAt w e.b e.off e.x e.A e.ks.len e.c
  sl : FoSl N w e.A e.c e.ks
  lt : e.b < N
theorem VE.At.fr {N : Nat} {w w' : World} {e : VE} (h : e.At N w) (hf : Fr Nob w w') : e.At N w' := ⟨h.nd.fr hf, h.sl.fr hf, h.lt⟩
/-- Do the places fit the way? (the way from its end on) -/
def fits : List VE → Nat → Prop
  | [], p => p = 1
  | e :: r, p => if e.fl = true then e.ks.len ≤ p ∧ fits r (p - e.ks.len + 1) else fits r (p + 1)
/-- How many parts may still come; how many steps. -/
def cntV : List VE → Nat
  | [] => 0
  | e :: r => (if e.fl = true then 1 else e.ks.tr.size + 1) + cntV r
def wtV : List VE → Nat
  | [] => 0
  | e :: r => (if e.fl = true then 1 else 2 * (e.ks.tr.size + 1)) + wtV r
theorem cntV_app (a b : List VE) : cntV (a ++ b) = cntV a + cntV b := by
  induction a with
  | nil => simp [cntV]
  | cons e r ih => simp [cntV, ih]; omega
theorem wtV_app (a b : List VE) : wtV (a ++ b) = wtV a + wtV b := by
  induction a with
  | nil => simp [wtV]
  | cons e r ih => simp [wtV, ih]; omega
theorem cntV_rev (a : List VE) : cntV a.reverse = cntV a := by
  induction a with
  | nil => rfl
  | cons e r ih => rw [List.reverse_cons, cntV_app, ih]; simp [cntV]; omega
theorem wtV_rev (a : List VE) : wtV a.reverse = wtV a := by
  induction a with
  | nil => rfl
  | cons e r ih => rw [List.reverse_cons, wtV_app, ih]; simp [wtV]; omega
/-- The kids of a node, as they are laid on the way. -/
def kidsV (b off : Nat) : Fo → Nat → List VE
  | .nil, _ => []
  | .cons x A c ks r, k => ⟨b, off + k * 7, x, A, c, ks, false⟩ :: kidsV b off r (k + 1)
theorem kidsV_len (b off : Nat) : ∀ (f : Fo) (k : Nat), (kidsV b off f k).length = f.len
  | .nil, _ => rfl
  | .cons _ _ _ _ r, k => by simp [kidsV, Fo.len, kidsV_len b off r (k + 1)]
theorem kidsV_fl (b off : Nat) : ∀ (f : Fo) (k : Nat), ∀ e ∈ kidsV b off f k, e.fl = false
  | .nil, _, e, h => by cases h
  | .cons _ _ _ _ r, k, e, h => by
    rw [kidsV, List.mem_cons] at h
    rcases h with rfl | h
    · rfl
    · exact kidsV_fl b off r (k + 1) e h
theorem kidsV_cnt (b off : Nat) : ∀ (f : Fo) (k : Nat), cntV (kidsV b off f k) = f.tr.size ∧ wtV (kidsV b off f k) = 2 * f.tr.size
  | .nil, _ => ⟨rfl, rfl⟩
  | .cons _ _ _ ks r, k => by
    have := kidsV_cnt b off r (k + 1)
    simp only [kidsV, cntV, wtV, Fo.tr, Tr.size, if_false, Bool.false_eq_true]
    omega
theorem kidsV_get (b off : Nat) : ∀ (f : Fo) (j k : Nat) {y : Nd} {B : Option Addr} {d : Nat} {js rs : Fo}, f.get k = .cons y B d js rs → (kidsV b off f j)[k]? = some ⟨b, off + (j + k) * 7, y, B, d, js, false⟩
  | .nil, _, k, _, _, _, _, _, h => by cases k <;> simp [Fo.get] at h
  | .cons x A c ks r, j, 0, y, B, d, js, rs, h => by
    simp only [Fo.get, Fo.cons.injEq] at h
    obtain ⟨rfl, rfl, rfl, rfl, rfl⟩ := h
    rfl
  | .cons x A c ks r, j, k + 1, y, B, d, js, rs, h => by
    have := kidsV_get b off r (j + 1) k (by simpa [Fo.get] using h)
    rw [kidsV, List.getElem?_cons_succ, this]
    simp only [Option.some.injEq, VE.mk.injEq, and_true, true_and]
    omega
theorem fits_false : ∀ (l r : List VE) (p : Nat), (∀ e ∈ l, e.fl = false) → fits (l ++ r) p = fits r (p + l.length)
  | [], _, _, _ => rfl
  | e :: l, r, p, h => by
    rw [List.cons_append, fits, if_neg (by rw [h e List.mem_cons_self]; simp), fits_false l r (p + 1) (fun e' he => h e' (List.mem_cons_of_mem _ he)), List.length_cons]
    congr 1; omega
/-- A node's kids are laid upon it. -/
theorem fits_open {e : VE} {r : List VE} {p : Nat} (h : fits (e :: r) p) (hf : e.fl = false) (b off : Nat) : fits (kidsV b off e.ks 0 ++ ({ e with fl := true } :: r)) p := by
  rw [fits, if_neg (by rw [hf]; simp)] at h
  rw [fits_false _ _ _ (kidsV_fl b off e.ks 0), kidsV_len, fits, if_pos rfl]
  refine ⟨by show e.ks.len ≤ _; omega, ?_⟩
  show fits r (p + e.ks.len - e.ks.len + 1)
  rw [show p + e.ks.len - e.ks.len + 1 = p + 1 by omega]
  exact h
theorem fits_shut {e : VE} {r : List VE} {p : Nat} (h : fits (e :: r) p) (hf : e.fl = true) : e.ks.len ≤ p ∧ fits r (p - e.ks.len + 1) := by
  rw [fits, if_pos hf] at h
  exact h
theorem kidsV_at {N : Nat} {w : World} {A : Option Addr} {c b off : Nat} {f : Fo} (h : FoSl N w A c f) (hA : A = some ⟨b, off, none⟩) : ∀ e ∈ kidsV b off f 0, e.At N w := by
  intro e he
  obtain ⟨k, hk, rfl⟩ := List.getElem_of_mem he
  rw [kidsV_len] at hk
  obtain ⟨b', off', y, B, d, js, rs, K⟩ := h.kid hk
  have hs := K.slice
  rw [hA] at hs
  obtain ⟨rfl, rfl⟩ : b = b' ∧ off = off' := by simpa using hs
  have hg := kidsV_get b off f 0 k K.get
  rw [List.getElem?_eq_getElem (by rw [kidsV_len]; exact hk), Option.some.injEq] at hg
  rw [hg, Nat.zero_add]
  exact ⟨K.nd, K.sl, K.bN⟩
end Go.Proofs.YtoegdmpmagbaiaaGreatDoor

/- plan.Of, walked: how many parts. -/
namespace Go.Proofs.YtoegdmpmagbaiaaGreatDoor
open Go.RowKit Go.Lib

theorem elemVi : ElemT Tryz.prog 126 125 2 16 := ElemT.mk (z := .agg #[.pointer none, .bool false]) Tryz.underlying126 (by kernel_rfl) (by kernel_rfl) (by decide)
theorem elemSt : ElemT Tryz.prog 83 129 8 72 := ElemT.mk (z := .agg (stV 0 ⟨#[]⟩ 0 0 0 0 0 0)) Tryz.underlying83 (by kernel_rfl) (by kernel_rfl) (by decide)
theorem el_inG : ElemT Tryz.prog 93 3 1 8 := ElemT.mk (z := .int .i64 0) Tryz.underlying93 (by kernel_rfl) rfl (by decide)
theorem vec_one (e : VE) : ∀ u ∈ vec e, u.oneCell' = true := by intro u hu; simp [vec] at hu; rcases hu with rfl | rfl <;> rfl
theorem st_one (o : Int) (nm : ByteArray) (ao av lo hi a b : Int) : ∀ u ∈ (stV o nm ao av lo hi a b).toList, u.oneCell' = true := by
  intro u hu; simp [stV] at hu; rcases hu with rfl | rfl | rfl | rfl | rfl | rfl | rfl | rfl <;> rfl
/-- The map's block is no row's. -/
theorem own_nmap {w : World} {base e size n c mb : Nat} {A : Option Addr} {xs : List Value} {es : Array MapEntry} {clock : Nat} (h : w.ownsRow base e size (.slice A n c) n xs) (hm : w.heap[mb]? = some (.map es clock)) : A.map (·.block) ≠ some mb := by
  intro e9
  cases A with
  | none => cases e9
  | some a =>
    obtain ⟨g, cur, post, h1, h2, h3, _⟩ := own_blk h ⟨_, rfl⟩
    simp only [Option.some.injEq] at h1
    subst h1
    simp only [Option.map_some, Option.some.injEq] at e9
    subst e9
    unfold Blk at h3
    rw [h3] at hm
    cases hm
/-- What lies there between two steps. -/
structure PlM (W1 : World) (mb : Nat) (wr : World) (S : List VE) (WA : Option Addr) (wc : Nat) (pl : List Int) (PA : Option Addr) (pc : Nat) (n : Nat) (cells : List Value) (LA : Option Addr) (lc : Nat) (es : Array MapEntry) (clock : Nat) : Prop where
  fr : Fr Nob W1 wr
  way : wr.ownsRow W1.heap.size 125 2 (.slice WA S.length wc) S.length (S.flatMap vec)
  pls : wr.ownsRow W1.heap.size 3 1 (.slice PA pl.length pc) pl.length (pl.map ivI)
  lst : wr.ownsRow W1.heap.size 129 8 (.slice LA n lc) n cells
  mp : wr.heap[mb]? = some (.map es clock)
  mlt : W1.heap.size ≤ mb
/-- What is so, in plain words. -/
structure PlP (N : Nat) (W1 : World) (T : Nat) (S : List VE) (p n : Nat) (es : Array MapEntry) : Prop where
  ents : ∀ e ∈ es.toList, StE e
  esz : es.size = n
  fit : fits S.reverse p
  pos : 1 ≤ p → 1 ≤ n
  cnt : n + cntV S ≤ T
  pcnt : p + cntV S ≤ T
  at_ : ∀ e ∈ S, e.At N W1
theorem cntV_len (S : List VE) : S.length ≤ cntV S := by
  induction S with
  | nil => exact Nat.le_refl _
  | cons e r ih => simp only [cntV, List.length_cons]; split <;> omega
section
variable {W1 wr w2 : World} {mb : Nat} {S S2 : List VE} {WA A2 : Option Addr} {wc c2 : Nat} {pl : List Int} {PA : Option Addr} {pc n : Nat} {cells : List Value} {LA : Option Addr} {lc : Nat} {es : Array MapEntry} {clock : Nat}
theorem own_preN {w : World} {base e size : Nat} {A : Option Addr} {n c m : Nat} {xs ys : List Value} (h : w.ownsRow base e size (.slice A n c) n (xs ++ ys)) (hx : xs.length = m * size) (hm : m ≤ n) : w.ownsRow base e size (.slice A m c) m xs := by
  cases A with
  | some a => exact own_pre h hx hm ⟨_, rfl⟩
  | none =>
    rcases h.2 with ⟨h1, h2⟩ | ⟨g, cap, cur, hv, _⟩
    · simp only [Value.slice.injEq, true_and] at h1
      obtain ⟨h3, rfl⟩ := h1
      obtain rfl : m = 0 := by omega
      rw [Nat.zero_mul] at hx
      rw [List.eq_nil_of_length_eq_zero hx]
      exact World.ownsRow_nil _ _ _ _
    · cases hv
theorem drop_ivG (S : List Int) (k : Nat) : (S.map ivI).drop (k * 1) = (S.drop k).map ivI := by rw [Nat.mul_one, List.map_drop]
/-- The last one was taken off. -/
theorem PlM.pop {S' : List VE} {e : VE} (h : PlM W1 mb wr S WA wc pl PA pc n cells LA lc es clock) (hS : S = S'.concat e) : PlM W1 mb wr S' WA wc pl PA pc n cells LA lc es clock := by
  subst hS
  have h1 := h.way
  rw [List.concat_eq_append, List.flatMap_append] at h1
  exact ⟨h.fr, own_preN h1 (flat_len vec 2 vec_len _) (by simp), h.pls, h.lst, h.mp, h.mlt⟩
theorem PlM.pure (h : PlM W1 mb wr S WA wc pl PA pc n cells LA lc es clock) (hf : Fr Nob wr w2) : PlM W1 mb w2 S WA wc pl PA pc n cells LA lc es clock :=
  ⟨h.fr.call hf (fun _ e _ => e), own_fr h.way hf (fun _ _ _ _ e => e), own_fr h.pls hf (fun _ _ _ _ e => e), own_fr h.lst hf (fun _ _ _ _ e => e), (hf.block mb (Array.getElem?_eq_some_iff.1 h.mp).1 (fun e => e)).trans h.mp, h.mlt⟩
/-- The way's row was written. -/
theorem PlM.wayTo (h : PlM W1 mb wr S WA wc pl PA pc n cells LA lc es clock) {m : Nat} (hm : m = S2.length) (ho : w2.ownsRow W1.heap.size 125 2 (.slice A2 m c2) m (S2.flatMap vec)) (hg : wr.grownBy w2 (WA.map (·.block))) : PlM W1 mb w2 S2 A2 c2 pl PA pc n cells LA lc es clock :=
  ⟨h.fr.grown hg fun k hk hlt => by have := own_base h.way k hk; omega, hm ▸ ho, own_apart h.pls h.way (by decide) hg, own_apart h.lst h.way (by decide) hg, (hg.block mb (Array.getElem?_eq_some_iff.1 h.mp).1 (fun e => own_nmap h.way h.mp e.symm)).trans h.mp, h.mlt⟩
theorem PlM.plsTo (h : PlM W1 mb wr S WA wc pl PA pc n cells LA lc es clock) {pl2 : List Int} {m : Nat} (hm : m = pl2.length) (ho : w2.ownsRow W1.heap.size 3 1 (.slice A2 m c2) m (pl2.map ivI)) (hg : wr.grownBy w2 (PA.map (·.block))) : PlM W1 mb w2 S WA wc pl2 A2 c2 n cells LA lc es clock :=
  ⟨h.fr.grown hg fun k hk hlt => by have := own_base h.pls k hk; omega, own_apart h.way h.pls (by decide) hg, hm ▸ ho, own_apart h.lst h.pls (by decide) hg, (hg.block mb (Array.getElem?_eq_some_iff.1 h.mp).1 (fun e => own_nmap h.pls h.mp e.symm)).trans h.mp, h.mlt⟩
theorem PlM.lstTo (h : PlM W1 mb wr S WA wc pl PA pc n cells LA lc es clock) {cells2 : List Value} {m : Nat} (ho : w2.ownsRow W1.heap.size 129 8 (.slice A2 m c2) m cells2) (hg : wr.grownBy w2 (LA.map (·.block))) : PlM W1 mb w2 S WA wc pl PA pc m cells2 A2 c2 es clock :=
  ⟨h.fr.grown hg fun k hk hlt => by have := own_base h.lst k hk; omega, own_apart h.way h.lst (by decide) hg, own_apart h.pls h.lst (by decide) hg, ho, (hg.block mb (Array.getElem?_eq_some_iff.1 h.mp).1 (fun e => own_nmap h.lst h.mp e.symm)).trans h.mp, h.mlt⟩
theorem PlM.mapTo (h : PlM W1 mb wr S WA wc pl PA pc n cells LA lc es clock) {es2 : Array MapEntry} {clock2 : Nat} (hm : w2.heap[mb]? = some (.map es2 clock2)) (hf : Fr (Only mb) wr w2) : PlM W1 mb w2 S WA wc pl PA pc n cells LA lc es2 clock2 :=
  ⟨h.fr.call hf fun k (hk : k = mb) hlt => by have := h.mlt; omega, own_fr h.way hf fun k hk _ _ (e : k = mb) => own_nmap h.way h.mp (by rw [← e]; cases WA <;> simp_all [Value.ownBlock]), own_fr h.pls hf fun k hk _ _ (e : k = mb) => own_nmap h.pls h.mp (by rw [← e]; cases PA <;> simp_all [Value.ownBlock]), own_fr h.lst hf fun k hk _ _ (e : k = mb) => own_nmap h.lst h.mp (by rw [← e]; cases LA <;> simp_all [Value.ownBlock]), hm, h.mlt⟩
end
end Go.Proofs.YtoegdmpmagbaiaaGreatDoor

/- plan.Of, walked: it has a part at least, where the formula is sound. -/
namespace Go.Proofs.YtoegdmpmagbaiaaGreatDoor
open Go.RowKit Go.Lib

/-- Between two steps, as the loop has it. -/
def PlR (W1 : World) (mb T : Nat) (lv pv wv : Value) (wr : World) (k : Nat) : Prop :=
  ∃ (S : List VE) (WA : Option Addr) (wc : Nat) (pl : List Int) (PA : Option Addr) (pc n : Nat) (cells : List Value) (LA : Option Addr) (lc : Nat) (es : Array MapEntry) (clock : Nat),
    lv = .slice LA n lc ∧ pv = .slice PA pl.length pc ∧ wv = .slice WA S.length wc ∧ k = wtV S ∧ PlM W1 mb wr S WA wc pl PA pc n cells LA lc es clock ∧ PlP W1.heap.size W1 T S pl.length n es
def PlanR (w : World) (e : Ending) (w' : World) : Prop := ∃ A n c, e = .returned (.slice A n c) ∧ 1 ≤ n ∧ n ≤ 16004 ∧ Fr Nob w w'
set_option maxRecDepth 100000 in
set_option maxHeartbeats 16000000 in
theorem pl_Of (w : World) (x : Nd) (B : Option Addr) (d : Nat) (ks : Fo) (hs : FoSl w.heap.size w B d ks) (hsz : ks.tr.size ≤ 4000) (hv : ShVar w) (hnm : ∀ y ∈ (Tr.cons x ks.tr .nil).nodes 1, y.1.name.size ≤ 9223372036854775807) (hg : firstW ((Tr.cons x ks.tr .nil).nodes 1) = 0) :
    Calls Tryz.prog 32 #[fval x B ks.len d] w (PlanR w) := by
  have HSD := Lib.hid (fun W (hf : Fr Nob w W) => prg_Sound W x B d ks ((hs.fr hf).mono hf.size) (by omega) (hv.fr hf) hnm)
  have HOF := Lib.hid (fun W (hf : Fr Nob w W) => n_Of W x B d ks ((hs.fr hf).mono hf.size) (by omega) (hv.fr hf) hnm hg)
  have HSZ := Lib.hid (show szS (madeS x ks.tr) ≤ 4 * (ks.tr.size + 1) from (madeS_good ((good_first x ks.tr).1 hg).1 ((good_first x ks.tr).1 hg).2).2)
  rw [hg] at HSD
  have hsz2 := hsz
  generalize madeS x ks.tr = s at *
  clear hs hv hnm hg hsz
  obtain ⟨op, nm, cm, va, lo, hi⟩ := x
  unfold fval at *
  dsimp only at *
  unfold PlanR
  have hmm := @run_makeMap Tryz.prog
  go_enter Tryz.func32, Tryz.ntmps32
  go_upto_region 1 with fail
  obtain ⟨W0, hW0⟩ : ∃ W0, W0 = w.alloc (.cells #[.int .i64 op, .string nm, .int .i64 cm, .int .i64 va, .int .i64 lo, .int .i64 hi, .slice B ks.len d] 28) := ⟨_, rfl⟩
  have HB0 := Lib.hid (show Blk W0 w.heap.size 28 #[.int .i64 op, .string nm, .int .i64 cm, .int .i64 va, .int .i64 lo, .int .i64 hi, .slice B ks.len d] by rw [hW0]; exact Blk.new _ _ _)
  have HF0 := Lib.hid (show Fr Nob w W0 by rw [hW0]; exact (Fr.refl _ _).alloc _)
  rw [← hW0]
  clear hW0
  have bc := HB0.out.cell
  have bl := HB0.out.lt
  go_upto_region 4 with (first
    | ((go_at_call 53); (with_reducible refine (HSD.out _ HF0.out).mono ?_); rintro e w1 ⟨rfl, hf1⟩; have HF1 := Lib.hid (HF0.out.call hf1 (fun _ h _ => h)); have HB1 := Lib.hid (HB0.out.fr hf1 (fun e => e)); have bc1 := HB1.out.cell; have bl1 := HB1.out.lt; clear hf1)
    | ((go_at_call 65); (with_reducible refine (HOF.out _ HF1.out).mono ?_); rintro e w2 ⟨o1, n1, m1, v1, l1, i1, A1, c1, k1, rfl, he2, hs2, hf2⟩; have HE2 := Lib.hid he2; have HS2 := Lib.hid hs2; have HF2 := Lib.hid (HF1.out.call hf2 (fun _ h _ => h)); clear he2 hs2 hf2)
    | fail)
  clear bc bl bc1 bl1 HB0 HB1 HF0 HF1 HSD HOF
  obtain ⟨W1, hW1⟩ : ∃ W1, W1 = w2.alloc (.cells #[.int .i64 o1, .string n1, .int .i64 m1, .int .i64 v1, .int .i64 l1, .int .i64 i1, .slice A1 k1.len c1] 28) := ⟨_, rfl⟩
  have HB1 := Lib.hid (show Blk W1 w2.heap.size 28 #[.int .i64 o1, .string n1, .int .i64 m1, .int .i64 v1, .int .i64 l1, .int .i64 i1, .slice A1 k1.len c1] by rw [hW1]; exact Blk.new _ _ _)
  have HF1 := Lib.hid (show Fr Nob w W1 by rw [hW1]; exact HF2.out.alloc _)
  have HS1 := Lib.hid (show FoSl W1.heap.size W1 A1 c1 k1 by rw [hW1]; exact (HS2.out.fr ((Fr.refl Nob w2).alloc _)).whole)
  rw [← hW1]
  clear hW1 HS2 HF2
  go_upto_region 8 with fail
  obtain ⟨W2, hW2⟩ : ∃ W2, W2 = (W1.alloc (.map #[] 0)).alloc (.cells #[.pointer (some ⟨w2.heap.size, 0, none⟩), .bool false] 125) := ⟨_, rfl⟩
  have hT : k1.tr.size + 1 ≤ 16004 := by
    have := HSZ.out
    have he := HE2.out
    rw [← he] at this
    have h9 : szS ((⟨o1, n1, m1, v1, l1, i1⟩ : Nd), k1.tr) = k1.tr.size + 1 := rfl
    omega
  have HM2 := Lib.hid (show PlM W1 W1.heap.size W2 [⟨w2.heap.size, 0, ⟨o1, n1, m1, v1, l1, i1⟩, A1, c1, k1, false⟩] (some ⟨W1.heap.size + 1, 0, none⟩) 1 [] none 0 0 [] none 0 #[] 0 from by
    have hz : (W1.alloc (.map #[] 0)).heap.size = W1.heap.size + 1 := by simp
    have h2 := World.ownsRow_lit (base := W1.heap.size) (e := 125) (size := 2) (W1.alloc (.map #[] 0)) #[.pointer (some ⟨w2.heap.size, 0, none⟩), .bool false] 1 (by omega) (by decide) rfl
    rw [hz, ← hW2] at h2
    refine ⟨by rw [hW2]; exact ((Fr.refl _ _).alloc _).alloc _, h2, World.ownsRow_nil _ _ _ _, World.ownsRow_nil _ _ _ _, ?_, Nat.le_refl _⟩
    rw [hW2]
    exact (Below.heap_alloc (W1.alloc (.map #[] 0)) _ W1.heap.size (by omega)).trans (heap_alloc_new W1 _))
  have HP2 := Lib.hid (show PlP W1.heap.size W1 (k1.tr.size + 1) [⟨w2.heap.size, 0, ⟨o1, n1, m1, v1, l1, i1⟩, A1, c1, k1, false⟩] 0 0 #[] from
    ⟨fun e he => by simp at he, rfl, rfl, fun e => absurd e (by omega), by simp [cntV], by simp [cntV], fun e he => by
      rw [List.mem_singleton] at he
      subst he
      exact ⟨NdAt.of (fun j u hu => by
        rw [HB1.out.cell]
        simpa [fcs] using hu), HS1.out, HB1.out.lt⟩⟩)
  obtain ⟨T, hTT⟩ : ∃ T, T = k1.tr.size + 1 := ⟨_, rfl⟩
  rw [← hTT] at HP2 hT
  rw [← hW2]
  clear hW2 hTT HS1 HB1 HE2 HSZ hmm
  have HW0 := Lib.hid (show PlR W1 W1.heap.size T (.slice none 0 0) (.slice none 0 0) (.slice (some ⟨W1.heap.size + 1, 0, none⟩) 1 1) W2 (wtV [⟨w2.heap.size, 0, ⟨o1, n1, m1, v1, l1, i1⟩, A1, c1, k1, false⟩]) from
    ⟨_, _, _, _, _, _, _, _, _, _, _, _, rfl, rfl, rfl, rfl, HM2.out, HP2.out⟩)
  obtain ⟨k0, hk0⟩ : ∃ k0, k0 = wtV [⟨w2.heap.size, 0, ⟨o1, n1, m1, v1, l1, i1⟩, A1, c1, k1, false⟩] := ⟨_, rfl⟩
  rw [← hk0] at HW0
  clear hk0 HM2 HP2
  obtain ⟨mb, hmb⟩ : ∃ mb, mb = W1.heap.size := ⟨_, rfl⟩
  rw [← hmb] at HW0 ⊢
  clear hmb
  go_loopg [4, 5, 7] k0 (fun gk lv pv wv wr => Hid (PlR W1 mb T lv pv wv wr gk))
  case atStart => exact HW0
  case round =>
    obtain ⟨S, WA, wc, pl, PA, pc, n, cells, LA, lc, es, clock, rfl, rfl, rfl, rfl, hM, hP⟩ := hrel.out
    have HM := Lib.hid hM
    have HP := Lib.hid hP
    have hwl := hM.way.lt
    have hSl := cntV_len S
    have hcn := hP.cnt
    have hpc := hP.pcnt
    clear hrel hwl
    rcases List.eq_nil_or_concat S with rfl | ⟨S', e, rfl⟩
    · have h1 : 1 ≤ n := hP.pos (by have h2 := hP.fit; simp only [List.reverse_nil, fits] at h2; omega)
      have HFZ := Lib.hid (HF1.out.call hM.fr (fun _ h _ => h))
      clear hM hP HM HP
      go_wp2_with fail
      go_ret
      exact ⟨LA, n, lc, rfl, h1, by omega, HFZ.out⟩
    · obtain ⟨hA, hSn⟩ : (∃ a, WA = some a) ∧ (S'.concat e).length = S'.length + 1 := by
        refine ⟨?_, by simp⟩
        rcases hM.way.2 with ⟨_, h2⟩ | ⟨g, cap, cur, h1, _⟩
        · simp at h2
        · simp only [Value.slice.injEq] at h1; exact ⟨_, h1.1⟩
      obtain ⟨g, cur, post, rfl, hgb, hblk, hcur, hgn, hgm, hgs⟩ := own_blk hM.way hA
      have hgl := hblk.lt
      have hEA := hP.at_ e (by simp)
      have HEA := Lib.hid (hEA.fr hM.fr)
      rw [hSn] at hSl hgn ⊢
      have hcl : (S'.concat e).flatMap vec = S'.flatMap vec ++ vec e := by rw [List.concat_eq_append, List.flatMap_append]; simp
      have hfl : (S'.flatMap vec).length = S'.length * 2 := by rw [flat_len vec 2 vec_len]
      have c0 : wr.cell? ⟨g, S'.length * 2, none⟩ = some (.pointer (some ⟨e.b, e.off, none⟩)) := by
        rw [hblk.cell, ← Array.getElem?_toList, hcur, hcl, List.append_assoc, List.getElem?_append_right (by omega), hfl, Nat.sub_self]; rfl
      have c1_ : wr.cell? ⟨g, S'.length * 2 + 1, none⟩ = some (.bool e.fl) := by
        rw [hblk.cell, ← Array.getElem?_toList, hcur, hcl, List.append_assoc, List.getElem?_append_right (by omega), hfl, Nat.add_sub_cancel_left]; rfl
      have f1_ := hblk.frozen (S'.length * 2 + 1)
      have hfit := hP.fit
      rw [List.concat_eq_append, List.reverse_append, List.reverse_singleton, List.singleton_append] at hfit
      have h1 : IntKind.i64.wrap (((S'.length + 1 : Nat) : Int) - 1) = (S'.length : Int) := by rw [IntWalk.i64_in _ (by omega)]; omega
      have h3 : (S'.length : Int) < ((S'.length + 1 : Nat) : Int) := by omega
      have h4 : (0 : Int) ≤ (S'.length : Int) := by omega
      have h5 : (0 : Int) < ((S'.length + 1 : Nat) : Int) := by omega
      have HWE := Lib.hid (hM.way)
      have HCL := Lib.hid hcl
      have HFL := Lib.hid hfl
      have hblt : e.b < wr.heap.size := Nat.lt_of_lt_of_le hEA.lt hM.fr.size
      have hgW : W1.heap.size ≤ g := hgb
      have hbW : e.b < W1.heap.size := hEA.lt
      clear hblk hcur hgs hA hcl hEA hM hP hfl
      cases hef : e.fl
      · have hkl : e.ks.len ≤ 16004 := by
          have h9 := e.ks.len_size
          rw [List.concat_eq_append, cntV_app] at hpc
          simp only [cntV, hef, if_false, Bool.false_eq_true] at hpc
          omega
        have HKL := Lib.hid hkl
        obtain ⟨-, -, -, -, -, -, d6⟩ := HEA.out.nd
        rw [hef] at c1_
        go_upto_region 13 with fail
        obtain ⟨W3, hW3⟩ : ∃ W3, W3 = wr.setCell ⟨g, S'.length * 2 + 1, none⟩ (.bool true) := ⟨_, rfl⟩
        obtain ⟨e1, he1⟩ : ∃ e1 : VE, e1 = { e with fl := true } := ⟨_, rfl⟩
        have HM3 := Lib.hid (show PlM W1 mb W3 (S' ++ [e1]) (some ⟨g, 0, none⟩) wc pl PA pc n cells LA lc es clock from by
          have h7 := HWE.out.stored (S'.length * 2 + 1) (.bool true)
          rw [← hW3] at h7
          refine HM.out.wayTo (m := (S'.concat e).length) (by simp) ?_ h7.2
          have h8 : ((S'.concat e).flatMap vec).set (S'.length * 2 + 1) (.bool true) = (S' ++ [e1]).flatMap vec := by
            rw [HCL.out, List.set_append_right _ _ (by rw [HFL.out]; omega), HFL.out, Nat.add_sub_cancel_left, List.flatMap_append, he1]
            simp [vec]
          rw [← h8]
          exact h7.1)
        replace d6 := (show Fr (Only g) wr W3 by rw [hW3]; exact (Fr.refl (Only g) wr).setCell (p := ⟨g, S'.length * 2 + 1, none⟩) (fun _ => rfl) _).cell d6 (fun (e9 : e.b = g) => by omega)
        replace hblt : e.b < W3.heap.size := by rw [hW3]; simpa using hblt
        have HE1 := Lib.hid he1
        rw [← hW3]
        clear hW3 he1 c0 c1_ f1_ HWE HM
        have h6 : IntKind.i64.wrap ((e.ks.len : Int) - 1) = (e.ks.len : Int) - 1 := IntWalk.i64_in _ (by omega)
        go_wp2_with fail
        go_loopw [7, 10] (fun wv kv wq => ∃ (j : Nat) (WA2 : Option Addr) (wc2 : Nat), j ≤ e.ks.len ∧ kv = .int .i64 ((e.ks.len : Int) - 1 - j) ∧ wv = .slice WA2 (S'.length + 1 + j) wc2 ∧ Hid (∃ kb ko, (0 < e.ks.len → e.A = some ⟨kb, ko, none⟩) ∧ PlM W1 mb wq (S' ++ [e1] ++ ((kidsV kb ko e.ks 0).drop (e.ks.len - j)).reverse) WA2 wc2 pl PA pc n cells LA lc es clock)) (fun _ kv _ => ((RowKit.intOf kv) + 1).toNat)
        case atStart =>
          refine ⟨0, some ⟨g, 0, none⟩, wc, Nat.zero_le _, by simp, rfl, Lib.hid ?_⟩
          rcases Nat.eq_zero_or_pos e.ks.len with h0 | h0
          · refine ⟨0, 0, fun h9 => by omega, ?_⟩
            rw [Nat.sub_zero, List.drop_eq_nil_of_le (by rw [kidsV_len]; exact Nat.le_refl _), List.reverse_nil, List.append_nil]
            exact HM3.out
          · obtain ⟨kb, ko, hA⟩ := HEA.out.sl.some_ h0
            refine ⟨kb, ko, fun _ => hA, ?_⟩
            rw [Nat.sub_zero, List.drop_eq_nil_of_le (by rw [kidsV_len]; exact Nat.le_refl _), List.reverse_nil, List.append_nil]
            exact HM3.out
        case round =>
          obtain ⟨j, WA2, wc2, hj, rfl, rfl, hq⟩ := hrel
          obtain ⟨kb, ko, hA, hM5⟩ := hq.out
          have HM5 := Lib.hid hM5
          have HEQ := Lib.hid ((HP.out.at_ e (by simp)).fr hM5.fr)
          have hW1 := hM5.fr.size
          have hlen : (S' ++ [e1] ++ ((kidsV kb ko e.ks 0).drop (e.ks.len - j)).reverse).length = S'.length + 1 + j := by
            simp only [List.length_append, List.length_singleton, List.length_reverse, List.length_drop, kidsV_len]; omega
          have HLN := Lib.hid hlen
          clear hq hlen hM5
          by_cases hjl : j < e.ks.len
          · have h8 : (0 : Int) ≤ (e.ks.len : Int) - 1 - j := by omega
            have hA2 := hA (by omega)
            obtain ⟨kk, hkk⟩ : ∃ kk, kk + j + 1 = e.ks.len := ⟨e.ks.len - 1 - j, by omega⟩
            have h9 : (e.ks.len : Int) - 1 - j = (kk : Int) := by omega
            have hkI : (kk : Int) < e.ks.len := by omega
            have hkI0 : (0 : Int) ≤ kk := by omega
            obtain ⟨b', off', y, B', d', js, rs, K⟩ := HEQ.out.sl.kid (k := kk) (by omega)
            have hsl := K.slice
            rw [hA2] at hsl
            obtain ⟨rfl, rfl⟩ : kb = b' ∧ ko = off' := by simpa using hsl
            have hkg := kidsV_get kb ko e.ks 0 kk K.get
            rw [Nat.zero_add] at hkg
            have HDR := Lib.hid (show ((kidsV kb ko e.ks 0).drop (e.ks.len - (j + 1))).reverse = ((kidsV kb ko e.ks 0).drop (e.ks.len - j)).reverse ++ [⟨kb, ko + kk * 7, y, B', d', js, false⟩] by
              have h10 : kk < (kidsV kb ko e.ks 0).length := by rw [kidsV_len]; omega
              rw [show e.ks.len - (j + 1) = kk by omega, show e.ks.len - j = kk + 1 by omega, List.drop_eq_getElem_cons h10, List.reverse_cons]
              rw [List.getElem?_eq_getElem h10, Option.some.injEq] at hkg
              rw [hkg])
            have hkl2 := K.lt
            obtain ⟨-, -, -, -, -, -, c6⟩ := HEQ.out.nd
            have hblt2 : e.b < wr.heap.size := by omega
            rw [hA2] at c6
            rw [h9]
            have HKK := Lib.hid hkk
            have HA := Lib.hid hA
            have h10 : IntKind.i64.wrap ((kk : Int) - 1) = (kk : Int) - 1 := IntWalk.i64_in _ (by omega)
            have HH9 := Lib.hid h9
            have hcap : S'.length + 1 + j ≤ 40000 := by omega
            generalize hkL : e.ks.len = kl at *
            clear hkL hsl hkg K hA2 hA h9 h8 HEQ d6
            go_wp2_with (first
              | (at_builtin; refine wpList_app rfl _ _ 126 rfl elemVi (base := W1.heap.size) (xs := (S' ++ [e1] ++ ((kidsV kb ko e.ks 0).drop (kl - j)).reverse).flatMap vec) (news := vec ⟨kb, ko + kk * 7, y, B', d', js, false⟩) rfl ?own rfl ?src ?one ?h63 ?hby ?hbase ?_)
              | fail)
            case own =>
              have h11 := own_fr HM5.out.way ((Fr.refl Nob _).alloc (.cells #[.pointer (some ⟨kb, ko + kk * 7, none⟩), .bool false] 125)) (fun _ _ _ _ e => e)
              rw [HLN.out] at h11
              exact h11
            case src => exact Sl.new1 (Blk.new_eq (by simp)) 2 1 rfl (by decide)
            case one => exact vec_one _
            case h63 => unfold maxLen; omega
            case hby => omega
            case hbase => simp; omega
            intro A6 c6_ w6 hown6 hgr6 _
            have HM6 := Lib.hid ((HM5.out.pure ((Fr.refl Nob _).alloc (.cells #[.pointer (some ⟨kb, ko + kk * 7, none⟩), .bool false] 125))).wayTo (S2 := S' ++ [e1] ++ ((kidsV kb ko e.ks 0).drop (kl - (j + 1))).reverse) (m := S'.length + 1 + j + 1) (by
                rw [HDR.out, ← List.append_assoc, List.length_append, HLN.out]; rfl) (by
                rw [HDR.out, ← List.append_assoc, List.flatMap_append (ys := [_])]; simpa using hown6) hgr6)
            clear hown6 hgr6
            go_wp2_with fail
            go_roundw
            case rel => exact ⟨j + 1, A6, c6_, by have := HKK.out; omega, vint (by have := HKK.out; omega), rfl, Lib.hid ⟨kb, ko, HA.out, HM6.out⟩⟩
            case measure => simp [RowKit.intOf]
          · obtain rfl : j = e.ks.len := by omega
            have h9 : (e.ks.len : Int) - 1 - e.ks.len < 0 := by omega
            have h9b : ¬ (0 : Int) ≤ (e.ks.len : Int) - 1 - e.ks.len := by omega
            have HA := Lib.hid hA
            have hfe := fits_open hfit hef kb ko
            have hkc := kidsV_cnt kb ko e.ks 0
            have hee : e1 = { e with fl := true } := HE1.out
            have HPN := Lib.hid (show PlP W1.heap.size W1 T (S' ++ [e1] ++ (kidsV kb ko e.ks 0).reverse) pl.length n es from by
              have hc9 : cntV (S' ++ [e1] ++ (kidsV kb ko e.ks 0).reverse) = cntV (S'.concat e) := by
                rw [List.concat_eq_append, cntV_app, cntV_app, cntV_app, cntV_rev, hkc.1, hee]
                simp only [cntV, hef, if_true, if_false, Bool.false_eq_true]
                omega
              refine ⟨HP.out.ents, HP.out.esz, ?_, HP.out.pos, by rw [hc9]; exact hcn, by rw [hc9]; exact hpc, fun e9 he9 => ?_⟩
              · simp only [List.reverse_append, List.reverse_reverse, List.reverse_singleton, List.singleton_append]
                rw [hee]; exact hfe
              · rw [List.mem_append, List.mem_append, List.mem_reverse] at he9
                rcases he9 with (he9 | he9) | he9
                · exact HP.out.at_ e9 (by simp [he9])
                · rw [List.mem_singleton] at he9
                  have h12 := HP.out.at_ e (by simp)
                  rw [he9, hee]
                  exact ⟨h12.nd, h12.sl, h12.lt⟩
                · have h12 := HP.out.at_ e (by simp)
                  have h13 : 0 < e.ks.len := by
                    have := List.length_pos_of_mem he9
                    rwa [kidsV_len] at this
                  exact kidsV_at h12.sl (HA.out h13) e9 he9)
            have HWT := Lib.hid (show wtV (S' ++ [e1] ++ (kidsV kb ko e.ks 0).reverse) < wtV (S'.concat e) from by
              rw [List.concat_eq_append, wtV_app, wtV_app, wtV_app, wtV_rev, hkc.2, hee]
              simp only [wtV, hef, if_true, if_false, Bool.false_eq_true]
              omega)
            have HM9 := Lib.hid (show PlM W1 mb wr (S' ++ [e1] ++ (kidsV kb ko e.ks 0).reverse) WA2 wc2 pl PA pc n cells LA lc es clock from by
              have := HM5.out
              rwa [Nat.sub_self, List.drop_zero] at this)
            rw [Nat.sub_self, List.drop_zero] at HLN
            clear hA hfe hkc hee HA HM5 HEQ
            go_wp2_with fail
            go_roundg (wtV (S' ++ [e1] ++ (kidsV kb ko e.ks 0).reverse))
            case measure => have h14 := HWT.out; rwa [List.concat_eq_append] at h14
            case rel => exact Lib.hid ⟨_, _, _, _, _, _, _, _, _, _, _, _, rfl, rfl, by rw [HLN.out], rfl, HM9.out, HPN.out⟩
      · obtain ⟨hkp, hfit2⟩ := fits_shut hfit hef
        obtain ⟨-, -, -, -, -, -, d6⟩ := HEA.out.nd
        obtain ⟨lf, hlf⟩ : ∃ lf, pl.length = lf + e.ks.len := ⟨pl.length - e.ks.len, by omega⟩
        have HFT := Lib.hid (show fits S'.reverse (lf + 1) by rw [show lf + 1 = pl.length - e.ks.len + 1 by omega]; exact hfit2)
        have HMP := Lib.hid (HM.out.pop (S' := S') (e := e) rfl)
        have hcutW := fun W => cut_hi elemVi (some ⟨g, 0, none⟩) (n := S'.length + 1) (cap := wc) S'.length (by omega) W
        have hplc := (HM.out.pls).1
        have hps := Sl.of_own HM.out.pls
        have hpcl := hps.le
        have hpcm := hps.max
        unfold maxLen at hpcm
        obtain ⟨A2, hcutP, hsl⟩ : ∃ A2, (∀ W, (Instr.slice 93 (.slice PA pl.length pc) (some (.int .i64 lf)) none none).run Tryz.prog W = .ok (.slice A2 (pl.length - lf) (pc - lf)) W) ∧ Sl wr 1 A2 (pl.length - lf) (pc - lf) ((pl.drop lf).map ivI) := by
          refine ⟨_, fun W => cut_lo el_inG PA (n := pl.length) (cap := pc) lf (by omega) W, ?_⟩
          have h7 := hps.cut (k := lf) (by omega)
          rwa [drop_ivG] at h7
        have hcutQ := fun W => cut_hi el_inG PA (n := pl.length) (cap := pc) lf (by omega) W
        have HST := Lib.hid (pl_step wr e.b e.off e.x e.A e.ks.len e.c HEA.out.nd hblt A2 (pl.length - lf) (pc - lf) (pl.drop lf) hsl (by rw [List.length_drop]))
        have h6 : IntKind.i64.wrap ((pl.length : Int) - e.ks.len) = (lf : Int) := by rw [IntWalk.i64_in _ (by omega)]; omega
        have hlf2 : lf ≤ pl.length := by omega
        have hpl4 : pl.length ≤ 16004 := by omega
        have hn4 : n ≤ 16004 := by omega
        have HCN := Lib.hid (show n + cntV S' + 1 ≤ T ∧ lf + 1 + cntV S' ≤ T by
          rw [List.concat_eq_append, cntV_app] at hcn hpc
          simp only [cntV, hef, if_true] at hcn hpc
          omega)
        have HWT := Lib.hid (show wtV S' < wtV (S' ++ [e]) by rw [wtV_app]; simp only [wtV, hef, if_true]; omega)
        rw [hef] at c1_
        unfold StR at HST
        clear hps hsl hfit2 hplc hfit hlf hkp HWE
        go_upto_region 20 with (first
          | ((go_at_call 66); (with_reducible refine (HST.out).mono ?_); rintro e9 w3 ⟨so, sn, sa, sv, sl_, sh, sx, sy, rfl, hf3⟩; unfold stV; have HF3 := Lib.hid hf3; clear hf3)
          | fail)
        obtain ⟨W4, hW4⟩ : ∃ W4, W4 = w3.alloc (.cells #[.int .i64 so, .string sn, .int .i64 sa, .int .i64 sv, .int .i64 sl_, .int .i64 sh, .int .i64 sx, .int .i64 sy] 129) := ⟨_, rfl⟩
        have HB4 := Lib.hid (show Blk W4 w3.heap.size 129 #[.int .i64 so, .string sn, .int .i64 sa, .int .i64 sv, .int .i64 sl_, .int .i64 sh, .int .i64 sx, .int .i64 sy] by rw [hW4]; exact Blk.new _ _ _)
        have HM4 := Lib.hid (show PlM W1 mb W4 S' (some ⟨g, 0, none⟩) wc pl PA pc n cells LA lc es clock by rw [hW4]; exact HMP.out.pure (HF3.out.alloc _))
        have HKY := Lib.hid (show StK (.agg #[.int .i64 so, .string sn, .int .i64 sa, .int .i64 sv, .int .i64 sl_, .int .i64 sh, .int .i64 sx, .int .i64 sy]) from ⟨so, sn, sa, sv, sl_, sh, sx, sy, rfl⟩)
        obtain ⟨nv, ok, hlk, hne, hfk⟩ := st_lookup W4 mb es clock HM4.out.mp HP.out.ents (.agg #[.int .i64 so, .string sn, .int .i64 sa, .int .i64 sv, .int .i64 sl_, .int .i64 sh, .int .i64 sx, .int .i64 sy]) HKY.out
        have HNE := Lib.hid hne
        have HFK := Lib.hid hfk
        rw [← hW4]
        clear hW4 hne hfk HMP HF3 HST
        have bc := HB4.out.cell
        have bl := HB4.out.lt
        cases ok
        · obtain ⟨W5, hup, hmp5, hf5⟩ := st_update W4 mb es clock HM4.out.mp (.agg #[.int .i64 so, .string sn, .int .i64 sa, .int .i64 sv, .int .i64 sl_, .int .i64 sh, .int .i64 sx, .int .i64 sy]) HKY.out (.int .i64 n) (HFK.out rfl)
          have HMP5 := Lib.hid hmp5
          have HF5 := Lib.hid hf5
          have HMX0 := Lib.hid (HM4.out.mapTo hmp5 hf5)
          have hmbb : w3.heap.size ≠ mb := fun e9 => by
            have h7 := HB4.out
            have h8 := HM4.out.mp
            unfold Blk at h7
            rw [e9] at h7
            rw [h7] at h8
            cases h8
          have HB5 := Lib.hid (HB4.out.fr hf5 hmbb)
          have bc5 := HB5.out.cell
          have bl5 := HB5.out.lt
          clear hmp5 hf5
          go_upto_region 25 with (first
            | (at_builtin; refine wpList_app rfl _ _ 83 rfl elemSt (base := W1.heap.size) (xs := cells) (news := (stV so sn sa sv sl_ sh sx sy).toList) rfl ?ownL rfl ?srcL ?oneL ?hxL ?hbL ?hsL ?_)
            | fail)
          case ownL => exact own_fr HMX0.out.lst ((Fr.refl Nob _).alloc _) (fun _ _ _ _ e => e)
          case srcL => exact Sl.new1 (Blk.new_eq (by simp)) 8 1 rfl (by decide)
          case oneL => intro u hu; exact st_one so sn sa sv sl_ sh sx sy u (by simpa using hu)
          case hxL => unfold maxLen; omega
          case hbL => omega
          case hsL => have h7 := HMX0.out.fr.size; simp; omega
          intro A6 c6 w6 hown6 hgr6 _
          have HMX := Lib.hid ((HMX0.out.pure ((Fr.refl Nob _).alloc (.cells #[.int .i64 so, .string sn, .int .i64 sa, .int .i64 sv, .int .i64 sl_, .int .i64 sh, .int .i64 sx, .int .i64 sy] 129))).lstTo hown6 hgr6)
          clear hown6 hgr6 bc bl bc5 bl5
          have HPX := Lib.hid (show PlP W1.heap.size W1 T S' (pl.take lf ++ [(n : Int)]).length (n + 1) (es.push { key := .agg #[.int .i64 so, .string sn, .int .i64 sa, .int .i64 sv, .int .i64 sl_, .int .i64 sh, .int .i64 sx, .int .i64 sy], val := .int .i64 n, born := clock }) from by
            have hl9 : (pl.take lf ++ [(n : Int)]).length = lf + 1 := by rw [List.length_append, List.length_take]; simp; omega
            rw [hl9]
            refine ⟨fun e9 he9 => ?_, by rw [Array.size_push, HP.out.esz], HFT.out, fun _ => by omega, by have := HCN.out; omega, by have := HCN.out; omega, fun e9 he9 => HP.out.at_ e9 (by simp [he9])⟩
            rw [Array.toList_push, List.mem_append, List.mem_singleton] at he9
            rcases he9 with he9 | rfl
            · exact HP.out.ents e9 he9
            · exact ⟨HKY.out, n, rfl⟩)
          go_wp2_with (first
            | (at_builtin; refine wpList_app rfl _ _ 93 rfl el_inG (base := W1.heap.size) (xs := (pl.take lf).map ivI) (news := [ivI (n : Int)]) rfl ?own1 rfl ?src1 ?one1 ?hx1 ?hb1 ?hs1 ?_)
            | fail)
          case own1 =>
            have h7 := own_fr HMX.out.pls ((Fr.refl Nob _).alloc (.cells #[ivI (n : Int)] 3)) (fun _ _ _ _ e => e)
            rw [← List.take_append_drop lf pl, List.map_append] at h7
            have h8 := own_preN (m := lf) h7 (by rw [List.length_map, List.length_take, Nat.mul_one]; omega) (by rw [List.take_append_drop]; exact hlf2)
            first | exact h8 | (rw [List.map_take] at h8; exact h8)
          case src1 => exact Sl.new1 (Blk.new_eq (by simp)) 1 1 rfl (by decide)
          case one1 => first | rfl | (intro u hu; simp at hu; subst hu; rfl)
          case hx1 => unfold maxLen; omega
          case hb1 => omega
          case hs1 => have h7 := HMX.out.fr.size; simp; omega
          intro A7 c7 w7 hown7 hgr7 _
          have HM7 := Lib.hid ((HMX.out.pure ((Fr.refl Nob _).alloc (.cells #[ivI (n : Int)] 3))).plsTo (pl2 := pl.take lf ++ [(n : Int)]) (m := lf + 1) (by rw [List.length_append, List.length_take]; simp; omega) (by rw [List.map_append, List.map_take]; exact hown7) hgr7)
          clear hown7 hgr7
          have HLP := Lib.hid (show (pl.take lf ++ [(n : Int)]).length = lf + 1 by rw [List.length_append, List.length_take]; simp; omega)
          go_wp2_with fail
          go_roundg (wtV S')
          case measure => have h14 := HWT.out; rwa [← List.concat_eq_append] at h14
          case rel => exact Lib.hid ⟨_, _, _, _, _, _, _, _, _, _, _, _, rfl, by rw [HLP.out] <;> rfl, rfl, rfl, HM7.out, HPX.out⟩
        · have hne9 : 1 ≤ n := by
            have h7 := HNE.out rfl
            have h8 := HP.out.esz
            rcases Nat.eq_zero_or_pos n with h9 | h9
            · rw [h9] at h8; exact absurd (Array.eq_empty_of_size_eq_zero h8) h7
            · exact h9
          have HMX := HM4
          have HPX := Lib.hid (show PlP W1.heap.size W1 T S' (pl.take lf ++ [nv]).length n es from by
            have hl9 : (pl.take lf ++ [nv]).length = lf + 1 := by rw [List.length_append, List.length_take]; simp; omega
            rw [hl9]
            exact ⟨HP.out.ents, HP.out.esz, HFT.out, fun _ => hne9, by have := HCN.out; omega, by have := HCN.out; omega, fun e9 he9 => HP.out.at_ e9 (by simp [he9])⟩)
          go_wp2_with (first
            | (at_builtin; refine wpList_app rfl _ _ 93 rfl el_inG (base := W1.heap.size) (xs := (pl.take lf).map ivI) (news := [ivI nv]) rfl ?own2 rfl ?src2 ?one2 ?hx2 ?hb2 ?hs2 ?_)
            | fail)
          case own2 =>
            have h7 := own_fr HMX.out.pls ((Fr.refl Nob _).alloc (.cells #[ivI nv] 3)) (fun _ _ _ _ e => e)
            rw [← List.take_append_drop lf pl, List.map_append] at h7
            have h8 := own_preN (m := lf) h7 (by rw [List.length_map, List.length_take, Nat.mul_one]; omega) (by rw [List.take_append_drop]; exact hlf2)
            first | exact h8 | (rw [List.map_take] at h8; exact h8)
          case src2 => exact Sl.new1 (Blk.new_eq (by simp)) 1 1 rfl (by decide)
          case one2 => first | rfl | (intro u hu; simp at hu; subst hu; rfl)
          case hx2 => unfold maxLen; omega
          case hb2 => omega
          case hs2 => have h7 := HMX.out.fr.size; simp; omega
          intro A7 c7 w7 hown7 hgr7 _
          have HM7 := Lib.hid ((HMX.out.pure ((Fr.refl Nob _).alloc (.cells #[ivI nv] 3))).plsTo (pl2 := pl.take lf ++ [nv]) (m := lf + 1) (by rw [List.length_append, List.length_take]; simp; omega) (by rw [List.map_append, List.map_take]; exact hown7) hgr7)
          clear hown7 hgr7
          have HLP := Lib.hid (show (pl.take lf ++ [nv]).length = lf + 1 by rw [List.length_append, List.length_take]; simp; omega)
          go_wp2_with fail
          go_roundg (wtV S')
          case measure => have h14 := HWT.out; rwa [← List.concat_eq_append] at h14
          case rel => exact Lib.hid ⟨_, _, _, _, _, _, _, _, _, _, _, _, rfl, by rw [HLP.out] <;> rfl, rfl, rfl, HM7.out, HPX.out⟩
end Go.Proofs.YtoegdmpmagbaiaaGreatDoor
