/- The laws of scripts: the document's examples. -/
import Derived.Test.YtidhlfcmjpnhgaaGreatDoorSK
import Derived.Test.YtidhlfcmjpnhgaaGreatDoorST
import Derived.Test.YtidhlfcmjpnhgaaGreatDoorSA
namespace Go.Proofs.YtidhlfcmjpnhgaaGreatDoor
open Go.RowKit Go.Lib Go.Shelf Go.Sort

theorem nums_str (l : List UInt8) : strOfNums (l.map fun b => (b.toNat : Int)) = ⟨l.toArray⟩ := by
  apply ByteArray.ext
  have h : ((fun n : Int => UInt8.ofNat n.toNat) ∘ fun b : UInt8 => (b.toNat : Int)) = id := by funext b; simp
  simp [strOfNums, h]
/-- Bytes in memory, made a text. -/
theorem run_str {w : World} {A : Option Addr} {d : Nat} {l : List UInt8} (h : Sl w 1 A l.length d (byteCells l)) : (convert 32 9 (.slice A l.length d)).run Tryz.prog w = .ok (.string ⟨l.toArray⟩) w := by
  by_cases hn : 0 < l.length
  · obtain ⟨b, off, rfl, -, hc⟩ := h.cells hn
    have := run_convert_bytes_arg (P := Tryz.prog) w 32 5 Tryz.underlying32 Tryz.underlying5 b off l.length d (l.map fun b => (b.toNat : Int)) (by simp) (fun i hi => by
      have := hc i (.int .u8 l[i].toNat) (by simp [byteCells, hi])
      rw [this]
      simp [List.getD_eq_getElem?_getD, hi]) 9 Tryz.underlying9
    rw [nums_str] at this
    exact this
  · have h0 : l = [] := List.length_eq_zero_iff.1 (by omega)
    subst h0
    cases A with
    | none => exact run_convert_bytes_nil (P := Tryz.prog) w 32 5 Tryz.underlying32 Tryz.underlying5 0 d 9 Tryz.underlying9
    | some a =>
      rw [run_convert_bytes_string w _ _ _ _ _ _ Tryz.underlying32 Tryz.underlying5 Tryz.underlying9]
      have hl : (loadCells a 0).run Tryz.prog w = .ok #[] w := run_loadCells_list (P := Tryz.prog) w a [] (fun j v hj => by simp at hj)
      simp [Conv.bytesToString, hl]
      rfl
theorem stc_at {w : World} {A : Option Addr} {c : Nat} {L : List StV} (h : Sl w 4 A L.length c (L.flatMap stc)) {k : Nat} (hk : k < L.length) : ∃ g o, A = some ⟨g, o, none⟩ ∧ g < w.heap.size ∧ w.cell? ⟨g, o + k * 4, none⟩ = some (.int .i64 L[k].z.kind) ∧ w.cell? ⟨g, o + k * 4 + 1, none⟩ = some (.int .i64 L[k].z.src) ∧ w.cell? ⟨g, o + k * 4 + 2, none⟩ = some (.int .i64 L[k].z.n) ∧ w.cell? ⟨g, o + k * 4 + 3, none⟩ = some (.slice L[k].B L[k].z.b.length L[k].d) := by
  obtain ⟨g, o, he, hb, hc⟩ := Sl.row (size := 4) stc_len h hk
  exact ⟨g, o, he, hb, hc 0 _ rfl, by rw [Nat.add_assoc]; exact hc 1 _ rfl, by rw [Nat.add_assoc]; exact hc 2 _ rfl, by rw [Nat.add_assoc]; exact hc 3 _ rfl⟩
/-- What the library's variables hold. -/
structure SV (w : World) : Prop where
  er : ErrVar w
  mx : MaxVar w
  tn : TnVar w
theorem SV.fr {w w' : World} (h : SV w) (hf : Fr Nob w w') : SV w' := ⟨h.er.fr hf, h.mx.fr hf, h.tn.fr hf⟩
theorem prg_SOf (w : World) (s : ByteArray) (hs : s.size ≤ 100000) (hv : SV w) {z : List ZC × Int × Int} (h : readS s.data.toList = z) : Calls Tryz.prog 7 #[.string s] w fun e w' => SReadP w z e w' := h ▸ prg_SRead w s hs hv.er hv.mx hv.tn
theorem two_steps {L : List StV} {x y : ZC} (h : L.map StV.z = [x, y]) : ∃ B d B' d', L = [⟨x, B, d⟩, ⟨y, B', d'⟩] := by
  match L, h with
  | [⟨x', B, d⟩, ⟨y', B', d'⟩], h =>
    simp only [List.map_cons, List.map_nil, List.cons.injEq, and_true] at h
    obtain ⟨rfl, rfl⟩ := h
    exact ⟨B, d, B', d', rfl⟩
theorem evM_ok : MOk evM := ⟨by decide, by decide, by unfold I64; decide, by decide, fun p hp => by
  simp only [evM, evP, List.mem_cons, List.not_mem_nil, or_false] at hp
  rcases hp with rfl | rfl <;> exact ⟨by decide, by unfold I64; decide⟩⟩
/-- What the examples' last region reads. -/
def AwS (W : World) (g o x n d0 : Nat) (B0 A : Option Addr) (fm : ByteArray) : Prop :=
  W.cell? ⟨g, o, none⟩ = some (.int .i64 2) ∧ W.cell? ⟨g, o + 3, none⟩ = some (.slice B0 n d0) ∧ W.cell? ⟨g, o + 4, none⟩ = some (.int .i64 3) ∧ W.cell? ⟨x, 0, none⟩ = some (.int .u8 2) ∧ W.cell? ⟨x, 1, none⟩ = some (.int .u64 7) ∧ W.cell? ⟨x, 2, none⟩ = some (.int .i64 30) ∧ W.cell? ⟨x, 3, none⟩ = some (.slice A 2 2) ∧ (convert 32 9 (.slice B0 n d0)).run Tryz.prog W = .ok (.string fm) W
theorem AwS.mk {w W : World} {g o x d0 : Nat} {B0 A : Option Addr} {l : List UInt8} (h0 : w.cell? ⟨g, o, none⟩ = some (.int .i64 2)) (h3 : w.cell? ⟨g, o + 3, none⟩ = some (.slice B0 l.length d0)) (h4 : w.cell? ⟨g, o + 4, none⟩ = some (.int .i64 3)) (hx : Blk w x 39 #[.int .u8 2, .int .u64 7, .int .i64 30, .slice A 2 2]) (hs : Sl w 1 B0 l.length d0 (byteCells l)) (hf : Fr Nob w W) : AwS W g o x l.length d0 B0 A ⟨l.toArray⟩ := by
  have hb := hx.fr hf (fun e => e)
  exact ⟨Fr.cell hf h0 (fun e => e), Fr.cell hf h3 (fun e => e), Fr.cell hf h4 (fun e => e), hb.cell 0, hb.cell 1, hb.cell 2, hb.cell 3, run_str (hs.pure hf)⟩
set_option maxRecDepth 100000 in
set_option maxHeartbeats 4000000 in
theorem law27_awake (w : World) (hv : SV w) : Calls Tryz.prog 6 #[] w fun e w' => e = .returned (.bool true) ∧ Fr Nob w w' := by
  have HV := Lib.hid hv
  have HR1 := Lib.hid (fun (W : World) (h : SV W) => prg_SOf W ⟨#[101, 118, 101, 110, 116, 32, 48, 32, 55, 32, 51, 48, 32, 97, 61, 49, 32, 98, 61, 45, 50, 10, 10, 35, 32, 120, 10, 32, 100, 114, 97, 105, 110, 32, 32]⟩ (by decide) h ev_1)
  have HR2 := Lib.hid (fun (W : World) (h : SV W) => prg_SOf W ⟨#[116, 105, 99, 107, 32, 48, 48, 55]⟩ (by decide) h ev_2)
  have HR3 := Lib.hid (fun (W : World) (h : SV W) => prg_SOf W ⟨#[113, 117, 101, 114, 121, 10, 98, 101, 97, 116, 32, 56, 32, 49]⟩ (by decide) h ev_3)
  clear hv
  go_enter Tryz.func6, Tryz.ntmps6
  go_upto_region 5 with (first
    | ((go_at_call 7); (with_reducible refine (HR1.out _ HV.out).mono ?_); rintro e w1 ⟨A1, c1, L1, rfl, hL1, hs1, hk1, hf1⟩; have HF1 := Lib.hid hf1; have HS1 := Lib.hid hs1; have HK1 := Lib.hid hk1; have HL1 := Lib.hid hL1; clear hL1 hs1 hk1 hf1)
    | ((go_at_call 7); (with_reducible refine (HR2.out _ (HV.out.fr HF1.out)).mono ?_); rintro e w2 ⟨A2, c2, L2, rfl, -, -, -, hf2⟩; have HF2 := Lib.hid (HF1.out.call hf2 (fun _ e _ => e)); have HG2 := Lib.hid hf2; clear hf2)
    | ((go_at_call 7); (with_reducible refine (HR3.out _ (HV.out.fr HF2.out)).mono ?_); rintro e w3 ⟨A3, c3, L3, rfl, -, -, -, hf3⟩; have HF3 := Lib.hid (HF2.out.call hf3 (fun _ e _ => e)); have HG3 := Lib.hid (HG2.out.call hf3 (fun _ e _ => e)); clear hf3)
    | fail)
  obtain ⟨B0, d0, B1, d1, hL⟩ := two_steps HL1.out
  subst hL
  have hst3 : Sl w3 4 A1 ([⟨⟨2, 0, 0, frameM evM⟩, B0, d0⟩, ⟨⟨3, 0, 0, []⟩, B1, d1⟩] : List StV).length c1 (([⟨⟨2, 0, 0, frameM evM⟩, B0, d0⟩, ⟨⟨3, 0, 0, []⟩, B1, d1⟩] : List StV).flatMap stc) := HS1.out.pure HG3.out
  obtain ⟨g, o, rfl, hg, a0, -, -, a3⟩ := stc_at hst3 (k := 0) (by simp)
  obtain ⟨g', o', he, -, b0, -, -, -⟩ := stc_at hst3 (k := 1) (by simp)
  clear hst3
  obtain ⟨rfl, rfl⟩ : g = g' ∧ o = o' := by injection he with he; injection he with e1 e2; exact ⟨e1, e2⟩
  simp only [Nat.zero_mul, Nat.add_zero, Nat.one_mul, List.getElem_cons_zero, List.getElem_cons_succ] at a0 a3 b0
  have HST := Lib.hid (HK1.out _ (List.mem_cons_self))
  unfold StOk at HST
  simp only at HST
  have hle1 := HS1.out.le
  simp only [List.length_cons, List.length_nil] at hle1
  obtain ⟨W4, hW4⟩ : ∃ W4, W4 = ((w3.alloc (.cells #[.string ⟨#[97]⟩, .int .i64 1, .string ⟨#[98]⟩, .int .i64 (-2)] 41)).alloc (.cells #[.int .u8 2, .int .u64 7, .int .i64 30, .slice (some ⟨w3.heap.size, 0, none⟩) 2 2] 39)) := ⟨_, rfl⟩
  have HG4 := Lib.hid (show Fr Nob w3 W4 by rw [hW4]; exact ((Fr.refl _ _).alloc _).alloc _)
  have HBX := Lib.hid (show Blk W4 (w3.heap.size + 1) 39 #[.int .u8 2, .int .u64 7, .int .i64 30, .slice (some ⟨w3.heap.size, 0, none⟩) 2 2] by rw [hW4]; exact Blk.new_eq (by simp))
  have HPS := Lib.hid (show Sl W4 2 (some ⟨w3.heap.size, 0, none⟩) evP.length 2 (evP.flatMap pcs) by rw [hW4]; exact (Sl.new1 (Blk.new _ _ _) 2 2 rfl (by decide)).alloc _)
  rw [← hW4]
  clear hW4
  have a0 := Fr.cell HG4.out a0 (fun e => e)
  have a3 := Fr.cell HG4.out a3 (fun e => e)
  have b0 := Fr.cell HG4.out b0 (fun e => e)
  have HS4 := Lib.hid (HST.out.pure (HG3.out.call HG4.out (fun _ e _ => e)))
  have HF4 := Lib.hid (HF3.out.call HG4.out (fun _ e _ => e))
  have HV4 := Lib.hid (HV.out.fr HF4.out)
  have HMK := Lib.hid (fun W (hf : Fr Nob W4 W) => AwS.mk a0 a3 b0 HBX.out HS4.out hf)
  have HD0 := Lib.hid (HMK.out _ (Fr.refl Nob W4).drew)
  have HCF := Lib.hid (prg_MFrame W4.drew evM (some ⟨w3.heap.size, 0, none⟩) 2 HPS.out.drew evM_ok (HV4.out.fr (Fr.refl Nob W4).drew).tn)
  rw [show mV evM (some ⟨w3.heap.size, 0, none⟩) 2 = #[.int .u8 2, .int .u64 7, .int .i64 30, .slice (some ⟨w3.heap.size, 0, none⟩) 2 2] from rfl] at HCF
  have hgl : g < W4.heap.size := by have := HG4.out.size; omega
  have hxl := HBX.out.lt
  generalize frameM evM = fm at *
  generalize w3.heap.size + 1 = x at *
  generalize (some ⟨w3.heap.size, 0, none⟩ : Option Addr) = PA at *
  unfold BsR at HCF
  unfold AwS at HMK
  clear HD0 HR1 HR2 HR3 HS1 HL1 HK1 HST HPS HBX HG4 HG3 HG2 HF1 HF2 HF3 a0 a3 b0 hg HV
  refine wp_region_held_drew (S := fun W => Fr Nob W4 W) (by kernel_rfl) ((Fr.refl Nob W4).drew) (fun hHeld => ?_)
  refine takeH (i := 0) (t := 30) (v := ?_) rfl (by rfl) (by kernel_rfl) (by kernel_rfl) (by kernel_rfl) (fun _ _ _ h => h) (Or.inl ⟨by rfl, ?_⟩) (by assumption) ?_
  rotate_left
  · (intro W hSw; go_simp)
    all_goals with_reducible rfl
  simp only [List.setIfInBounds_toArray, List.set_cons_zero, List.set_cons_succ]
  refine takeH (i := 1) (t := 31) (v := ?_) rfl (by rfl) (by kernel_rfl) (by kernel_rfl) (by kernel_rfl) (fun _ _ _ h => h) (Or.inl ⟨by rfl, ?_⟩) (by assumption) ?_
  rotate_left
  · (intro W hSw; go_simp)
    all_goals with_reducible rfl
  simp only [List.setIfInBounds_toArray, List.set_cons_zero, List.set_cons_succ]
  refine takeH (i := 2) (t := 32) (v := ?_) rfl (by rfl) (by kernel_rfl) (by kernel_rfl) (by kernel_rfl) (fun _ _ _ h => h) (Or.inl ⟨by rfl, ?_⟩) (by assumption) ?_
  rotate_left
  · (intro W hSw; go_simp)
    all_goals with_reducible rfl
  simp only [List.setIfInBounds_toArray, List.set_cons_zero, List.set_cons_succ]
  refine takeH (i := 3) (t := 33) (v := ?_) rfl (by rfl) (by kernel_rfl) (by kernel_rfl) (by kernel_rfl) (fun _ _ _ h => h) (Or.inl ⟨by rfl, ?_⟩) (by assumption) ?_
  rotate_left
  · (intro W hSw; go_simp)
    all_goals with_reducible rfl
  simp only [List.setIfInBounds_toArray, List.set_cons_zero, List.set_cons_succ]
  refine takeH (i := 4) (t := 34) (v := ?_) rfl (by rfl) (by kernel_rfl) (by kernel_rfl) (by kernel_rfl) (fun _ _ _ h => h) (Or.inl ⟨by rfl, ?_⟩) (by assumption) ?_
  rotate_left
  · (intro W hSw; go_simp)
    all_goals with_reducible rfl
  simp only [List.setIfInBounds_toArray, List.set_cons_zero, List.set_cons_succ]
  refine takeH (i := 5) (t := 35) (v := ?_) rfl (by rfl) (by kernel_rfl) (by kernel_rfl) (by kernel_rfl) (fun _ _ _ h => h) (Or.inl ⟨by rfl, ?_⟩) (by assumption) ?_
  rotate_left
  · (intro W hSw; go_simp)
    all_goals with_reducible rfl
  simp only [List.setIfInBounds_toArray, List.set_cons_zero, List.set_cons_succ]
  refine takeH (i := 6) (t := 36) (v := ?_) rfl (by rfl) (by kernel_rfl) (by kernel_rfl) (by kernel_rfl) (fun _ _ _ h => h) (Or.inl ⟨by rfl, ?_⟩) (by assumption) ?_
  rotate_left
  · (intro W hSw; go_simp)
    all_goals with_reducible rfl
  simp only [List.setIfInBounds_toArray, List.set_cons_zero, List.set_cons_succ]
  refine takeH (i := 7) (t := 37) (v := ?_) rfl (by rfl) (by kernel_rfl) (by kernel_rfl) (by kernel_rfl) (fun _ _ _ h => h) (Or.inl ⟨by rfl, ?_⟩) (by assumption) ?_
  rotate_left
  · (intro W hSw; go_simp)
    all_goals with_reducible rfl
  simp only [List.setIfInBounds_toArray, List.set_cons_zero, List.set_cons_succ]
  refine takeH (i := 8) (t := 38) (v := ?_) rfl (by rfl) (by kernel_rfl) (by kernel_rfl) (by kernel_rfl) (fun _ _ _ h => h) (Or.inl ⟨by rfl, ?_⟩) (by assumption) ?_
  rotate_left
  · (intro W hSw; go_simp)
    all_goals with_reducible rfl
  simp only [List.setIfInBounds_toArray, List.set_cons_zero, List.set_cons_succ]
  refine takeH (i := 9) (t := 39) (v := ?_) rfl (by rfl) (by kernel_rfl) (by kernel_rfl) (by kernel_rfl) (fun _ _ _ h => h) (Or.inl ⟨by rfl, ?_⟩) (by assumption) ?_
  rotate_left
  · (intro W hSw; go_simp)
    all_goals with_reducible rfl
  simp only [List.setIfInBounds_toArray, List.set_cons_zero, List.set_cons_succ]
  refine takeH (i := 10) (t := 40) (v := ?_) rfl (by rfl) (by kernel_rfl) (by kernel_rfl) (by kernel_rfl) (fun _ _ _ h => h) (Or.inl ⟨by rfl, ?_⟩) (by assumption) ?_
  rotate_left
  · (intro W hSw; go_simp)
    all_goals with_reducible rfl
  simp only [List.setIfInBounds_toArray, List.set_cons_zero, List.set_cons_succ]
  refine takeH (i := 11) (t := 41) (v := ?_) rfl (by rfl) (by kernel_rfl) (by kernel_rfl) (by kernel_rfl) (fun _ _ _ h => h) (Or.inl ⟨by rfl, ?_⟩) (by assumption) ?_
  rotate_left
  · (intro W hSw; go_simp)
    all_goals with_reducible rfl
  simp only [List.setIfInBounds_toArray, List.set_cons_zero, List.set_cons_succ]
  refine takeH (i := 12) (t := 42) (v := ?_) rfl (by rfl) (by kernel_rfl) (by kernel_rfl) (by kernel_rfl) (fun _ _ _ h => h) (Or.inl ⟨by rfl, ?_⟩) (by assumption) ?_
  rotate_left
  · (intro W hSw; go_simp)
    all_goals with_reducible rfl
  simp only [List.setIfInBounds_toArray, List.set_cons_zero, List.set_cons_succ]
  refine takeH (i := 13) (t := 43) (v := ?_) rfl (by rfl) (by kernel_rfl) (by kernel_rfl) (by kernel_rfl) (fun _ _ _ h => h) (Or.inl ⟨by rfl, ?_⟩) (by assumption) ?_
  rotate_left
  · (intro W hSw; go_simp)
    all_goals with_reducible rfl
  simp only [List.setIfInBounds_toArray, List.set_cons_zero, List.set_cons_succ]
  refine takeH (i := 14) (t := 44) (v := ?_) rfl (by rfl) (by kernel_rfl) (by kernel_rfl) (by kernel_rfl) (fun _ _ _ h => h) (Or.inl ⟨by rfl, ?_⟩) (by assumption) ?_
  rotate_left
  · (intro W hSw; go_simp)
    all_goals with_reducible rfl
  simp only [List.setIfInBounds_toArray, List.set_cons_zero, List.set_cons_succ]
  refine takeH (i := 15) (t := 45) (v := ?_) rfl (by rfl) (by kernel_rfl) (by kernel_rfl) (by kernel_rfl) (fun _ _ _ h => h) (Or.inl ⟨by rfl, ?_⟩) (by assumption) ?_
  rotate_left
  · (intro W hSw; obtain ⟨m1, m2, m3, m4, m5, m6, m7, m8⟩ := HMK.out W hSw; go_simp)
    all_goals with_reducible rfl
  simp only [List.setIfInBounds_toArray, List.set_cons_zero, List.set_cons_succ]
  refine takeH (i := 16) (t := 46) (v := ?_) rfl (by rfl) (by kernel_rfl) (by kernel_rfl) (by kernel_rfl) (fun _ _ _ h => h) (Or.inl ⟨by rfl, ?_⟩) (by assumption) ?_
  rotate_left
  · (intro W hSw; go_simp)
    all_goals with_reducible rfl
  simp only [List.setIfInBounds_toArray, List.set_cons_zero, List.set_cons_succ]
  refine takeH (i := 17) (t := 47) (v := ?_) rfl (by rfl) (by kernel_rfl) (by kernel_rfl) (by kernel_rfl) (fun _ _ _ h => h) (Or.inl ⟨by rfl, ?_⟩) (by assumption) ?_
  rotate_left
  · (intro W hSw; go_simp)
    all_goals with_reducible rfl
  simp only [List.setIfInBounds_toArray, List.set_cons_zero, List.set_cons_succ]
  refine takeH (i := 18) (t := 48) (v := ?_) rfl (by rfl) (by kernel_rfl) (by kernel_rfl) (by kernel_rfl) (fun _ _ _ h => h) (Or.inl ⟨by rfl, ?_⟩) (by assumption) ?_
  rotate_left
  · (intro W hSw; go_simp)
    all_goals with_reducible rfl
  simp only [List.setIfInBounds_toArray, List.set_cons_zero, List.set_cons_succ]
  refine takeH (i := 19) (t := 49) (v := ?_) rfl (by rfl) (by kernel_rfl) (by kernel_rfl) (by kernel_rfl) (fun _ _ _ h => h) (Or.inl ⟨by rfl, ?_⟩) (by assumption) ?_
  rotate_left
  · (intro W hSw; go_simp)
    all_goals with_reducible rfl
  simp only [List.setIfInBounds_toArray, List.set_cons_zero, List.set_cons_succ]
  refine takeH (i := 20) (t := 50) (v := ?_) rfl (by rfl) (by kernel_rfl) (by kernel_rfl) (by kernel_rfl) (fun _ _ _ h => h) (Or.inl ⟨by rfl, ?_⟩) (by assumption) ?_
  rotate_left
  · (intro W hSw; go_simp)
    all_goals with_reducible rfl
  simp only [List.setIfInBounds_toArray, List.set_cons_zero, List.set_cons_succ]
  refine takeH (i := 21) (t := 51) (v := ?_) rfl (by rfl) (by kernel_rfl) (by kernel_rfl) (by kernel_rfl) (fun _ _ _ h => h) (Or.inl ⟨by rfl, ?_⟩) (by assumption) ?_
  rotate_left
  · (intro W hSw; go_simp)
    all_goals with_reducible rfl
  simp only [List.setIfInBounds_toArray, List.set_cons_zero, List.set_cons_succ]
  refine takeH (i := 22) (t := 52) (v := ?_) rfl (by rfl) (by kernel_rfl) (by kernel_rfl) (by kernel_rfl) (fun _ _ _ h => h) (Or.inl ⟨by rfl, ?_⟩) (by assumption) ?_
  rotate_left
  · (intro W hSw; obtain ⟨m1, m2, m3, m4, m5, m6, m7, m8⟩ := HMK.out W hSw; go_simp)
    all_goals with_reducible rfl
  simp only [List.setIfInBounds_toArray, List.set_cons_zero, List.set_cons_succ]
  refine takeH (i := 23) (t := 53) (v := ?_) rfl (by rfl) (by kernel_rfl) (by kernel_rfl) (by kernel_rfl) (fun _ _ _ h => h) (Or.inl ⟨by rfl, ?_⟩) (by assumption) ?_
  rotate_left
  · (intro W hSw; obtain ⟨m1, m2, m3, m4, m5, m6, m7, m8⟩ := HMK.out W hSw; go_simp)
    all_goals with_reducible rfl
  simp only [List.setIfInBounds_toArray, List.set_cons_zero, List.set_cons_succ]
  refine takeH (i := 24) (t := 54) (v := ?_) rfl (by rfl) (by kernel_rfl) (by kernel_rfl) (by kernel_rfl) (fun _ _ _ h => h) (Or.inl ⟨by rfl, ?_⟩) (by assumption) ?_
  rotate_left
  · (intro W hSw; obtain ⟨m1, m2, m3, m4, m5, m6, m7, m8⟩ := HMK.out W hSw; go_simp)
    all_goals with_reducible rfl
  simp only [List.setIfInBounds_toArray, List.set_cons_zero, List.set_cons_succ]
  refine wpAnyH_ready (rs := [25]) (by kernel_rfl) (by simp) ?_
  refine AllReadyH.cons rfl (fun K hK => ?_) AllReadyH.nil
  go_simp
  (go_at_call 12)
  (with_reducible refine HCF.out.mono ?_)
  rintro e w5 ⟨A5, c5, rfl, hp5⟩
  have HG5 := Lib.hid ((Fr.refl Nob W4).drew.call hp5.fr (fun _ e _ => e))
  have hcv5 := run_str hp5.sl
  clear hp5
  go_simp
  refine hK.out _ _ ?_ (fun hHeld => ?_)
  · exact HG5.out
  clear hK K
  refine wpAnyH_ready (rs := [26]) (by kernel_rfl) (by simp) ?_
  refine AllReadyH.cons rfl (fun K hK => ?_) AllReadyH.nil
  go_simp
  refine hK.out _ _ ?_ (fun hHeld => ?_)
  · exact HG5.out
  clear hK K
  refine takeH (i := 27) (t := 57) (v := ?_) rfl (by rfl) (by kernel_rfl) (by kernel_rfl) (by kernel_rfl) (fun _ _ _ h => h) (Or.inl ⟨by rfl, ?_⟩) (by assumption) ?_
  rotate_left
  · (intro W hSw; go_simp)
    all_goals with_reducible rfl
  simp only [List.setIfInBounds_toArray, List.set_cons_zero, List.set_cons_succ]
  refine takeH (i := 28) (t := 58) (v := ?_) rfl (by rfl) (by kernel_rfl) (by kernel_rfl) (by kernel_rfl) (fun _ _ _ h => h) (Or.inl ⟨by rfl, ?_⟩) (by assumption) ?_
  rotate_left
  · (intro W hSw; go_simp)
    all_goals with_reducible rfl
  simp only [List.setIfInBounds_toArray, List.set_cons_zero, List.set_cons_succ]
  refine takeH (i := 29) (t := 59) (v := ?_) rfl (by rfl) (by kernel_rfl) (by kernel_rfl) (by kernel_rfl) (fun _ _ _ h => h) (Or.inl ⟨by rfl, ?_⟩) (by assumption) ?_
  rotate_left
  · (intro W hSw; go_simp)
    all_goals with_reducible rfl
  simp only [List.setIfInBounds_toArray, List.set_cons_zero, List.set_cons_succ]
  refine takeH (i := 30) (t := 60) (v := ?_) rfl (by rfl) (by kernel_rfl) (by kernel_rfl) (by kernel_rfl) (fun _ _ _ h => h) (Or.inl ⟨by rfl, ?_⟩) (by assumption) ?_
  rotate_left
  · (intro W hSw; go_simp)
    all_goals with_reducible rfl
  simp only [List.setIfInBounds_toArray, List.set_cons_zero, List.set_cons_succ]
  refine takeH (i := 31) (t := 61) (v := ?_) rfl (by rfl) (by kernel_rfl) (by kernel_rfl) (by kernel_rfl) (fun _ _ _ h => h) (Or.inl ⟨by rfl, ?_⟩) (by assumption) ?_
  rotate_left
  · (intro W hSw; go_simp)
    all_goals with_reducible rfl
  simp only [List.setIfInBounds_toArray, List.set_cons_zero, List.set_cons_succ]
  refine takeH (i := 32) (t := 62) (v := ?_) rfl (by rfl) (by kernel_rfl) (by kernel_rfl) (by kernel_rfl) (fun _ _ _ h => h) (Or.inl ⟨by rfl, ?_⟩) (by assumption) ?_
  rotate_left
  · (intro W hSw; go_simp)
    all_goals with_reducible rfl
  simp only [List.setIfInBounds_toArray, List.set_cons_zero, List.set_cons_succ]
  refine takeH (i := 33) (t := 63) (v := ?_) rfl (by rfl) (by kernel_rfl) (by kernel_rfl) (by kernel_rfl) (fun _ _ _ h => h) (Or.inl ⟨by rfl, ?_⟩) (by assumption) ?_
  rotate_left
  · (intro W hSw; obtain ⟨m1, m2, m3, m4, m5, m6, m7, m8⟩ := HMK.out W hSw; go_simp)
    all_goals with_reducible rfl
  simp only [List.setIfInBounds_toArray, List.set_cons_zero, List.set_cons_succ]
  refine takeH (i := 34) (t := 64) (v := ?_) rfl (by rfl) (by kernel_rfl) (by kernel_rfl) (by kernel_rfl) (fun _ _ _ h => h) (Or.inl ⟨by rfl, ?_⟩) (by assumption) ?_
  rotate_left
  · (intro W hSw; go_simp)
    all_goals with_reducible rfl
  simp only [List.setIfInBounds_toArray, List.set_cons_zero, List.set_cons_succ]
  refine takeH (i := 35) (t := 65) (v := ?_) rfl (by rfl) (by kernel_rfl) (by kernel_rfl) (by kernel_rfl) (fun _ _ _ h => h) (Or.inl ⟨by rfl, ?_⟩) (by assumption) ?_
  rotate_left
  · (intro W hSw; go_simp)
    all_goals with_reducible rfl
  simp only [List.setIfInBounds_toArray, List.set_cons_zero, List.set_cons_succ]
  refine takeH (i := 36) (t := 66) (v := ?_) rfl (by rfl) (by kernel_rfl) (by kernel_rfl) (by kernel_rfl) (fun _ _ _ h => h) (Or.inl ⟨by rfl, ?_⟩) (by assumption) ?_
  rotate_left
  · (intro W hSw; go_simp)
    all_goals with_reducible rfl
  simp only [List.setIfInBounds_toArray, List.set_cons_zero, List.set_cons_succ]
  refine takeH (i := 37) (t := 67) (v := ?_) rfl (by rfl) (by kernel_rfl) (by kernel_rfl) (by kernel_rfl) (fun _ _ _ h => h) (Or.inl ⟨by rfl, ?_⟩) (by assumption) ?_
  rotate_left
  · (intro W hSw; go_simp)
    all_goals with_reducible rfl
  simp only [List.setIfInBounds_toArray, List.set_cons_zero, List.set_cons_succ]
  refine takeH (i := 38) (t := 68) (v := ?_) rfl (by rfl) (by kernel_rfl) (by kernel_rfl) (by kernel_rfl) (fun _ _ _ h => h) (Or.inl ⟨by rfl, ?_⟩) (by assumption) ?_
  rotate_left
  · (intro W hSw; go_simp)
    all_goals with_reducible rfl
  simp only [List.setIfInBounds_toArray, List.set_cons_zero, List.set_cons_succ]
  refine takeH (i := 39) (t := 69) (v := ?_) rfl (by rfl) (by kernel_rfl) (by kernel_rfl) (by kernel_rfl) (fun _ _ _ h => h) (Or.inl ⟨by rfl, ?_⟩) (by assumption) ?_
  rotate_left
  · (intro W hSw; go_simp)
    all_goals with_reducible rfl
  simp only [List.setIfInBounds_toArray, List.set_cons_zero, List.set_cons_succ]
  refine takeH (i := 40) (t := 70) (v := ?_) rfl (by rfl) (by kernel_rfl) (by kernel_rfl) (by kernel_rfl) (fun _ _ _ h => h) (Or.inl ⟨by rfl, ?_⟩) (by assumption) ?_
  rotate_left
  · (intro W hSw; go_simp)
    all_goals with_reducible rfl
  simp only [List.setIfInBounds_toArray, List.set_cons_zero, List.set_cons_succ]
  refine takeH (i := 41) (t := 71) (v := ?_) rfl (by rfl) (by kernel_rfl) (by kernel_rfl) (by kernel_rfl) (fun _ _ _ h => h) (Or.inl ⟨by rfl, ?_⟩) (by assumption) ?_
  rotate_left
  · (intro W hSw; go_simp)
    all_goals with_reducible rfl
  simp only [List.setIfInBounds_toArray, List.set_cons_zero, List.set_cons_succ]
  refine takeH (i := 42) (t := 72) (v := ?_) rfl (by rfl) (by kernel_rfl) (by kernel_rfl) (by kernel_rfl) (fun _ _ _ h => h) (Or.inl ⟨by rfl, ?_⟩) (by assumption) ?_
  rotate_left
  · (intro W hSw; go_simp)
    all_goals with_reducible rfl
  simp only [List.setIfInBounds_toArray, List.set_cons_zero, List.set_cons_succ]
  refine takeH (i := 43) (t := 73) (v := ?_) rfl (by rfl) (by kernel_rfl) (by kernel_rfl) (by kernel_rfl) (fun _ _ _ h => h) (Or.inl ⟨by rfl, ?_⟩) (by assumption) ?_
  rotate_left
  · (intro W hSw; go_simp)
    all_goals with_reducible rfl
  simp only [List.setIfInBounds_toArray, List.set_cons_zero, List.set_cons_succ]
  refine takeH (i := 44) (t := 74) (v := ?_) rfl (by rfl) (by kernel_rfl) (by kernel_rfl) (by kernel_rfl) (fun _ _ _ h => h) (Or.inl ⟨by rfl, ?_⟩) (by assumption) ?_
  rotate_left
  · (intro W hSw; go_simp)
    all_goals with_reducible rfl
  simp only [List.setIfInBounds_toArray, List.set_cons_zero, List.set_cons_succ]
  refine takeH (i := 45) (t := 75) (v := ?_) rfl (by rfl) (by kernel_rfl) (by kernel_rfl) (by kernel_rfl) (fun _ _ _ h => h) (Or.inl ⟨by rfl, ?_⟩) (by assumption) ?_
  rotate_left
  · (intro W hSw; go_simp)
    all_goals with_reducible rfl
  simp only [List.setIfInBounds_toArray, List.set_cons_zero, List.set_cons_succ]
  refine takeH (i := 46) (t := 76) (v := ?_) rfl (by rfl) (by kernel_rfl) (by kernel_rfl) (by kernel_rfl) (fun _ _ _ h => h) (Or.inl ⟨by rfl, ?_⟩) (by assumption) ?_
  rotate_left
  · (intro W hSw; go_simp)
    all_goals with_reducible rfl
  simp only [List.setIfInBounds_toArray, List.set_cons_zero, List.set_cons_succ]
  refine takeH (i := 47) (t := 77) (v := ?_) rfl (by rfl) (by kernel_rfl) (by kernel_rfl) (by kernel_rfl) (fun _ _ _ h => h) (Or.inl ⟨by rfl, ?_⟩) (by assumption) ?_
  rotate_left
  · (intro W hSw; go_simp)
    all_goals with_reducible rfl
  simp only [List.setIfInBounds_toArray, List.set_cons_zero, List.set_cons_succ]
  refine takeH (i := 48) (t := 78) (v := ?_) rfl (by rfl) (by kernel_rfl) (by kernel_rfl) (by kernel_rfl) (fun _ _ _ h => h) (Or.inl ⟨by rfl, ?_⟩) (by assumption) ?_
  rotate_left
  · (intro W hSw; go_simp)
    all_goals with_reducible rfl
  simp only [List.setIfInBounds_toArray, List.set_cons_zero, List.set_cons_succ]
  refine takeH (i := 49) (t := 79) (v := ?_) rfl (by rfl) (by kernel_rfl) (by kernel_rfl) (by kernel_rfl) (fun _ _ _ h => h) (Or.inl ⟨by rfl, ?_⟩) (by assumption) ?_
  rotate_left
  · (intro W hSw; go_simp)
    all_goals with_reducible rfl
  simp only [List.setIfInBounds_toArray, List.set_cons_zero, List.set_cons_succ]
  refine takeH (i := 50) (t := 80) (v := ?_) rfl (by rfl) (by kernel_rfl) (by kernel_rfl) (by kernel_rfl) (fun _ _ _ h => h) (Or.inl ⟨by rfl, ?_⟩) (by assumption) ?_
  rotate_left
  · (intro W hSw; go_simp)
    all_goals with_reducible rfl
  simp only [List.setIfInBounds_toArray, List.set_cons_zero, List.set_cons_succ]
  refine takeH (i := 51) (t := 81) (v := ?_) rfl (by rfl) (by kernel_rfl) (by kernel_rfl) (by kernel_rfl) (fun _ _ _ h => h) (Or.inl ⟨by rfl, ?_⟩) (by assumption) ?_
  rotate_left
  · (intro W hSw; go_simp)
    all_goals with_reducible rfl
  simp only [List.setIfInBounds_toArray, List.set_cons_zero, List.set_cons_succ]
  refine takeH (i := 52) (t := 0) (v := ?_) rfl (by rfl) (by kernel_rfl) (by kernel_rfl) (by kernel_rfl) (fun _ _ _ h => h) (Or.inl ⟨by rfl, ?_⟩) (by assumption) ?_
  rotate_left
  · (intro W hSw; go_simp)
    all_goals with_reducible rfl
  simp only [List.setIfInBounds_toArray, List.set_cons_zero]
  refine wpAnyH_done (by kernel_rfl) ?_ _
  go_wp2_with fail
  go_ret
  exact ⟨by simp, HF4.out.call HG5.out (fun _ e _ => e)⟩
end Go.Proofs.YtidhlfcmjpnhgaaGreatDoor
