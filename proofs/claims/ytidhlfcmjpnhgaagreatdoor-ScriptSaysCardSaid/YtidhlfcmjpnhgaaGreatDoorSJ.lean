/- What a message's row makes: the program. -/
import Derived.Test.YtidhlfcmjpnhgaaGreatDoorSI
namespace Go.Proofs.YtidhlfcmjpnhgaaGreatDoor
open Go.RowKit Go.Lib

/-- What a message's row reads of a world. -/
def SyS (W : World) (b r s x : Nat) (m : MC) (A : Option Addr) (c : Nat) : Prop :=
  W.cell? ⟨b, 0, none⟩ = some (.map (some r)) ∧ (Instr.lookup 68 (.map (some r)) (.int .u8 115) false).run Tryz.prog W = .ok (.int .u64 s) W ∧ W.cell? ⟨x, 0, none⟩ = some (.int .u8 m.kind) ∧ W.cell? ⟨x, 1, none⟩ = some (.int .u64 m.seq) ∧ W.cell? ⟨x, 2, none⟩ = some (.int .i64 m.at_) ∧ W.cell? ⟨x, 3, none⟩ = some (.slice A m.props.length c)
theorem SyS.mk {w W : World} {b r s x z : Nat} {m : MC} {A : Option Addr} {c : Nat} {V1 V2 : Value} {E : List (Nat × Nat)} (hb : Blk w b 70 #[.map (some r), V1, V2]) (hx : Blk w x 39 (mV m A c)) (hm : MapN w r E) (hn : (E.map (·.1)).Nodup) (he : (115, s) ∈ E) (hf : Fr (Only z) w W) (h1 : b ≠ z) (h2 : r ≠ z) (h3 : x ≠ z) : SyS W b r s x m A c := by
  have hb' := hb.fr hf (fun e => h1 e)
  have hx' := hx.fr hf (fun e => h3 e)
  have hm' := hm.fr hf (fun e => h2 e)
  have hq := hm'.get hn he (Fr.refl Nob W)
  exact ⟨hb'.cell 0, hq, hx'.cell 0, hx'.cell 1, hx'.cell 2, hx'.cell 3⟩
set_option maxRecDepth 100000 in
set_option maxHeartbeats 4000000 in
theorem mk_says (g : Nat) (hg : ∀ args w, (callFunc g args).run Tryz.prog w = .ok (.enter g args) w) (w : World) (r k : Nat) (B A : Option Addr) (n d m c : Nat) (s : Nat) (E : List (Nat × Nat)) (x : MC) (hm : MapN w r E) (hn : (E.map (·.1)).Nodup) (he : (115, s) ∈ E) (hs : s ≤ 7) (hk : w.cell? ⟨k, 0, none⟩ = some (.func (.func g) #[] #[])) (hlt : k < w.heap.size)
    (HG : ∀ W, Fr Nob w W → Calls Tryz.prog g #[.agg (lnA r B A n d m c)] W (MsgP W x)) (ho : MOk x) (hv : TnVar w) :
    Calls Tryz.prog 28 #[.agg (lnA r B A n d m c), .pointer (some ⟨k, 0, none⟩)] w (MkP w B (if mayM x then (0, ⟨2, s, 0, frameM x⟩) else (11, z0))) := by
  have HGG := Lib.hid HG
  have HM := Lib.hid hm
  have HN := Lib.hid hn
  have HE := Lib.hid he
  have HO := Lib.hid ho
  have HV := Lib.hid hv
  have HWR := Lib.hid (show IntKind.i64.wrap (s : Int) = s from by rw [IntKind.wrap_i64]; omega)
  have hxI : (s : Int) < 8 := by omega
  clear hm hn he HG ho hv
  unfold lnA at *
  unfold MsgP mV at HGG
  obtain ⟨zr, HZR⟩ : ∃ zr, Hid (zr = (if mayM x then ((0 : Int), (⟨2, s, 0, frameM x⟩ : ZC)) else (11, z0))) := ⟨_, Lib.hid rfl⟩
  rw [← HZR.out]
  go_enter Tryz.func28, Tryz.ntmps28
  go_upto_region 2 with (first
    | ((go_at_fn g); (with_reducible refine (HGG.out _ (((Fr.refl Nob w).alloc _).alloc _)).mono ?_); rintro e w2 ⟨A2, c2, rfl, hs2, hf2⟩; have HS2 := Lib.hid hs2; have HF2 := Lib.hid hf2; clear hs2 hf2)
    | fail)
  obtain ⟨W1, hW1⟩ : ∃ W1, W1 = w2.alloc (.cells (mV x A2 c2) 39) := ⟨_, rfl⟩
  have HF1 := Lib.hid (show Fr Nob w W1 by rw [hW1]; exact ((((Fr.refl Nob w).alloc _).alloc _).call HF2.out (fun _ e _ => e)).alloc _)
  have HB0 := Lib.hid (show Blk W1 w.heap.size 70 #[.map (some r), .slice B n d, .slice A m c] by rw [hW1]; exact (((Blk.new _ _ _).alloc _).fr HF2.out (fun e => e)).alloc _)
  have HBZ := Lib.hid (show Blk W1 (w.heap.size + 1) 34 #[.int .i64 0, .int .i64 0, .int .i64 0, .slice none 0 0] by rw [hW1]; exact (Blk.fr (Blk.new_eq (by simp)) HF2.out (fun e => e)).alloc _)
  have HBX := Lib.hid (show Blk W1 w2.heap.size 39 (mV x A2 c2) by rw [hW1]; exact Blk.new _ _ _)
  have HM1 := Lib.hid (HM.out.fr HF1.out (fun e => e))
  have HS1 := Lib.hid (show Sl W1 2 A2 x.props.length c2 (x.props.flatMap pcs) by rw [hW1]; exact HS2.out.alloc _)
  have hrl := HM.out.lt
  have hx2 : w.heap.size + 2 ≤ w2.heap.size := by have := HF2.out.size; simp at this; omega
  have hwz : w.heap.size + 1 < W1.heap.size := HBZ.out.lt
  generalize w2.heap.size = gx at *
  unfold mV at hW1
  rw [← hW1]
  clear hW1 HF2 HS2
  have HD0 := Lib.hid (SyS.mk (z := w.heap.size + 1) HB0.out HBX.out HM1.out HN.out HE.out ((Fr.refl _ W1).drew) (by omega) (by omega) (by omega))
  have HFD := Lib.hid (show Fr Nob w W1.drew from HF1.out.drew)
  have HCF := Lib.hid (prg_MFrame W1.drew x A2 c2 HS1.out.drew HO.out (HV.out.fr HFD.out))
  unfold mV at HCF
  unfold SyS at HD0
  go_region_held3 (fun W => W.cell? ⟨w.heap.size, 0, none⟩ = some (.map (some r)) ∧ (Instr.lookup 68 (.map (some r)) (.int .u8 115) false).run Tryz.prog W = .ok (.int .u64 s) W ∧ W.cell? ⟨gx, 0, none⟩ = some (.int .u8 x.kind) ∧ W.cell? ⟨gx, 1, none⟩ = some (.int .u64 x.seq) ∧ W.cell? ⟨gx, 2, none⟩ = some (.int .i64 x.at_) ∧ W.cell? ⟨gx, 3, none⟩ = some (.slice A2 x.props.length c2))
    (first
      | with_reducible exact HD0.out
      | with_reducible exact HD3.out
      | with_reducible exact HD4.out
      | with_reducible exact HD5.out)
    (first
      | ((go_at_call 12); (with_reducible refine HCF.out.mono ?_); rintro e w3 ⟨B3, d3, rfl, hp3⟩; have HP3 := Lib.hid hp3; have HG3 := Lib.hid ((Fr.refl Nob W1).drew.call hp3.fr (fun _ e _ => e)); have HD3 := Lib.hid (SyS.mk (z := w.heap.size + 1) HB0.out HBX.out HM1.out HN.out HE.out (HG3.out.mono (fun _ _ e => e.elim)) (by omega) (by omega) (by omega)); have HCM := Lib.hid (prg_May w3 x A2 c2 (HS1.out.pure HG3.out) HO.out); unfold SyS at HD3; unfold mV at HCM; clear hp3)
      | ((go_at_call 10); (with_reducible refine HCM.out.mono ?_); rintro e w4 ⟨rfl, hf4⟩; have HG4 := Lib.hid (HG3.out.call hf4 (fun _ e _ => e)); have HP4 := Lib.hid (HP3.out.pure hf4); have HD4 := Lib.hid (SyS.mk (z := w.heap.size + 1) HB0.out HBX.out HM1.out HN.out HE.out (HG4.out.mono (fun _ _ e => e.elim)) (by omega) (by omega) (by omega)); have HZ4 := Lib.hid (HBZ.out.fr HG4.out (fun e => e)); have zc := HZ4.out.cell; have zf := HZ4.out.frozen; have HD5 := Lib.hid (SyS.mk (z := w.heap.size + 1) HB0.out HBX.out HM1.out HN.out HE.out ((HG4.out.mono (fun _ _ e => e.elim)).call (set4_fr w4 (w.heap.size + 1) (.int .i64 2) (.int .i64 (IntKind.i64.wrap s)) (.int .i64 0) (.slice B3 (frameM x).length d3)) (fun _ e _ => e)) (by omega) (by omega) (by omega)); unfold SyS at HD4 HD5; clear hf4)
      | fail)
  all_goals
    clear HD0 HD3 HD4 HD5
    rw [HWR.out]
    have hset := set4_fr w4 (w.heap.size + 1) (.int .i64 2) (.int .i64 s) (.int .i64 0) (.slice B3 (frameM x).length d3)
    have HF9 := Lib.hid ((HF1.out.mono (fun _ _ e => e.elim)).call ((HG4.out.mono (fun _ _ e => e.elim)).call hset (fun _ e _ => e)) (fun _ e _ => e))
    try go_wp2_with fail
    refine bodyPost_ret (v := .tuple #[.agg #[.int .i64 2, .int .i64 s, .int .i64 0, .slice B3 (frameM x).length d3], .bool (mayM x)]) (by simp [results, Tryz.results28, go_sem, zc]) rfl ?_
    refine ⟨2, s, 0, B3, (frameM x).length, d3, ?_, HF9.out.mono (fun k hk e => by have e : k = w.heap.size + 1 := e; omega), fun g o e => .inr ?_, fun e0 => ?_⟩
    · rw [HZR.out]
      cases mayM x <;> rfl
    · have h1 := own_addr HP4.out.own g o e
      have h2 : W1.drew.heap.size = W1.heap.size := rfl
      have h3 := HF1.out.size
      omega
    · rw [HZR.out] at e0 ⊢
      have hmt : mayM x = true := by
        revert e0
        cases mayM x <;> simp
      rw [if_pos hmt]
      exact ⟨rfl, rfl, rfl, rfl, HP4.out.sl.fr hset (fun g o e _ h => by
        have h1 := own_addr HP4.out.own g o e
        have h2 := HP4.out.lo
        have h : g = w.heap.size + 1 := h
        have h3 : W1.drew.heap.size = W1.heap.size := rfl
        omega)⟩
end Go.Proofs.YtidhlfcmjpnhgaaGreatDoor

/- The rows' table: the program. -/
namespace Go.Proofs.YtidhlfcmjpnhgaaGreatDoor
open Go.RowKit Go.Lib

theorem prg_alone (w : World) (q : Int) : Calls Tryz.prog 25 #[.int .i64 q] w fun e w' => e = .returned (.func (.func 26) #[] #[.pointer (some ⟨w.heap.size, 0, none⟩)]) ∧ w.alloc (.cells #[.int .i64 q] 3) = w' := by
  go_enter Tryz.func25, Tryz.ntmps25
  go_wp2_with fail
  go_ret
  exact ⟨rfl, rfl⟩
theorem prg_says (w : World) (g : Nat) : Calls Tryz.prog 27 #[.func (.func g) #[] #[]] w fun e w' => e = .returned (.func (.func 28) #[] #[.pointer (some ⟨w.heap.size, 0, none⟩)]) ∧ w.alloc (.cells #[.func (.func g) #[] #[]] 72) = w' := by
  go_enter Tryz.func27, Tryz.ntmps27
  go_wp2_with fail
  go_ret
  exact ⟨rfl, rfl⟩
def kv (e : List UInt8 × Value) : Value × Value := (strV e.1, e.2)
theorem strV_inj {a b : List UInt8} (h : strV a = strV b) : a = b := by
  unfold strV at h
  injection h with h
  injection h with h
  exact List.toArray_inj h
/-- A table: words, and what stands for each. -/
def TabAt (w : World) (r : Nat) (ks : List (List UInt8)) (vs : List Value) : Prop := MapAt w r .string ((ks.zip vs).map kv)
theorem TabAt.fr {S : Nat → Prop} {w w' : World} {r : Nat} {ks : List (List UInt8)} {vs : List Value} (h : TabAt w r ks vs) (hf : Fr S w w') (hr : ¬ S r) : TabAt w' r ks vs := MapAt.fr h hf hr
theorem TabAt.put {w : World} {r : Nat} {ks : List (List UInt8)} {vs : List Value} (h : TabAt w r ks vs) (hl : ks.length = vs.length) (k : List UInt8) (hk : k ∉ ks) (v : Value) :
    ∃ w', (Instr.mapUpdate 46 (.map (some r)) (strV k) v).run Tryz.prog w = .ok () w' ∧ TabAt w' r (ks ++ [k]) (vs ++ [v]) ∧ Fr (Only r) w w' := by
  obtain ⟨w', h1, h2, h3⟩ := MapAt.put (P := Tryz.prog) (T := 46) (kt := 9) (et := 54) (k := strV k) h (by kernel_rfl) (by kernel_rfl) trivial (fun u hu => by
    obtain ⟨e, he, ee⟩ := List.mem_map.1 hu
    unfold kv at ee
    injection ee with e1 e2
    have := strV_inj e1
    subst this
    exact hk (List.of_mem_zip (show (e.1, e.2) ∈ ks.zip vs from he)).1) v
  refine ⟨w', h1, ?_, h3⟩
  unfold TabAt
  rw [List.zip_append hl, List.map_append]
  exact h2
theorem TabAt.new (w : World) : TabAt (w.alloc (.map #[] 0)) w.heap.size [] [] := MapAt.new 0
/-- What stands for a line's word. -/
def rowV (q : Nat) (f : Value) : Value := .agg #[.string ⟨([[110], [115, 120], [115, 113], [115, 113, 116], [115, 116], [115], [], [], []].getD q [] : List UInt8).toArray⟩, .bool (decide (q = 3)), f]
def plainF (n : Nat) : Value := .func (.func n) #[] #[]
def boxF (n k : Nat) : Value := .func (.func n) #[] #[.pointer (some ⟨k, 0, none⟩)]
/-- The table, with the boxes that its functions hold. -/
def TabS (w : World) (r : Nat) : Prop := ∃ k2 k3 k4 k5 k6 k7 k8, TabAt w r wordsL [rowV 0 (plainF 29), rowV 1 (plainF 30), rowV 2 (boxF 28 k2), rowV 3 (boxF 28 k3), rowV 4 (boxF 28 k4), rowV 5 (boxF 28 k5), rowV 6 (boxF 26 k6), rowV 7 (boxF 26 k7), rowV 8 (boxF 26 k8)] ∧
  w.cell? ⟨k2, 0, none⟩ = some (plainF 31) ∧ w.cell? ⟨k3, 0, none⟩ = some (plainF 32) ∧ w.cell? ⟨k4, 0, none⟩ = some (plainF 34) ∧ w.cell? ⟨k5, 0, none⟩ = some (plainF 35) ∧ w.cell? ⟨k6, 0, none⟩ = some (.int .i64 3) ∧ w.cell? ⟨k7, 0, none⟩ = some (.int .i64 4) ∧ w.cell? ⟨k8, 0, none⟩ = some (.int .i64 5)
theorem TabS.fr {w w' : World} {r : Nat} (h : TabS w r) (hf : Fr Nob w w') : TabS w' r := by
  obtain ⟨k2, k3, k4, k5, k6, k7, k8, h1, c2, c3, c4, c5, c6, c7, c8⟩ := h
  exact ⟨k2, k3, k4, k5, k6, k7, k8, h1.fr hf (fun e => e), hf.cell c2 (fun e => e), hf.cell c3 (fun e => e), hf.cell c4 (fun e => e), hf.cell c5 (fun e => e), hf.cell c6 (fun e => e), hf.cell c7 (fun e => e), hf.cell c8 (fun e => e)⟩
set_option maxRecDepth 100000 in
set_option maxHeartbeats 4000000 in
theorem prg_rows (w : World) : Calls Tryz.prog 13 #[] w fun e w' => e = .returned (.map (some w.heap.size)) ∧ Fr Nob w w' ∧ TabS w' w.heap.size := by
  have hmm : (Instr.makeMap 46 none).run Tryz.prog w = .ok (.map (some w.heap.size)) (w.alloc (.map #[] 0)) := rfl
  obtain ⟨w0, u0, m0, f0⟩ := (TabAt.new w).put rfl (wordsL.getD 0 []) (by decide) (rowV 0 (plainF 29))
  obtain ⟨w1, u1, m1, f1⟩ := m0.put rfl (wordsL.getD 1 []) (by decide) (rowV 1 (plainF 30))
  have HM1 := Lib.hid m1
  have HF1 := Lib.hid (((Fr.refl (Hi w.heap.size) w).alloc (.map #[] 0)).call (f0.call f1 (fun _ e _ => e)) (fun k e _ => by have e : k = w.heap.size := e; show w.heap.size ≤ k; omega))
  change (Instr.mapUpdate 46 (.map (some w.heap.size)) (.string ⟨#[116, 105, 99, 107]⟩) (.agg #[.string ⟨#[110]⟩, .bool false, .func (.func 29) #[] #[]])).run Tryz.prog _ = _ at u0
  change (Instr.mapUpdate 46 (.map (some w.heap.size)) (.string ⟨#[98, 121, 116, 101, 115]⟩) (.agg #[.string ⟨#[115, 120]⟩, .bool false, .func (.func 30) #[] #[]])).run Tryz.prog _ = _ at u1
  clear m0 f0 m1 f1
  go_enter Tryz.func13, Tryz.ntmps13
  go_upto_region 3 with fail
  go_wp2_with (first
    | ((go_at_call 27); (with_reducible refine (prg_says w1 (31)).mono ?_); rintro e _ ⟨rfl, rfl⟩; have hl2 := HM1.out.lt; have HC2 := Lib.hid (Blk.new w1 72 #[.func (.func 31) #[] #[]]); obtain ⟨w2, u2, m2, f2⟩ := TabAt.put (TabAt.fr HM1.out ((Fr.refl Nob w1).alloc (.cells #[.func (.func 31) #[] #[]] 72)) (fun e => e)) (by rfl) (wordsL.getD 2 []) (by decide) (rowV 2 (boxF 28 w1.heap.size)); have HM2 := Lib.hid m2; have HG2 := Lib.hid (((Fr.refl (Only w.heap.size) w1).alloc (.cells #[.func (.func 31) #[] #[]] 72)).call f2 (fun _ e _ => e)); have HK2 := Lib.hid (HC2.out.fr f2 (fun e => absurd (show w1.heap.size = w.heap.size from e) (by omega))); change (Instr.mapUpdate 46 (.map (some w.heap.size)) (.string ⟨#[104, 101, 108, 108, 111]⟩) (.agg #[.string ⟨#[115, 113]⟩, .bool false, .func (.func 28) #[] #[.pointer (some ⟨w1.heap.size, 0, none⟩)]])).run Tryz.prog _ = _ at u2; clear m2 f2 HC2)
    | ((go_at_call 27); (with_reducible refine (prg_says w2 (32)).mono ?_); rintro e _ ⟨rfl, rfl⟩; have hl3 := HM2.out.lt; have HC3 := Lib.hid (Blk.new w2 72 #[.func (.func 32) #[] #[]]); obtain ⟨w3, u3, m3, f3⟩ := TabAt.put (TabAt.fr HM2.out ((Fr.refl Nob w2).alloc (.cells #[.func (.func 32) #[] #[]] 72)) (fun e => e)) (by rfl) (wordsL.getD 3 []) (by decide) (rowV 3 (boxF 28 w2.heap.size)); have HM3 := Lib.hid m3; have HG3 := Lib.hid (((Fr.refl (Only w.heap.size) w2).alloc (.cells #[.func (.func 32) #[] #[]] 72)).call f3 (fun _ e _ => e)); have HK3 := Lib.hid (HC3.out.fr f3 (fun e => absurd (show w2.heap.size = w.heap.size from e) (by omega))); change (Instr.mapUpdate 46 (.map (some w.heap.size)) (.string ⟨#[101, 118, 101, 110, 116]⟩) (.agg #[.string ⟨#[115, 113, 116]⟩, .bool true, .func (.func 28) #[] #[.pointer (some ⟨w2.heap.size, 0, none⟩)]])).run Tryz.prog _ = _ at u3; clear m3 f3 HC3)
    | ((go_at_call 27); (with_reducible refine (prg_says w3 (34)).mono ?_); rintro e _ ⟨rfl, rfl⟩; have hl4 := HM3.out.lt; have HC4 := Lib.hid (Blk.new w3 72 #[.func (.func 34) #[] #[]]); obtain ⟨w4, u4, m4, f4⟩ := TabAt.put (TabAt.fr HM3.out ((Fr.refl Nob w3).alloc (.cells #[.func (.func 34) #[] #[]] 72)) (fun e => e)) (by rfl) (wordsL.getD 4 []) (by decide) (rowV 4 (boxF 28 w3.heap.size)); have HM4 := Lib.hid m4; have HG4 := Lib.hid (((Fr.refl (Only w.heap.size) w3).alloc (.cells #[.func (.func 34) #[] #[]] 72)).call f4 (fun _ e _ => e)); have HK4 := Lib.hid (HC4.out.fr f4 (fun e => absurd (show w3.heap.size = w.heap.size from e) (by omega))); change (Instr.mapUpdate 46 (.map (some w.heap.size)) (.string ⟨#[98, 101, 97, 116]⟩) (.agg #[.string ⟨#[115, 116]⟩, .bool false, .func (.func 28) #[] #[.pointer (some ⟨w3.heap.size, 0, none⟩)]])).run Tryz.prog _ = _ at u4; clear m4 f4 HC4)
    | ((go_at_call 27); (with_reducible refine (prg_says w4 (35)).mono ?_); rintro e _ ⟨rfl, rfl⟩; have hl5 := HM4.out.lt; have HC5 := Lib.hid (Blk.new w4 72 #[.func (.func 35) #[] #[]]); obtain ⟨w5, u5, m5, f5⟩ := TabAt.put (TabAt.fr HM4.out ((Fr.refl Nob w4).alloc (.cells #[.func (.func 35) #[] #[]] 72)) (fun e => e)) (by rfl) (wordsL.getD 5 []) (by decide) (rowV 5 (boxF 28 w4.heap.size)); have HM5 := Lib.hid m5; have HG5 := Lib.hid (((Fr.refl (Only w.heap.size) w4).alloc (.cells #[.func (.func 35) #[] #[]] 72)).call f5 (fun _ e _ => e)); have HK5 := Lib.hid (HC5.out.fr f5 (fun e => absurd (show w4.heap.size = w.heap.size from e) (by omega))); change (Instr.mapUpdate 46 (.map (some w.heap.size)) (.string ⟨#[98, 121, 101]⟩) (.agg #[.string ⟨#[115]⟩, .bool false, .func (.func 28) #[] #[.pointer (some ⟨w4.heap.size, 0, none⟩)]])).run Tryz.prog _ = _ at u5; clear m5 f5 HC5)
    | ((go_at_call 25); (with_reducible refine (prg_alone w5 (3)).mono ?_); rintro e _ ⟨rfl, rfl⟩; have hl6 := HM5.out.lt; have HC6 := Lib.hid (Blk.new w5 3 #[.int .i64 3]); obtain ⟨w6, u6, m6, f6⟩ := TabAt.put (TabAt.fr HM5.out ((Fr.refl Nob w5).alloc (.cells #[.int .i64 3] 3)) (fun e => e)) (by rfl) (wordsL.getD 6 []) (by decide) (rowV 6 (boxF 26 w5.heap.size)); have HM6 := Lib.hid m6; have HG6 := Lib.hid (((Fr.refl (Only w.heap.size) w5).alloc (.cells #[.int .i64 3] 3)).call f6 (fun _ e _ => e)); have HK6 := Lib.hid (HC6.out.fr f6 (fun e => absurd (show w5.heap.size = w.heap.size from e) (by omega))); change (Instr.mapUpdate 46 (.map (some w.heap.size)) (.string ⟨#[100, 114, 97, 105, 110]⟩) (.agg #[.string ⟨#[]⟩, .bool false, .func (.func 26) #[] #[.pointer (some ⟨w5.heap.size, 0, none⟩)]])).run Tryz.prog _ = _ at u6; clear m6 f6 HC6)
    | ((go_at_call 25); (with_reducible refine (prg_alone w6 (4)).mono ?_); rintro e _ ⟨rfl, rfl⟩; have hl7 := HM6.out.lt; have HC7 := Lib.hid (Blk.new w6 3 #[.int .i64 4]); obtain ⟨w7, u7, m7, f7⟩ := TabAt.put (TabAt.fr HM6.out ((Fr.refl Nob w6).alloc (.cells #[.int .i64 4] 3)) (fun e => e)) (by rfl) (wordsL.getD 7 []) (by decide) (rowV 7 (boxF 26 w6.heap.size)); have HM7 := Lib.hid m7; have HG7 := Lib.hid (((Fr.refl (Only w.heap.size) w6).alloc (.cells #[.int .i64 4] 3)).call f7 (fun _ e _ => e)); have HK7 := Lib.hid (HC7.out.fr f7 (fun e => absurd (show w6.heap.size = w.heap.size from e) (by omega))); change (Instr.mapUpdate 46 (.map (some w.heap.size)) (.string ⟨#[113, 117, 101, 114, 121]⟩) (.agg #[.string ⟨#[]⟩, .bool false, .func (.func 26) #[] #[.pointer (some ⟨w6.heap.size, 0, none⟩)]])).run Tryz.prog _ = _ at u7; clear m7 f7 HC7)
    | ((go_at_call 25); (with_reducible refine (prg_alone w7 (5)).mono ?_); rintro e _ ⟨rfl, rfl⟩; have hl8 := HM7.out.lt; have HC8 := Lib.hid (Blk.new w7 3 #[.int .i64 5]); obtain ⟨w8, u8, m8, f8⟩ := TabAt.put (TabAt.fr HM7.out ((Fr.refl Nob w7).alloc (.cells #[.int .i64 5] 3)) (fun e => e)) (by rfl) (wordsL.getD 8 []) (by decide) (rowV 8 (boxF 26 w7.heap.size)); have HM8 := Lib.hid m8; have HG8 := Lib.hid (((Fr.refl (Only w.heap.size) w7).alloc (.cells #[.int .i64 5] 3)).call f8 (fun _ e _ => e)); have HK8 := Lib.hid (HC8.out.fr f8 (fun e => absurd (show w7.heap.size = w.heap.size from e) (by omega))); change (Instr.mapUpdate 46 (.map (some w.heap.size)) (.string ⟨#[99, 108, 111, 115, 101]⟩) (.agg #[.string ⟨#[]⟩, .bool false, .func (.func 26) #[] #[.pointer (some ⟨w7.heap.size, 0, none⟩)]])).run Tryz.prog _ = _ at u8; clear m8 f8 HC8)
    | fail)
  have hl8 := HM8.out.lt
  have G8 := HG8.out
  have G7 := HG7.out.call G8 (fun _ e _ => e)
  have G6 := HG6.out.call G7 (fun _ e _ => e)
  have G5 := HG5.out.call G6 (fun _ e _ => e)
  have G4 := HG4.out.call G5 (fun _ e _ => e)
  have G3 := HG3.out.call G4 (fun _ e _ => e)
  have G2 := HG2.out.call G3 (fun _ e _ => e)
  have ne : ∀ k, w.heap.size < k → ¬ Only w.heap.size k := fun k h e => by have e : k = w.heap.size := e; omega
  have HT := Lib.hid (show TabS w8 w.heap.size from ⟨_, _, _, _, _, _, _, HM8.out, (HK2.out.fr G3 (ne _ hl2)).cell 0, (HK3.out.fr G4 (ne _ hl3)).cell 0, (HK4.out.fr G5 (ne _ hl4)).cell 0, (HK5.out.fr G6 (ne _ hl5)).cell 0, (HK6.out.fr G7 (ne _ hl6)).cell 0, (HK7.out.fr G8 (ne _ hl7)).cell 0, HK8.out.cell 0⟩)
  go_ret
  exact ⟨rfl, (HF1.out.call G2 (fun k e _ => by have e : k = w.heap.size := e; show w.heap.size ≤ k; omega)).mono (fun k hk e => by have e : w.heap.size ≤ k := e; omega), HT.out⟩
end Go.Proofs.YtidhlfcmjpnhgaaGreatDoor

/- What stands in the rows' table, and what it makes. -/
namespace Go.Proofs.YtidhlfcmjpnhgaaGreatDoor
open Go.RowKit Go.Lib

/-- What the words of a line hold, in memory. -/
structure LineOk (W : World) (r : Nat) (B A : Option Addr) (n d m c : Nat) (q : Nat) (s : SC) : Prop where
  map : MapN W r (([[110], [115], [115, 113], [115, 113, 116], [115, 116], [115], [], [], []].getD q []).zip s.ns)
  len : s.ns.length = (usesN q).length
  most : ∀ i, i < s.ns.length → s.ns.getD i 0 ≤ mostN ((usesN q).getD i 0)
  bl : n = s.b.length
  b : Sl W 1 B n d (byteCells s.b)
  pl : m = s.ps.length
  p : Sl W 2 A m c (s.ps.flatMap pcs)
  few : s.ps.length ≤ 10000
  names : ∀ p ∈ s.ps, p.name.size ≤ 100000 ∧ I64 p.value
def RowF (W : World) (q : Nat) (f : Value) : Prop :=
  if q = 0 then f = plainF 29 else if q = 1 then f = plainF 30
  else if q = 2 then ∃ k, f = boxF 28 k ∧ W.cell? ⟨k, 0, none⟩ = some (plainF 31)
  else if q = 3 then ∃ k, f = boxF 28 k ∧ W.cell? ⟨k, 0, none⟩ = some (plainF 32)
  else if q = 4 then ∃ k, f = boxF 28 k ∧ W.cell? ⟨k, 0, none⟩ = some (plainF 34)
  else if q = 5 then ∃ k, f = boxF 28 k ∧ W.cell? ⟨k, 0, none⟩ = some (plainF 35)
  else ∃ k, f = boxF 26 k ∧ W.cell? ⟨k, 0, none⟩ = some (.int .i64 ((q : Int) - 3))
/-- What a row's function does with a line. -/
def RowMk (W : World) (q : Nat) (f : Value) : Prop := ∃ fn caps, f = .func (.func fn) #[] caps ∧ (∀ args w, (callFunc fn args).run Tryz.prog w = .ok (.enter fn args) w) ∧
  ∀ W', Fr Nob W W' → ∀ r B A n d m c s, LineOk W' r B A n d m c q s → Calls Tryz.prog fn (#[.agg #[.map (some r), .slice B n d, .slice A m c]] ++ caps) W' (MkP W' B (madeS q s))
theorem one_of {l : List Nat} (h : l.length = 1) : ∃ a, l = [a] := by
  obtain ⟨a, rfl⟩ := List.length_eq_one_iff.1 h
  exact ⟨a, rfl⟩
theorem two_of {l : List Nat} (h : l.length = 2) : ∃ a b, l = [a, b] := by
  match l, h with
  | [a, b], _ => exact ⟨a, b, rfl⟩
theorem three_of {l : List Nat} (h : l.length = 3) : ∃ a b c, l = [a, b, c] := by
  match l, h with
  | [a, b, c], _ => exact ⟨a, b, c, rfl⟩
theorem mok_of {m : MC} (hk : 0 ≤ m.kind ∧ m.kind < 256) (hq : 0 ≤ m.seq ∧ m.seq < 18446744073709551616) (ha : I64 m.at_) {ps : List PP} (hp : m.props = lof ps ∨ m.props = []) (hf : ps.length ≤ 10000) (hn : ∀ p ∈ ps, p.name.size ≤ 100000 ∧ I64 p.value) : MOk m := by
  refine ⟨hk, hq, ha, ?_, ?_⟩
  · rcases hp with hp | hp
    · have : (lof ps).length ≤ ps.length := by have := dd_len (msort ps); rw [msort_len] at this; exact this
      rw [hp]; omega
    · rw [hp]; simp
  · rcases hp with hp | hp
    · rw [hp]; intro p hm; exact hn p ((lof_mem ps p).1 hm)
    · rw [hp]; intro p hm; simp at hm
theorem row_mk {W : World} {q : Nat} {f : Value} (hq : q < 9) (h : RowF W q f) (hv : TnVar W) : RowMk W q f := by
  unfold RowF at h
  have hcase : q = 0 ∨ q = 1 ∨ q = 2 ∨ q = 3 ∨ q = 4 ∨ q = 5 ∨ (6 ≤ q) := by omega
  rcases hcase with rfl | rfl | rfl | rfl | rfl | rfl | h6
  · obtain rfl : f = plainF 29 := h
    refine ⟨_, _, rfl, enters_of Tryz.func29 (by kernel_rfl) rfl, fun W' hf r B A n d m c s hl => ?_⟩
    obtain ⟨x, hx⟩ := one_of (l := s.ns) (by rw [hl.len]; rfl)
    have hm := hl.map
    have h1 := hl.most 0 (by rw [hx]; exact Nat.zero_lt_one)
    rw [hx] at hm h1
    have := mk_tick W' r B A n d m c x hm h1
    rw [show madeS 0 s = (0, ⟨1, 0, x, []⟩) by unfold madeS; rw [if_pos rfl, hx]; rfl]
    exact this
  · obtain rfl : f = plainF 30 := h
    refine ⟨_, _, rfl, enters_of Tryz.func30 (by kernel_rfl) rfl, fun W' hf r B A n d m c s hl => ?_⟩
    obtain ⟨x, hx⟩ := one_of (l := s.ns) (by rw [hl.len]; rfl)
    have hm := hl.map
    have h1 := hl.most 0 (by rw [hx]; exact Nat.zero_lt_one)
    have hb := hl.b
    obtain rfl := hl.bl
    rw [hx] at hm h1
    have := mk_bytes W' r B A d m c x s.b hm h1 hb
    rw [show madeS 1 s = (0, ⟨2, x, 0, s.b⟩) by unfold madeS; simp [hx]]
    exact this
  · obtain ⟨k, rfl, hk⟩ : ∃ k, f = boxF 28 k ∧ W.cell? ⟨k, 0, none⟩ = some (plainF 31) := h
    refine ⟨_, _, rfl, enters_of Tryz.func28 (by kernel_rfl) rfl, fun W' hf r B A n d m c s hl => ?_⟩
    obtain ⟨a, b, hx⟩ := two_of (l := s.ns) (by rw [hl.len]; rfl)
    have hm := hl.map
    have h0 := hl.most 0 (by rw [hx]; exact Nat.zero_lt_succ _)
    have h1 := hl.most 1 (by rw [hx]; exact Nat.succ_lt_succ Nat.zero_lt_one)
    rw [hx] at hm h0 h1
    have h0 : a ≤ 7 := h0
    have h1 : b ≤ 18446744073709551615 := h1
    have hc := hf.cell hk (fun e => e)
    have := mk_says 31 (enters_of Tryz.func31 (by kernel_rfl) rfl) W' r k B A n d m c a [(115, a), (113, b)] ⟨1, b, 0, []⟩ hm (by simp) (by simp) h0 hc (block_lt_of_cell hc) (fun W2 h2 => ms_hello W2 r B A n d m c a b (hm.fr h2 (fun e => e)))
      (mok_of (ps := []) (by simp) (by simp only; omega) (by unfold I64; simp) (.inr rfl) (by simp) (by simp)) (hv.fr hf)
    rw [show madeS 2 s = (if mayM ⟨1, b, 0, []⟩ then (0, ⟨2, a, 0, frameM ⟨1, b, 0, []⟩⟩) else (11, z0)) by unfold madeS msgS; simp [hx]]
    exact this
  · obtain ⟨k, rfl, hk⟩ : ∃ k, f = boxF 28 k ∧ W.cell? ⟨k, 0, none⟩ = some (plainF 32) := h
    refine ⟨_, _, rfl, enters_of Tryz.func28 (by kernel_rfl) rfl, fun W' hf r B A n d m c s hl => ?_⟩
    obtain ⟨a, b, t, hx⟩ := three_of (l := s.ns) (by rw [hl.len]; rfl)
    have hm := hl.map
    have h0 := hl.most 0 (by rw [hx]; exact Nat.zero_lt_succ _)
    have h1 := hl.most 1 (by rw [hx]; exact Nat.succ_lt_succ (Nat.zero_lt_succ _))
    have h2 := hl.most 2 (by rw [hx]; exact Nat.succ_lt_succ (Nat.succ_lt_succ Nat.zero_lt_one))
    rw [hx] at hm h0 h1 h2
    have h0 : a ≤ 7 := h0
    have h1 : b ≤ 18446744073709551615 := h1
    have h2 : t ≤ 9223372036854775807 := h2
    have hc := hf.cell hk (fun e => e)
    have hp := hl.p
    obtain rfl := hl.pl
    have := mk_says 32 (enters_of Tryz.func32 (by kernel_rfl) rfl) W' r k B A n d s.ps.length c a [(115, a), (113, b), (116, t)] ⟨2, b, t, lof s.ps⟩ hm (by simp) (by simp) h0 hc (block_lt_of_cell hc) (fun W2 hf2 => ms_event W2 r B A n d c a b t s.ps (hm.fr hf2 (fun e => e)) h2 (hp.pure hf2) hl.few)
      (mok_of (ps := s.ps) (by simp) (by simp only; omega) (by unfold I64; simp only; omega) (.inl rfl) hl.few hl.names) (hv.fr hf)
    rw [show madeS 3 s = (if mayM ⟨2, b, t, lof s.ps⟩ then (0, ⟨2, a, 0, frameM ⟨2, b, t, lof s.ps⟩⟩) else (11, z0)) by unfold madeS msgS; simp [hx]]
    exact this
  · obtain ⟨k, rfl, hk⟩ : ∃ k, f = boxF 28 k ∧ W.cell? ⟨k, 0, none⟩ = some (plainF 34) := h
    refine ⟨_, _, rfl, enters_of Tryz.func28 (by kernel_rfl) rfl, fun W' hf r B A n d m c s hl => ?_⟩
    obtain ⟨a, t, hx⟩ := two_of (l := s.ns) (by rw [hl.len]; rfl)
    have hm := hl.map
    have h0 := hl.most 0 (by rw [hx]; exact Nat.zero_lt_succ _)
    have h1 := hl.most 1 (by rw [hx]; exact Nat.succ_lt_succ Nat.zero_lt_one)
    rw [hx] at hm h0 h1
    have h0 : a ≤ 7 := h0
    have h1 : t ≤ 9223372036854775807 := h1
    have hc := hf.cell hk (fun e => e)
    have := mk_says 34 (enters_of Tryz.func34 (by kernel_rfl) rfl) W' r k B A n d m c a [(115, a), (116, t)] ⟨3, 0, t, []⟩ hm (by simp) (by simp) h0 hc (block_lt_of_cell hc) (fun W2 h2 => ms_beat W2 r B A n d m c a t (hm.fr h2 (fun e => e)) h1)
      (mok_of (ps := []) (by simp) (by simp) (by unfold I64; simp only; omega) (.inr rfl) (by simp) (by simp)) (hv.fr hf)
    rw [show madeS 4 s = (if mayM ⟨3, 0, t, []⟩ then (0, ⟨2, a, 0, frameM ⟨3, 0, t, []⟩⟩) else (11, z0)) by unfold madeS msgS; simp [hx]]
    exact this
  · obtain ⟨k, rfl, hk⟩ : ∃ k, f = boxF 28 k ∧ W.cell? ⟨k, 0, none⟩ = some (plainF 35) := h
    refine ⟨_, _, rfl, enters_of Tryz.func28 (by kernel_rfl) rfl, fun W' hf r B A n d m c s hl => ?_⟩
    obtain ⟨a, hx⟩ := one_of (l := s.ns) (by rw [hl.len]; rfl)
    have hm := hl.map
    have h0 := hl.most 0 (by rw [hx]; exact Nat.zero_lt_succ _)
    rw [hx] at hm h0
    have h0 : a ≤ 7 := h0
    have hc := hf.cell hk (fun e => e)
    have := mk_says 35 (enters_of Tryz.func35 (by kernel_rfl) rfl) W' r k B A n d m c a [(115, a)] ⟨4, 0, 0, []⟩ hm (by simp) (by simp) h0 hc (block_lt_of_cell hc) (fun W2 h2 => ms_bye W2 r B A n d m c)
      (mok_of (ps := []) (by simp) (by simp) (by unfold I64; simp) (.inr rfl) (by simp) (by simp)) (hv.fr hf)
    rw [show madeS 5 s = (if mayM ⟨4, 0, 0, []⟩ then (0, ⟨2, a, 0, frameM ⟨4, 0, 0, []⟩⟩) else (11, z0)) by unfold madeS msgS; simp [hx]]
    exact this
  · rw [if_neg (by omega), if_neg (by omega), if_neg (by omega), if_neg (by omega), if_neg (by omega), if_neg (by omega)] at h
    obtain ⟨k, rfl, hk⟩ := h
    refine ⟨_, _, rfl, enters_of Tryz.func26 (by kernel_rfl) rfl, fun W' hf r B A n d m c s hl => ?_⟩
    have hc := hf.cell hk (fun e => e)
    have := mk_alone W' r k B A n d m c ((q : Int) - 3) hc (block_lt_of_cell hc)
    rw [show madeS q s = (0, ⟨(q : Int) - 3, 0, 0, []⟩) by
      have : q = 6 ∨ q = 7 ∨ q = 8 := by omega
      rcases this with rfl | rfl | rfl <;> rfl]
    exact this
theorem TabAt.keys {ks : List (List UInt8)} {vs : List Value} (hl : ks.length = vs.length) : ((ks.zip vs).map kv).map (·.1) = ks.map strV := by
  rw [List.map_map, show ((fun p : Value × Value => p.1) ∘ kv) = strV ∘ (fun e : List UInt8 × Value => e.1) from rfl, ← List.map_map]
  congr 1
  exact List.map_fst_zip (by omega)
theorem TabAt.get {w : World} {r : Nat} {ks : List (List UInt8)} {vs : List Value} (h : TabAt w r ks vs) (hl : ks.length = vs.length) (hn : ks.Nodup) (i : Nat) (hi : i < ks.length) :
    (Instr.lookup 46 (.map (some r)) (strV ks[i]) true).run Tryz.prog w = .ok (.tuple #[vs[i]'(hl ▸ hi), .bool true]) w := by
  refine MapAt.get (P := Tryz.prog) (T := 46) (kt := 9) (et := 54) (k := strV ks[i]) (v := vs[i]'(hl ▸ hi)) h (by kernel_rfl) (by kernel_rfl) trivial ?_ ?_ true
  · refine List.mem_map.2 ⟨(ks[i], vs[i]'(hl ▸ hi)), ?_, rfl⟩
    refine List.mem_iff_getElem.2 ⟨i, by rw [List.length_zip]; omega, by simp⟩
  · rw [TabAt.keys hl]
    exact List.Pairwise.map _ (fun a b hab e => hab (strV_inj e)) hn
theorem TabAt.gone {w : World} {r : Nat} {ks : List (List UInt8)} {vs : List Value} (h : TabAt w r ks vs) {k : List UInt8} (hk : k ∉ ks) :
    (Instr.lookup 46 (.map (some r)) (strV k) true).run Tryz.prog w = .ok (.tuple #[.agg #[.string ⟨#[]⟩, .bool false, .nilFunc], .bool false]) w := by
  refine MapAt.gone (P := Tryz.prog) (T := 46) (kt := 9) (et := 54) (k := strV k) h (by kernel_rfl) (by kernel_rfl) trivial ?_ (by go_simp) true
  intro v hv
  obtain ⟨e, he, ee⟩ := List.mem_map.1 hv
  unfold kv at ee
  injection ee with e1 e2
  have := strV_inj e1
  subst this
  exact hk (List.of_mem_zip (show (e.1, e.2) ∈ ks.zip vs from he)).1
/-- What a word's look-up tells. -/
theorem TabS.get {W : World} {r : Nat} (h : TabS W r) (x : ByteArray) {q : Nat} (hw : wordN x.data.toList = q) (hq : q < 9) : ∃ f, RowF W q f ∧ (Instr.lookup 46 (.map (some r)) (.string x) true).run Tryz.prog W = .ok (.tuple #[rowV q f, .bool true]) W := by
  obtain ⟨k2, k3, k4, k5, k6, k7, k8, ht, c2, c3, c4, c5, c6, c7, c8⟩ := h
  have hx : .string x = strV x.data.toList := by unfold strV; cases x; rfl
  have hw2 : x.data.toList = wordsL[q]'hq := by
    subst hw
    unfold wordN at hq ⊢
    exact (List.getElem_idxOf (show List.idxOf x.data.toList wordsL < wordsL.length from hq)).symm
  rw [hx, hw2]
  clear hw hx hw2
  have hn : wordsL.Nodup := by decide
  have hg := fun i hi => ht.get rfl hn i hi
  have : q = 0 ∨ q = 1 ∨ q = 2 ∨ q = 3 ∨ q = 4 ∨ q = 5 ∨ q = 6 ∨ q = 7 ∨ q = 8 := by omega
  rcases this with rfl | rfl | rfl | rfl | rfl | rfl | rfl | rfl | rfl
  · exact ⟨_, rfl, hg 0 hq⟩
  · exact ⟨_, rfl, hg 1 hq⟩
  · exact ⟨_, ⟨k2, rfl, c2⟩, hg 2 hq⟩
  · exact ⟨_, ⟨k3, rfl, c3⟩, hg 3 hq⟩
  · exact ⟨_, ⟨k4, rfl, c4⟩, hg 4 hq⟩
  · exact ⟨_, ⟨k5, rfl, c5⟩, hg 5 hq⟩
  · exact ⟨_, ⟨k6, rfl, c6⟩, hg 6 hq⟩
  · exact ⟨_, ⟨k7, rfl, c7⟩, hg 7 hq⟩
  · exact ⟨_, ⟨k8, rfl, c8⟩, hg 8 hq⟩
theorem TabS.gone {W : World} {r : Nat} (h : TabS W r) (x : ByteArray) (hw : wordN x.data.toList = 9) : (Instr.lookup 46 (.map (some r)) (.string x) true).run Tryz.prog W = .ok (.tuple #[.agg #[.string ⟨#[]⟩, .bool false, .nilFunc], .bool false]) W := by
  obtain ⟨k2, k3, k4, k5, k6, k7, k8, ht, _⟩ := h
  have hx : .string x = strV x.data.toList := by unfold strV; cases x; rfl
  rw [hx]
  refine ht.gone fun hm => ?_
  have := List.idxOf_lt_length_of_mem hm
  unfold wordN at hw
  rw [hw] at this
  exact absurd this (by decide)
end Go.Proofs.YtidhlfcmjpnhgaaGreatDoor

/- A line's words: what is held while they are read. -/
namespace Go.Proofs.YtidhlfcmjpnhgaaGreatDoor
open Go.RowKit Go.Lib

def letQ (q : Nat) : List Nat := [[110], [115], [115, 113], [115, 113, 116], [115, 116], [115], [], [], []].getD q []
def wantB (q : Nat) : ByteArray := ⟨([[110], [115, 120], [115, 113], [115, 113, 116], [115, 116], [115], [], [], []].getD q [] : List UInt8).toArray⟩
theorem want_size : ∀ q, q < 9 → (wantB q).size = wantsN q := by decide
theorem want_uses : ∀ q, q < 9 → wantsN q = (usesN q).length ∨ (q = 1 ∧ wantsN q = (usesN q).length + 1) := by decide
theorem want_let1 : ∀ q, q < 9 → ∀ i, i < 3 → i < (usesN q).length → ((wantB q).data.toList.getD i 0).toNat = (letQ q).getD i 0 := by decide
theorem want_let2 : ∀ q, q < 9 → ∀ i, i < 3 → i < (usesN q).length → (letQ q).getD i 0 = 115 ∨ (letQ q).getD i 0 = 113 ∨ (letQ q).getD i 0 = 110 ∨ (letQ q).getD i 0 = 116 := by decide
theorem want_let3 : ∀ q, q < 9 → ∀ i, i < 3 → i < (usesN q).length → mostL ((letQ q).getD i 0) = mostN ((usesN q).getD i 0) := by decide
theorem want_let4 : ∀ q, q < 9 → ∀ i, i < 3 → i < (usesN q).length → ((letQ q).take i).contains ((letQ q).getD i 0) = false := by decide
theorem let_len : ∀ q, q < 9 → (letQ q).length = (usesN q).length ∧ (usesN q).length ≤ 3 := by decide
/-- A step that is told, and what is wrong. -/
def RowP (w : World) (z : Int × ZC) (e : Ending) (w' : World) : Prop :=
  ∃ B d, e = .returned (.tuple #[.agg #[.int .i64 z.2.kind, .int .i64 z.2.src, .int .i64 z.2.n, .slice B z.2.b.length d], .int .i64 z.1]) ∧ Fr Nob w w' ∧ Sl w' 1 B z.2.b.length d (byteCells z.2.b) ∧ ∀ g o, B = some ⟨g, o, none⟩ → w.heap.size ≤ g
structure RdS (w wr : World) (q : Nat) (f : Value) (s : SC) (i : Nat) (B : Option Addr) (d : Nat) (A : Option Addr) (c : Nat) (E : List (Nat × Nat)) (ps : List PP) : Prop where
  fr : Fr Nob w wr
  row : Blk wr w.heap.size 54 #[.string (wantB q), .bool (decide (q = 3)), f]
  zst : Blk wr (w.heap.size + 1) 34 #[.int .i64 0, .int .i64 0, .int .i64 0, .slice none 0 0]
  line : Blk wr (w.heap.size + 3) 70 #[.map (some (w.heap.size + 2)), .slice B s.b.length d, .slice A ps.length c]
  map : MapN wr (w.heap.size + 2) E
  b : Sl wr 1 B s.b.length d (byteCells s.b)
  bf : ∀ g o, B = some ⟨g, o, none⟩ → w.heap.size ≤ g
  b0 : (i ≤ (usesN q).length ∨ q ≠ 1) → B = none ∧ d = 0 ∧ s.b = []
  own : wr.ownsRow (w.heap.size + 3) 41 2 (.slice A ps.length c) ps.length (ps.flatMap pcs)
  psok : s.fits = true → ps = s.ps
  psl : ps.length ≤ i
  names : ∀ p ∈ ps, p.name.size ≤ 100000 ∧ I64 p.value
  eok : s.fits = true → E = (letQ q).zip s.ns
  keys : ∀ e ∈ E, e.1 ∈ (letQ q).take i
  nsl : s.ns.length = min i (usesN q).length
  most : s.fits = true → ∀ j, j < s.ns.length → s.ns.getD j 0 ≤ mostN ((usesN q).getD j 0)
theorem RdS.start {w : World} {q : Nat} {f : Value} : RdS w ((((w.alloc (.cells #[.string (wantB q), .bool (decide (q = 3)), f] 54)).alloc (.cells #[.int .i64 0, .int .i64 0, .int .i64 0, .slice none 0 0] 34)).alloc (.map #[] 0)).alloc (.cells #[.map (some (w.heap.size + 2)), .slice none 0 0, .slice none 0 0] 70)) q f s0 0 none 0 none 0 [] [] := by
  have e1 : (w.alloc (.cells #[.string (wantB q), .bool (decide (q = 3)), f] 54)).heap.size = w.heap.size + 1 := by simp
  refine ⟨((((Fr.refl Nob w).alloc _).alloc _).alloc _).alloc _, ((((Blk.new _ _ _).alloc _).alloc _).alloc _), (((Blk.new_eq (by simp)).alloc _).alloc _), Blk.new_eq (by simp), ?_, Sl.none_ _ _, fun g o e => (by cases e), fun _ => ⟨rfl, rfl, rfl⟩, ⟨rfl, .inl ⟨rfl, rfl⟩⟩, fun _ => rfl, Nat.le_refl _, by simp, fun _ => by simp [s0], by simp, by simp [s0], fun _ j h => absurd h (by simp [s0])⟩
  have := MapAt.new (w := (w.alloc (.cells #[.string (wantB q), .bool (decide (q = 3)), f] 54)).alloc (.cells #[.int .i64 0, .int .i64 0, .int .i64 0, .slice none 0 0] 34)) (d := .int .u8) 0
  have e2 : ((w.alloc (.cells #[.string (wantB q), .bool (decide (q = 3)), f] 54)).alloc (.cells #[.int .i64 0, .int .i64 0, .int .i64 0, .slice none 0 0] 34)).heap.size = w.heap.size + 2 := by simp
  rw [e2] at this
  exact this.fr (S := Nob) ((Fr.refl _ _).alloc _) (fun e => e)
section
variable {w wr w' : World} {q : Nat} {f : Value} {s : SC} {i : Nat} {B : Option Addr} {d : Nat} {A : Option Addr} {c : Nat} {E : List (Nat × Nat)} {ps : List PP}
theorem RdS.aside (h : RdS w wr q f s i B d A c E ps) (hf : Fr Nob wr w') : RdS w w' q f s i B d A c E ps :=
  { h with fr := h.fr.call hf (fun _ e _ => e), row := h.row.fr hf (fun e => e), zst := h.zst.fr hf (fun e => e), line := h.line.fr hf (fun e => e), map := h.map.fr hf (fun e => e), b := h.b.pure hf, own := own_fr h.own hf (fun _ _ _ _ e => e) }
theorem zip_snoc : ∀ {l : List Nat} {ns : List Nat} {n : Nat}, ns.length < l.length → l.zip (ns ++ [n]) = l.zip ns ++ [(l.getD ns.length 0, n)]
  | [], _, _, h => by simp at h
  | a :: l, [], n, _ => by simp
  | a :: l, x :: ns, n, h => by
    have := zip_snoc (l := l) (ns := ns) (n := n) (by simpa using h)
    simp only [List.cons_append, List.zip_cons_cons, this, List.length_cons, List.getD_cons_succ]
theorem RdS.num (hq : q < 9) (h : RdS w wr q f s i B d A c E ps) (hi : i < (usesN q).length) {n : Nat} (hm : MapN w' (w.heap.size + 2) (E ++ [((letQ q).getD i 0, n)])) (hf : Fr (Only (w.heap.size + 2)) wr w') :
    RdS w w' q f { s with ns := s.ns ++ [n], fits := s.fits && decide (n ≤ mostN ((usesN q).getD i 0)) } (i + 1) B d A c (E ++ [((letQ q).getD i 0, n)]) ps := by
  have hl := let_len q hq
  have hns : s.ns.length = i := by rw [h.nsl]; omega
  have hb0 := h.b0 (.inl (by omega))
  have hlt := h.line.lt
  refine { fr := ?_, row := h.row.fr hf (fun e => ?_), zst := h.zst.fr hf (fun e => ?_), line := h.line.fr hf (fun e => ?_), map := hm, b := ?_, bf := h.bf, b0 := fun _ => hb0, own := ?_, psok := fun hh => ?_, psl := by have := h.psl; omega, names := h.names, eok := fun hh => ?_, keys := fun e he => ?_, nsl := ?_, most := fun hh j hj => ?_ }
  · exact (h.fr.mono (fun _ _ e => e.elim) : Fr (Only (w.heap.size + 2)) w wr).call hf (fun _ e _ => e) |>.mono fun k hk e => by have e : k = w.heap.size + 2 := e; omega
  · have e : w.heap.size = w.heap.size + 2 := e; omega
  · have e : w.heap.size + 1 = w.heap.size + 2 := e; omega
  · have e : w.heap.size + 3 = w.heap.size + 2 := e; omega
  · obtain ⟨rfl, rfl, hb⟩ := hb0
    simp only [hb]
    exact Sl.none_ _ _
  · exact own_fr h.own hf (fun k _ hk _ e => by have e : k = w.heap.size + 2 := e; omega)
  · simp only [Bool.and_eq_true] at hh
    exact h.psok hh.1
  · simp only [Bool.and_eq_true] at hh
    rw [h.eok hh.1, zip_snoc (by omega), hns]
  · rcases List.mem_append.1 he with he | he
    · have := h.keys e he
      exact List.mem_of_mem_take (i := i) (by rwa [List.take_take, Nat.min_eq_left (by omega)])
    · simp only [List.mem_singleton] at he
      subst he
      simp only
      rw [List.getD_eq_getElem?_getD, List.getElem?_eq_getElem (by omega), Option.getD_some]
      exact List.mem_iff_getElem.2 ⟨i, by rw [List.length_take]; omega, by simp⟩
  · simp only [List.length_append, List.length_singleton]; omega
  · simp only [Bool.and_eq_true, decide_eq_true_eq] at hh
    simp only [List.length_append, List.length_singleton] at hj
    by_cases hji : j < s.ns.length
    · simp only [List.getD_eq_getElem?_getD, List.getElem?_append_left hji]
      rw [← List.getD_eq_getElem?_getD, ← List.getD_eq_getElem?_getD]
      exact h.most hh.1 j hji
    · have : j = s.ns.length := by omega
      have e : (s.ns ++ [n]).getD s.ns.length 0 = n := by simp [List.getD_eq_getElem?_getD]
      show (s.ns ++ [n]).getD j 0 ≤ mostN ((usesN q).getD j 0)
      rw [this, e, hns]
      exact hh.2
theorem RdS.numFar (hq : q < 9) (h : RdS w wr q f s i B d A c E ps) (hi : i < (usesN q).length) {n : Nat} (hn : ¬ n < 18446744073709551616) (hf : Fr Nob wr w') :
    RdS w w' q f { s with ns := s.ns ++ [n], fits := s.fits && decide (n ≤ mostN ((usesN q).getD i 0)) } (i + 1) B d A c E ps := by
  have hl := let_len q hq
  have hns : s.ns.length = i := by rw [h.nsl]; omega
  have hb0 := h.b0 (.inl (by omega))
  have h2 := h.aside hf
  have hbig : decide (n ≤ mostN ((usesN q).getD i 0)) = false := by
    have : mostN ((usesN q).getD i 0) ≤ 18446744073709551615 := by unfold mostN; (repeat' split) <;> omega
    exact decide_eq_false (by omega)
  rw [hbig, Bool.and_false]
  refine { fr := h2.fr, row := h2.row, zst := h2.zst, line := h2.line, map := h2.map, b := h2.b, bf := h.bf, b0 := fun _ => hb0, own := h2.own, psok := fun hh => by simp at hh, psl := by have := h.psl; omega, names := h.names, eok := fun hh => by simp at hh, keys := fun e he => ?_, nsl := ?_, most := fun hh => by simp at hh }
  · have := h.keys e he
    exact List.mem_of_mem_take (i := i) (by rwa [List.take_take, Nat.min_eq_left (by omega)])
  · simp only [List.length_append, List.length_singleton]; omega
theorem RdS.bytes (hq : q = 1) (h : RdS w wr q f s i B d A c E ps) (hi : i = (usesN q).length) {bs : List UInt8} {B' : Option Addr} {d' : Nat} (hp : Ap wr w' wr.heap.size 5 B' d' bs.length (byteCells bs)) :
    RdS w (w'.setCell ⟨w.heap.size + 3, 1, none⟩ (.slice B' bs.length d')) q f { s with b := bs } (i + 1) B' d' A c E ps := by
  have h2 := h.aside hp.fr
  have hlt := h.line.lt
  have hset : Fr (Only (w.heap.size + 3)) w' (w'.setCell ⟨w.heap.size + 3, 1, none⟩ (.slice B' bs.length d')) := (Fr.refl (Only (w.heap.size + 3)) w').setCell (p := ⟨w.heap.size + 3, 1, none⟩) (fun _ => rfl) _
  refine { fr := ?_, row := h2.row.fr hset (fun e => ?_), zst := h2.zst.fr hset (fun e => ?_), line := h2.line.set 1 _, map := h2.map.fr hset (fun e => ?_), b := ?_, bf := fun g o e => Nat.le_trans h.fr.size (own_addr hp.own g o e), b0 := fun hh => ?_, own := ?_, psok := h.psok, psl := by have := h.psl; omega, names := h.names, eok := h.eok, keys := fun e he => ?_, nsl := ?_, most := h.most }
  · exact ((h2.fr.mono (fun _ _ e => e.elim) : Fr (Only (w.heap.size + 3)) w w').call hset (fun _ e _ => e)).mono fun k hk e => by have e : k = w.heap.size + 3 := e; omega
  · have e : w.heap.size = w.heap.size + 3 := e; omega
  · have e : w.heap.size + 1 = w.heap.size + 3 := e; omega
  · have e : w.heap.size + 2 = w.heap.size + 3 := e; omega
  · exact hp.sl.fr hset (fun g o e _ hh => by
      have h1 := own_addr hp.own g o e
      have hh : g = w.heap.size + 3 := hh
      omega)
  · rcases hh with hh | hh
    · omega
    · exact absurd hq hh
  · exact own_fr h2.own hset (fun k hk _ _ e => by
      have e : k = w.heap.size + 3 := e
      subst e
      refine h2.line.own_ne h2.own (by decide) ?_
      rw [← hk]
      cases A <;> rfl)
  · have := h.keys e he
    exact List.mem_of_mem_take (i := i) (by rwa [List.take_take, Nat.min_eq_left (by omega)])
  · have := h.nsl; simp only; omega
theorem propC_ok {x : List UInt8} {p : PP} (h : propC x = some (p, true)) : p.name.size ≤ 100000 ∧ I64 p.value := by
  unfold propC at h
  split at h
  · rename_i h1
    cases hv : valueC ((x.dropWhile (· != 61)).drop 1) with
    | none => rw [hv] at h; cases h
    | some nf =>
      obtain ⟨n, fl⟩ := nf
      rw [hv] at h
      simp only [Option.some.injEq, Prod.mk.injEq] at h
      obtain ⟨rfl, rfl⟩ := h
      have hn := h1.2
      unfold nmOk at hn
      simp only [Bool.and_eq_true, decide_eq_true_eq] at hn
      refine ⟨by have := hn.1.1.1.2; simp only; omega, ?_⟩
      unfold valueC at hv
      unfold I64
      simp only
      (repeat' split at hv) <;> simp at hv <;> omega
  · cases h
theorem RdS.prop (h : RdS w wr q f s i B d A c E ps) (h1 : q ≠ 1) (hi : (usesN q).length ≤ i) {p : PP} (hp : p.name.size ≤ 100000 ∧ I64 p.value) {A' : Option Addr} {c' : Nat} (hb : Blk w' (w.heap.size + 3) 70 #[.map (some (w.heap.size + 2)), .slice B s.b.length d, .slice A' (ps.length + 1) c'])
    (ho : w'.ownsRow (w.heap.size + 3) 41 2 (.slice A' (ps.length + 1) c') (ps.length + 1) ((ps ++ [p]).flatMap pcs)) (hf : Fr (Hi (w.heap.size + 3)) wr w') :
    RdS w w' q f { s with ps := s.ps ++ [p], fits := s.fits && true } (i + 1) B d A' c' E (ps ++ [p]) := by
  have hb0 := h.b0 (.inr h1)
  have hlt := h.line.lt
  have hps : (ps ++ [p]).length = ps.length + 1 := by simp
  refine { fr := ?_, row := h.row.fr hf (fun e => ?_), zst := h.zst.fr hf (fun e => ?_), line := by rw [hps]; exact hb, map := h.map.fr hf (fun e => ?_), b := ?_, bf := h.bf, b0 := fun _ => hb0, own := by rw [hps]; exact ho, psok := fun hh => ?_, psl := by have := h.psl; rw [hps]; omega, names := fun x hx => ?_, eok := fun hh => ?_, keys := fun e he => ?_, nsl := ?_, most := fun hh => ?_ }
  · exact ((h.fr.mono (fun _ _ e => e.elim) : Fr (Hi (w.heap.size + 3)) w wr).call hf (fun _ e _ => e)).mono fun k hk e => by have e : w.heap.size + 3 ≤ k := e; omega
  · have e : w.heap.size + 3 ≤ w.heap.size := e; omega
  · have e : w.heap.size + 3 ≤ w.heap.size + 1 := e; omega
  · have e : w.heap.size + 3 ≤ w.heap.size + 2 := e; omega
  · obtain ⟨rfl, rfl, hsb⟩ := hb0
    simp only [hsb]
    exact Sl.none_ _ _
  · simp only [Bool.and_true] at hh
    rw [h.psok hh]
  · rcases List.mem_append.1 hx with hx | hx
    · exact h.names x hx
    · simp only [List.mem_singleton] at hx; subst hx; exact hp
  · simp only [Bool.and_true] at hh
    exact h.eok hh
  · have := h.keys e he
    exact List.mem_of_mem_take (i := i) (by rwa [List.take_take, Nat.min_eq_left (by omega)])
  · have := h.nsl; simp only; omega
  · simp only [Bool.and_true] at hh
    exact h.most hh
theorem RdS.propFar (h : RdS w wr q f s i B d A c E ps) (h1 : q ≠ 1) (hi : (usesN q).length ≤ i) (p : PP) (hf : Fr Nob wr w') :
    RdS w w' q f { s with ps := s.ps ++ [p], fits := s.fits && false } (i + 1) B d A c E ps := by
  have hb0 := h.b0 (.inr h1)
  have h2 := h.aside hf
  refine { fr := h2.fr, row := h2.row, zst := h2.zst, line := h2.line, map := h2.map, b := h2.b, bf := h.bf, b0 := fun _ => hb0, own := h2.own, psok := fun hh => by simp at hh, psl := by have := h.psl; omega, names := h.names, eok := fun hh => by simp at hh, keys := fun e he => ?_, nsl := ?_, most := fun hh => by simp at hh }
  · have := h.keys e he
    exact List.mem_of_mem_take (i := i) (by rwa [List.take_take, Nat.min_eq_left (by omega)])
  · have := h.nsl; simp only; omega
/-- When all words are read, and fit. -/
theorem RdS.done (hq : q < 9) (h : RdS w wr q f s i B d A c E ps) (hi : (usesN q).length ≤ i) (hf : s.fits = true) (hl : i ≤ 10000) : LineOk wr (w.heap.size + 2) B A s.b.length d ps.length c q s := by
  have he := h.eok hf
  have hp := h.psok hf
  have hm := h.map
  rw [he] at hm
  have hlen := let_len q hq
  subst hp
  exact ⟨hm, by rw [h.nsl]; omega, h.most hf, rfl, h.b, rfl, Sl.of_own h.own, by have := h.psl; omega, h.names⟩
end
end Go.Proofs.YtidhlfcmjpnhgaaGreatDoor
