/- The reference: a text's configuration. -/
import Derived.Test.YtoegdmpmagbaiaaDoorV24
import Derived.Test.YtoegdmpmagbaiaaDoorSl
import Derived.Laws.MakeOwn
namespace Go.Proofs.YtoegdmpmagbaiaaDoor
open Go.RowKit Go.Lib

/-- The settings that were there, as flags. -/
def seenA (S : List Nat) : Array Value := #[.bool false, .bool (decide (0 ∈ S)), .bool (decide (1 ∈ S)), .bool (decide (2 ∈ S)), .bool (decide (3 ∈ S)), .bool (decide (4 ∈ S)), .bool (decide (5 ∈ S)), .bool (decide (6 ∈ S))]
theorem seenA_at (S : List Nat) {k : Nat} (hk : k < 7) : (seenA S)[k + 1]? = some (.bool (decide (k ∈ S))) := by
  have a : k = 0 ∨ k = 1 ∨ k = 2 ∨ k = 3 ∨ k = 4 ∨ k = 5 ∨ k = 6 := by omega
  rcases a with rfl | rfl | rfl | rfl | rfl | rfl | rfl <;> rfl
theorem seenA_set (S : List Nat) {k : Nat} (hk : k < 7) : (seenA S).setIfInBounds (k + 1) (.bool true) = seenA (k :: S) := by
  have a : k = 0 ∨ k = 1 ∨ k = 2 ∨ k = 3 ∨ k = 4 ∨ k = 5 ∨ k = 6 := by omega
  rcases a with rfl | rfl | rfl | rfl | rfl | rfl | rfl <;> simp [seenA]
theorem restC_st (c : CF) (S : List Nat) (k : Nat) (r : List (List UInt8)) : (restC (c, S) k r).1 = (restC (c, []) k r).1 ∧ ((restC (c, []) k r).1 = 0 → (restC (c, S) k r).2 = ((restC (c, []) k r).2.1, k :: S)) := by
  unfold restC
  split
  · exact ⟨rfl, fun e => by simp at e⟩
  · split
    · exact ⟨rfl, fun e => by simp at e⟩
    · split
      · exact ⟨rfl, fun _ => rfl⟩
      · exact ⟨rfl, fun e => by simp at e⟩
theorem setC_w {c : CF} {k : Nat} {vs : List Int} (h : k ≠ 3) : (setC c k vs).weights = c.weights := by
  unfold setC
  (repeat' split) <;> first | rfl | omega
theorem restC_w {c : CF} {k : Nat} {r : List (List UInt8)} (h : k ≠ 3) : (restC (c, []) k r).2.1.weights = c.weights := by
  unfold restC
  split
  · rfl
  · split
    · rfl
    · split
      · exact setC_w h
      · rfl
/-- What lies about while the reference reads. -/
structure RfS (w wr : World) (c : CF) (S : List Nat) (A : Option Addr) (cap : Nat) : Prop where
  fr : Fr Nob w wr
  res : Blk wr w.heap.size 47 (cfA cf0 none 0)
  box : Blk wr (w.heap.size + 1) 47 (cfA c A cap)
  seen : Blk wr (w.heap.size + 1 + 1) 4 (seenA S)
  sl : Sl wr 1 A c.weights.length cap (ints c.weights)
  nil : 3 ∉ S → c.weights = []
  new : ∀ g o, A = some ⟨g, o, none⟩ → w.heap.size + 1 + 1 < g
  ok : SetOk (c, S)
theorem RfS.call {w wr w1 : World} {c : CF} {S : List Nat} {A : Option Addr} {cap : Nat} (h : RfS w wr c S A cap) (hf : Fr Nob wr w1) : RfS w w1 c S A cap :=
  ⟨h.fr.call hf (fun _ e _ => e), h.res.fr hf (fun e => e), h.box.fr hf (fun e => e), h.seen.fr hf (fun e => e), h.sl.pure hf, h.nil, h.new, h.ok⟩
theorem mk_bools : ∃ cs : Array Value, cs = seenA [] ∧ ∀ W : World, (Instr.makeSlice 79 (.int .i64 8) (.int .i64 8)).run Tryd.prog W = .ok (.slice (some ⟨W.heap.size, 0, none⟩) 8 8) (W.alloc (.cells cs 4)) := by
  obtain ⟨i, h1, h2, h3, h4⟩ := info_parts (show (Tryd.prog.info? 4).map (fun i => (i.zero, i.size, i.bytes)) = some (some (.bool false), 1, 1) by kernel_rfl)
  refine ⟨seenA [], rfl, fun W => ?_⟩
  have hr := run_make (P := Tryd.prog) W 79 4 i (.bool false) Tryd.underlying79 h1 h2 .i64 .i64 8 8 (by omega) (by omega) (by rw [h4]; omega) (by omega)
  rw [h3, show madeCells (Value.bool false).cells (Int.toNat 8 * 1) = seenA [] by kernel_rfl] at hr
  exact hr
/-- What a setting's line leaves: the box, what is wrong. -/
structure LnR (w wx : World) (A : Option Addr) (c : CF) (k : Nat) (r : List (List UInt8)) (bz : Nat) (er : Int) : Prop where
  eq : er = (restC (c, []) k r).1
  fr : Fr Nob w wx
  new : w.heap.size ≤ bz
  box : ∃ c' A' cap', Blk wx bz 47 (cfA c' A' cap') ∧ (er = 0 → c' = (restC (c, []) k r).2.1 ∧ Sl wx 1 A' c'.weights.length cap' (ints c'.weights) ∧ ∀ g o, A' = some ⟨g, o, none⟩ → (A' = A ∧ c'.weights = c.weights) ∨ w.heap.size ≤ g)
set_option maxRecDepth 100000 in
set_option maxHeartbeats 4000000 in
theorem ref_Read (w : World) (s : ByteArray) (hs : s.size ≤ 100000) :
    Calls Tryd.prog 17 #[.string s] w fun e w' => ∃ A cap, e = .returned (.tuple #[.agg (cfA (readC s.data.toList).1 A cap), .int .i64 (readC s.data.toList).2.1, .int .i64 (readC s.data.toList).2.2]) ∧ Sl w' 1 A (readC s.data.toList).1.weights.length cap (ints (readC s.data.toList).1.weights) ∧ Fr Nob w w' := by
  by_cases hl : 512 < s.size
  · have hlI : (512 : Int) < s.size := by omega
    have HR := Lib.hid (show readC s.data.toList = (cf0, 13, 0) by unfold readC; rw [if_pos (by rw [ba_len]; exact hl)])
    clear hl
    go_enter Tryd.func17, Tryd.ntmps17
    go_wp2_with fail
    refine bodyPost_ret (ret_box2 (p := 2) (u := 3) (v := 4) rfl rfl ⟨_, Tryd.underlying47, rfl⟩ (by kernel_rfl) (Blk.new w 47 (cfA cf0 none 0))) rfl ?_
    rw [HR.out]
    exact ⟨none, 0, rfl, Sl.none_ _ _, (Fr.refl _ _).alloc _⟩
  · have hlI : ¬ (512 : Int) < s.size := by omega
    obtain ⟨cs, hcs0, hmk⟩ := mk_bools
    have HCS := Lib.hid hcs0
    clear hcs0
    go_enter Tryd.func17, Tryd.ntmps17
    go_upto_region 5 with fail
    clear hmk
    obtain ⟨W0, hW0⟩ : ∃ W0, W0 = ((w.alloc (.cells #[.int .i64 0, .int .i64 0, .bool false, .slice none 0 0, .int .i64 0, .int .i64 0, .int .i64 0] 47)).alloc (.cells #[.int .i64 0, .int .i64 8, .bool false, .slice none 0 0, .int .i64 4, .int .i64 0, .int .i64 0] 47)).alloc (.cells cs 4) := ⟨_, rfl⟩
    have HS := Lib.hid (show RfS w W0 cf1 [] none 0 by
      rw [hW0, HCS.out]
      exact ⟨(((Fr.refl _ _).alloc _).alloc _).alloc _, ((Blk.new _ _ _).alloc _).alloc _, (Blk.new_eq (by simp)).alloc _, Blk.new_eq (by simp), Sl.none_ _ _, fun _ => rfl, (fun g o e => by cases e), setOk0⟩)
    have HW0 := Lib.hid (show W0.heap.size = w.heap.size + 3 by rw [hW0]; simp)
    rw [← hW0]
    clear hW0
    have HSP := Lib.hid (ref_Split W0 s 10 hs)
    go_wp2_with ((go_at_call 39); refine HSP.out.mono ?_; rintro e W1 ⟨PA, n, d, ps, rfl, hps, hsl, hPA, hf1⟩; have HPS := Lib.hid hps; have HSL := Lib.hid hsl; have HPA := Lib.hid hPA; have HS1 := Lib.hid (HS.out.call hf1); clear hps hsl hPA hf1)
    have hnn : ps.length = n := by have := HSL.out.len; rw [strB_len] at this; omega
    have HNN := Lib.hid hnn
    have hn0 := splitC_len 10 s.data.toList
    rw [← HPS.out, bl_len, ba_len, hnn] at hn0
    have hn5 : n ≤ 513 := by omega
    have hmx := HSL.out.max
    have hle := HSL.out.le
    unfold maxLen at hmx
    have HL5 := Lib.hid hl
    clear hnn hn0 hl HSP HCS
    go_loopw [8] (fun iv wr => ∃ (k : Nat) (c : CF) (S : List Nat) (A : Option Addr) (cap : Nat), k ≤ n ∧ iv = .int .i64 k ∧ Hid (RfS w wr c S A cap) ∧ Hid (Sl wr 1 PA n d (strB ps)) ∧ Hid (loopC 0 (cf1, []) (splitC 10 s.data.toList) = loopC k (c, S) ((splitC 10 s.data.toList).drop k))) (fun iv _ => n - (RowKit.intOf iv).toNat)
    case atStart => exact ⟨0, cf1, [], none, 0, Nat.zero_le _, rfl, HS1, HSL, Lib.hid rfl⟩
    case round =>
      obtain ⟨k, c, S, A, cap, hk, rfl, hr, hsl, hlp⟩ := hrel
      by_cases hlt : k < n
      · have hI : (k : Int) < n := by omega
        have hI3 : 0 ≤ (k : Int) := by omega
        have hkp : k < ps.length := by rw [HNN.out]; exact hlt
        obtain ⟨pb, po, hPAe, hpb, hcp⟩ := hsl.out.str_at hkp
        subst hPAe
        have hkb : k < (splitC 10 s.data.toList).length := by rw [← HPS.out, bl_len]; exact hkp
        have hat : (splitC 10 s.data.toList)[k] = ps[k].data.toList := by
          have : (bl ps)[k]'(by rw [bl_len]; exact hkp) = ps[k].data.toList := by simp [bl]
          rw [← this]
          congr 1
          exact HPS.out.symm
        have hdr : (splitC 10 s.data.toList).drop k = ps[k].data.toList :: (splitC 10 s.data.toList).drop (k + 1) := by rw [List.drop_eq_getElem_cons hkb, hat]
        have hsz : ps[k].size ≤ 512 := by
          have := (splitC_part 10 s.data.toList ((splitC 10 s.data.toList)[k]) (List.getElem_mem _)).1
          rw [hat, ba_len, ba_len] at this
          have := HL5.out
          omega
        have HLP := Lib.hid hlp.out
        rw [hdr] at HLP
        generalize ps[k] = x at *
        have HFI := Lib.hid (ref_Words wr x (by omega))
        have HNX := Lib.hid (show ∀ st', stepC (c, S) (wordsC x.data.toList) = (0, st') → loopC 0 (cf1, []) (splitC 10 s.data.toList) = loopC (k + 1) st' ((splitC 10 s.data.toList).drop (k + 1)) from fun st' e => by
          rw [HLP.out, loopC, e]
          rfl)
        have HRE := Lib.hid (show ∀ er, (stepC (c, S) (wordsC x.data.toList)).1 = er → er ≠ 0 → readC s.data.toList = (cf0, er, (k : Int) + 1) from fun er h e => by
          unfold readC
          rw [if_neg (by rw [ba_len]; exact HL5.out), HLP.out, loopC, h, if_neg e, if_neg e]
          simp)
        have HPB := Lib.hid (show w.heap.size + 1 + 1 < pb by
          have h1 := HPA.out pb po rfl
          have h2 := HW0.out
          omega)
        have HX5 := Lib.hid (show x.data.toList.length ≤ 512 by rw [ba_len]; exact hsz)
        clear hkp hkb hdr hat hlp HLP hsz
        go_upto_region 10 with ((go_at_call 40); (with_reducible refine HFI.out.mono ?_); rintro e W2 ⟨B, n2, d2, ws, rfl, hws, hs2, hB, hf2⟩; have HWS := Lib.hid hws; have HS2 := Lib.hid hs2; have HR2 := Lib.hid (hr.out.call hf2); have HL2 := Lib.hid (hsl.out.pure hf2); have HB2 := Lib.hid (show ∀ g o, B = some ⟨g, o, none⟩ → w.heap.size + 1 + 1 < g from fun g o e => by have h1 := hB g o e; have h2 := hr.out.seen.lt; omega); clear hws hs2 hB hf2)
        rw [← HWS.out] at HNX HRE
        have hn2 : ws.length = n2 := by have := HS2.out.len; rw [strB_len] at this; omega
        subst hn2
        have HWM := Lib.hid (show ∀ y ∈ ws, 0 < y.size ∧ y.size ≤ 512 from fun y hy => by
          have hy2 : y.data.toList ∈ wordsC x.data.toList := by rw [← HWS.out]; exact List.mem_map.2 ⟨y, hy, rfl⟩
          obtain ⟨e1, e2, _⟩ := wordsC_mem hy2
          rw [ba_len] at e2
          have := HX5.out
          refine ⟨?_, by omega⟩
          rcases Nat.eq_zero_or_pos y.size with e | e
          · exact absurd (List.length_eq_zero_iff.1 (by rw [ba_len]; exact e)) e1
          · exact e)
        have HWL := Lib.hid (show ws.length ≤ 513 by
          have e3 := wordsC_len x.data.toList
          rw [← HWS.out, bl_len] at e3
          have := HX5.out
          omega)
        have hmx2 := HS2.out.max
        unfold maxLen at hmx2
        have hle2 := HS2.out.le
        clear HFI HWS HX5 hr hsl hcp hpb
        cases ws with
        | nil =>
          have HN := Lib.hid (HNX.out (c, S) rfl)
          simp only [List.length_nil] at HS2 hle2
          go_wp2_with fail
          go_roundw
          case rel => exact ⟨k + 1, c, S, A, cap, by omega, by go_num, HR2, HL2, HN⟩
          case measure => simp [RowKit.intOf]; omega
        | cons y rest =>
          obtain ⟨h9, o9, hBe, hh9, hcy⟩ := HS2.out.str_at (k := 0) (by simp)
          subst hBe
          simp only [List.getElem_cons_zero, Nat.add_zero] at hcy
          have hy0 := (HWM.out y (by simp)).1
          have hy0I : (0 : Int) < y.size := by omega
          have hnz : ((rest.length : Int) + 1 == 0) = false := by simp; omega
          have hlI2 : (0 : Int) < (rest.length : Int) + 1 := by omega
          have hhd : y.data.toList.head? = some (y[0]'hy0) := by rw [list_cons y (by omega)]; rfl
          simp only [List.length_cons] at HS2 hle2 HWL
          by_cases h35 : y[0]'hy0 = 35
          · have q : (((y[0]'hy0).toNat : Int) == 35) = true := by rw [h35]; rfl
            have HN := Lib.hid (HNX.out (c, S) (by unfold bl; rw [List.map_cons, stepC, if_pos (by rw [hhd, h35])]))
            clear h35 hhd
            go_wp2_with fail
            go_roundw
            case rel => exact ⟨k + 1, c, S, A, cap, by omega, by go_num, HR2, HL2, HN⟩
            case measure => simp [RowKit.intOf]; omega
          · have q : (((y[0]'hy0).toNat : Int) == 35) = false := by rw [beq_eq_false_iff_ne]; intro e; exact h35 (UInt8.toNat_inj.1 (by rw [show (35 : UInt8).toNat = 35 from rfl]; omega))
            have HD := Lib.hid (show ¬ y.data.toList.head? = some 35 by rw [hhd]; simpa using h35)
            have HPL := Lib.hid (ref_place W2 y)
            clear hhd h35
            by_cases hk7 : keyC y.data.toList = 7
            · have hkp : keyP y.data.toList = 0 := by unfold keyP; rw [if_pos hk7]
              rw [hkp] at HPL
              have HE := Lib.hid (HRE.out 30 (by unfold bl; rw [List.map_cons, stepC, if_neg HD.out, if_pos hk7]) (by decide))
              clear hk7 hkp
              go_wp2_with (first | ((go_at_call 41); (with_reducible refine HPL.out.mono ?_); rintro e W3 ⟨rfl, hf3⟩; have HR3 := Lib.hid (HR2.out.call hf3); have HB3 := Lib.hid HR3.out.res; clear hf3) | (refine wpList_stBox rfl rfl (by rfl) (by rfl) (by kernel_rfl) (by rfl) HB3.out (by rfl) ?_; intro W7 hb7 hf7; have HB7 := Lib.hid hb7; have HF7 := Lib.hid hf7; clear hb7 hf7) | fail)
              refine bodyPost_ret (ret_box2 (p := 2) (u := 3) (v := 4) rfl rfl ⟨_, Tryd.underlying47, rfl⟩ (by kernel_rfl) HB7.out) rfl ?_
              rw [HE.out]
              exact ⟨none, 0, rfl, Sl.none_ _ _, HR3.out.fr.call HF7.out (fun i (e : i = w.heap.size) hlt => by omega)⟩
            · obtain ⟨kk, HK⟩ : ∃ kk, Hid (keyC y.data.toList = kk) := ⟨_, Lib.hid rfl⟩
              rw [HK.out] at hk7
              have hkk : kk < 7 := by have := keyC_le y.data.toList; rw [HK.out] at this; omega
              have hkp : keyP y.data.toList = (kk : Int) + 1 := by unfold keyP; rw [HK.out, if_neg hk7]
              rw [hkp] at HPL
              have hkI : ((kk : Int) + 1 == 0) = false := by simp; omega
              have hkJ : (0 : Int) ≤ (kk : Int) + 1 := by omega
              have hkL : (kk : Int) + 1 < 8 := by omega
              clear hkp hk7
              by_cases hm : kk ∈ S
              · have HE := Lib.hid (HRE.out 31 (by unfold bl; rw [List.map_cons, stepC, if_neg HD.out, HK.out, if_neg (by omega), if_pos hm]) (by decide))
                have hmd := Lib.hid (show (seenA S)[kk + 1]? = some (.bool true) by rw [seenA_at S hkk, decide_eq_true hm])
                clear hm
                go_wp2_with (first | ((go_at_call 41); (with_reducible refine HPL.out.mono ?_); rintro e W3 ⟨rfl, hf3⟩; have HR3 := Lib.hid (HR2.out.call hf3); have HB3 := Lib.hid HR3.out.res; have sc := (HR3.out.seen.cell (kk + 1)).trans hmd.out; have sl_ := HR3.out.seen.lt; clear hf3) | (refine wpList_stBox rfl rfl (by rfl) (by rfl) (by kernel_rfl) (by rfl) HB3.out (by rfl) ?_; intro W7 hb7 hf7; have HB7 := Lib.hid hb7; have HF7 := Lib.hid hf7; clear hb7 hf7) | fail)
                refine bodyPost_ret (ret_box2 (p := 2) (u := 3) (v := 4) rfl rfl ⟨_, Tryd.underlying47, rfl⟩ (by kernel_rfl) HB7.out) rfl ?_
                rw [HE.out]
                exact ⟨none, 0, rfl, Sl.none_ _ _, HR3.out.fr.call HF7.out (fun i (e : i = w.heap.size) hlt => by omega)⟩
              · have HM := Lib.hid hm
                have hmd := Lib.hid (show (seenA S)[kk + 1]? = some (.bool false) by rw [seenA_at S hkk, decide_eq_false hm])
                clear hm
                go_upto_region 17 with (first | ((go_at_call 41); (with_reducible refine HPL.out.mono ?_); rintro e W3 ⟨rfl, hf3⟩; have HR3 := Lib.hid (HR2.out.call hf3); have HL3 := Lib.hid (HL2.out.pure hf3); have HS3 := Lib.hid (HS2.out.pure hf3); have sc := (HR3.out.seen.cell (kk + 1)).trans hmd.out; have sl_ := HR3.out.seen.lt; have sz_ := HR3.out.seen.frozen (kk + 1); clear hf3) | fail)
                obtain ⟨W4, hW4⟩ : ∃ W4, W4 = W3.setCell ⟨w.heap.size + 1 + 1, kk + 1, none⟩ (.bool true) := ⟨_, rfl⟩
                have HFs := Lib.hid (show Fr (Only (w.heap.size + 1 + 1)) W3 W4 by rw [hW4]; exact (Fr.refl (Only (w.heap.size + 1 + 1)) W3).setCell (p := ⟨w.heap.size + 1 + 1, kk + 1, none⟩) (fun _ => rfl) _)
                have HSe := Lib.hid (show Blk W4 (w.heap.size + 1 + 1) 4 (seenA (kk :: S)) by rw [hW4, ← seenA_set S hkk]; exact HR3.out.seen.set (kk + 1) _)
                rw [← hW4]
                clear hW4 sc sl_ sz_
                have HFw := Lib.hid (show Fr Nob w W4 from HR3.out.fr.call HFs.out (fun i (e : i = w.heap.size + 1 + 1) hlt => by omega))
                have HRs := Lib.hid (HR3.out.res.fr HFs.out (fun (e : w.heap.size = w.heap.size + 1 + 1) => by omega))
                have HBx := Lib.hid (HR3.out.box.fr HFs.out (fun (e : w.heap.size + 1 = w.heap.size + 1 + 1) => by omega))
                have HSc := Lib.hid (HR3.out.sl.fr HFs.out (fun g o e _ (q : g = w.heap.size + 1 + 1) => by have := HR3.out.new g o e; omega))
                have HL4 := Lib.hid (HL3.out.fr HFs.out (fun g o e _ (q : g = w.heap.size + 1 + 1) => by
                  injection e with e; injection e with e1
                  have := HPB.out
                  omega))
                have HS4 := Lib.hid (HS3.out.fr HFs.out (fun g o e _ (q : g = w.heap.size + 1 + 1) => by have := HB2.out g o e; omega))
                have HNW := Lib.hid HR3.out.new
                have HOK := Lib.hid HR3.out.ok
                have HNI := Lib.hid (show kk = 3 → c.weights = [] from fun e => HR3.out.nil (by rw [← e]; exact HM.out))
                have HN3 := Lib.hid HR3.out.nil
                obtain ⟨A3, d3, hsl3, hw3, hA3⟩ := words_tail HS4.out
                have HW3 := Lib.hid hw3
                have HLN := Lib.hid (fun (W : World) (hf : Fr Nob W4 W) => ref_line W c A A3 cap rest.length d3 kk rest hkk HNI.out (HSc.out.pure hf) (HW3.out.pure hf) (by have := HWL.out; omega) (fun y2 hy2 => by have := (HWM.out y2 (by simp [hy2])).2; omega))
                have HBR := Lib.hid (fun (W : World) (hf : Fr Nob W4 W) => HBx.out.fr hf (fun e => e))
                unfold cfA at HLN
                clear HR3 HL3 HS3 HR2 HL2 HS2 hw3 hA3 HPL hmd hcy
                go_cut [11, 12] (fun bv ev wx => ∃ bz er, bv = .pointer (some ⟨bz, 0, none⟩) ∧ ev = .int .i64 er ∧ LnR W4 wx A c kk (bl rest) bz er)
                case first =>
                  rename_i J9 K9 hJ9 hK9
                  have HB0' := HBx.out
                  unfold cfA at HB0'
                  have HBX := Lib.hid HB0'
                  clear HB0'
                  refine wp_region_held_drew (S := fun W => Fr Nob W4 W) (by kernel_rfl) ((Fr.refl Nob W4).drew) (fun hHeld => ?_)
                  refine takeH (i := 0) (t := 64) rfl (by rfl) (by kernel_rfl) (by kernel_rfl) (by kernel_rfl) (fun _ _ _ h => h) (yields_ldBox (by rfl) rfl rfl (fun W hSw => HBX.out.fr (show Fr Nob W4 W from hSw) (fun e => e)) ⟨_, Tryd.underlying47, rfl⟩ (by kernel_rfl)) (by assumption) ?_
                  simp only [List.setIfInBounds_toArray, List.set_cons_zero, List.set_cons_succ]
                  refine takeH (i := 1) (t := 65) (v := ?_) rfl (by rfl) (by kernel_rfl) (by kernel_rfl) (by kernel_rfl) (fun _ _ _ h => h) (Or.inl ⟨by rfl, ?_⟩) (by assumption) ?_
                  rotate_left
                  · (intro W hSw; go_simp)
                    all_goals with_reducible rfl
                  simp only [List.setIfInBounds_toArray, List.set_cons_zero, List.set_cons_succ]
                  refine takeH (i := 2) (t := 66) (v := ?_) rfl (by rfl) (by kernel_rfl) (by kernel_rfl) (by kernel_rfl) (fun _ _ _ h => h) (Or.inl ⟨by rfl, ?_⟩) (by assumption) ?_
                  rotate_left
                  · (intro W hSw; go_simp)
                    all_goals with_reducible rfl
                  simp only [List.setIfInBounds_toArray, List.set_cons_zero, List.set_cons_succ]
                  refine takeH (i := 3) (t := 67) (v := ?_) rfl (by rfl) (by kernel_rfl) (by kernel_rfl) (by kernel_rfl) (fun _ _ _ h => h) (Or.inl ⟨by rfl, ?_⟩) (by assumption) ?_
                  rotate_left
                  · (intro W hSw; go_simp)
                    all_goals with_reducible rfl
                  simp only [List.setIfInBounds_toArray, List.set_cons_zero, List.set_cons_succ]
                  refine wpAnyH_ready (rs := [4, 8]) (by kernel_rfl) (by simp) ?_
                  refine AllReadyH.cons rfl (fun K hK => ?_) (AllReadyH.cons rfl (fun K hK => ?_) AllReadyH.nil)
                  · go_simp
                    (go_at_call 42)
                    refine (HLN.out _ (show Fr Nob W4 _ from hHeld)).mono ?_
                    rintro e W5 ⟨c5, A5, cap5, rfl, hok5, hf5⟩
                    have z5 := (show Fr Nob W4 _ from hHeld).size
                    have z6 := hf5.size
                    go_simp
                    refine hK.out _ _ ?_ (fun hHeld => ?_)
                    · exact (show Fr Nob W4 _ from hHeld).call hf5 (fun _ h _ => h)
                    clear hK K
                    refine takeH (i := 5) (t := 63) (v := ?_) rfl (by rfl) (by kernel_rfl) (by kernel_rfl) (by kernel_rfl) (fun _ _ _ h => h) (Or.inl ⟨by rfl, ?_⟩) (by assumption) ?_
                    rotate_left
                    · (intro W hSw; go_simp)
                      all_goals with_reducible rfl
                    simp only [List.setIfInBounds_toArray, List.set_cons_zero, List.set_cons_succ]
                    refine takeH (i := 6) (t := 69) (v := ?_) rfl (by rfl) (by kernel_rfl) (by kernel_rfl) (by kernel_rfl) (fun _ _ _ h => h) (Or.inl ⟨by rfl, ?_⟩) (by assumption) ?_
                    rotate_left
                    · (intro W hSw; go_simp)
                      all_goals with_reducible rfl
                    simp only [List.setIfInBounds_toArray, List.set_cons_zero, List.set_cons_succ]
                    refine takeH (i := 7) (t := 70) (v := ?_) rfl (by rfl) (by kernel_rfl) (by kernel_rfl) (by kernel_rfl) (fun _ _ _ h => h) (Or.inl ⟨by rfl, ?_⟩) (by assumption) ?_
                    rotate_left
                    · (intro W hSw; go_simp)
                      all_goals with_reducible rfl
                    simp only [List.setIfInBounds_toArray, List.set_cons_zero, List.set_cons_succ]
                    refine wpAnyH_ready (rs := [8]) (by kernel_rfl) (by simp) ?_
                    refine AllReadyH.cons rfl (fun K hK => ?_) AllReadyH.nil
                    go_simp
                    refine hK.out _ _ ?_ (fun hHeld => ?_)
                    · exact (show Fr Nob W4 _ from hHeld).alloc _
                    clear hK K
                    refine wpAnyH_ready (rs := [9]) (by kernel_rfl) (by simp) ?_
                    refine AllReadyH.cons rfl (fun K hK => ?_) AllReadyH.nil
                    rw [if_pos (by rfl)]
                    refine wp_stBoxN rfl (by rfl) (by rfl) (by rfl) (by kernel_rfl) (by rfl) (Blk.new W5 _ _) (by rfl) ?_
                    intro W7 hb7 hf7
                    have hsl7 : (restC (c, []) kk (bl rest)).1 = 0 → Sl W7 1 A5 c5.weights.length cap5 (ints c5.weights) := fun e0 => by
                      have h := (hok5 e0).2.1
                      refine (h.alloc (.cells #[.int .i64 0, .int .i64 0, .bool false, .slice none 0 0, .int .i64 0, .int .i64 0, .int .i64 0] 47)).fr hf7 (fun g o e hn (q : g = W5.heap.size) => ?_)
                      obtain ⟨b2, o2, e3, e4, _⟩ := h.cells hn
                      rw [e3] at e
                      injection e with e; injection e with e5
                      omega
                    refine hK.out _ _ ?_ (fun hHeld => ?_)
                    · exact (show Fr Nob W4 _ from hHeld).call hf7 (fun k (hk : k = W5.heap.size) hlt => by have : W4.heap.size ≤ W5.heap.size := Nat.le_trans z5 z6; omega)
                    clear hK K
                    refine takeH (i := 10) (t := 12) (v := ?_) rfl (by rfl) (by kernel_rfl) (by kernel_rfl) (by kernel_rfl) (fun _ _ _ h => h) (Or.inl ⟨by rfl, ?_⟩) (by assumption) ?_
                    rotate_left
                    · (intro W hSw; go_simp)
                      all_goals with_reducible rfl
                    simp only [List.setIfInBounds_toArray, List.set_cons_zero, List.set_cons_succ]
                    refine wpAnyH_done (by kernel_rfl) ?_ _
                    refine hK9 _ _ (hJ9 _ _ ?_)
                    (repeat apply Exists.intro)
                    refine ⟨?_, rfl⟩
                    exact ⟨W5.heap.size, _, rfl, rfl, ⟨rfl, (show Fr Nob W4 _ from hHeld), Nat.le_trans z5 z6, ⟨c5, A5, cap5, hb7, fun e0 => ⟨(hok5 e0).1, hsl7 e0, fun g o e => ((hok5 e0).2.2 g o e).imp id (fun q => Nat.le_trans z5 q)⟩⟩⟩⟩
                  · go_simp
                    refine hK.out _ _ ?_ (fun hHeld => ?_)
                    · exact (show Fr Nob W4 _ from hHeld).alloc _
                    clear hK K
                    refine wpAnyH_ready (rs := [4]) (by kernel_rfl) (by simp) ?_
                    refine AllReadyH.cons rfl (fun K hK => ?_) AllReadyH.nil
                    go_simp
                    (go_at_call 42)
                    refine (HLN.out _ (show Fr Nob W4 _ from hHeld)).mono ?_
                    rintro e W5 ⟨c5, A5, cap5, rfl, hok5, hf5⟩
                    have z5 := (show Fr Nob W4 _ from hHeld).size
                    have z6 := hf5.size
                    have hb0 := (Blk.new W4.drew 47 #[.int .i64 0, .int .i64 0, .bool false, .slice none 0 0, .int .i64 0, .int .i64 0, .int .i64 0]).fr hf5 (fun e => e)
                    have hzz : W4.drew.heap.size = W4.heap.size := rfl
                    go_simp
                    refine hK.out _ _ ?_ (fun hHeld => ?_)
                    · exact (show Fr Nob W4 _ from hHeld).call hf5 (fun _ h _ => h)
                    clear hK K
                    refine takeH (i := 5) (t := 63) (v := ?_) rfl (by rfl) (by kernel_rfl) (by kernel_rfl) (by kernel_rfl) (fun _ _ _ h => h) (Or.inl ⟨by rfl, ?_⟩) (by assumption) ?_
                    rotate_left
                    · (intro W hSw; go_simp)
                      all_goals with_reducible rfl
                    simp only [List.setIfInBounds_toArray, List.set_cons_zero, List.set_cons_succ]
                    refine takeH (i := 6) (t := 69) (v := ?_) rfl (by rfl) (by kernel_rfl) (by kernel_rfl) (by kernel_rfl) (fun _ _ _ h => h) (Or.inl ⟨by rfl, ?_⟩) (by assumption) ?_
                    rotate_left
                    · (intro W hSw; go_simp)
                      all_goals with_reducible rfl
                    simp only [List.setIfInBounds_toArray, List.set_cons_zero, List.set_cons_succ]
                    refine takeH (i := 7) (t := 70) (v := ?_) rfl (by rfl) (by kernel_rfl) (by kernel_rfl) (by kernel_rfl) (fun _ _ _ h => h) (Or.inl ⟨by rfl, ?_⟩) (by assumption) ?_
                    rotate_left
                    · (intro W hSw; go_simp)
                      all_goals with_reducible rfl
                    simp only [List.setIfInBounds_toArray, List.set_cons_zero, List.set_cons_succ]
                    refine wpAnyH_ready (rs := [9]) (by kernel_rfl) (by simp) ?_
                    refine AllReadyH.cons rfl (fun K hK => ?_) AllReadyH.nil
                    rw [if_pos (by rfl)]
                    refine wp_stBoxN rfl (by rfl) (by rfl) (by rfl) (by kernel_rfl) (by rfl) hb0 (by rfl) ?_
                    intro W7 hb7 hf7
                    have hsl7 : (restC (c, []) kk (bl rest)).1 = 0 → Sl W7 1 A5 c5.weights.length cap5 (ints c5.weights) := fun e0 => by
                      have h := (hok5 e0).2.1
                      refine h.fr hf7 (fun g o e hn (q : g = W4.drew.heap.size) => ?_)
                      rcases (hok5 e0).2.2 g o e with ⟨q1, q2⟩ | q1
                      · rw [q2] at hn
                        obtain ⟨b2, o2, e3, e4, _⟩ := HSc.out.cells hn
                        rw [q1, e3] at e
                        injection e with e; injection e with e5
                        omega
                      · have q2 := q1
                        simp at q2
                        have q3 : g = W4.heap.size := q
                        omega
                    refine hK.out _ _ ?_ (fun hHeld => ?_)
                    · exact (show Fr Nob W4 _ from hHeld).call hf7 (fun k (hk : k = W4.drew.heap.size) hlt => by omega)
                    clear hK K
                    refine takeH (i := 10) (t := 12) (v := ?_) rfl (by rfl) (by kernel_rfl) (by kernel_rfl) (by kernel_rfl) (fun _ _ _ h => h) (Or.inl ⟨by rfl, ?_⟩) (by assumption) ?_
                    rotate_left
                    · (intro W hSw; go_simp)
                      all_goals with_reducible rfl
                    simp only [List.setIfInBounds_toArray, List.set_cons_zero, List.set_cons_succ]
                    refine wpAnyH_done (by kernel_rfl) ?_ _
                    refine hK9 _ _ (hJ9 _ _ ?_)
                    (repeat apply Exists.intro)
                    refine ⟨?_, rfl⟩
                    exact ⟨W4.drew.heap.size, _, rfl, rfl, ⟨rfl, (show Fr Nob W4 _ from hHeld), Nat.le_refl _, ⟨c5, A5, cap5, hb7, fun e0 => ⟨(hok5 e0).1, hsl7 e0, fun g o e => ((hok5 e0).2.2 g o e).imp id (fun q => Nat.le_trans z5 q)⟩⟩⟩⟩
                case rest =>
                  obtain ⟨bz, er, rfl, rfl, hln⟩ := hcut
                  have HLR := Lib.hid hln
                  have hrst := restC_st c S kk (bl rest)
                  have hstep : stepC (c, S) (bl (y :: rest)) = restC (c, S) kk (bl rest) := stepC_key HD.out HK.out hkk HM.out
                  have HERR := Lib.hid (show er ≠ 0 → readC s.data.toList = (cf0, er, (k : Int) + 1) from fun e => HRE.out er (by rw [hstep, hrst.1, ← hln.eq]) e)
                  have HOKK := Lib.hid (show er = 0 → stepC (c, S) (bl (y :: rest)) = (0, ((restC (c, []) kk (bl rest)).2.1, kk :: S)) from fun e => by
                    have e0 : (restC (c, []) kk (bl rest)).1 = 0 := by rw [← hln.eq]; exact e
                    rw [hstep]
                    exact Prod.ext (hrst.1.trans e0) (hrst.2 e0))
                  have HRs5 := Lib.hid (HRs.out.fr hln.fr (fun e => e))
                  have HBx5 := Lib.hid (HBR.out _ hln.fr)
                  have HSe5 := Lib.hid (HSe.out.fr hln.fr (fun e => e))
                  have HL5' := Lib.hid (HL4.out.pure hln.fr)
                  have HF5 := Lib.hid (HFw.out.call hln.fr (fun _ e _ => e))
                  have HZ4 := Lib.hid HSe.out.lt
                  clear hln hrst hstep HRs HBx HSe HL4 HS4 HFs HLN HBR hsl3 hy0I hnz hlI2 q hkI hkJ hkL
                  by_cases he : er = 0
                  · obtain ⟨c5, A5, cap5, hb5, hok5⟩ := HLR.out.box
                    obtain ⟨e5, hs5, ha5⟩ := hok5 he
                    have HB5 := Lib.hid hb5
                    have HS5 := Lib.hid hs5
                    have HA5 := Lib.hid ha5
                    have HE5 := Lib.hid e5
                    have HST := Lib.hid (HOKK.out he)
                    subst he
                    clear hb5 hok5 e5 hs5 ha5
                    go_wp2_with (first | (refine wpList_ldBox rfl rfl (by rfl) ⟨_, Tryd.underlying47, rfl⟩ (by kernel_rfl) HB5.out ?_) | (refine wpList_stBox rfl rfl (by rfl) (by rfl) (by kernel_rfl) (by rfl) HBx5.out (by rfl) ?_; intro W7 hb7 hf7; have HB7 := Lib.hid hb7; have HF7 := Lib.hid hf7; clear hb7 hf7) | fail)
                    have hnew : ∀ g o, A5 = some ⟨g, o, none⟩ → w.heap.size + 1 + 1 < g := fun g o e => by
                      rcases HA5.out g o e with ⟨q1, _⟩ | q1
                      · exact HNW.out g o (by rw [← q1]; exact e)
                      · have := HZ4.out
                        omega
                    go_roundw
                    case rel => exact ⟨k + 1, c5, kk :: S, A5, cap5, by omega, by go_num, Lib.hid ⟨HF5.out.call HF7.out (fun i (e : i = w.heap.size + 1) hlt => by omega), HRs5.out.fr HF7.out (fun (e : w.heap.size = w.heap.size + 1) => by omega), HB7.out, HSe5.out.fr HF7.out (fun (e : w.heap.size + 1 + 1 = w.heap.size + 1) => by omega), HS5.out.fr HF7.out (fun g o e _ (q : g = w.heap.size + 1) => by have := hnew g o e; omega), fun h3 => by
                        rw [HE5.out, restC_w (fun e => h3 (by rw [e]; exact List.mem_cons_self))]
                        exact HN3.out (fun e => h3 (List.mem_cons_of_mem _ e)), hnew, by
                        have h := step_setOk HOK.out (bl (y :: rest))
                        rw [HST.out, ← HE5.out] at h
                        exact h⟩, Lib.hid (HL5'.out.fr HF7.out (fun g o e _ (q : g = w.heap.size + 1) => by
                        injection e with e; injection e with e1
                        have := HPB.out
                        omega)), Lib.hid (by rw [HE5.out]; exact HNX.out _ HST.out)⟩
                    case measure => simp [RowKit.intOf]; omega
                  · have heq : (er == 0) = false := by simpa using he
                    have HE := Lib.hid (HERR.out he)
                    go_wp2_with (first | (refine wpList_stBox rfl rfl (by rfl) (by rfl) (by kernel_rfl) (by rfl) HRs5.out (by rfl) ?_; intro W7 hb7 hf7; have HB7 := Lib.hid hb7; have HF7 := Lib.hid hf7; clear hb7 hf7) | fail)
                    refine bodyPost_ret (ret_box2 (p := 2) (u := 3) (v := 4) rfl rfl ⟨_, Tryd.underlying47, rfl⟩ (by kernel_rfl) HB7.out) rfl ?_
                    rw [HE.out]
                    exact ⟨none, 0, rfl, Sl.none_ _ _, HF5.out.call HF7.out (fun i (e : i = w.heap.size) hlt => by omega)⟩
      · have hI : ¬ (k : Int) < n := by omega
        obtain rfl : k = n := by omega
        have HLP := Lib.hid (show loopC 0 (cf1, []) (splitC 10 s.data.toList) = ((0, 0), (c, S)) by
          rw [hlp.out, List.drop_of_length_le]
          · rfl
          · have e1 := HPS.out
            have e2 := HNN.out
            rw [← e1, ← e2, bl_len]
            exact Nat.le_refl _)
        have HRE := Lib.hid (show readC s.data.toList = ((endC (c, S)).1, (endC (c, S)).2, 0) by
          unfold readC
          rw [if_neg (by rw [ba_len]; exact HL5.out), HLP.out]
          rfl)
        clear hlp HLP
        have sc1 : wr.cell? ⟨w.heap.size + 1 + 1, 1, none⟩ = some (.bool (decide (0 ∈ S))) := hr.out.seen.cell 1
        have sc4 : wr.cell? ⟨w.heap.size + 1 + 1, 4, none⟩ = some (.bool (decide (3 ∈ S))) := hr.out.seen.cell 4
        have sc6 : wr.cell? ⟨w.heap.size + 1 + 1, 6, none⟩ = some (.bool (decide (5 ∈ S))) := hr.out.seen.cell 6
        have scl := hr.out.seen.lt
        have HRB := Lib.hid hr.out.res
        by_cases h0 : 0 ∈ S
        · rw [decide_eq_true h0] at sc1
          by_cases h5 : 5 ∈ S
          · rw [decide_eq_true h5] at sc6
            have hbx := hr.out.box
            have HE := Lib.hid (show readC s.data.toList = if ((fillC (c, S)).weights.length : Int) = (fillC (c, S)).sources then (fillC (c, S), 0, 0) else (cf0, 34, 0) by
              rw [HRE.out]
              unfold endC
              rw [if_neg (by simp [h0, h5])]
              by_cases q : ((fillC (c, S)).weights.length : Int) = (fillC (c, S)).sources
              · rw [if_pos q, if_neg (not_not_intro q)]
              · rw [if_neg q, if_pos q])
            have hin := (hr.out.ok 0 (by omega)).1 h0
            simp only [tellC, if_true, List.all_cons, List.all_nil, Bool.and_true, inC, Bool.and_eq_true, decide_eq_true_eq, loC, hiC] at hin
            simp at hin
            clear h0 h5
            by_cases h3 : 3 ∈ S
            · rw [decide_eq_true h3] at sc4
              have hfi : fillC (c, S) = c := by unfold fillC; rw [if_pos h3]
              rw [hfi] at HE
              clear h3 hfi hin
              go_upto_region 30 with fail
              clear sc1 sc4 sc6 scl
              have HSX := Lib.hid hr.out.sl
              have HNW := Lib.hid hr.out.new
              have HBX := Lib.hid hbx
              have HFX := Lib.hid hr.out.fr
              clear hbx hr
              have bx := HBX.out.cell
              have bl_ := HBX.out.lt
              unfold cfA at bx
              by_cases hq : (c.weights.length : Int) = c.sources
              · have HE := Lib.hid (HE.out.trans (if_pos hq))
                have hq2 : ((c.weights.length : Int) == c.sources) = true := by simpa using hq
                clear hq
                go_wp2_with (first | (refine wpList_stBox rfl rfl (by rfl) (by rfl) (by kernel_rfl) (by rfl) HRB.out (by rfl) ?_; intro W7 hb7 hf7; have HB7 := Lib.hid hb7; have HF7 := Lib.hid hf7; clear hb7 hf7) | fail)
                refine bodyPost_ret (ret_box2 (p := 2) (u := 3) (v := 4) rfl rfl ⟨_, Tryd.underlying47, rfl⟩ (by kernel_rfl) HB7.out) rfl ?_
                rw [HE.out]
                refine ⟨A, cap, rfl, HSX.out.fr HF7.out (fun g o e _ q => by have := HNW.out g o e; have q : g = w.heap.size := q; omega), HFX.out.call HF7.out (fun i (hi : i = w.heap.size) hlt => by omega)⟩
              · have HE := Lib.hid (HE.out.trans (if_neg hq))
                have hq2 : ((c.weights.length : Int) == c.sources) = false := by simpa using hq
                clear hq
                go_wp2_with (first | (refine wpList_stBox rfl rfl (by rfl) (by rfl) (by kernel_rfl) (by rfl) HRB.out (by rfl) ?_; intro W7 hb7 hf7; have HB7 := Lib.hid hb7; have HF7 := Lib.hid hf7; clear hb7 hf7) | fail)
                refine bodyPost_ret (ret_box2 (p := 2) (u := 3) (v := 4) rfl rfl ⟨_, Tryd.underlying47, rfl⟩ (by kernel_rfl) HB7.out) rfl ?_
                rw [HE.out]
                exact ⟨none, 0, rfl, Sl.none_ _ _, HFX.out.call HF7.out (fun i (hi : i = w.heap.size) hlt => by omega)⟩
            · rw [decide_eq_false h3] at sc4
              have hfi : fillC (c, S) = { c with weights := List.replicate c.sources.toNat 1 } := by unfold fillC; rw [if_neg h3]
              rw [hfi] at HE
              obtain ⟨ns, hns⟩ : ∃ ns : Nat, c.sources = ns := ⟨c.sources.toNat, by omega⟩
              have hns8 : ns ≤ 8 := by omega
              obtain ⟨cq, HC⟩ : ∃ cq, Hid (({ c with weights := List.replicate c.sources.toNat 1 } : CF) = cq) := ⟨_, Lib.hid rfl⟩
              rw [HC.out] at HE
              have HCW := Lib.hid (show cq.weights = List.replicate ns 1 by rw [← HC.out, hns]; rfl)
              have HCA := Lib.hid (show ∀ (A' A5 : Option Addr) (c5 : Nat), (cfA c A' cap).setIfInBounds 3 (.slice A5 ns c5) = cfA cq A5 c5 from fun A' A5 c5 => by
                unfold cfA
                rw [HCW.out, ← HC.out]
                simp)
              have HNS := Lib.hid hns
              have HBc := Lib.hid hbx
              clear h3 hfi hin hns HC hbx
              obtain ⟨hb, HHB⟩ : ∃ hb, Hid (wr.heap.size = hb) := ⟨_, Lib.hid rfl⟩
              have HBL := Lib.hid (show w.heap.size + 1 + 1 < hb by rw [← HHB.out]; exact scl)
              go_wp2_with fail
              clear sc1 sc4 sc6 scl
              go_loopw [13, 14] (fun sv iv wx => ∃ (j : Nat) (A' : Option Addr) (c' : Nat), j ≤ ns ∧ iv = .int .i64 j ∧ sv = .slice A' j c' ∧ Hid (Ap wr wx hb 3 A' c' j (ints (List.replicate j 1)))) (fun _ iv _ => ns - (RowKit.intOf iv).toNat)
              case atStart => exact ⟨0, none, 0, Nat.zero_le _, rfl, rfl, Lib.hid (Ap.start (Fr.refl _ _) (by rw [HHB.out]; exact Nat.le_refl _) (by rw [HHB.out]; exact Nat.le_refl _))⟩
              case round =>
                obtain ⟨j, A5, c5, hj, rfl, rfl, hp⟩ := hrel
                have HBj := Lib.hid (HBc.out.fr hp.out.fr (fun e => e))
                have bx := HBj.out.cell
                have bl_ := HBj.out.lt
                unfold cfA at bx
                rw [HNS.out] at bx
                by_cases hltj : j < ns
                · have hJ : (j : Int) < ns := by omega
                  have hJ3 : 0 ≤ (j : Int) := by omega
                  have HSN := Lib.hid (show ints (List.replicate j 1) ++ [.int .i64 1] = ints (List.replicate (j + 1) 1) by unfold ints; simp [List.replicate_succ'])
                  go_wp2_with (at_builtin; refine wpList_app rfl _ _ 41 rfl elemJ (base := hb) (xs := ints (List.replicate j 1)) (news := [.int .i64 1]) rfl ?own rfl ?src ?one ?h63 ?hby ?hbase ?_)
                  case own => exact hp.out.own_al _
                  case src => exact Sl.new1 (Blk.new_eq (by first | rfl | simp)) 1 1 rfl (by decide)
                  case one => first | rfl | exact (by intro u hu; simp at hu; subst hu; rfl)
                  case h63 => unfold maxLen; omega
                  case hby => omega
                  case hbase => have h1 := hp.out.hi; simp at h1 ⊢; omega
                  intro A2 c2 w2 hown hgr _
                  rw [HSN.out] at hown
                  have HP2 := Lib.hid ((hp.out.pure ((Fr.refl Nob _).alloc _)).app hown hgr)
                  clear hown hgr
                  go_wp2_with fail
                  go_roundw
                  case rel => exact ⟨j + 1, A2, c2, by omega, by go_num, by simp, HP2⟩
                  case measure => simp [RowKit.intOf]; omega
                · have hJ : ¬ (j : Int) < ns := by omega
                  obtain rfl : j = ns := by omega
                  have bz := HBj.out.frozen 3
                  have HRj := Lib.hid (HRB.out.fr hp.out.fr (fun e => e))
                  have HFj := Lib.hid (hr.out.fr.call hp.out.fr (fun _ e _ => e))
                  go_upto_region 30 with fail
                  obtain ⟨WX, hWX⟩ : ∃ WX, WX = wr.setCell ⟨w.heap.size + 1, 3, none⟩ (.slice A5 j c5) := ⟨_, rfl⟩
                  have HBX := Lib.hid (show Blk WX (w.heap.size + 1) 47 (cfA cq A5 c5) by
                    rw [hWX, ← HCA.out A A5 c5]
                    exact HBj.out.set 3 _)
                  have HGA := Lib.hid (show ∀ g o, A5 = some ⟨g, o, none⟩ → w.heap.size + 1 < g from fun g o e => by
                    have h1 := own_addr hp.out.own g o e
                    have h2 := HBL.out
                    omega)
                  have HSX := Lib.hid (show Sl WX 1 A5 cq.weights.length c5 (ints cq.weights) by
                    rw [hWX, HCW.out, List.length_replicate]
                    exact hp.out.sl.set (fun b off e => by
                      have := HGA.out b off e
                      show b ≠ w.heap.size + 1
                      omega) _)
                  have HNW := Lib.hid HGA.out
                  have HRB := Lib.hid (show Blk WX w.heap.size 47 (cfA cf0 none 0) by rw [hWX]; exact HRj.out.far (by simp only; omega) _)
                  have HFX := Lib.hid (show Fr Nob w WX by rw [hWX]; exact HFj.out.call ((Fr.refl (Only (w.heap.size + 1)) wr).setCell (p := ⟨w.heap.size + 1, 3, none⟩) (fun _ => rfl) _) (fun i (hi : i = w.heap.size + 1) hlt => by omega))
                  rw [← hWX]
                  clear hWX bx bl_ bz HBj HRj HFj hp HBc hr
                  have bx := HBX.out.cell
                  have bl_ := HBX.out.lt
                  unfold cfA at bx
                  by_cases hq : (cq.weights.length : Int) = cq.sources
                  · have HE := Lib.hid (HE.out.trans (if_pos hq))
                    have hq2 : ((cq.weights.length : Int) == cq.sources) = true := by simpa using hq
                    clear hq
                    go_wp2_with (first | (refine wpList_stBox rfl rfl (by rfl) (by rfl) (by kernel_rfl) (by rfl) HRB.out (by rfl) ?_; intro W7 hb7 hf7; have HB7 := Lib.hid hb7; have HF7 := Lib.hid hf7; clear hb7 hf7) | fail)
                    refine bodyPost_ret (ret_box2 (p := 2) (u := 3) (v := 4) rfl rfl ⟨_, Tryd.underlying47, rfl⟩ (by kernel_rfl) HB7.out) rfl ?_
                    rw [HE.out]
                    refine ⟨A5, c5, rfl, HSX.out.fr HF7.out (fun g o e _ q => by have := HNW.out g o e; have q : g = w.heap.size := q; omega), HFX.out.call HF7.out (fun i (hi : i = w.heap.size) hlt => by omega)⟩
                  · have HE := Lib.hid (HE.out.trans (if_neg hq))
                    have hq2 : ((cq.weights.length : Int) == cq.sources) = false := by simpa using hq
                    clear hq
                    go_wp2_with (first | (refine wpList_stBox rfl rfl (by rfl) (by rfl) (by kernel_rfl) (by rfl) HRB.out (by rfl) ?_; intro W7 hb7 hf7; have HB7 := Lib.hid hb7; have HF7 := Lib.hid hf7; clear hb7 hf7) | fail)
                    refine bodyPost_ret (ret_box2 (p := 2) (u := 3) (v := 4) rfl rfl ⟨_, Tryd.underlying47, rfl⟩ (by kernel_rfl) HB7.out) rfl ?_
                    rw [HE.out]
                    exact ⟨none, 0, rfl, Sl.none_ _ _, HFX.out.call HF7.out (fun i (hi : i = w.heap.size) hlt => by omega)⟩
          · rw [decide_eq_false h5] at sc6
            have HE := Lib.hid (show readC s.data.toList = (cf0, 32, 0) by
              rw [HRE.out]; unfold endC; rw [if_pos (by simp [h5])])
            clear h0 h5
            go_wp2_with (first | (refine wpList_stBox rfl rfl (by rfl) (by rfl) (by kernel_rfl) (by rfl) HRB.out (by rfl) ?_; intro W7 hb7 hf7; have HB7 := Lib.hid hb7; have HF7 := Lib.hid hf7; clear hb7 hf7) | fail)
            refine bodyPost_ret (ret_box2 (p := 2) (u := 3) (v := 4) rfl rfl ⟨_, Tryd.underlying47, rfl⟩ (by kernel_rfl) HB7.out) rfl ?_
            rw [HE.out]
            exact ⟨none, 0, rfl, Sl.none_ _ _, hr.out.fr.call HF7.out (fun i (hi : i = w.heap.size) hlt => by omega)⟩
        · rw [decide_eq_false h0] at sc1
          have HE := Lib.hid (show readC s.data.toList = (cf0, 32, 0) by
            rw [HRE.out]; unfold endC; rw [if_pos (by simp [h0])])
          clear h0
          go_wp2_with (first | (refine wpList_stBox rfl rfl (by rfl) (by rfl) (by kernel_rfl) (by rfl) HRB.out (by rfl) ?_; intro W7 hb7 hf7; have HB7 := Lib.hid hb7; have HF7 := Lib.hid hf7; clear hb7 hf7) | fail)
          refine bodyPost_ret (ret_box2 (p := 2) (u := 3) (v := 4) rfl rfl ⟨_, Tryd.underlying47, rfl⟩ (by kernel_rfl) HB7.out) rfl ?_
          rw [HE.out]
          exact ⟨none, 0, rfl, Sl.none_ _ _, hr.out.fr.call HF7.out (fun i (hi : i = w.heap.size) hlt => by omega)⟩
end Go.Proofs.YtoegdmpmagbaiaaDoor
