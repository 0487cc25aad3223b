/- A text's configuration: the program's walk. -/
import Derived.Test.YtoegdmpmagbaiaaDoorV12
import Derived.Test.YtoegdmpmagbaiaaDoorV13
import Derived.Test.YtoegdmpmagbaiaaDoorLdb
namespace Go.Proofs.YtoegdmpmagbaiaaDoor
open Go.RowKit Go.Lib

theorem heap_alloc_new' {w : World} {g : Nat} (h : g = w.heap.size) (o : Obj) : (w.alloc o).heap[g]? = some o := by subst h; exact heap_alloc_new w o
/-- What lies about while a text's lines are read: the answer's box, the configuration's, the map. -/
structure RdS (w wr : World) (st : CF × List Nat) (A : Option Addr) (cap : Nat) : Prop where
  fr : Fr Nob w wr
  res : Blk wr w.heap.size 43 (cfA cf0 none 0)
  at_ : CfAt wr (w.heap.size + 1) (w.heap.size + 1 + 1) st A cap
  ok : SetOk st
  new : ∀ g o, A = some ⟨g, o, none⟩ → w.heap.size + 1 < g
theorem RdS.call {w wr w1 : World} {st : CF × List Nat} {A : Option Addr} {cap : Nat} (h : RdS w wr st A cap) (hf : Fr Nob wr w1) : RdS w w1 st A cap :=
  ⟨h.fr.call hf (fun _ h _ => h), h.res.fr hf (fun e => e), h.at_.pure hf, h.ok, h.new⟩
theorem RdS.line {w wr w1 : World} {st st' : CF × List Nat} {A A' : Option Addr} {cap cap' : Nat} (h : RdS w wr st A cap) (hf : Fr (Two (w.heap.size + 1) (w.heap.size + 1 + 1)) wr w1) (hc : CfAt w1 (w.heap.size + 1) (w.heap.size + 1 + 1) st' A' cap') (ho : SetOk st') (hA : ∀ g o, A' = some ⟨g, o, none⟩ → A' = A ∨ wr.heap.size ≤ g) : RdS w w1 st' A' cap' :=
  ⟨h.fr.call hf (fun i hi hlt => by rcases hi with e | e <;> omega), h.res.fr hf (fun e => by rcases e with e | e <;> omega), hc, ho, fun g o e => by
    rcases hA g o e with q | q
    · exact h.new g o (by rw [← q]; exact e)
    · have := h.at_.map.lt
      omega⟩
set_option maxRecDepth 100000 in
set_option maxHeartbeats 4000000 in
theorem prg_Read (w : World) (s : ByteArray) (hs : s.size ≤ 100000) (hv : ErrVar w) (hm : MaxVar w) :
    Calls Tryd.prog 16 #[.string s] w fun e w' => ∃ A cap, e = .returned (.tuple #[.agg (cfA (readC s.data.toList).1 A cap), .int .i64 (readC s.data.toList).2.1, .int .i64 (readC s.data.toList).2.2]) ∧ Sl w' 1 A (readC s.data.toList).1.weights.length cap (ints (readC s.data.toList).1.weights) ∧ Fr Nob w w' := by
  have HV := Lib.hid hv
  have HM := Lib.hid hm
  clear hv hm
  by_cases hl : 512 < s.size
  · have hlI : (512 : Int) < s.size := by omega
    have HR := Lib.hid (show readC s.data.toList = (cf0, 13, 0) by unfold readC; rw [if_pos (by rw [ba_len]; exact hl)])
    clear hl
    go_enter Tryd.func16, Tryd.ntmps16
    go_wp2_with fail
    refine bodyPost_ret (ret_box2 (p := 2) (u := 3) (v := 4) rfl rfl ⟨_, Tryd.underlying43, rfl⟩ (by kernel_rfl) (Blk.new w 43 (cfA cf0 none 0))) rfl ?_
    rw [HR.out]
    exact ⟨none, 0, rfl, Sl.none_ _ _, (Fr.refl _ _).alloc _⟩
  · have hlI : ¬ (512 : Int) < s.size := by omega
    have hmm : ∀ W, (Instr.makeMap 73 none).run Tryd.prog W = .ok (.map (some W.heap.size)) (W.alloc (.map #[] 0)) := fun _ => rfl
    go_enter Tryd.func16, Tryd.ntmps16
    go_upto_region 5 with fail
    clear hmm
    obtain ⟨W0, hW0⟩ : ∃ W0, W0 = ((w.alloc (.cells #[.int .i64 0, .int .i64 0, .bool false, .slice none 0 0, .int .i64 0, .int .i64 0, .int .i64 0] 43)).alloc (.cells #[.int .i64 0, .int .i64 8, .bool false, .slice none 0 0, .int .i64 4, .int .i64 0, .int .i64 0] 43)).alloc (.map #[] 0) := ⟨_, rfl⟩
    have HS := Lib.hid (show RdS w W0 (cf1, []) none 0 by
      rw [hW0]
      refine ⟨(((Fr.refl _ _).alloc _).alloc _).alloc _, ((Blk.new _ _ _).alloc _).alloc _, ⟨(Blk.new_eq (by simp)).alloc _, Sl.none_ _ _, fun _ => ⟨rfl, rfl, rfl⟩, ⟨#[], 0, ?_, rfl, fun e he => absurd he (by simp), fun k hk => absurd hk (by simp)⟩, fun g o e => by cases e⟩, setOk0, fun g o e => by cases e⟩
      exact heap_alloc_new' (by simp) _)
    have HW0 := Lib.hid (show W0.heap.size = w.heap.size + 3 by rw [hW0]; simp)
    rw [← hW0]
    clear hW0
    have HSP := Lib.hid (prg_Split W0 s hs (HM.out.fr HS.out.fr))
    go_wp2_with ((go_at_call 34); (with_reducible refine HSP.out.mono ?_); rintro e W1 ⟨PA, n, d, ps, rfl, hps, hsl, hPA, hf1⟩; have HPS := Lib.hid hps; have HSL := Lib.hid hsl; have HPA := Lib.hid hPA; have HS1 := Lib.hid (HS.out.call hf1); clear hps hsl hPA hf1)
    have hnn : ps.length = n := by have := HSL.out.len; simpa [strB] using this
    have HNN := Lib.hid hnn
    have hn0 := splitC_len 10 s.data.toList
    rw [← HPS.out, ba_len] at hn0
    have hn5 : n ≤ 513 := by rw [← hnn]; simpa [bl] using Nat.le_trans hn0 (by omega)
    have hmx := HSL.out.max
    have hle := HSL.out.le
    unfold maxLen at hmx
    have HL5 := Lib.hid hl
    clear hnn hn0 hl
    go_loopw [20] (fun iv wr => ∃ (k : Nat) (st : CF × List Nat) (A : Option Addr) (cap : Nat), k ≤ n ∧ iv = .int .i64 k ∧ Hid (RdS w wr st A cap) ∧ Hid (Sl wr 1 PA n d (strB ps)) ∧ Hid (Fr (Two (w.heap.size + 1) (w.heap.size + 1 + 1)) W1 wr) ∧ Hid (loopC 0 (cf1, []) (splitC 10 s.data.toList) = loopC k st ((splitC 10 s.data.toList).drop k))) (fun iv _ => n - (RowKit.intOf iv).toNat)
    case atStart => exact ⟨0, (cf1, []), none, 0, Nat.zero_le _, rfl, HS1, HSL, Lib.hid (Fr.refl _ _), Lib.hid rfl⟩
    case round =>
      obtain ⟨k, st, A, cap, hk, rfl, hr, hsl, hf1, hlp⟩ := hrel
      by_cases hlt : k < n
      · have hI : (k : Int) < n := by omega
        have hI3 : 0 ≤ (k : Int) := by omega
        have hkp : k < ps.length := by rw [HNN.out]; exact hlt
        obtain ⟨pb, po, hPAe, hpb, hcp⟩ := hsl.out.str_at hkp
        subst hPAe
        have hkb : k < (splitC 10 s.data.toList).length := by rw [← HPS.out]; simpa [bl] using hkp
        have hat : (splitC 10 s.data.toList)[k] = ps[k].data.toList := by
          have : (bl ps)[k]'(by simpa [bl] using hkp) = ps[k].data.toList := by simp [bl]
          rw [← this]
          congr 1
          exact HPS.out.symm
        have hdr : (splitC 10 s.data.toList).drop k = ps[k].data.toList :: (splitC 10 s.data.toList).drop (k + 1) := by rw [List.drop_eq_getElem_cons hkb, hat]
        have hsz : ps[k].size ≤ 512 := by
          have := (splitC_part 10 s.data.toList ((splitC 10 s.data.toList)[k]) (List.getElem_mem _)).1
          rw [hat, ba_len, ba_len] at this
          have := HL5.out
          omega
        have HLP := Lib.hid hlp.out
        rw [hdr] at HLP
        generalize ps[k] = x at *
        have HFI := Lib.hid (prg_Fields wr x (by omega))
        obtain ⟨er, HER⟩ : ∃ er, Hid ((stepC st (wordsC x.data.toList)).1 = er) := ⟨_, Lib.hid rfl⟩
        have HNX := Lib.hid (show er = 0 → loopC 0 (cf1, []) (splitC 10 s.data.toList) = loopC (k + 1) (stepC st (wordsC x.data.toList)).2 ((splitC 10 s.data.toList).drop (k + 1)) from fun e => by
          rw [HLP.out, loopC, if_pos (HER.out.trans e)])
        have HRE := Lib.hid (show er ≠ 0 → readC s.data.toList = (cf0, er, (k : Int) + 1) from fun e => by
          unfold readC
          rw [if_neg (by rw [ba_len]; exact HL5.out), HLP.out, loopC, HER.out, if_neg e, if_neg e]
          simp)
        have HRW := Lib.hid (fun (W2 : World) (B : Option Addr) (n2 d2 : Nat) (ws : List ByteArray) (hws : bl ws = wordsC x.data.toList) (hs2 : Sl W2 1 B n2 d2 (strB ws)) (hB : ∀ g o, B = some ⟨g, o, none⟩ → wr.heap.size ≤ g) (hf2 : Fr Nob wr W2) => by
          have h1 := hr.out.call hf2
          have hz := hr.out.at_.map.lt
          have h2 := prg_read W2 (w.heap.size + 1) (w.heap.size + 1 + 1) st A cap B n2 d2 ws h1.at_ hs2 (fun g o e => by have := hB g o e; omega) (fun y hy => by
            have hy2 : y.data.toList ∈ wordsC x.data.toList := by rw [← hws]; exact List.mem_map.2 ⟨y, hy, rfl⟩
            obtain ⟨e1, e2, _⟩ := wordsC_mem hy2
            rw [ba_len, ba_len] at e2
            refine ⟨?_, by omega⟩
            rcases Nat.eq_zero_or_pos y.size with e | e
            · exact absurd (List.length_eq_zero_iff.1 (by rw [ba_len]; exact e)) e1
            · exact e) (by
            have e3 := wordsC_len x.data.toList
            rw [← hws, ba_len] at e3
            have : (bl ws).length = ws.length := by simp [bl]
            omega) (HV.out.fr h1.fr)
          rw [hws] at h2
          unfold ReadP at h2
          rw [HER.out] at h2
          exact h2)
        clear hdr hat hlp HLP
        have HPB := Lib.hid (show pb ≠ w.heap.size + 1 ∧ pb ≠ w.heap.size + 1 + 1 by
          have h1 := HPA.out pb po rfl
          have h2 := HW0.out
          omega)
        clear hkp hkb hsz
        by_cases he : er = 0
        · subst he
          go_wp2_with (first | ((go_at_call 35); (with_reducible refine HFI.out.mono ?_); rintro e W2 ⟨B, n2, d2, ws, rfl, hws, hs2, hB, hf2⟩; have HRD := Lib.hid (HRW.out W2 B n2 d2 ws hws hs2 hB hf2); have HS2 := Lib.hid (hr.out.call hf2); have HF2 := Lib.hid hf2; clear hws hs2 hB hf2) | ((go_at_call 37); (with_reducible refine HRD.out.mono ?_); rintro e W3 ⟨rfl, hf3, hc3⟩; have HF3 := Lib.hid hf3; have HC3 := Lib.hid hc3; clear hf3 hc3) | fail)
          obtain ⟨A3, c3, hc3, hA3⟩ := HC3.out (by simp)
          go_roundw
          case rel => exact ⟨k + 1, _, A3, c3, by omega, by go_num, Lib.hid (HS2.out.line HF3.out hc3 (step_setOk HS2.out.ok _) hA3), Lib.hid ((hsl.out.pure HF2.out).fr HF3.out (fun g o e _ q => by
            injection e with e; injection e with e1
            have := HPB.out
            rcases q with q | q <;> omega)), Lib.hid ((hf1.out.call HF2.out (fun _ e _ => e.elim)).call HF3.out (fun _ e _ => e)), Lib.hid (HNX.out (by simp))⟩
          case measure => simp [RowKit.intOf]; omega
        · have heq : (er == 0) = false := by simpa using he
          have HE := Lib.hid (HRE.out he)
          go_wp2_with (first | ((go_at_call 35); (with_reducible refine HFI.out.mono ?_); rintro e W2 ⟨B, n2, d2, ws, rfl, hws, hs2, hB, hf2⟩; have HRD := Lib.hid (HRW.out W2 B n2 d2 ws hws hs2 hB hf2); have HS2 := Lib.hid (hr.out.call hf2); have HF2 := Lib.hid hf2; clear hws hs2 hB hf2) | ((go_at_call 37); (with_reducible refine HRD.out.mono ?_); rintro e W3 ⟨rfl, hf3, hc3⟩; have HF3 := Lib.hid hf3; clear hf3 hc3; have HB3 := Lib.hid (HS2.out.res.fr HF3.out (fun e => by rcases e with e | e <;> omega))) | (refine wpList_stBox rfl rfl (by rfl) (by rfl) (by kernel_rfl) (by rfl) HB3.out (by rfl) ?_; intro W7 hb7 hf7; have HB7 := Lib.hid hb7; have HF7 := Lib.hid hf7; clear hb7 hf7) | fail)
          refine bodyPost_ret (ret_box2 (p := 2) (u := 3) (v := 4) rfl rfl ⟨_, Tryd.underlying43, rfl⟩ (by kernel_rfl) HB7.out) rfl ?_
          rw [HE.out]
          exact ⟨none, 0, rfl, Sl.none_ _ _, (HS2.out.fr.call HF3.out (fun i hi hlt => by rcases hi with e | e <;> omega)).call HF7.out (fun i (hi : i = w.heap.size) hlt => by omega)⟩
      · have hI : ¬ (k : Int) < n := by omega
        obtain rfl : k = n := by omega
        have HLP := Lib.hid (show loopC 0 (cf1, []) (splitC 10 s.data.toList) = ((0, 0), st) by
          rw [hlp.out, List.drop_of_length_le]
          · rfl
          · have e1 := HPS.out
            have e2 := HNN.out
            rw [← e1, ← e2]
            simp [bl])
        have HRE := Lib.hid (show readC s.data.toList = ((endC st).1, (endC st).2, 0) by
          unfold readC
          rw [if_neg (by rw [ba_len]; exact HL5.out), HLP.out]
          rfl)
        clear hlp HLP
        have hl0 : (Instr.lookup 73 (.map (some (w.heap.size + 1 + 1))) (.string ⟨#[115, 111, 117, 114, 99, 101, 115]⟩) false).run Tryd.prog wr = .ok (.bool (decide (0 ∈ st.2))) wr := map_lookup hr.out.at_.map (k := 0) (by decide)
        have hl5 : (Instr.lookup 73 (.map (some (w.heap.size + 1 + 1))) (.string ⟨#[116, 105, 109, 101, 111, 117, 116]⟩) false).run Tryd.prog wr = .ok (.bool (decide (5 ∈ st.2))) wr := map_lookup hr.out.at_.map (k := 5) (by decide)
        have hl3 : (Instr.lookup 73 (.map (some (w.heap.size + 1 + 1))) (.string ⟨#[119, 101, 105, 103, 104, 116, 115]⟩) false).run Tryd.prog wr = .ok (.bool (decide (3 ∈ st.2))) wr := map_lookup hr.out.at_.map (k := 3) (by decide)
        have HRB := Lib.hid hr.out.res
        by_cases h0 : 0 ∈ st.2
        · rw [decide_eq_true h0] at hl0
          by_cases h5 : 5 ∈ st.2
          · rw [decide_eq_true h5] at hl5
            have hbx := hr.out.at_.box
            have HE := Lib.hid (show readC s.data.toList = if ((fillC st).weights.length : Int) = (fillC st).sources then (fillC st, 0, 0) else (cf0, 34, 0) by
              rw [HRE.out]
              unfold endC
              rw [if_neg (by simp [h0, h5])]
              by_cases q : ((fillC st).weights.length : Int) = (fillC st).sources
              · rw [if_pos q, if_neg (not_not_intro q)]
              · rw [if_neg q, if_pos q])
            have hin := (hr.out.ok 0 (by omega)).1 h0
            simp only [tellC, if_true, List.all_cons, List.all_nil, Bool.and_true, inC, Bool.and_eq_true, decide_eq_true_eq, loC, hiC] at hin
            simp at hin
            clear h0 h5
            by_cases h3 : 3 ∈ st.2
            · rw [decide_eq_true h3] at hl3
              have hfi : fillC st = st.1 := by unfold fillC; rw [if_pos h3]
              rw [hfi] at HE
              clear h3 hfi hin
              go_upto_region 17 with fail
              clear hl0 hl5 hl3
              have HSX := Lib.hid hr.out.at_.sl
              have HNW := Lib.hid hr.out.new
              have HBX := Lib.hid hbx
              have HFX := Lib.hid hr.out.fr
              clear hbx hr
              generalize st.1 = c at *
              have bx := HBX.out.cell
              have bl_ := HBX.out.lt
              unfold cfA at bx
              by_cases hq : (c.weights.length : Int) = c.sources
              · have HE := Lib.hid (HE.out.trans (if_pos hq))
                have hq2 : ((c.weights.length : Int) == c.sources) = true := by simpa using hq
                clear hq
                go_wp2_with (first | (refine wpList_stBox rfl rfl (by rfl) (by rfl) (by kernel_rfl) (by rfl) HRB.out (by rfl) ?_; intro W7 hb7 hf7; have HB7 := Lib.hid hb7; have HF7 := Lib.hid hf7; clear hb7 hf7) | fail)
                refine bodyPost_ret (ret_box2 (p := 2) (u := 3) (v := 4) rfl rfl ⟨_, Tryd.underlying43, rfl⟩ (by kernel_rfl) HB7.out) rfl ?_
                rw [HE.out]
                refine ⟨A, cap, rfl, HSX.out.fr HF7.out (fun g o e _ q => by have := HNW.out g o e; have q : g = w.heap.size := q; omega), HFX.out.call HF7.out (fun i (hi : i = w.heap.size) hlt => by omega)⟩
              · have HE := Lib.hid (HE.out.trans (if_neg hq))
                have hq2 : ((c.weights.length : Int) == c.sources) = false := by simpa using hq
                clear hq
                go_wp2_with (first | (refine wpList_stBox rfl rfl (by rfl) (by rfl) (by kernel_rfl) (by rfl) HRB.out (by rfl) ?_; intro W7 hb7 hf7; have HB7 := Lib.hid hb7; have HF7 := Lib.hid hf7; clear hb7 hf7) | fail)
                refine bodyPost_ret (ret_box2 (p := 2) (u := 3) (v := 4) rfl rfl ⟨_, Tryd.underlying43, rfl⟩ (by kernel_rfl) HB7.out) rfl ?_
                rw [HE.out]
                exact ⟨none, 0, rfl, Sl.none_ _ _, HFX.out.call HF7.out (fun i (hi : i = w.heap.size) hlt => by omega)⟩
            · rw [decide_eq_false h3] at hl3
              have hfi : fillC st = { st.1 with weights := List.replicate st.1.sources.toNat 1 } := by unfold fillC; rw [if_neg h3]
              rw [hfi] at HE
              obtain ⟨ns, hns⟩ : ∃ ns : Nat, st.1.sources = ns := ⟨st.1.sources.toNat, by omega⟩
              have HRP := Lib.hid (prg_Repeat (wr.alloc (.cells #[.int .i64 1] 3)) wr.heap.size ns (Blk.new _ _ _) (by omega) (by omega))
              have HR1 := Lib.hid (hr.out.call ((Fr.refl Nob wr).alloc (.cells #[.int .i64 1] 3)))
              have HWL := Lib.hid hr.out.at_.box.lt
              have bx := hbx.cell
              have bl_ := hbx.lt
              unfold cfA at bx
              obtain ⟨c, HC⟩ : ∃ c, Hid (({ st.1 with weights := List.replicate st.1.sources.toNat 1 } : CF) = c) := ⟨_, Lib.hid rfl⟩
              rw [HC.out] at HE
              have HCW := Lib.hid (show c.weights = List.replicate ns 1 by rw [← HC.out, hns]; rfl)
              have HCA := Lib.hid (show ∀ (A' : Option Addr) (g5 : Nat), (cfA st.1 A' cap).setIfInBounds 3 (.slice (some ⟨g5, 0, none⟩) ns ns) = cfA c (some ⟨g5, 0, none⟩) ns from fun A' g5 => by
                unfold cfA
                rw [HCW.out, ← HC.out]
                simp)
              rw [hns] at bx
              clear h3 hfi hin hns HC
              go_upto_region 17 with (first | ((go_at_call 38); (with_reducible refine HRP.out.mono ?_); rintro e W5 ⟨g5, rfl, hs5, hg5, hf5⟩; have HS5 := Lib.hid hs5; have HG5 := Lib.hid hg5; have HR5 := Lib.hid (HR1.out.call hf5); have bz5 := HR5.out.at_.box.frozen 3; have bl5 := HR5.out.at_.box.lt; have bx5 : W5.cell? ⟨w.heap.size + 1, 3, none⟩ = some (.slice A st.1.weights.length cap) := HR5.out.at_.box.cell 3; clear hs5 hg5 hf5) | fail)
              obtain ⟨WX, hWX⟩ : ∃ WX, WX = W5.setCell ⟨w.heap.size + 1, 3, none⟩ (.slice (some ⟨g5, 0, none⟩) ns ns) := ⟨_, rfl⟩
              have HBX := Lib.hid (show Blk WX (w.heap.size + 1) 43 (cfA c (some ⟨g5, 0, none⟩) ns) by
                rw [hWX, ← HCA.out A g5]
                exact HR5.out.at_.box.set 3 _)
              have HGL := Lib.hid (show w.heap.size + 1 < g5 by
                have h1 := HG5.out
                have h2 := HWL.out
                simp at h1
                omega)
              have HSX := Lib.hid (show Sl WX 1 (some ⟨g5, 0, none⟩) c.weights.length ns (ints c.weights) by
                rw [hWX, HCW.out, List.length_replicate]
                exact HS5.out.set (fun b off e => by
                  injection e with e; injection e with e1
                  have := HGL.out
                  show b ≠ w.heap.size + 1
                  omega) _)
              have HNW := Lib.hid (show ∀ g o, (some ⟨g5, 0, none⟩ : Option Addr) = some ⟨g, o, none⟩ → w.heap.size + 1 < g from fun g o e => by
                injection e with e; injection e with e1
                have := HGL.out
                omega)
              have HRB := Lib.hid (show Blk WX w.heap.size 43 (cfA cf0 none 0) by rw [hWX]; exact HR5.out.res.far (by simp only; omega) _)
              have HFX := Lib.hid (show Fr Nob w WX by rw [hWX]; exact HR5.out.fr.call ((Fr.refl (Only (w.heap.size + 1)) W5).setCell (p := ⟨w.heap.size + 1, 3, none⟩) (fun _ => rfl) _) (fun i (hi : i = w.heap.size + 1) hlt => by omega))
              rw [← hWX]
              clear hWX bx5 bz5 bl5 bx bl_ hl0 hl5 hl3 hbx HR5 HS5 HG5 HR1 HRP hr
              have bx := HBX.out.cell
              have bl_ := HBX.out.lt
              unfold cfA at bx
              by_cases hq : (c.weights.length : Int) = c.sources
              · have HE := Lib.hid (HE.out.trans (if_pos hq))
                have hq2 : ((c.weights.length : Int) == c.sources) = true := by simpa using hq
                clear hq
                go_wp2_with (first | (refine wpList_stBox rfl rfl (by rfl) (by rfl) (by kernel_rfl) (by rfl) HRB.out (by rfl) ?_; intro W7 hb7 hf7; have HB7 := Lib.hid hb7; have HF7 := Lib.hid hf7; clear hb7 hf7) | fail)
                refine bodyPost_ret (ret_box2 (p := 2) (u := 3) (v := 4) rfl rfl ⟨_, Tryd.underlying43, rfl⟩ (by kernel_rfl) HB7.out) rfl ?_
                rw [HE.out]
                refine ⟨(some ⟨g5, 0, none⟩), ns, rfl, HSX.out.fr HF7.out (fun g o e _ q => by have := HNW.out g o e; have q : g = w.heap.size := q; omega), HFX.out.call HF7.out (fun i (hi : i = w.heap.size) hlt => by omega)⟩
              · have HE := Lib.hid (HE.out.trans (if_neg hq))
                have hq2 : ((c.weights.length : Int) == c.sources) = false := by simpa using hq
                clear hq
                go_wp2_with (first | (refine wpList_stBox rfl rfl (by rfl) (by rfl) (by kernel_rfl) (by rfl) HRB.out (by rfl) ?_; intro W7 hb7 hf7; have HB7 := Lib.hid hb7; have HF7 := Lib.hid hf7; clear hb7 hf7) | fail)
                refine bodyPost_ret (ret_box2 (p := 2) (u := 3) (v := 4) rfl rfl ⟨_, Tryd.underlying43, rfl⟩ (by kernel_rfl) HB7.out) rfl ?_
                rw [HE.out]
                exact ⟨none, 0, rfl, Sl.none_ _ _, HFX.out.call HF7.out (fun i (hi : i = w.heap.size) hlt => by omega)⟩
          · rw [decide_eq_false h5] at hl5
            have HE := Lib.hid (show readC s.data.toList = (cf0, 32, 0) by
              rw [HRE.out]; unfold endC; rw [if_pos (by simp [h5])])
            clear h0 h5
            go_wp2_with (first | (refine wpList_stBox rfl rfl (by rfl) (by rfl) (by kernel_rfl) (by rfl) HRB.out (by rfl) ?_; intro W7 hb7 hf7; have HB7 := Lib.hid hb7; have HF7 := Lib.hid hf7; clear hb7 hf7) | fail)
            refine bodyPost_ret (ret_box2 (p := 2) (u := 3) (v := 4) rfl rfl ⟨_, Tryd.underlying43, rfl⟩ (by kernel_rfl) HB7.out) rfl ?_
            rw [HE.out]
            exact ⟨none, 0, rfl, Sl.none_ _ _, hr.out.fr.call HF7.out (fun i (hi : i = w.heap.size) hlt => by omega)⟩
        · rw [decide_eq_false h0] at hl0
          have HE := Lib.hid (show readC s.data.toList = (cf0, 32, 0) by
            rw [HRE.out]; unfold endC; rw [if_pos (by simp [h0])])
          clear h0
          go_wp2_with (first | (refine wpList_stBox rfl rfl (by rfl) (by rfl) (by kernel_rfl) (by rfl) HRB.out (by rfl) ?_; intro W7 hb7 hf7; have HB7 := Lib.hid hb7; have HF7 := Lib.hid hf7; clear hb7 hf7) | fail)
          refine bodyPost_ret (ret_box2 (p := 2) (u := 3) (v := 4) rfl rfl ⟨_, Tryd.underlying43, rfl⟩ (by kernel_rfl) HB7.out) rfl ?_
          rw [HE.out]
          exact ⟨none, 0, rfl, Sl.none_ _ _, hr.out.fr.call HF7.out (fun i (hi : i = w.heap.size) hlt => by omega)⟩
end Go.Proofs.YtoegdmpmagbaiaaDoor
