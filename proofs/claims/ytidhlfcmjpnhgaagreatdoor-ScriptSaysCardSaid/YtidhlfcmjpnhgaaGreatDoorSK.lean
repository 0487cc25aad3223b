/- A script's lines: what is held while they are read, and the library's calls. -/
import Derived.Test.YtidhlfcmjpnhgaaGreatDoorQY23
import Derived.Test.YtidhlfcmjpnhgaaGreatDoorSA
namespace Go.Proofs.YtidhlfcmjpnhgaaGreatDoor
open Go.RowKit Go.Lib Go.Shelf

set_option maxHeartbeats 2000000 in
theorem sc_blank (w : World) (x : Nat) : Calls Tryz.prog 16 #[.int .i32 x] w fun e w' => e = .returned (.bool (x == 32)) ∧ ∃ q, w' = w.drewN q := by
  by_cases h : x = 32
  · have h1 : ((x : Int) == 32) = true := by rw [h]; rfl
    have HR := Lib.hid (show (x == 32) = true by rw [h]; rfl)
    clear h
    go_enter Tryz.func16, Tryz.ntmps16
    go_wp2
    go_ret
    exact ⟨by rw [HR.out]; rfl, 0, rfl⟩
  · have h1 : ((x : Int) == 32) = false := by rw [beq_eq_false_iff_ne]; omega
    have HR := Lib.hid (show (x == 32) = false by rw [beq_eq_false_iff_ne]; exact h)
    clear h
    go_enter Tryz.func16, Tryz.ntmps16
    go_wp2
    go_ret
    exact ⟨by rw [HR.out]; rfl, 0, rfl⟩
theorem sc_Fields (w : World) (s : ByteArray) (hs : s.size ≤ 100000) : Calls Tryz.prog 15 #[.string s, .func (.func 16) #[] #[]] w fun e w' => IsB e w w' (wordsC s.data.toList) := by
  have := Any.strings_FieldsFunc_runes Tryz.strFields 16 #[] (enters_of Tryz.func16 (by kernel_rfl) rfl) (· == 32) s w (by omega) (fun W x _ _ => sc_blank W x) (by kernel_rfl) (by kernel_rfl)
  change Calls Tryz.prog 15 _ _ _ at this
  refine this.mono fun e w' ⟨A, h1, h2, h3, h4⟩ => ?_
  exact ⟨_, _, _, Lib.goFieldsP (· == 32) s, h1, fields_eq s, Sl.of_own h3, fun g o e => by injection e with e; injection e with e1; omega, Fr.of_below h4⟩
theorem sc_Has (w : World) (s : ByteArray) : Calls Tryz.prog 17 #[.string s, .string ⟨#[35]⟩] w fun e w' => e = .returned (.bool (decide (s.data.toList.head? = some 35))) ∧ w = w' := by
  have := Any.strings_HasPrefix Tryz.strHas s ⟨#[35]⟩ w
  change Calls Tryz.prog 17 _ _ _ at this
  refine this.mono fun _ _ ⟨h1, h2⟩ => ⟨?_, h2.symm⟩
  rw [h1]
  congr 2
  unfold Lib.hasPrefix
  cases s.data.toList with
  | nil => rfl
  | cons c r =>
    by_cases hc : c = 35
    · subst hc; simp [List.isPrefixOf]
    · have : ¬ (35 : UInt8) = c := fun e => hc e.symm
      simp [List.isPrefixOf, hc, this]
theorem elemST : ElemT Tryz.prog 23 34 4 48 := ElemT.mk (z := .agg #[.int .i64 0, .int .i64 0, .int .i64 0, .slice none 0 0]) Tryz.underlying23 (by kernel_rfl) (by kernel_rfl) (by decide)
/-- A step, and where its bytes lie. -/
structure StV where
  z : ZC
  B : Option Addr
  d : Nat
def stc (e : StV) : List Value := [.int .i64 e.z.kind, .int .i64 e.z.src, .int .i64 e.z.n, .slice e.B e.z.b.length e.d]
theorem stc_len (e : StV) : (stc e).length = 4 := rfl
def StOk (w : World) (e : StV) : Prop := Sl w 1 e.B e.z.b.length e.d (byteCells e.z.b)
/-- The steps that were read. -/
structure StS (w wr : World) (N : Nat) (A : Option Addr) (c : Nat) (L : List StV) : Prop where
  own : wr.ownsRow N 34 4 (.slice A L.length c) L.length (L.flatMap stc)
  ok : ∀ e ∈ L, StOk wr e
  off : ∀ e ∈ L, ∀ g o, e.B = some ⟨g, o, none⟩ → 0 < e.z.b.length → A.map (·.block) ≠ some g
section
variable {w wr w' : World} {N : Nat} {A A' : Option Addr} {c c' : Nat} {L : List StV} {e : StV}
theorem StS.aside (h : StS w wr N A c L) (hf : Fr Nob wr w') : StS w w' N A c L := ⟨own_fr h.own hf (fun _ _ _ _ e => e), fun e he => (h.ok e he).pure hf, h.off⟩
theorem StS.more (h : StS w wr N A c L) (he : StOk wr e) (hoff : ∀ g o, e.B = some ⟨g, o, none⟩ → 0 < e.z.b.length → A.map (·.block) ≠ some g) (ob : Obj) (hown : w'.ownsRow N 34 4 (.slice A' (L.length + 1) c') (L.length + 1) (L.flatMap stc ++ stc e)) (hg : (wr.alloc ob).grownBy w' (A.map (·.block))) (hl : Lies A' A (wr.alloc ob).heap.size) :
    StS w w' N A' c' (L ++ [e]) := by
  have hkeep : ∀ x : StV, StOk wr x → (∀ g o, x.B = some ⟨g, o, none⟩ → 0 < x.z.b.length → A.map (·.block) ≠ some g) → StOk w' x ∧ ∀ g o, x.B = some ⟨g, o, none⟩ → 0 < x.z.b.length → A'.map (·.block) ≠ some g := fun x hx ho => by
    have h1 : StOk (wr.alloc ob) x := Sl.alloc hx ob
    refine ⟨Sl.keep h1 fun b off e hn hlt => hg.block b hlt (fun q => ho b off e hn q.symm), fun g o e hn => ?_⟩
    rcases hl with hl | hl
    · rw [hl]; exact ho g o e hn
    · rw [hl]
      obtain ⟨b, off, e2, hb, _⟩ := h1.cells hn
      rw [e] at e2
      injection e2 with e2
      injection e2 with e2
      subst e2
      intro e3
      injection e3 with e3
      omega
  refine ⟨?_, fun x hx => ?_, fun x hx => ?_⟩
  · rw [List.flatMap_append, List.length_append]
    simpa using hown
  · rcases List.mem_append.1 hx with hx | hx
    · exact (hkeep x (h.ok x hx) (h.off x hx)).1
    · simp only [List.mem_singleton] at hx; subst hx; exact (hkeep x he hoff).1
  · rcases List.mem_append.1 hx with hx | hx
    · exact (hkeep x (h.ok x hx) (h.off x hx)).2
    · simp only [List.mem_singleton] at hx; subst hx; exact (hkeep x he hoff).2
end
/-- What reading a text answers. -/
def SReadP (w : World) (z : List ZC × Int × Int) (e : Ending) (w' : World) : Prop :=
  ∃ (A : Option Addr) (c : Nat) (L : List StV), e = .returned (.tuple #[.slice A z.1.length c, .int .i64 z.2.1, .int .i64 z.2.2]) ∧ L.map StV.z = z.1 ∧ Sl w' 4 A z.1.length c (L.flatMap stc) ∧ (∀ x ∈ L, StOk w' x) ∧ Fr Nob w w'
theorem SReadP.bad {w w' : World} {z : List ZC × Int × Int} {k i : Int} (h : z = ([], k, i)) (hf : Fr Nob w w') : SReadP w z (.returned (.tuple #[.slice none 0 0, .int .i64 k, .int .i64 i])) w' := by
  subst h
  exact ⟨none, 0, [], rfl, rfl, Sl.none_ _ _, by simp, hf⟩
end Go.Proofs.YtidhlfcmjpnhgaaGreatDoor

/- A script's text: the program. -/
namespace Go.Proofs.YtidhlfcmjpnhgaaGreatDoor
open Go.RowKit Go.Lib

theorem lineS_row {w : List UInt8} {r : List (List UInt8)} {q : Nat} (h : wordN w = q) (hq : q < 9) : lineS w r = rowS q r := by unfold lineS; rw [h, if_neg (by omega)]
theorem Fr.tailN {N : Nat} {w w1 w2 : World} (hs : w.heap.size ≤ N) (h1 : Fr Nob w w1) (hN : w1.heap.size = N) (v : Obj) (h2 : Fr (Only N) (w1.alloc v) w2) : Fr Nob w w2 :=
  (h1.alloc v).call h2 (fun i (e : i = N) hlt => by omega)
/-- The step of a line, in a box. -/
def SrR (w wx : World) (g : Nat) (z : Int × ZC) : Prop := ∃ B d, Blk wx g 34 #[.int .i64 z.2.kind, .int .i64 z.2.src, .int .i64 z.2.n, .slice B z.2.b.length d] ∧ Fr Nob w wx ∧ Sl wx 1 B z.2.b.length d (byteCells z.2.b) ∧ ∀ g o, B = some ⟨g, o, none⟩ → w.heap.size ≤ g
theorem wordN_le (w : List UInt8) : wordN w ≤ 9 := by
  have := List.idxOf_le_length (a := w) (l := wordsL)
  exact this
set_option maxRecDepth 100000 in
set_option maxHeartbeats 40000000 in
theorem prg_SRead (w : World) (s : ByteArray) (hs : s.size ≤ 100000) (hv : ErrVar w) (hm : MaxVar w) (ht : TnVar w) :
    Calls Tryz.prog 7 #[.string s] w fun e w' => SReadP w (readS s.data.toList) e w' := by
  have HV := Lib.hid hv
  have HM := Lib.hid hm
  have HT := Lib.hid ht
  clear hv hm ht
  by_cases hl : 8192 < s.size
  · have hlI : (8192 : Int) < s.size := by omega
    have HR := Lib.hid (show readS s.data.toList = ([], 13, 0) by unfold readS; rw [if_pos (by rw [ba_len]; exact hl)])
    clear hl
    go_enter Tryz.func7, Tryz.ntmps7
    go_wp2_with fail
    go_ret3
    exact .bad HR.out (Fr.refl Nob w)
  · have hlI : ¬ (8192 : Int) < s.size := by omega
    have HRS := Lib.hid (show readS s.data.toList = loopS 0 [] (splitC 10 s.data.toList) by unfold readS; rw [if_neg (by rw [ba_len]; exact hl)])
    go_enter Tryz.func7, Tryz.ntmps7
    go_wp2_with (first
      | ((go_at_call 13); (refine (prg_rows w).mono ?_); rintro e W0 ⟨rfl, hf0, htb⟩; have HF0 := Lib.hid hf0; have HTB := Lib.hid htb; clear hf0 htb)
      | ((go_at_call 14); (refine (prg_Split W0 s hs (HM.out.fr HF0.out)).mono ?_); rintro e W1 ⟨PA, n, d, ps, rfl, hps, hsl, hPA, hf1⟩; have HPS := Lib.hid hps; have HSL := Lib.hid hsl; have HF1 := Lib.hid (HF0.out.call hf1 (fun _ e _ => e)); have HTB1 := Lib.hid (HTB.out.fr hf1); clear hps hsl hPA hf1)
      | fail)
    have hnn : ps.length = n := by have := HSL.out.len; simpa [strB] using this
    subst hnn
    have hn0 := splitC_len 10 s.data.toList
    rw [← HPS.out, ba_len] at hn0
    have hn5 : ps.length ≤ 8193 := by simpa [bl] using Nat.le_trans hn0 (by omega)
    have hmx := HSL.out.max
    have hle := HSL.out.le
    unfold maxLen at hmx
    have HL5 := Lib.hid hl
    clear hn0 hl
    go_loopw [6, 21] (fun sv iv wr => ∃ (k : Nat) (A : Option Addr) (c : Nat) (L : List StV), k ≤ ps.length ∧ iv = .int .i64 k ∧ sv = .slice A L.length c ∧ L.length ≤ k ∧ Hid (Fr Nob W1 wr) ∧ Hid (StS w wr W1.heap.size A c L) ∧ Hid (readS s.data.toList = loopS k (L.map StV.z) ((splitC 10 s.data.toList).drop k))) (fun _ iv _ => ps.length - (RowKit.intOf iv).toNat)
    case atStart => exact ⟨0, none, 0, [], Nat.zero_le _, rfl, rfl, Nat.le_refl _, Lib.hid (Fr.refl _ _), Lib.hid ⟨⟨rfl, .inl ⟨rfl, rfl⟩⟩, by simp, by simp⟩, Lib.hid (by rw [HRS.out]; rfl)⟩
    case round =>
      obtain ⟨k, A, c, L, hk, rfl, rfl, hLk, hf, hst, hlp⟩ := hrel
      by_cases hlt : k < ps.length
      · have hI : (k : Int) < ps.length := by omega
        have hI3 : 0 ≤ (k : Int) := by omega
        obtain ⟨pb, po, rfl, hpb, hcp⟩ := (HSL.out.pure hf.out).str_at hlt
        have hkb : k < (splitC 10 s.data.toList).length := by rw [← HPS.out]; simpa [bl] using hlt
        have hat : (splitC 10 s.data.toList)[k] = ps[k].data.toList := by
          have : (bl ps)[k]'(by simpa [bl] using hlt) = ps[k].data.toList := by simp [bl]
          rw [← this]
          congr 1
          exact HPS.out.symm
        have hsz : ps[k].size ≤ 8192 := by
          have := (splitC_part 10 s.data.toList ((splitC 10 s.data.toList)[k]) (List.getElem_mem _)).1
          rw [hat, ba_len, ba_len] at this
          have := HL5.out
          omega
        have HLP := Lib.hid (show readS s.data.toList = loopS k (L.map StV.z) (ps[k].data.toList :: (splitC 10 s.data.toList).drop (k + 1)) by
          rw [hlp.out, List.drop_eq_getElem_cons hkb, hat])
        rw [loopS_cons] at HLP
        have hnx := HLP
        clear hnx hlp hat hkb
        have HFW := Lib.hid (HF1.out.call hf.out (fun _ e _ => e))
        have HTR := Lib.hid (HTB1.out.fr hf.out)
        have hst1 := hf.out.size
        have HFL := Lib.hid (sc_Fields wr ps[k] (by omega))
        generalize ps[k] = x at *
        go_upto_region 9 with (first
          | ((go_at_call 15); (refine HFL.out.mono ?_); rintro e W2 ⟨WA, m, wd, ws, rfl, hws, hwl, hWA, hf2⟩; have HWS := Lib.hid hws; have HWL := Lib.hid hwl; have HF2 := Lib.hid hf2; clear hws hwl hWA hf2)
          | fail)
        have hmm2 : ws.length = m := by have := HWL.out.len; simpa [strB] using this
        subst hmm2
        have HS2 := Lib.hid (hst.out.aside HF2.out)
        have HFW2 := Lib.hid (HFW.out.call HF2.out (fun _ e _ => e))
        have HFF2 := Lib.hid (hf.out.call HF2.out (fun _ e _ => e))
        have HTR2 := Lib.hid (HTR.out.fr HF2.out)
        rw [← HWS.out] at HLP
        have hwn : ws.length ≤ 8193 := by
          have h := wordsC_len x.data.toList
          rw [← HWS.out, ba_len] at h
          simpa [bl] using Nat.le_trans h (by omega)
        have HWN := Lib.hid (show ∀ y ∈ ws, y.size ≤ 100000 from fun y hy => by
          have := (wordsC_mem (l := x.data.toList) (x := y.data.toList) (by rw [← HWS.out]; exact List.mem_map.2 ⟨y, hy, rfl⟩)).2.1
          rw [ba_len, ba_len] at this
          omega)
        have hwmx := HWL.out.max
        have hwle := HWL.out.le
        unfold maxLen at hwmx
        cases ws with
        | nil =>
          have HNX := Lib.hid (show readS s.data.toList = loopS (k + 1) (L.map StV.z) ((splitC 10 s.data.toList).drop (k + 1)) from HLP.out)
          clear HLP
          go_wp2_with fail
          exact ⟨⟨k + 1, A, c, L, by omega, by go_num, rfl, by omega, HFF2, HS2, HNX⟩, by simp [RowKit.intOf]; omega⟩
        | cons w0 rest =>
          obtain ⟨wg, wo, rfl, hwg, hwc⟩ := HWL.out.str_at (k := 0) (by simp)
          simp only [List.getElem_cons_zero, Nat.add_zero] at hwc
          have HL2 := Lib.hid (show readS s.data.toList = if w0.data.toList.head? = some 35 then loopS (k + 1) (L.map StV.z) ((splitC 10 s.data.toList).drop (k + 1)) else if (lineS w0.data.toList (bl rest)).1 = 0 then loopS (k + 1) (L.map StV.z ++ [(lineS w0.data.toList (bl rest)).2]) ((splitC 10 s.data.toList).drop (k + 1)) else ([], (lineS w0.data.toList (bl rest)).1, (k + 1 : Nat)) from HLP.out)
          clear HLP
          have hlI0 : (0 : Int) < (rest.length : Int) + 1 := by omega
          have hlI1 : ¬ (rest.length : Int) + 1 = 0 := by omega
          have HHP := Lib.hid (fun W => sc_Has W w0)
          by_cases h35 : w0.data.toList.head? = some 35
          · have HNX := Lib.hid (show readS s.data.toList = loopS (k + 1) (L.map StV.z) ((splitC 10 s.data.toList).drop (k + 1)) by rw [HL2.out, if_pos h35])
            have hd : decide (w0.data.toList.head? = some 35) = true := by simpa using h35
            rw [hd] at HHP
            clear HL2 h35 hd
            go_wp2_with (first | ((go_at_call 17); (with_reducible refine (HHP.out _).mono ?_); rintro e W3 ⟨rfl, rfl⟩) | fail)
            exact ⟨⟨k + 1, A, c, L, by omega, by go_num, rfl, by omega, HFF2, HS2, HNX⟩, by simp [RowKit.intOf]; omega⟩
          · have hd : decide (w0.data.toList.head? = some 35) = false := by simpa using h35
            rw [hd] at HHP
            rw [if_neg h35] at HL2
            clear h35 hd
            by_cases hq9 : wordN w0.data.toList = 9
            · have HR := Lib.hid (show readS s.data.toList = ([], 30, (k : Int) + 1) by
                rw [HL2.out, show lineS w0.data.toList (bl rest) = (30, z0) by unfold lineS; rw [if_pos hq9]]
                simp)
              have hlk := HTR2.out.gone w0 hq9
              clear HL2
              go_wp2_with (first
                | ((go_at_call 17); (with_reducible refine (HHP.out _).mono ?_); rintro e W3 ⟨rfl, rfl⟩)
                | (refine wpList_stBox rfl rfl (by rfl) (by rfl) (by kernel_rfl) (by rfl) (Blk.new _ _ _) (by rfl) ?_; intro W4 hb4 hf4; have HB4 := Lib.hid hb4; have HF4 := Lib.hid (Fr.tailN (Nat.le_refl _) (Fr.refl Nob W2) rfl _ hf4); have bx := HB4.out.cell; clear hb4 hf4)
                | fail)
              go_ret3
              exact .bad HR.out (HFW2.out.call HF4.out (fun _ e _ => e))
            · obtain ⟨q, HQ⟩ : ∃ q, Hid (wordN w0.data.toList = q) := ⟨_, Lib.hid rfl⟩
              have hq : q < 9 := by have := wordN_le w0.data.toList; have := HQ.out; omega
              rw [lineS_row HQ.out hq] at HL2
              obtain ⟨f, hF, hlk⟩ := HTR2.out.get w0 HQ.out hq
              have HMK := Lib.hid (row_mk hq hF (HT.out.fr HFW2.out))
              change (Instr.lookup 46 (.map (some w.heap.size)) (.string w0) true).run Tryz.prog W2 = .ok (.tuple #[.agg #[.string (wantB q), .bool (decide (q = 3)), f], .bool true]) W2 at hlk
              clear hq9 hF
              obtain ⟨fn, caps, hfe, -, -⟩ := HMK.out
              subst hfe
              go_upto_region 13 with (first
                | ((go_at_call 17); (with_reducible refine (HHP.out _).mono ?_); rintro e W3 ⟨rfl, rfl⟩)
                | (refine wpList_stBox rfl rfl (by rfl) (by rfl) (by kernel_rfl) (by rfl) (Blk.new _ _ _) (by rfl) ?_; intro W4 hb4 hf4; have HB4 := Lib.hid hb4; have HF4 := Lib.hid (Fr.tailN (Nat.le_refl _) (Fr.refl Nob W2) rfl _ hf4); have bx := HB4.out.cell; clear hb4 hf4)
                | fail)
              obtain ⟨A2, d2, hsl, hw2, hA2⟩ := words_tail HWL.out
              have HRR := Lib.hid (fun W (hf : Fr Nob W4 W) => prg_rowread W q _ hq (by
                  obtain ⟨fn', caps', e1, e2, e3⟩ := HMK.out
                  exact ⟨fn', caps', e1, e2, fun W' h' => e3 W' ((HF4.out.call hf (fun _ e _ => e)).call h' (fun _ e _ => e))⟩) A2 rest.length d2 rest (hw2.pure (HF4.out.call hf (fun _ e _ => e))) (fun y hy => HWN.out y (by simp [hy])) (by simp at hwn; omega) (HV.out.fr (HFW2.out.call (HF4.out.call hf (fun _ e _ => e)) (fun _ e _ => e))) (HM.out.fr (HFW2.out.call (HF4.out.call hf (fun _ e _ => e)) (fun _ e _ => e))))
              rw [show rowV q (.func (.func fn) #[] caps) = .agg #[.string (wantB q), .bool (decide (q = 3)), .func (.func fn) #[] caps] from rfl] at HRR
              generalize rowS q (bl rest) = zr at *
              generalize decide (q = 3) = mo at *
              go_cut [12, 13] (fun bv ev wx => ∃ g, bv = .pointer (some ⟨g, 0, none⟩) ∧ ev = .int .i64 zr.1 ∧ SrR W4 wx g zr)
              case first =>
                rename_i J9 K9 hJ9 hK9
                have hb4l := HB4.out.lt
                unfold RowP at HRR
                go_region_with (first
                  | ((go_at_call 18); (with_reducible refine (HRR.out _ (Fr.refl Nob W4).drew).mono ?_); rintro e W5 ⟨B5, d5, rfl, hf5, hs5, hb5⟩; have HF5 := Lib.hid hf5; have HS5 := Lib.hid hs5; have HB5 := Lib.hid hb5; clear hf5 hs5 hb5)
                  | ((go_at_call 18); (with_reducible refine (HRR.out _ ((Fr.refl Nob W4).alloc _).drew).mono ?_); rintro e W5 ⟨B5, d5, rfl, hf5, hs5, hb5⟩; have HF5 := Lib.hid hf5; have HS5 := Lib.hid hs5; have HB5 := Lib.hid hb5; have HZ5 := Lib.hid ((Blk.new _ _ _).drew.fr hf5 (fun e => e)); have zc := HZ5.out.cell; have zf := HZ5.out.frozen; have zl := HZ5.out.lt; clear hf5 hs5 hb5)
                  | fail)
                · go_simp
                  refine hK9 _ _ (hJ9 _ _ ?_)
                  (repeat apply Exists.intro)
                  refine ⟨?_, rfl⟩
                  exact ⟨W5.heap.size, rfl, rfl, B5, d5, Blk.new _ _ _, ((Fr.refl Nob W4).drew.call HF5.out (fun _ e _ => e)).alloc _, HS5.out.alloc _, HB5.out⟩
                all_goals
                  go_simp
                  refine hK9 _ _ (hJ9 _ _ ?_)
                  (repeat apply Exists.intro)
                  refine ⟨?_, rfl⟩
                  have hsz4 : (W4.alloc (.cells #[.int .i64 0, .int .i64 0, .int .i64 0, .slice none 0 0] 34)).drew.heap.size = W4.heap.size + 1 := by simp [World.drew]
                  exact ⟨W4.heap.size, rfl, rfl, B5, d5, (((HZ5.out.set 0 _).set 1 _).set 2 _).set 3 _, set4_nob ((((Fr.refl Nob W4).alloc _).drew).call HF5.out (fun _ e _ => e)) (Nat.le_refl _) _ _ _ _, HS5.out.fr (set4_fr W5 W4.heap.size _ _ _ _) (fun g o e _ h => by have h1 := HB5.out g o e; have h : g = W4.heap.size := h; omega), fun g o e => by have h1 := HB5.out g o e; omega⟩
              case rest =>
                obtain ⟨g, rfl, rfl, B6, d6, hb6, hf6, hs6, hfr6⟩ := hcut
                have HF6 := Lib.hid (HF4.out.call hf6 (fun _ e _ => e))
                by_cases he : zr.1 = 0
                · have HNX := Lib.hid (show readS s.data.toList = loopS (k + 1) ((L ++ [(⟨zr.2, B6, d6⟩ : StV)]).map StV.z) ((splitC 10 s.data.toList).drop (k + 1)) by rw [HL2.out, if_pos he]; simp)
                  have bc := hb6.cell
                  rw [he]
                  clear HL2
                  go_wp2_with (first
                    | (at_builtin; refine wpList_app rfl _ _ 23 rfl elemST (base := W1.heap.size) (xs := L.flatMap stc) (news := [.int .i64 zr.2.kind, .int .i64 zr.2.src, .int .i64 zr.2.n, .slice B6 zr.2.b.length d6]) rfl (own_fr HS2.out.own (HF6.out.alloc _) (fun _ _ _ _ e => e)) rfl (Sl.new1 (Blk.new _ _ _) 4 1 rfl (by decide)) (by intro u hu; simp at hu; rcases hu with rfl | rfl | rfl | rfl <;> rfl) ?h63 ?hby ?hbase ?_; (case h63 => unfold maxLen; omega); (case hby => omega); (case hbase => have := HFF2.out.size; have := HF6.out.size; simp; omega); intro A7 c7 W7 hown hg hlies; have HO7 := Lib.hid hown; have HG7 := Lib.hid hg; have HL7 := Lib.hid hlies; clear hown hg hlies)
                    | fail)
                  have HNS := Lib.hid (StS.more (e := ⟨zr.2, B6, d6⟩) (HS2.out.aside HF6.out) hs6 (fun g o e hn h => by
                    have h1 := hfr6 g o e
                    have h2 := HS2.out.own.lt
                    have h3 := HF4.out.size
                    have h4 := (h2 g (by rw [← h]; cases A <;> rfl)).2
                    omega) _ HO7.out HG7.out HL7.out)
                  have HF7 := Lib.hid (((HFF2.out.call HF6.out (fun _ e _ => e)).alloc _).grown HG7.out (fun k hk hlt => by have := own_base HS2.out.own k hk; omega))
                  exact ⟨⟨k + 1, A7, c7, L ++ [⟨zr.2, B6, d6⟩], by omega, by go_num, by simp, by simp; omega, HF7, HNS, HNX⟩, by simp [RowKit.intOf]; omega⟩
                · have HR := Lib.hid (show readS s.data.toList = ([], zr.1, (k : Int) + 1) by rw [HL2.out, if_neg he]; simp)
                  have hne : ((zr.1 : Int) == 0) = false := by rw [beq_eq_false_iff_ne]; exact he
                  clear HL2 he
                  go_wp2_with fail
                  go_ret3
                  exact .bad HR.out (HFW2.out.call HF6.out (fun _ e _ => e))
      · have hI : ¬ (k : Int) < ps.length := by omega
        obtain rfl : k = ps.length := by omega
        have HR := Lib.hid (show readS s.data.toList = (L.map StV.z, 0, 0) by
          rw [hlp.out, List.drop_of_length_le (by rw [← HPS.out]; simp [bl]), loopS])
        go_wp2_with fail
        go_ret3
        rw [HR.out]
        exact ⟨A, c, L, by simp, rfl, by simpa using Sl.of_own hst.out.own, hst.out.ok, HF1.out.call hf.out (fun _ e _ => e)⟩
end Go.Proofs.YtidhlfcmjpnhgaaGreatDoor
