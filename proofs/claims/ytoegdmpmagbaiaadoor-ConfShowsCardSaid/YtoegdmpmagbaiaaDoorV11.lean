/- A line's words: the program's walk. -/
import Derived.Test.YtoegdmpmagbaiaaDoorV10
import Derived.Test.YtoegdmpmagbaiaaDoorV3
import Derived.Test.YtoegdmpmagbaiaaDoorV5
import Derived.Test.YtoegdmpmagbaiaaDoorSl
namespace Go.Proofs.YtoegdmpmagbaiaaDoor
open Go.RowKit Go.Lib

/-- Blocks b and r. -/
def Two (b r : Nat) : Nat → Prop := fun i => i = b ∨ i = r
/-- A configuration that is being read: its box, its weights, the settings that were there. -/
structure CfAt (w : World) (b r : Nat) (st : CF × List Nat) (A : Option Addr) (cap : Nat) : Prop where
  box : Blk w b 43 (cfA st.1 A cap)
  sl : Sl w 1 A st.1.weights.length cap (ints st.1.weights)
  nil : 3 ∉ st.2 → A = none ∧ cap = 0 ∧ st.1.weights = []
  map : MapC w r st.2
  off : ∀ g o, A = some ⟨g, o, none⟩ → g ≠ b ∧ g ≠ r
theorem CfAt.ne {w : World} {b r : Nat} {st : CF × List Nat} {A : Option Addr} {cap : Nat} (h : CfAt w b r st A cap) : b ≠ r := by
  intro e
  have h1 := h.box
  obtain ⟨es, clock, h2, _⟩ := h.map
  unfold Blk at h1
  rw [e, h2] at h1
  cases h1
theorem CfAt.fr {P : Nat → Prop} {w w' : World} {b r : Nat} {st : CF × List Nat} {A : Option Addr} {cap : Nat} (h : CfAt w b r st A cap) (hf : Fr P w w') (hb : ¬ P b) (hr : ¬ P r) (ho : ∀ g o, A = some ⟨g, o, none⟩ → ¬ P g) : CfAt w' b r st A cap :=
  ⟨h.box.fr hf hb, h.sl.fr hf (fun g o e _ => ho g o e), h.nil, h.map.fr hf hr, h.off⟩
theorem CfAt.pure {w w' : World} {b r : Nat} {st : CF × List Nat} {A : Option Addr} {cap : Nat} (h : CfAt w b r st A cap) (hf : Fr Nob w w') : CfAt w' b r st A cap := h.fr hf (fun e => e) (fun e => e) (fun _ _ _ e => e)
theorem ErrVar.far {w w' : World} {r : Nat} {S : List Nat} (h : ErrVar w) (hm : MapC w r S) (hf : Fr (Only r) w w') : ErrVar w' := by
  obtain ⟨te, pe, h⟩ := h
  refine ⟨te, pe, hf.cell h (fun e => ?_)⟩
  obtain ⟨es, clock, h2, _⟩ := hm
  have e : 6 = r := e
  rw [← e] at h2
  simp [World.cell?, h2] at h
theorem take_all (w : World) (c : CF) (A B : Option Addr) (b cap d k : Nat) (l : List Int) (hk : k < 7) (h1 : k ≠ 3 → ∃ v, l = [v]) (hn : k = 3 → A = none ∧ cap = 0 ∧ c.weights = []) (hb : Blk w b 43 (cfA c A cap)) (hc : Sl w 1 A c.weights.length cap (ints c.weights)) (hs : Sl w 1 B l.length d (ints l))
    (hA : ∀ g o, A = some ⟨g, o, none⟩ → g ≠ b) (hB : ∀ g o, B = some ⟨g, o, none⟩ → g ≠ b) (h63 : l.length ≤ 1000) :
    Calls Tryd.prog (takeN.getD k 0) #[.pointer (some ⟨b, 0, none⟩), .slice B l.length d] w fun e w' => e = .returned (.tuple #[]) ∧ ∃ A' cap', Blk w' b 43 (cfA (setC c k l) A' cap') ∧ Sl w' 1 A' (setC c k l).weights.length cap' (ints (setC c k l).weights) ∧ (∀ g o, A' = some ⟨g, o, none⟩ → A' = A ∨ w.heap.size ≤ g) ∧ (k ≠ 3 → A' = A ∧ cap' = cap ∧ (setC c k l).weights = c.weights) ∧ Fr (Only b) w w' := by
  have hone : ∀ (j : Nat) (v : Int), j ≠ 3 → (setC c j [v]).weights = c.weights := by
    intro j v hj
    unfold setC
    (repeat' split) <;> first | rfl | omega
  have a : k = 0 ∨ k = 1 ∨ k = 2 ∨ k = 3 ∨ k = 4 ∨ k = 5 ∨ k = 6 := by omega
  have go : ∀ (n j : Nat) (v : Int), j ≠ 3 → Calls Tryd.prog n #[.pointer (some ⟨b, 0, none⟩), .slice B 1 d] w (fun e w' => e = .returned (.tuple #[]) ∧ Blk w' b 43 (cfA (setC c j [v]) A cap) ∧ Fr (Only b) w w') →
      Calls Tryd.prog n #[.pointer (some ⟨b, 0, none⟩), .slice B 1 d] w (fun e w' => e = .returned (.tuple #[]) ∧ ∃ A' cap', Blk w' b 43 (cfA (setC c j [v]) A' cap') ∧ Sl w' 1 A' (setC c j [v]).weights.length cap' (ints (setC c j [v]).weights) ∧ (∀ g o, A' = some ⟨g, o, none⟩ → A' = A ∨ w.heap.size ≤ g) ∧ (j ≠ 3 → A' = A ∧ cap' = cap ∧ (setC c j [v]).weights = c.weights) ∧ Fr (Only b) w w') := by
    intro n j v hj h
    refine h.mono ?_
    rintro e w' ⟨rfl, h2, h3⟩
    refine ⟨rfl, A, cap, h2, ?_, fun g o _ => .inl rfl, fun _ => ⟨rfl, rfl, hone j v hj⟩, h3⟩
    rw [hone j v hj]
    exact hc.fr h3 (fun g o e _ q => hA g o e q)
  rcases a with rfl | rfl | rfl | rfl | rfl | rfl | rfl
  · obtain ⟨v, rfl⟩ := h1 (by decide); exact go _ 0 v (by decide) (take_0 w c A B cap b d v hb hs)
  · obtain ⟨v, rfl⟩ := h1 (by decide); exact go _ 1 v (by decide) (take_1 w c A B cap b d v hb hs)
  · obtain ⟨v, rfl⟩ := h1 (by decide); exact go _ 2 v (by decide) (take_2 w c A B cap b d v hb hs)
  · obtain ⟨rfl, rfl, hw⟩ := hn rfl
    refine (take_3 w c B b d l hw hb hs hB h63).mono ?_
    rintro e w' ⟨rfl, A', cap', h2, h3, h4, h5⟩
    have hww : (setC c 3 l).weights = l := by unfold setC; simp [hw]
    exact ⟨rfl, A', cap', h2, by rw [hww]; exact h3, fun g o e => .inr (h4 g o e), fun e => absurd rfl e, h5⟩
  · obtain ⟨v, rfl⟩ := h1 (by decide); exact go _ 4 v (by decide) (take_4 w c A B cap b d v hb hs)
  · obtain ⟨v, rfl⟩ := h1 (by decide); exact go _ 5 v (by decide) (take_5 w c A B cap b d v hb hs)
  · obtain ⟨v, rfl⟩ := h1 (by decide); exact go _ 6 v (by decide) (take_6 w c A B cap b d v hb hs)
/-- What a line's words do to it. -/
def ReadP (w : World) (b r : Nat) (st : CF × List Nat) (A : Option Addr) (ws : List (List UInt8)) (e : Ending) (w' : World) : Prop :=
  e = .returned (.int .i64 (stepC st ws).1) ∧ Fr (Two b r) w w' ∧ ((stepC st ws).1 = 0 → ∃ A' cap', CfAt w' b r (stepC st ws).2 A' cap' ∧ ∀ g o, A' = some ⟨g, o, none⟩ → A' = A ∨ w.heap.size ≤ g)
set_option maxRecDepth 100000 in
set_option maxHeartbeats 4000000 in
theorem prg_read (w : World) (b r : Nat) (st : CF × List Nat) (A : Option Addr) (cap : Nat) (B : Option Addr) (n d : Nat) (ws : List ByteArray) (hc : CfAt w b r st A cap) (hw : Sl w 1 B n d (strB ws)) (hB : ∀ g o, B = some ⟨g, o, none⟩ → g ≠ b ∧ g ≠ r)
    (hne : ∀ x ∈ ws, 0 < x.size ∧ x.size ≤ 100000) (hlen : ws.length ≤ 1000) (hv : ErrVar w) :
    Calls Tryd.prog 37 #[.pointer (some ⟨b, 0, none⟩), .slice B n d, .map (some r)] w fun e w' => ReadP w b r st A (bl ws) e w' := by
  have hn : ws.length = n := by have := hw.len; simpa [strB] using this
  subst hn
  have HC := Lib.hid hc
  have HW := Lib.hid hw
  have HB := Lib.hid hB
  have HNE := Lib.hid hne
  have HV := Lib.hid hv
  have hmx := hw.max
  have hle := hw.le
  unfold maxLen at hmx
  clear hc hw hB hv hne
  cases ws with
  | nil =>
    go_enter Tryd.func37, Tryd.ntmps37
    go_wp2_with fail
    go_ret
    exact ⟨rfl, ((Fr.refl _ _).alloc _), fun _ => ⟨A, cap, HC.out.pure ((Fr.refl _ _).alloc _), fun _ _ _ => .inl rfl⟩⟩
  | cons s rest =>
    obtain ⟨h, off, rfl, hh, hcs⟩ := HW.out.str_at (k := 0) (by simp)
    simp only [List.getElem_cons_zero, Nat.add_zero] at hcs
    have hs0 := (HNE.out s (by simp)).1
    have hs0I : (0 : Int) < s.size := by omega
    have hlI : (0 : Int) < (rest.length : Int) + 1 := by omega
    have hnz : ¬ (rest.length : Int) + 1 = 0 := by omega
    have hhd : s.data.toList.head? = some s[0] := by
      rw [list_cons s (by omega)]; rfl
    by_cases h35 : s[0] = 35
    · have q : ((s[0].toNat : Int) == 35) = true := by rw [h35]; rfl
      have HR := Lib.hid (show stepC st (bl (s :: rest)) = (0, st) by
        unfold bl; rw [List.map_cons, stepC, if_pos (by rw [hhd, h35])])
      clear h35 hhd
      go_enter Tryd.func37, Tryd.ntmps37
      go_wp2_with fail
      go_ret
      unfold ReadP
      rw [HR.out]
      exact ⟨rfl, ((Fr.refl _ _).alloc _), fun _ => ⟨A, cap, HC.out.pure ((Fr.refl _ _).alloc _), fun _ _ _ => .inl rfl⟩⟩
    · have q : ((s[0].toNat : Int) == 35) = false := by rw [beq_eq_false_iff_ne]; intro e; exact h35 (UInt8.toNat_inj.1 (by rw [show (35 : UInt8).toNat = 35 from rfl]; omega))
      have HD := Lib.hid (show ¬ s.data.toList.head? = some 35 by rw [hhd]; simpa using h35)
      clear hhd h35
      go_enter Tryd.func37, Tryd.ntmps37
      go_upto_region 4 with (first | ((go_at_call 43); refine (prg_settings _).mono ?_; rintro e w' ⟨rfl, rfl⟩) | fail)
      obtain ⟨W1, hW1⟩ : ∃ W1, W1 = ((w.alloc (.cells #[.slice (some ⟨h, off, none⟩) (rest.length + 1) d] 59)).alloc (.cells setA 90)) := ⟨_, rfl⟩
      have HF1 := Lib.hid (show Fr Nob w W1 by rw [hW1]; exact ((Fr.refl _ _).alloc _).alloc _)
      have HX1 := Lib.hid (show Blk W1 w.heap.size 59 #[.slice (some ⟨h, off, none⟩) (rest.length + 1) d] by rw [hW1]; exact (Blk.new _ _ _).alloc _)
      have HS1 := Lib.hid (show Blk W1 (w.heap.size + 1) 90 setA by rw [hW1]; exact Blk.new_eq (by simp))
      rw [← hW1]
      clear hW1
      generalize hgs : w.heap.size + 1 = gs at *
      have HGS := Lib.hid hgs
      clear hgs
      have hgl := HS1.out.lt
      have hxl := HX1.out.lt
      have HIX := Lib.hid (prg_IndexFunc W1 gs w.heap.size h off (rest.length + 1) d s HS1.out (HX1.out.cell 0) (by omega) (HF1.out.cell hcs (fun e => e)))
      by_cases hk7 : keyC s.data.toList = 7
      · have hki : keyI s.data.toList = -1 := by unfold keyI; rw [if_pos hk7]
        rw [hki] at HIX
        have HR := Lib.hid (show stepC st (bl (s :: rest)) = (30, st) by
          unfold bl; rw [List.map_cons, stepC, if_neg HD.out, if_pos hk7])
        clear hki hk7
        go_wp2_with ((go_at_call 53); (with_reducible refine HIX.out.mono ?_); rintro e W2 ⟨rfl, hf2⟩; have HF2 := Lib.hid (HF1.out.call hf2 (fun _ h _ => h)); clear hf2)
        go_ret
        unfold ReadP
        rw [HR.out]
        exact ⟨rfl, HF2.out.mono (fun _ _ e => e.elim), fun e => by simp at e⟩
      · obtain ⟨k, HK⟩ : ∃ k, Hid (keyC s.data.toList = k) := ⟨_, Lib.hid rfl⟩
        rw [HK.out] at hk7
        have hk : k < 7 := by have := keyC_le s.data.toList; rw [HK.out] at this; omega
        have hki : keyI s.data.toList = (k : Int) := by unfold keyI; rw [HK.out, if_neg hk7]
        rw [hki] at HIX
        have hks : keyV k = .string s := by
          have : keysC.getD k [] = s.data.toList := by rw [← HK.out]; exact key_word_eq (by rw [HK.out]; exact hk)
          unfold keyV strV
          rw [this]
        have hkI : ¬ (k : Int) < 0 := by omega
        have hkJ : 0 ≤ (k : Int) := by omega
        have hkL : (k : Int) < 7 := by omega
        clear hki hk7
        by_cases hm : k ∈ st.2
        · have hmd : decide (k ∈ st.2) = true := by simpa using hm
          have HR := Lib.hid (show stepC st (bl (s :: rest)) = (31, st) by
            unfold bl; rw [List.map_cons, stepC, if_neg HD.out, HK.out, if_neg (by omega), if_pos hm])
          clear hm
          go_wp2_with (first | ((go_at_call 53); (with_reducible refine HIX.out.mono ?_); rintro e W2 ⟨rfl, hf2⟩; have HF2 := Lib.hid (HF1.out.call hf2 (fun _ h _ => h)); have HX2 := Lib.hid (HX1.out.fr hf2 (fun e => e)); have bx := HX2.out.cell 0; have hcs2 := HF2.out.cell hcs (fun e => e); have hlk := map_lookup (HC.out.pure HF2.out).map hk; rw [hks, hmd] at hlk; clear hf2 hmd) | fail)
          go_ret
          unfold ReadP
          rw [HR.out]
          exact ⟨rfl, HF2.out.mono (fun _ _ e => e.elim), fun e => by simp at e⟩
        · have hmd : decide (k ∈ st.2) = false := by simpa using hm
          have HM := Lib.hid hm
          obtain ⟨A2, d2, hsl, hw2, hA2⟩ := words_tail HW.out
          have HW2 := Lib.hid hw2
          have HA2 := Lib.hid hA2
          have HRL := Lib.hid HC.out.map.lt
          clear hm hw2 hA2
          go_upto_region 11 with (first | ((go_at_call 53); (with_reducible refine HIX.out.mono ?_); rintro e W2 ⟨rfl, hf2⟩; have HF2 := Lib.hid (HF1.out.call hf2 (fun _ h _ => h)); have HX2 := Lib.hid (HX1.out.fr hf2 (fun e => e)); have HS2 := Lib.hid (HS1.out.fr hf2 (fun e => e)); have bx := HX2.out.cell 0; have hcs2 := HF2.out.cell hcs (fun e => e); have hlk := map_lookup (HC.out.pure HF2.out).map hk; rw [hks, hmd] at hlk; obtain ⟨W3, hup, hmp3, hf3⟩ := map_update (HC.out.pure HF2.out).map hk HM.out; rw [hks] at hup; have HMP3 := Lib.hid hmp3; have HF3 := Lib.hid hf3; have HX3 := Lib.hid (HX2.out.fr hf3 (fun e => by have := HRL.out; have e : w.heap.size = r := e; omega)); have bx3 := HX3.out.cell 0; have bz3 := HX3.out.frozen 0; have bl3 := HX3.out.lt; clear hf2 hmd hmp3 hf3) | fail)
          obtain ⟨W4, hW4⟩ : ∃ W4, W4 = W3.setCell ⟨w.heap.size, 0, none⟩ (.slice A2 rest.length d2) := ⟨_, rfl⟩
          have hbr := HC.out.ne
          have HF3' := Lib.hid (show Fr (Only r) w W3 from (HF2.out.mono (fun _ _ e => e.elim)).call HF3.out (fun _ e _ => e))
          have HF4 := Lib.hid (show Fr (Only r) w W4 by rw [hW4]; exact HF3'.out.setCell (p := ⟨w.heap.size, 0, none⟩) (fun e => absurd e (Nat.lt_irrefl _)) _)
          have HX4 := Lib.hid (show Blk W4 w.heap.size 59 #[.slice A2 rest.length d2] by rw [hW4]; exact HX3.out.set 0 _)
          have HS4 := Lib.hid (show Blk W4 gs 90 setA by
            rw [hW4]
            have h1 := HRL.out
            have h2 := HGS.out
            exact (HS2.out.fr HF3.out (fun e => by have e : gs = r := e; omega)).far (by simp only; omega) _)
          have HMP4 := Lib.hid (show MapC W4 r (k :: st.2) by
            rw [hW4]
            exact HMP3.out.fr ((Fr.refl (Only w.heap.size) W3).setCell (p := ⟨w.heap.size, 0, none⟩) (fun _ => rfl) _) (fun e => by have := HRL.out; have e : r = w.heap.size := e; omega))
          have HB4 := Lib.hid (HC.out.box.fr HF4.out hbr)
          have HL4 := Lib.hid (HC.out.sl.fr HF4.out (fun g o e _ => (HC.out.off g o e).2))
          have HV4 := Lib.hid (HV.out.far HC.out.map HF4.out)
          have HW4 := Lib.hid (HW2.out.fr HF4.out (fun g o e _ => by rw [HA2.out g o e]; exact (HB.out h off rfl).2))
          rw [← hW4]
          have HNR := Lib.hid (show ∀ x ∈ rest, 0 < x.size ∧ x.size ≤ 100000 from fun x hx => HNE.out x (by simp [hx]))
          have hd2 := HW2.out.max
          have hle2 := HW2.out.le
          unfold maxLen at hd2
          have hlr : rest.length ≤ 999 := by simp at hlen; omega
          have HST := Lib.hid (show stepC st (bl (s :: rest)) = restC st k (bl rest) from stepC_key HD.out HK.out hk HM.out)
          have hbl : (bl rest).length = rest.length := by simp [bl]
          have HKW := Lib.hid (show (keysC.getD k [] == [119, 101, 105, 103, 104, 116, 115]) = decide (k = 3) from (show ∀ k, k < 7 → (keysC.getD k [] == [119, 101, 105, 103, 104, 116, 115]) = decide (k = 3) by decide) k hk)
          have HKP := Lib.hid (show (keysC.getD k [] == [112, 111, 108, 105, 99, 121]) = decide (k = 2) from (show ∀ k, k < 7 → (keysC.getD k [] == [112, 111, 108, 105, 99, 121]) = decide (k = 2) by decide) k hk)
          clear HIX HX1 HS1 HF1 hW4 HX2 HS2 bx hcs2 hlk hup HMP3 HF3 HF3' HX3 bx3 bz3 bl3 hsl hs0I hlI hnz q HD hgl hxl HF2 hcs hlen HNE hle hmx hks HK
          obtain ⟨bad, HBAD⟩ : ∃ bad, Hid (bad = (decide (rest.length = 0) || (decide (1 < rest.length) && !decide (k = 3)))) := ⟨_, Lib.hid rfl⟩
          go_cut [57] (fun cv wx => cv = .bool bad ∧ wx = W4)
          case first =>
            have bx := HX4.out.cell 0
            have hxl := HX4.out.lt
            obtain ⟨c0, _, _, _, _⟩ := set_row HS4.out hk
            unfold strV at c0
            have hgl := HS4.out.lt
            clear hbl
            by_cases h0 : rest.length = 0
            · have hB1 : bad = true := by rw [HBAD.out]; simp [h0]
              have hJ : ((rest.length : Int) == 0) = true := by simpa using h0
              subst hB1
              clear h0
              go_wp2_with fail
              go_meet
              exact ⟨rfl, rfl⟩
            · have hJ : ((rest.length : Int) == 0) = false := by simpa using h0
              by_cases h1 : rest.length = 1
              · have hB1 : bad = false := by rw [HBAD.out]; simp [h1]
                subst hB1
                have hI : ¬ (1 : Int) < rest.length := by omega
                clear h0 h1
                go_wp2_with fail
                go_meet
                exact ⟨rfl, rfl⟩
              · have hI : (1 : Int) < rest.length := by omega
                have hB1 : bad = !decide (k = 3) := by rw [HBAD.out]; simp [h0, show 1 < rest.length by omega]
                have HKW1 := HKW.out
                generalize decide (k = 3) = k3 at *
                generalize keysC.getD k [] = kw at *
                clear h0 h1
                cases k3
                · obtain rfl : bad = true := hB1
                  go_wp2_with fail
                  go_meet
                  exact ⟨rfl, rfl⟩
                · obtain rfl : bad = false := hB1
                  go_wp2_with fail
                  go_meet
                  exact ⟨rfl, rfl⟩
          case rest =>
            obtain ⟨rfl, h4⟩ := hcut
            have h4' := h4.symm
            subst h4'
            cases bad
            · have hbad : ¬ (bl rest = [] ∨ (1 < (bl rest).length ∧ k ≠ 3)) := by
                have := HBAD.out
                simp only [Bool.false_eq, Bool.or_eq_false_iff, decide_eq_false_iff_not, Bool.and_eq_false_iff, Bool.not_eq_false', decide_eq_true_eq] at this
                rintro (e | ⟨e1, e2⟩)
                · exact this.1 (by rw [← hbl, e]; rfl)
                · rw [hbl] at e1
                  rcases this.2 with q | q
                  · exact q e1
                  · exact e2 q
              have HBD := Lib.hid hbad
              have HN1 := Lib.hid (show k ≠ 3 → rest.length = 1 from fun h3 => by
                have : ¬ (bl rest).length = 0 := fun e => hbad (.inl (List.length_eq_zero_iff.1 e))
                have : ¬ 1 < (bl rest).length := fun e => hbad (.inr ⟨e, h3⟩)
                omega)
              have HBL := Lib.hid hbl
              have bx := HX4.out.cell 0
              have hxl := HX4.out.lt
              clear hbad hbl HBAD
              go_wp2_with fail
              go_loopw [9, 10, 60] (fun sv fv iv wr => ∃ (j : Nat) (A' : Option Addr) (c' : Nat) (vs : List Int), j ≤ rest.length ∧ iv = .int .i64 j ∧ sv = .slice A' j c' ∧ fv = .bool (!(vs.all (inC k))) ∧ Hid (vs.length = j) ∧ Hid (Ap W4 wr W4.heap.size 2 A' c' j (ints vs)) ∧ Hid (valsC k ((bl rest).take j) = some vs)) (fun _ _ iv _ => rest.length - (intOf iv).toNat)
              case atStart => exact ⟨0, none, 0, [], Nat.zero_le _, rfl, rfl, rfl, Lib.hid rfl, Lib.hid (Ap.start (Fr.refl _ _) (Nat.le_refl _) (Nat.le_refl _)), Lib.hid rfl⟩
              case round =>
                obtain ⟨j, A', c', vs, hj, rfl, rfl, rfl, hvl, hp, hvs⟩ := hrel
                clear bx hxl
                by_cases hlt : j < rest.length
                · have hI : (j : Int) < rest.length := by omega
                  have hI3 : 0 ≤ (j : Int) := by omega
                  obtain ⟨h2, off2, hA2e, hh2, hcx⟩ := (HW4.out.pure hp.out.fr).str_at hlt
                  subst hA2e
                  have hxs := (HNR.out rest[j] (List.getElem_mem _)).2
                  have HNU := Lib.hid (prg_number wr rest[j] hxs (HV4.out.fr hp.out.fr))
                  have HAT := Lib.hid (bl_at hlt)
                  generalize rest[j] = x at *
                  have HRW := Lib.hid (fun (W : World) (hf : Fr Nob W4 W) => set_row (HS4.out.fr hf (fun e => e)) hk)
                  unfold strV at HRW
                  have hgl := HS4.out.lt
                  have hgl2 := hp.out.fr.size
                  have HVN := Lib.hid (show valC k x.data.toList = none → stepC st (bl (s :: rest)) = (11, st) from fun e => by
                    have h9 := vals_snoc (x := x.data.toList) hvs.out
                    rw [e, ← HAT.out] at h9
                    have h8 := vals_none (r := (bl rest).drop (j + 1)) h9
                    rw [List.take_append_drop] at h8
                    rw [HST.out, restC_none h8])
                  have HVS := Lib.hid (show ∀ v, valC k x.data.toList = some v → valsC k ((bl rest).take (j + 1)) = some (vs ++ [v]) from fun v e => by
                    rw [HAT.out, vals_snoc hvs.out, e]; rfl)
                  have HKP1 := HKP.out
                  have HIN := Lib.hid (show ∀ v, inC k v = (decide (loC k ≤ v) && decide (v ≤ hiC k)) from fun _ => rfl)
                  generalize loC k = lo at *
                  generalize hiC k = hi at *
                  by_cases h2k : k = 2
                  · rw [decide_eq_true h2k] at HKP1
                    have HVC := Lib.hid (show valC k x.data.toList = if 0 ≤ polI x.data.toList then some (polI x.data.toList) else none by unfold valC; rw [if_pos h2k, pol_eq])
                    clear h2k
                    generalize (numC x.data.toList).getD 0 = n0 at HNU
                    generalize (numC x.data.toList).isSome = s0 at HNU
                    generalize keysC.getD k [] = kw at *
                    obtain ⟨v, HPV⟩ : ∃ v, Hid (polI x.data.toList = v) := ⟨_, Lib.hid rfl⟩
                    rw [HPV.out] at HVC
                    obtain ⟨c0, c1, c2, _, _⟩ := HRW.out wr hp.out.fr
                    by_cases hpos : 0 ≤ v
                    · have HVS := Lib.hid (HVS.out v (by rw [HVC.out, if_pos hpos]))
                      clear HVN HVC
                      have HFX := Lib.hid (show (!(vs ++ [v]).all (inC k)) = (!(vs.all (inC k)) || (!(decide (lo ≤ v)) || !(decide (v ≤ hi)))) by rw [List.all_append, List.all_cons, List.all_nil, HIN.out v]; cases vs.all (inC k) <;> simp [Bool.not_and])
                      generalize vs.all (inC k) = al at *
                      cases al
                      · have HF := Lib.hid (show (!(vs ++ [v]).all (inC k)) = true by rw [HFX.out]; rfl)
                        clear HFX
                        go_wp2_with (first | ((go_at_call 55); (with_reducible refine HNU.out.mono ?_); rintro e W5 ⟨rfl, hf5⟩; obtain ⟨c0, c1, c2, _, _⟩ := HRW.out W5 (hp.out.fr.call hf5 (fun _ h _ => h)); have HP4 := Lib.hid (hp.out.pure hf5); clear hf5) | ((go_at_call 46); refine (prg_policies _).mono ?_; rintro e w' ⟨rfl, rfl⟩; have HP5 := Lib.hid (HP4.out.pure ((Fr.refl Nob W5).alloc (.cells polA 9))); obtain ⟨c0, c1, c2, _, _⟩ := HRW.out _ HP5.out.fr) | ((go_at_call 56); refine (prg_Index _ _ (Blk.new_eq rfl) x.data.toList).mono ?_; rintro e w' ⟨rfl, rfl⟩; rw [HPV.out]) | (at_builtin; refine wpList_app rfl _ _ 91 rfl elemI (base := W4.heap.size) (xs := ints vs) (news := [.int .i64 v]) rfl ?own rfl ?src ?one ?h63 ?hby ?hbase ?_) | fail)
                        case own => exact HP5.out.own_al _
                        case src => exact Sl.new1 (Blk.new_eq (by first | rfl | simp)) 1 1 rfl (by decide)
                        case one => exact (by intro u hu; simp at hu; subst hu; rfl)
                        case h63 => unfold maxLen; omega
                        case hby => omega
                        case hbase => have h1 := HP5.out.hi; simp at h1 ⊢; omega
                        intro A6 c6 W6 hown hgr _
                        rw [show ints vs ++ [.int .i64 v] = ints (vs ++ [v]) from by unfold ints; simp] at hown
                        have HP6 := Lib.hid ((HP5.out.pure ((Fr.refl Nob _).alloc _)).app hown hgr)
                        clear hown hgr
                        go_wp2_with fail
                        exact ⟨⟨j + 1, A6, c6, vs ++ [v], by omega, by go_num, rfl, by first | (rw [HF.out]; done) | (rw [HF.out]; simp; omega), Lib.hid (by rw [List.length_append, hvl.out]; rfl), HP6, HVS⟩, by simp [intOf]; omega⟩
                      · by_cases hlo : v < lo
                        · have HF := Lib.hid (show (!(vs ++ [v]).all (inC k)) = true by rw [HFX.out]; simp [show ¬ lo ≤ v by omega])
                          clear HFX
                          go_wp2_with (first | ((go_at_call 55); (with_reducible refine HNU.out.mono ?_); rintro e W5 ⟨rfl, hf5⟩; obtain ⟨c0, c1, c2, _, _⟩ := HRW.out W5 (hp.out.fr.call hf5 (fun _ h _ => h)); have HP4 := Lib.hid (hp.out.pure hf5); clear hf5) | ((go_at_call 46); refine (prg_policies _).mono ?_; rintro e w' ⟨rfl, rfl⟩; have HP5 := Lib.hid (HP4.out.pure ((Fr.refl Nob W5).alloc (.cells polA 9))); obtain ⟨c0, c1, c2, _, _⟩ := HRW.out _ HP5.out.fr) | ((go_at_call 56); refine (prg_Index _ _ (Blk.new_eq rfl) x.data.toList).mono ?_; rintro e w' ⟨rfl, rfl⟩; rw [HPV.out]) | (at_builtin; refine wpList_app rfl _ _ 91 rfl elemI (base := W4.heap.size) (xs := ints vs) (news := [.int .i64 v]) rfl ?own rfl ?src ?one ?h63 ?hby ?hbase ?_) | fail)
                          case own => exact HP5.out.own_al _
                          case src => exact Sl.new1 (Blk.new_eq (by first | rfl | simp)) 1 1 rfl (by decide)
                          case one => exact (by intro u hu; simp at hu; subst hu; rfl)
                          case h63 => unfold maxLen; omega
                          case hby => omega
                          case hbase => have h1 := HP5.out.hi; simp at h1 ⊢; omega
                          intro A6 c6 W6 hown hgr _
                          rw [show ints vs ++ [.int .i64 v] = ints (vs ++ [v]) from by unfold ints; simp] at hown
                          have HP6 := Lib.hid ((HP5.out.pure ((Fr.refl Nob _).alloc _)).app hown hgr)
                          clear hown hgr
                          go_wp2_with fail
                          exact ⟨⟨j + 1, A6, c6, vs ++ [v], by omega, by go_num, rfl, by first | (rw [HF.out]; done) | (rw [HF.out]; simp; omega), Lib.hid (by rw [List.length_append, hvl.out]; rfl), HP6, HVS⟩, by simp [intOf]; omega⟩
                        · by_cases hhi : hi < v
                          · have HF := Lib.hid (show (!(vs ++ [v]).all (inC k)) = true by rw [HFX.out]; simp [show ¬ v ≤ hi by omega])
                            clear HFX
                            go_wp2_with (first | ((go_at_call 55); (with_reducible refine HNU.out.mono ?_); rintro e W5 ⟨rfl, hf5⟩; obtain ⟨c0, c1, c2, _, _⟩ := HRW.out W5 (hp.out.fr.call hf5 (fun _ h _ => h)); have HP4 := Lib.hid (hp.out.pure hf5); clear hf5) | ((go_at_call 46); refine (prg_policies _).mono ?_; rintro e w' ⟨rfl, rfl⟩; have HP5 := Lib.hid (HP4.out.pure ((Fr.refl Nob W5).alloc (.cells polA 9))); obtain ⟨c0, c1, c2, _, _⟩ := HRW.out _ HP5.out.fr) | ((go_at_call 56); refine (prg_Index _ _ (Blk.new_eq rfl) x.data.toList).mono ?_; rintro e w' ⟨rfl, rfl⟩; rw [HPV.out]) | (at_builtin; refine wpList_app rfl _ _ 91 rfl elemI (base := W4.heap.size) (xs := ints vs) (news := [.int .i64 v]) rfl ?own rfl ?src ?one ?h63 ?hby ?hbase ?_) | fail)
                            case own => exact HP5.out.own_al _
                            case src => exact Sl.new1 (Blk.new_eq (by first | rfl | simp)) 1 1 rfl (by decide)
                            case one => exact (by intro u hu; simp at hu; subst hu; rfl)
                            case h63 => unfold maxLen; omega
                            case hby => omega
                            case hbase => have h1 := HP5.out.hi; simp at h1 ⊢; omega
                            intro A6 c6 W6 hown hgr _
                            rw [show ints vs ++ [.int .i64 v] = ints (vs ++ [v]) from by unfold ints; simp] at hown
                            have HP6 := Lib.hid ((HP5.out.pure ((Fr.refl Nob _).alloc _)).app hown hgr)
                            clear hown hgr
                            go_wp2_with fail
                            exact ⟨⟨j + 1, A6, c6, vs ++ [v], by omega, by go_num, rfl, by first | (rw [HF.out]; done) | (rw [HF.out]; simp; omega), Lib.hid (by rw [List.length_append, hvl.out]; rfl), HP6, HVS⟩, by simp [intOf]; omega⟩
                          · have HF := Lib.hid (show (!(vs ++ [v]).all (inC k)) = false by rw [HFX.out]; simp [show lo ≤ v by omega, show v ≤ hi by omega])
                            clear HFX
                            go_wp2_with (first | ((go_at_call 55); (with_reducible refine HNU.out.mono ?_); rintro e W5 ⟨rfl, hf5⟩; obtain ⟨c0, c1, c2, _, _⟩ := HRW.out W5 (hp.out.fr.call hf5 (fun _ h _ => h)); have HP4 := Lib.hid (hp.out.pure hf5); clear hf5) | ((go_at_call 46); refine (prg_policies _).mono ?_; rintro e w' ⟨rfl, rfl⟩; have HP5 := Lib.hid (HP4.out.pure ((Fr.refl Nob W5).alloc (.cells polA 9))); obtain ⟨c0, c1, c2, _, _⟩ := HRW.out _ HP5.out.fr) | ((go_at_call 56); refine (prg_Index _ _ (Blk.new_eq rfl) x.data.toList).mono ?_; rintro e w' ⟨rfl, rfl⟩; rw [HPV.out]) | (at_builtin; refine wpList_app rfl _ _ 91 rfl elemI (base := W4.heap.size) (xs := ints vs) (news := [.int .i64 v]) rfl ?own rfl ?src ?one ?h63 ?hby ?hbase ?_) | fail)
                            case own => exact HP5.out.own_al _
                            case src => exact Sl.new1 (Blk.new_eq (by first | rfl | simp)) 1 1 rfl (by decide)
                            case one => exact (by intro u hu; simp at hu; subst hu; rfl)
                            case h63 => unfold maxLen; omega
                            case hby => omega
                            case hbase => have h1 := HP5.out.hi; simp at h1 ⊢; omega
                            intro A6 c6 W6 hown hgr _
                            rw [show ints vs ++ [.int .i64 v] = ints (vs ++ [v]) from by unfold ints; simp] at hown
                            have HP6 := Lib.hid ((HP5.out.pure ((Fr.refl Nob _).alloc _)).app hown hgr)
                            clear hown hgr
                            go_wp2_with fail
                            exact ⟨⟨j + 1, A6, c6, vs ++ [v], by omega, by go_num, rfl, by first | (rw [HF.out]; done) | (rw [HF.out]; simp; omega), Lib.hid (by rw [List.length_append, hvl.out]; rfl), HP6, HVS⟩, by simp [intOf]; omega⟩
                    · have HVN := Lib.hid (fun (_ : True) => HVN.out (by rw [HVC.out, if_neg hpos]))
                      have hpd : decide (0 ≤ v) = false := decide_eq_false hpos
                      have hpe : (!decide (0 ≤ v)) = true := by rw [hpd]; rfl
                      clear HVC hpos
                      go_wp2_with (first | ((go_at_call 55); (with_reducible refine HNU.out.mono ?_); rintro e W5 ⟨rfl, hf5⟩; obtain ⟨c0, c1, c2, _, _⟩ := HRW.out W5 (hp.out.fr.call hf5 (fun _ h _ => h)); have HF4' := Lib.hid (hp.out.fr.call hf5 (fun _ h _ => h)); clear hf5) | ((go_at_call 46); refine (prg_policies _).mono ?_; rintro e w' ⟨rfl, rfl⟩; have HF5 := Lib.hid (HF4'.out.alloc (.cells polA 9)); obtain ⟨c0, c1, c2, _, _⟩ := HRW.out _ HF5.out) | ((go_at_call 56); refine (prg_Index _ _ (Blk.new_eq rfl) x.data.toList).mono ?_; rintro e w' ⟨rfl, rfl⟩; rw [HPV.out]) | fail)
                      go_ret
                      unfold ReadP
                      rw [HVN.out (by first | trivial | rfl)]
                      exact ⟨rfl, (HF4.out.mono (fun _ _ e => .inr e)).call HF5.out (fun _ e _ => e.elim), fun e => by simp at e⟩
                  · rw [decide_eq_false h2k] at HKP1
                    have HVC := Lib.hid (show valC k x.data.toList = numC x.data.toList by unfold valC; rw [if_neg h2k])
                    clear h2k
                    rw [HVC.out] at HVN HVS
                    generalize numC x.data.toList = o at *
                    generalize keysC.getD k [] = kw at *
                    cases o with
                    | none =>
                      simp only [Option.getD_none, Option.isSome_none] at HNU
                      go_wp2_with (first | ((go_at_call 55); (with_reducible refine HNU.out.mono ?_); rintro e W5 ⟨rfl, hf5⟩; obtain ⟨c0, c1, c2, _, _⟩ := HRW.out W5 (hp.out.fr.call hf5 (fun _ h _ => h)); have HF5 := Lib.hid (hp.out.fr.call hf5 (fun _ h _ => h)); clear hf5) | fail)
                      go_ret
                      unfold ReadP
                      rw [HVN.out (by first | trivial | rfl)]
                      exact ⟨rfl, (HF4.out.mono (fun _ _ e => .inr e)).call HF5.out (fun _ e _ => e.elim), fun e => by simp at e⟩
                    | some v =>
                      have HVS := Lib.hid (HVS.out v rfl)
                      simp only [Option.getD_some, Option.isSome_some] at HNU
                      clear HVN HVC
                      have HFX := Lib.hid (show (!(vs ++ [v]).all (inC k)) = (!(vs.all (inC k)) || (!(decide (lo ≤ v)) || !(decide (v ≤ hi)))) by rw [List.all_append, List.all_cons, List.all_nil, HIN.out v]; cases vs.all (inC k) <;> simp [Bool.not_and])
                      generalize vs.all (inC k) = al at *
                      cases al
                      · have HF := Lib.hid (show (!(vs ++ [v]).all (inC k)) = true by rw [HFX.out]; rfl)
                        clear HFX
                        go_wp2_with (first | ((go_at_call 55); (with_reducible refine HNU.out.mono ?_); rintro e W5 ⟨rfl, hf5⟩; obtain ⟨c0, c1, c2, _, _⟩ := HRW.out W5 (hp.out.fr.call hf5 (fun _ h _ => h)); have HP5 := Lib.hid (hp.out.pure hf5); clear hf5) | (at_builtin; refine wpList_app rfl _ _ 91 rfl elemI (base := W4.heap.size) (xs := ints vs) (news := [.int .i64 v]) rfl ?own rfl ?src ?one ?h63 ?hby ?hbase ?_) | fail)
                        case own => exact HP5.out.own_al _
                        case src => exact Sl.new1 (Blk.new_eq (by first | rfl | simp)) 1 1 rfl (by decide)
                        case one => exact (by intro u hu; simp at hu; subst hu; rfl)
                        case h63 => unfold maxLen; omega
                        case hby => omega
                        case hbase => have h1 := HP5.out.hi; simp at h1 ⊢; omega
                        intro A6 c6 W6 hown hgr _
                        rw [show ints vs ++ [.int .i64 v] = ints (vs ++ [v]) from by unfold ints; simp] at hown
                        have HP6 := Lib.hid ((HP5.out.pure ((Fr.refl Nob _).alloc _)).app hown hgr)
                        clear hown hgr
                        go_wp2_with fail
                        exact ⟨⟨j + 1, A6, c6, vs ++ [v], by omega, by go_num, rfl, by first | (rw [HF.out]; done) | (rw [HF.out]; simp; omega), Lib.hid (by rw [List.length_append, hvl.out]; rfl), HP6, HVS⟩, by simp [intOf]; omega⟩
                      · by_cases hlo : v < lo
                        · have HF := Lib.hid (show (!(vs ++ [v]).all (inC k)) = true by rw [HFX.out]; simp [show ¬ lo ≤ v by omega])
                          clear HFX
                          go_wp2_with (first | ((go_at_call 55); (with_reducible refine HNU.out.mono ?_); rintro e W5 ⟨rfl, hf5⟩; obtain ⟨c0, c1, c2, _, _⟩ := HRW.out W5 (hp.out.fr.call hf5 (fun _ h _ => h)); have HP5 := Lib.hid (hp.out.pure hf5); clear hf5) | (at_builtin; refine wpList_app rfl _ _ 91 rfl elemI (base := W4.heap.size) (xs := ints vs) (news := [.int .i64 v]) rfl ?own rfl ?src ?one ?h63 ?hby ?hbase ?_) | fail)
                          case own => exact HP5.out.own_al _
                          case src => exact Sl.new1 (Blk.new_eq (by first | rfl | simp)) 1 1 rfl (by decide)
                          case one => exact (by intro u hu; simp at hu; subst hu; rfl)
                          case h63 => unfold maxLen; omega
                          case hby => omega
                          case hbase => have h1 := HP5.out.hi; simp at h1 ⊢; omega
                          intro A6 c6 W6 hown hgr _
                          rw [show ints vs ++ [.int .i64 v] = ints (vs ++ [v]) from by unfold ints; simp] at hown
                          have HP6 := Lib.hid ((HP5.out.pure ((Fr.refl Nob _).alloc _)).app hown hgr)
                          clear hown hgr
                          go_wp2_with fail
                          exact ⟨⟨j + 1, A6, c6, vs ++ [v], by omega, by go_num, rfl, by first | (rw [HF.out]; done) | (rw [HF.out]; simp; omega), Lib.hid (by rw [List.length_append, hvl.out]; rfl), HP6, HVS⟩, by simp [intOf]; omega⟩
                        · by_cases hhi : hi < v
                          · have HF := Lib.hid (show (!(vs ++ [v]).all (inC k)) = true by rw [HFX.out]; simp [show ¬ v ≤ hi by omega])
                            clear HFX
                            go_wp2_with (first | ((go_at_call 55); (with_reducible refine HNU.out.mono ?_); rintro e W5 ⟨rfl, hf5⟩; obtain ⟨c0, c1, c2, _, _⟩ := HRW.out W5 (hp.out.fr.call hf5 (fun _ h _ => h)); have HP5 := Lib.hid (hp.out.pure hf5); clear hf5) | (at_builtin; refine wpList_app rfl _ _ 91 rfl elemI (base := W4.heap.size) (xs := ints vs) (news := [.int .i64 v]) rfl ?own rfl ?src ?one ?h63 ?hby ?hbase ?_) | fail)
                            case own => exact HP5.out.own_al _
                            case src => exact Sl.new1 (Blk.new_eq (by first | rfl | simp)) 1 1 rfl (by decide)
                            case one => exact (by intro u hu; simp at hu; subst hu; rfl)
                            case h63 => unfold maxLen; omega
                            case hby => omega
                            case hbase => have h1 := HP5.out.hi; simp at h1 ⊢; omega
                            intro A6 c6 W6 hown hgr _
                            rw [show ints vs ++ [.int .i64 v] = ints (vs ++ [v]) from by unfold ints; simp] at hown
                            have HP6 := Lib.hid ((HP5.out.pure ((Fr.refl Nob _).alloc _)).app hown hgr)
                            clear hown hgr
                            go_wp2_with fail
                            exact ⟨⟨j + 1, A6, c6, vs ++ [v], by omega, by go_num, rfl, by first | (rw [HF.out]; done) | (rw [HF.out]; simp; omega), Lib.hid (by rw [List.length_append, hvl.out]; rfl), HP6, HVS⟩, by simp [intOf]; omega⟩
                          · have HF := Lib.hid (show (!(vs ++ [v]).all (inC k)) = false by rw [HFX.out]; simp [show lo ≤ v by omega, show v ≤ hi by omega])
                            clear HFX
                            go_wp2_with (first | ((go_at_call 55); (with_reducible refine HNU.out.mono ?_); rintro e W5 ⟨rfl, hf5⟩; obtain ⟨c0, c1, c2, _, _⟩ := HRW.out W5 (hp.out.fr.call hf5 (fun _ h _ => h)); have HP5 := Lib.hid (hp.out.pure hf5); clear hf5) | (at_builtin; refine wpList_app rfl _ _ 91 rfl elemI (base := W4.heap.size) (xs := ints vs) (news := [.int .i64 v]) rfl ?own rfl ?src ?one ?h63 ?hby ?hbase ?_) | fail)
                            case own => exact HP5.out.own_al _
                            case src => exact Sl.new1 (Blk.new_eq (by first | rfl | simp)) 1 1 rfl (by decide)
                            case one => exact (by intro u hu; simp at hu; subst hu; rfl)
                            case h63 => unfold maxLen; omega
                            case hby => omega
                            case hbase => have h1 := HP5.out.hi; simp at h1 ⊢; omega
                            intro A6 c6 W6 hown hgr _
                            rw [show ints vs ++ [.int .i64 v] = ints (vs ++ [v]) from by unfold ints; simp] at hown
                            have HP6 := Lib.hid ((HP5.out.pure ((Fr.refl Nob _).alloc _)).app hown hgr)
                            clear hown hgr
                            go_wp2_with fail
                            exact ⟨⟨j + 1, A6, c6, vs ++ [v], by omega, by go_num, rfl, by first | (rw [HF.out]; done) | (rw [HF.out]; simp; omega), Lib.hid (by rw [List.length_append, hvl.out]; rfl), HP6, HVS⟩, by simp [intOf]; omega⟩
                · have hI : ¬ (j : Int) < rest.length := by omega
                  obtain rfl : j = rest.length := by omega
                  have HVS := Lib.hid (show valsC k (bl rest) = some vs by have := hvs.out; rwa [List.take_of_length_le (by rw [HBL.out]; exact Nat.le_refl _)] at this)
                  cases hal : vs.all (inC k)
                  · have HR := Lib.hid (show stepC st (bl (s :: rest)) = (33, st) by rw [HST.out, restC_far HBD.out HVS.out hal])
                    clear hal
                    go_wp2_with fail
                    go_ret
                    unfold ReadP
                    rw [HR.out]
                    exact ⟨rfl, (HF4.out.mono (fun _ _ e => .inr e)).call hp.out.fr (fun _ e _ => e.elim), fun e => by simp at e⟩
                  · have HR := Lib.hid (show stepC st (bl (s :: rest)) = (0, (setC st.1 k vs, k :: st.2)) by rw [HST.out, restC_ok HBD.out HVS.out hal])
                    clear hal
                    have hbw : b < w.heap.size := HC.out.box.lt
                    have HT := Lib.hid (take_all wr st.1 A A' b cap c' k vs hk (fun h3 => List.length_eq_one_iff.1 (by rw [hvl.out]; exact HN1.out h3)) (fun h3 => HC.out.nil (by rw [← h3]; exact HM.out)) (HB4.out.fr hp.out.fr (fun e => e)) (HL4.out.pure hp.out.fr) (by rw [hvl.out]; exact hp.out.sl) (fun g o e => (HC.out.off g o e).1) (fun g o e q => by
                      have := own_addr hp.out.own g o e
                      have := HF4.out.size
                      omega) (by rw [hvl.out]; omega))
                    rw [hvl.out] at HT
                    obtain ⟨_, _, _, c3, _⟩ := set_row (HS4.out.fr hp.out.fr (fun e => e)) hk
                    have hgl := (HS4.out.fr hp.out.fr (fun e => e)).lt
                    have HEND := Lib.hid (fun (W7 : World) (A7 : Option Addr) (c7 : Nat) (hb7 : Blk W7 b 43 (cfA (setC st.1 k vs) A7 c7)) (hs7 : Sl W7 1 A7 (setC st.1 k vs).weights.length c7 (ints (setC st.1 k vs).weights)) (ho7 : ∀ g o, A7 = some ⟨g, o, none⟩ → A7 = A ∨ wr.heap.size ≤ g) (hk7 : k ≠ 3 → A7 = A ∧ c7 = cap ∧ (setC st.1 k vs).weights = st.1.weights) (hf7 : Fr (Only b) wr W7) =>
                      (show ReadP w b r st A (bl (s :: rest)) (.returned (.int .i64 0)) W7 by
                        unfold ReadP
                        rw [HR.out]
                        refine ⟨rfl, ((HF4.out.mono (fun _ _ e => .inr e)).call hp.out.fr (fun _ e _ => e.elim)).call hf7 (fun _ e _ => .inl e), fun _ => ⟨A7, c7, ⟨hb7, hs7, fun h3 => ?_, (HMP4.out.fr hp.out.fr (fun e => e)).fr hf7 (fun e => hbr (show r = b from e).symm), fun g o e => ?_⟩, fun g o e => (ho7 g o e).imp id (fun q => by have h1 := hp.out.fr.size; have h2 := HF4.out.size; omega)⟩⟩
                        · have h3k : k ≠ 3 := fun e => h3 (by rw [e]; exact List.mem_cons_self)
                          obtain ⟨e1, e2, e3⟩ := hk7 h3k
                          obtain ⟨f1, f2, f3⟩ := HC.out.nil (fun e => h3 (List.mem_cons_of_mem _ e))
                          exact ⟨e1.trans f1, e2.trans f2, e3.trans f3⟩
                        · rcases ho7 g o e with q | q
                          · exact HC.out.off g o (by rw [← q]; exact e)
                          · have h1 := hp.out.fr.size
                            have h2 := HF4.out.size
                            have h3 := HRL.out
                            exact ⟨by omega, by omega⟩))
                    have a : k = 0 ∨ k = 1 ∨ k = 2 ∨ k = 3 ∨ k = 4 ∨ k = 5 ∨ k = 6 := by omega
                    clear HC HV HB HW HS4 HMP4 HB4 HL4 HV4 HNR HST HM HKW HKP HF4
                    rcases a with rfl | rfl | rfl | rfl | rfl | rfl | rfl
                    · have HT2 := HT.out
                      change Calls Tryd.prog 62 _ _ _ at HT2
                      have HT2 := Lib.hid HT2
                      have c3 : wr.cell? ⟨gs, 3, none⟩ = some (.func (.func 62) #[] #[]) := c3
                      clear HT
                      go_wp2_with (refine HT2.out.mono ?_; rintro e W7 ⟨rfl, A7, c7, hb7, hs7, ho7, hk7, hf7⟩; have HE := Lib.hid (HEND.out W7 A7 c7 hb7 hs7 ho7 hk7 hf7); clear hb7 hs7 ho7 hk7 hf7)
                      go_ret
                      exact HE.out
                    · have HT2 := HT.out
                      change Calls Tryd.prog 64 _ _ _ at HT2
                      have HT2 := Lib.hid HT2
                      have c3 : wr.cell? ⟨gs, 8, none⟩ = some (.func (.func 64) #[] #[]) := c3
                      clear HT
                      go_wp2_with (refine HT2.out.mono ?_; rintro e W7 ⟨rfl, A7, c7, hb7, hs7, ho7, hk7, hf7⟩; have HE := Lib.hid (HEND.out W7 A7 c7 hb7 hs7 ho7 hk7 hf7); clear hb7 hs7 ho7 hk7 hf7)
                      go_ret
                      exact HE.out
                    · have HT2 := HT.out
                      change Calls Tryd.prog 66 _ _ _ at HT2
                      have HT2 := Lib.hid HT2
                      have c3 : wr.cell? ⟨gs, 13, none⟩ = some (.func (.func 66) #[] #[]) := c3
                      clear HT
                      go_wp2_with (refine HT2.out.mono ?_; rintro e W7 ⟨rfl, A7, c7, hb7, hs7, ho7, hk7, hf7⟩; have HE := Lib.hid (HEND.out W7 A7 c7 hb7 hs7 ho7 hk7 hf7); clear hb7 hs7 ho7 hk7 hf7)
                      go_ret
                      exact HE.out
                    · have HT2 := HT.out
                      change Calls Tryd.prog 69 _ _ _ at HT2
                      have HT2 := Lib.hid HT2
                      have c3 : wr.cell? ⟨gs, 18, none⟩ = some (.func (.func 69) #[] #[]) := c3
                      clear HT
                      go_wp2_with (refine HT2.out.mono ?_; rintro e W7 ⟨rfl, A7, c7, hb7, hs7, ho7, hk7, hf7⟩; have HE := Lib.hid (HEND.out W7 A7 c7 hb7 hs7 ho7 hk7 hf7); clear hb7 hs7 ho7 hk7 hf7)
                      go_ret
                      exact HE.out
                    · have HT2 := HT.out
                      change Calls Tryd.prog 71 _ _ _ at HT2
                      have HT2 := Lib.hid HT2
                      have c3 : wr.cell? ⟨gs, 23, none⟩ = some (.func (.func 71) #[] #[]) := c3
                      clear HT
                      go_wp2_with (refine HT2.out.mono ?_; rintro e W7 ⟨rfl, A7, c7, hb7, hs7, ho7, hk7, hf7⟩; have HE := Lib.hid (HEND.out W7 A7 c7 hb7 hs7 ho7 hk7 hf7); clear hb7 hs7 ho7 hk7 hf7)
                      go_ret
                      exact HE.out
                    · have HT2 := HT.out
                      change Calls Tryd.prog 73 _ _ _ at HT2
                      have HT2 := Lib.hid HT2
                      have c3 : wr.cell? ⟨gs, 28, none⟩ = some (.func (.func 73) #[] #[]) := c3
                      clear HT
                      go_wp2_with (refine HT2.out.mono ?_; rintro e W7 ⟨rfl, A7, c7, hb7, hs7, ho7, hk7, hf7⟩; have HE := Lib.hid (HEND.out W7 A7 c7 hb7 hs7 ho7 hk7 hf7); clear hb7 hs7 ho7 hk7 hf7)
                      go_ret
                      exact HE.out
                    · have HT2 := HT.out
                      change Calls Tryd.prog 75 _ _ _ at HT2
                      have HT2 := Lib.hid HT2
                      have c3 : wr.cell? ⟨gs, 33, none⟩ = some (.func (.func 75) #[] #[]) := c3
                      clear HT
                      go_wp2_with (refine HT2.out.mono ?_; rintro e W7 ⟨rfl, A7, c7, hb7, hs7, ho7, hk7, hf7⟩; have HE := Lib.hid (HEND.out W7 A7 c7 hb7 hs7 ho7 hk7 hf7); clear hb7 hs7 ho7 hk7 hf7)
                      go_ret
                      exact HE.out
            · have HR := Lib.hid (show stepC st (bl (s :: rest)) = (11, st) by
                rw [HST.out, restC_bad]
                have := HBAD.out
                simp only [Bool.true_eq, Bool.or_eq_true, decide_eq_true_eq, Bool.and_eq_true, Bool.not_eq_true', decide_eq_false_iff_not] at this
                rcases this with h0 | ⟨h0, h1⟩
                · exact .inl (List.length_eq_zero_iff.1 (by omega))
                · exact .inr ⟨by omega, h1⟩)
              go_wp2_with fail
              go_ret
              unfold ReadP
              rw [HR.out]
              exact ⟨rfl, HF4.out.mono (fun _ _ e => .inr e), fun e => by simp at e⟩
end Go.Proofs.YtoegdmpmagbaiaaDoor
