/- The token that a text begins with: the program's walk. -/
import Derived.Test.YtfebkjoohnlifaaDoorTsign
namespace Go.Proofs.YtfebkjoohnlifaaDoor
open Go.RowKit Go.Shelf

theorem cut_to (s : ByteArray) (k : Nat) : s.extract 0 k = ⟨(s.data.toList.take k).toArray⟩ := by
  apply ByteArray.ext
  rw [ByteArray.data_extract]
  apply Array.ext'
  simp
theorem cut_from (s : ByteArray) (k : Nat) : s.extract k s.size = ⟨(s.data.toList.drop k).toArray⟩ := by
  apply ByteArray.ext
  rw [ByteArray.data_extract]
  apply Array.ext'
  simp [List.take_of_length_le]

/-- A token as a value, but for its place. -/
def tkv (t : TK) (place : Int) : Array Value := #[.int .i64 t.kind, .string ⟨t.text.toArray⟩, .int .i64 t.num, .int .i64 place]
def tk0 : TK := ⟨0, [], 0⟩
theorem next_word {s : ByteArray} (h1 : 1 ≤ s.size) (hs : smallB s[0] = true) {k : Nat} (hk : 1 ≤ k) (hl : ((s.data.toList.drop 1).takeWhile wordB).length = k - 1) : nextT s.data.toList = if 12 < k then (21, tk0) else (0, ⟨1, s.data.toList.take k, 0⟩) := by
  have hc := list_cons s h1
  have e : k - 1 + 1 = k := by omega
  generalize s.data.toList = l at *
  rw [hc]
  rw [hc] at hl
  simp only [List.drop_succ_cons, List.drop_zero] at hl
  simp only [nextT, hs, if_true, hl, e]
  rfl
theorem next_num {s : ByteArray} (h1 : 1 ≤ s.size) (hs : smallB s[0] = false) (hn : 0 < numLen s.data.toList) : nextT s.data.toList = if (numVal (s.data.toList.take (numLen s.data.toList))).1 = 0 then (0, ⟨2, s.data.toList.take (numLen s.data.toList), (numVal (s.data.toList.take (numLen s.data.toList))).2⟩) else ((numVal (s.data.toList.take (numLen s.data.toList))).1, tk0) := by
  have hc := list_cons s h1
  generalize s.data.toList = l at *
  rw [hc] at hn ⊢
  simp only [nextT, hs, Bool.false_eq_true, if_false, if_pos hn]
  rfl
theorem next_sign {s : ByteArray} (h1 : 1 ≤ s.size) (hs : smallB s[0] = false) (hn : numLen s.data.toList = 0) : nextT s.data.toList = if 0 < signLen s.data.toList then (0, ⟨3, s.data.toList.take (signLen s.data.toList), 0⟩) else (20, tk0) := by
  have hc := list_cons s h1
  generalize s.data.toList = l at *
  rw [hc] at hn ⊢
  simp only [nextT, hs, Bool.false_eq_true, if_false, hn, Nat.lt_irrefl]
  rfl

set_option maxRecDepth 100000 in
set_option maxHeartbeats 4000000 in
theorem tok_next_word (w : World) (s : ByteArray) (h1 : 1 ≤ s.size) (hs : s.size ≤ 100000) (hsm : smallB s[0] = true) :
    Calls Tryd.prog 75 #[.string s] w fun e w' => e = .returned (.tuple #[.agg (tkv (nextT s.data.toList).2 0), .int .i64 (nextT s.data.toList).1]) ∧ Fr Nob w w' := by
  have HSM := Lib.hid hsm
  have HS := Lib.hid (fun W => tok_small W s[0])
  rw [hsm] at HS
  clear hsm
  have h1I : (0 : Int) < s.size := by omega
  go_enter Tryd.func75, Tryd.ntmps75
  go_wp2_with ((go_at_call 126); refine (HS.out _).mono ?_; rintro e w' ⟨rfl, rfl⟩)
  go_loop [4] (fun i => ∃ k : Nat, 1 ≤ k ∧ k ≤ s.size ∧ i = .int .i64 k ∧ Hid (Runs wordB s 1 k)) (fun i => s.size - (intOf i).toNat)
  case atStart => exact ⟨1, Nat.le_refl _, h1, rfl, Lib.hid (Runs.start _ _ _)⟩
  case round =>
    obtain ⟨k, hk0, hk, rfl, hd⟩ := hrel
    by_cases hlt : k < s.size
    · have hI : (k : Int) < s.size := by omega
      have HD1 := Lib.hid (fun W => tok_small W s[k])
      have HD2 := Lib.hid (fun W => tok_digit W s[k])
      have HN := Lib.hid (fun h => hd.out.next hlt h)
      have HE := Lib.hid (fun (h : wordB s[k] = false) => hd.out.len hk0 hk (fun _ => h))
      have HW := Lib.hid (show wordB s[k] = (smallB s[k] || digB s[k] || s[k] == 95) from rfl)
      have HB := Lib.hid (show ((s[k].toNat : Int) == 95) = (s[k] == 95) by
        rw [Bool.eq_iff_iff, beq_iff_eq, beq_iff_eq, ← UInt8.toNat_inj, show (95 : UInt8).toNat = 95 from rfl]; omega)
      generalize smallB s[k] = b1 at *
      generalize digB s[k] = b2 at *
      generalize hb3 : (s[k] == 95) = b3 at HW HB
      have hb := HB.out
      clear HB hb3
      cases b1
      · cases b2
        · cases b3
          · have HF := Lib.hid (HE.out (by rw [HW.out]; rfl))
            clear HE HN HW
            have HL := Lib.hid (next_word h1 HSM.out hk0 HF.out)
            by_cases h12 : 12 < k
            · have hI12 : (12 : Int) < k := by omega
              have HR := Lib.hid (HL.out.trans (if_pos h12))
              clear h12
              go_wp2_with (first | ((go_at_call 126); refine (HD1.out _).mono ?_; rintro e w' ⟨rfl, rfl⟩) | ((go_at_call 127); refine (HD2.out _).mono ?_; rintro e w' ⟨rfl, rfl⟩))
              refine bodyPost_ret (v := .tuple #[.agg (tkv tk0 0), .int .i64 21]) (by simp [results, Tryd.results75, go_sem]; rfl) rfl ⟨?_, ?_⟩
              · rw [HR.out]
              · exact (Fr.refl Nob w).alloc _
            · have hI12 : ¬ (12 : Int) < k := by omega
              have HR := Lib.hid (HL.out.trans (if_neg h12))
              clear h12
              go_wp2_with (first | ((go_at_call 126); refine (HD1.out _).mono ?_; rintro e w' ⟨rfl, rfl⟩) | ((go_at_call 127); refine (HD2.out _).mono ?_; rintro e w' ⟨rfl, rfl⟩))
              refine bodyPost_ret (v := .tuple #[.agg (tkv ⟨1, s.data.toList.take k, 0⟩ 0), .int .i64 0]) (by simp [results, Tryd.results75, go_sem, tkv, cut_to]) rfl ⟨?_, ?_⟩
              · rw [HR.out]
              · exact (Fr.refl Nob w).alloc _
          · have HF := Lib.hid (HN.out (by rw [HW.out]; rfl))
            clear HE HN HW
            go_wp2_with (first | ((go_at_call 126); refine (HD1.out _).mono ?_; rintro e w' ⟨rfl, rfl⟩) | ((go_at_call 127); refine (HD2.out _).mono ?_; rintro e w' ⟨rfl, rfl⟩))
            go_round
            case rel => exact ⟨k + 1, by omega, by omega, by go_num, HF⟩
            case measure => simp [intOf]; omega
        · have HF := Lib.hid (HN.out (by rw [HW.out]; rfl))
          clear HE HN HW
          go_wp2_with (first | ((go_at_call 126); refine (HD1.out _).mono ?_; rintro e w' ⟨rfl, rfl⟩) | ((go_at_call 127); refine (HD2.out _).mono ?_; rintro e w' ⟨rfl, rfl⟩))
          go_round
          case rel => exact ⟨k + 1, by omega, by omega, by go_num, HF⟩
          case measure => simp [intOf]; omega
      · have HF := Lib.hid (HN.out (by rw [HW.out]; rfl))
        clear HE HN HW
        go_wp2_with (first | ((go_at_call 126); refine (HD1.out _).mono ?_; rintro e w' ⟨rfl, rfl⟩) | ((go_at_call 127); refine (HD2.out _).mono ?_; rintro e w' ⟨rfl, rfl⟩))
        go_round
        case rel => exact ⟨k + 1, by omega, by omega, by go_num, HF⟩
        case measure => simp [intOf]; omega
    · have hI : ¬ (k : Int) < s.size := by omega
      have HF := Lib.hid (hd.out.len hk0 hk (fun h => absurd h hlt))
      clear hlt
      have HL := Lib.hid (next_word h1 HSM.out hk0 HF.out)
      by_cases h12 : 12 < k
      · have hI12 : (12 : Int) < k := by omega
        have HR := Lib.hid (HL.out.trans (if_pos h12))
        clear h12
        go_wp2_with fail
        refine bodyPost_ret (v := .tuple #[.agg (tkv tk0 0), .int .i64 21]) (by simp [results, Tryd.results75, go_sem]; rfl) rfl ⟨?_, ?_⟩
        · rw [HR.out]
        · exact (Fr.refl Nob w).alloc _
      · have hI12 : ¬ (12 : Int) < k := by omega
        have HR := Lib.hid (HL.out.trans (if_neg h12))
        clear h12
        go_wp2_with fail
        refine bodyPost_ret (v := .tuple #[.agg (tkv ⟨1, s.data.toList.take k, 0⟩ 0), .int .i64 0]) (by simp [results, Tryd.results75, go_sem, tkv, cut_to]) rfl ⟨?_, ?_⟩
        · rw [HR.out]
        · exact (Fr.refl Nob w).alloc _

theorem takeWhile_take {α : Type} (p : α → Bool) : ∀ l : List α, l.take (l.takeWhile p).length = l.takeWhile p
  | [] => rfl
  | a :: r => by
    rw [List.takeWhile_cons]
    by_cases h : p a = true
    · rw [if_pos h, List.length_cons, List.take_succ_cons, takeWhile_take p r]
    · rw [if_neg h]; rfl
theorem takeWhile_all {α : Type} (p : α → Bool) (l : List α) : ∀ x ∈ l.takeWhile p, p x = true := fun x hx => by
  have := List.all_takeWhile (l := l) (p := p)
  rw [List.all_eq_true] at this
  exact this x hx
theorem numLen_le : ∀ l : List UInt8, numLen l ≤ l.length
  | [] => Nat.le_refl _
  | c :: r => by
    have h1 := (List.takeWhile_prefix digB (l := r)).length_le
    have h2 := (List.takeWhile_prefix digB (l := c :: r)).length_le
    by_cases hc : c = 45
    · subst hc
      rw [numLen_45]
      split
      · exact Nat.zero_le _
      · rw [List.length_cons]; omega
    · rw [numLen_no hc]; exact h2
theorem numLen_num {l : List UInt8} (h : 0 < numLen l) : ∃ neg d, IsNum neg (l.take (numLen l)) d := by
  cases l with
  | nil => simp [numLen] at h
  | cons c r =>
    by_cases hc : c = 45
    · subst hc
      rw [numLen_45] at h ⊢
      by_cases h0 : (r.takeWhile digB).length = 0
      · rw [if_pos h0] at h; omega
      · rw [if_neg h0, List.take_succ_cons, takeWhile_take]
        exact ⟨true, r.takeWhile digB, rfl, fun e => h0 (by rw [e]; rfl), takeWhile_all _ _⟩
    · rw [numLen_no hc] at h ⊢
      rw [takeWhile_take]
      refine ⟨false, (c :: r).takeWhile digB, rfl, ?_, takeWhile_all _ _⟩
      intro e
      rw [e] at h
      simp at h
theorem signLen_le {l : List UInt8} (h : l ≠ []) : signLen l ≤ l.length := by
  unfold signLen
  by_cases h3 : l.take 3 = [60, 45, 62]
  · rw [if_pos h3]
    have := congrArg List.length h3
    simp at this; omega
  · rw [if_neg h3]
    by_cases h2 : l.take 2 ∈ sgn2
    · rw [if_pos h2]
      have hl : (l.take 2).length = 2 := by revert h2; generalize l.take 2 = q; revert q; decide +kernel
      simp at hl; omega
    · rw [if_neg h2]
      cases l with
      | nil => exact absurd rfl h
      | cons c r => simp only [List.length_cons]; split <;> omega

theorem fr_put4 {w w' : World} {o : Obj} {x0 x1 x2 x3 : Value} (hf : Fr Nob (w.alloc o) w') : Fr Nob w ((((w'.setCell ⟨w.heap.size, 0, none⟩ x0).setCell ⟨w.heap.size, 1, none⟩ x1).setCell ⟨w.heap.size, 2, none⟩ x2).setCell ⟨w.heap.size, 3, none⟩ x3) :=
  (((((((Fr.refl Nob w).alloc o).call hf (fun _ h _ => h)).setCell (p := ⟨w.heap.size, 0, none⟩) (fun h => absurd h (Nat.lt_irrefl _)) x0).setCell (p := ⟨w.heap.size, 1, none⟩) (fun h => absurd h (Nat.lt_irrefl _)) x1).setCell (p := ⟨w.heap.size, 2, none⟩) (fun h => absurd h (Nat.lt_irrefl _)) x2).setCell (p := ⟨w.heap.size, 3, none⟩) (fun h => absurd h (Nat.lt_irrefl _)) x3)

set_option maxRecDepth 100000 in
set_option maxHeartbeats 4000000 in
theorem tok_next_other (w : World) (s : ByteArray) (h1 : 1 ≤ s.size) (hs : s.size ≤ 100000) (hv : ErrVar w) (hsm : smallB s[0] = false) :
    Calls Tryd.prog 75 #[.string s] w fun e w' => e = .returned (.tuple #[.agg (tkv (nextT s.data.toList).2 0), .int .i64 (nextT s.data.toList).1]) ∧ Fr Nob w w' := by
  have HSM := Lib.hid hsm
  have HS := Lib.hid (fun W => tok_small W s[0])
  rw [hsm] at HS
  have HV := Lib.hid hv
  clear hsm hv
  have HN := Lib.hid (fun W => tok_number W s h1 (by omega))
  have HG := Lib.hid (fun W => tok_sign W s h1 (by omega))
  have h1I : (0 : Int) < s.size := by omega
  have HL0 := Lib.hid (next_num h1 HSM.out)
  have HL1 := Lib.hid (next_sign h1 HSM.out)
  have hnl := numLen_le s.data.toList
  have hsl := signLen_le (l := s.data.toList) (by intro e; have h := ba_len s; rw [e, List.length_nil] at h; omega)
  rw [ba_len] at hnl hsl
  by_cases hn : 0 < numLen s.data.toList
  · obtain ⟨neg, d, hd⟩ := numLen_num hn
    have HR := Lib.hid (HL0.out hn)
    have HC := Lib.hid (Lib.extract_data s 0 (numLen s.data.toList))
    have HE := Lib.hid (cut_to s (numLen s.data.toList))
    rw [List.drop_zero, Nat.sub_zero] at HC
    have HVAL := Lib.hid (fun W hw => tok_value W (s.extract 0 (numLen s.data.toList)) neg d (by rw [HC.out]; exact hd) (by rw [ByteArray.size_extract]; omega) hw)
    rw [HC.out] at HVAL
    clear hd HC HG HL1 HL0 hsl
    have hnI : (0 : Int) < (numLen s.data.toList : Int) := by omega
    generalize numLen s.data.toList = n at *
    generalize numVal (s.data.toList.take n) = p at *
    obtain ⟨pe, pv⟩ := p
    have HTK := Lib.hid (show ∀ e0 : Int, e0 = pe → True from fun _ _ => trivial)
    by_cases h0 : pe = 0
    · have HR2 := Lib.hid (HR.out.trans (if_pos h0))
      subst h0
      clear HR HTK
      go_enter Tryd.func75, Tryd.ntmps75
      go_wp2_with (first | ((go_at_call 126); refine (HS.out _).mono ?_; rintro e w' ⟨rfl, rfl⟩) | ((go_at_call 128); refine (HN.out _).mono ?_; rintro e w' ⟨rfl, rfl⟩) | ((go_at_call 129); refine (HVAL.out _ (HV.out.fr ((Fr.refl Nob w).alloc _))).mono ?_; rintro e w' ⟨rfl, hf⟩; have hb := Lib.hid ((Blk.new w 90 #[.int .i64 0, .string ⟨#[]⟩, .int .i64 0, .int .i64 0]).fr hf (fun e => e)); have hbc := hb.out.cell; have hbf := hb.out.frozen))
      refine bodyPost_ret (v := .tuple #[.agg (tkv ⟨2, s.data.toList.take n, pv⟩ 0), .int .i64 0]) (by simp [results, Tryd.results75, go_sem, tkv, hbc, HE.out]) rfl ⟨?_, ?_⟩
      · rw [HR2.out]
      · exact fr_put4 hf
    · have HR2 := Lib.hid (HR.out.trans (if_neg h0))
      have h0' : (pe != 0) = true := by simpa using h0
      clear HR HTK h0
      go_enter Tryd.func75, Tryd.ntmps75
      go_wp2_with (first | ((go_at_call 126); refine (HS.out _).mono ?_; rintro e w' ⟨rfl, rfl⟩) | ((go_at_call 128); refine (HN.out _).mono ?_; rintro e w' ⟨rfl, rfl⟩) | ((go_at_call 129); refine (HVAL.out _ (HV.out.fr ((Fr.refl Nob w).alloc _))).mono ?_; rintro e w' ⟨rfl, hf⟩; have hb := Lib.hid ((Blk.new w 90 #[.int .i64 0, .string ⟨#[]⟩, .int .i64 0, .int .i64 0]).fr hf (fun e => e)); have hbc := hb.out.cell; have hbf := hb.out.frozen))
      refine bodyPost_ret (v := .tuple #[.agg (tkv tk0 0), .int .i64 pe]) (by simp [results, Tryd.results75, go_sem, hbc]; rfl) rfl ⟨?_, ?_⟩
      · rw [HR2.out]
      · exact fr_put4 hf
  · have hn0 : numLen s.data.toList = 0 := by omega
    have HR := Lib.hid (HL1.out hn0)
    rw [hn0] at HN
    have HE := Lib.hid (cut_to s (signLen s.data.toList))
    clear hn hn0 HL0 HL1 hnl
    by_cases h0 : 0 < signLen s.data.toList
    · have HR2 := Lib.hid (HR.out.trans (if_pos h0))
      have h0I : (0 : Int) < (signLen s.data.toList : Int) := by omega
      clear HR
      generalize signLen s.data.toList = n at *
      go_enter Tryd.func75, Tryd.ntmps75
      go_wp2_with (first | ((go_at_call 126); refine (HS.out _).mono ?_; rintro e w' ⟨rfl, rfl⟩) | ((go_at_call 128); refine (HN.out _).mono ?_; rintro e w' ⟨rfl, rfl⟩) | ((go_at_call 130); refine (HG.out _).mono ?_; rintro e w' ⟨rfl, rfl⟩))
      refine bodyPost_ret (v := .tuple #[.agg (tkv ⟨3, s.data.toList.take n, 0⟩ 0), .int .i64 0]) (by simp [results, Tryd.results75, go_sem, tkv, HE.out]) rfl ⟨?_, ?_⟩
      · rw [HR2.out]
      · exact (Fr.refl Nob w).alloc _
    · have HR2 := Lib.hid (HR.out.trans (if_neg h0))
      have h0I : ((signLen s.data.toList : Nat) : Int) ≤ 0 := by omega
      clear HR h0
      generalize signLen s.data.toList = n at *
      go_enter Tryd.func75, Tryd.ntmps75
      go_wp2_with (first | ((go_at_call 126); refine (HS.out _).mono ?_; rintro e w' ⟨rfl, rfl⟩) | ((go_at_call 128); refine (HN.out _).mono ?_; rintro e w' ⟨rfl, rfl⟩) | ((go_at_call 130); refine (HG.out _).mono ?_; rintro e w' ⟨rfl, rfl⟩))
      refine bodyPost_ret (v := .tuple #[.agg (tkv tk0 0), .int .i64 20]) (by simp [results, Tryd.results75, go_sem]; rfl) rfl ⟨?_, ?_⟩
      · rw [HR2.out]
      · exact (Fr.refl Nob w).alloc _
theorem tok_next (w : World) (s : ByteArray) (h1 : 1 ≤ s.size) (hs : s.size ≤ 100000) (hv : ErrVar w) :
    Calls Tryd.prog 75 #[.string s] w fun e w' => e = .returned (.tuple #[.agg (tkv (nextT s.data.toList).2 0), .int .i64 (nextT s.data.toList).1]) ∧ Fr Nob w w' := by
  cases h : smallB s[0]
  · exact tok_next_other w s h1 hs hv h
  · exact tok_next_word w s h1 hs h
end Go.Proofs.YtfebkjoohnlifaaDoor
