/- The reference's tokens: small walks; plain laws. -/
import Derived.Test.YtfebkjoohnlifaaDoorTread
namespace Go.Proofs.YtfebkjoohnlifaaDoor
open Go.RowKit Go.Shelf

theorem ref_Blank (w : World) (c : UInt8) : Calls Tryd.prog 78 #[.int .u8 (c.toNat : Int)] w fun e w' => e = .returned (.bool (blankB c)) ∧ w = w' := by
  by_cases hb : blankB c = true
  · have H := Lib.hid hb
    rw [blank_iff] at hb
    rcases hb with hb | hb | hb
    · have e := u8_eq (n := 32) hb rfl
      clear hb
      go_enter Tryd.func78, Tryd.ntmps78
      go_wp2
      go_ret
      exact ⟨ret1b H.out.symm, rfl⟩
    · have e := u8_eq (n := 9) hb rfl
      clear hb
      go_enter Tryd.func78, Tryd.ntmps78
      go_wp2
      go_ret
      exact ⟨ret1b H.out.symm, rfl⟩
    · have e := u8_eq (n := 10) hb rfl
      clear hb
      go_enter Tryd.func78, Tryd.ntmps78
      go_wp2
      go_ret
      exact ⟨ret1b H.out.symm, rfl⟩
  · have H := Lib.hid (show blankB c = false by simpa using hb)
    rw [blank_iff, not_or, not_or] at hb
    have n1 := u8_ne (n := 32) hb.1 rfl
    have n2 := u8_ne (n := 9) hb.2.1 rfl
    have n3 := u8_ne (n := 10) hb.2.2 rfl
    clear hb
    go_enter Tryd.func78, Tryd.ntmps78
    go_wp2
    go_ret
    exact ⟨ret1b H.out.symm, rfl⟩

theorem ddec_take {l : List UInt8} {k : Nat} (hk : k < l.length) : ddec 0 (l.take (k + 1)) = dstep (ddec 0 (l.take k)) l[k] := by
  rw [List.take_succ_eq_append_getElem hk, ddec_snoc]
theorem ddec_mono {l : List UInt8} (k : Nat) : ddec 0 (l.take k) ≤ ddec 0 l := by
  have h := ddec_ge (l.drop k) (ddec 0 (l.take k))
  have e : ddec (ddec 0 (l.take k)) (l.drop k) = ddec 0 l := by
    unfold ddec
    rw [← List.foldl_append, List.take_append_drop]
  omega
def valOf (o : Option Int) : Value := match o with
  | some v => .tuple #[.int .i64 v, .bool true]
  | none => .tuple #[.int .i64 0, .bool false]

theorem neg_back {a : Int} (h0 : 0 ≤ a) (h1 : a ≤ 9223372036854775808) : wrap64 (wrap64 (-wrap64 (IntKind.u64.wrap (a - 1))) - 1) = -a := by
  rw [IntKind.wrap_u64]
  unfold wrap64
  omega

theorem valB_f_none {n : Nat} (h : 9223372036854775807 < (n : Int)) : valB false n = none := by unfold valB; simp only [Bool.false_eq_true, if_false]; rw [if_neg (by omega)]
theorem valB_t_none {n : Nat} (h : 9223372036854775808 < (n : Int)) : valB true n = none := by unfold valB; simp only [if_true]; rw [if_neg (by omega)]
theorem valB_f_some {n : Nat} {a : Int} (h : a = (n : Int)) (h2 : a ≤ 9223372036854775807) : valB false n = some a := by unfold valB; simp only [Bool.false_eq_true, if_false]; rw [if_pos (by omega), h]
theorem valB_t_some {n : Nat} {a : Int} (h : a = (n : Int)) (h2 : a ≤ 9223372036854775808) : valB true n = some (-a) := by unfold valB; simp only [if_true]; rw [if_pos (by omega), h]
set_option maxRecDepth 100000 in
set_option maxHeartbeats 4000000 in
theorem ref_value (w : World) (s : ByteArray) (b : Bool) (hd : ∀ c ∈ s.data.toList, digB c = true) (hs : s.size ≤ 100000) :
    Calls Tryd.prog 137 #[.string s, .bool b] w fun e w' => e = .returned (valOf (valB b (ddec 0 s.data.toList))) ∧ w = w' := by
  have HD := Lib.hid hd
  clear hd
  cases b
  · go_enter Tryd.func137, Tryd.ntmps137
    go_wp2_with fail
    go_loop [7, 8] (fun n i => ∃ (k : Nat) (a : Int), k ≤ s.size ∧ i = .int .i64 k ∧ n = .int .u64 a ∧ 0 ≤ a ∧ a ≤ 9223372036854775807 ∧ Hid (a = (ddec 0 (s.data.toList.take k) : Nat))) (fun _ i => s.size - (intOf i).toNat)
    case atStart => exact ⟨0, 0, Nat.zero_le _, rfl, rfl, by omega, by omega, Lib.hid rfl⟩
    case round =>
      obtain ⟨k, a, hk, rfl, rfl, ha0, ha1, ha⟩ := hrel
      by_cases hlt : k < s.size
      · have hI : (k : Int) < s.size := by omega
        have hll : k < s.data.toList.length := by rw [ba_len]; exact hlt
        have hc := HD.out s[k] (by rw [← ba_get s k hlt]; exact List.getElem_mem hll)
        simp only [digB, Bool.and_eq_true, decide_eq_true_eq] at hc
        have i1 : (48 : Int) ≤ (s[k].toNat : Int) := by omega
        have i2 : (s[k].toNat : Int) ≤ 57 := by omega
        have HT := Lib.hid (show (ddec 0 (s.data.toList.take (k + 1)) : Int) = a * 10 + ((s[k].toNat : Int) - 48) by
          rw [ddec_take hll, ha.out]
          show ((ddec 0 (s.data.toList.take k) * 10 + (s[k].toNat - 48) : Nat) : Int) = _
          omega)
        have HM := Lib.hid (ddec_mono (l := s.data.toList) (k + 1))
        clear hc
        by_cases hov : (9223372036854775807 - ((s[k].toNat : Int) - 48)) / 10 < a
        · have HR := Lib.hid (show valB false (ddec 0 s.data.toList) = none by
            have h1 := HT.out
            have h2 := HM.out
            have h3 : 9223372036854775807 < a * 10 + ((s[k].toNat : Int) - 48) := by omega
            exact valB_f_none (by omega))
          clear HT HM
          go_wp2_with fail
          go_ret2
          exact ⟨by rw [HR.out]; rfl, rfl⟩
        · have hov' : a ≤ (9223372036854775807 - ((s[k].toNat : Int) - 48)) / 10 := by omega
          have hb1 : a * 10 + ((s[k].toNat : Int) - 48) ≤ 9223372036854775807 := by omega
          clear hov
          go_wp2_with fail
          go_round
          case rel => exact ⟨k + 1, _, by omega, by go_num, rfl, by omega, hb1, Lib.hid HT.out.symm⟩
          case measure => simp [intOf]; omega
      · have hkk : s.data.toList.take k = s.data.toList := List.take_of_length_le (by rw [ba_len]; omega)
        have HE := Lib.hid (show a = (ddec 0 s.data.toList : Nat) by rw [ha.out, hkk])
        have HR := Lib.hid (show valB false (ddec 0 s.data.toList) = some (a) by have := HE.out; exact valB_f_some (by omega) (by omega))
        clear hkk ha
        go_wp2_with fail; go_ret2; exact ⟨by rw [HR.out]; rfl, rfl⟩
  · go_enter Tryd.func137, Tryd.ntmps137
    go_wp2_with fail
    go_loop [7, 8] (fun n i => ∃ (k : Nat) (a : Int), k ≤ s.size ∧ i = .int .i64 k ∧ n = .int .u64 a ∧ 0 ≤ a ∧ a ≤ 9223372036854775808 ∧ Hid (a = (ddec 0 (s.data.toList.take k) : Nat))) (fun _ i => s.size - (intOf i).toNat)
    case atStart => exact ⟨0, 0, Nat.zero_le _, rfl, rfl, by omega, by omega, Lib.hid rfl⟩
    case round =>
      obtain ⟨k, a, hk, rfl, rfl, ha0, ha1, ha⟩ := hrel
      by_cases hlt : k < s.size
      · have hI : (k : Int) < s.size := by omega
        have hll : k < s.data.toList.length := by rw [ba_len]; exact hlt
        have hc := HD.out s[k] (by rw [← ba_get s k hlt]; exact List.getElem_mem hll)
        simp only [digB, Bool.and_eq_true, decide_eq_true_eq] at hc
        have i1 : (48 : Int) ≤ (s[k].toNat : Int) := by omega
        have i2 : (s[k].toNat : Int) ≤ 57 := by omega
        have HT := Lib.hid (show (ddec 0 (s.data.toList.take (k + 1)) : Int) = a * 10 + ((s[k].toNat : Int) - 48) by
          rw [ddec_take hll, ha.out]
          show ((ddec 0 (s.data.toList.take k) * 10 + (s[k].toNat - 48) : Nat) : Int) = _
          omega)
        have HM := Lib.hid (ddec_mono (l := s.data.toList) (k + 1))
        clear hc
        by_cases hov : (9223372036854775808 - ((s[k].toNat : Int) - 48)) / 10 < a
        · have HR := Lib.hid (show valB true (ddec 0 s.data.toList) = none by
            have h1 := HT.out
            have h2 := HM.out
            have h3 : 9223372036854775808 < a * 10 + ((s[k].toNat : Int) - 48) := by omega
            exact valB_t_none (by omega))
          clear HT HM
          go_wp2_with fail
          go_ret2
          exact ⟨by rw [HR.out]; rfl, rfl⟩
        · have hov' : a ≤ (9223372036854775808 - ((s[k].toNat : Int) - 48)) / 10 := by omega
          have hb1 : a * 10 + ((s[k].toNat : Int) - 48) ≤ 9223372036854775808 := by omega
          clear hov
          go_wp2_with fail
          go_round
          case rel => exact ⟨k + 1, _, by omega, by go_num, rfl, by omega, hb1, Lib.hid HT.out.symm⟩
          case measure => simp [intOf]; omega
      · have hkk : s.data.toList.take k = s.data.toList := List.take_of_length_le (by rw [ba_len]; omega)
        have HE := Lib.hid (show a = (ddec 0 s.data.toList : Nat) by rw [ha.out, hkk])
        have HR := Lib.hid (show valB true (ddec 0 s.data.toList) = some (-a) by have := HE.out; exact valB_t_some (by omega) (by omega))
        clear hkk ha
        go_wp2_with fail; go_ret2; exact ⟨by rw [HR.out, neg_back ha0 ha1]; rfl, rfl⟩
end Go.Proofs.YtfebkjoohnlifaaDoor
namespace Go.Proofs.YtfebkjoohnlifaaDoor
open Go.RowKit Go.Shelf

theorem tail_list (s : ByteArray) (k : Nat) : (s.extract k s.size).data.toList = s.data.toList.drop k := by rw [cut_from]
theorem tail_get (s : ByteArray) (k : Nat) (h : k < s.size) (h0 : 0 < (s.extract k s.size).size) : (s.extract k s.size)[0] = s[k] := by
  rw [ByteArray.getElem_extract]
  simp
theorem tail_size (s : ByteArray) (k : Nat) : (s.extract k s.size).size = s.size - k := by rw [ByteArray.size_extract]; omega
theorem cut_mid (s : ByteArray) (i j : Nat) : s.extract i j = ⟨((s.data.toList.drop i).take (j - i)).toArray⟩ := by
  apply ByteArray.ext
  rw [ByteArray.data_extract]
  apply Array.ext'
  simp
/-- What One answers: the place is told of a token alone. -/
def oneV (p : Int × TK) (at_ : Nat) : Value := .tuple #[.agg (tkv p.2 (if p.1 = 0 then (at_ : Int) else 0)), .int .i64 p.1]
theorem oneV_ok (T : TK) (at_ : Nat) : oneV (0, T) at_ = .tuple #[.agg (tkv T at_), .int .i64 0] := rfl
theorem oneV_err {e : Int} (h : ¬ e = 0) (at_ : Nat) : oneV (e, tk0) at_ = .tuple #[.agg (tkv tk0 0), .int .i64 e] := by unfold oneV; simp only [h, if_false]
theorem Runs.later {p : UInt8 → Bool} {s : ByteArray} {f g k : Nat} (h : Runs p s f k) (hg : f ≤ g) : Runs p s g k := fun i hi h1 h2 => h i hi (by omega) h2

theorem nx_word {s : ByteArray} {at_ k : Nat} (ha : at_ < s.size) (hs : smallB s[at_] = true) (hk : at_ < k) (hl : ((s.data.toList.drop (at_ + 1)).takeWhile wordB).length = k - (at_ + 1)) :
    nextT (s.data.toList.drop at_) = if 12 < k - at_ then (21, tk0) else (0, ⟨1, (s.data.toList.drop at_).take (k - at_), 0⟩) := by
  have h1 : 1 ≤ (s.extract at_ s.size).size := by rw [tail_size]; omega
  have := next_word (s := s.extract at_ s.size) h1 (by rw [tail_get s at_ ha]; exact hs) (k := k - at_) (by omega) (by rw [tail_list, List.drop_drop, hl]; omega)
  rwa [tail_list] at this

set_option maxRecDepth 100000 in
set_option maxHeartbeats 4000000 in
theorem ref_One_word (w : World) (s : ByteArray) (at_ : Nat) (ha : at_ < s.size) (hs : s.size ≤ 100000) (hsm : smallB s[at_] = true) :
    Calls Tryd.prog 79 #[.string s, .int .i64 at_] w fun e w' => e = .returned (oneV (nextT (s.data.toList.drop at_)) at_) ∧ Fr Nob w w' := by
  have HSM := Lib.hid hsm
  have HS := Lib.hid (fun W => ref_letter W s[at_])
  rw [hsm] at HS
  clear hsm
  have haI : (at_ : Int) < s.size := by omega
  go_enter Tryd.func79, Tryd.ntmps79
  go_wp2_with ((go_at_call 135); refine (HS.out _).mono ?_; rintro e w' ⟨rfl, rfl⟩)
  go_loop [6] (fun i => ∃ k : Nat, at_ ≤ k ∧ k ≤ s.size ∧ i = .int .i64 k ∧ Hid (Runs wordB s at_ k)) (fun i => s.size - (intOf i).toNat)
  case atStart => exact ⟨at_, Nat.le_refl _, by omega, rfl, Lib.hid (Runs.start _ _ _)⟩
  case round =>
    obtain ⟨k, hk0, hk, rfl, hd⟩ := hrel
    by_cases hlt : k < s.size
    · have hI : (k : Int) < s.size := by omega
      have HD1 := Lib.hid (fun W => ref_letter W s[k])
      have HD2 := Lib.hid (fun W => ref_digit W s[k])
      have HN := Lib.hid (fun h => hd.out.next hlt h)
      have HE := Lib.hid (fun (hk1 : at_ < k) (h : wordB s[k] = false) => (hd.out.later (g := at_ + 1) (by omega)).len hk1 hk (fun _ => h))
      have HW := Lib.hid (show wordB s[k] = (smallB s[k] || digB s[k] || s[k] == 95) from rfl)
      have HSK := Lib.hid (show smallB s[k] = false → at_ < k from fun h => by
        rcases Nat.lt_or_eq_of_le hk0 with h' | h'
        · exact h'
        · subst h'; rw [HSM.out] at h; cases h)
      have HB := Lib.hid (show ((s[k].toNat : Int) == 95) = (s[k] == 95) by
        rw [Bool.eq_iff_iff, beq_iff_eq, beq_iff_eq, ← UInt8.toNat_inj, show (95 : UInt8).toNat = 95 from rfl]; omega)
      generalize smallB s[k] = b1 at *
      generalize digB s[k] = b2 at *
      generalize hb3 : (s[k] == 95) = b3 at HW HB
      have hb := HB.out
      clear HB hb3
      cases b1
      · cases b2
        · cases b3
          · have HK1 := Lib.hid (HSK.out rfl)
            have HF := Lib.hid (HE.out HK1.out (by rw [HW.out]; rfl))
            clear HE HN HW HSK
            have hk1 : at_ < k := HK1.out
            have HL := Lib.hid (nx_word ha HSM.out hk1 HF.out)
            have hd0 : (at_ : Int) ≤ k := by omega
            have hdI : ((k - at_ : Nat) : Int) = (k : Int) - at_ := by omega
            have HDI := Lib.hid hdI
            clear hdI
            by_cases h12 : 12 < k - at_
            · have hI12 : (12 : Int) < (k : Int) - at_ := by omega
              have HR := Lib.hid (HL.out.trans (if_pos h12))
              clear h12
              go_wp2_with (first | ((go_at_call 135); refine (HD1.out _).mono ?_; rintro e w' ⟨rfl, rfl⟩) | ((go_at_call 136); refine (HD2.out _).mono ?_; rintro e w' ⟨rfl, rfl⟩))
              refine bodyPost_ret (v := .tuple #[.agg (tkv tk0 0), .int .i64 21]) (by simp [results, Tryd.results79, go_sem]; rfl) rfl ⟨?_, ?_⟩
              · rw [HR.out]; exact ret1 (oneV_err (by decide) _).symm
              · exact (Fr.refl Nob w).alloc _
            · have hI12 : ¬ (12 : Int) < (k : Int) - at_ := by omega
              have HR := Lib.hid (HL.out.trans (if_neg h12))
              clear h12
              go_wp2_with (first | ((go_at_call 135); refine (HD1.out _).mono ?_; rintro e w' ⟨rfl, rfl⟩) | ((go_at_call 136); refine (HD2.out _).mono ?_; rintro e w' ⟨rfl, rfl⟩))
              refine bodyPost_ret (v := .tuple #[.agg (tkv ⟨1, (s.data.toList.drop at_).take (k - at_), 0⟩ at_), .int .i64 0]) (by simp [results, Tryd.results79, go_sem, tkv, cut_mid]) rfl ⟨?_, ?_⟩
              · rw [HR.out]; exact ret1 (oneV_ok _ _).symm
              · exact (Fr.refl Nob w).alloc _
          · have HF := Lib.hid (HN.out (by rw [HW.out]; rfl))
            clear HE HN HW HSK
            go_wp2_with (first | ((go_at_call 135); refine (HD1.out _).mono ?_; rintro e w' ⟨rfl, rfl⟩) | ((go_at_call 136); refine (HD2.out _).mono ?_; rintro e w' ⟨rfl, rfl⟩))
            go_round
            case rel => exact ⟨k + 1, by omega, by omega, by go_num, HF⟩
            case measure => simp [intOf]; omega
        · have HF := Lib.hid (HN.out (by rw [HW.out]; rfl))
          clear HE HN HW HSK
          go_wp2_with (first | ((go_at_call 135); refine (HD1.out _).mono ?_; rintro e w' ⟨rfl, rfl⟩) | ((go_at_call 136); refine (HD2.out _).mono ?_; rintro e w' ⟨rfl, rfl⟩))
          go_round
          case rel => exact ⟨k + 1, by omega, by omega, by go_num, HF⟩
          case measure => simp [intOf]; omega
      · have HF := Lib.hid (HN.out (by rw [HW.out]; rfl))
        clear HE HN HW HSK
        go_wp2_with (first | ((go_at_call 135); refine (HD1.out _).mono ?_; rintro e w' ⟨rfl, rfl⟩) | ((go_at_call 136); refine (HD2.out _).mono ?_; rintro e w' ⟨rfl, rfl⟩))
        go_round
        case rel => exact ⟨k + 1, by omega, by omega, by go_num, HF⟩
        case measure => simp [intOf]; omega
    · have hI : ¬ (k : Int) < s.size := by omega
      have HK1 := Lib.hid (show at_ < k by omega)
      have HF := Lib.hid ((hd.out.later (g := at_ + 1) (by omega)).len HK1.out hk (fun h => absurd h hlt))
      clear hlt
      have hk1 : at_ < k := HK1.out
      have HL := Lib.hid (nx_word ha HSM.out hk1 HF.out)
      have hd0 : (at_ : Int) ≤ k := by omega
      have hdI : ((k - at_ : Nat) : Int) = (k : Int) - at_ := by omega
      have HDI := Lib.hid hdI
      clear hdI
      by_cases h12 : 12 < k - at_
      · have hI12 : (12 : Int) < (k : Int) - at_ := by omega
        have HR := Lib.hid (HL.out.trans (if_pos h12))
        clear h12
        go_wp2_with fail
        refine bodyPost_ret (v := .tuple #[.agg (tkv tk0 0), .int .i64 21]) (by simp [results, Tryd.results79, go_sem]; rfl) rfl ⟨?_, ?_⟩
        · rw [HR.out]; exact ret1 (oneV_err (by decide) _).symm
        · exact (Fr.refl Nob w).alloc _
      · have hI12 : ¬ (12 : Int) < (k : Int) - at_ := by omega
        have HR := Lib.hid (HL.out.trans (if_neg h12))
        clear h12
        go_wp2_with fail
        refine bodyPost_ret (v := .tuple #[.agg (tkv ⟨1, (s.data.toList.drop at_).take (k - at_), 0⟩ at_), .int .i64 0]) (by simp [results, Tryd.results79, go_sem, tkv, cut_mid]) rfl ⟨?_, ?_⟩
        · rw [HR.out]; exact ret1 (oneV_ok _ _).symm
        · exact (Fr.refl Nob w).alloc _
end Go.Proofs.YtfebkjoohnlifaaDoor
namespace Go.Proofs.YtfebkjoohnlifaaDoor
open Go.RowKit Go.Shelf

def sgnAll : List (List UInt8) := [[33], [38], [124], [40], [41], [91], [93], [44], [45, 62], [60, 45, 62], [61], [33, 61], [60], [60, 61], [62], [62, 61], [70], [71], [85], [82]]
def bstep (l best x : List UInt8) : List UInt8 := if best.length < x.length ∧ l.take x.length = x then x else best
def bestK (k : Nat) (l : List UInt8) : List UInt8 := (sgnAll.take k).foldl (bstep l) []
theorem bestK_succ {k : Nat} (hk : k < sgnAll.length) (l : List UInt8) : bestK (k + 1) l = bstep l (bestK k l) sgnAll[k] := by
  unfold bestK
  rw [List.take_succ_eq_append_getElem hk, List.foldl_append]; rfl

/-- The best so far begins the text, and none of those that were seen and begin it is longer. -/
structure Best (l best : List UInt8) (seen : List (List UInt8)) : Prop where
  pre : l.take best.length = best
  mem : best = [] ∨ best ∈ seen
  max : ∀ x ∈ seen, l.take x.length = x → x.length ≤ best.length
theorem Best.start (l : List UInt8) : Best l [] [] := ⟨by simp, .inl rfl, fun x hx => by cases hx⟩
theorem Best.step {l best : List UInt8} {seen : List (List UInt8)} (h : Best l best seen) (x : List UInt8) : Best l (bstep l best x) (seen ++ [x]) := by
  unfold bstep
  by_cases hc : best.length < x.length ∧ l.take x.length = x
  · rw [if_pos hc]
    refine ⟨hc.2, .inr (by simp), fun y hy hp => ?_⟩
    rcases List.mem_append.1 hy with hy | hy
    · have := h.max y hy hp; omega
    · simp at hy; subst hy; exact Nat.le_refl _
  · rw [if_neg hc]
    refine ⟨h.pre, h.mem.imp id (fun h => List.mem_append_left _ h), fun y hy hp => ?_⟩
    rcases List.mem_append.1 hy with hy | hy
    · exact h.max y hy hp
    · simp at hy; subst hy
      rcases Nat.lt_or_ge best.length y.length with h' | h'
      · exact absurd ⟨h', hp⟩ hc
      · exact h'
theorem Best.fold (l : List UInt8) : ∀ (xs seen : List (List UInt8)) (best : List UInt8), Best l best seen → Best l (xs.foldl (bstep l) best) (seen ++ xs)
  | [], seen, best, h => by simpa using h
  | x :: xs, seen, best, h => by
    have := Best.fold l xs (seen ++ [x]) _ (h.step x)
    simpa using this
theorem sign_max (l : List UInt8) : ∀ x ∈ sgnAll, l.take x.length = x → x.length ≤ signLen l := by
  intro x hx hp
  have hlen0 : x.length = 3 ∧ x = [60, 45, 62] ∨ x.length = 2 ∧ x ∈ sgn2 ∨ (x.length = 1 ∧ x.headD 0 ∈ sgn1) := by
    clear hp
    revert x
    decide +kernel
  have hlen : x.length = 3 ∧ x = [60, 45, 62] ∨ x.length = 2 ∧ x ∈ sgn2 ∨ ∃ c, x = [c] ∧ c ∈ sgn1 := by
    refine hlen0.imp id (fun h => h.imp id fun h => ?_)
    obtain ⟨c, rfl⟩ := List.length_eq_one_iff.1 h.1
    exact ⟨c, rfl, h.2⟩
  unfold signLen
  rcases hlen with ⟨h, h2⟩ | ⟨h, h2⟩ | ⟨c, rfl, h2⟩
  · rw [h] at hp ⊢
    rw [if_pos (by rw [hp, h2])]
    exact Nat.le_refl _
  · rw [h] at hp ⊢
    split
    · omega
    · rw [if_pos (by rw [hp]; exact h2)]; exact Nat.le_refl _
  · simp only [List.length_singleton] at hp ⊢
    split
    · omega
    · split
      · omega
      · cases l with
        | nil => simp at hp
        | cons d r =>
          simp at hp
          subst hp
          simp only [if_pos h2]; exact Nat.le_refl _
theorem sign_mem {l : List UInt8} (h : 0 < signLen l) : l.take (signLen l) ∈ sgnAll := by
  unfold signLen at h ⊢
  by_cases h3 : l.take 3 = [60, 45, 62]
  · rw [if_pos h3, h3]; decide
  · rw [if_neg h3] at h ⊢
    by_cases h2 : l.take 2 ∈ sgn2
    · rw [if_pos h2]
      revert h2
      generalize l.take 2 = q
      revert q
      decide +kernel
    · rw [if_neg h2] at h ⊢
      cases l with
      | nil => simp at h
      | cons c r =>
        simp only at h ⊢
        by_cases hc : c ∈ sgn1
        · rw [if_pos hc, List.take_succ_cons, List.take_zero]
          clear h h2 h3
          revert hc
          revert c
          decide +kernel
        · rw [if_neg hc] at h; omega
theorem best_all (l : List UInt8) : bestK 20 l = l.take (signLen l) := by
  have hb : Best l (bestK 20 l) sgnAll := by
    have := Best.fold l sgnAll [] [] (Best.start l)
    simpa [bestK, sgnAll] using this
  generalize bestK 20 l = b at *
  have h1 : b.length ≤ signLen l := by
    rcases hb.mem with rfl | hm
    · simp
    · exact sign_max l b hm hb.pre
  rcases Nat.eq_zero_or_pos (signLen l) with h0 | h0
  · have : b = [] := List.eq_nil_of_length_eq_zero (by omega)
    rw [h0, this]; rfl
  · have hm := sign_mem h0
    have hle : (l.take (signLen l)).length = signLen l := by
      rw [List.length_take]
      cases l with
      | nil => simp [signLen, sgn2] at h0
      | cons c r => have := signLen_le (l := c :: r) (by simp); omega
    have h2 := hb.max _ hm (by rw [hle])
    rw [hle] at h2
    have e : b.length = signLen l := by omega
    rw [← hb.pre, e]
end Go.Proofs.YtfebkjoohnlifaaDoor
namespace Go.Proofs.YtfebkjoohnlifaaDoor
open Go.RowKit

theorem tw_idem {α : Type} (p : α → Bool) : ∀ l : List α, (l.takeWhile p).takeWhile p = l.takeWhile p
  | [] => rfl
  | c :: r => by
    cases h : p c
    · rw [List.takeWhile_cons_of_neg (by simp [h])]; rfl
    · rw [List.takeWhile_cons_of_pos h, List.takeWhile_cons_of_pos h, tw_idem p r]
theorem tw_sep {α : Type} (p : α → Bool) {b : α} (t : List α) (hb : p b = false) : ∀ l : List α, (l ++ b :: t).takeWhile p = l.takeWhile p
  | [] => by rw [List.nil_append, List.takeWhile_cons_of_neg (by simp [hb])]; rfl
  | c :: r => by
    cases h : p c
    · rw [List.cons_append, List.takeWhile_cons_of_neg (by simp [h]), List.takeWhile_cons_of_neg (by simp [h])]
    · rw [List.cons_append, List.takeWhile_cons_of_pos h, List.takeWhile_cons_of_pos h, tw_sep p t hb r]

theorem numLen_self {l : List UInt8} (h : 0 < numLen l) : numLen (l.take (numLen l)) = numLen l := by
  cases l with
  | nil => simp [numLen] at h
  | cons c r =>
    by_cases hc : c = 45
    · subst hc
      rw [numLen_45] at h ⊢
      by_cases h0 : (r.takeWhile digB).length = 0
      · rw [if_pos h0] at h; omega
      · rw [if_neg h0, List.take_succ_cons, takeWhile_take, numLen_45, tw_idem, if_neg h0]
    · rw [numLen_no hc] at h ⊢
      rw [takeWhile_take]
      cases hd : digB c
      · rw [List.takeWhile_cons_of_neg (by simp [hd])] at h; simp at h
      · rw [List.takeWhile_cons_of_pos hd, numLen_no hc, List.takeWhile_cons_of_pos hd, tw_idem]
theorem numLen_sep {b : UInt8} (t : List UInt8) (hb : blankB b = true) {l : List UInt8} (hl : l ≠ []) : numLen (l ++ b :: t) = numLen l := by
  have hd : digB b = false := by rcases (blank_iff b).1 hb with rfl | rfl | rfl <;> decide
  cases l with
  | nil => exact absurd rfl hl
  | cons c r =>
    rw [List.cons_append]
    by_cases hc : c = 45
    · subst hc; rw [numLen_45, numLen_45, tw_sep digB t hd]
    · rw [numLen_no hc, numLen_no hc, ← List.cons_append, tw_sep digB t hd]
theorem signLen_sep {b : UInt8} (t : List UInt8) (hb : blankB b = true) {l : List UInt8} (hl : l ≠ []) : signLen (l ++ b :: t) = signLen l := by
  have hne : b ≠ 45 ∧ b ≠ 62 ∧ b ≠ 61 := by rcases (blank_iff b).1 hb with rfl | rfl | rfl <;> decide
  obtain ⟨n1, n2, n3⟩ := hne
  match l, hl with
  | [c], _ =>
    have e3 : ¬ ([c] ++ b :: t).take 3 = [60, 45, 62] := by
      intro e; simp at e; exact n1 e.2.1
    have e2 : ¬ ([c] ++ b :: t).take 2 ∈ sgn2 := by
      intro e; simp [sgn2] at e; rcases e with e | e | e | e <;> first | exact n2 e.2 | exact n3 e.2
    unfold signLen
    rw [if_neg e3, if_neg e2, if_neg (by simp), if_neg (by simp [sgn2])]
    rfl
  | [c, d], _ =>
    have e3 : ¬ ([c, d] ++ b :: t).take 3 = [60, 45, 62] := by
      intro e; simp at e; exact n2 e.2.2
    have e3' : ¬ [c, d].take 3 = [60, 45, 62] := by intro e; simp at e
    have e2 : ([c, d] ++ b :: t).take 2 = [c, d].take 2 := rfl
    unfold signLen
    rw [if_neg e3, if_neg e3', e2]
    rfl
  | c :: d :: e :: r, _ => rfl
theorem nextT_sep {b : UInt8} (t : List UInt8) (hb : blankB b = true) {l : List UInt8} (hl : l ≠ []) : nextT (l ++ b :: t) = nextT l := by
  have hw : wordB b = false := by rcases (blank_iff b).1 hb with rfl | rfl | rfl <;> decide
  have h1 := numLen_sep t hb hl
  have h2 := signLen_sep t hb hl
  have h3 := numLen_le l
  have h4 := signLen_le hl
  have tk : ∀ k, k ≤ l.length → (l ++ b :: t).take k = l.take k := fun k hk => by rw [List.take_append_of_le_length hk]
  have t1 := tk _ h3
  have t2 := tk _ h4
  cases l with
  | nil => exact absurd rfl hl
  | cons c r =>
    have t3 := tk ((r.takeWhile wordB).length + 1) (by have := (List.takeWhile_prefix wordB (l := r)).length_le; simp; omega)
    rw [List.cons_append] at h1 h2 t1 t2 t3 ⊢
    unfold nextT
    simp only [h1, h2, tw_sep wordB t hw, t1, t2, t3]
theorem sign_self : ∀ x ∈ sgnAll, nextT x = (0, ⟨3, x, 0⟩) := by
  intro x hx
  simp only [sgnAll, List.mem_cons, List.not_mem_nil, or_false] at hx
  rcases hx with rfl | rfl | rfl | rfl | rfl | rfl | rfl | rfl | rfl | rfl | rfl | rfl | rfl | rfl | rfl | rfl | rfl | rfl | rfl | rfl <;> kernel_rfl
theorem nextT_self {l : List UInt8} {T : TK} (h : nextT l = (0, T)) : nextT T.text = (0, T) ∧ l.take T.text.length = T.text ∧ (T.kind = 1 ∨ T.kind = 2 ∨ T.kind = 3) := by
  cases l with
  | nil => simp [nextT] at h
  | cons c r =>
    by_cases h1 : smallB c = true
    · have e : nextT (c :: r) = if 12 < (r.takeWhile wordB).length + 1 then (21, ⟨0, [], 0⟩) else (0, ⟨1, (c :: r).take ((r.takeWhile wordB).length + 1), 0⟩) := by
        unfold nextT; simp only [h1, if_true]
      rw [e] at h
      by_cases h2 : 12 < (r.takeWhile wordB).length + 1
      · rw [if_pos h2] at h; simp at h
      · rw [if_neg h2, List.take_succ_cons, takeWhile_take] at h
        simp only [Prod.mk.injEq, true_and] at h
        subst h
        refine ⟨?_, ?_, .inl rfl⟩
        · simp only
          unfold nextT
          simp only [h1, if_true]
          rw [tw_idem, if_neg h2, List.take_succ_cons, List.take_length]
        · simp only [List.length_cons]
          rw [List.take_succ_cons, takeWhile_take]
    · by_cases h2 : 0 < numLen (c :: r)
      · have e : nextT (c :: r) = if (numVal ((c :: r).take (numLen (c :: r)))).1 = 0 then (0, ⟨2, (c :: r).take (numLen (c :: r)), (numVal ((c :: r).take (numLen (c :: r)))).2⟩) else ((numVal ((c :: r).take (numLen (c :: r)))).1, ⟨0, [], 0⟩) := by
          unfold nextT; simp only [h1, Bool.false_eq_true, if_false]; rw [if_pos h2]
        rw [e] at h
        by_cases h3 : (numVal ((c :: r).take (numLen (c :: r)))).1 = 0
        · rw [if_pos h3] at h
          simp only [Prod.mk.injEq, true_and] at h
          subst h
          have hle := numLen_le (c :: r)
          refine ⟨?_, ?_, .inr (.inl rfl)⟩
          · simp only
            have hs := numLen_self h2
            have hlen : ((c :: r).take (numLen (c :: r))).length = numLen (c :: r) := by rw [List.length_take]; omega
            obtain ⟨m, hm⟩ : ∃ m, numLen (c :: r) = m + 1 := ⟨numLen (c :: r) - 1, by omega⟩
            rw [hm, List.take_succ_cons] at hs hlen h3 ⊢
            have h4 : 0 < numLen (c :: r.take m) := by omega
            have h5 : (c :: r.take m).take (m + 1) = c :: r.take m := by rw [← hlen, List.take_length]
            unfold nextT
            simp only [h1, Bool.false_eq_true, if_false]
            rw [if_pos h4, hs, h5, if_pos h3]
          · simp only
            rw [List.length_take, Nat.min_eq_left hle]
        · rw [if_neg h3] at h
          simp only [Prod.mk.injEq] at h
          exact absurd h.1 h3
      · have e : nextT (c :: r) = if 0 < signLen (c :: r) then (0, ⟨3, (c :: r).take (signLen (c :: r)), 0⟩) else (20, ⟨0, [], 0⟩) := by
          unfold nextT; simp only [h1, Bool.false_eq_true, if_false]; rw [if_neg h2]
        rw [e] at h
        by_cases h3 : 0 < signLen (c :: r)
        · rw [if_pos h3] at h
          simp only [Prod.mk.injEq, true_and] at h
          subst h
          have hle := signLen_le (l := c :: r) (by simp)
          refine ⟨sign_self _ (sign_mem h3), ?_, .inr (.inr rfl)⟩
          simp only
          rw [List.length_take, Nat.min_eq_left hle]
        · rw [if_neg h3] at h; simp at h

theorem rdT_ne (n : Nat) : ∀ (at_ : Nat) (l : List UInt8), l.length ≤ n → (rdT at_ l).1.1 = 0 → (rdT at_ l).2 ≠ [] ∧ (rdT at_ l).1.2 = 0 := by
  induction n with
  | zero =>
    intro at_ l hl _
    have : l = [] := List.eq_nil_of_length_eq_zero (by omega)
    subst this
    rw [rdT_nil]; simp
  | succ n ih =>
    intro at_ l hl h
    cases l with
    | nil => rw [rdT_nil]; simp
    | cons c r =>
      simp only [List.length_cons] at hl
      cases hb : blankB c
      · by_cases h0 : (nextT (c :: r)).1 = 0
        · rw [rdT_tok hb h0] at h ⊢
          have := next_text h0
          exact ⟨by simp, (ih _ _ (by simp; omega) h).2⟩
        · rw [rdT_err hb h0] at h
          exact absurd h h0
      · rw [rdT_blank hb] at h ⊢
        exact ih _ _ (by omega) h
theorem rdT_place (n : Nat) : ∀ (at_ : Nat) (l : List UInt8), l.length ≤ n → (rdT at_ l).1.2 ≤ at_ + l.length := by
  induction n with
  | zero =>
    intro at_ l hl
    have : l = [] := List.eq_nil_of_length_eq_zero (by omega)
    subst this
    rw [rdT_nil]; simp
  | succ n ih =>
    intro at_ l hl
    cases l with
    | nil => rw [rdT_nil]; simp
    | cons c r =>
      simp only [List.length_cons] at hl ⊢
      cases hb : blankB c
      · by_cases h0 : (nextT (c :: r)).1 = 0
        · rw [rdT_tok hb h0]
          have := next_text h0
          have h2 := ih (at_ + (nextT (c :: r)).2.text.length) ((c :: r).drop (nextT (c :: r)).2.text.length) (by simp; omega)
          simp at h2 this ⊢
          omega
        · rw [rdT_err hb h0]; simp
      · rw [rdT_blank hb]
        have := ih (at_ + 1) r (by omega)
        omega

/-- How the reading goes on from a place: blanks, then the end or a token. -/
structure Head (s : List UInt8) (p : Nat) (o : List (TK × Nat)) (q : Nat) (T : TK) (o' : List (TK × Nat)) : Prop where
  le : p ≤ q
  hi : q + T.text.length ≤ s.length
  bl : ∀ j (h : j < s.length), p ≤ j → j < q → blankB s[j] = true
  eq : o = (T, q) :: o'
  at_end : T.text.length = 0 → q = s.length ∧ o' = [] ∧ T = tk0
  tok : 0 < T.text.length → nextT (s.drop q) = (0, T) ∧ (s.drop q).take T.text.length = T.text ∧ ¬ T.kind = 0 ∧ rdT (q + T.text.length) (s.drop (q + T.text.length)) = ((0, 0), o') ∧ o' ≠ []
theorem rdT_head (s : List UInt8) (n : Nat) : ∀ (p : Nat) (o : List (TK × Nat)), s.length - p ≤ n → p ≤ s.length → rdT p (s.drop p) = ((0, 0), o) → ∃ q T o', Head s p o q T o' := by
  induction n with
  | zero =>
    intro p o hn hp h
    have : p = s.length := by omega
    subst this
    rw [List.drop_length, rdT_nil] at h
    simp only [Prod.mk.injEq, true_and] at h
    exact ⟨_, _, [], Nat.le_refl _, by simp [tk0], fun j hj h1 h2 => by omega, h.symm, fun _ => ⟨rfl, rfl, rfl⟩, fun h => by simp [tk0] at h⟩
  | succ n ih =>
    intro p o hn hp h
    by_cases hlt : p < s.length
    · rw [List.drop_eq_getElem_cons hlt] at h
      cases hb : blankB s[p]
      · by_cases h0 : (nextT (s[p] :: s.drop (p + 1))).1 = 0
        · rw [rdT_tok hb h0, ← List.drop_eq_getElem_cons hlt] at h
          rw [← List.drop_eq_getElem_cons hlt] at h0
          have ht := next_text h0
          obtain ⟨T, hT⟩ : ∃ T, nextT (s.drop p) = (0, T) := ⟨_, Prod.ext h0 rfl⟩
          rw [hT] at h ht
          simp only [List.drop_drop, List.length_drop] at h ht
          obtain ⟨_, h2, h3⟩ := nextT_self hT
          have he : (rdT (p + T.text.length) (s.drop (p + T.text.length))).1 = (0, 0) := by
            have := congrArg Prod.fst h; exact this
          have ho : (rdT (p + T.text.length) (s.drop (p + T.text.length))).2 ≠ [] := (rdT_ne _ _ _ (Nat.le_refl _) (by rw [he])).1
          refine ⟨p, T, _, Nat.le_refl _, by omega, fun j hj h1 h2 => by omega, (congrArg Prod.snd h).symm, fun h => by omega, fun _ => ⟨hT, h2, by omega, Prod.ext he rfl, ho⟩⟩
        · rw [rdT_err hb h0] at h
          simp only [Prod.mk.injEq] at h
          exact absurd h.1.1 h0
      · rw [rdT_blank hb] at h
        obtain ⟨q, T, o', H⟩ := ih (p + 1) o (by omega) hlt h
        refine ⟨q, T, o', by have := H.le; omega, H.hi, fun j hj h1 h2 => ?_, H.eq, H.at_end, H.tok⟩
        by_cases hjp : j = p
        · subst hjp; exact hb
        · exact H.bl j hj (by omega) h2
    · have : p = s.length := by omega
      subst this
      rw [List.drop_length, rdT_nil] at h
      simp only [Prod.mk.injEq, true_and] at h
      exact ⟨_, _, [], Nat.le_refl _, by simp [tk0], fun j hj h1 h2 => by omega, h.symm, fun _ => ⟨rfl, rfl, rfl⟩, fun h => by simp [tk0] at h⟩

theorem readT_err {l : List UInt8} (h : ¬ (readT l).1.1 = 0) : (readT l).2 = [] ∧ (readT l).1.2 ≤ l.length := by
  unfold readT at h ⊢
  by_cases hl : 512 < l.length
  · rw [if_pos hl]; simp
  · rw [if_neg hl] at h ⊢
    refine ⟨by simp only; rw [if_neg h], ?_⟩
    have := rdT_place _ 0 l (Nat.le_refl _)
    simp only; omega
theorem readT_ok {l : List UInt8} (h : (readT l).1.1 = 0) : (readT l).1.2 = 0 ∧ rdT 0 l = ((0, 0), (readT l).2) ∧ (readT l).2 ≠ [] ∧ l.length ≤ 512 := by
  unfold readT at h ⊢
  by_cases hl : 512 < l.length
  · rw [if_pos hl] at h; simp at h
  · rw [if_neg hl] at h ⊢
    simp only at h ⊢
    have h2 := rdT_ne _ 0 l (Nat.le_refl _) h
    refine ⟨h2.2, ?_, by rw [if_pos h]; exact h2.1, by omega⟩
    rw [if_pos h]
    exact Prod.ext (Prod.ext h h2.2) rfl

/-- Another beginning: the places move. -/
def moved (d : Nat) (o : List (TK × Nat)) : List (TK × Nat) := o.map fun x => (x.1, x.2 + d)
theorem rdT_move (d : Nat) (n : Nat) : ∀ (at_ : Nat) (l : List UInt8), l.length ≤ n → rdT (at_ + d) l = (if (rdT at_ l).1.1 = 0 then (0, 0) else ((rdT at_ l).1.1, (rdT at_ l).1.2 + d), moved d (rdT at_ l).2) := by
  induction n with
  | zero =>
    intro at_ l hl
    have : l = [] := List.eq_nil_of_length_eq_zero (by omega)
    subst this
    simp [rdT_nil, moved]
  | succ n ih =>
    intro at_ l hl
    cases l with
    | nil => simp [rdT_nil, moved]
    | cons c r =>
      simp only [List.length_cons] at hl
      cases hb : blankB c
      · by_cases h0 : (nextT (c :: r)).1 = 0
        · have := next_text h0
          rw [rdT_tok hb h0, rdT_tok hb h0]
          have h2 := ih (at_ + (nextT (c :: r)).2.text.length) ((c :: r).drop (nextT (c :: r)).2.text.length) (by simp; omega)
          rw [show at_ + d + (nextT (c :: r)).2.text.length = at_ + (nextT (c :: r)).2.text.length + d by omega, h2]
          simp [moved]
        · rw [rdT_err hb h0, rdT_err hb h0]; simp [h0, moved]
      · rw [rdT_blank hb, rdT_blank hb, show at_ + d + 1 = at_ + 1 + d by omega]
        exact ih _ _ (by omega)
/-- Two texts with a blank between. -/
theorem rdT_two {b : UInt8} (t : List UInt8) (hb : blankB b = true) (n : Nat) : ∀ (at_ : Nat) (l : List UInt8), l.length ≤ n →
    ((rdT at_ l).1.1 = 0 → ∃ o, (rdT at_ l).2 = o ++ [(tk0, at_ + l.length)] ∧ rdT at_ (l ++ b :: t) = ((rdT (at_ + l.length + 1) t).1, o ++ (rdT (at_ + l.length + 1) t).2)) ∧
    (¬ (rdT at_ l).1.1 = 0 → (rdT at_ (l ++ b :: t)).1 = (rdT at_ l).1) := by
  induction n with
  | zero =>
    intro at_ l hl
    have : l = [] := List.eq_nil_of_length_eq_zero (by omega)
    subst this
    refine ⟨fun _ => ⟨[], by rw [rdT_nil]; rfl, by rw [List.nil_append, rdT_blank hb]; rfl⟩, fun h => by rw [rdT_nil] at h; simp at h⟩
  | succ n ih =>
    intro at_ l hl
    cases l with
    | nil => refine ⟨fun _ => ⟨[], by rw [rdT_nil]; rfl, by rw [List.nil_append, rdT_blank hb]; rfl⟩, fun h => by rw [rdT_nil] at h; simp at h⟩
    | cons c r =>
      simp only [List.length_cons] at hl
      have hsep := nextT_sep t hb (l := c :: r) (by simp)
      rw [List.cons_append] at hsep
      cases hb' : blankB c
      · by_cases h0 : (nextT (c :: r)).1 = 0
        · have hlen := next_text h0
          have h0' : (nextT (c :: (r ++ b :: t))).1 = 0 := by rw [hsep]; exact h0
          have hih := ih (at_ + (nextT (c :: r)).2.text.length) ((c :: r).drop (nextT (c :: r)).2.text.length) (by simp; omega)
          have e1 : (c :: (r ++ b :: t)).drop (nextT (c :: r)).2.text.length = (c :: r).drop (nextT (c :: r)).2.text.length ++ b :: t := by
            rw [← List.cons_append, List.drop_append_of_le_length hlen.2]
          rw [List.cons_append, rdT_tok hb' h0', rdT_tok hb' h0, hsep, e1]
          have e2 : at_ + (nextT (c :: r)).2.text.length + ((c :: r).drop (nextT (c :: r)).2.text.length).length = at_ + (c :: r).length := by rw [List.length_drop]; omega
          rw [e2] at hih
          refine ⟨fun h => ?_, fun h => hih.2 h⟩
          obtain ⟨o, h1, h2⟩ := hih.1 h
          exact ⟨((nextT (c :: r)).2, at_) :: o, by simp only; rw [h1]; rfl, by rw [h2]; rfl⟩
        · have h0' : ¬ (nextT (c :: (r ++ b :: t))).1 = 0 := by rw [hsep]; exact h0
          rw [List.cons_append, rdT_err hb' h0', rdT_err hb' h0, hsep]
          exact ⟨fun h => absurd h h0, fun _ => rfl⟩
      · rw [List.cons_append, rdT_blank hb', rdT_blank hb']
        have := ih (at_ + 1) r (by omega)
        rw [show at_ + 1 + r.length = at_ + (c :: r).length by simp; omega] at this
        exact this
theorem readT_two {s t : List UInt8} {b : UInt8} (hb : blankB b = true) (hs : s.length ≤ 255) (ht : t.length ≤ 255) :
    (¬ (readT s).1.1 = 0 → readT (s ++ b :: t) = ((readT s).1, [])) ∧
    ((readT s).1.1 = 0 → ¬ (readT t).1.1 = 0 → readT (s ++ b :: t) = (((readT t).1.1, (readT t).1.2 + (s.length + 1)), [])) ∧
    ((readT s).1.1 = 0 → (readT t).1.1 = 0 → ∃ o, (readT s).2 = o ++ [(tk0, s.length)] ∧ readT (s ++ b :: t) = ((0, 0), o ++ moved (s.length + 1) (readT t).2)) := by
  have h1 := rdT_two t hb _ 0 s (Nat.le_refl _)
  have h2 := rdT_move (s.length + 1) _ 0 t (Nat.le_refl _)
  simp only [Nat.zero_add] at h1 h2
  rw [h2] at h1
  have hl : ¬ 512 < (s ++ b :: t).length := by simp; omega
  have hl1 : ¬ 512 < s.length := by omega
  have hl2 : ¬ 512 < t.length := by omega
  unfold readT
  simp only [if_neg hl, if_neg hl1, if_neg hl2]
  refine ⟨fun h => ?_, fun h h' => ?_, fun h h' => ?_⟩
  · rw [h1.2 h, if_neg h]
  · obtain ⟨o, _, h4⟩ := h1.1 h
    rw [h4]
    simp only [if_neg h']
  · obtain ⟨o, h3, h4⟩ := h1.1 h
    refine ⟨o, by rw [if_pos h, h3], ?_⟩
    rw [h4]
    simp only [if_pos h', if_true]
/-- A token's text, alone. -/
theorem readT_alone {T : TK} (h : nextT T.text = (0, T)) (hb : blankB (T.text.headD 0) = false) (hl : T.text.length ≤ 512) : readT T.text = ((0, 0), [(T, 0), (tk0, T.text.length)]) := by
  have e : rdT 0 T.text = ((0, 0), [(T, 0), (tk0, T.text.length)]) := by
    have h0 : (nextT T.text).1 = 0 := by rw [h]
    have hn := next_text h0
    obtain ⟨c, r, hc⟩ : ∃ c r, T.text = c :: r := List.exists_cons_of_ne_nil (fun e => by rw [h, e] at hn; simp at hn)
    rw [hc] at h0 hb
    have h1 := rdT_tok (at_ := 0) (c := c) (r := r) hb h0
    rw [← hc, h, List.drop_length, rdT_nil, Nat.zero_add] at h1
    exact h1
  unfold readT
  rw [if_neg (by omega), e]
  rfl
end Go.Proofs.YtfebkjoohnlifaaDoor
