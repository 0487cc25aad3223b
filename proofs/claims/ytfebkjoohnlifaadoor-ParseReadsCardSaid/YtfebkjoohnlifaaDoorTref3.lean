/- The reference's token at a place: numbers. -/
import Derived.Test.YtfebkjoohnlifaaDoorTone
namespace Go.Proofs.YtfebkjoohnlifaaDoor
open Go.RowKit Go.Shelf

theorem nl_of {s : ByteArray} {at_ F k : Nat} {neg : Bool} (ha : at_ < s.size) (hn : (s[at_] == 45) = neg) (hF : F = at_ + neg.toNat) (hk : F ≤ k) (hl : ((s.data.toList.drop F).takeWhile digB).length = k - F) :
    numLen (s.data.toList.drop at_) = if k = F then 0 else k - at_ := by
  have hc : s.data.toList.drop at_ = s[at_] :: s.data.toList.drop (at_ + 1) := List.drop_eq_getElem_cons (by rw [ba_len]; exact ha)
  cases neg
  · have h45 : ¬ s[at_] = 45 := by simpa using hn
    simp only [Bool.toNat_false, Nat.add_zero] at hF
    subst hF
    rw [hc, numLen_no h45, ← hc, hl]
    split <;> omega
  · have h45 : s[at_] = 45 := by simpa using hn
    simp only [Bool.toNat_true] at hF
    subst hF
    rw [hc, h45, numLen_45, hl]
    by_cases h : k = at_ + 1
    · rw [if_pos (by omega), if_pos h]
    · rw [if_neg (by omega), if_neg h]; omega
theorem nx_num {s : ByteArray} {at_ : Nat} (ha : at_ < s.size) (hs : smallB s[at_] = false) (hn : 0 < numLen (s.data.toList.drop at_)) :
    nextT (s.data.toList.drop at_) = if (numVal ((s.data.toList.drop at_).take (numLen (s.data.toList.drop at_)))).1 = 0 then (0, ⟨2, (s.data.toList.drop at_).take (numLen (s.data.toList.drop at_)), (numVal ((s.data.toList.drop at_).take (numLen (s.data.toList.drop at_)))).2⟩) else ((numVal ((s.data.toList.drop at_).take (numLen (s.data.toList.drop at_)))).1, tk0) := by
  have h1 : 1 ≤ (s.extract at_ s.size).size := by rw [tail_size]; omega
  have := next_num (s := s.extract at_ s.size) h1 (by rw [tail_get s at_ ha]; exact hs)
  rw [tail_list] at this
  exact this hn
/-- The digits of the number at a place. -/
theorem digs_of {s : ByteArray} {at_ F k : Nat} {neg : Bool} (ha : at_ < s.size) (hn : (s[at_] == 45) = neg) (hF : F = at_ + neg.toNat) (hk : F < k) (hks : k ≤ s.size) (hr : Runs digB s F k) :
    IsNum neg ((s.data.toList.drop at_).take (k - at_)) ((s.data.toList.drop F).take (k - F)) := by
  have hc : s.data.toList.drop at_ = s[at_] :: s.data.toList.drop (at_ + 1) := List.drop_eq_getElem_cons (by rw [ba_len]; exact ha)
  refine ⟨?_, ?_, ?_⟩
  · cases neg
    · simp only [Bool.toNat_false, Nat.add_zero] at hF
      subst hF; rfl
    · have h45 : s[at_] = 45 := by simpa using hn
      simp only [Bool.toNat_true] at hF
      subst hF
      have e : k - at_ = (k - (at_ + 1)) + 1 := by omega
      rw [if_pos rfl, hc, h45, e, List.take_succ_cons]
  · intro e
    have := congrArg List.length e
    rw [List.length_take, List.length_drop, ba_len, List.length_nil] at this
    omega
  · intro c hc'
    obtain ⟨i, hi, rfl⟩ := List.getElem_of_mem hc'
    rw [List.getElem_take, List.getElem_drop]
    rw [List.length_take, List.length_drop, ba_len] at hi
    exact hr (F + i) (by omega) (by omega) (by omega)
theorem head_of {s : ByteArray} {F k : Nat} (hF : F < s.size) (hk : F < k) : ((s.data.toList.drop F).take (k - F)).head? = some s[F] := by
  have hc : s.data.toList.drop F = s[F] :: s.data.toList.drop (F + 1) := List.drop_eq_getElem_cons (by rw [ba_len]; exact hF)
  have e : k - F = (k - F - 1) + 1 := by omega
  rw [hc, e, List.take_succ_cons]; rfl
theorem len_of {s : ByteArray} {F k : Nat} (hk : F ≤ k) (hks : k ≤ s.size) : ((s.data.toList.drop F).take (k - F)).length = k - F := by
  rw [List.length_take, List.length_drop, ba_len]; omega

def numTK (o : Option Int) (l : List UInt8) : Int × TK := match o with
  | some v => (0, ⟨2, l, v⟩)
  | none => (33, tk0)
/-- What the reading of a number comes to, of its parts. -/
theorem nx_parts {s : ByteArray} {at_ F k : Nat} {neg : Bool} (ha : at_ < s.size) (hs : smallB s[at_] = false) (hn : (s[at_] == 45) = neg) (hF : F = at_ + neg.toNat) (hk : F < k) (hks : k ≤ s.size) (hr : Runs digB s F k) (hl : ((s.data.toList.drop F).takeWhile digB).length = k - F) (hFs : F < s.size) :
    nextT (s.data.toList.drop at_) = if s[F] = 48 ∧ (neg = true ∨ 1 < k - F) then (20, tk0) else numTK (valB neg (ddec 0 ((s.data.toList.drop F).take (k - F)))) ((s.data.toList.drop at_).take (k - at_)) := by
  have hnl := nl_of ha hn hF (by omega) hl
  rw [if_neg (by omega)] at hnl
  have hN := digs_of ha hn hF hk hks hr
  have hV := isNum_val hN
  have hpos : 0 < numLen (s.data.toList.drop at_) := by rw [hnl]; cases neg <;> simp at hF <;> omega
  rw [nx_num ha hs hpos, hnl, hV]
  rw [head_of hFs hk, len_of (by omega) hks]
  have hb : (some s[F] == some (48 : UInt8) && (neg || decide (1 < k - F))) = true ↔ (s[F] = 48 ∧ (neg = true ∨ 1 < k - F)) := by simp
  by_cases hz : s[F] = 48 ∧ (neg = true ∨ 1 < k - F)
  · rw [if_pos (hb.2 hz), if_pos hz]; rfl
  · rw [if_neg (fun h => hz (hb.1 h)), if_neg hz]
    cases valB neg (ddec 0 ((s.data.toList.drop F).take (k - F))) <;> rfl

set_option maxRecDepth 100000 in
set_option maxHeartbeats 8000000 in
theorem ref_One_num (w : World) (s : ByteArray) (at_ : Nat) (ha : at_ < s.size) (hs : s.size ≤ 100000) (hsm : smallB s[at_] = false) (hn : 0 < numLen (s.data.toList.drop at_)) :
    Calls Tryd.prog 79 #[.string s, .int .i64 at_] w fun e w' => e = .returned (oneV (nextT (s.data.toList.drop at_)) at_) ∧ Fr Nob w w' := by
  have HSM := Lib.hid hsm
  have HS := Lib.hid (fun W => ref_letter W s[at_])
  rw [hsm] at HS
  have HPOS := Lib.hid hn
  clear hsm hn
  have haI : (at_ : Int) < s.size := by omega
  by_cases h45 : s[at_] = 45
  · have HNEG := Lib.hid (show (s[at_] == 45) = true by simpa using h45)
    have e45 : ((s[at_].toNat : Int) == 45) = true := by rw [u8_eq (n := 45) h45 rfl]; rfl
    clear h45
    go_enter Tryd.func79, Tryd.ntmps79
    go_wp2_with ((go_at_call 135); refine (HS.out _).mono ?_; rintro e w' ⟨rfl, rfl⟩)
    obtain ⟨F, HFq⟩ : ∃ F : Nat, Hid (F = at_ + true.toNat) := ⟨_, Lib.hid rfl⟩
    have hFe : (at_ : Int) + 1 = (F : Int) := by rw [HFq.out]; simp
    rw [hFe]
    have hFat : (at_ : Int) < F := by omega
    have hFn : F ≤ s.size := by omega
    clear hFe
    go_loop [8] (fun i => ∃ k : Nat, F ≤ k ∧ k ≤ s.size ∧ i = .int .i64 k ∧ Hid (Runs digB s F k)) (fun i => s.size - (intOf i).toNat)
    case atStart => exact ⟨F, Nat.le_refl _, hFn, rfl, Lib.hid (Runs.start _ _ _)⟩
    case round =>
      obtain ⟨k, hk0, hk, rfl, hd⟩ := hrel
      by_cases hlt : k < s.size
      · have hI : (k : Int) < s.size := by omega
        have HD2 := Lib.hid (fun W => ref_digit W s[k])
        have HN := Lib.hid (fun h => hd.out.next hlt h)
        have HE := Lib.hid (fun (h : digB s[k] = false) => hd.out.len hk0 hk (fun _ => h))
        generalize digB s[k] = b2 at *
        cases b2
        · have HLEN := Lib.hid (HE.out rfl)
          have hkF : F < k := by
            have h := HPOS.out
            rw [nl_of ha HNEG.out HFq.out hk0 HLEN.out] at h
            split at h <;> omega
          have hFs : F < s.size := by omega
          clear HE HN
          have HR0 := Lib.hid (nx_parts ha HSM.out HNEG.out HFq.out hkF hk hd.out HLEN.out hFs)
          have HDG := Lib.hid (digs_of ha HNEG.out HFq.out hkF hk hd.out)
          have HSL := Lib.hid (cut_mid s F k)
          have HSA := Lib.hid (cut_mid s at_ k)
          have HVL := Lib.hid (fun W => ref_value W (s.extract F k) true (by rw [HSL.out]; exact HDG.out.2.2) (by rw [ByteArray.size_extract]; omega))
          rw [show (s.extract F k).data.toList = (s.data.toList.drop F).take (k - F) from by rw [HSL.out]] at HVL
          generalize valB true (ddec 0 ((s.data.toList.drop F).take (k - F))) = o at *
          have hFI : (F : Int) < s.size := by omega
          have hFk : (F : Int) ≤ k := by omega
          have hak : (at_ : Int) ≤ k := by omega
          have hkFI : (F : Int) < k := by omega
          by_cases hz : s[F] = 48 ∧ (true = true ∨ 1 < k - F)
          · have HR := Lib.hid (HR0.out.trans (if_pos hz))
            have e0 := u8_eq (n := 48) hz.1 rfl
            (skip)
            clear hz
            go_wp2_with (first | ((go_at_call 136); refine (HD2.out _).mono ?_; rintro e w' ⟨rfl, rfl⟩) | ((go_at_call 137); refine (HVL.out _).mono ?_; rintro e w' ⟨rfl, rfl⟩; unfold valOf))
            all_goals
              refine bodyPost_ret (v := .tuple #[.agg (tkv tk0 0), .int .i64 20]) (by simp [results, Tryd.results79, go_sem]; rfl) rfl ⟨?_, ?_⟩
              · rw [HR.out]; exact ret1 (oneV_err (by decide) _).symm
              · exact (Fr.refl Nob w).alloc _
          · have HR := Lib.hid (HR0.out.trans (if_neg hz))
            by_cases h48 : s[F] = 48
            ·
              exact absurd ⟨h48, .inl rfl⟩ hz
            · have e0 := u8_ne (n := 48) h48 rfl
              clear hz h48
              cases o with
              | some v =>
                go_wp2_with (first | ((go_at_call 136); refine (HD2.out _).mono ?_; rintro e w' ⟨rfl, rfl⟩) | ((go_at_call 137); refine (HVL.out _).mono ?_; rintro e w' ⟨rfl, rfl⟩; unfold valOf))
                refine bodyPost_ret (v := .tuple #[.agg (tkv ⟨2, (s.data.toList.drop at_).take (k - at_), v⟩ at_), .int .i64 0]) (by simp [results, Tryd.results79, go_sem, tkv, HSA.out]) rfl ⟨?_, ?_⟩
                · rw [HR.out]; exact ret1 (oneV_ok _ _).symm
                · exact (Fr.refl Nob w).alloc _
              | none =>
                go_wp2_with (first | ((go_at_call 136); refine (HD2.out _).mono ?_; rintro e w' ⟨rfl, rfl⟩) | ((go_at_call 137); refine (HVL.out _).mono ?_; rintro e w' ⟨rfl, rfl⟩; unfold valOf))
                refine bodyPost_ret (v := .tuple #[.agg (tkv tk0 0), .int .i64 33]) (by simp [results, Tryd.results79, go_sem]; rfl) rfl ⟨?_, ?_⟩
                · rw [HR.out]; exact ret1 (oneV_err (by decide) _).symm
                · exact (Fr.refl Nob w).alloc _
        · have HF := Lib.hid (HN.out rfl)
          clear HE HN
          go_wp2_with ((go_at_call 136); refine (HD2.out _).mono ?_; rintro e w' ⟨rfl, rfl⟩)
          go_round
          case rel => exact ⟨k + 1, by omega, by omega, by go_num, HF⟩
          case measure => simp [intOf]; omega
      · have hI : ¬ (k : Int) < s.size := by omega
        have HLEN := Lib.hid (hd.out.len hk0 hk (fun h => absurd h hlt))
        have hkF : F < k := by
          have h := HPOS.out
          rw [nl_of ha HNEG.out HFq.out hk0 HLEN.out] at h
          split at h <;> omega
        have hFs : F < s.size := by omega
        clear hlt
        have HR0 := Lib.hid (nx_parts ha HSM.out HNEG.out HFq.out hkF hk hd.out HLEN.out hFs)
        have HDG := Lib.hid (digs_of ha HNEG.out HFq.out hkF hk hd.out)
        have HSL := Lib.hid (cut_mid s F k)
        have HSA := Lib.hid (cut_mid s at_ k)
        have HVL := Lib.hid (fun W => ref_value W (s.extract F k) true (by rw [HSL.out]; exact HDG.out.2.2) (by rw [ByteArray.size_extract]; omega))
        rw [show (s.extract F k).data.toList = (s.data.toList.drop F).take (k - F) from by rw [HSL.out]] at HVL
        generalize valB true (ddec 0 ((s.data.toList.drop F).take (k - F))) = o at *
        have hFI : (F : Int) < s.size := by omega
        have hFk : (F : Int) ≤ k := by omega
        have hak : (at_ : Int) ≤ k := by omega
        have hkFI : (F : Int) < k := by omega
        by_cases hz : s[F] = 48 ∧ (true = true ∨ 1 < k - F)
        · have HR := Lib.hid (HR0.out.trans (if_pos hz))
          have e0 := u8_eq (n := 48) hz.1 rfl
          (skip)
          clear hz
          go_wp2_with ((go_at_call 137); refine (HVL.out _).mono ?_; rintro e w' ⟨rfl, rfl⟩; unfold valOf)
          all_goals
            refine bodyPost_ret (v := .tuple #[.agg (tkv tk0 0), .int .i64 20]) (by simp [results, Tryd.results79, go_sem]; rfl) rfl ⟨?_, ?_⟩
            · rw [HR.out]; exact ret1 (oneV_err (by decide) _).symm
            · exact (Fr.refl Nob w).alloc _
        · have HR := Lib.hid (HR0.out.trans (if_neg hz))
          by_cases h48 : s[F] = 48
          ·
            exact absurd ⟨h48, .inl rfl⟩ hz
          · have e0 := u8_ne (n := 48) h48 rfl
            clear hz h48
            cases o with
            | some v =>
              go_wp2_with ((go_at_call 137); refine (HVL.out _).mono ?_; rintro e w' ⟨rfl, rfl⟩; unfold valOf)
              refine bodyPost_ret (v := .tuple #[.agg (tkv ⟨2, (s.data.toList.drop at_).take (k - at_), v⟩ at_), .int .i64 0]) (by simp [results, Tryd.results79, go_sem, tkv, HSA.out]) rfl ⟨?_, ?_⟩
              · rw [HR.out]; exact ret1 (oneV_ok _ _).symm
              · exact (Fr.refl Nob w).alloc _
            | none =>
              go_wp2_with ((go_at_call 137); refine (HVL.out _).mono ?_; rintro e w' ⟨rfl, rfl⟩; unfold valOf)
              refine bodyPost_ret (v := .tuple #[.agg (tkv tk0 0), .int .i64 33]) (by simp [results, Tryd.results79, go_sem]; rfl) rfl ⟨?_, ?_⟩
              · rw [HR.out]; exact ret1 (oneV_err (by decide) _).symm
              · exact (Fr.refl Nob w).alloc _
  · have HNEG := Lib.hid (show (s[at_] == 45) = false by simpa using h45)
    have e45 := u8_ne (n := 45) h45 rfl
    clear h45
    go_enter Tryd.func79, Tryd.ntmps79
    go_wp2_with ((go_at_call 135); refine (HS.out _).mono ?_; rintro e w' ⟨rfl, rfl⟩)
    have HFq : Hid (at_ = at_ + false.toNat) := Lib.hid rfl
    go_loop [8] (fun i => ∃ k : Nat, at_ ≤ k ∧ k ≤ s.size ∧ i = .int .i64 k ∧ Hid (Runs digB s at_ k)) (fun i => s.size - (intOf i).toNat)
    case atStart => exact ⟨at_, by omega, by omega, rfl, Lib.hid (Runs.start _ _ _)⟩
    case round =>
      obtain ⟨k, hk0, hk, rfl, hd⟩ := hrel
      by_cases hlt : k < s.size
      · have hI : (k : Int) < s.size := by omega
        have HD2 := Lib.hid (fun W => ref_digit W s[k])
        have HN := Lib.hid (fun h => hd.out.next hlt h)
        have HE := Lib.hid (fun (h : digB s[k] = false) => hd.out.len hk0 hk (fun _ => h))
        generalize digB s[k] = b2 at *
        cases b2
        · have HLEN := Lib.hid (HE.out rfl)
          have hkF : at_ < k := by
            have h := HPOS.out
            rw [nl_of ha HNEG.out HFq.out hk0 HLEN.out] at h
            split at h <;> omega
          have hFs : at_ < s.size := by omega
          clear HE HN
          have HR0 := Lib.hid (nx_parts ha HSM.out HNEG.out HFq.out hkF hk hd.out HLEN.out hFs)
          have HDG := Lib.hid (digs_of ha HNEG.out HFq.out hkF hk hd.out)
          have HSL := Lib.hid (cut_mid s at_ k)
          have HSA := Lib.hid (cut_mid s at_ k)
          have HVL := Lib.hid (fun W => ref_value W (s.extract at_ k) false (by rw [HSL.out]; exact HDG.out.2.2) (by rw [ByteArray.size_extract]; omega))
          rw [show (s.extract at_ k).data.toList = (s.data.toList.drop at_).take (k - at_) from by rw [HSL.out]] at HVL
          generalize valB false (ddec 0 ((s.data.toList.drop at_).take (k - at_))) = o at *
          have hFI : (at_ : Int) < s.size := by omega
          have hFk : (at_ : Int) ≤ k := by omega
          have hak : (at_ : Int) ≤ k := by omega
          have hkFI : (at_ : Int) < k := by omega
          by_cases hz : s[at_] = 48 ∧ (false = true ∨ 1 < k - at_)
          · have HR := Lib.hid (HR0.out.trans (if_pos hz))
            have e0 := u8_eq (n := 48) hz.1 rfl
            (have hz1 : (1 : Int) < (k : Int) - at_ := by have := hz.2; simp at this; omega)
            clear hz
            go_wp2_with (first | ((go_at_call 136); refine (HD2.out _).mono ?_; rintro e w' ⟨rfl, rfl⟩) | ((go_at_call 137); refine (HVL.out _).mono ?_; rintro e w' ⟨rfl, rfl⟩; unfold valOf))
            all_goals
              refine bodyPost_ret (v := .tuple #[.agg (tkv tk0 0), .int .i64 20]) (by simp [results, Tryd.results79, go_sem]; rfl) rfl ⟨?_, ?_⟩
              · rw [HR.out]; exact ret1 (oneV_err (by decide) _).symm
              · exact (Fr.refl Nob w).alloc _
          · have HR := Lib.hid (HR0.out.trans (if_neg hz))
            by_cases h48 : s[at_] = 48
            ·
              have e0 := u8_eq (n := 48) h48 rfl
              have hz1 : (k : Int) - at_ ≤ 1 := by simp [h48] at hz; omega
              clear hz h48
              cases o with
              | some v =>
                go_wp2_with (first | ((go_at_call 136); refine (HD2.out _).mono ?_; rintro e w' ⟨rfl, rfl⟩) | ((go_at_call 137); refine (HVL.out _).mono ?_; rintro e w' ⟨rfl, rfl⟩; unfold valOf))
                refine bodyPost_ret (v := .tuple #[.agg (tkv ⟨2, (s.data.toList.drop at_).take (k - at_), v⟩ at_), .int .i64 0]) (by simp [results, Tryd.results79, go_sem, tkv, HSA.out]) rfl ⟨?_, ?_⟩
                · rw [HR.out]; exact ret1 (oneV_ok _ _).symm
                · exact (Fr.refl Nob w).alloc _
              | none =>
                go_wp2_with (first | ((go_at_call 136); refine (HD2.out _).mono ?_; rintro e w' ⟨rfl, rfl⟩) | ((go_at_call 137); refine (HVL.out _).mono ?_; rintro e w' ⟨rfl, rfl⟩; unfold valOf))
                refine bodyPost_ret (v := .tuple #[.agg (tkv tk0 0), .int .i64 33]) (by simp [results, Tryd.results79, go_sem]; rfl) rfl ⟨?_, ?_⟩
                · rw [HR.out]; exact ret1 (oneV_err (by decide) _).symm
                · exact (Fr.refl Nob w).alloc _
            · have e0 := u8_ne (n := 48) h48 rfl
              clear hz h48
              cases o with
              | some v =>
                go_wp2_with (first | ((go_at_call 136); refine (HD2.out _).mono ?_; rintro e w' ⟨rfl, rfl⟩) | ((go_at_call 137); refine (HVL.out _).mono ?_; rintro e w' ⟨rfl, rfl⟩; unfold valOf))
                refine bodyPost_ret (v := .tuple #[.agg (tkv ⟨2, (s.data.toList.drop at_).take (k - at_), v⟩ at_), .int .i64 0]) (by simp [results, Tryd.results79, go_sem, tkv, HSA.out]) rfl ⟨?_, ?_⟩
                · rw [HR.out]; exact ret1 (oneV_ok _ _).symm
                · exact (Fr.refl Nob w).alloc _
              | none =>
                go_wp2_with (first | ((go_at_call 136); refine (HD2.out _).mono ?_; rintro e w' ⟨rfl, rfl⟩) | ((go_at_call 137); refine (HVL.out _).mono ?_; rintro e w' ⟨rfl, rfl⟩; unfold valOf))
                refine bodyPost_ret (v := .tuple #[.agg (tkv tk0 0), .int .i64 33]) (by simp [results, Tryd.results79, go_sem]; rfl) rfl ⟨?_, ?_⟩
                · rw [HR.out]; exact ret1 (oneV_err (by decide) _).symm
                · exact (Fr.refl Nob w).alloc _
        · have HF := Lib.hid (HN.out rfl)
          clear HE HN
          go_wp2_with ((go_at_call 136); refine (HD2.out _).mono ?_; rintro e w' ⟨rfl, rfl⟩)
          go_round
          case rel => exact ⟨k + 1, by omega, by omega, by go_num, HF⟩
          case measure => simp [intOf]; omega
      · have hI : ¬ (k : Int) < s.size := by omega
        have HLEN := Lib.hid (hd.out.len hk0 hk (fun h => absurd h hlt))
        have hkF : at_ < k := by
          have h := HPOS.out
          rw [nl_of ha HNEG.out HFq.out hk0 HLEN.out] at h
          split at h <;> omega
        have hFs : at_ < s.size := by omega
        clear hlt
        have HR0 := Lib.hid (nx_parts ha HSM.out HNEG.out HFq.out hkF hk hd.out HLEN.out hFs)
        have HDG := Lib.hid (digs_of ha HNEG.out HFq.out hkF hk hd.out)
        have HSL := Lib.hid (cut_mid s at_ k)
        have HSA := Lib.hid (cut_mid s at_ k)
        have HVL := Lib.hid (fun W => ref_value W (s.extract at_ k) false (by rw [HSL.out]; exact HDG.out.2.2) (by rw [ByteArray.size_extract]; omega))
        rw [show (s.extract at_ k).data.toList = (s.data.toList.drop at_).take (k - at_) from by rw [HSL.out]] at HVL
        generalize valB false (ddec 0 ((s.data.toList.drop at_).take (k - at_))) = o at *
        have hFI : (at_ : Int) < s.size := by omega
        have hFk : (at_ : Int) ≤ k := by omega
        have hak : (at_ : Int) ≤ k := by omega
        have hkFI : (at_ : Int) < k := by omega
        by_cases hz : s[at_] = 48 ∧ (false = true ∨ 1 < k - at_)
        · have HR := Lib.hid (HR0.out.trans (if_pos hz))
          have e0 := u8_eq (n := 48) hz.1 rfl
          (have hz1 : (1 : Int) < (k : Int) - at_ := by have := hz.2; simp at this; omega)
          clear hz
          go_wp2_with ((go_at_call 137); refine (HVL.out _).mono ?_; rintro e w' ⟨rfl, rfl⟩; unfold valOf)
          all_goals
            refine bodyPost_ret (v := .tuple #[.agg (tkv tk0 0), .int .i64 20]) (by simp [results, Tryd.results79, go_sem]; rfl) rfl ⟨?_, ?_⟩
            · rw [HR.out]; exact ret1 (oneV_err (by decide) _).symm
            · exact (Fr.refl Nob w).alloc _
        · have HR := Lib.hid (HR0.out.trans (if_neg hz))
          by_cases h48 : s[at_] = 48
          ·
            have e0 := u8_eq (n := 48) h48 rfl
            have hz1 : (k : Int) - at_ ≤ 1 := by simp [h48] at hz; omega
            clear hz h48
            cases o with
            | some v =>
              go_wp2_with ((go_at_call 137); refine (HVL.out _).mono ?_; rintro e w' ⟨rfl, rfl⟩; unfold valOf)
              refine bodyPost_ret (v := .tuple #[.agg (tkv ⟨2, (s.data.toList.drop at_).take (k - at_), v⟩ at_), .int .i64 0]) (by simp [results, Tryd.results79, go_sem, tkv, HSA.out]) rfl ⟨?_, ?_⟩
              · rw [HR.out]; exact ret1 (oneV_ok _ _).symm
              · exact (Fr.refl Nob w).alloc _
            | none =>
              go_wp2_with ((go_at_call 137); refine (HVL.out _).mono ?_; rintro e w' ⟨rfl, rfl⟩; unfold valOf)
              refine bodyPost_ret (v := .tuple #[.agg (tkv tk0 0), .int .i64 33]) (by simp [results, Tryd.results79, go_sem]; rfl) rfl ⟨?_, ?_⟩
              · rw [HR.out]; exact ret1 (oneV_err (by decide) _).symm
              · exact (Fr.refl Nob w).alloc _
          · have e0 := u8_ne (n := 48) h48 rfl
            clear hz h48
            cases o with
            | some v =>
              go_wp2_with ((go_at_call 137); refine (HVL.out _).mono ?_; rintro e w' ⟨rfl, rfl⟩; unfold valOf)
              refine bodyPost_ret (v := .tuple #[.agg (tkv ⟨2, (s.data.toList.drop at_).take (k - at_), v⟩ at_), .int .i64 0]) (by simp [results, Tryd.results79, go_sem, tkv, HSA.out]) rfl ⟨?_, ?_⟩
              · rw [HR.out]; exact ret1 (oneV_ok _ _).symm
              · exact (Fr.refl Nob w).alloc _
            | none =>
              go_wp2_with ((go_at_call 137); refine (HVL.out _).mono ?_; rintro e w' ⟨rfl, rfl⟩; unfold valOf)
              refine bodyPost_ret (v := .tuple #[.agg (tkv tk0 0), .int .i64 33]) (by simp [results, Tryd.results79, go_sem]; rfl) rfl ⟨?_, ?_⟩
              · rw [HR.out]; exact ret1 (oneV_err (by decide) _).symm
              · exact (Fr.refl Nob w).alloc _
end Go.Proofs.YtfebkjoohnlifaaDoor
