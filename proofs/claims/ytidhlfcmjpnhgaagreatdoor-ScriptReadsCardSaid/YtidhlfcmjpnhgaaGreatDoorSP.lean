/- A word's proposition: the reference. -/
import Derived.Test.YtidhlfcmjpnhgaaGreatDoorSO
import Derived.Test.YtidhlfcmjpnhgaaGreatDoorST
import Derived.Test.YtidhlfcmjpnhgaaGreatDoorSI
import Derived.Test.YtidhlfcmjpnhgaaGreatDoorSQ
import Derived.Test.YtidhlfcmjpnhgaaGreatDoorSJ
namespace Go.Proofs.YtidhlfcmjpnhgaaGreatDoor
open Go.RowKit Go.Lib

theorem cut_at {s : ByteArray} {m : Nat} (hm : m < s.size) (h : s[m] = 61) (hb : Runs (fun c => c != 61) s 0 m) : cutB s = true ∧ cutN s = s.extract 0 m ∧ cutV s = s.extract (m + 1) s.size := by
  have hl : s.data.toList.length = s.size := by simp
  have hs : s.data.toList = s.data.toList.take m ++ 61 :: s.data.toList.drop (m + 1) := by
    have := ba_drop hm
    rw [h] at this
    rw [← this, List.take_append_drop]
  have ht : ∀ c ∈ s.data.toList.take m, c ≠ 61 := by
    intro c hc
    obtain ⟨i, hi, rfl⟩ := List.mem_iff_getElem.1 hc
    have hi2 : i < m := by rw [List.length_take] at hi; omega
    have := hb i (by omega) (Nat.zero_le _) hi2
    rw [List.getElem_take, ba_get s i (by omega)]
    simpa using this
  obtain ⟨t1, t2⟩ := takeW (r := s.data.toList.drop (m + 1)) ht
  rw [← hs] at t1 t2
  have hmem : (61 : UInt8) ∈ s.data.toList := by rw [hs]; simp
  refine ⟨by unfold cutB; rw [cut_eq, if_pos hmem], ?_, ?_⟩
  · unfold cutN
    rw [cut_eq, if_pos hmem]
    simp only
    rw [t1]
    apply ByteArray.ext
    apply Array.toList_inj.1
    rw [Lib.extract_data]
    simp
  · unfold cutV
    rw [cut_eq, if_pos hmem]
    simp only
    rw [t2]
    apply ByteArray.ext
    apply Array.toList_inj.1
    rw [Lib.extract_data, List.take_of_length_le (by rw [List.length_drop]; omega)]
theorem cut_no {s : ByteArray} (hb : Runs (fun c => c != 61) s 0 s.size) : cutB s = false := by
  have hl : s.data.toList.length = s.size := by simp
  have hmem : (61 : UInt8) ∉ s.data.toList := by
    intro hc
    obtain ⟨i, hi, he⟩ := List.mem_iff_getElem.1 hc
    have := hb i (by omega) (Nat.zero_le _) (by omega)
    rw [ba_get s i (by omega)] at he
    rw [he] at this
    simp at this
  unfold cutB
  rw [cut_eq, if_neg hmem]
theorem natC_zero {l : List UInt8} (h : natC l = some 0) : l = [48] := by
  obtain ⟨n1, n2, n3⟩ := natC_inv h
  cases l with
  | nil => exact absurd rfl n1
  | cons c r =>
    have hc : digB c = true := List.all_eq_true.1 n2 c (by simp)
    have h1 := ddec_ge r (dstep 0 c)
    have h0 : dstep 0 c = 0 := by
      have : ddec (dstep 0 c) r = 0 := n3.symm
      omega
    have hc2 : c = 48 := by
      unfold digB at hc
      unfold dstep at h0
      simp at hc
      exact UInt8.toNat_inj.1 (by rw [show (48 : UInt8).toNat = 48 from rfl]; omega)
    subst hc2
    cases r with
    | nil => rfl
    | cons d r =>
      unfold natC at h
      rw [if_pos (.inr (.inr ⟨by simp, rfl⟩))] at h
      cases h
def PrpR (o : Option (PP × Bool)) : Value := match o with
  | none => .tuple #[.agg #[.string ⟨#[]⟩, .int .i64 0], .bool false, .bool false]
  | some (p, f) => .tuple #[.agg (if f = true then #[.string p.name, .int .i64 p.value] else #[.string ⟨#[]⟩, .int .i64 0]), .bool true, .bool f]
theorem num_none {M : Nat} {l : List UInt8} {e : Ending} (h : natC l = none) (hr : NumR M (natC l) e) : e = .returned (.tuple #[.int .u64 0, .bool false, .bool false]) := by rw [h] at hr; exact hr
theorem num_fit {M v : Nat} {l : List UInt8} {e : Ending} (h : natC l = some v) (hv : v ≤ M) (hr : NumR M (natC l) e) : e = .returned (.tuple #[.int .u64 v, .bool true, .bool true]) := by
  rw [h] at hr
  obtain ⟨n, h1, h2, h3⟩ := hr
  rw [h3, h1 hv, decide_eq_true hv]
theorem num_far {M v : Nat} {l : List UInt8} {e : Ending} (h : natC l = some v) (hv : M < v) (hr : NumR M (natC l) e) : ∃ n : Nat, n ≤ M ∧ e = .returned (.tuple #[.int .u64 n, .bool true, .bool false]) := by
  rw [h] at hr
  obtain ⟨n, h1, h2, h3⟩ := hr
  exact ⟨n, h2, by rw [h3, decide_eq_false (by omega)]⟩
set_option maxRecDepth 100000 in
set_option maxHeartbeats 4000000 in
theorem ref_prop (w : World) (s : ByteArray) (hs : s.size ≤ 100000) : Calls Tryz.prog 45 #[.string s] w fun e w' => e = .returned (PrpR (propC s.data.toList)) ∧ Fr Nob w w' := by
  have HPC := Lib.hid (propC_cut s)
  go_enter Tryz.func45, Tryz.ntmps45
  go_wp2_with fail
  go_loop [5, 6] (fun kv iv => ∃ i : Nat, i ≤ s.size ∧ iv = .int .i64 i ∧ ((kv = .int .i64 (-1) ∧ Hid (Runs (fun c => c != 61) s 0 i)) ∨ (∃ (m : Nat) (hm : m < s.size), kv = .int .i64 m ∧ Hid (Runs (fun c => c != 61) s 0 m) ∧ Hid (s[m] = 61)))) (fun _ iv => s.size - (RowKit.intOf iv).toNat)
  case atStart => exact ⟨0, Nat.zero_le _, rfl, .inl ⟨rfl, Lib.hid (Runs.start _ _ _)⟩⟩
  case round =>
    obtain ⟨i, hi, rfl, ⟨rfl, hr⟩ | ⟨m, hm, rfl, hr, h61⟩⟩ := hrel
    · by_cases hlt : i < s.size
      · have hI : (i : Int) < s.size := by omega
        have hI3 : 0 ≤ (i : Int) := by omega
        by_cases h6 : s[i] = 61
        · have hb : ((s[i].toNat : Int) == 61) = true := by rw [h6]; rfl
          have H61 := Lib.hid h6
          clear h6
          go_wp2_with fail
          go_round
          case rel => exact ⟨i + 1, by omega, by go_num, .inr ⟨i, hlt, rfl, hr, H61⟩⟩
          case measure => simp [RowKit.intOf]; omega
        · have hb : ((s[i].toNat : Int) == 61) = false := by rw [beq_eq_false_iff_ne]; intro e; exact h6 (UInt8.toNat_inj.1 (by have : (61 : UInt8).toNat = 61 := rfl; omega))
          have HN := Lib.hid (hr.out.next hlt (show (s[i] != 61) = true by simpa using h6))
          clear h6
          go_wp2_with fail
          go_round
          case rel => exact ⟨i + 1, by omega, by go_num, .inl ⟨rfl, HN⟩⟩
          case measure => simp [RowKit.intOf]; omega
      · have hI : ¬ (i : Int) < s.size := by omega
        obtain rfl : i = s.size := by omega
        have HR := Lib.hid (show propC s.data.toList = none by rw [HPC.out, cut_no hr.out]; simp)
        clear HPC
        go_wp2_with fail
        refine bodyPost_ret (v := .tuple #[.agg #[.string ⟨#[]⟩, .int .i64 0], .bool false, .bool false]) (by simp [results, Tryz.results45, go_sem]) rfl ?_
        exact ⟨by rw [HR.out]; rfl, (Fr.refl _ _).alloc _⟩
    · obtain ⟨c1, c2, c3⟩ := cut_at hm h61.out hr.out
      rw [c1, c2, c3] at HPC
      have hmI : (m : Int) < s.size := by omega
      have hmI2 : (m : Int) + 1 ≤ s.size := by omega
      have hm0 : 0 ≤ (m : Int) := by omega
      have hm1 : (m : Int) ≤ s.size := by omega
      have hxs : (s.extract 0 m).size ≤ 100000 := by rw [ByteArray.size_extract]; omega
      have hvs : (s.extract (m + 1) s.size).size ≤ 100000 := by rw [ByteArray.size_extract]; omega
      have HNM := Lib.hid (fun W => ref_Name W (s.extract 0 m) (by omega))
      clear c1 c2 c3 hr h61
      go_upto_region 7 with fail
      all_goals
        cases hnm : nmOk (s.extract 0 m) with
        | false =>
          rw [hnm] at HNM HPC
          have HR := Lib.hid (show propC s.data.toList = none by rw [HPC.out]; simp)
          clear HPC hnm
          go_wp2_with (first
            | ((go_at_call 67); (with_reducible refine (HNM.out _).mono ?_); rintro e w2 ⟨rfl, rfl⟩)
            | fail)
          refine bodyPost_ret (v := .tuple #[.agg #[.string ⟨#[]⟩, .int .i64 0], .bool false, .bool false]) (by simp [results, Tryz.results45, go_sem]) rfl ?_
          exact ⟨by rw [HR.out]; rfl, (Fr.refl _ _).alloc _⟩
        | true =>
          rw [hnm] at HNM HPC
          simp only [and_self, if_true] at HPC
          clear hnm
          go_upto_region 10 with (first
            | ((go_at_call 67); (with_reducible refine (HNM.out _).mono ?_); rintro e w2 ⟨rfl, rfl⟩)
            | fail)
          have HX := Lib.hid (show s.extract 0 m = s.extract 0 m from rfl)
          generalize s.extract (m + 1) s.size = V at *
          have hlV : V.data.toList.length = V.size := by simp
          by_cases hv0 : V.size = 0
          · have hnil : V.data.toList = [] := by rw [← List.length_eq_zero_iff, hlV, hv0]
            have hn : natC V.data.toList = none := by unfold natC; rw [if_pos (.inl hnil)]
            have HR := Lib.hid (show propC s.data.toList = none by rw [HPC.out, hnil]; rfl)
            have he : (V.toList == []) = true := by rw [ByteArray.toList_eq, hnil]; rfl
            have HNU := Lib.hid (fun W => (ref_number W V 9223372036854775807 hvs (by omega)).mono fun e w' ⟨h1, h2⟩ => (⟨num_none hn h1, h2⟩ : _ ∧ _))
            clear HPC hn hnil hlV
            simp only [Int.cast_ofNat_Int] at HNU
            go_wp2_with (first
              | ((go_at_call 67); (with_reducible refine (HNM.out _).mono ?_); rintro e w2 ⟨rfl, rfl⟩)
              | ((go_at_call 42); (with_reducible refine (HNU.out _).mono ?_); rintro e w2 ⟨rfl, rfl⟩)
              | fail)
            refine bodyPost_ret (v := .tuple #[.agg #[.string ⟨#[]⟩, .int .i64 0], .bool false, .bool false]) (by simp [results, Tryz.results45, go_sem]) rfl ?_
            exact ⟨by rw [HR.out]; rfl, (Fr.refl _ _).alloc _⟩
          · have hpos : 0 < V.size := by omega
            have hposI : (0 : Int) < V.size := by omega
            have hne : V.data.toList ≠ [] := fun e => hv0 (by rw [← hlV, e]; rfl)
            have he : (V.toList == []) = false := by rw [ByteArray.toList_eq, beq_eq_false_iff_ne]; exact hne
            have hhd : V.data.toList.head? = some V[0] := by rw [list_cons V hpos]; rfl
            by_cases h45 : V[0] = 45
            · have hb : ((V[0].toNat : Int) == 45) = true := by rw [h45]; rfl
              have hU : (V.extract 1 V.size).data.toList = V.data.toList.tail := by
                rw [Lib.extract_data, List.take_of_length_le (by rw [List.length_drop]; omega), List.drop_one]
              have hus : (V.extract 1 V.size).size ≤ 100000 := by rw [ByteArray.size_extract]; omega
              have h1I : (1 : Int) ≤ V.size := by omega
              have hval : valueC V.data.toList = match natC (V.extract 1 V.size).data.toList with
                  | none => none
                  | some n => if (V.extract 1 V.size).data.toList = [48] then none else if n ≤ 9223372036854775808 then some (-(n : Int), true) else some (0, false) := by
                unfold valueC
                rw [if_pos (by rw [hhd, h45]), hU]
                cases natC V.data.toList.tail <;> rfl
              rw [hval] at HPC
              clear hval hhd h45 hne
              cases hn : natC (V.extract 1 V.size).data.toList with
              | none =>
                have HR := Lib.hid (show propC s.data.toList = none by rw [HPC.out, hn])
                have HNU := Lib.hid (fun W => (ref_number W (V.extract 1 V.size) 9223372036854775808 hus (by omega)).mono fun e w' ⟨h1, h2⟩ => (⟨num_none hn h1, h2⟩ : _ ∧ _))
                clear HPC hn hU hlV
                simp only [Int.cast_ofNat_Int] at HNU
                go_wp2_with (first
                  | ((go_at_call 67); (with_reducible refine (HNM.out _).mono ?_); rintro e w2 ⟨rfl, rfl⟩)
                  | ((go_at_call 42); (with_reducible refine (HNU.out _).mono ?_); rintro e w2 ⟨rfl, rfl⟩)
                  | fail)
                refine bodyPost_ret (v := .tuple #[.agg #[.string ⟨#[]⟩, .int .i64 0], .bool false, .bool false]) (by simp [results, Tryz.results45, go_sem]) rfl ?_
                exact ⟨by rw [HR.out]; rfl, (Fr.refl _ _).alloc _⟩
              | some v =>
                rw [hn] at HPC
                simp only at HPC
                by_cases h48 : (V.extract 1 V.size).data.toList = [48]
                · have HR := Lib.hid (show propC s.data.toList = none by rw [HPC.out, if_pos h48])
                  have hv : v = 0 := by rw [h48] at hn; have : natC [48] = some 0 := by decide
                                        rw [this] at hn; injection hn with hn; exact hn.symm
                  have he2 : ((V.extract 1 V.size).toList == [48]) = true := by rw [ByteArray.toList_eq, h48]; rfl
                  have HNU := Lib.hid (fun W => (ref_number W (V.extract 1 V.size) 9223372036854775808 hus (by omega)).mono fun e w' ⟨h1, h2⟩ => (⟨num_fit hn (by omega) h1, h2⟩ : _ ∧ _))
                  clear HPC hn hU hlV h48
                  simp only [Int.cast_ofNat_Int] at HNU
                  go_wp2_with (first
                    | ((go_at_call 67); (with_reducible refine (HNM.out _).mono ?_); rintro e w2 ⟨rfl, rfl⟩)
                    | ((go_at_call 42); (with_reducible refine (HNU.out _).mono ?_); rintro e w2 ⟨rfl, rfl⟩)
                    | fail)
                  refine bodyPost_ret (v := .tuple #[.agg #[.string ⟨#[]⟩, .int .i64 0], .bool false, .bool false]) (by simp [results, Tryz.results45, go_sem]) rfl ?_
                  exact ⟨by rw [HR.out]; rfl, (Fr.refl _ _).alloc _⟩
                · rw [if_neg h48] at HPC
                  have hv1 : v ≠ 0 := fun e => h48 (natC_zero (by rw [hn, e]))
                  have he2 : ((V.extract 1 V.size).toList == [48]) = false := by rw [ByteArray.toList_eq, beq_eq_false_iff_ne]; exact h48
                  by_cases hf : v ≤ 9223372036854775808
                  · have HR := Lib.hid (show propC s.data.toList = some (⟨s.extract 0 m, -(v : Int)⟩, true) by rw [HPC.out, if_pos hf])
                    have HNU := Lib.hid (fun W => (ref_number W (V.extract 1 V.size) 9223372036854775808 hus (by omega)).mono fun e w' ⟨h1, h2⟩ => (⟨num_fit hn hf h1, h2⟩ : _ ∧ _))
                    clear HPC hn hU hlV h48
                    have hneg : -((v : Int) - 1) - 1 = -(v : Int) := by omega
                    have hv1I : (1 : Int) ≤ v := by omega
                    have hfI : (v : Int) ≤ 9223372036854775808 := by omega
                    simp only [Int.cast_ofNat_Int] at HNU
                    go_wp2_with (first
                      | ((go_at_call 67); (with_reducible refine (HNM.out _).mono ?_); rintro e w2 ⟨rfl, rfl⟩)
                      | ((go_at_call 42); (with_reducible refine (HNU.out _).mono ?_); rintro e w2 ⟨rfl, rfl⟩)
                      | fail)
                    refine bodyPost_ret (v := .tuple #[.agg #[.string (s.extract 0 m), .int .i64 (-(v : Int))], .bool true, .bool true]) (by simp [results, Tryz.results45, go_sem]) rfl ?_
                    exact ⟨by rw [HR.out]; rfl, (Fr.refl _ _).alloc _⟩
                  · have HR := Lib.hid (show propC s.data.toList = some (⟨s.extract 0 m, 0⟩, false) by rw [HPC.out, if_neg hf])
                    have HNU := Lib.hid (fun W => (ref_number W (V.extract 1 V.size) 9223372036854775808 hus (by omega)).mono fun e w' ⟨h1, h2⟩ => (⟨num_far hn (by omega) h1, h2⟩ : _ ∧ _))
                    clear HPC hn hU hlV h48
                    simp only [Int.cast_ofNat_Int] at HNU
                    go_wp2_with (first
                      | ((go_at_call 67); (with_reducible refine (HNM.out _).mono ?_); rintro e w2 ⟨rfl, rfl⟩)
                      | ((go_at_call 42); (with_reducible refine (HNU.out _).mono ?_); rintro e w2 ⟨⟨n, hn1, rfl⟩, rfl⟩)
                      | fail)
                    refine bodyPost_ret (v := .tuple #[.agg #[.string ⟨#[]⟩, .int .i64 0], .bool true, .bool false]) (by simp [results, Tryz.results45, go_sem]) rfl ?_
                    exact ⟨by rw [HR.out]; rfl, (Fr.refl _ _).alloc _⟩
            · have hb : ((V[0].toNat : Int) == 45) = false := by rw [beq_eq_false_iff_ne]; intro e; exact h45 (UInt8.toNat_inj.1 (by have : (45 : UInt8).toNat = 45 := rfl; omega))
              have hval : valueC V.data.toList = match natC V.data.toList with
                  | none => none
                  | some n => if n ≤ 9223372036854775807 then some ((n : Int), true) else some (0, false) := by
                unfold valueC
                rw [if_neg (by rw [hhd]; simpa using h45)]
                cases natC V.data.toList <;> rfl
              rw [hval] at HPC
              clear hval hhd h45 hne
              cases hn : natC V.data.toList with
              | none =>
                have HR := Lib.hid (show propC s.data.toList = none by rw [HPC.out, hn])
                have HNU := Lib.hid (fun W => (ref_number W V 9223372036854775807 hvs (by omega)).mono fun e w' ⟨h1, h2⟩ => (⟨num_none hn h1, h2⟩ : _ ∧ _))
                clear HPC hn hlV
                simp only [Int.cast_ofNat_Int] at HNU
                go_wp2_with (first
                  | ((go_at_call 67); (with_reducible refine (HNM.out _).mono ?_); rintro e w2 ⟨rfl, rfl⟩)
                  | ((go_at_call 42); (with_reducible refine (HNU.out _).mono ?_); rintro e w2 ⟨rfl, rfl⟩)
                  | fail)
                refine bodyPost_ret (v := .tuple #[.agg #[.string ⟨#[]⟩, .int .i64 0], .bool false, .bool false]) (by simp [results, Tryz.results45, go_sem]) rfl ?_
                exact ⟨by rw [HR.out]; rfl, (Fr.refl _ _).alloc _⟩
              | some v =>
                rw [hn] at HPC
                simp only at HPC
                by_cases hf : v ≤ 9223372036854775807
                · have HR := Lib.hid (show propC s.data.toList = some (⟨s.extract 0 m, (v : Int)⟩, true) by rw [HPC.out, if_pos hf])
                  have HNU := Lib.hid (fun W => (ref_number W V 9223372036854775807 hvs (by omega)).mono fun e w' ⟨h1, h2⟩ => (⟨num_fit hn hf h1, h2⟩ : _ ∧ _))
                  clear HPC hn hlV
                  have hfI : (v : Int) < 9223372036854775808 := by omega
                  simp only [Int.cast_ofNat_Int] at HNU
                  go_wp2_with (first
                    | ((go_at_call 67); (with_reducible refine (HNM.out _).mono ?_); rintro e w2 ⟨rfl, rfl⟩)
                    | ((go_at_call 42); (with_reducible refine (HNU.out _).mono ?_); rintro e w2 ⟨rfl, rfl⟩)
                    | fail)
                  refine bodyPost_ret (v := .tuple #[.agg #[.string (s.extract 0 m), .int .i64 (v : Int)], .bool true, .bool true]) (by simp [results, Tryz.results45, go_sem]) rfl ?_
                  exact ⟨by rw [HR.out]; rfl, (Fr.refl _ _).alloc _⟩
                · have HR := Lib.hid (show propC s.data.toList = some (⟨s.extract 0 m, 0⟩, false) by rw [HPC.out, if_neg hf])
                  have HNU := Lib.hid (fun W => (ref_number W V 9223372036854775807 hvs (by omega)).mono fun e w' ⟨h1, h2⟩ => (⟨num_far hn (by omega) h1, h2⟩ : _ ∧ _))
                  clear HPC hn hlV
                  simp only [Int.cast_ofNat_Int] at HNU
                  go_wp2_with (first
                    | ((go_at_call 67); (with_reducible refine (HNM.out _).mono ?_); rintro e w2 ⟨rfl, rfl⟩)
                    | ((go_at_call 42); (with_reducible refine (HNU.out _).mono ?_); rintro e w2 ⟨⟨n, hn1, rfl⟩, rfl⟩)
                    | fail)
                  refine bodyPost_ret (v := .tuple #[.agg #[.string ⟨#[]⟩, .int .i64 0], .bool true, .bool false]) (by simp [results, Tryz.results45, go_sem]) rfl ?_
                  exact ⟨by rw [HR.out]; rfl, (Fr.refl _ _).alloc _⟩
end Go.Proofs.YtidhlfcmjpnhgaaGreatDoor

/- Lines of the reference, in plain words: which word, what the loops hold. -/
namespace Go.Proofs.YtidhlfcmjpnhgaaGreatDoor
open Go.RowKit Go.Lib

theorem zputL_mem : ∀ (l : List PP) (p x : PP), x ∈ putL l p ↔ x ∈ l ∨ x = p
  | [], p, x => by simp [putL]
  | y :: r, p, x => by
    have ih := zputL_mem r p x
    unfold putL
    split
    · simp only [List.mem_cons, ih, or_assoc]
    · split
      · rename_i h
        rw [ppeq_iff] at h
        subst h
        simp only [List.mem_cons]
        constructor
        · exact .inl
        · rintro (h | rfl)
          · exact h
          · exact .inl rfl
      · simp only [List.mem_cons]
        constructor
        · rintro (h | h)
          · exact .inr h
          · exact .inl h
        · rintro (h | h)
          · exact .inr h
          · exact .inl h
theorem zputL_asc : ∀ {l : List PP} (p : PP), Asc l → Asc (putL l p)
  | [], p, _ => by simp [putL, Asc]
  | y :: r, p, h => by
    have h' := List.pairwise_cons.1 h
    unfold putL
    split
    · rename_i ha
      refine List.pairwise_cons.2 ⟨fun z hz => ?_, zputL_asc p h'.2⟩
      rcases (zputL_mem r p z).1 hz with hz | rfl
      · exact h'.1 z hz
      · exact (paheadB_iff _ _).1 ha
    · split
      · exact h
      · rename_i ha he
        have hlt : plt p y := by
          rcases plt_tri p y with h1 | h1 | h1
          · exact h1
          · exact absurd ((ppeq_iff _ _).2 h1.symm) he
          · exact absurd ((paheadB_iff _ _).2 h1) ha
        refine List.pairwise_cons.2 ⟨fun z hz => ?_, h⟩
        rcases List.mem_cons.1 hz with rfl | hz
        · exact hlt
        · exact plt_trans hlt (h'.1 z hz)
theorem zputAll_asc : ∀ (l : List PP) {o : List PP}, Asc o → Asc (putAll o l)
  | [], _, h => h
  | x :: l, _, h => zputAll_asc l (zputL_asc x h)
theorem zputAll_mem : ∀ (l o : List PP) (x : PP), x ∈ putAll o l ↔ x ∈ o ∨ x ∈ l
  | [], o, x => by simp [putAll]
  | y :: l, o, x => by
    show x ∈ putAll (putL o y) l ↔ _
    rw [zputAll_mem l, zputL_mem, List.mem_cons, or_assoc]
theorem zputAll_nil (l : List PP) : putAll [] l = lof l := (lof_eq (zputAll_asc l List.Pairwise.nil) fun x => by rw [zputAll_mem]; simp).symm
theorem word_is {l : List UInt8} {q i : Nat} (hq : wordN l = q) (hi : i < 9) : (l == wordsL.getD i []) = decide (q = i) := by
  have hl : wordsL.length = 9 := rfl
  rw [Bool.eq_iff_iff, beq_iff_eq, decide_eq_true_iff]
  constructor
  · rintro rfl
    rw [← hq]
    have a : i = 0 ∨ i = 1 ∨ i = 2 ∨ i = 3 ∨ i = 4 ∨ i = 5 ∨ i = 6 ∨ i = 7 ∨ i = 8 := by omega
    rcases a with rfl | rfl | rfl | rfl | rfl | rfl | rfl | rfl | rfl <;> decide
  · rintro rfl
    have h : wordsL.idxOf l < wordsL.length := by rw [show wordsL.idxOf l = q from hq]; omega
    have := List.getElem_idxOf h
    rw [List.getD_eq_getElem?_getD, List.getElem?_eq_getElem (by omega), Option.getD_some]
    have h2 : wordsL.idxOf l = q := hq
    exact this.symm.trans (getElem_congr_idx h2)
/-- Which of the nine words a word is, as facts on its bytes. -/
structure WordIs (s : ByteArray) (q : Nat) : Prop where
  tick : (s.toList == [116, 105, 99, 107]) = decide (q = 0)
  bytes : (s.toList == [98, 121, 116, 101, 115]) = decide (q = 1)
  hello : (s.toList == [104, 101, 108, 108, 111]) = decide (q = 2)
  event : (s.toList == [101, 118, 101, 110, 116]) = decide (q = 3)
  beat : (s.toList == [98, 101, 97, 116]) = decide (q = 4)
  bye : (s.toList == [98, 121, 101]) = decide (q = 5)
  drain : (s.toList == [100, 114, 97, 105, 110]) = decide (q = 6)
  query : (s.toList == [113, 117, 101, 114, 121]) = decide (q = 7)
  close : (s.toList == [99, 108, 111, 115, 101]) = decide (q = 8)
theorem wordIs {s : ByteArray} {q : Nat} (h : wordN s.data.toList = q) : WordIs s q := by
  have H := fun i (hi : i < 9) => word_is h hi
  rw [← ByteArray.toList_eq] at H
  exact ⟨H 0 (by omega), H 1 (by omega), H 2 (by omega), H 3 (by omega), H 4 (by omega), H 5 (by omega), H 6 (by omega), H 7 (by omega), H 8 (by omega)⟩
theorem zwordN_le (l : List UInt8) : wordN l ≤ 9 := List.idxOf_le_length
abbrev zV (z : ZC) : Array Value := #[.int .i64 z.kind, .int .i64 z.src, .int .i64 z.n, .string ⟨z.b.toArray⟩]
abbrev u64s (l : List Nat) : List Value := l.map fun n : Nat => .int .u64 (n : Int)
abbrev i64s (l : List Nat) : List Value := l.map fun n : Nat => .int .i64 (n : Int)
theorem Sl.u64_at {w : World} {A : Option Addr} {n c : Nat} {l : List Nat} (h : Sl w 1 A n c (u64s l)) {k : Nat} (hk : k < l.length) : ∃ b off, A = some ⟨b, off, none⟩ ∧ b < w.heap.size ∧ w.cell? ⟨b, off + k, none⟩ = some (.int .u64 (l[k] : Nat)) := by
  have hn : 0 < n := by have := h.len; simp at this; omega
  obtain ⟨b, off, he, hb, hc⟩ := h.cells hn
  exact ⟨b, off, he, hb, hc k _ (by simp [hk])⟩
theorem Sl.i64_at {w : World} {A : Option Addr} {n c : Nat} {l : List Nat} (h : Sl w 1 A n c (i64s l)) {k : Nat} (hk : k < l.length) : ∃ b off, A = some ⟨b, off, none⟩ ∧ b < w.heap.size ∧ w.cell? ⟨b, off + k, none⟩ = some (.int .i64 (l[k] : Nat)) := by
  have hn : 0 < n := by have := h.len; simp at this; omega
  obtain ⟨b, off, he, hb, hc⟩ := h.cells hn
  exact ⟨b, off, he, hb, hc k _ (by simp [hk])⟩
end Go.Proofs.YtidhlfcmjpnhgaaGreatDoor

/- Lines of the reference, in plain words: the loops over a line's words. -/
namespace Go.Proofs.YtidhlfcmjpnhgaaGreatDoor
open Go.RowKit Go.Lib

theorem goS_at {q j : Nat} {r : List (List UInt8)} (h : j < r.length) (st : SC) : goS q j (r.drop j) st = match wordS q j r[j] st with
    | none => none
    | some t => goS q (j + 1) (r.drop (j + 1)) t := by
  rw [List.drop_eq_getElem_cons h, goS]
  cases wordS q j r[j] st <;> rfl
/-- What the first loop holds: the numbers so far. -/
structure LnA (q : Nat) (r : List (List UInt8)) (j : Nat) (st : SC) (L : List Nat) : Prop where
  run : goS q 0 r s0 = goS q j (r.drop j) st
  len : L.length = j
  b : st.b = []
  ps : st.ps = []
  val : st.fits = true → L = st.ns ∧ ∀ i (h : i < L.length), L[i] ≤ mostN ((usesN q).getD i 0)
theorem LnA.start (q : Nat) (r : List (List UInt8)) : LnA q r 0 s0 [] := ⟨by simp, rfl, rfl, rfl, fun _ => ⟨rfl, fun i h => (by simp at h)⟩⟩
theorem LnA.next {q j : Nat} {r : List (List UInt8)} {st : SC} {L : List Nat} {v n : Nat} (h : LnA q r j st L) (hj : j < (usesN q).length) (hr : j < r.length) (hv : natC r[j] = some v) (hn : v ≤ mostN ((usesN q).getD j 0) → n = v) (hm : n ≤ mostN ((usesN q).getD j 0)) :
    LnA q r (j + 1) { st with ns := st.ns ++ [v], fits := st.fits && decide (v ≤ mostN ((usesN q).getD j 0)) } (L ++ [n]) := by
  refine ⟨?_, by simp [h.len], h.b, h.ps, ?_⟩
  · rw [h.run, goS_at hr]
    have : wordS q j r[j] st = some { st with ns := st.ns ++ [v], fits := st.fits && decide (v ≤ mostN ((usesN q).getD j 0)) } := by
      unfold wordS
      rw [if_pos hj, hv]
      rfl
    rw [this]
  · intro e
    simp only [Bool.and_eq_true, decide_eq_true_eq] at e
    obtain ⟨e1, e2⟩ := h.val e.1
    refine ⟨by simp only; rw [e1, hn e.2], fun i hi => ?_⟩
    by_cases hi2 : i < L.length
    · rw [List.getElem_append_left hi2]; exact e2 i hi2
    · have : i = L.length := by simp at hi; omega
      subst this
      rw [List.getElem_append_right (Nat.le_refl _)]
      simp only [Nat.sub_self, List.getElem_cons_zero]
      rw [h.len]
      exact hm
theorem LnA.bad {q j : Nat} {r : List (List UInt8)} {st : SC} {L : List Nat} (h : LnA q r j st L) (hj : j < (usesN q).length) (hr : j < r.length) (hv : natC r[j] = none) : goS q 0 r s0 = none := by
  rw [h.run, goS_at hr]
  have : wordS q j r[j] st = none := by unfold wordS; rw [if_pos hj, hv]; rfl
  rw [this]
/-- What the second loop holds: bytes and propositions, too. -/
structure LnB (q : Nat) (r : List (List UInt8)) (j : Nat) (st : SC) (L : List Nat) (P : List PP) : Prop where
  run : goS q 0 r s0 = goS q j (r.drop j) st
  len : L.length = (usesN q).length
  few : P.length ≤ j
  pok : ∀ p ∈ P, p.name.size ≤ 100000 ∧ I64 p.value
  val : st.fits = true → L = st.ns ∧ P = st.ps ∧ ∀ i (h : i < L.length), L[i] ≤ mostN ((usesN q).getD i 0)
theorem LnA.turn {q : Nat} {r : List (List UInt8)} {st : SC} {L : List Nat} (h : LnA q r (usesN q).length st L) : LnB q r (usesN q).length st L [] :=
  ⟨h.run, h.len, Nat.zero_le _, by simp, fun e => ⟨(h.val e).1, h.ps.symm, (h.val e).2⟩⟩
section
variable {q j : Nat} {r : List (List UInt8)} {st : SC} {L : List Nat} {P : List PP}
theorem LnB.bytes {x : List UInt8} (h : LnB q r j st L P) (hj : (usesN q).length ≤ j) (hr : j < r.length) (hq : q = 1) (hx : pairsC r[j] = some x) : LnB q r (j + 1) { st with b := x } L P := by
  refine ⟨?_, h.len, by have := h.few; omega, h.pok, h.val⟩
  rw [h.run, goS_at hr]
  have : wordS q j r[j] st = some { st with b := x } := by
    unfold wordS
    rw [if_neg (by omega), if_pos hq, hx]
    rfl
  rw [this]
theorem LnB.noBytes (h : LnB q r j st L P) (hj : (usesN q).length ≤ j) (hr : j < r.length) (hq : q = 1) (hx : pairsC r[j] = none) : goS q 0 r s0 = none := by
  rw [h.run, goS_at hr]
  have : wordS q j r[j] st = none := by unfold wordS; rw [if_neg (by omega), if_pos hq, hx]; rfl
  rw [this]
theorem LnB.prop {p x : PP} {f : Bool} (h : LnB q r j st L P) (hj : (usesN q).length ≤ j) (hr : j < r.length) (hq : q ≠ 1) (hp : propC r[j] = some (p, f)) (hx : f = true → x = p) (hok : x.name.size ≤ 100000 ∧ I64 x.value) : LnB q r (j + 1) { st with ps := st.ps ++ [p], fits := st.fits && f } L (P ++ [x]) := by
  refine ⟨?_, h.len, by have := h.few; simp; omega, ?_, ?_⟩
  · rw [h.run, goS_at hr]
    have : wordS q j r[j] st = some { st with ps := st.ps ++ [p], fits := st.fits && f } := by
      unfold wordS
      rw [if_neg (by omega), if_neg hq, hp]
      rfl
    rw [this]
  · intro y hy
    rcases List.mem_append.1 hy with hy | hy
    · exact h.pok y hy
    · simp only [List.mem_singleton] at hy; subst hy; exact hok
  · intro e
    simp only [Bool.and_eq_true] at e
    obtain ⟨e1, e2, e3⟩ := h.val e.1
    exact ⟨e1, by simp only; rw [e2, hx e.2], e3⟩
theorem LnB.noProp (h : LnB q r j st L P) (hj : (usesN q).length ≤ j) (hr : j < r.length) (hq : q ≠ 1) (hp : propC r[j] = none) : goS q 0 r s0 = none := by
  rw [h.run, goS_at hr]
  have : wordS q j r[j] st = none := by unfold wordS; rw [if_neg (by omega), if_neg hq, hp]; rfl
  rw [this]
theorem LnB.done (h : LnB q r r.length st L P) : goS q 0 r s0 = some st := by
  rw [h.run, List.drop_of_length_le (Nat.le_refl _)]
  rfl
end
theorem lineS_bad {w : List UInt8} {q : Nat} {r : List (List UInt8)} (hw : wordN w = q) (hq : q < 9) (h : goS q 0 r s0 = none) : lineS w r = (11, z0) := by
  unfold lineS
  rw [hw, if_neg (by omega)]
  unfold rowS
  split
  · rfl
  · rw [h]
theorem lineS_len {w : List UInt8} {q : Nat} {r : List (List UInt8)} (hw : wordN w = q) (hq : q < 9) (h : r.length < wantsN q ∨ (wantsN q < r.length ∧ q ≠ 3)) : lineS w r = (11, z0) := by
  unfold lineS
  rw [hw, if_neg (by omega)]
  unfold rowS
  rw [if_pos h]
theorem lineS_none {w : List UInt8} {r : List (List UInt8)} (hw : wordN w = 9) : lineS w r = (30, z0) := by
  unfold lineS
  rw [hw, if_pos rfl]
theorem lineS_ok {w : List UInt8} {q : Nat} {r : List (List UInt8)} {st : SC} (hw : wordN w = q) (hq : q < 9) (hl : ¬ (r.length < wantsN q ∨ (wantsN q < r.length ∧ q ≠ 3))) (h : goS q 0 r s0 = some st) : lineS w r = if st.fits = true then madeS q st else (33, z0) := by
  unfold lineS
  rw [hw, if_neg (by omega)]
  unfold rowS
  rw [if_neg hl, h]
theorem madeS_fits (q : Nat) (st : SC) (f : Bool) : madeS q { st with fits := f } = madeS q st := rfl
theorem zpropC_ok {l : List UInt8} {p : PP} {f : Bool} (h : propC l = some (p, f)) (hl : l.length ≤ 100000) : p.name.size ≤ 100000 ∧ I64 p.value := by
  unfold propC at h
  split at h
  · cases hv : valueC ((l.dropWhile (· != 61)).drop 1) with
    | none => rw [hv] at h; cases h
    | some v =>
      obtain ⟨n, g⟩ := v
      rw [hv] at h
      injection h with h
      injection h with h1 h2
      subst h1
      refine ⟨?_, ?_⟩
      · show (⟨(l.takeWhile (· != 61)).toArray⟩ : ByteArray).size ≤ _
        rw [ba_sz (l.takeWhile (· != 61))]
        exact Nat.le_trans (List.takeWhile_sublist _).length_le hl
      · show I64 n
        unfold valueC at hv
        unfold I64
        split at hv
        · split at hv
          · cases hv
          · split at hv
            · cases hv
            · split at hv
              · injection hv with hv; injection hv with hv _; omega
              · injection hv with hv; injection hv with hv _; omega
        · split at hv
          · cases hv
          · split at hv
            · injection hv with hv; injection hv with hv _; omega
            · injection hv with hv; injection hv with hv _; omega
  · cases h
end Go.Proofs.YtidhlfcmjpnhgaaGreatDoor

/- A line's numbers' uses: the reference. -/
namespace Go.Proofs.YtidhlfcmjpnhgaaGreatDoor
open Go.RowKit Go.Lib

theorem wis_0 {s : ByteArray} (h : WordIs s 0) : (s.toList == [116, 105, 99, 107]) = true ∧ (s.toList == [98, 121, 116, 101, 115]) = false ∧ (s.toList == [104, 101, 108, 108, 111]) = false ∧ (s.toList == [101, 118, 101, 110, 116]) = false ∧ (s.toList == [98, 101, 97, 116]) = false ∧ (s.toList == [98, 121, 101]) = false ∧ (s.toList == [100, 114, 97, 105, 110]) = false ∧ (s.toList == [113, 117, 101, 114, 121]) = false ∧ (s.toList == [99, 108, 111, 115, 101]) = false := ⟨h.tick, h.bytes, h.hello, h.event, h.beat, h.bye, h.drain, h.query, h.close⟩
theorem wis_1 {s : ByteArray} (h : WordIs s 1) : (s.toList == [116, 105, 99, 107]) = false ∧ (s.toList == [98, 121, 116, 101, 115]) = true ∧ (s.toList == [104, 101, 108, 108, 111]) = false ∧ (s.toList == [101, 118, 101, 110, 116]) = false ∧ (s.toList == [98, 101, 97, 116]) = false ∧ (s.toList == [98, 121, 101]) = false ∧ (s.toList == [100, 114, 97, 105, 110]) = false ∧ (s.toList == [113, 117, 101, 114, 121]) = false ∧ (s.toList == [99, 108, 111, 115, 101]) = false := ⟨h.tick, h.bytes, h.hello, h.event, h.beat, h.bye, h.drain, h.query, h.close⟩
theorem wis_2 {s : ByteArray} (h : WordIs s 2) : (s.toList == [116, 105, 99, 107]) = false ∧ (s.toList == [98, 121, 116, 101, 115]) = false ∧ (s.toList == [104, 101, 108, 108, 111]) = true ∧ (s.toList == [101, 118, 101, 110, 116]) = false ∧ (s.toList == [98, 101, 97, 116]) = false ∧ (s.toList == [98, 121, 101]) = false ∧ (s.toList == [100, 114, 97, 105, 110]) = false ∧ (s.toList == [113, 117, 101, 114, 121]) = false ∧ (s.toList == [99, 108, 111, 115, 101]) = false := ⟨h.tick, h.bytes, h.hello, h.event, h.beat, h.bye, h.drain, h.query, h.close⟩
theorem wis_3 {s : ByteArray} (h : WordIs s 3) : (s.toList == [116, 105, 99, 107]) = false ∧ (s.toList == [98, 121, 116, 101, 115]) = false ∧ (s.toList == [104, 101, 108, 108, 111]) = false ∧ (s.toList == [101, 118, 101, 110, 116]) = true ∧ (s.toList == [98, 101, 97, 116]) = false ∧ (s.toList == [98, 121, 101]) = false ∧ (s.toList == [100, 114, 97, 105, 110]) = false ∧ (s.toList == [113, 117, 101, 114, 121]) = false ∧ (s.toList == [99, 108, 111, 115, 101]) = false := ⟨h.tick, h.bytes, h.hello, h.event, h.beat, h.bye, h.drain, h.query, h.close⟩
theorem wis_4 {s : ByteArray} (h : WordIs s 4) : (s.toList == [116, 105, 99, 107]) = false ∧ (s.toList == [98, 121, 116, 101, 115]) = false ∧ (s.toList == [104, 101, 108, 108, 111]) = false ∧ (s.toList == [101, 118, 101, 110, 116]) = false ∧ (s.toList == [98, 101, 97, 116]) = true ∧ (s.toList == [98, 121, 101]) = false ∧ (s.toList == [100, 114, 97, 105, 110]) = false ∧ (s.toList == [113, 117, 101, 114, 121]) = false ∧ (s.toList == [99, 108, 111, 115, 101]) = false := ⟨h.tick, h.bytes, h.hello, h.event, h.beat, h.bye, h.drain, h.query, h.close⟩
theorem wis_5 {s : ByteArray} (h : WordIs s 5) : (s.toList == [116, 105, 99, 107]) = false ∧ (s.toList == [98, 121, 116, 101, 115]) = false ∧ (s.toList == [104, 101, 108, 108, 111]) = false ∧ (s.toList == [101, 118, 101, 110, 116]) = false ∧ (s.toList == [98, 101, 97, 116]) = false ∧ (s.toList == [98, 121, 101]) = true ∧ (s.toList == [100, 114, 97, 105, 110]) = false ∧ (s.toList == [113, 117, 101, 114, 121]) = false ∧ (s.toList == [99, 108, 111, 115, 101]) = false := ⟨h.tick, h.bytes, h.hello, h.event, h.beat, h.bye, h.drain, h.query, h.close⟩
theorem wis_6 {s : ByteArray} (h : WordIs s 6) : (s.toList == [116, 105, 99, 107]) = false ∧ (s.toList == [98, 121, 116, 101, 115]) = false ∧ (s.toList == [104, 101, 108, 108, 111]) = false ∧ (s.toList == [101, 118, 101, 110, 116]) = false ∧ (s.toList == [98, 101, 97, 116]) = false ∧ (s.toList == [98, 121, 101]) = false ∧ (s.toList == [100, 114, 97, 105, 110]) = true ∧ (s.toList == [113, 117, 101, 114, 121]) = false ∧ (s.toList == [99, 108, 111, 115, 101]) = false := ⟨h.tick, h.bytes, h.hello, h.event, h.beat, h.bye, h.drain, h.query, h.close⟩
theorem wis_7 {s : ByteArray} (h : WordIs s 7) : (s.toList == [116, 105, 99, 107]) = false ∧ (s.toList == [98, 121, 116, 101, 115]) = false ∧ (s.toList == [104, 101, 108, 108, 111]) = false ∧ (s.toList == [101, 118, 101, 110, 116]) = false ∧ (s.toList == [98, 101, 97, 116]) = false ∧ (s.toList == [98, 121, 101]) = false ∧ (s.toList == [100, 114, 97, 105, 110]) = false ∧ (s.toList == [113, 117, 101, 114, 121]) = true ∧ (s.toList == [99, 108, 111, 115, 101]) = false := ⟨h.tick, h.bytes, h.hello, h.event, h.beat, h.bye, h.drain, h.query, h.close⟩
theorem wis_8 {s : ByteArray} (h : WordIs s 8) : (s.toList == [116, 105, 99, 107]) = false ∧ (s.toList == [98, 121, 116, 101, 115]) = false ∧ (s.toList == [104, 101, 108, 108, 111]) = false ∧ (s.toList == [101, 118, 101, 110, 116]) = false ∧ (s.toList == [98, 101, 97, 116]) = false ∧ (s.toList == [98, 121, 101]) = false ∧ (s.toList == [100, 114, 97, 105, 110]) = false ∧ (s.toList == [113, 117, 101, 114, 121]) = false ∧ (s.toList == [99, 108, 111, 115, 101]) = true := ⟨h.tick, h.bytes, h.hello, h.event, h.beat, h.bye, h.drain, h.query, h.close⟩
theorem wis_9 {s : ByteArray} (h : WordIs s 9) : (s.toList == [116, 105, 99, 107]) = false ∧ (s.toList == [98, 121, 116, 101, 115]) = false ∧ (s.toList == [104, 101, 108, 108, 111]) = false ∧ (s.toList == [101, 118, 101, 110, 116]) = false ∧ (s.toList == [98, 101, 97, 116]) = false ∧ (s.toList == [98, 121, 101]) = false ∧ (s.toList == [100, 114, 97, 105, 110]) = false ∧ (s.toList == [113, 117, 101, 114, 121]) = false ∧ (s.toList == [99, 108, 111, 115, 101]) = false := ⟨h.tick, h.bytes, h.hello, h.event, h.beat, h.bye, h.drain, h.query, h.close⟩
set_option maxHeartbeats 1000000
theorem rnums_0 (w : World) (s : ByteArray) (h : WordIs s 0) : Calls Tryz.prog 41 #[.string s] w fun e w' => ∃ A c, e = .returned (.tuple #[.slice A (usesN 0).length c, .bool (decide (0 < 9))]) ∧ Sl w' 1 A (usesN 0).length c (i64s (usesN 0)) ∧ Fr Nob w w' := by
  obtain ⟨h0, h1, h2, h3, h4, h5, h6, h7, h8⟩ := wis_0 h
  clear h
  go_enter Tryz.func41, Tryz.ntmps41
  go_wp2_with fail
  go_ret2
  exact ⟨_, _, rfl, Sl.new1 (Blk.new _ _ _) 1 1 rfl (by decide), (Fr.refl _ _).alloc _⟩
theorem rnums_1 (w : World) (s : ByteArray) (h : WordIs s 1) : Calls Tryz.prog 41 #[.string s] w fun e w' => ∃ A c, e = .returned (.tuple #[.slice A (usesN 1).length c, .bool (decide (1 < 9))]) ∧ Sl w' 1 A (usesN 1).length c (i64s (usesN 1)) ∧ Fr Nob w w' := by
  obtain ⟨h0, h1, h2, h3, h4, h5, h6, h7, h8⟩ := wis_1 h
  clear h
  go_enter Tryz.func41, Tryz.ntmps41
  go_wp2_with fail
  go_ret2
  exact ⟨_, _, rfl, Sl.new1 (Blk.new _ _ _) 1 1 rfl (by decide), (Fr.refl _ _).alloc _⟩
theorem rnums_2 (w : World) (s : ByteArray) (h : WordIs s 2) : Calls Tryz.prog 41 #[.string s] w fun e w' => ∃ A c, e = .returned (.tuple #[.slice A (usesN 2).length c, .bool (decide (2 < 9))]) ∧ Sl w' 1 A (usesN 2).length c (i64s (usesN 2)) ∧ Fr Nob w w' := by
  obtain ⟨h0, h1, h2, h3, h4, h5, h6, h7, h8⟩ := wis_2 h
  clear h
  go_enter Tryz.func41, Tryz.ntmps41
  go_wp2_with fail
  go_ret2
  exact ⟨_, _, rfl, Sl.new1 (Blk.new _ _ _) 1 2 rfl (by decide), (Fr.refl _ _).alloc _⟩
theorem rnums_3 (w : World) (s : ByteArray) (h : WordIs s 3) : Calls Tryz.prog 41 #[.string s] w fun e w' => ∃ A c, e = .returned (.tuple #[.slice A (usesN 3).length c, .bool (decide (3 < 9))]) ∧ Sl w' 1 A (usesN 3).length c (i64s (usesN 3)) ∧ Fr Nob w w' := by
  obtain ⟨h0, h1, h2, h3, h4, h5, h6, h7, h8⟩ := wis_3 h
  clear h
  go_enter Tryz.func41, Tryz.ntmps41
  go_wp2_with fail
  go_ret2
  exact ⟨_, _, rfl, Sl.new1 (Blk.new _ _ _) 1 3 rfl (by decide), (Fr.refl _ _).alloc _⟩
theorem rnums_4 (w : World) (s : ByteArray) (h : WordIs s 4) : Calls Tryz.prog 41 #[.string s] w fun e w' => ∃ A c, e = .returned (.tuple #[.slice A (usesN 4).length c, .bool (decide (4 < 9))]) ∧ Sl w' 1 A (usesN 4).length c (i64s (usesN 4)) ∧ Fr Nob w w' := by
  obtain ⟨h0, h1, h2, h3, h4, h5, h6, h7, h8⟩ := wis_4 h
  clear h
  go_enter Tryz.func41, Tryz.ntmps41
  go_wp2_with fail
  go_ret2
  exact ⟨_, _, rfl, Sl.new1 (Blk.new _ _ _) 1 2 rfl (by decide), (Fr.refl _ _).alloc _⟩
theorem rnums_5 (w : World) (s : ByteArray) (h : WordIs s 5) : Calls Tryz.prog 41 #[.string s] w fun e w' => ∃ A c, e = .returned (.tuple #[.slice A (usesN 5).length c, .bool (decide (5 < 9))]) ∧ Sl w' 1 A (usesN 5).length c (i64s (usesN 5)) ∧ Fr Nob w w' := by
  obtain ⟨h0, h1, h2, h3, h4, h5, h6, h7, h8⟩ := wis_5 h
  clear h
  go_enter Tryz.func41, Tryz.ntmps41
  go_wp2_with fail
  go_ret2
  exact ⟨_, _, rfl, Sl.new1 (Blk.new _ _ _) 1 1 rfl (by decide), (Fr.refl _ _).alloc _⟩
theorem rnums_6 (w : World) (s : ByteArray) (h : WordIs s 6) : Calls Tryz.prog 41 #[.string s] w fun e w' => ∃ A c, e = .returned (.tuple #[.slice A (usesN 6).length c, .bool (decide (6 < 9))]) ∧ Sl w' 1 A (usesN 6).length c (i64s (usesN 6)) ∧ Fr Nob w w' := by
  obtain ⟨h0, h1, h2, h3, h4, h5, h6, h7, h8⟩ := wis_6 h
  clear h
  go_enter Tryz.func41, Tryz.ntmps41
  go_wp2_with fail
  go_ret2
  exact ⟨none, 0, rfl, Sl.none_ _ _, Fr.refl _ _⟩
theorem rnums_7 (w : World) (s : ByteArray) (h : WordIs s 7) : Calls Tryz.prog 41 #[.string s] w fun e w' => ∃ A c, e = .returned (.tuple #[.slice A (usesN 7).length c, .bool (decide (7 < 9))]) ∧ Sl w' 1 A (usesN 7).length c (i64s (usesN 7)) ∧ Fr Nob w w' := by
  obtain ⟨h0, h1, h2, h3, h4, h5, h6, h7, h8⟩ := wis_7 h
  clear h
  go_enter Tryz.func41, Tryz.ntmps41
  go_wp2_with fail
  go_ret2
  exact ⟨none, 0, rfl, Sl.none_ _ _, Fr.refl _ _⟩
theorem rnums_8 (w : World) (s : ByteArray) (h : WordIs s 8) : Calls Tryz.prog 41 #[.string s] w fun e w' => ∃ A c, e = .returned (.tuple #[.slice A (usesN 8).length c, .bool (decide (8 < 9))]) ∧ Sl w' 1 A (usesN 8).length c (i64s (usesN 8)) ∧ Fr Nob w w' := by
  obtain ⟨h0, h1, h2, h3, h4, h5, h6, h7, h8⟩ := wis_8 h
  clear h
  go_enter Tryz.func41, Tryz.ntmps41
  go_wp2_with fail
  go_ret2
  exact ⟨none, 0, rfl, Sl.none_ _ _, Fr.refl _ _⟩
theorem rnums_9 (w : World) (s : ByteArray) (h : WordIs s 9) : Calls Tryz.prog 41 #[.string s] w fun e w' => ∃ A c, e = .returned (.tuple #[.slice A (usesN 9).length c, .bool (decide (9 < 9))]) ∧ Sl w' 1 A (usesN 9).length c (i64s (usesN 9)) ∧ Fr Nob w w' := by
  obtain ⟨h0, h1, h2, h3, h4, h5, h6, h7, h8⟩ := wis_9 h
  clear h
  go_enter Tryz.func41, Tryz.ntmps41
  go_wp2_with fail
  go_ret2
  exact ⟨none, 0, rfl, Sl.none_ _ _, Fr.refl _ _⟩
theorem ref_numbers (w : World) (s : ByteArray) (q : Nat) (hq : wordN s.data.toList = q) : Calls Tryz.prog 41 #[.string s] w fun e w' => ∃ A c, e = .returned (.tuple #[.slice A (usesN q).length c, .bool (decide (q < 9))]) ∧ Sl w' 1 A (usesN q).length c (i64s (usesN q)) ∧ Fr Nob w w' := by
  have h := wordIs hq
  have hq9 : q ≤ 9 := hq ▸ zwordN_le _
  clear hq
  have a : q = 0 ∨ q = 1 ∨ q = 2 ∨ q = 3 ∨ q = 4 ∨ q = 5 ∨ q = 6 ∨ q = 7 ∨ q = 8 ∨ q = 9 := by omega
  rcases a with rfl | rfl | rfl | rfl | rfl | rfl | rfl | rfl | rfl | rfl
  · exact rnums_0 w s h
  · exact rnums_1 w s h
  · exact rnums_2 w s h
  · exact rnums_3 w s h
  · exact rnums_4 w s h
  · exact rnums_5 w s h
  · exact rnums_6 w s h
  · exact rnums_7 w s h
  · exact rnums_8 w s h
  · exact rnums_9 w s h
end Go.Proofs.YtidhlfcmjpnhgaaGreatDoor
