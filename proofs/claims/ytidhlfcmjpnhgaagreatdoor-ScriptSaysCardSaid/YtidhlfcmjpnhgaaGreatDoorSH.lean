/- Words that are numbers, and pairs of digits: the program. -/
import Derived.Test.YtidhlfcmjpnhgaaGreatDoorQY10
import Derived.Test.YtidhlfcmjpnhgaaGreatDoorSF
import Derived.Test.YtidhlfcmjpnhgaaGreatDoorSA
import Derived.MapKept
import Derived.Test.YtidhlfcmjpnhgaaGreatDoorQYlays
namespace Go.Proofs.YtidhlfcmjpnhgaaGreatDoor
open Go.RowKit Go.Lib

theorem natC_some {l : List UInt8} (h1 : l ≠ []) (h2 : l.all digB = true) (h3 : ¬ (1 < l.length ∧ l.head? = some 48)) : natC l = some (ddec 0 l) := by
  unfold natC
  rw [if_neg]
  rintro (h | h | h)
  · exact h1 h
  · rw [h2] at h; cases h
  · exact h3 h
theorem natC_bad {l : List UInt8} (h : l.all digB = false) : natC l = none := by unfold natC; rw [if_pos (.inr (.inl h))]
set_option maxRecDepth 100000 in
set_option maxHeartbeats 2000000 in
theorem prg_digits (w : World) (s : ByteArray) (hs : s.size ≤ 100000) :
    Calls Tryz.prog 61 #[.string s] w fun e w' => e = .returned (.bool (natC s.data.toList).isSome) ∧ w = w' := by
  by_cases h0 : s.size = 0
  · have hn : s.data.toList = [] := by rw [← List.length_eq_zero_iff, ba_len, h0]
    have HR := Lib.hid (show natC s.data.toList = none by unfold natC; rw [if_pos (.inl hn)])
    have he : (s.toList == []) = true := by rw [ByteArray.toList_eq, hn]; rfl
    go_enter Tryz.func61, Tryz.ntmps61
    go_wp2_with fail
    go_ret
    rw [HR.out]
    exact ⟨rfl, rfl⟩
  · have hpos : (0 : Int) < s.size := by omega
    have hne : s.data.toList ≠ [] := fun e => h0 (by rw [← ba_len, e]; rfl)
    have he : (s.toList == []) = false := by rw [ByteArray.toList_eq, beq_eq_false_iff_ne]; exact hne
    have hhd : s.data.toList.head? = some s[0] := by rw [list_cons s (by omega)]; rfl
    have HNE := Lib.hid hne
    by_cases h1 : s.size = 1
    · have q : ¬ (1 : Int) < s.size := by omega
      have HNB := Lib.hid (show ¬ (1 < s.data.toList.length ∧ s.data.toList.head? = some 48) by rw [ba_len]; omega)
      clear hhd hne
      go_enter Tryz.func61, Tryz.ntmps61
      go_wp2_with fail
      go_loop [18] (fun iv => ∃ k : Nat, k ≤ s.size ∧ iv = .int .i64 k ∧ Hid (Runs digB s 0 k)) (fun iv => s.size - (RowKit.intOf iv).toNat)
      case atStart => exact ⟨0, Nat.zero_le _, rfl, Lib.hid (Runs.start _ _ _)⟩
      case round =>
        obtain ⟨k, hk, rfl, hr⟩ := hrel
        by_cases hlt : k < s.size
        · have hltI : (k : Int) < s.size := by omega
          by_cases hd : digB s[k] = true
          · have d1 : ¬ (s[k].toNat : Int) < 48 := by unfold digB at hd; simp at hd; omega
            have d2 : ¬ (57 : Int) < s[k].toNat := by unfold digB at hd; simp at hd; omega
            have HD := Lib.hid hd
            clear hd
            go_wp2_with fail
            go_round
            case rel => exact ⟨k + 1, by omega, by go_num, Lib.hid (hr.out.next hlt HD.out)⟩
            case measure => simp [RowKit.intOf]; omega
          · have HR := Lib.hid (show natC s.data.toList = none from natC_bad (by rw [List.all_eq_false]; exact ⟨s[k], by rw [← ba_get s k hlt]; exact List.getElem_mem _, hd⟩))
            have hx : (s[k].toNat : Int) < 48 ∨ (¬ (s[k].toNat : Int) < 48 ∧ (57 : Int) < s[k].toNat) := by unfold digB at hd; simp at hd; omega
            clear hd
            rcases hx with d1 | ⟨d1, d2⟩
            · go_wp2_with fail
              go_ret
              rw [HR.out]
              exact ⟨rfl, rfl⟩
            · go_wp2_with fail
              go_ret
              rw [HR.out]
              exact ⟨rfl, rfl⟩
        · obtain rfl : k = s.size := by omega
          have hltI : ¬ (s.size : Int) < s.size := by omega
          have HA := Lib.hid (show s.data.toList.all digB = true by
            rw [List.all_eq_true]
            intro c hc
            obtain ⟨i, hi, rfl⟩ := List.mem_iff_getElem.1 hc
            have hi' : i < s.size := by simpa using hi
            exact hr.out i hi' (Nat.zero_le _) hi')
          have HR := Lib.hid (natC_some HNE.out HA.out HNB.out)
          clear hr hk
          go_wp2_with fail
          go_ret
          rw [HR.out]
          exact ⟨rfl, rfl⟩
    · have q : (1 : Int) < s.size := by omega
      by_cases h2 : s[0] = 48
      · have HR := Lib.hid (show natC s.data.toList = none by unfold natC; rw [if_pos (.inr (.inr ⟨by rw [ba_len]; omega, by rw [hhd, h2]⟩))])
        have q2 : (s[0].toNat : Int) = 48 := by rw [h2]; rfl
        clear h2 hhd hne
        go_enter Tryz.func61, Tryz.ntmps61
        go_wp2_with fail
        go_ret
        rw [HR.out]
        exact ⟨rfl, rfl⟩
      · have HNB := Lib.hid (show ¬ (1 < s.data.toList.length ∧ s.data.toList.head? = some 48) by rw [hhd]; simpa using fun _ => h2)
        have q2 : ((s[0].toNat : Int) == 48) = false := by rw [beq_eq_false_iff_ne]; intro e; exact h2 (UInt8.toNat_inj.1 (by rw [show (48 : UInt8).toNat = 48 from rfl]; omega))
        clear h2 hhd hne
        go_enter Tryz.func61, Tryz.ntmps61
        go_wp2_with fail
        go_loop [18] (fun iv => ∃ k : Nat, k ≤ s.size ∧ iv = .int .i64 k ∧ Hid (Runs digB s 0 k)) (fun iv => s.size - (RowKit.intOf iv).toNat)
        case atStart => exact ⟨0, Nat.zero_le _, rfl, Lib.hid (Runs.start _ _ _)⟩
        case round =>
          obtain ⟨k, hk, rfl, hr⟩ := hrel
          by_cases hlt : k < s.size
          · have hltI : (k : Int) < s.size := by omega
            by_cases hd : digB s[k] = true
            · have d1 : ¬ (s[k].toNat : Int) < 48 := by unfold digB at hd; simp at hd; omega
              have d2 : ¬ (57 : Int) < s[k].toNat := by unfold digB at hd; simp at hd; omega
              have HD := Lib.hid hd
              clear hd
              go_wp2_with fail
              go_round
              case rel => exact ⟨k + 1, by omega, by go_num, Lib.hid (hr.out.next hlt HD.out)⟩
              case measure => simp [RowKit.intOf]; omega
            · have HR := Lib.hid (show natC s.data.toList = none from natC_bad (by rw [List.all_eq_false]; exact ⟨s[k], by rw [← ba_get s k hlt]; exact List.getElem_mem _, hd⟩))
              have hx : (s[k].toNat : Int) < 48 ∨ (¬ (s[k].toNat : Int) < 48 ∧ (57 : Int) < s[k].toNat) := by unfold digB at hd; simp at hd; omega
              clear hd
              rcases hx with d1 | ⟨d1, d2⟩
              · go_wp2_with fail
                go_ret
                rw [HR.out]
                exact ⟨rfl, rfl⟩
              · go_wp2_with fail
                go_ret
                rw [HR.out]
                exact ⟨rfl, rfl⟩
          · obtain rfl : k = s.size := by omega
            have hltI : ¬ (s.size : Int) < s.size := by omega
            have HA := Lib.hid (show s.data.toList.all digB = true by
              rw [List.all_eq_true]
              intro c hc
              obtain ⟨i, hi, rfl⟩ := List.mem_iff_getElem.1 hc
              have hi' : i < s.size := by simpa using hi
              exact hr.out i hi' (Nat.zero_le _) hi')
            have HR := Lib.hid (natC_some HNE.out HA.out HNB.out)
            clear hr hk
            go_wp2_with fail
            go_ret
            rw [HR.out]
            exact ⟨rfl, rfl⟩
theorem half_lt {c : UInt8} {x : Nat} (h : halfC c = some x) : x < 16 := by
  unfold halfC at h
  split at h
  · injection h with h; omega
  · split at h
    · injection h with h; omega
    · cases h
theorem prg_nibble (w : World) (c : UInt8) : Calls Tryz.prog 64 #[.int .u8 (c.toNat : Nat)] w fun e w' => e = .returned (.tuple #[.int .u8 ((halfC c).getD 0 : Nat), .bool (halfC c).isSome]) ∧ w = w' := by
  have hc := c.toNat_lt
  by_cases h1 : 48 ≤ c.toNat ∧ c.toNat ≤ 57
  · have HR := Lib.hid (show halfC c = some (c.toNat - 48) by unfold halfC; rw [if_pos h1])
    obtain ⟨a, b⟩ := h1
    rw [HR.out]
    generalize c.toNat = n at *
    have i1 : (48 : Int) ≤ n := by omega
    have i2 : (n : Int) ≤ 57 := by omega
    go_enter Tryz.func64, Tryz.ntmps64
    go_wp2_with fail
    go_ret2
    exact ⟨by simp; omega, rfl⟩
  · by_cases h2 : 97 ≤ c.toNat ∧ c.toNat ≤ 102
    · have HR := Lib.hid (show halfC c = some (c.toNat - 87) by unfold halfC; rw [if_neg h1, if_pos h2])
      obtain ⟨a, b⟩ := h2
      rw [HR.out]
      generalize c.toNat = n at *
      have i1 : ¬ (n : Int) ≤ 57 := by omega
      have i2 : (97 : Int) ≤ n := by omega
      have i3 : (n : Int) ≤ 102 := by omega
      go_enter Tryz.func64, Tryz.ntmps64
      go_wp2_with fail
      go_ret2
      exact ⟨by simp; omega, rfl⟩
    · have HR := Lib.hid (show halfC c = none by unfold halfC; rw [if_neg h1, if_neg h2])
      rw [HR.out]
      generalize c.toNat = n at *
      have hx : ((n : Int) < 48) ∨ (¬ (n : Int) < 48 ∧ (57 : Int) < n ∧ (n : Int) < 97) ∨ (¬ (n : Int) < 48 ∧ (102 : Int) < n) := by omega
      rcases hx with i1 | ⟨i1, i2, i3⟩ | ⟨i1, i2⟩
      all_goals
        go_enter Tryz.func64, Tryz.ntmps64
        go_wp2_with fail
        go_ret2
        exact ⟨rfl, rfl⟩
end Go.Proofs.YtidhlfcmjpnhgaaGreatDoor

/- Pairs of digits by 16: the program. -/
namespace Go.Proofs.YtidhlfcmjpnhgaaGreatDoor
open Go.RowKit Go.Lib

theorem or16 {x y : Nat} (hx : x < 16) (hy : y < 16) : bits .or .u8 ((x : Int) * 16) (y : Int) = (x : Int) * 16 + y :=
  bits_join .u8 8 (by decide) wraps_u8 4 _ _ (by omega) (by omega) (by omega) (by omega) (by omega) (by omega)
theorem pairs_step {l : List UInt8} {k : Nat} (h : 2 * k + 1 < l.length) : pairsG (l.drop (2 * k)) = match halfC (l[2 * k]'(by omega)), halfC l[2 * k + 1] with
    | some x, some y => (pairsG (l.drop (2 * (k + 1)))).map (UInt8.ofNat (x * 16 + y) :: ·)
    | _, _ => none := by
  rw [List.drop_eq_getElem_cons (show 2 * k < l.length by omega), List.drop_eq_getElem_cons h, show 2 * k + 1 + 1 = 2 * (k + 1) by omega, pairsG]
  rfl
theorem pairs_even : ∀ (n : Nat) (l : List UInt8), l.length ≤ n → l.length % 2 = 1 → pairsG l = none
  | _, [], _, h => by simp at h
  | _, [_], _, _ => rfl
  | 0, _ :: _ :: _, h, _ => by simp at h
  | n + 1, a :: b :: r, hl, h => by
    have := pairs_even n r (by simp at hl; omega) (by simp at h; omega)
    rw [pairsG, this]
    split <;> simp
def PairsP (w : World) (r : Option (List UInt8)) (e : Ending) (w' : World) : Prop :=
  (∀ b, r = some b → ∃ B d, e = .returned (.tuple #[.slice B b.length d, .bool true]) ∧ Ap w w' w.heap.size 5 B d b.length (byteCells b)) ∧
  (r = none → e = .returned (.tuple #[.slice none 0 0, .bool false]) ∧ Fr Nob w w')
theorem PairsP.none_ {w w' : World} {r : Option (List UInt8)} (h : r = none) (hf : Fr Nob w w') : PairsP w r (.returned (.tuple #[.slice none 0 0, .bool false])) w' := ⟨fun b e => (by rw [h] at e; cases e), fun _ => ⟨rfl, hf⟩⟩
theorem PairsP.some_ {w w' : World} {r : Option (List UInt8)} {b : List UInt8} {B : Option Addr} {d : Nat} (h : r = some b) (hp : Ap w w' w.heap.size 5 B d b.length (byteCells b)) : PairsP w r (.returned (.tuple #[.slice B b.length d, .bool true])) w' :=
  ⟨fun b' e => (by rw [h] at e; injection e with e; subst e; exact ⟨B, d, rfl, hp⟩), fun e => (by rw [h] at e; cases e)⟩
set_option maxRecDepth 100000 in
set_option maxHeartbeats 4000000 in
theorem prg_pairs (w : World) (s : ByteArray) (hs : s.size ≤ 100000) : Calls Tryz.prog 39 #[.string s] w fun e w' => PairsP w (pairsC s.data.toList) e w' := by
  have hlen : s.data.toList.length = s.size := by simp
  by_cases hm : s.data.toList = [45]
  · have HR := Lib.hid (show pairsC s.data.toList = some [] by unfold pairsC; rw [if_pos hm])
    have he : (s.toList == [45]) = true := by rw [ByteArray.toList_eq, hm]; rfl
    go_enter Tryz.func39, Tryz.ntmps39
    go_wp2_with fail
    go_ret2
    exact .some_ HR.out (Ap.nil0 (Fr.refl Nob w))
  · have he : (s.toList == [45]) = false := by rw [ByteArray.toList_eq, beq_eq_false_iff_ne]; exact hm
    have HG := Lib.hid (show pairsC s.data.toList = pairsG s.data.toList by unfold pairsC; rw [if_neg hm])
    clear hm
    by_cases hev : s.size % 2 = 1
    · have HR := Lib.hid (show pairsC s.data.toList = none by rw [HG.out]; exact pairs_even _ _ (Nat.le_refl _) (by omega))
      have h1 : (s.size : Int) % 2 = 1 := by omega
      have h2 : ((s.size : Int).tmod 2) = 1 := by rw [Int.tmod_eq_emod_of_nonneg (by omega)]; exact h1
      go_enter Tryz.func39, Tryz.ntmps39
      go_wp2_with fail
      go_ret2
      exact .none_ HR.out (Fr.refl Nob w)
    · have h1 : (s.size : Int) % 2 = 0 := by omega
      have h2 : ((s.size : Int).tmod 2) = 0 := by rw [Int.tmod_eq_emod_of_nonneg (by omega)]; exact h1
      have h3 : ((s.size : Int).tdiv 2) = (s.size / 2 : Nat) := by rw [Int.tdiv_eq_ediv_of_nonneg (by omega)]; omega
      obtain ⟨i0, hi, hz0, hz1, hz2⟩ := info_parts (show (Tryz.prog.info? 5).map (fun i => (i.zero, i.size, i.bytes)) = some (some (.int .u8 0), 1, 1) by kernel_rfl)
      go_enter Tryz.func39, Tryz.ntmps39
      go_wp2_with (first | (refine wpList_make_own _ rfl _ _ 32 rfl w.heap.size 5 i0 (.int .u8 0) 1 Tryz.underlying32 hi hz0 hz1 .i64 .i64 _ (s.size / 2) rfl rfl (by omega) (by rw [hz2]; omega) (by unfold maxLen; omega) (Nat.le_refl _) ?_; intro w1 hown hg; have HP := Lib.hid (Ap.room (Fr.refl Nob w) (Nat.le_refl _) hown hg (Nat.le_refl _)); clear hown hg) | fail)
      go_loopw [4, 5] (fun sv iv wr => ∃ (k m : Nat) (A' : Option Addr) (c' : Nat) (o : List UInt8), m = 2 * k ∧ m ≤ s.size ∧ iv = .int .i64 m ∧ sv = .slice A' k c' ∧ Hid (pairsC s.data.toList = (pairsG (s.data.toList.drop (2 * k))).map (o ++ ·)) ∧ Hid (o.length = k) ∧ Hid (Ap w wr w.heap.size 5 A' c' k (byteCells o))) (fun _ iv _ => s.size - (RowKit.intOf iv).toNat)
      case atStart => exact ⟨0, 0, _, _, [], rfl, Nat.zero_le _, rfl, rfl, Lib.hid (by rw [HG.out]; simp), Lib.hid rfl, HP⟩
      case round =>
        obtain ⟨k, m, A', c', o, hmk, hk, rfl, rfl, HQ, HO, hp⟩ := hrel
        by_cases hlt : m < s.size
        · have hlt1 : m + 1 < s.size := by omega
          have hI : (m : Int) < s.size := by omega
          have hI0 : 0 ≤ (m : Int) := by omega
          have hI1 : (m : Int) + 1 < s.size := by omega
          have HS := pairs_step (l := s.data.toList) (k := k) (by omega)
          have g0 : s.data.toList[2 * k]'(by omega) = s[m] := by subst hmk; exact ba_get s _ hlt
          have g1 : s.data.toList[2 * k + 1]'(by omega) = s[m + 1] := by subst hmk; exact ba_get s _ hlt1
          rw [g0, g1] at HS
          clear g0 g1
          have HNA := Lib.hid (fun W => prg_nibble W s[m])
          have HNB := Lib.hid (fun W => prg_nibble W s[m + 1])
          have hlo : k ≤ 100000 := by omega
          have HMK := Lib.hid hmk
          clear hmk
          cases hA : halfC s[m] with
          | none =>
            rw [hA] at HS HNA
            have HR := Lib.hid (show pairsC s.data.toList = none by rw [HQ.out, HS]; rfl)
            clear HS
            go_wp2_with (first | ((go_at_call 64); (with_reducible refine (HNA.out _).mono ?_); rintro e w2 ⟨rfl, rfl⟩) | ((go_at_call 64); (with_reducible refine (HNB.out _).mono ?_); rintro e w2 ⟨rfl, rfl⟩) | fail)
            go_ret2
            exact .none_ HR.out hp.out.fr
          | some x =>
            have hx := half_lt hA
            cases hB : halfC s[m + 1] with
            | none =>
              rw [hA, hB] at HS
              rw [hA] at HNA
              rw [hB] at HNB
              have HR := Lib.hid (show pairsC s.data.toList = none by rw [HQ.out, HS]; rfl)
              clear HS
              go_wp2_with (first | ((go_at_call 64); (with_reducible refine (HNA.out _).mono ?_); rintro e w2 ⟨rfl, rfl⟩) | ((go_at_call 64); (with_reducible refine (HNB.out _).mono ?_); rintro e w2 ⟨rfl, rfl⟩) | fail)
              go_ret2
              exact .none_ HR.out hp.out.fr
            | some y =>
              have hy := half_lt hB
              rw [hA, hB] at HS
              rw [hA] at HNA
              rw [hB] at HNB
              have HR := Lib.hid (show pairsC s.data.toList = (pairsG (s.data.toList.drop (2 * (k + 1)))).map ((o ++ [UInt8.ofNat (x * 16 + y)]) ++ ·) by
                rw [HQ.out, HS]
                simp only [Option.map_map]
                congr 1
                funext z
                simp)
              clear HS HQ hA hB
              have hxI : (x : Int) < 16 := by omega
              have hyI : (y : Int) < 16 := by omega
              have HOR := Lib.hid (or16 hx hy)
              have HNV := Lib.hid (show byteCells o ++ [.int .u8 ((x : Int) * 16 + y)] = byteCells (o ++ [UInt8.ofNat (x * 16 + y)]) by
                rw [byteCells_append]
                simp [byteCells, show (x * 16 + y) % 256 = x * 16 + y by omega])
              simp only [Option.getD_some, Option.isSome_some] at HNA HNB
              go_wp2_with (first
                | ((go_at_call 64); (with_reducible refine (HNA.out _).mono ?_); rintro e w2 ⟨rfl, rfl⟩)
                | ((go_at_call 64); (with_reducible refine (HNB.out _).mono ?_); rintro e w2 ⟨rfl, rfl⟩)
                | rw [HOR.out]
                | (at_builtin; refine wpList_app rfl _ _ 32 rfl elemU8 (base := w.heap.size) (xs := byteCells o) (news := [.int .u8 ((x : Int) * 16 + y)]) rfl (hp.out.own_al _) rfl (Sl.new1 (Blk.new _ _ _) 1 1 rfl (by decide)) (by intro u hu; simp at hu; subst hu; rfl) ?h63 ?hby ?hbase ?_; (case h63 => unfold maxLen; omega); (case hby => omega); (case hbase => have := hp.out.hi; simp; omega); intro A2 c2 w2 hown hg _; have HP2 := Lib.hid ((hp.out.pure ((Fr.refl Nob _).alloc _)).app hown hg); clear hown hg)
                | fail)
              rw [HNV.out] at HP2
              have hm2 := HMK.out
              exact ⟨⟨k + 1, m + 2, A2, c2, _, by omega, by omega, by go_num, rfl, HR, Lib.hid (by simp [HO.out]), HP2⟩, by simp [RowKit.intOf]; omega⟩
        · obtain rfl : m = s.size := by omega
          have hI : ¬ (s.size : Int) < s.size := by omega
          have HR := Lib.hid (show pairsC s.data.toList = some o by
            rw [HQ.out, List.drop_of_length_le (by omega)]
            simp [pairsG])
          go_wp2_with fail
          go_ret2
          have HL := HO.out
          subst HL
          exact .some_ HR.out hp.out
end Go.Proofs.YtidhlfcmjpnhgaaGreatDoor

/- Maps in memory: what is there, what is put. -/
namespace Go.Proofs.YtidhlfcmjpnhgaaGreatDoor
open Go.RowKit Go.MapKept

/-- The map at r holds E, in this order. -/
def MapAt (w : World) (r : Nat) (d : TypeDesc) (E : List (Value × Value)) : Prop := ∃ es clock, w.heap[r]? = some (.map es clock) ∧ es.toList.map (fun e => (e.key, e.val)) = E ∧ ∀ p ∈ E, IsKey d p.1
theorem MapAt.lt {w : World} {r : Nat} {d : TypeDesc} {E : List (Value × Value)} (h : MapAt w r d E) : r < w.heap.size := by
  obtain ⟨es, clock, h1, _⟩ := h
  exact (Array.getElem?_eq_some_iff.1 h1).1
theorem MapAt.fr {S : Nat → Prop} {w w' : World} {r : Nat} {d : TypeDesc} {E : List (Value × Value)} (h : MapAt w r d E) (hf : Fr S w w') (hr : ¬ S r) : MapAt w' r d E := by
  have hlt := h.lt
  obtain ⟨es, clock, h1, h2⟩ := h
  exact ⟨es, clock, (hf.block r hlt hr).trans h1, h2⟩
theorem MapAt.new {w : World} {d : TypeDesc} (c : Nat) : MapAt (w.alloc (.map #[] c)) w.heap.size d [] := ⟨#[], c, heap_alloc_new w _, rfl, fun p hp => absurd hp (by simp)⟩
theorem MapAt.ne_blk {w : World} {r b : Nat} {d : TypeDesc} {E : List (Value × Value)} {t : TypeId} {cs : Array Value} (h : MapAt w r d E) (hb : Blk w b t cs) : b ≠ r := by
  rintro rfl
  obtain ⟨es, clock, h1, _⟩ := h
  unfold Blk at hb
  rw [h1] at hb
  cases hb
section
variable {P : Program} {w : World} {r : Nat} {T kt et : TypeId} {d : TypeDesc} {E : List (Value × Value)} {k v : Value}
theorem MapAt.find (h : MapAt w r d E) (hk : IsKey d k) : ∃ es clock, w.heap[r]? = some (.map es clock) ∧ es.toList.map (fun e => (e.key, e.val)) = E ∧ (∀ v, (k, v) ∈ E → (E.map (·.1)).Nodup → ∃ j, Instr.findNow d k es.toList 0 = some (some (j, v))) ∧ ((∀ v, (k, v) ∉ E) → Instr.findNow d k es.toList 0 = some none) := by
  obtain ⟨es, clock, h1, h2, h3⟩ := h
  have hks : ∀ x ∈ es.toList, IsKey d x.key := fun x hx => h3 (x.key, x.val) (by rw [← h2]; exact List.mem_map.2 ⟨x, hx, rfl⟩)
  refine ⟨es, clock, h1, h2, ?_⟩
  rcases findNow_spec hk es.toList 0 hks with ⟨h5, h6⟩ | ⟨j, e, h5, h6, h7⟩
  · refine ⟨fun v hv _ => ?_, fun _ => h5⟩
    rw [← h2] at hv
    obtain ⟨x, hx, e⟩ := List.mem_map.1 hv
    injection e with e1 e2
    exact absurd e1 (h6 x hx)
  · have he := List.mem_of_getElem? h6
    refine ⟨fun v hv hn => ?_, fun hn => ?_⟩
    · have : e.val = v := by
        have hm1 : (k, e.val) ∈ E := by rw [← h2]; exact List.mem_map.2 ⟨e, he, by rw [h7]⟩
        obtain ⟨a, ha, ea⟩ := List.getElem_of_mem hm1
        obtain ⟨b, hb, eb⟩ := List.getElem_of_mem hv
        have hp := List.pairwise_iff_getElem.1 hn
        have hab : a = b := by
          rcases Nat.lt_trichotomy a b with h | h | h
          · exact absurd (by rw [List.getElem_map, List.getElem_map, ea, eb]) (hp a b (by simpa using ha) (by simpa using hb) h)
          · exact h
          · exact absurd (by rw [List.getElem_map, List.getElem_map, ea, eb]) (hp b a (by simpa using hb) (by simpa using ha) h)
        subst hab
        rw [ea] at eb
        injection eb
      exact ⟨_, by rw [h5, this]⟩
    · exact absurd (show (k, e.val) ∈ E by rw [← h2]; exact List.mem_map.2 ⟨e, he, by rw [h7]⟩) (hn _)
theorem MapAt.get (h : MapAt w r d E) (hu : P.underlying T = some (.map kt et)) (hd : P.underlying kt = some d) (hk : IsKey d k) (hm : (k, v) ∈ E) (hn : (E.map (·.1)).Nodup) (b : Bool) :
    (Instr.lookup T (.map (some r)) k b).run P w = .ok (if b then .tuple #[v, .bool true] else v) w := by
  obtain ⟨es, clock, h1, h2, h3, _⟩ := h.find hk
  obtain ⟨j, hj⟩ := h3 v hm hn
  have hc := Go.MapKept.run_checkKey (P := P) (w := w) (k := k) hd hk es.isEmpty 9999
  have hb2 := Go.MapKept.run_getObj_map (P := P) h1
  have hf := Go.MapKept.run_findKey (P := P) (w := w) hd hj
  unfold Instr.lookup
  simp only [Sem.run_bind, run_underlying hu, Result.andThen_ok, hb2, Sem.run_pure, hc, hf]
theorem MapAt.gone (h : MapAt w r d E) (hu : P.underlying T = some (.map kt et)) (hd : P.underlying kt = some d) (hk : IsKey d k) (hm : ∀ v, (k, v) ∉ E) {z : Value} (hz : (zeroValue et).run P w = .ok z w) (b : Bool) :
    (Instr.lookup T (.map (some r)) k b).run P w = .ok (if b then .tuple #[z, .bool false] else z) w := by
  obtain ⟨es, clock, h1, h2, _, h3⟩ := h.find hk
  have hc := Go.MapKept.run_checkKey (P := P) (w := w) (k := k) hd hk es.isEmpty 9999
  have hb2 := Go.MapKept.run_getObj_map (P := P) h1
  have hf := Go.MapKept.run_findKey (P := P) (w := w) hd (h3 hm)
  unfold Instr.lookup
  simp only [Sem.run_bind, run_underlying hu, Result.andThen_ok, hb2, Sem.run_pure, hc, hf, hz]
theorem MapAt.put (h : MapAt w r d E) (hu : P.underlying T = some (.map kt et)) (hd : P.underlying kt = some d) (hk : IsKey d k) (hm : ∀ v, (k, v) ∉ E) (v : Value) :
    ∃ w', (Instr.mapUpdate T (.map (some r)) k v).run P w = .ok () w' ∧ MapAt w' r d (E ++ [(k, v)]) ∧ Fr (Only r) w w' := by
  have hE : ∀ p ∈ E, IsKey d p.1 := by obtain ⟨_, _, _, _, h3⟩ := h; exact h3
  obtain ⟨es, clock, h1, h2, _, h3⟩ := h.find hk
  have hlt : r < w.heap.size := (Array.getElem?_eq_some_iff.1 h1).1
  have hc := Go.MapKept.run_checkKey (P := P) (w := w) (k := k) hd hk false 9999
  have hb2 := Go.MapKept.run_getObj_map (P := P) h1
  have hf := Go.MapKept.run_findKey (P := P) (w := w) hd (h3 hm)
  refine ⟨{ w with heap := w.heap.setIfInBounds r (.map (es.push { key := k, val := v, born := clock }) (clock + 1)) }, ?_, ?_, ?_⟩
  · unfold Instr.mapUpdate
    simp only [Sem.run_bind, run_underlying hu, Result.andThen_ok, hb2, hc, hf]
    exact Go.MapKept.run_setObj_map _ h1
  · refine ⟨es.push { key := k, val := v, born := clock }, clock + 1, by simp [hlt], ?_, ?_⟩
    · rw [Array.toList_push, List.map_append, h2]
      simp
    · intro p hp
      rcases List.mem_append.1 hp with hp | hp
      · exact hE p hp
      · simp only [List.mem_singleton] at hp
        subst hp; exact hk
  · exact ⟨rfl, rfl, rfl, by simp, fun q hq hn => by
      show (w.heap.setIfInBounds r _)[q]? = _
      rw [Array.getElem?_setIfInBounds, if_neg (fun e => hn e.symm)]⟩
end
end Go.Proofs.YtidhlfcmjpnhgaaGreatDoor

/- A line's numbers: the program. -/
namespace Go.Proofs.YtidhlfcmjpnhgaaGreatDoor
open Go.RowKit Go.Lib Go.Shelf

theorem natC_inv {l : List UInt8} {n : Nat} (h : natC l = some n) : l ≠ [] ∧ l.all digB = true ∧ n = ddec 0 l := by
  unfold natC at h
  split at h
  · cases h
  · rename_i h1
    injection h with h
    rw [not_or, not_or] at h1
    exact ⟨h1.1, by have := h1.2.1; revert this; cases l.all digB <;> simp, h.symm⟩
theorem parse_uint {l : List UInt8} (h : l.all digB = true) (hn : l ≠ []) : Lib.parseUintB 64 l = if 18446744073709551615 < ddec 0 l then .range else .ok (ddec 0 l) := by
  have hp := parseUintM_digits (M := 18446744073709551615) (by omega) l 0 (List.all_eq_true.1 h) (by omega)
  unfold Lib.parseUintB
  rw [if_neg hn]
  exact hp
theorem ParseUint_ok (w : World) (s : ByteArray) (hmax : s.size ≤ 9223372036854775806) (v : Nat) (h : Lib.parseUintB 64 s.data.toList = .ok v) :
    Calls Tryz.prog 65 #[.string s, .int .i64 10, .int .i64 64] w fun e w' => e = .returned (.tuple #[.int .u64 v, .nilIface]) ∧ Fr Nob w w' := by
  have := Any.strconv_ParseUint_10_at64_ok Tryz.vParseUint s hmax v h w
  change Calls Tryz.prog 65 _ _ _ at this
  refine this.mono fun _ _ ⟨h1, h2⟩ => ⟨h1, ?_⟩
  rcases h2 with rfl | rfl
  · exact Fr.refl _ _
  · exact Fr.of_below (Lib.bytesWorld_below _ _ _)
theorem ParseUint_range (w : World) (s : ByteArray) (hmax : s.size ≤ 281474976710656) (h : Lib.parseUintB 64 s.data.toList = .range) (hv : ErrVar w) :
    Calls Tryz.prog 65 #[.string s, .int .i64 10, .int .i64 64] w fun e w' => ∃ v te pe, e = .returned (.tuple #[.int .u64 v, .iface te (.pointer (some pe))]) ∧ Fr Nob w w' := by
  obtain ⟨te, pe, hc⟩ := hv
  have := Any.strconv_ParseUint_10_at64_range Tryz.vParseUint s hmax h (.iface te pe) w hc (.inr ⟨te, pe, rfl⟩)
  change Calls Tryz.prog 65 _ _ _ at this
  exact this.mono fun _ _ ⟨N, h1, _, _, h4⟩ => ⟨_, _, _, h1, Fr.of_below h4⟩
/-- The map of a line's numbers, by letters. -/
def numV (e : Nat × Nat) : Value × Value := (.int .u8 (e.1 : Nat), .int .u64 (e.2 : Nat))
def MapN (w : World) (r : Nat) (E : List (Nat × Nat)) : Prop := MapAt w r (.int .u8) (E.map numV)
theorem MapN.fr {S : Nat → Prop} {w w' : World} {r : Nat} {E : List (Nat × Nat)} (h : MapN w r E) (hf : Fr S w w') (hr : ¬ S r) : MapN w' r E := MapAt.fr h hf hr
theorem MapN.lt {w : World} {r : Nat} {E : List (Nat × Nat)} (h : MapN w r E) : r < w.heap.size := MapAt.lt h
def mostL (c : Nat) : Nat := if c = 115 then 7 else if c = 113 then 18446744073709551615 else 9223372036854775807
def NumP (w : World) (r : Nat) (E : List (Nat × Nat)) (c : Nat) (o : Option Nat) (e : Ending) (w' : World) : Prop :=
  (o = none → e = .returned (.tuple #[.bool false, .bool false]) ∧ Fr Nob w w') ∧
  (∀ n, o = some n → n < 18446744073709551616 → e = .returned (.tuple #[.bool true, .bool (decide (n ≤ mostL c))]) ∧ MapN w' r (E ++ [(c, n)]) ∧ Fr (Only r) w w') ∧
  (∀ n, o = some n → ¬ n < 18446744073709551616 → e = .returned (.tuple #[.bool true, .bool false]) ∧ Fr Nob w w')
theorem NumP.none_ {w w' : World} {r : Nat} {E : List (Nat × Nat)} {c : Nat} {o : Option Nat} (h : o = none) (hf : Fr Nob w w') : NumP w r E c o (.returned (.tuple #[.bool false, .bool false])) w' :=
  ⟨fun _ => ⟨rfl, hf⟩, fun n e => (by rw [h] at e; cases e), fun n e => (by rw [h] at e; cases e)⟩
theorem NumP.far {w w' : World} {r : Nat} {E : List (Nat × Nat)} {c : Nat} {o : Option Nat} {n : Nat} (h : o = some n) (hn : ¬ n < 18446744073709551616) (hf : Fr Nob w w') : NumP w r E c o (.returned (.tuple #[.bool true, .bool false])) w' :=
  ⟨fun e => (by rw [h] at e; cases e), fun m e hm => (by rw [h] at e; injection e with e; subst e; exact absurd hm hn), fun n e _ => ⟨rfl, hf⟩⟩
theorem NumP.ok {w w' : World} {r : Nat} {E : List (Nat × Nat)} {c : Nat} {o : Option Nat} {n : Nat} {b : Bool} (h : o = some n) (hn : n < 18446744073709551616) (hb : b = decide (n ≤ mostL c)) (hm : MapN w' r (E ++ [(c, n)])) (hf : Fr (Only r) w w') : NumP w r E c o (.returned (.tuple #[.bool true, .bool b])) w' :=
  ⟨fun e => (by rw [h] at e; cases e), fun m e _ => (by rw [h] at e; injection e with e; subst e; exact ⟨by rw [hb], hm, hf⟩), fun m e hm => (by rw [h] at e; injection e with e; subst e; exact absurd hn hm)⟩
theorem MapN.put {w : World} {r : Nat} {E : List (Nat × Nat)} (h : MapN w r E) {c : Nat} (hc : ∀ n, (c, n) ∉ E) (n : Nat) :
    ∃ w', (Instr.mapUpdate 68 (.map (some r)) (.int .u8 (c : Nat)) (.int .u64 (n : Nat))).run Tryz.prog w = .ok () w' ∧ MapN w' r (E ++ [(c, n)]) ∧ Fr (Only r) w w' := by
  obtain ⟨w', h1, h2, h3⟩ := MapAt.put (P := Tryz.prog) (T := 68) (kt := 5) (et := 36) (k := .int .u8 (c : Nat)) h (by kernel_rfl) (by kernel_rfl) rfl (fun v hv => by
    obtain ⟨e, he, ee⟩ := List.mem_map.1 hv
    unfold numV at ee
    injection ee with e1 e2
    injection e1 with _ e1
    have : e.1 = c := by omega
    subst this
    exact hc e.2 he) (.int .u64 (n : Nat))
  refine ⟨w', h1, ?_, h3⟩
  unfold MapN
  rw [List.map_append]
  exact h2
set_option maxRecDepth 100000 in
set_option maxHeartbeats 4000000 in
theorem prg_num (w : World) (b r c : Nat) (E : List (Nat × Nat)) (x : ByteArray) (hx : x.size ≤ 100000) (hb : w.cell? ⟨b, 0, none⟩ = some (.map (some r))) (hm : MapN w r E) (hc : ∀ n, (c, n) ∉ E) (hcc : c = 115 ∨ c = 113 ∨ c = 110 ∨ c = 116) (hv : ErrVar w) :
    Calls Tryz.prog 40 #[.pointer (some ⟨b, 0, none⟩), .int .u8 (c : Nat), .string x] w fun e w' => NumP w r E c (natC x.data.toList) e w' := by
  have HDG := Lib.hid (fun W => prg_digits W x hx)
  have HB := Lib.hid hb
  have HMP := Lib.hid hm
  have HK := Lib.hid hc
  have HV := Lib.hid hv
  clear hb hm hc hv
  cases hn : natC x.data.toList with
  | none =>
    rw [hn] at HDG
    have HN := Lib.hid hn
    clear hn
    go_enter Tryz.func40, Tryz.ntmps40
    go_wp2_with (first | ((go_at_call 61); (with_reducible refine (HDG.out _).mono ?_); rintro e w1 ⟨rfl, rfl⟩) | fail)
    go_ret2
    exact .none_ rfl (Fr.refl Nob _)
  | some n =>
    rw [hn] at HDG
    obtain ⟨n1, n2, n3⟩ := natC_inv hn
    have hp := parse_uint n2 n1
    rw [← n3] at hp
    clear hn n1 n2 n3
    by_cases h64 : n < 18446744073709551616
    · rw [if_neg (by omega)] at hp
      have HPU := Lib.hid (fun W => ParseUint_ok W x (by omega) n hp)
      clear hp
      rcases hcc with rfl | rfl | rfl | rfl
      · skip
        have HNB := Lib.hid (show (decide ((n : Int) < 8)) = decide (n ≤ 7) from by rw [decide_eq_decide]; omega)
        have HNL := Lib.hid (show (decide ((n : Int) ≤ 9223372036854775807)) = decide (n ≤ 9223372036854775807) from by rw [decide_eq_decide]; omega)
        rw [show (((115 : Nat)) : Int) = 115 from rfl]
        go_enter Tryz.func40, Tryz.ntmps40
        go_wp2_with (first
          | ((go_at_call 61); (with_reducible refine (HDG.out _).mono ?_); rintro e w1 ⟨rfl, rfl⟩)
          | ((go_at_call 65); (with_reducible refine (HPU.out _).mono ?_); rintro e w2 ⟨rfl, hf2⟩; have HF2 := Lib.hid hf2; have hb2 := hf2.cell HB.out (fun e => e); obtain ⟨w3, hup, hmp, hf3⟩ := (HMP.out.fr hf2 (fun e => e)).put HK.out n; rw [show (((115 : Nat)) : Int) = 115 from rfl] at hup; have HM3 := Lib.hid hmp; have HF3 := Lib.hid ((HF2.out.mono (fun _ _ e => e.elim)).call hf3 (fun _ e _ => e)); clear hf2 hmp hf3)
          | fail)
        go_ret2
        exact .ok rfl h64 (by unfold mostL; exact HNB.out) HM3.out HF3.out
      · skip
        have HNB := Lib.hid (show (decide ((n : Int) < 8)) = decide (n ≤ 7) from by rw [decide_eq_decide]; omega)
        have HNL := Lib.hid (show (decide ((n : Int) ≤ 9223372036854775807)) = decide (n ≤ 9223372036854775807) from by rw [decide_eq_decide]; omega)
        rw [show (((113 : Nat)) : Int) = 113 from rfl]
        go_enter Tryz.func40, Tryz.ntmps40
        go_wp2_with (first
          | ((go_at_call 61); (with_reducible refine (HDG.out _).mono ?_); rintro e w1 ⟨rfl, rfl⟩)
          | ((go_at_call 65); (with_reducible refine (HPU.out _).mono ?_); rintro e w2 ⟨rfl, hf2⟩; have HF2 := Lib.hid hf2; have hb2 := hf2.cell HB.out (fun e => e); obtain ⟨w3, hup, hmp, hf3⟩ := (HMP.out.fr hf2 (fun e => e)).put HK.out n; rw [show (((113 : Nat)) : Int) = 113 from rfl] at hup; have HM3 := Lib.hid hmp; have HF3 := Lib.hid ((HF2.out.mono (fun _ _ e => e.elim)).call hf3 (fun _ e _ => e)); clear hf2 hmp hf3)
          | fail)
        go_ret2
        exact .ok rfl h64 (by unfold mostL; simp; omega) HM3.out HF3.out
      · skip
        have HNB := Lib.hid (show (decide ((n : Int) < 8)) = decide (n ≤ 7) from by rw [decide_eq_decide]; omega)
        have HNL := Lib.hid (show (decide ((n : Int) ≤ 9223372036854775807)) = decide (n ≤ 9223372036854775807) from by rw [decide_eq_decide]; omega)
        rw [show (((110 : Nat)) : Int) = 110 from rfl]
        go_enter Tryz.func40, Tryz.ntmps40
        go_wp2_with (first
          | ((go_at_call 61); (with_reducible refine (HDG.out _).mono ?_); rintro e w1 ⟨rfl, rfl⟩)
          | ((go_at_call 65); (with_reducible refine (HPU.out _).mono ?_); rintro e w2 ⟨rfl, hf2⟩; have HF2 := Lib.hid hf2; have hb2 := hf2.cell HB.out (fun e => e); obtain ⟨w3, hup, hmp, hf3⟩ := (HMP.out.fr hf2 (fun e => e)).put HK.out n; rw [show (((110 : Nat)) : Int) = 110 from rfl] at hup; have HM3 := Lib.hid hmp; have HF3 := Lib.hid ((HF2.out.mono (fun _ _ e => e.elim)).call hf3 (fun _ e _ => e)); clear hf2 hmp hf3)
          | fail)
        go_ret2
        exact .ok rfl h64 (by unfold mostL; exact HNL.out) HM3.out HF3.out
      · skip
        have HNB := Lib.hid (show (decide ((n : Int) < 8)) = decide (n ≤ 7) from by rw [decide_eq_decide]; omega)
        have HNL := Lib.hid (show (decide ((n : Int) ≤ 9223372036854775807)) = decide (n ≤ 9223372036854775807) from by rw [decide_eq_decide]; omega)
        rw [show (((116 : Nat)) : Int) = 116 from rfl]
        go_enter Tryz.func40, Tryz.ntmps40
        go_wp2_with (first
          | ((go_at_call 61); (with_reducible refine (HDG.out _).mono ?_); rintro e w1 ⟨rfl, rfl⟩)
          | ((go_at_call 65); (with_reducible refine (HPU.out _).mono ?_); rintro e w2 ⟨rfl, hf2⟩; have HF2 := Lib.hid hf2; have hb2 := hf2.cell HB.out (fun e => e); obtain ⟨w3, hup, hmp, hf3⟩ := (HMP.out.fr hf2 (fun e => e)).put HK.out n; rw [show (((116 : Nat)) : Int) = 116 from rfl] at hup; have HM3 := Lib.hid hmp; have HF3 := Lib.hid ((HF2.out.mono (fun _ _ e => e.elim)).call hf3 (fun _ e _ => e)); clear hf2 hmp hf3)
          | fail)
        go_ret2
        exact .ok rfl h64 (by unfold mostL; exact HNL.out) HM3.out HF3.out
    · rw [if_pos (by omega)] at hp
      have HPU := Lib.hid (fun W (hf : Fr Nob w W) => ParseUint_range W x (by omega) hp (HV.out.fr hf))
      clear hp
      go_enter Tryz.func40, Tryz.ntmps40
      go_wp2_with (first
        | ((go_at_call 61); (with_reducible refine (HDG.out _).mono ?_); rintro e w1 ⟨rfl, rfl⟩)
        | ((go_at_call 65); (with_reducible refine (HPU.out _ (Fr.refl Nob _)).mono ?_); rintro e w2 ⟨v, te, pe, rfl, hf2⟩; have HF2 := Lib.hid hf2; clear hf2)
        | fail)
      go_ret2
      exact .far rfl h64 HF2.out
end Go.Proofs.YtidhlfcmjpnhgaaGreatDoor
