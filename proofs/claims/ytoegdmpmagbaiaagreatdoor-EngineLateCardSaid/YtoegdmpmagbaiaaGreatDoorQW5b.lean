/- The model's union, in new memory. -/
import Derived.Test.YtoegdmpmagbaiaaGreatDoorQW5
namespace Go.Proofs.YtoegdmpmagbaiaaGreatDoor
open Go.RowKit Go.Sort Go.Lib

set_option maxRecDepth 100000 in
set_option maxHeartbeats 4000000 in
theorem ref_OfN (w : World) (A : Option Addr) (c : Nat) (l : List PP) (hl : Sl w 2 A l.length c (l.flatMap pcs)) (h63 : l.length ≤ 900) :
    Calls Tryz.prog 45 #[.slice A l.length c] w fun e w' => MadeN w w' e (putAll [] l) := by
  have HL := Lib.hid hl
  have hle := hl.le
  have hmx := hl.max
  unfold maxLen at hmx
  clear hl
  go_enter Tryz.func45, Tryz.ntmps45
  go_wp2_with fail
  go_loopw [3, 4] (fun sv i wr => ∃ (k : Nat) (A' : Option Addr) (c' : Nat), k ≤ l.length ∧ i = .int .i64 k ∧ sv = .slice A' (putAll [] (l.take k)).length c' ∧ Hid (Fr Nob w wr) ∧ Hid (Sl wr 2 A' (putAll [] (l.take k)).length c' ((putAll [] (l.take k)).flatMap pcs)) ∧ Hid (∀ g off, A' = some ⟨g, off, none⟩ → w.heap.size ≤ g)) (fun _ i _ => l.length - (intOf i).toNat)
  case atStart => exact ⟨0, none, 0, Nat.zero_le _, rfl, rfl, Lib.hid (Fr.refl Nob w), Lib.hid (Sl.none_ _ _), Lib.hid (fun g off e => by cases e)⟩
  case round =>
    obtain ⟨k, A', c', hk, rfl, rfl, hf, hs, hn⟩ := hrel
    by_cases hlt : k < l.length
    · have hI : (k : Int) < l.length := by omega
      have hI3 : 0 ≤ (k : Int) := by omega
      obtain ⟨ba, off, rfl, hba, d0, d1⟩ := pp_cells (HL.out.pure hf.out) hlt
      have HS := Lib.hid (putAll_snoc (o := ([] : List PP)) hlt)
      have hlen := putAll_len (l.take k) ([] : List PP)
      rw [List.length_take_of_le (by omega)] at hlen
      have hlen2 := hlen
      generalize putAll ([] : List PP) (l.take k) = o at *
      generalize l[k] = x at *
      obtain ⟨xn, xv⟩ := x
      simp only at d0 d1
      have HP := Lib.hid (ref_Put wr A' c' o ⟨xn, xv⟩ hs.out (by (try simp only [List.length_nil, Nat.zero_add] at hlen); omega))
      go_wp2_with fail
      refine HP.out.mono ?_
      rintro e w1 ⟨A2, c2, rfl, hs2, hf2, ho2⟩
      have HS2 := Lib.hid hs2
      have HF2 := Lib.hid (hf.out.call hf2 (fun _ h _ => h))
      have HN2 := Lib.hid (fun g off e => Nat.le_trans hf.out.size (ho2 g off e))
      clear hs2 hf2 ho2
      go_wp2_with fail
      go_roundw
      case rel => exact ⟨k + 1, A2, c2, by omega, by go_num, by rw [HS.out], HF2, by rw [HS.out]; exact HS2, HN2⟩
      case measure => simp [intOf]; omega
    · have hkk : k = l.length := by omega
      have HE := Lib.hid (show putAll ([] : List PP) (l.take k) = putAll ([] : List PP) l by rw [List.take_of_length_le (by omega)])
      rw [HE.out] at hs ⊢
      go_wp2_with fail
      go_ret
      exact ⟨A', c', rfl, hs.out, hf.out, hn.out⟩
set_option maxRecDepth 100000 in
set_option maxHeartbeats 4000000 in
theorem ref_UnionN (w : World) (B : Option Addr) (d : Nat) (m : List PP) (A : Option Addr) (c : Nat) (l : List PP) (hm : Sl w 2 B m.length d (m.flatMap pcs)) (hl : Sl w 2 A l.length c (l.flatMap pcs)) (hsum : m.length + l.length ≤ 900) :
    Calls Tryz.prog 80 #[.slice B m.length d, .slice A l.length c] w fun e w' => MadeN w w' e (putAll (putAll [] m) l) := by
  have HM := Lib.hid hm
  have HL := Lib.hid hl
  have hle := hl.le
  have hmx := hl.max
  unfold maxLen at hmx
  clear hl hm
  go_enter Tryz.func80, Tryz.ntmps80
  go_wp2_with fail
  refine (ref_OfN w B d m HM.out (by omega)).mono ?_
  rintro e w1 ⟨B1, d1, rfl, hs1, hf1, hn1⟩
  have HN1 := Lib.hid hn1
  have HS1 := Lib.hid hs1
  have HF1 := Lib.hid hf1
  have hol := putAll_len m []
  simp only [List.length_nil, Nat.zero_add] at hol
  clear hs1 hf1 hn1
  go_wp2_with fail
  go_loopw [5, 6] (fun sv i wr => ∃ (k : Nat) (A' : Option Addr) (c' : Nat), k ≤ l.length ∧ i = .int .i64 k ∧ sv = .slice A' (putAll (putAll [] m) (l.take k)).length c' ∧ Hid (Fr Nob w wr) ∧ Hid (Sl wr 2 A' (putAll (putAll [] m) (l.take k)).length c' ((putAll (putAll [] m) (l.take k)).flatMap pcs)) ∧ Hid (∀ g off, A' = some ⟨g, off, none⟩ → w.heap.size ≤ g)) (fun _ i _ => l.length - (intOf i).toNat)
  case atStart => exact ⟨0, B1, d1, Nat.zero_le _, rfl, rfl, HF1, HS1, HN1⟩
  case round =>
    obtain ⟨k, A', c', hk, rfl, rfl, hf, hs, hn⟩ := hrel
    by_cases hlt : k < l.length
    · have hI : (k : Int) < l.length := by omega
      have hI3 : 0 ≤ (k : Int) := by omega
      obtain ⟨ba, off, rfl, hba, d0, d1⟩ := pp_cells (HL.out.pure hf.out) hlt
      have HS := Lib.hid (putAll_snoc (o := (putAll [] m)) hlt)
      have hlen := putAll_len (l.take k) (putAll [] m)
      rw [List.length_take_of_le (by omega)] at hlen
      have hlen2 := hlen
      generalize putAll (putAll [] m) (l.take k) = o at *
      generalize l[k] = x at *
      obtain ⟨xn, xv⟩ := x
      simp only at d0 d1
      have HP := Lib.hid (ref_Put wr A' c' o ⟨xn, xv⟩ hs.out (by (try simp only [List.length_nil, Nat.zero_add] at hlen); omega))
      go_wp2_with fail
      refine HP.out.mono ?_
      rintro e w1 ⟨A2, c2, rfl, hs2, hf2, ho2⟩
      have HS2 := Lib.hid hs2
      have HF2 := Lib.hid (hf.out.call hf2 (fun _ h _ => h))
      have HN2 := Lib.hid (fun g off e => Nat.le_trans hf.out.size (ho2 g off e))
      clear hs2 hf2 ho2
      go_wp2_with fail
      go_roundw
      case rel => exact ⟨k + 1, A2, c2, by omega, by go_num, by rw [HS.out], HF2, by rw [HS.out]; exact HS2, HN2⟩
      case measure => simp [intOf]; omega
    · have hkk : k = l.length := by omega
      have HE := Lib.hid (show putAll (putAll [] m) (l.take k) = putAll (putAll [] m) l by rw [List.take_of_length_le (by omega)])
      rw [HE.out] at hs ⊢
      go_wp2_with fail
      go_ret
      exact ⟨A', c', rfl, hs.out, hf.out, hn.out⟩
end Go.Proofs.YtoegdmpmagbaiaaGreatDoor
