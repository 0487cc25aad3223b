/- A word's number: the program's walk. -/
import Derived.Test.YtoegdmpmagbaiaaDoorV2
import Derived.Test.YtoegdmpmagbaiaaDoorVlays
import Derived.Test.YtoegdmpmagbaiaaDoorTwalk1
import Derived.Lib.AtoiErrMem
namespace Go.Proofs.YtoegdmpmagbaiaaDoor
open Go.RowKit Go.Shelf

/-- What strconv.ErrRange holds when the call begins: an error. -/
def ErrVar (w : World) : Prop := ∃ te pe, w.cell? ⟨6, 0, none⟩ = some (.iface te pe)
theorem ErrVar.fr {w w' : World} (h : ErrVar w) (hf : Fr Nob w w') : ErrVar w' := by
  obtain ⟨te, pe, h⟩ := h
  exact ⟨te, pe, hf.cell h (fun e => e)⟩
theorem ParseInt_ok (w : World) (s : ByteArray) (hmax : s.size ≤ 9223372036854775806) (v : Int) (h : Lib.parseIntB 64 s.data.toList = .ok v) :
    Calls Tryd.prog 87 #[.string s, .int .i64 10, .int .i64 64] w fun e w' => e = .returned (.tuple #[.int .i64 v, .nilIface]) ∧ Fr Nob w w' := by
  have := Any.strconv_ParseInt_10_at64_ok Tryd.vParseInt s hmax v h w
  change Calls Tryd.prog 87 _ _ _ at this
  refine this.mono fun _ _ ⟨h1, h2⟩ => ⟨h1, ?_⟩
  rcases h2 with rfl | ⟨t, rfl⟩
  · exact Fr.refl _ _
  · exact Fr.of_below (Lib.bytesWorld_below _ _ _)
theorem ParseInt_range (w : World) (s : ByteArray) (hmax : s.size ≤ 281474976710656) (h : Lib.parseIntB 64 s.data.toList = .range) (hv : ErrVar w) :
    Calls Tryd.prog 87 #[.string s, .int .i64 10, .int .i64 64] w fun e w' => ∃ v te pe, e = .returned (.tuple #[.int .i64 v, .iface te (.pointer (some pe))]) ∧ Fr Nob w w' := by
  obtain ⟨te, pe, hc⟩ := hv
  have := Any.strconv_ParseInt_10_at64_range Tryd.vParseInt s hmax h (.iface te pe) w hc (.inr ⟨te, pe, rfl⟩)
  change Calls Tryd.prog 87 _ _ _ at this
  exact this.mono fun _ _ ⟨N, h1, _, _, h4⟩ => ⟨_, _, _, h1, Fr.of_below h4⟩
set_option maxHeartbeats 2000000 in
theorem numC_some {l : List UInt8} (h1 : l ≠ []) (h2 : l.all digB = true) (h3 : ¬ (1 < l.length ∧ l.head? = some 48)) : numC l = some (if ddec 0 l ≤ 9223372036854775807 then (ddec 0 l : Int) else -1) := by
  unfold numC
  rw [if_neg]
  rintro (h | h | h)
  · exact h1 h
  · rw [h2] at h; cases h
  · exact h3 h
theorem numC_bad {l : List UInt8} (h : l.all digB = false) : numC l = none := by unfold numC; rw [if_pos (.inr (.inl h))]
set_option maxRecDepth 100000 in
set_option maxHeartbeats 2000000 in
theorem prg_number (w : World) (s : ByteArray) (hs : s.size ≤ 100000) (hv : ErrVar w) :
    Calls Tryd.prog 55 #[.string s] w fun e w' => e = .returned (.tuple #[.int .i64 ((numC s.data.toList).getD 0), .bool (numC s.data.toList).isSome]) ∧ Fr Nob w w' := by
  have kc := fun (w : World) (s : ByteArray) => Lib.run_convert_string_bytes (P := Tryd.prog) w 9 93 5 s Tryd.underlying9 Tryd.underlying93 Tryd.underlying5
  obtain ⟨W, hW⟩ : ∃ W, Lib.bytesWorld w 5 s = W := ⟨_, rfl⟩
  have HC := Lib.hid (show ∀ k, (hk : k < s.size) → W.cell? ⟨w.heap.size, k, none⟩ = some (.int .u8 (s[k].toNat : Int)) from fun k hk => by
    rw [← hW, Lib.bytesWorld_cell w 5 s k hk]
    rw [List.getD_eq_getElem?_getD, List.getElem?_eq_getElem (by simpa using hk)]; rfl)
  have HF := Lib.hid (show Fr Nob w W by rw [← hW]; exact Fr.of_below (Lib.bytesWorld_below _ _ _))
  have HV := Lib.hid hv
  have hlt : w.heap.size < W.heap.size := by rw [← hW, Lib.bytesWorld_size]; omega
  clear hv
  go_enter Tryd.func55, Tryd.ntmps55
  go_upto_region 2 with fail
  clear kc hW
  go_loop [11] (fun iv => ∃ k : Nat, k ≤ s.size ∧ iv = .int .i64 k ∧ Hid (Runs digB s 0 k)) (fun iv => s.size - (intOf iv).toNat)
  case atStart => exact ⟨0, Nat.zero_le _, rfl, Lib.hid (Runs.start _ _ _)⟩
  case round =>
    obtain ⟨k, hk, rfl, hr⟩ := hrel
    by_cases hlt : k < s.size
    · have hc := HC.out k hlt
      have hltI : (k : Int) < s.size := by omega
      by_cases hd : digB s[k] = true
      · have d1 : ¬ (s[k].toNat : Int) < 48 := by unfold digB at hd; simp at hd; omega
        have d2 : ¬ (57 : Int) < s[k].toNat := by unfold digB at hd; simp at hd; omega
        have HD := Lib.hid hd
        clear hd
        go_wp2_with fail
        go_round
        case rel => exact ⟨k + 1, by omega, by go_num, Lib.hid (hr.out.next hlt HD.out)⟩
        case measure => simp [intOf]; omega
      · have HR := Lib.hid (show numC s.data.toList = none from numC_bad (by rw [List.all_eq_false]; exact ⟨s[k], by rw [← ba_get s k hlt]; exact List.getElem_mem _, hd⟩))
        have hx : (s[k].toNat : Int) < 48 ∨ (¬ (s[k].toNat : Int) < 48 ∧ (57 : Int) < s[k].toNat) := by unfold digB at hd; simp at hd; omega
        clear hd
        rcases hx with d1 | ⟨d1, d2⟩
        · go_wp2_with fail
          go_ret2
          rw [HR.out]
          exact ⟨rfl, HF.out⟩
        · go_wp2_with fail
          go_ret2
          rw [HR.out]
          exact ⟨rfl, HF.out⟩
    · obtain rfl : k = s.size := by omega
      have HA := Lib.hid (show s.data.toList.all digB = true by
        rw [List.all_eq_true]
        intro c hc
        obtain ⟨i, hi, rfl⟩ := List.mem_iff_getElem.1 hc
        have hi' : i < s.size := by simpa using hi
        exact hr.out i hi' (Nat.zero_le _) hi')
      clear hr hk
      have hltI : ¬ (s.size : Int) < s.size := by omega
      by_cases h0 : s.size = 0
      · have HR := Lib.hid (show numC s.data.toList = none by
          have : s.data.toList = [] := by rw [← List.length_eq_zero_iff, ba_len, h0]
          unfold numC; rw [if_pos (.inl this)])
        have he : (s.toList == []) = true := by
          rw [ByteArray.toList_eq]
          have : s.data.toList = [] := by rw [← List.length_eq_zero_iff, ba_len, h0]
          rw [this]; rfl
        go_wp2_with fail
        go_ret2
        rw [HR.out]
        exact ⟨rfl, HF.out⟩
      · have hpos : (0 : Int) < s.size := by omega
        have hne : s.data.toList ≠ [] := fun e => h0 (by rw [← ba_len, e]; rfl)
        have he : (s.toList == []) = false := by rw [ByteArray.toList_eq, beq_eq_false_iff_ne]; exact hne
        have hhd : s.data.toList.head? = some s[0] := by rw [list_cons s (by omega)]; rfl
        by_cases h1 : s.size = 1
        · have q : ¬ (1 : Int) < s.size := by omega
          have hnb : ¬ (1 < s.data.toList.length ∧ s.data.toList.head? = some 48) := by rw [ba_len]; omega
          have HN := Lib.hid (numC_some hne HA.out hnb)
          have HP := Lib.hid (parse_pos (List.all_eq_true.1 HA.out) hne)
          clear hhd hne hnb
          by_cases hm : ddec 0 s.data.toList ≤ 9223372036854775807
          · have HQ := Lib.hid (show Lib.parseIntB 64 s.data.toList = .ok (ddec 0 s.data.toList : Nat) by rw [HP.out]; simp [valB, hm, ends])
            have HR := Lib.hid (show numC s.data.toList = some ((ddec 0 s.data.toList : Nat) : Int) by rw [HN.out, if_pos hm])
            clear hm
            go_wp2_with ((go_at_call 87); refine (ParseInt_ok _ s (by omega) _ HQ.out).mono ?_; rintro e w' ⟨rfl, hf⟩)
            go_ret2
            rw [HR.out]
            exact ⟨rfl, HF.out.call hf (fun _ h _ => h)⟩
          · have HQ := Lib.hid (show Lib.parseIntB 64 s.data.toList = .range by rw [HP.out]; simp [valB, hm, ends])
            have HR := Lib.hid (show numC s.data.toList = some (-1) by rw [HN.out, if_neg hm])
            clear hm
            go_wp2_with ((go_at_call 87); refine (ParseInt_range _ s (by omega) HQ.out (HV.out.fr HF.out)).mono ?_; rintro e w' ⟨v, te, pe, rfl, hf⟩)
            go_ret2
            rw [HR.out]
            exact ⟨rfl, HF.out.call hf (fun _ h _ => h)⟩
        · have q : (1 : Int) < s.size := by omega
          by_cases h2 : s[0] = 48
          · have HR := Lib.hid (show numC s.data.toList = none by unfold numC; rw [if_pos (.inr (.inr ⟨by rw [ba_len]; omega, by rw [hhd, h2]⟩))])
            have q2 : (s[0].toNat : Int) = 48 := by rw [h2]; rfl
            clear h2 hhd hne
            go_wp2_with fail
            go_ret2
            rw [HR.out]
            exact ⟨rfl, HF.out⟩
          · have hnb : ¬ (1 < s.data.toList.length ∧ s.data.toList.head? = some 48) := by rw [hhd]; simpa using fun _ => h2
            have q2 : ((s[0].toNat : Int) == 48) = false := by rw [beq_eq_false_iff_ne]; intro e; exact h2 (UInt8.toNat_inj.1 (by rw [show (48 : UInt8).toNat = 48 from rfl]; omega))
            have HN := Lib.hid (numC_some hne HA.out hnb)
            have HP := Lib.hid (parse_pos (List.all_eq_true.1 HA.out) hne)
            clear hhd hne hnb
            by_cases hm : ddec 0 s.data.toList ≤ 9223372036854775807
            · have HQ := Lib.hid (show Lib.parseIntB 64 s.data.toList = .ok (ddec 0 s.data.toList : Nat) by rw [HP.out]; simp [valB, hm, ends])
              have HR := Lib.hid (show numC s.data.toList = some ((ddec 0 s.data.toList : Nat) : Int) by rw [HN.out, if_pos hm])
              clear hm
              go_wp2_with ((go_at_call 87); refine (ParseInt_ok _ s (by omega) _ HQ.out).mono ?_; rintro e w' ⟨rfl, hf⟩)
              go_ret2
              rw [HR.out]
              exact ⟨rfl, HF.out.call hf (fun _ h _ => h)⟩
            · have HQ := Lib.hid (show Lib.parseIntB 64 s.data.toList = .range by rw [HP.out]; simp [valB, hm, ends])
              have HR := Lib.hid (show numC s.data.toList = some (-1) by rw [HN.out, if_neg hm])
              clear hm
              go_wp2_with ((go_at_call 87); refine (ParseInt_range _ s (by omega) HQ.out (HV.out.fr HF.out)).mono ?_; rintro e w' ⟨v, te, pe, rfl, hf⟩)
              go_ret2
              rw [HR.out]
              exact ⟨rfl, HF.out.call hf (fun _ h _ => h)⟩
end Go.Proofs.YtoegdmpmagbaiaaDoor
