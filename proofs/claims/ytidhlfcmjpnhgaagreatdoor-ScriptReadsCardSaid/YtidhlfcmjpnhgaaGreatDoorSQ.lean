/- The reference: parts of a text, its words. -/
import Derived.Test.YtidhlfcmjpnhgaaGreatDoorSD
import Derived.Test.YtidhlfcmjpnhgaaGreatDoorQTwalk1
import Derived.Test.YtidhlfcmjpnhgaaGreatDoorSF
namespace Go.Proofs.YtidhlfcmjpnhgaaGreatDoor
open Go.RowKit Go.Lib

theorem strB_len (ps : List ByteArray) : (strB ps).length = ps.length := by simp [strB]
theorem strB_snoc (ps : List ByteArray) (x : ByteArray) : strB ps ++ [.string x] = strB (ps ++ [x]) := by simp [strB]
theorem bl_snoc (ps : List ByteArray) (x : ByteArray) : bl (ps ++ [x]) = bl ps ++ [x.data.toList] := by simp [bl]
theorem bl_len (ps : List ByteArray) : (bl ps).length = ps.length := by simp [bl]
theorem ba_drop {s : ByteArray} {k : Nat} (h : k < s.size) : s.data.toList.drop k = s[k] :: s.data.toList.drop (k + 1) := by
  rw [List.drop_eq_getElem_cons (by rw [ba_len]; exact h)]
  rfl
theorem ext_one {s : ByteArray} {k : Nat} (h : k < s.size) (p : ByteArray) : (p ++ s.extract k (k + 1)).data.toList = p.data.toList ++ [s[k]] := by
  have h1 : (s.extract k (k + 1)).data.toList = [s[k]] := by
    rw [Lib.extract_data, ba_drop h]
    rw [show k + 1 - k = 1 by omega]
    rfl
  rw [ByteArray.data_append, Array.toList_append, h1]
theorem split_hit {b : UInt8} {c : UInt8} {r : List UInt8} (h : c = b) (p : List UInt8) (L : List (List UInt8)) : L ++ onto p (splitC b (c :: r)) = (L ++ [p]) ++ onto [] (splitC b r) := by
  rw [splitC_cons, if_pos h, onto_nil (splitC_ne b r)]
  simp [onto]
theorem split_go {b : UInt8} {c : UInt8} {r : List UInt8} (h : c ≠ b) (p : List UInt8) : onto p (splitC b (c :: r)) = onto (p ++ [c]) (splitC b r) := by
  rw [splitC_cons, if_neg h, onto_onto]
set_option maxRecDepth 100000 in
set_option maxHeartbeats 4000000 in
theorem ref_Split (w : World) (s : ByteArray) (by_ : UInt8) (hs : s.size ≤ 100000) : Calls Tryz.prog 19 #[.string s, .int .u8 (by_.toNat : Int)] w fun e w' => IsB e w w' (splitC by_ s.data.toList) := by
  go_enter Tryz.func19, Tryz.ntmps19
  go_wp2_with fail
  go_loopw [5, 6, 7] (fun sv pv iv wr => ∃ (k n : Nat) (A' : Option Addr) (c' : Nat) (ps : List ByteArray) (part : ByteArray), k ≤ s.size ∧ n ≤ k ∧ iv = .int .i64 k ∧ sv = .slice A' n c' ∧ pv = .string part ∧ Hid (part.size ≤ k) ∧ Hid (Ap w wr w.heap.size 9 A' c' n (strB ps)) ∧ Hid (splitC by_ s.data.toList = bl ps ++ onto part.data.toList (splitC by_ (s.data.toList.drop k)))) (fun _ _ iv _ => s.size - (RowKit.intOf iv).toNat)
  case atStart => exact ⟨0, 0, none, 0, [], ⟨#[]⟩, Nat.zero_le _, Nat.le_refl _, rfl, rfl, rfl, Lib.hid (Nat.zero_le _), Lib.hid (Ap.start (Fr.refl _ _) (Nat.le_refl _) (Nat.le_refl _)), Lib.hid (by rw [List.drop_zero]; exact (onto_nil (splitC_ne _ _)).symm)⟩
  case round =>
    obtain ⟨k, n, A', c', ps, part, hk, hn, rfl, rfl, rfl, hps, hp, hq⟩ := hrel
    by_cases hlt : k < s.size
    · have hI : (k : Int) < s.size := by omega
      have hI3 : 0 ≤ (k : Int) := by omega
      have HD := Lib.hid (ba_drop hlt)
      have HX := Lib.hid (ext_one hlt part)
      rw [HD.out] at hq
      by_cases hb : s[k] = by_
      · have hbI : ((s[k].toNat : Int) == by_.toNat) = true := by rw [hb]; simp
        have HN := Lib.hid (split_hit (r := s.data.toList.drop (k + 1)) hb part.data.toList (bl ps))
        clear hb
        go_wp2_with (at_builtin; refine wpList_app rfl _ _ 48 rfl elemStr (base := w.heap.size) (xs := strB ps) (news := [.string part]) rfl ?own rfl ?src ?one ?h63 ?hby ?hbase ?_)
        case own => exact hp.out.own_al _
        case src => exact Sl.new1 (Blk.new_eq (by first | rfl | simp)) 1 1 rfl (by decide)
        case one => first | rfl | exact (by intro u hu; simp at hu; subst hu; rfl)
        case h63 => unfold maxLen; omega
        case hby => omega
        case hbase => have h1 := hp.out.hi; simp at h1 ⊢; omega
        intro A2 c2 w2 hown hgr _
        rw [strB_snoc] at hown
        have HP2 := Lib.hid ((hp.out.pure ((Fr.refl Nob _).alloc _)).app hown hgr)
        clear hown hgr
        go_wp2_with fail
        go_roundw
        case rel => exact ⟨k + 1, n + 1, A2, c2, ps ++ [part], ⟨#[]⟩, by omega, by omega, by go_num, by simp, rfl, Lib.hid (Nat.zero_le _), HP2, Lib.hid (by rw [hq.out, HN.out, bl_snoc])⟩
        case measure => simp [RowKit.intOf]; omega
      · have hbI : ((s[k].toNat : Int) == by_.toNat) = false := by
          rw [beq_eq_false_iff_ne]; intro e; exact hb (UInt8.toNat_inj.1 (by omega))
        have HN := Lib.hid (split_go (r := s.data.toList.drop (k + 1)) hb part.data.toList)
        clear hb
        have hI4 : (k : Int) + 1 ≤ s.size := by omega
        have hszb : ¬ 9223372036854775807 < part.size + (min (k + 1) s.size - k) := by have := hps.out; omega
        go_wp2_with fail
        go_roundw
        case rel => exact ⟨k + 1, n, A', c', ps, part ++ s.extract k (k + 1), by omega, by omega, by go_num, rfl, by simp, Lib.hid (by
          have := hps.out
          rw [ByteArray.size_append, ByteArray.size_extract]
          omega), hp, Lib.hid (by rw [hq.out, HN.out, HX.out])⟩
        case measure => simp [RowKit.intOf]; omega
    · have hI : ¬ (k : Int) < s.size := by omega
      obtain rfl : k = s.size := by omega
      have HQ := Lib.hid (show splitC by_ s.data.toList = bl (ps ++ [part]) by
        rw [hq.out, List.drop_of_length_le (by rw [ba_len]; exact Nat.le_refl _), bl_snoc]
        simp [splitC, onto])
      go_wp2_with (at_builtin; refine wpList_app rfl _ _ 48 rfl elemStr (base := w.heap.size) (xs := strB ps) (news := [.string part]) rfl ?own rfl ?src ?one ?h63 ?hby ?hbase ?_)
      case own => exact hp.out.own_al _
      case src => exact Sl.new1 (Blk.new_eq (by first | rfl | simp)) 1 1 rfl (by decide)
      case one => first | rfl | exact (by intro u hu; simp at hu; subst hu; rfl)
      case h63 => unfold maxLen; omega
      case hby => omega
      case hbase => have h1 := hp.out.hi; simp at h1 ⊢; omega
      intro A2 c2 w2 hown hgr _
      rw [strB_snoc] at hown
      have HP2 := Lib.hid ((hp.out.pure ((Fr.refl Nob _).alloc _)).app hown hgr)
      clear hown hgr
      go_wp2_with fail
      go_ret
      rw [HQ.out]
      exact ⟨A2, n + 1, c2, ps ++ [part], by simp, rfl, HP2.out.sl, fun g o e => own_addr HP2.out.own g o e, HP2.out.fr⟩
end Go.Proofs.YtidhlfcmjpnhgaaGreatDoor

/- The reference: words, which setting a word is, a setting's range. -/
namespace Go.Proofs.YtidhlfcmjpnhgaaGreatDoor
open Go.RowKit Go.Lib

theorem filt_take {l : List (List UInt8)} {k : Nat} (h : k < l.length) : (l.take (k + 1)).filter (fun x => !x.isEmpty) = (l.take k).filter (fun x => !x.isEmpty) ++ (if l[k] = [] then [] else [l[k]]) := by
  rw [List.take_succ_eq_append_getElem h, List.filter_append]
  congr 1
  cases hx : l[k] with
  | nil => simp
  | cons c r => simp
set_option maxRecDepth 100000 in
set_option maxHeartbeats 4000000 in
theorem ref_Words (w : World) (s : ByteArray) (hs : s.size ≤ 100000) : Calls Tryz.prog 20 #[.string s] w fun e w' => IsB e w w' (wordsC s.data.toList) := by
  have HSP := Lib.hid (ref_Split w s 32 hs)
  go_enter Tryz.func20, Tryz.ntmps20
  go_wp2_with ((go_at_call 19); refine HSP.out.mono ?_; rintro e W1 ⟨PA, n, d, ps, rfl, hps, hsl, hPA, hf1⟩; have HPS := Lib.hid hps; have HSL := Lib.hid hsl; have HF1 := Lib.hid hf1; clear hps hsl hPA hf1)
  have hnn : ps.length = n := by have := HSL.out.len; rw [strB_len] at this; omega
  have HNN := Lib.hid hnn
  have hmx := HSL.out.max
  have hle := HSL.out.le
  unfold maxLen at hmx
  have hn5 : n ≤ 100001 := by
    have := splitC_len 32 s.data.toList
    rw [← HPS.out, bl_len, ba_len, hnn] at this
    omega
  clear hnn
  go_loopw [3, 5] (fun sv iv wr => ∃ (k m : Nat) (A' : Option Addr) (c' : Nat) (qs : List ByteArray), k ≤ n ∧ m ≤ k ∧ iv = .int .i64 k ∧ sv = .slice A' m c' ∧ Hid (Ap W1 wr W1.heap.size 9 A' c' m (strB qs)) ∧ Hid (bl qs = ((bl ps).take k).filter fun x => !x.isEmpty)) (fun _ iv _ => n - (RowKit.intOf iv).toNat)
  case atStart => exact ⟨0, 0, none, 0, [], Nat.zero_le _, Nat.le_refl _, rfl, rfl, Lib.hid (Ap.start (Fr.refl _ _) (Nat.le_refl _) (Nat.le_refl _)), Lib.hid rfl⟩
  case round =>
    obtain ⟨k, m, A', c', qs, hk, hm, rfl, rfl, hp, hq⟩ := hrel
    by_cases hlt : k < n
    · have hI : (k : Int) < n := by omega
      have hI3 : 0 ≤ (k : Int) := by omega
      have hkp : k < ps.length := by rw [HNN.out]; exact hlt
      obtain ⟨pb, po, hPe, hpb, hcp⟩ := (HSL.out.pure hp.out.fr).str_at hkp
      subst hPe
      have hkb : k < (bl ps).length := by rw [bl_len, HNN.out]; exact hlt
      have HFT := Lib.hid (filt_take hkb)
      have hat : (bl ps)[k] = ps[k].data.toList := by simp [bl]
      rw [hat] at HFT
      clear hat
      generalize ps[k] = x at *
      clear hkp hkb
      by_cases hx : x.data.toList = []
      · have hxe : (x.toList == []) = true := by rw [ByteArray.toList_eq, hx]; rfl
        have HF2 := Lib.hid (HFT.out.trans (by rw [if_pos hx, List.append_nil]))
        clear hx
        go_wp2_with fail
        go_roundw
        case rel => exact ⟨k + 1, m, A', c', qs, by omega, by omega, by go_num, rfl, hp, Lib.hid (by rw [hq.out, HF2.out])⟩
        case measure => simp [RowKit.intOf]; omega
      · have hxe : (x.toList == []) = false := by rw [ByteArray.toList_eq, beq_eq_false_iff_ne]; exact hx
        have HF2 := Lib.hid (HFT.out.trans (by rw [if_neg hx]))
        clear hx
        go_wp2_with (at_builtin; refine wpList_app rfl _ _ 48 rfl elemStr (base := W1.heap.size) (xs := strB qs) (news := [.string x]) rfl ?own rfl ?src ?one ?h63 ?hby ?hbase ?_)
        case own => exact hp.out.own_al _
        case src => exact Sl.new1 (Blk.new_eq (by first | rfl | simp)) 1 1 rfl (by decide)
        case one => first | rfl | exact (by intro u hu; simp at hu; subst hu; rfl)
        case h63 => unfold maxLen; omega
        case hby => omega
        case hbase => have h1 := hp.out.hi; simp at h1 ⊢; omega
        intro A2 c2 w2 hown hgr _
        rw [strB_snoc] at hown
        have HP2 := Lib.hid ((hp.out.pure ((Fr.refl Nob _).alloc _)).app hown hgr)
        clear hown hgr
        go_wp2_with fail
        go_roundw
        case rel => exact ⟨k + 1, m + 1, A2, c2, qs ++ [x], by omega, by omega, by go_num, by simp, HP2, Lib.hid (by rw [bl_snoc, hq.out, HF2.out])⟩
        case measure => simp [RowKit.intOf]; omega
    · have hI : ¬ (k : Int) < n := by omega
      obtain rfl : k = n := by omega
      have HQ := Lib.hid (show bl qs = wordsC s.data.toList by
        rw [hq.out, List.take_of_length_le (by rw [bl_len, HNN.out]; exact Nat.le_refl _), HPS.out]
        rfl)
      go_wp2_with fail
      go_ret
      exact ⟨A', m, c', qs, rfl, HQ.out, hp.out.sl, fun g o e => Nat.le_trans HF1.out.size (own_addr hp.out.own g o e), HF1.out.call hp.out.fr (fun _ e _ => e)⟩
/-- Which setting a word is, counted from 1; 0: none. -/
def keyP (l : List UInt8) : Int := if keyC l = 7 then 0 else (keyC l : Int) + 1
def keyA : Array Value := (keysC.map strV).toArray
theorem keyA_cell {w : World} {g : Nat} (hb : Blk w g 9 keyA) {k : Nat} (hk : k < 7) : w.cell? ⟨g, k, none⟩ = some (strV (keysC.getD k [])) := by
  have hc := hb.cell
  have a : k = 0 ∨ k = 1 ∨ k = 2 ∨ k = 3 ∨ k = 4 ∨ k = 5 ∨ k = 6 := by omega
  rcases a with rfl | rfl | rfl | rfl | rfl | rfl | rfl <;> exact hc _
end Go.Proofs.YtidhlfcmjpnhgaaGreatDoor
