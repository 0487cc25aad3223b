/- A message's body and frame: the reference. -/
import Derived.Test.YtidhlfcmjpnhgaaGreatDoorQZ3
import Derived.Test.YtidhlfcmjpnhgaaGreatDoorQY10
import Derived.Test.YtidhlfcmjpnhgaaGreatDoorSI
import Derived.Lib.QuietBelow
namespace Go.Proofs.YtidhlfcmjpnhgaaGreatDoor
open Go.RowKit Go.Lib Go.Shelf Go.Sort

theorem rgr {f : FuncId} {args : Array Value} {W : World} {v : Value} (h : ∀ X, Fr Nob W X → Calls Tryz.prog f args X fun e w' => e = .returned v ∧ Fr Nob X w') (d : Nat) (os : Array Obj) :
    Calls Tryz.prog f args (grow (redrawn W d) os) fun e w'' => e = .returned v ∧ ∃ p : Regrown, w'' = grow (redrawn W p.d) p.os :=
  Calls.regrown_of ((h _ (Fr.of_below (below_regrown W d os))).mono fun _ _ ⟨h1, h2⟩ => ⟨h1, h2.below⟩)
theorem ba_app (a b : List UInt8) : (⟨a.toArray⟩ : ByteArray) ++ ⟨b.toArray⟩ = ⟨(a ++ b).toArray⟩ := by apply ByteArray.ext; simp
set_option maxRecDepth 100000 in
set_option maxHeartbeats 4000000 in
theorem rf_Put (w : World) (m : MC) (A : Option Addr) (c : Nat) (hs : Sl w 2 A m.props.length c (m.props.flatMap pcs)) (ho : MOk m) (hm : mayM m = true) :
    Calls Tryz.prog 89 #[.agg (mV m A c)] w fun e w' => e = .returned (.string ⟨(putM m).toArray⟩) ∧ Fr Nob w w' := by
  have HL := Lib.hid hs
  obtain ⟨pa, p8, hr, hk⟩ := may_parts hm
  obtain ⟨⟨hk0, hk1⟩, ⟨hq0, hq1⟩, ha, hf, hn⟩ := ho
  have HN := Lib.hid hn
  have HR := Lib.hid hr
  have hle := hs.le
  have hmx := hs.max
  unfold maxLen at hmx
  unfold I64 at ha
  clear hs hn hm hr
  obtain ⟨kind, seq, at_, props⟩ := m
  simp only at *
  obtain ⟨s, rfl⟩ : ∃ s : Nat, seq = s := ⟨seq.toNat, by omega⟩
  obtain ⟨a, rfl⟩ : ∃ a : Nat, at_ = a := ⟨at_.toNat, by omega⟩
  unfold mV at *
  simp only at *
  have hs64 : s < 18446744073709551616 := by omega
  have ha64 : a < 18446744073709551616 := by omega
  have ha63 : (a : Int) < 9223372036854775808 := by omega
  have HNS := Lib.hid (fun W => ref_Num W s hs64)
  have HNA := Lib.hid (fun W => ref_Num W a ha64)
  rcases hk with rfl | rfl | rfl | rfl
  · have HO := Lib.hid (show putM ⟨1, s, a, props⟩ = numO s by simp [putM])
    go_enter Tryz.func89, Tryz.ntmps89
    go_wp2_with (first | ((go_at_call 117); (with_reducible refine (HNS.out _).mono ?_); rintro e w2 ⟨rfl, hf2⟩) | fail)
    go_ret
    rw [HO.out]
    exact ⟨rfl, ((Fr.refl Nob w).alloc _).call hf2 (fun _ e _ => e)⟩
  · have hn64 : props.length < 18446744073709551616 := by omega
    have hnI : ((props.length : Nat) : Int) < 9223372036854775808 := by omega
    have HNN := Lib.hid (fun W => ref_Num W props.length hn64)
    have HO := Lib.hid (show putM ⟨2, s, a, props⟩ = numO s ++ numO a ++ numO props.length ++ (props.take props.length).flatMap propO by simp [putM])
    have hns := (numO_len hs64).2
    have hna := (numO_len ha64).2
    have hnn := (numO_len hn64).2
    have z1 := ba_sz (numO s)
    have z2 := ba_sz (numO a)
    have z3 := ba_sz (numO props.length)
    go_enter Tryz.func89, Tryz.ntmps89
    go_upto_region 7 with fail
    obtain ⟨W1, hW1⟩ : ∃ W1, W1 = w.alloc (.cells #[.int .u8 2, .int .u64 s, .int .i64 a, .slice A props.length c] 122) := ⟨_, rfl⟩
    have HF1 := Lib.hid (show Fr Nob w W1 by rw [hW1]; exact (Fr.refl _ _).alloc _)
    have HB1 := Lib.hid (show Blk W1 w.heap.size 122 #[.int .u8 2, .int .u64 s, .int .i64 a, .slice A props.length c] by rw [hW1]; exact Blk.new _ _ _)
    rw [← hW1]
    clear hW1
    have k1 := fun d os => cell_regrown (show W1.cell? ⟨w.heap.size, 1, none⟩ = some (.int .u64 s) from HB1.out.cell 1) d os
    have k2 := fun d os => cell_regrown (show W1.cell? ⟨w.heap.size, 2, none⟩ = some (.int .i64 a) from HB1.out.cell 2) d os
    have k3 := fun d os => cell_regrown (show W1.cell? ⟨w.heap.size, 3, none⟩ = some (.slice A props.length c) from HB1.out.cell 3) d os
    have C1 := Lib.hid (rgr (W := W1) fun W hf => HNS.out W)
    have C2 := Lib.hid (rgr (W := W1) fun W hf => HNA.out W)
    have C3 := Lib.hid (rgr (W := W1) fun W hf => HNN.out W)
    refine wp_region_quiet_below (by kernel_rfl) (by kernel_rfl) ?_
    repeat (go_big_quiet_step (first | with_reducible exact C1.out _ _ | with_reducible exact C2.out _ _ | with_reducible exact C3.out _ _))
    refine wpQuiet_nil ?_
    intro _ hw'
    obtain ⟨⟨dq, osq⟩, hw''⟩ := hw'
    subst hw''
    have HF2 := Lib.hid (show Fr Nob w (grow (redrawn W1 dq) osq) from HF1.out.call (Fr.of_below (S := Nob) (below_regrown _ dq osq)) (fun _ e _ => e))
    have HB2 := Lib.hid (show Blk (grow (redrawn W1 dq) osq) w.heap.size 122 #[.int .u8 2, .int .u64 s, .int .i64 a, .slice A props.length c] from HB1.out.fr (Fr.of_below (S := Nob) (below_regrown _ dq osq)) (fun e => e))
    generalize grow (redrawn W1 dq) osq = W2 at *
    rw [ba_app, ba_app]
    have hH : (numO s ++ numO a ++ numO props.length).length ≤ 27 := by simp only [List.length_append]; omega
    generalize numO s ++ numO a ++ numO props.length = H at *
    clear C1 C2 C3 HNS HNA HNN HF1 HB1
    go_wp2_with fail
    go_loopw [3, 4] (fun sv iv wr => ∃ (k : Nat) (o : List UInt8), k ≤ props.length ∧ iv = .int .i64 k ∧ sv = .string ⟨o.toArray⟩ ∧ o.length ≤ 27 + 30 * k ∧ Hid (o = H ++ (props.take k).flatMap propO) ∧ Hid (Fr Nob w wr) ∧ Hid (Blk wr w.heap.size 122 #[.int .u8 2, .int .u64 s, .int .i64 a, .slice A props.length c])) (fun _ iv _ => props.length - (intOf iv).toNat)
    case atStart => exact ⟨0, H, Nat.zero_le _, rfl, rfl, by omega, Lib.hid (by simp), HF2, HB2⟩
    case round =>
      obtain ⟨k, o, hk, rfl, rfl, hol, HOO, hfr, hbk⟩ := hrel
      have bx := hbk.out.cell
      by_cases hlt : k < props.length
      · have hK : (k : Int) < props.length := by omega
        have hK3 : 0 ≤ (k : Int) := by omega
        have hxn := name_short HR.out hlt
        have hxv := (HN.out _ (List.getElem_mem hlt)).2
        have hpl := propO_len hxn hxv
        have HTK := Lib.hid (show H ++ (props.take (k + 1)).flatMap propO = o ++ propO props[k] by rw [HOO.out, List.take_succ_eq_append_getElem hlt, List.flatMap_append, List.append_assoc]; simp)
        obtain ⟨ba, off, rfl, hba, d0, d1⟩ := pp_cells (HL.out.pure hfr.out) hlt
        generalize props[k] = x at *
        obtain ⟨xn, xv⟩ := x
        simp only at d0 d1 hxn hxv
        have HXV := Lib.hid hxv
        unfold I64 at hxv
        have hx64 : signO xv < 18446744073709551616 := signO_lt (by omega) (by omega)
        have e3 := fun d os => cell_regrown (show wr.cell? ⟨w.heap.size, 3, none⟩ = some (.slice (some ⟨ba, off, none⟩) props.length c) from bx 3) d os
        have e0 := fun d os => cell_regrown d0 d os
        have e1 := fun d os => cell_regrown d1 d os
        have C1 := Lib.hid (rgr (W := wr) fun W hf => ref_Text W xn (by omega))
        have C2 := Lib.hid (rgr (W := wr) fun W hf => (ref_Sign W xv HXV.out).mono fun _ _ ⟨h1, h2⟩ => ⟨h1, by rw [h2]; exact Fr.refl _ _⟩)
        have C3 := Lib.hid (rgr (W := wr) fun W hf => ref_Num W (signO xv) hx64)
        have hpe : propO ⟨xn, xv⟩ = textO xn.data.toList ++ numO (signO xv) := rfl
        rw [hpe] at hpl HTK
        rw [List.length_append] at hpl
        have z4 := ba_sz (textO xn.data.toList)
        have z5 := ba_sz (numO (signO xv))
        have z6 := ba_sz o
        clear hpe
        generalize textO xn.data.toList = tx at *
        go_upto_region 11 with fail
        refine wp_region_quiet_below (by kernel_rfl) (by kernel_rfl) ?_
        repeat (go_big_quiet_step (first | with_reducible exact C1.out _ _ | with_reducible exact C2.out _ _ | with_reducible exact C3.out _ _))
        refine wpQuiet_nil ?_
        intro _ hw'
        obtain ⟨⟨dq2, osq2⟩, hw''⟩ := hw'
        subst hw''
        have HF3 := Lib.hid (show Fr Nob w (grow (redrawn wr dq2) osq2) from hfr.out.call (Fr.of_below (S := Nob) (below_regrown _ dq2 osq2)) (fun _ e _ => e))
        have HB3 := Lib.hid (show Blk (grow (redrawn wr dq2) osq2) w.heap.size 122 _ from hbk.out.fr (Fr.of_below (S := Nob) (below_regrown _ dq2 osq2)) (fun e => e))
        generalize grow (redrawn wr dq2) osq2 = W3 at *
        rw [ba_app, ba_app]
        go_wp2_with fail
        exact ⟨⟨k + 1, _, by omega, by go_num, rfl, by simp only [List.length_append]; omega, Lib.hid HTK.out.symm, HF3, HB3⟩, by simp [intOf]; omega⟩
      · have hK : ¬ (k : Int) < props.length := by omega
        obtain rfl : k = props.length := by omega
        go_wp2_with fail
        go_ret
        rw [HO.out, HOO.out]
        exact ⟨rfl, hfr.out⟩
  · have HO := Lib.hid (show putM ⟨3, s, a, props⟩ = numO a by simp [putM])
    go_enter Tryz.func89, Tryz.ntmps89
    go_wp2_with (first | ((go_at_call 117); (with_reducible refine (HNA.out _).mono ?_); rintro e w2 ⟨rfl, hf2⟩) | fail)
    go_ret
    rw [HO.out]
    exact ⟨rfl, ((Fr.refl Nob w).alloc _).call hf2 (fun _ e _ => e)⟩
  · have HO := Lib.hid (show putM ⟨4, s, a, props⟩ = [] by simp [putM])
    go_enter Tryz.func89, Tryz.ntmps89
    go_wp2_with fail
    go_ret
    rw [HO.out]
    exact ⟨rfl, (Fr.refl Nob w).alloc _⟩
end Go.Proofs.YtidhlfcmjpnhgaaGreatDoor

/- A message's frame: the reference. -/
namespace Go.Proofs.YtidhlfcmjpnhgaaGreatDoor
open Go.RowKit Go.Lib Go.Shelf Go.Sort

set_option maxRecDepth 100000 in
set_option maxHeartbeats 4000000 in
theorem rf_Frame (w : World) (m : MC) (A : Option Addr) (c : Nat) (hs : Sl w 2 A m.props.length c (m.props.flatMap pcs)) (ho : MOk m) :
    Calls Tryz.prog 70 #[.agg (mV m A c)] w fun e w' => e = .returned (.string ⟨(frameM m).toArray⟩) ∧ Fr Nob w w' := by
  have HL := Lib.hid hs
  have HO := Lib.hid ho
  have HF1 := Lib.hid ((Fr.refl Nob w).alloc (.cells (mV m A c) 122))
  have HMAY := Lib.hid (rf_May (w.alloc (.cells (mV m A c) 122)) m A c (hs.alloc _) ho)
  have HBB := Lib.hid (Blk.new w 122 (mV m A c))
  have hk := ho.kind
  clear hs ho
  cases hm : mayM m with
  | false =>
    rw [hm] at HMAY
    have HR := Lib.hid (show frameM m = [] by simp [frameM, hm])
    unfold mV at *
    clear hm
    go_enter Tryz.func70, Tryz.ntmps70
    go_wp2_with (first | ((go_at_call 69); (with_reducible refine HMAY.out.mono ?_); rintro e w2 ⟨rfl, hf2⟩; have HF2 := Lib.hid (HF1.out.call hf2 (fun _ e _ => e)); clear hf2) | fail)
    go_ret
    rw [HR.out]
    exact ⟨rfl, HF2.out⟩
  | true =>
    rw [hm] at HMAY
    have HR := Lib.hid (show frameM m = frameO (UInt8.ofNat m.kind.toNat) (putM m) by simp [frameM, hm])
    have HK := Lib.hid (show (((UInt8.ofNat m.kind.toNat).toNat : Nat) : Int) = m.kind by
      rw [UInt8.toNat_ofNat_of_lt' (by simpa [UInt8.size] using (show m.kind.toNat < 256 by omega))]; omega)
    have hln := putM_len hm HO.out
    have HPUT := Lib.hid (fun W (hf : Fr Nob w W) => rf_Put W m A c (HL.out.pure hf) HO.out hm)
    have HFP := Lib.hid (fun W => ref_FPut W (UInt8.ofNat m.kind.toNat) ⟨(putM m).toArray⟩ (by rw [ba_sz (putM m)]; exact hln))
    rw [HK.out] at HFP
    rw [HR.out]
    clear hm HK
    unfold mV at *
    go_enter Tryz.func70, Tryz.ntmps70
    go_upto_region 3 with (first | ((go_at_call 69); (with_reducible refine HMAY.out.mono ?_); rintro e w2 ⟨rfl, hf2⟩; have HF2 := Lib.hid (HF1.out.call hf2 (fun _ e _ => e)); have HB2 := Lib.hid (HBB.out.fr hf2 (fun e => e)); clear hf2) | fail)
    have k0 := fun d os => cell_regrown (show w2.cell? ⟨w.heap.size, 0, none⟩ = some (.int .u8 m.kind) from HB2.out.cell 0) d os
    have k1 := fun d os => cell_regrown (show w2.cell? ⟨w.heap.size, 1, none⟩ = some (.int .u64 m.seq) from HB2.out.cell 1) d os
    have k2 := fun d os => cell_regrown (show w2.cell? ⟨w.heap.size, 2, none⟩ = some (.int .i64 m.at_) from HB2.out.cell 2) d os
    have k3 := fun d os => cell_regrown (show w2.cell? ⟨w.heap.size, 3, none⟩ = some (.slice A m.props.length c) from HB2.out.cell 3) d os
    have C1 := Lib.hid (rgr (W := w2) fun W hf => HPUT.out W (HF2.out.call hf (fun _ e _ => e)))
    have C2 := Lib.hid (rgr (W := w2) fun W hf => HFP.out W)
    clear HPUT HFP HMAY HL HO HBB HB2 HF1
    refine wp_region_quiet_below (by kernel_rfl) (by kernel_rfl) ?_
    repeat (go_big_quiet_step (first | with_reducible exact C1.out _ _ | with_reducible exact C2.out _ _))
    refine wpQuiet_nil ?_
    intro _ hw'
    obtain ⟨⟨dq, osq⟩, hw''⟩ := hw'
    subst hw''
    go_wp2_with fail
    go_ret
    exact ⟨rfl, HF2.out.call (Fr.of_below (S := Nob) (below_regrown _ dq osq)) (fun _ e _ => e)⟩
end Go.Proofs.YtidhlfcmjpnhgaaGreatDoor
