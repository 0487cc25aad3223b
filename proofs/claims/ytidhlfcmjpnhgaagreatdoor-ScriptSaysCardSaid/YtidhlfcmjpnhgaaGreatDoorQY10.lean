/- A message's frame: the program. -/
import Derived.Test.YtidhlfcmjpnhgaaGreatDoorQY9
namespace Go.Proofs.YtidhlfcmjpnhgaaGreatDoor
open Go.RowKit Go.Lib

theorem propO_len2 {p : PP} (h : p.name.size ≤ 12) (hv : I64 p.value) : (propO p).length ≤ 22 := by
  unfold I64 at hv
  have h1 : (numO p.name.data.toList.length).length = 1 := by
    unfold numO
    rw [if_pos (by simp; omega)]
    rfl
  have h2 := (numO_len (signO_lt (n := p.value) (by omega) (by omega))).2
  unfold propO textO
  simp only [List.length_append, h1]
  simp only [Array.length_toList, ByteArray.size_data]
  omega
theorem flat_props : ∀ (l : List PP), (∀ p ∈ l, (propO p).length ≤ 22) → (l.flatMap propO).length ≤ 22 * l.length
  | [], _ => by simp
  | p :: l, h => by
    have h1 := h p (by simp)
    have h2 := flat_props l (fun q hq => h q (by simp [hq]))
    rw [List.flatMap_cons, List.length_append, List.length_cons]
    omega
theorem putM_len {m : MC} (h : mayM m = true) (ho : MOk m) : (putM m).length ≤ 256 := by
  obtain ⟨pa, p8, hr, hk⟩ := may_parts h
  obtain ⟨⟨hk0, hk1⟩, ⟨hq0, hq1⟩, ha, hf, hn⟩ := ho
  unfold I64 at ha
  have h1 := (numO_len (x := m.seq.toNat) (by omega)).2
  have h2 := (numO_len (x := m.at_.toNat) (by omega)).2
  have h3 := (numO_len (x := m.props.length) (by omega)).2
  have h4 := flat_props m.props fun p hp => by
    obtain ⟨k, hk, rfl⟩ := List.getElem_of_mem hp
    exact propO_len2 (name_short hr hk) (hn _ hp).2
  unfold putM
  (repeat' split) <;> (try simp only [List.length_append, List.length_nil]) <;> omega
set_option maxRecDepth 100000 in
set_option maxHeartbeats 4000000 in
theorem prg_MFrame (w : World) (m : MC) (A : Option Addr) (c : Nat) (hs : Sl w 2 A m.props.length c (m.props.flatMap pcs)) (ho : MOk m) (hv : TnVar w) :
    Calls Tryz.prog 12 #[.agg (mV m A c)] w fun e w' => BsR w w' e (frameM m) := by
  have HV := Lib.hid hv
  have HPUT := Lib.hid (prg_MPut (w.alloc (.cells (mV m A c) 39)) m A c (hs.alloc _) ho)
  have HF1 := Lib.hid ((Fr.refl Nob w).alloc (.cells (mV m A c) 39))
  have HB1 := Lib.hid (Blk.new w 39 (mV m A c))
  have HLEN := Lib.hid (fun h => putM_len (m := m) h ho)
  have hk := ho.kind
  clear hs ho hv
  cases hm : mayM m with
  | false =>
    have HM := Lib.hid hm
    have HO := Lib.hid (show frameM m = [] by simp [frameM, hm])
    clear hm
    unfold mV at *
    go_enter Tryz.func12, Tryz.ntmps12
    go_wp2_with (first | ((go_at_call 23); (with_reducible refine HPUT.out.mono ?_); rintro e w2 ⟨-, h2⟩; obtain ⟨rfl, hf2⟩ := h2 HM.out; have HF2 := Lib.hid (HF1.out.call hf2 (fun _ e _ => e)); clear hf2 h2) | fail)
    go_ret
    rw [HO.out]
    exact ⟨none, 0, rfl, Ap.nil0 HF2.out⟩
  | true =>
    have HM := Lib.hid hm
    have HO := Lib.hid (show frameM m = frameO (UInt8.ofNat m.kind.toNat) (putM m) by simp [frameM, hm])
    have hln := HLEN.out hm
    have HK := Lib.hid (show (((UInt8.ofNat m.kind.toNat).toNat : Nat) : Int) = m.kind by
      rw [UInt8.toNat_ofNat_of_lt' (by simpa [UInt8.size] using (show m.kind.toNat < 256 by omega))]; omega)
    have HPF := Lib.hid (fun W B d (h : Sl W 1 B (putM m).length d (byteCells (putM m))) (hw : Fr Nob w W) => prg_FPut W (UInt8.ofNat m.kind.toNat) B d (putM m) h hln (HV.out.fr hw))
    rw [HK.out] at HPF
    rw [HO.out]
    clear hm HLEN HK HO
    unfold mV at *
    generalize frameO (UInt8.ofNat m.kind.toNat) (putM m) = Fm at *
    go_enter Tryz.func12, Tryz.ntmps12
    go_wp2_with (first
      | ((go_at_call 23); (with_reducible refine HPUT.out.mono ?_); rintro e w2 ⟨h2, -⟩; obtain ⟨B, d, rfl, hp2⟩ := h2 HM.out; have HP2 := Lib.hid hp2; have HF2 := Lib.hid (HF1.out.call hp2.fr (fun _ e _ => e)); have HB2 := Lib.hid (HB1.out.fr hp2.fr (fun e => e)); have bx := HB2.out.cell; clear hp2 h2)
      | ((go_at_call 24); (with_reducible refine (HPF.out _ _ _ HP2.out.sl HF2.out).mono ?_); rintro e w3 ⟨B3, d3, rfl, hp3⟩; have HP3 := Lib.hid hp3; clear hp3)
      | fail)
    go_ret
    exact ⟨B3, d3, rfl, HP3.out.re HF2.out (Nat.le_refl _) HF2.out.size⟩
end Go.Proofs.YtidhlfcmjpnhgaaGreatDoor
