/- A message's body: the program. -/
import Derived.Test.YtidhlfcmjpnhgaaGreatDoorQY8
import Derived.Test.YtidhlfcmjpnhgaaGreatDoorST
namespace Go.Proofs.YtidhlfcmjpnhgaaGreatDoor
open Go.RowKit Go.Lib

theorem own_less {w : World} {b1 b e size n : Nat} {v : Value} {xs : List Value} (h : w.ownsRow b1 e size v n xs) (hb : b ≤ b1) : w.ownsRow b e size v n xs :=
  ⟨h.1, h.2.imp id fun ⟨g, cap, cur, hv, hg, r⟩ => ⟨g, cap, cur, hv, Nat.le_trans hb hg, r⟩⟩
theorem Ap.re {w W W' : World} {b1 b : Nat} {e : TypeId} {A : Option Addr} {c n : Nat} {o : List Value} (h : Ap W W' b1 e A c n o) (hf : Fr Nob w W) (hb : w.heap.size ≤ b) (h1 : b ≤ b1) : Ap w W' b e A c n o :=
  ⟨hf.call h.fr (fun _ e _ => e), own_less h.own h1, hb, Nat.le_trans h1 h.hi⟩
/-- A message's box, and the body that is being made. -/
structure MpS (w wr : World) (cs : Array Value) (A : Option Addr) (c n : Nat) (o : List UInt8) : Prop where
  ap : Ap w wr (w.heap.size + 1) 5 A c n (byteCells o)
  len : n = o.length
  box : Blk wr w.heap.size 39 cs
section
variable {w wr w1 : World} {cs : Array Value} {A A' : Option Addr} {c c' n m : Nat} {o l : List UInt8}
theorem MpS.start (hf : Fr Nob w wr) (hb : Blk wr w.heap.size 39 cs) : MpS w wr cs none 0 0 [] := ⟨Ap.start hf (by omega) (by have := hb.lt; omega), rfl, hb⟩
theorem MpS.aside (h : MpS w wr cs A c n o) (hf : Fr Nob wr w1) : MpS w w1 cs A c n o := ⟨h.ap.pure hf, h.len, h.box.fr hf (fun e => e)⟩
theorem MpS.more (h : MpS w wr cs A c n o) (hown : w1.ownsRow (w.heap.size + 1) 5 1 (.slice A' (n + l.length) c') (n + l.length) (byteCells o ++ byteCells l)) (hg : wr.grownBy w1 (A.map (·.block))) : MpS w w1 cs A' c' (n + l.length) (o ++ l) := by
  refine ⟨?_, by rw [List.length_append, h.len], h.ap.far hg h.box (by omega)⟩
  have := h.ap.app hown hg
  rwa [← byteCells_append] at this
theorem MpS.got {W : World} (h : MpS w wr cs A c n o) (hf : Fr Nob wr W) (hp : Ap W w1 W.heap.size 5 A' c' l.length (byteCells l)) : MpS w w1 cs A' c' l.length l :=
  ⟨hp.re (h.ap.fr.call hf (fun _ e _ => e)) (by omega) (by have := h.box.lt; have := hf.size; omega), rfl, h.box.fr (hf.call hp.fr (fun _ e _ => e)) (fun e => e)⟩
theorem MpS.fin (h : MpS w wr cs A c n o) : Ap w wr w.heap.size 5 A c n (byteCells o) := h.ap.re (Fr.refl Nob w) (Nat.le_refl _) (by omega)
end
theorem Blk.own_ne {w : World} {g b e size n c : Nat} {t : TypeId} {cs : Array Value} {A : Option Addr} {xs : List Value} (h : Blk w g t cs) (ho : w.ownsRow b e size (.slice A n c) n xs) (ht : t ≠ e) : A.map (·.block) ≠ some g := by
  rcases ho.2 with ⟨hv, _⟩ | ⟨k, cap, cur, hv, _, hk, _⟩
  · cases A with
    | none => simp
    | some a => cases hv
  · cases A with
    | none => simp
    | some a =>
      injection hv with hv
      injection hv with hv
      subst hv
      intro e
      injection e with e
      subst e
      unfold Blk at h
      rw [h] at hk
      injection hk with hk
      injection hk with _ hk
      exact ht hk
theorem name_short {l : List PP} (h : rightB l = true) {k : Nat} (hk : k < l.length) : l[k].name.size ≤ 12 := by
  have := (right_parts h).2 l[k] (List.getElem_mem hk)
  unfold nmOk at this
  simp only [Bool.and_eq_true, decide_eq_true_eq] at this
  exact this.1.1.1.2
theorem propO_len {p : PP} (h : p.name.size ≤ 12) (hv : I64 p.value) : (propO p).length ≤ 30 := by
  unfold I64 at hv
  have h1 := (numO_len (x := p.name.data.toList.length) (by simp; omega)).2
  have h2 := (numO_len (signO_lt (n := p.value) (by omega) (by omega))).2
  unfold propO textO
  simp only [List.length_append]
  simp only [Array.length_toList, ByteArray.size_data] at h1 ⊢
  omega
theorem may_parts {m : MC} (h : mayM m = true) : 0 ≤ m.at_ ∧ m.props.length ≤ 8 ∧ rightB m.props = true ∧ (m.kind = 1 ∨ m.kind = 2 ∨ m.kind = 3 ∨ m.kind = 4) := by
  unfold mayM at h
  split at h
  · cases h
  · rename_i h1
    rw [not_or, not_or] at h1
    refine ⟨by omega, by omega, by have := h1.2.2; revert this; cases rightB m.props <;> simp, ?_⟩
    by_cases k1 : m.kind = 1
    · exact .inl k1
    by_cases k2 : m.kind = 2
    · exact .inr (.inl k2)
    by_cases k3 : m.kind = 3
    · exact .inr (.inr (.inl k3))
    rw [if_neg k1, if_neg k2, if_neg k3] at h
    simp only [Bool.and_eq_true, decide_eq_true_eq] at h
    exact .inr (.inr (.inr h.1.1.1))
def MPutP (w : World) (m : MC) (e : Ending) (w' : World) : Prop :=
  (mayM m = true → ∃ B d, e = .returned (.tuple #[.slice B (putM m).length d, .int .i64 0]) ∧ Ap w w' w.heap.size 5 B d (putM m).length (byteCells (putM m))) ∧
  (mayM m = false → e = .returned (.tuple #[.slice none 0 0, .int .i64 1]) ∧ Fr Nob w w')
set_option maxRecDepth 100000 in
set_option maxHeartbeats 4000000 in
theorem prg_MPut (w : World) (m : MC) (A : Option Addr) (c : Nat) (hs : Sl w 2 A m.props.length c (m.props.flatMap pcs)) (ho : MOk m) :
    Calls Tryz.prog 23 #[.agg (mV m A c)] w fun e w' => MPutP w m e w' := by
  have HL := Lib.hid hs
  have HMAY := Lib.hid (prg_May (w.alloc (.cells (mV m A c) 39)) m A c (hs.alloc _) ho)
  have HS1 := Lib.hid (MpS.start ((Fr.refl Nob w).alloc (.cells (mV m A c) 39)) (Blk.new _ _ _))
  obtain ⟨⟨hk0, hk1⟩, ⟨hq0, hq1⟩, ha, hf, hn⟩ := ho
  have HN := Lib.hid hn
  have hle := hs.le
  have hmx := hs.max
  unfold maxLen at hmx
  unfold I64 at ha
  clear hs hn
  cases hm : mayM m with
  | false =>
    rw [hm] at HMAY
    have HM := Lib.hid hm
    clear hm
    unfold mV at *
    go_enter Tryz.func23, Tryz.ntmps23
    go_wp2_with (first | ((go_at_call 10); (with_reducible refine HMAY.out.mono ?_); rintro e w2 ⟨rfl, hf2⟩; have HS2 := Lib.hid (HS1.out.aside hf2); clear hf2) | fail)
    go_ret2
    exact ⟨fun e => (by rw [HM.out] at e; cases e), fun _ => ⟨rfl, HS2.out.ap.fr⟩⟩
  | true =>
    rw [hm] at HMAY
    obtain ⟨pa, p8, hr, hk⟩ := may_parts hm
    have HM := Lib.hid hm
    have HR := Lib.hid hr
    clear hm hr
    obtain ⟨kind, seq, at_, props⟩ := m
    simp only at *
    obtain ⟨s, rfl⟩ : ∃ s : Nat, seq = s := ⟨seq.toNat, by omega⟩
    obtain ⟨a, rfl⟩ : ∃ a : Nat, at_ = a := ⟨at_.toNat, by omega⟩
    unfold mV at *
    simp only at *
    have hs64 : s < 18446744073709551616 := by omega
    have ha64 : a < 18446744073709551616 := by omega
    have ha63 : (a : Int) < 9223372036854775808 := by omega
    rcases hk with rfl | rfl | rfl | rfl
    · have HO := Lib.hid (show putM ⟨1, s, a, props⟩ = numO s by simp [putM])
      go_enter Tryz.func23, Tryz.ntmps23
      go_wp2_with (first
        | ((go_at_call 10); (with_reducible refine HMAY.out.mono ?_); rintro e w2 ⟨rfl, hf2⟩; have HS2 := Lib.hid (HS1.out.aside hf2); have bx := HS2.out.box.cell; clear hf2)
        | ((go_at_call 49); (refine (prg_OPut _ _ _ s (Sl.new1 (Blk.new_eq rfl) 1 1 rfl (by decide)) hs64).mono ?_); rintro e W3 ⟨A3, c3, rfl, hp⟩; have HQW3 := Lib.hid hp; have HSW3 := Lib.hid (HS2.out.aside (((Fr.refl Nob _).alloc _).call hp.fr (fun _ e _ => e))); have bx := HSW3.out.box.cell; clear hp)
        | fail)
      have HE := Lib.hid (HS2.out.got ((Fr.refl Nob _).alloc _) HQW3.out)
      go_ret2
      refine ⟨fun _ => ?_, fun e => (by rw [HM.out] at e; cases e)⟩
      rw [HO.out]
      exact ⟨_, _, rfl, HE.out.fin⟩
    · have HO := Lib.hid (show putM ⟨2, s, a, props⟩ = numO s ++ numO a ++ numO props.length ++ (props.take props.length).flatMap propO by simp [putM])
      have hn64 : props.length < 18446744073709551616 := by omega
      have hnI : ((props.length : Nat) : Int) < 9223372036854775808 := by omega
      have hns := numO_len hs64
      have hna := numO_len ha64
      have hnn := numO_len hn64
      go_enter Tryz.func23, Tryz.ntmps23
      go_upto_region 13 with (first
        | ((go_at_call 10); (with_reducible refine HMAY.out.mono ?_); rintro e w2 ⟨rfl, hf2⟩; have HS2 := Lib.hid (HS1.out.aside hf2); have bx := HS2.out.box.cell; clear hf2)
        | ((go_at_call 49); (refine (prg_OPut _ _ _ s (Sl.new1 (Blk.new_eq rfl) 1 1 rfl (by decide)) hs64).mono ?_); rintro e W3 ⟨A3, c3, rfl, hp⟩; have HSW3 := Lib.hid (HS2.out.got ((Fr.refl Nob _).alloc _) hp); have bx := HSW3.out.box.cell; clear hp)
        | ((go_at_call 49); (refine (prg_OPut _ _ _ a (Sl.new1 (Blk.new_eq rfl) 1 1 rfl (by decide)) ha64).mono ?_); rintro e W4 ⟨A4, c4, rfl, hp⟩; have HQW4 := Lib.hid hp; have HSW4 := Lib.hid (HSW3.out.aside (((Fr.refl Nob _).alloc _).call hp.fr (fun _ e _ => e))); have bx := HSW4.out.box.cell; clear hp)
        | (at_builtin; refine wpList_app rfl _ _ 32 rfl elemU8 (base := w.heap.size + 1) (xs := byteCells (numO s)) (news := byteCells (numO a)) rfl HSW4.out.ap.own rfl HQW4.out.sl (bytes_one _) ?h63 ?hby HSW4.out.ap.hi ?_; (case h63 => unfold maxLen; omega); (case hby => omega); intro A5 c5 W5 hown hg _; have HSW5 := Lib.hid (HSW4.out.more hown hg); have bx := HSW5.out.box.cell; clear hown hg)
        | ((go_at_call 49); (refine (prg_OPut _ _ _ props.length (Sl.new1 (Blk.new_eq rfl) 1 1 rfl (by decide)) hn64).mono ?_); rintro e W6 ⟨A6, c6, rfl, hp⟩; have HQW6 := Lib.hid hp; have HSW6 := Lib.hid (HSW5.out.aside (((Fr.refl Nob _).alloc _).call hp.fr (fun _ e _ => e))); have bx := HSW6.out.box.cell; clear hp)
        | (at_builtin; refine wpList_app rfl _ _ 32 rfl elemU8 (base := w.heap.size + 1) (xs := byteCells (numO s ++ numO a)) (news := byteCells (numO props.length)) rfl HSW6.out.ap.own rfl HQW6.out.sl (bytes_one _) ?h63 ?hby HSW6.out.ap.hi ?_; (case h63 => unfold maxLen; omega); (case hby => omega); intro A7 c7 W7 hown hg _; have HSW7 := Lib.hid (HSW6.out.more hown hg); have bx := HSW7.out.box.cell; clear hown hg)
        | fail)
      have HSW8 := Lib.hid HSW7.out
      have HLL := Lib.hid (show ((numO s).length + (numO a).length + (numO props.length).length) ≤ 27 by omega)
      clear HMAY HS1 HS2 HSW3 HSW4 HQW4 HSW5 HSW6 HQW6 HSW7
      generalize hH : numO s ++ numO a ++ numO props.length = H at *
      generalize (numO s).length + (numO a).length + (numO props.length).length = h0 at *
      go_wp2_with fail
      go_loopw [4, 47] (fun ov iv wr => ∃ (k : Nat) (A' : Option Addr) (c' n : Nat), k ≤ props.length ∧ iv = .int .i64 k ∧ ov = .slice A' n c' ∧ n ≤ 27 + 30 * k ∧ Hid (MpS w wr #[.int .u8 2, .int .u64 s, .int .i64 a, .slice A props.length c] A' c' n (H ++ (props.take k).flatMap propO))) (fun _ iv _ => props.length - (RowKit.intOf iv).toNat)
      case atStart => exact ⟨0, A7, c7, h0, Nat.zero_le _, rfl, rfl, HLL.out, by simpa using HSW8⟩
      case round =>
        obtain ⟨k, A', c', n, hk, rfl, rfl, hno, hp⟩ := hrel
        by_cases hlt : k < props.length
        · have hK : (k : Int) < props.length := by omega
          have hK3 : 0 ≤ (k : Int) := by omega
          have hxn := name_short HR.out hlt
          have hxv := (HN.out _ (List.getElem_mem hlt)).2
          have HLEN := Lib.hid (propO_len hxn hxv)
          have HTK := Lib.hid (show H ++ (props.take (k + 1)).flatMap propO = H ++ (props.take k).flatMap propO ++ propO props[k] by rw [List.take_succ_eq_append_getElem hlt, List.flatMap_append, List.append_assoc]; simp)
          obtain ⟨ba, off, rfl, hba, d0, d1⟩ := pp_cells (HL.out.pure hp.out.ap.fr) hlt
          generalize props[k] = x at *
          generalize H ++ (props.take k).flatMap propO = o at *
          obtain ⟨xn, xv⟩ := x
          simp only at d0 d1 hxn hxv
          have HXV := Lib.hid hxv
          unfold I64 at hxv
          have hx64 : signO xv < 18446744073709551616 := signO_lt (by omega) (by omega)
          have HPX := Lib.hid (Blk.new wr 41 #[.string xn, .int .i64 xv])
          have hpl : (propO ⟨xn, xv⟩).length = (textO xn.data.toList).length + (numO (signO xv)).length := by simp [propO]
          have HLEN2 := HLEN.out
          rw [hpl] at HLEN2
          have HPR := Lib.hid (show propO ⟨xn, xv⟩ = textO xn.data.toList ++ numO (signO xv) from rfl)
          have HSG := Lib.hid (fun W => prg_Sign W xv HXV.out)
          rw [HPR.out] at HTK
          clear HLEN hpl HPR
          generalize signO xv = sv at *
          generalize htx : textO xn.data.toList = tx at *
          have HTX := Lib.hid htx
          clear htx
          generalize hnv : numO sv = nv at *
          have HNV := Lib.hid hnv
          clear hnv
          go_wp2_with (first
            | ((go_at_call 50); (refine (prg_OTexts _ _ _ xn (Sl.new1 (Blk.new_eq (by simp)) 1 1 rfl (by decide)) (by omega)).mono ?_); rintro e U1 ⟨B1, d1, rfl, hp1⟩; rw [HTX.out] at hp1 ⊢; have HQU1 := Lib.hid hp1; have HSU1 := Lib.hid (hp.out.aside ((((Fr.refl Nob wr).alloc _).alloc _).call hp1.fr (fun _ e _ => e))); have HPU1 := Lib.hid ((HPX.out.alloc _).fr hp1.fr (fun e => e)); clear hp1)
            | (at_builtin; refine wpList_app rfl _ _ 32 rfl elemU8 (base := w.heap.size + 1) (xs := byteCells o) (news := byteCells tx) rfl HSU1.out.ap.own rfl HQU1.out.sl (bytes_one _) ?h63 ?hby HSU1.out.ap.hi ?_; (case h63 => unfold maxLen; omega); (case hby => omega); intro A5 c5 U2 hown hg _; have HSU2 := Lib.hid (HSU1.out.more hown hg); have HPU2 := Lib.hid (HPU1.out.grown hg (HPU1.out.own_ne HSU1.out.ap.own (by decide))); have pc := HPU2.out.cell; clear hown hg)
            | ((go_at_call 51); (with_reducible refine (HSG.out _).mono ?_); rintro e U3 ⟨rfl, rfl⟩)
            | ((go_at_call 49); (refine (prg_OPut _ _ _ sv (Sl.new1 (Blk.new_eq rfl) 1 1 rfl (by decide)) hx64).mono ?_); rintro e U4 ⟨B4, d4, rfl, hp4⟩; rw [HNV.out] at hp4 ⊢; have HQU4 := Lib.hid hp4; have HSU4 := Lib.hid (HSU2.out.aside (((Fr.refl Nob _).alloc _).call hp4.fr (fun _ e _ => e))); clear hp4)
            | (at_builtin; refine wpList_app rfl _ _ 32 rfl elemU8 (base := w.heap.size + 1) (xs := byteCells (o ++ tx)) (news := byteCells nv) rfl HSU4.out.ap.own rfl HQU4.out.sl (bytes_one _) ?h63 ?hby HSU4.out.ap.hi ?_; (case h63 => unfold maxLen; omega); (case hby => omega); intro A6 c6 U5 hown hg _; have HSU5 := Lib.hid (HSU4.out.more hown hg); clear hown hg)
            | fail)
          have HF := HSU5.out
          rw [List.append_assoc, ← HTK.out] at HF
          exact ⟨⟨k + 1, A6, c6, n + tx.length + nv.length, by omega, by go_num, rfl, by omega, Lib.hid HF⟩, by simp [RowKit.intOf]; omega⟩
        · have hK : ¬ (k : Int) < props.length := by omega
          obtain rfl : k = props.length := by omega
          go_wp2_with fail
          go_ret2
          refine ⟨fun _ => ?_, fun e => (by rw [HM.out] at e; cases e)⟩
          have HE := hp.out.fin
          have HN2 := hp.out.len
          rw [HO.out, ← HN2]
          exact ⟨A', c', rfl, HE⟩
    · have HO := Lib.hid (show putM ⟨3, s, a, props⟩ = numO a by simp [putM])
      have hna := numO_len ha64
      go_enter Tryz.func23, Tryz.ntmps23
      go_wp2_with (first
        | ((go_at_call 10); (with_reducible refine HMAY.out.mono ?_); rintro e w2 ⟨rfl, hf2⟩; have HS2 := Lib.hid (HS1.out.aside hf2); have bx := HS2.out.box.cell; clear hf2)
        | ((go_at_call 49); (refine (prg_OPut _ _ _ a (Sl.new1 (Blk.new_eq rfl) 1 1 rfl (by decide)) ha64).mono ?_); rintro e W3 ⟨A3, c3, rfl, hp⟩; have HQW3 := Lib.hid hp; have HSW3 := Lib.hid (HS2.out.aside (((Fr.refl Nob _).alloc _).call hp.fr (fun _ e _ => e))); have bx := HSW3.out.box.cell; clear hp)
        | (at_builtin; refine wpList_app rfl _ _ 32 rfl elemU8 (base := w.heap.size + 1) (xs := byteCells ([])) (news := byteCells (numO a)) rfl HSW3.out.ap.own rfl HQW3.out.sl (bytes_one _) ?h63 ?hby HSW3.out.ap.hi ?_; (case h63 => unfold maxLen; omega); (case hby => omega); intro A4 c4 W4 hown hg _; have HSW4 := Lib.hid (HSW3.out.more hown hg); have bx := HSW4.out.box.cell; clear hown hg)
        | fail)
      go_ret2
      refine ⟨fun _ => ?_, fun e => (by rw [HM.out] at e; cases e)⟩
      rw [HO.out]
      exact ⟨A4, c4, by simp, by have h := HSW4.out.fin; rwa [Nat.zero_add, List.nil_append] at h⟩
    · have HO := Lib.hid (show putM ⟨4, s, a, props⟩ = [] by simp [putM])
      go_enter Tryz.func23, Tryz.ntmps23
      go_wp2_with (first
        | ((go_at_call 10); (with_reducible refine HMAY.out.mono ?_); rintro e w2 ⟨rfl, hf2⟩; have HS2 := Lib.hid (HS1.out.aside hf2); have bx := HS2.out.box.cell; clear hf2)
        | fail)
      go_ret2
      refine ⟨fun _ => ?_, fun e => (by rw [HM.out] at e; cases e)⟩
      rw [HO.out]
      exact ⟨_, _, rfl, HS2.out.fin⟩
end Go.Proofs.YtidhlfcmjpnhgaaGreatDoor
