/- A line's propositions: what a word says, in plain words, and the calls on texts. -/
import Derived.Test.YtidhlfcmjpnhgaaGreatDoorSH
import Derived.Test.YtidhlfcmjpnhgaaGreatDoorSF
import Derived.Lib.IndexBytes
import Derived.Test.YtidhlfcmjpnhgaaGreatDoorSB
import Derived.Deep.RegionHeld3
namespace Go.Proofs.YtidhlfcmjpnhgaaGreatDoor
open Go.RowKit Go.Lib Go.Shelf

theorem ix_one : ∀ l : List UInt8, ((61 : UInt8) ∉ l → Lib.index l [61] = -1) ∧ ((61 : UInt8) ∈ l → Lib.index l [61] = ((l.takeWhile (· != 61)).length : Nat))
  | [] => by simp [Lib.index]
  | c :: l => by
    obtain ⟨h1, h2⟩ := ix_one l
    rw [index_one] at h1 h2 ⊢
    unfold Lib.indexByte
    by_cases hc : c = 61
    · subst hc; simp
    · have hb : (c == 61) = false := by simpa using hc
      rw [hb]
      refine ⟨fun h => ?_, fun h => ?_⟩
      · rw [h1 (fun e => h (by simp [e]))]; rfl
      · have hm : (61 : UInt8) ∈ l := by
          rcases List.mem_cons.1 h with h | h
          · exact absurd h.symm hc
          · exact h
        rw [h2 hm]
        have : (((l.takeWhile (· != 61)).length : Int) == -1) = false := by rw [beq_eq_false_iff_ne]; omega
        rw [this, List.takeWhile_cons]
        simp [hc]
def cutN (s : ByteArray) : ByteArray := ⟨(Lib.cut s.data.toList [61]).1.toArray⟩
def cutV (s : ByteArray) : ByteArray := ⟨(Lib.cut s.data.toList [61]).2.1.toArray⟩
def cutB (s : ByteArray) : Bool := (Lib.cut s.data.toList [61]).2.2
theorem cut_eq (l : List UInt8) : Lib.cut l [61] = if (61 : UInt8) ∈ l then (l.takeWhile (· != 61), (l.dropWhile (· != 61)).drop 1, true) else (l, [], false) := by
  obtain ⟨h1, h2⟩ := ix_one l
  unfold Lib.cut
  by_cases hm : (61 : UInt8) ∈ l
  · rw [if_pos hm, if_pos (by rw [h2 hm]; omega), h2 hm, Int.toNat_natCast]
    have key : ∀ tw dw : List UInt8, l = tw ++ dw → (l.take tw.length, l.drop (tw.length + 1), true) = (tw, dw.drop 1, true) := by
      rintro tw dw rfl
      simp [List.drop_append]
    exact key _ _ (List.takeWhile_append_dropWhile).symm
  · rw [if_neg hm, if_neg (by rw [h1 hm]; decide)]
theorem ba_sz (l : List UInt8) : (⟨l.toArray⟩ : ByteArray).size = l.length := by show l.toArray.size = _; simp
theorem cut_len (s : ByteArray) : (cutN s).size ≤ s.size ∧ (cutV s).size ≤ s.size := by
  unfold cutN cutV
  rw [ba_sz (Lib.cut s.data.toList [61]).1, ba_sz (Lib.cut s.data.toList [61]).2.1, cut_eq]
  have hs : s.data.toList.length = s.size := by simp
  have e : (s.data.toList.takeWhile (· != 61)).length + (s.data.toList.dropWhile (· != 61)).length = s.size := by
    rw [← List.length_append, List.takeWhile_append_dropWhile]; exact hs
  split
  · refine ⟨by simp only; omega, ?_⟩
    simp only [List.length_drop]
    omega
  · refine ⟨by simp only; omega, by simp⟩
theorem propC_cut (s : ByteArray) : propC s.data.toList = if cutB s = true ∧ nmOk (cutN s) = true then (match valueC (cutV s).data.toList with | none => none | some (n, f) => some (⟨cutN s, n⟩, f)) else none := by
  unfold propC cutB cutN cutV
  rw [cut_eq]
  by_cases hm : (61 : UInt8) ∈ s.data.toList
  · rw [if_pos hm]
    simp only [hm, true_and]
    rfl
  · rw [if_neg hm]
    simp [hm]
def trimD (V : List UInt8) : List UInt8 := if V.head? = some 45 then V.tail else V
theorem trim_eq (V : List UInt8) : Lib.trimPrefix V [45] = trimD V := by
  unfold Lib.trimPrefix Lib.hasPrefix trimD
  cases V with
  | nil => rfl
  | cons c r =>
    by_cases hc : c = 45
    · subst hc; simp
    · have : ¬ (45 : UInt8) = c := fun e => hc e.symm
      simp [hc, this, List.isPrefixOf]
theorem value_none {V : List UInt8} (h : natC (trimD V) = none) : valueC V = none := by
  unfold trimD at h
  unfold valueC
  split
  · rename_i h1; rw [if_pos h1] at h; rw [h]
  · rename_i h1; rw [if_neg h1] at h; rw [h]
theorem value_nought : valueC [45, 48] = none := by decide
theorem value_parse {V : List UInt8} {n : Nat} (h : natC (trimD V) = some n) (h0 : V ≠ [45, 48]) :
    (∃ v, valueC V = some (v, true) ∧ Lib.parseIntB 64 V = .ok v ∧ I64 v) ∨ (valueC V = some (0, false) ∧ Lib.parseIntB 64 V = .range) := by
  obtain ⟨n1, n2, n3⟩ := natC_inv h
  unfold trimD at h n1 n2 n3
  unfold valueC
  by_cases h1 : V.head? = some 45
  · rw [if_pos h1] at h n1 n2 n3
    obtain ⟨r, rfl⟩ : ∃ r, V = 45 :: r := by
      cases V with
      | nil => simp at h1
      | cons c r => simp at h1; exact ⟨r, by rw [h1]⟩
    have hp := parse_neg (List.all_eq_true.1 n2) n1
    rw [List.tail_cons] at hp h n3
    rw [← n3] at hp
    have ht : ¬ (45 :: r : List UInt8).tail = [48] := fun e => h0 (by rw [List.tail_cons] at e; rw [e])
    have hn : natC (45 :: r : List UInt8).tail = some n := h
    rw [if_pos h1, hn]
    simp only
    rw [if_neg ht]
    by_cases hm : n ≤ 9223372036854775808
    · rw [if_pos hm]
      refine .inl ⟨_, rfl, ?_, by unfold I64; omega⟩
      rw [hp]; simp [valB, hm, ends]
    · rw [if_neg hm]
      refine .inr ⟨rfl, ?_⟩
      rw [hp]; simp [valB, hm, ends]
  · rw [if_neg h1] at h n1 n2 n3
    have hp := parse_pos (List.all_eq_true.1 n2) n1
    rw [← n3] at hp
    rw [if_neg h1, h]
    simp only
    by_cases hm : n ≤ 9223372036854775807
    · rw [if_pos hm]
      refine .inl ⟨_, rfl, ?_, by unfold I64; omega⟩
      rw [hp]; simp [valB, hm, ends]
    · rw [if_neg hm]
      refine .inr ⟨rfl, ?_⟩
      rw [hp]; simp [valB, hm, ends]
theorem prg_Cut (w : World) (s : ByteArray) (hs : s.size ≤ 100000) (hm : MaxVar w) : Calls Tryz.prog 60 #[.string s, .string ⟨#[61]⟩] w fun e w' => e = .returned (.tuple #[.string (cutN s), .string (cutV s), .bool (cutB s)]) ∧ Fr Nob w w' := by
  obtain ⟨m, hm⟩ := hm
  have := Any.strings_Cut Tryz.strCut s ⟨#[61]⟩ m w (by omega) hm
  change Calls Tryz.prog 60 _ _ _ at this
  refine this.mono fun _ _ ⟨h1, n, h2⟩ => ⟨h1, ?_⟩
  rw [h2]
  exact (Fr.refl Nob w).drewN n
theorem prg_Trim (w : World) (s : ByteArray) : Calls Tryz.prog 62 #[.string s, .string ⟨#[45]⟩] w fun e w' => e = .returned (.string ⟨(trimD s.data.toList).toArray⟩) ∧ w = w' := by
  have := Any.strings_TrimPrefix Tryz.strTrim s ⟨#[45]⟩ w
  change Calls Tryz.prog 62 _ _ _ at this
  refine this.mono fun _ _ ⟨h1, h2⟩ => ⟨?_, h2.symm⟩
  rw [← trim_eq]
  exact h1
end Go.Proofs.YtidhlfcmjpnhgaaGreatDoor

/- A line's propositions: the program. -/
namespace Go.Proofs.YtidhlfcmjpnhgaaGreatDoor
open Go.RowKit Go.Lib

/-- Blocks from N on. -/
def Hi (N : Nat) : Nat → Prop := fun i => N ≤ i
def PropP (w : World) (N b r : Nat) (V : Value) (ps : List PP) (o : Option (PP × Bool)) (e : Ending) (w' : World) : Prop :=
  (o = none → e = .returned (.tuple #[.bool false, .bool false]) ∧ Fr Nob w w') ∧
  (∀ p, o = some (p, false) → e = .returned (.tuple #[.bool true, .bool false]) ∧ Fr Nob w w') ∧
  (∀ p, o = some (p, true) → e = .returned (.tuple #[.bool true, .bool true]) ∧ ∃ A c, Blk w' b 70 #[.map (some r), V, .slice A (ps.length + 1) c] ∧ w'.ownsRow N 41 2 (.slice A (ps.length + 1) c) (ps.length + 1) ((ps ++ [p]).flatMap pcs) ∧ Fr (Hi N) w w')
section
variable {w w' : World} {N b r : Nat} {V : Value} {ps : List PP} {o : Option (PP × Bool)}
theorem PropP.none_ (h : o = none) (hf : Fr Nob w w') : PropP w N b r V ps o (.returned (.tuple #[.bool false, .bool false])) w' :=
  ⟨fun _ => ⟨rfl, hf⟩, fun n e => (by rw [h] at e; cases e), fun n e => (by rw [h] at e; cases e)⟩
theorem PropP.far {p : PP} (h : o = some (p, false)) (hf : Fr Nob w w') : PropP w N b r V ps o (.returned (.tuple #[.bool true, .bool false])) w' :=
  ⟨fun e => (by rw [h] at e; cases e), fun _ _ => ⟨rfl, hf⟩, fun q e => (by rw [h] at e; injection e with e; injection e with _ e; cases e)⟩
theorem PropP.ok {p : PP} {A : Option Addr} {c : Nat} (h : o = some (p, true)) (hb : Blk w' b 70 #[.map (some r), V, .slice A (ps.length + 1) c]) (ho : w'.ownsRow N 41 2 (.slice A (ps.length + 1) c) (ps.length + 1) ((ps ++ [p]).flatMap pcs)) (hf : Fr (Hi N) w w') : PropP w N b r V ps o (.returned (.tuple #[.bool true, .bool true])) w' :=
  ⟨fun e => (by rw [h] at e; cases e), fun q e => (by rw [h] at e; injection e with e; injection e with _ e; cases e), fun q e => (by rw [h] at e; injection e with e; injection e with e _; subst e; exact ⟨rfl, A, c, hb, ho, hf⟩)⟩
end
theorem prop_box {w w3 W4 : World} {N b : Nat} {cs : Array Value} {A : Option Addr} {c : Nat} {ps : List PP} (ob : Obj) (hb : Blk w b 70 cs) (ho : w.ownsRow N 41 2 (.slice A ps.length c) ps.length (ps.flatMap pcs)) (hf : Fr Nob w w3) (hg : (w3.alloc ob).grownBy W4 (A.map (·.block))) : Blk W4 b 70 cs :=
  ((hb.fr hf (fun e => e)).alloc ob).grown hg (hb.own_ne ho (by decide))
theorem prop_end {w w3 W4 : World} {N b : Nat} {m V V3 : Value} {A A4 : Option Addr} {c c4 : Nat} {ps : List PP} {p : PP} (ob : Obj) (hb : Blk w b 70 #[m, V, V3]) (ho : w.ownsRow N 41 2 (.slice A ps.length c) ps.length (ps.flatMap pcs)) (hN : N ≤ b) (hf : Fr Nob w w3) (hg : (w3.alloc ob).grownBy W4 (A.map (·.block)))
    (hown : W4.ownsRow N 41 2 (.slice A4 (ps.length + 1) c4) (ps.length + 1) (ps.flatMap pcs ++ [.string p.name, .int .i64 p.value])) :
    Blk (W4.setCell ⟨b, 2, none⟩ (.slice A4 (ps.length + 1) c4)) b 70 #[m, V, .slice A4 (ps.length + 1) c4] ∧ (W4.setCell ⟨b, 2, none⟩ (.slice A4 (ps.length + 1) c4)).ownsRow N 41 2 (.slice A4 (ps.length + 1) c4) (ps.length + 1) ((ps ++ [p]).flatMap pcs) ∧ Fr (Hi N) w (W4.setCell ⟨b, 2, none⟩ (.slice A4 (ps.length + 1) c4)) := by
  have h4 := prop_box ob hb ho hf hg
  refine ⟨h4.set 2 _, ?_, ?_⟩
  · have he : ps.flatMap pcs ++ [.string p.name, .int .i64 p.value] = (ps ++ [p]).flatMap pcs := by simp [pcs]
    rw [he] at hown
    refine own_fr hown ((Fr.refl (Only b) W4).setCell (p := ⟨b, 2, none⟩) (fun _ => rfl) _) (fun k hk _ _ e => ?_)
    have e : k = b := e
    subst e
    refine h4.own_ne hown (by decide) ?_
    rw [← hk]
    cases A4 <;> rfl
  · refine Fr.setCell (p := ⟨b, 2, none⟩) ?_ (fun _ => hN) _
    refine Fr.grown ((hf.mono (fun _ _ e => e.elim)).alloc ob) hg (fun k hk _ => ?_)
    exact own_base ho k hk
set_option maxRecDepth 100000 in
set_option maxHeartbeats 4000000 in
theorem prg_prop (w : World) (N b r : Nat) (V : Value) (A : Option Addr) (c : Nat) (ps : List PP) (x : ByteArray) (hx : x.size ≤ 100000) (hb : Blk w b 70 #[.map (some r), V, .slice A ps.length c]) (ho : w.ownsRow N 41 2 (.slice A ps.length c) ps.length (ps.flatMap pcs))
    (hN : N ≤ b) (hw : N ≤ w.heap.size) (hl : ps.length ≤ 10000) (hv : ErrVar w) (hm : MaxVar w) :
    Calls Tryz.prog 38 #[.pointer (some ⟨b, 0, none⟩), .string x] w fun e w' => PropP w N b r V ps (propC x.data.toList) e w' := by
  have HCUT := Lib.hid (prg_Cut w x hx hm)
  have HPC := Lib.hid (propC_cut x)
  have hcl := cut_len x
  have HV := Lib.hid hv
  have HB := Lib.hid hb
  have HO := Lib.hid ho
  clear hv hm hb ho
  generalize cutN x = nm at *
  generalize cutV x = vl at *
  generalize cutB x = cb at *
  obtain ⟨l1, l2⟩ := hcl
  have HNM := Lib.hid (fun W => lab_Name W nm (by omega))
  cases cb
  · have HR := Lib.hid (show propC x.data.toList = none by rw [HPC.out]; simp)
    clear HPC
    go_enter Tryz.func38, Tryz.ntmps38
    go_wp2_with (first
      | ((go_at_call 60); (with_reducible refine HCUT.out.mono ?_); rintro e w1 ⟨rfl, hf1⟩; have HF1 := Lib.hid hf1; clear hf1)
      | ((go_at_call 47); (with_reducible refine (HNM.out _).mono ?_); rintro e w2 ⟨rfl, rfl⟩)
      | ((go_at_call 62); (with_reducible refine (HTR.out _).mono ?_); rintro e w2 ⟨rfl, rfl⟩)
      | ((go_at_call 61); (with_reducible refine (HDG.out _).mono ?_); rintro e w2 ⟨rfl, rfl⟩)
      | fail)
    go_ret2
    exact .none_ HR.out HF1.out
  · cases hnm : nmOk nm with
    | false =>
      rw [hnm] at HNM
      have HR := Lib.hid (show propC x.data.toList = none by rw [HPC.out]; simp [hnm])
      clear HPC hnm
      go_enter Tryz.func38, Tryz.ntmps38
      go_wp2_with (first
        | ((go_at_call 60); (with_reducible refine HCUT.out.mono ?_); rintro e w1 ⟨rfl, hf1⟩; have HF1 := Lib.hid hf1; clear hf1)
        | ((go_at_call 47); (with_reducible refine (HNM.out _).mono ?_); rintro e w2 ⟨rfl, rfl⟩)
        | ((go_at_call 62); (with_reducible refine (HTR.out _).mono ?_); rintro e w2 ⟨rfl, rfl⟩)
        | ((go_at_call 61); (with_reducible refine (HDG.out _).mono ?_); rintro e w2 ⟨rfl, rfl⟩)
        | fail)
      go_ret2
      exact .none_ HR.out HF1.out
    | true =>
      rw [hnm] at HNM HPC
      simp only [and_self, if_true] at HPC
      clear hnm
      by_cases h0 : vl.data.toList = [45, 48]
      · have HR := Lib.hid (show propC x.data.toList = none by rw [HPC.out, h0, value_nought])
        have he : (vl.toList == [45, 48]) = true := by rw [ByteArray.toList_eq, h0]; rfl
        clear HPC h0
        go_enter Tryz.func38, Tryz.ntmps38
        go_wp2_with (first
          | ((go_at_call 60); (with_reducible refine HCUT.out.mono ?_); rintro e w1 ⟨rfl, hf1⟩; have HF1 := Lib.hid hf1; clear hf1)
          | ((go_at_call 47); (with_reducible refine (HNM.out _).mono ?_); rintro e w2 ⟨rfl, rfl⟩)
          | ((go_at_call 62); (with_reducible refine (HTR.out _).mono ?_); rintro e w2 ⟨rfl, rfl⟩)
          | ((go_at_call 61); (with_reducible refine (HDG.out _).mono ?_); rintro e w2 ⟨rfl, rfl⟩)
          | fail)
        go_ret2
        exact .none_ HR.out HF1.out
      · have he : (vl.toList == [45, 48]) = false := by rw [ByteArray.toList_eq, beq_eq_false_iff_ne]; exact h0
        have HTR := Lib.hid (fun W => prg_Trim W vl)
        have htl : (⟨(trimD vl.data.toList).toArray⟩ : ByteArray).size ≤ 100000 := by
          rw [ba_sz (trimD vl.data.toList)]
          have : (trimD vl.data.toList).length ≤ vl.data.toList.length := by unfold trimD; split <;> simp
          have e : vl.data.toList.length = vl.size := by simp
          omega
        have HDG := Lib.hid (fun W => prg_digits W ⟨(trimD vl.data.toList).toArray⟩ htl)
        have HTL := Lib.hid (show (⟨(trimD vl.data.toList).toArray⟩ : ByteArray).data.toList = trimD vl.data.toList by simp)
        rw [HTL.out] at HDG
        clear htl HTL
        cases hn : natC (trimD vl.data.toList) with
        | none =>
          rw [hn] at HDG
          have HR := Lib.hid (show propC x.data.toList = none by rw [HPC.out, value_none hn])
          clear HPC hn h0
          go_enter Tryz.func38, Tryz.ntmps38
          go_wp2_with (first
            | ((go_at_call 60); (with_reducible refine HCUT.out.mono ?_); rintro e w1 ⟨rfl, hf1⟩; have HF1 := Lib.hid hf1; clear hf1)
            | ((go_at_call 47); (with_reducible refine (HNM.out _).mono ?_); rintro e w2 ⟨rfl, rfl⟩)
            | ((go_at_call 62); (with_reducible refine (HTR.out _).mono ?_); rintro e w2 ⟨rfl, rfl⟩)
            | ((go_at_call 61); (with_reducible refine (HDG.out _).mono ?_); rintro e w2 ⟨rfl, rfl⟩)
            | fail)
          go_ret2
          exact .none_ HR.out HF1.out
        | some n =>
          rw [hn] at HDG
          have hvp := value_parse hn h0
          clear hn h0
          rcases hvp with ⟨v, hv1, hv2, hv3⟩ | ⟨hv1, hv2⟩
          · have HR := Lib.hid (show propC x.data.toList = some (⟨nm, v⟩, true) by rw [HPC.out, hv1])
            have HPI := Lib.hid (fun W => ParseInt_ok W vl (by omega) v hv2)
            clear HPC hv1 hv2
            go_enter Tryz.func38, Tryz.ntmps38
            go_wp2_with (first
              | ((go_at_call 60); (with_reducible refine HCUT.out.mono ?_); rintro e w1 ⟨rfl, hf1⟩; have HF1 := Lib.hid hf1; clear hf1)
              | ((go_at_call 47); (with_reducible refine (HNM.out _).mono ?_); rintro e w2 ⟨rfl, rfl⟩)
              | ((go_at_call 62); (with_reducible refine (HTR.out _).mono ?_); rintro e w2 ⟨rfl, rfl⟩)
              | ((go_at_call 61); (with_reducible refine (HDG.out _).mono ?_); rintro e w2 ⟨rfl, rfl⟩)
              | ((go_at_call 63); (with_reducible refine (HPI.out _).mono ?_); rintro e w3 ⟨rfl, hf3⟩; have HF3 := Lib.hid (HF1.out.call hf3 (fun _ e _ => e)); have HB3 := Lib.hid (HB.out.fr HF3.out (fun e => e)); have bc := HB3.out.cell; have bf := HB3.out.frozen; clear hf3)
              | (at_builtin; refine wpList_app rfl _ _ 37 rfl elemPP (base := N) (xs := ps.flatMap pcs) (news := [.string nm, .int .i64 v]) rfl (own_fr HO.out (HF3.out.alloc _) (fun _ _ _ _ e => e)) rfl (Sl.new1 (Blk.new _ _ _) 2 1 rfl (by decide)) (by intro u hu; simp at hu; rcases hu with rfl | rfl <;> rfl) ?h63 ?hby ?hbase ?_; (case h63 => unfold maxLen; omega); (case hby => omega); (case hbase => have := HF3.out.size; simp; omega); intro A4 c4 W4 hown hg _; have HG4 := Lib.hid hg; have HW4 := Lib.hid hown; have HB4 := prop_box _ HB.out HO.out HF3.out hg; have bc4 := HB4.cell; have bf4 := HB4.frozen; clear hown hg HB4)
              | fail)
            go_ret2
            obtain ⟨e1, e2, e3⟩ := prop_end (p := ⟨nm, v⟩) _ HB.out HO.out hN HF3.out HG4.out HW4.out
            exact .ok HR.out e1 e2 e3
          · have HR := Lib.hid (show propC x.data.toList = some (⟨nm, 0⟩, false) by rw [HPC.out, hv1])
            have HPI := Lib.hid (fun W (hf : Fr Nob w W) => ParseInt_range W vl (by omega) hv2 (HV.out.fr hf))
            clear HPC hv1 hv2
            go_enter Tryz.func38, Tryz.ntmps38
            go_wp2_with (first
              | ((go_at_call 60); (with_reducible refine HCUT.out.mono ?_); rintro e w1 ⟨rfl, hf1⟩; have HF1 := Lib.hid hf1; clear hf1)
              | ((go_at_call 47); (with_reducible refine (HNM.out _).mono ?_); rintro e w2 ⟨rfl, rfl⟩)
              | ((go_at_call 62); (with_reducible refine (HTR.out _).mono ?_); rintro e w2 ⟨rfl, rfl⟩)
              | ((go_at_call 61); (with_reducible refine (HDG.out _).mono ?_); rintro e w2 ⟨rfl, rfl⟩)
              | ((go_at_call 63); (with_reducible refine (HPI.out _ HF1.out).mono ?_); rintro e w3 ⟨v, te, pe, rfl, hf3⟩; have HF3 := Lib.hid (HF1.out.call hf3 (fun _ e _ => e)); clear hf3)
              | fail)
            go_ret2
            exact .far HR.out HF3.out
end Go.Proofs.YtidhlfcmjpnhgaaGreatDoor

/- What the lines' rows make: the program. -/
namespace Go.Proofs.YtidhlfcmjpnhgaaGreatDoor
open Go.RowKit Go.Lib

/-- A step that is told, and whether it may be. -/
def MkP (w : World) (B0 : Option Addr) (z : Int × ZC) (e : Ending) (w' : World) : Prop :=
  ∃ k s n B m d, e = .returned (.tuple #[.agg #[.int .i64 k, .int .i64 s, .int .i64 n, .slice B m d], .bool (decide (z.1 = 0))]) ∧ Fr Nob w w' ∧ (∀ g o, B = some ⟨g, o, none⟩ → B = B0 ∨ w.heap.size ≤ g) ∧ (z.1 = 0 → k = z.2.kind ∧ s = z.2.src ∧ n = z.2.n ∧ m = z.2.b.length ∧ Sl w' 1 B m d (byteCells z.2.b))
theorem MapN.get {w : World} {r c n : Nat} {E : List (Nat × Nat)} (h : MapN w r E) (hn : (E.map (·.1)).Nodup) (hm : (c, n) ∈ E) {W : World} (hf : Fr Nob w W) :
    (Instr.lookup 68 (.map (some r)) (.int .u8 (c : Nat)) false).run Tryz.prog W = .ok (.int .u64 (n : Nat)) W := by
  refine (MapAt.get (P := Tryz.prog) (T := 68) (kt := 5) (et := 36) (k := .int .u8 (c : Nat)) (v := .int .u64 (n : Nat)) (h.fr hf (fun e => e)) (by kernel_rfl) (by kernel_rfl) rfl (List.mem_map.2 ⟨_, hm, rfl⟩) ?_ false)
  rw [List.map_map]
  have : ((·.1) ∘ numV : Nat × Nat → Value) = (fun c : Nat => Value.int .u8 (c : Nat)) ∘ (·.1) := by funext e; rfl
  rw [this, ← List.map_map]
  exact List.Pairwise.map _ (fun a b hab e => hab (by injection e with _ e; omega)) hn
abbrev lnA (r : Nat) (B A : Option Addr) (n d m c : Nat) : Array Value := #[.map (some r), .slice B n d, .slice A m c]
abbrev st0 : Array Value := #[.int .i64 0, .int .i64 0, .int .i64 0, .slice none 0 0]
set_option maxRecDepth 100000 in
set_option maxHeartbeats 4000000 in
theorem mk_tick (w : World) (r : Nat) (B A : Option Addr) (n d m c : Nat) (x : Nat) (hm : MapN w r [(110, x)]) (hx : x ≤ 9223372036854775807) :
    Calls Tryz.prog 29 #[.agg (lnA r B A n d m c)] w (MkP w B (0, ⟨1, 0, x, []⟩)) := by
  have hlk := hm.get (by simp) (show (110, x) ∈ [(110, x)] by simp) (W := (w.alloc (.cells (lnA r B A n d m c) 70)).alloc (.cells st0 34)) (((Fr.refl Nob w).alloc _).alloc _)
  rw [show ((110 : Nat) : Int) = 110 from rfl] at hlk
  have hxI : (x : Int) < 9223372036854775808 := by omega
  unfold lnA st0 at *
  clear hm
  go_enter Tryz.func29, Tryz.ntmps29
  go_wp2_with fail
  refine bodyPost_ret (v := .tuple #[.agg #[.int .i64 1, .int .i64 0, .int .i64 x, .slice none 0 0], .bool true]) (by simp [results, Tryz.results29, go_sem]) rfl ?_
  exact ⟨1, 0, x, none, 0, 0, rfl, ((Fr.refl _ _).alloc _).alloc _, fun g o e => (by cases e), fun _ => ⟨rfl, rfl, rfl, rfl, Sl.none_ _ _⟩⟩
set_option maxRecDepth 100000 in
set_option maxHeartbeats 4000000 in
theorem mk_bytes (w : World) (r : Nat) (B A : Option Addr) (d m c : Nat) (x : Nat) (bs : List UInt8) (hm : MapN w r [(115, x)]) (hx : x ≤ 7) (hB : Sl w 1 B bs.length d (byteCells bs)) :
    Calls Tryz.prog 30 #[.agg (lnA r B A bs.length d m c)] w (MkP w B (0, ⟨2, x, 0, bs⟩)) := by
  have hlk := hm.get (by simp) (show (115, x) ∈ [(115, x)] by simp) (W := (w.alloc (.cells (lnA r B A bs.length d m c) 70)).alloc (.cells st0 34)) (((Fr.refl Nob w).alloc _).alloc _)
  rw [show ((115 : Nat) : Int) = 115 from rfl] at hlk
  have hxI : (x : Int) < 8 := by omega
  have HB := Lib.hid hB
  unfold lnA st0 at *
  clear hm hB
  go_enter Tryz.func30, Tryz.ntmps30
  go_wp2_with fail
  refine bodyPost_ret (v := .tuple #[.agg #[.int .i64 2, .int .i64 x, .int .i64 0, .slice B bs.length d], .bool true]) (by simp [results, Tryz.results30, go_sem]) rfl ?_
  exact ⟨2, x, 0, B, bs.length, d, rfl, ((Fr.refl _ _).alloc _).alloc _, fun _ _ _ => .inl rfl, fun _ => ⟨rfl, rfl, rfl, rfl, HB.out.pure (((Fr.refl _ _).alloc _).alloc _)⟩⟩
set_option maxRecDepth 100000 in
set_option maxHeartbeats 4000000 in
theorem mk_alone (w : World) (r k : Nat) (B A : Option Addr) (n d m c : Nat) (q : Int) (hk : w.cell? ⟨k, 0, none⟩ = some (.int .i64 q)) (hlt : k < w.heap.size) :
    Calls Tryz.prog 26 #[.agg (lnA r B A n d m c), .pointer (some ⟨k, 0, none⟩)] w (MkP w B (0, ⟨q, 0, 0, []⟩)) := by
  unfold lnA at *
  go_enter Tryz.func26, Tryz.ntmps26
  go_wp2_with fail
  refine bodyPost_ret (v := .tuple #[.agg #[.int .i64 q, .int .i64 0, .int .i64 0, .slice none 0 0], .bool true]) (by simp [results, Tryz.results26, go_sem]) rfl ?_
  exact ⟨q, 0, 0, none, 0, 0, rfl, ((Fr.refl _ _).alloc _).alloc _, fun g o e => (by cases e), fun _ => ⟨rfl, rfl, rfl, rfl, Sl.none_ _ _⟩⟩
/-- A message that a line says. -/
def MsgP (w : World) (x : MC) (e : Ending) (w' : World) : Prop := ∃ A c, e = .returned (.agg (mV x A c)) ∧ Sl w' 2 A x.props.length c (x.props.flatMap pcs) ∧ Fr Nob w w'
abbrev ms0 : Array Value := #[.int .u8 0, .int .u64 0, .int .i64 0, .slice none 0 0]
set_option maxRecDepth 100000 in
set_option maxHeartbeats 4000000 in
theorem ms_hello (w : World) (r : Nat) (B A : Option Addr) (n d m c : Nat) (s q : Nat) (hm : MapN w r [(115, s), (113, q)]) :
    Calls Tryz.prog 31 #[.agg (lnA r B A n d m c)] w (MsgP w ⟨1, q, 0, []⟩) := by
  have hlk := hm.get (by simp) (show (113, q) ∈ [(115, s), (113, q)] by simp) (W := (w.alloc (.cells (lnA r B A n d m c) 70)).alloc (.cells ms0 39)) (((Fr.refl Nob w).alloc _).alloc _)
  rw [show ((113 : Nat) : Int) = 113 from rfl] at hlk
  unfold lnA ms0 at *
  clear hm
  go_enter Tryz.func31, Tryz.ntmps31
  go_wp2_with fail
  refine bodyPost_ret (v := .agg #[.int .u8 1, .int .u64 q, .int .i64 0, .slice none 0 0]) (by simp [results, Tryz.results31, go_sem]) rfl ?_
  exact ⟨none, 0, rfl, Sl.none_ _ _, ((Fr.refl _ _).alloc _).alloc _⟩
set_option maxRecDepth 100000 in
set_option maxHeartbeats 4000000 in
theorem ms_beat (w : World) (r : Nat) (B A : Option Addr) (n d m c : Nat) (s t : Nat) (hm : MapN w r [(115, s), (116, t)]) (ht : t ≤ 9223372036854775807) :
    Calls Tryz.prog 34 #[.agg (lnA r B A n d m c)] w (MsgP w ⟨3, 0, t, []⟩) := by
  have hlk := hm.get (by simp) (show (116, t) ∈ [(115, s), (116, t)] by simp) (W := (w.alloc (.cells (lnA r B A n d m c) 70)).alloc (.cells ms0 39)) (((Fr.refl Nob w).alloc _).alloc _)
  rw [show ((116 : Nat) : Int) = 116 from rfl] at hlk
  have hxI : (t : Int) < 9223372036854775808 := by omega
  unfold lnA ms0 at *
  clear hm
  go_enter Tryz.func34, Tryz.ntmps34
  go_wp2_with fail
  refine bodyPost_ret (v := .agg #[.int .u8 3, .int .u64 0, .int .i64 t, .slice none 0 0]) (by simp [results, Tryz.results34, go_sem]) rfl ?_
  exact ⟨none, 0, rfl, Sl.none_ _ _, ((Fr.refl _ _).alloc _).alloc _⟩
set_option maxRecDepth 100000 in
set_option maxHeartbeats 4000000 in
theorem ms_bye (w : World) (r : Nat) (B A : Option Addr) (n d m c : Nat) : Calls Tryz.prog 35 #[.agg (lnA r B A n d m c)] w (MsgP w ⟨4, 0, 0, []⟩) := by
  unfold lnA at *
  go_enter Tryz.func35, Tryz.ntmps35
  go_wp2_with fail
  refine bodyPost_ret (v := .agg #[.int .u8 4, .int .u64 0, .int .i64 0, .slice none 0 0]) (by simp [results, Tryz.results35, go_sem]) rfl ?_
  exact ⟨none, 0, rfl, Sl.none_ _ _, ((Fr.refl _ _).alloc _).alloc _⟩
end Go.Proofs.YtidhlfcmjpnhgaaGreatDoor

/- What an event's row makes: the program. -/
namespace Go.Proofs.YtidhlfcmjpnhgaaGreatDoor
open Go.RowKit Go.Lib

/-- What an event's row reads of a world. -/
def EvS (W : World) (b r : Nat) (A : Option Addr) (l c q t : Nat) : Prop :=
  W.cell? ⟨b, 0, none⟩ = some (.map (some r)) ∧ W.cell? ⟨b, 2, none⟩ = some (.slice A l c) ∧ (Instr.lookup 68 (.map (some r)) (.int .u8 113) false).run Tryz.prog W = .ok (.int .u64 q) W ∧ (Instr.lookup 68 (.map (some r)) (.int .u8 116) false).run Tryz.prog W = .ok (.int .u64 t) W
theorem EvS.mk {w W : World} {b r : Nat} {B A : Option Addr} {n d l c s q t z : Nat} (hb : Blk w b 70 #[.map (some r), .slice B n d, .slice A l c]) (hm : MapN w r [(115, s), (113, q), (116, t)]) (hf : Fr (Only z) w W) (h1 : b ≠ z) (h2 : r ≠ z) : EvS W b r A l c q t := by
  have hb' := hb.fr hf (fun e => h1 e)
  have hm' := hm.fr hf (fun e => h2 e)
  have hq := hm'.get (by simp) (show (113, q) ∈ [(115, s), (113, q), (116, t)] by simp) (Fr.refl Nob W)
  have ht := hm'.get (by simp) (show (116, t) ∈ [(115, s), (113, q), (116, t)] by simp) (Fr.refl Nob W)
  exact ⟨hb'.cell 0, hb'.cell 2, hq, ht⟩
theorem set4_fr (W : World) (z : Nat) (v0 v1 v2 v3 : Value) : Fr (Only z) W ((((W.setCell ⟨z, 0, none⟩ v0).setCell ⟨z, 1, none⟩ v1).setCell ⟨z, 2, none⟩ v2).setCell ⟨z, 3, none⟩ v3) :=
  ((((Fr.refl (Only z) W).setCell (p := ⟨z, 0, none⟩) (fun _ => rfl) v0).setCell (p := ⟨z, 1, none⟩) (fun _ => rfl) v1).setCell (p := ⟨z, 2, none⟩) (fun _ => rfl) v2).setCell (p := ⟨z, 3, none⟩) (fun _ => rfl) v3
set_option maxRecDepth 100000 in
set_option maxHeartbeats 4000000 in
theorem ms_event (w : World) (r : Nat) (B A : Option Addr) (n d c : Nat) (s q t : Nat) (ps : List PP) (hm : MapN w r [(115, s), (113, q), (116, t)]) (ht : t ≤ 9223372036854775807) (hs : Sl w 2 A ps.length c (ps.flatMap pcs)) (hl : ps.length ≤ 10000) :
    Calls Tryz.prog 32 #[.agg (lnA r B A n d ps.length c)] w (MsgP w ⟨2, q, t, lof ps⟩) := by
  have HM := Lib.hid hm
  have HOF := Lib.hid (fun W (hf : Fr Nob w W) => lab_Of W A c ps (hs.pure hf) hl)
  have HWR := Lib.hid (show IntKind.i64.wrap (t : Int) = t from by rw [IntKind.wrap_i64]; omega)
  have hxI : (t : Int) < 9223372036854775808 := by omega
  unfold lnA at *
  clear hm hs
  go_enter Tryz.func32, Tryz.ntmps32
  go_upto_region 1 with fail
  obtain ⟨W1, hW1⟩ : ∃ W1, W1 = ((w.alloc (.cells #[.map (some r), .slice B n d, .slice A ps.length c] 70)).alloc (.cells #[.int .u8 0, .int .u64 0, .int .i64 0, .slice none 0 0] 39)) := ⟨_, rfl⟩
  have HF1 := Lib.hid (show Fr Nob w W1 by rw [hW1]; exact ((Fr.refl _ _).alloc _).alloc _)
  have HBX := Lib.hid (show Blk W1 w.heap.size 70 #[.map (some r), .slice B n d, .slice A ps.length c] by rw [hW1]; exact (Blk.new _ _ _).alloc _)
  have HBR := Lib.hid (show Blk W1 (w.heap.size + 1) 39 #[.int .u8 0, .int .u64 0, .int .i64 0, .slice none 0 0] by rw [hW1]; exact Blk.new_eq (by simp))
  have HM1 := Lib.hid (HM.out.fr HF1.out (fun e => e))
  have hrl := HM.out.lt
  rw [← hW1]
  clear hW1
  have HD0 := Lib.hid (EvS.mk (z := w.heap.size + 1) HBX.out HM1.out ((Fr.refl _ W1).drew) (by omega) (by omega))
  unfold EvS at HD0
  have HFD := Lib.hid (show Fr Nob w W1.drew from HF1.out.drew)
  go_region_held3 (fun W => W.cell? ⟨w.heap.size, 0, none⟩ = some (.map (some r)) ∧ W.cell? ⟨w.heap.size, 2, none⟩ = some (.slice A ps.length c) ∧ (Instr.lookup 68 (.map (some r)) (.int .u8 113) false).run Tryz.prog W = .ok (.int .u64 q) W ∧ (Instr.lookup 68 (.map (some r)) (.int .u8 116) false).run Tryz.prog W = .ok (.int .u64 t) W)
    (first
      | with_reducible exact HD0.out
      | with_reducible exact HD2.out
      | with_reducible exact HD3.out)
    (first
      | ((go_at_call 33); (with_reducible refine (HOF.out _ HFD.out).mono ?_); rintro e w2 ⟨A2, c2, rfl, hs2, hf2, hpb⟩; have HPB := Lib.hid (fun g o e => Nat.le_trans (show w.heap.size + 2 ≤ W1.heap.size by have := HBR.out.lt; omega) (hpb g o e).1); clear hpb; have HS2 := Lib.hid hs2; have HG2 := Lib.hid ((Fr.refl Nob W1).drew.call hf2 (fun _ e _ => e)); have HD2 := Lib.hid (EvS.mk (z := w.heap.size + 1) HBX.out HM1.out (HG2.out.mono (fun _ _ e => e.elim)) (by omega) (by omega)); have HZ2 := Lib.hid (HBR.out.fr HG2.out (fun e => e)); have zc := HZ2.out.cell; have zf := HZ2.out.frozen; have HD3 := Lib.hid (EvS.mk (z := w.heap.size + 1) HBX.out HM1.out ((HG2.out.mono (fun _ _ e => e.elim)).call (set4_fr w2 (w.heap.size + 1) (.int .u8 2) (.int .u64 q) (.int .i64 (IntKind.i64.wrap t)) (.slice A2 (lof ps).length c2)) (fun _ e _ => e)) (by omega) (by omega)); unfold EvS at HD2 HD3; clear hs2 hf2)
      | fail)
  all_goals
    clear HD0 HD2 HD3
    rw [HWR.out]
    have HF9 := Lib.hid ((HF1.out.mono (fun _ _ e => e.elim)).call ((HG2.out.mono (fun _ _ e => e.elim)).call (set4_fr w2 (w.heap.size + 1) (.int .u8 2) (.int .u64 q) (.int .i64 t) (.slice A2 (lof ps).length c2)) (fun _ e _ => e)) (fun _ e _ => e))
    try go_wp2_with fail
    refine bodyPost_ret (v := .agg #[.int .u8 2, .int .u64 q, .int .i64 t, .slice A2 (lof ps).length c2]) (by simp [results, Tryz.results32, go_sem, zc]) rfl ?_
    exact ⟨A2, c2, rfl, HS2.out.fr (set4_fr w2 (w.heap.size + 1) (.int .u8 2) (.int .u64 q) (.int .i64 t) (.slice A2 (lof ps).length c2)) (fun g o e _ h => by have := HPB.out g o e; have h : g = w.heap.size + 1 := h; omega), HF9.out.mono (fun k hk e => by have e : k = w.heap.size + 1 := e; omega)⟩
end Go.Proofs.YtidhlfcmjpnhgaaGreatDoor
