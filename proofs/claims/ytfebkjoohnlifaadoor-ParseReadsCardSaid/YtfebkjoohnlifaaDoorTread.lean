/- A text's tokens: in plain words; the program's walk. -/
import Derived.Test.YtfebkjoohnlifaaDoorTnext
import Derived.ScopeJumps
import Derived.WalkMore
namespace Go.Proofs.YtfebkjoohnlifaaDoor
open Go.RowKit Go.Shelf

/-- The tokens of what is left of a text, with their places; else what is wrong, and where. -/
def rdN : Nat → Nat → List UInt8 → (Int × Nat) × List (TK × Nat)
  | _, at_, [] => ((0, 0), [(tk0, at_)])
  | 0, at_, _ :: _ => ((0, 0), [(tk0, at_)])
  | n + 1, at_, c :: r =>
    if blankB c then rdN n (at_ + 1) r
    else if (nextT (c :: r)).1 = 0 then ((rdN n (at_ + (nextT (c :: r)).2.text.length) ((c :: r).drop (nextT (c :: r)).2.text.length)).1, ((nextT (c :: r)).2, at_) :: (rdN n (at_ + (nextT (c :: r)).2.text.length) ((c :: r).drop (nextT (c :: r)).2.text.length)).2)
    else (((nextT (c :: r)).1, at_), [])
theorem next_text {l : List UInt8} (h : (nextT l).1 = 0) : 1 ≤ (nextT l).2.text.length ∧ (nextT l).2.text.length ≤ l.length := by
  cases l with
  | nil => simp [nextT] at h
  | cons c r =>
    unfold nextT at h ⊢
    by_cases h1 : smallB c = true
    · simp only [h1, if_true] at h ⊢
      have := (List.takeWhile_prefix wordB (l := r)).length_le
      by_cases h2 : 12 < (r.takeWhile wordB).length + 1
      · rw [if_pos h2] at h; simp at h
      · rw [if_neg h2]; simp; omega
    · simp only [h1, if_false, Bool.false_eq_true] at h ⊢
      have := numLen_le (c :: r)
      have := signLen_le (l := c :: r) (by simp)
      by_cases h2 : 0 < numLen (c :: r)
      · rw [if_pos h2] at h ⊢
        by_cases h3 : (numVal ((c :: r).take (numLen (c :: r)))).1 = 0
        · rw [if_pos h3]; simp at *; omega
        · rw [if_neg h3] at h; exact absurd h h3
      · rw [if_neg h2] at h ⊢
        by_cases h3 : 0 < signLen (c :: r)
        · rw [if_pos h3]; simp at *; omega
        · rw [if_neg h3] at h; simp at h
theorem rdN_fuel : ∀ (n m at_ : Nat) (l : List UInt8), l.length ≤ n → l.length ≤ m → rdN n at_ l = rdN m at_ l
  | n, m, at_, [], _, _ => by cases n <;> cases m <;> rfl
  | 0, _, _, _ :: _, h, _ => by simp at h
  | _ + 1, 0, _, _ :: _, _, h => by simp at h
  | n + 1, m + 1, at_, c :: r, hn, hm => by
    simp only [List.length_cons] at hn hm
    by_cases hb : blankB c = true
    · rw [rdN, if_pos hb, rdN, if_pos hb]
      exact rdN_fuel n m _ r (by omega) (by omega)
    · by_cases h0 : (nextT (c :: r)).1 = 0
      · have ht := next_text h0
        rw [rdN, if_neg hb, if_pos h0, rdN, if_neg hb, if_pos h0]
        rw [rdN_fuel n m _ ((c :: r).drop (nextT (c :: r)).2.text.length) (by simp; omega) (by simp; omega)]
      · rw [rdN, if_neg hb, if_neg h0, rdN, if_neg hb, if_neg h0]
def rdT (at_ : Nat) (l : List UInt8) : (Int × Nat) × List (TK × Nat) := rdN l.length at_ l
theorem rdT_nil (at_ : Nat) : rdT at_ [] = ((0, 0), [(tk0, at_)]) := rfl
theorem rdT_blank {at_ : Nat} {c : UInt8} {r : List UInt8} (h : blankB c = true) : rdT at_ (c :: r) = rdT (at_ + 1) r := by
  unfold rdT
  rw [List.length_cons, rdN, if_pos h]
theorem rdT_tok {at_ : Nat} {c : UInt8} {r : List UInt8} (h : blankB c = false) (h0 : (nextT (c :: r)).1 = 0) : rdT at_ (c :: r) = ((rdT (at_ + (nextT (c :: r)).2.text.length) ((c :: r).drop (nextT (c :: r)).2.text.length)).1, ((nextT (c :: r)).2, at_) :: (rdT (at_ + (nextT (c :: r)).2.text.length) ((c :: r).drop (nextT (c :: r)).2.text.length)).2) := by
  have ht := next_text h0
  unfold rdT
  rw [List.length_cons, rdN, if_neg (by simp [h]), if_pos h0]
  rw [rdN_fuel r.length ((c :: r).drop (nextT (c :: r)).2.text.length).length _ ((c :: r).drop (nextT (c :: r)).2.text.length) (by simp; omega) (Nat.le_refl _)]
theorem rdT_err {at_ : Nat} {c : UInt8} {r : List UInt8} (h : blankB c = false) (h0 : ¬ (nextT (c :: r)).1 = 0) : rdT at_ (c :: r) = (((nextT (c :: r)).1, at_), []) := by
  unfold rdT
  rw [List.length_cons, rdN, if_neg (by simp [h]), if_neg h0]
/-- token.Read's answer: errno and place, and the tokens. -/
def readT (l : List UInt8) : (Int × Nat) × List (TK × Nat) := if 512 < l.length then ((13, 0), []) else ((rdT 0 l).1, if (rdT 0 l).1.1 = 0 then (rdT 0 l).2 else [])

def tcs (x : TK × Nat) : List Value := [.int .i64 x.1.kind, .string ⟨x.1.text.toArray⟩, .int .i64 x.1.num, .int .i64 x.2]
theorem tcs_len (x : TK × Nat) : (tcs x).length = 4 := rfl
def tcl (l : List (TK × Nat)) : List Value := l.flatMap tcs
theorem tcs_one (x : TK × Nat) : ∀ u ∈ tcs x, u.oneCell' = true := by intro u hu; simp [tcs] at hu; rcases hu with rfl | rfl | rfl | rfl <;> rfl
theorem elemTok : ElemT Tryd.prog 81 90 4 40 := ElemT.mk (z := .agg #[.int .i64 0, .string default, .int .i64 0, .int .i64 0]) Tryd.underlying81 (by kernel_rfl) (by kernel_rfl) (by decide)

/-- How far the reading has come. -/
structure RI (l : List UInt8) (at_ : Nat) (o : List (TK × Nat)) : Prop where
  eq : rdT 0 l = ((rdT at_ (l.drop at_)).1, o ++ (rdT at_ (l.drop at_)).2)
  le : at_ ≤ l.length
  few : o.length ≤ at_
section
variable {l : List UInt8} {at_ : Nat} {o : List (TK × Nat)}
theorem RI.start (l : List UInt8) : RI l 0 [] := ⟨by simp, Nat.zero_le _, Nat.le_refl _⟩
theorem RI.blank (h : RI l at_ o) (hl : at_ < l.length) (hb : blankB l[at_] = true) : RI l (at_ + 1) o := by
  have e : rdT at_ (l.drop at_) = rdT (at_ + 1) (l.drop (at_ + 1)) := by rw [List.drop_eq_getElem_cons hl, rdT_blank hb]
  exact ⟨by rw [← e]; exact h.eq, hl, by have := h.few; omega⟩
theorem RI.tok (h : RI l at_ o) (hl : at_ < l.length) (hb : blankB l[at_] = false) {T : TK} (ht : nextT (l.drop at_) = (0, T)) : RI l (at_ + T.text.length) (o ++ [(T, at_)]) := by
  have e := List.drop_eq_getElem_cons hl
  have h0 : (nextT (l[at_] :: l.drop (at_ + 1))).1 = 0 := by rw [← e, ht]
  have e2 := rdT_tok (at_ := at_) hb h0
  rw [← e, ht] at e2
  have hlen := next_text (l := l.drop at_) (by rw [ht])
  rw [ht, List.length_drop] at hlen
  simp only at hlen e2
  rw [List.drop_drop] at e2
  refine ⟨by rw [h.eq, e2]; simp, by omega, by have := h.few; simp; omega⟩
theorem RI.err (h : RI l at_ o) (hl : at_ < l.length) (hb : blankB l[at_] = false) {T : TK} {e : Int} (ht : nextT (l.drop at_) = (e, T)) (he : ¬ e = 0) : (rdT 0 l).1 = (e, at_) := by
  have e1 := List.drop_eq_getElem_cons hl
  have h0 : ¬ (nextT (l[at_] :: l.drop (at_ + 1))).1 = 0 := by rw [← e1, ht]; exact he
  rw [h.eq, e1, rdT_err hb h0, ← e1, ht]
theorem RI.done (h : RI l at_ o) (hl : ¬ at_ < l.length) : rdT 0 l = ((0, 0), o ++ [(tk0, l.length)]) := by
  have e : at_ = l.length := by have := h.le; omega
  rw [h.eq, e, List.drop_length, rdT_nil]
end

/-- The tokens that are being made. -/
structure RdW (w wr : World) (A : Option Addr) (c : Nat) (o : List (TK × Nat)) : Prop where
  fr : Fr Nob w wr
  own : wr.ownsRow w.heap.size 90 4 (.slice A o.length c) o.length (o.flatMap tcs)
section
variable {w wr w1 : World} {A : Option Addr} {c : Nat} {o : List (TK × Nat)}
theorem RdW.pure (h : RdW w wr A c o) (hf : Fr Nob wr w1) : RdW w w1 A c o := ⟨h.fr.call hf (fun _ h _ => h), own_fr h.own hf (fun _ _ _ _ e => e)⟩
theorem RdW.own_al (h : RdW w wr A c o) (ob : Obj) {n : Nat} (hn : n = o.length) : (wr.alloc ob).ownsRow w.heap.size 90 4 (.slice A n c) n (tcl o) := by
  subst hn; exact (h.pure ((Fr.refl Nob wr).alloc ob)).own
theorem RdW.app {A' : Option Addr} {c' n : Nat} (h : RdW w wr A c o) (x : TK × Nat) (hown : w1.ownsRow w.heap.size 90 4 (.slice A' n c') n (tcl o ++ tcs x)) (hn : n = (o ++ [x]).length) (hg : wr.grownBy w1 (A.map (·.block))) : RdW w w1 A' c' (o ++ [x]) := by
  subst hn
  refine ⟨h.fr.grown hg (fun k hk hlt => by have := own_base h.own k hk; omega), ?_⟩
  rw [List.flatMap_append]
  simpa [tcl] using hown
end

theorem RdW.row_lt {w wr : World} {A : Option Addr} {c : Nat} {o : List (TK × Nat)} (h : RdW w wr A c o) : ∀ k, A.map (·.block) = some k → k < wr.heap.size := by
  intro k hk
  exact (h.own.lt k (by cases A <;> simp_all [Value.ownBlock])).2
theorem blank_iff (c : UInt8) : blankB c = true ↔ c = 32 ∨ c = 9 ∨ c = 10 := by simp [blankB, or_assoc]
theorem u8_ne {c : UInt8} {k : UInt8} {n : Int} (h : ¬ c = k) (hn : (k.toNat : Int) = n) : ((c.toNat : Int) == n) = false := by
  rw [beq_eq_false_iff_ne]
  intro e
  exact h (UInt8.toNat_inj.1 (by omega))
theorem u8_eq {c : UInt8} {k : UInt8} {n : Int} (h : c = k) (hn : (k.toNat : Int) = n) : (c.toNat : Int) = n := by rw [h]; exact hn

/-- What holds where the run jumps back to the label. -/
def JR (w : World) (s : ByteArray) (a : Act) (wr : World) : Prop := ∃ (A : Option Addr) (c : Nat) (o : List (TK × Nat)) (at_ : Nat), Hid (RdW w wr A c o) ∧ Hid (RI s.data.toList at_ o) ∧ ∃ (u2 u3 u4 u7 u8 u9 u10 u11 u12 u13 u14 u15 u16 u17 u18 u19 u20 u21 u22 u23 u24 u25 u26 u27 u28 u29 u30 u31 u32 u33 u34 u35 u36 u37 u38 u39 u40 u41 u42 u43 u44 u45 u46 u47 u48 u49 u50 u51 u52 u53 u54 u55 : Value), a = { tmps := #[.string s, undef, u2, u3, u4, .slice A o.length c, .int .i64 at_, u7, u8, u9, u10, u11, u12, u13, u14, u15, u16, u17, u18, u19, u20, u21, u22, u23, u24, u25, u26, u27, u28, u29, u30, u31, u32, u33, u34, u35, u36, u37, u38, u39, u40, u41, u42, u43, u44, u45, u46, u47, u48, u49, u50, u51, u52, u53, u54, u55, undef, undef, undef, undef, undef, undef], defers := [] }
set_option maxRecDepth 100000 in
set_option maxHeartbeats 8000000 in
theorem tok_Read (w : World) (s : ByteArray) (hs : s.size ≤ 9223372036854775807) (hv : ErrVar w) :
    Calls Tryd.prog 44 #[.string s] w fun e w' => ∃ A c, e = .returned (.tuple #[.slice A (readT s.data.toList).2.length c, .int .i64 (readT s.data.toList).1.1, .int .i64 (readT s.data.toList).1.2]) ∧ Sl w' 4 A (readT s.data.toList).2.length c ((readT s.data.toList).2.flatMap tcs) ∧ Fr Nob w w' := by
  have HV := Lib.hid hv
  clear hv
  by_cases h512 : 512 < s.size
  · have hI : (512 : Int) < s.size := by omega
    have HR := Lib.hid (show readT s.data.toList = ((13, 0), []) by unfold readT; rw [ba_len, if_pos h512])
    clear h512
    go_enter Tryd.func44, Tryd.ntmps44
    go_wp2
    go_step3
    go_wp2_with fail
    rw [Exit.noGoto_ret]
    go_ret3
    rw [HR.out]
    exact ⟨none, 0, rfl, Sl.none_ _ _, Fr.refl _ _⟩
  · have hI : ¬ (512 : Int) < s.size := by omega
    go_enter Tryd.func44, Tryd.ntmps44
    go_wp2
    refine wp_scope_jumps 0 (JR w s) (fun a' _ => s.size - (intOf (a'.tmps.getD 6 undef)).toNat) rfl ?_ ?_
    · go_wp2_with fail
      go_step3
      go_wp2_with fail
      go_loopw [5, 6] (fun sv i wr => ∃ (A : Option Addr) (c : Nat) (o : List (TK × Nat)) (at_ : Nat), sv = .slice A o.length c ∧ i = .int .i64 at_ ∧ 0 ≤ at_ ∧ Hid (RdW w wr A c o) ∧ Hid (RI s.data.toList at_ o)) (fun _ i _ => s.size - (intOf i).toNat)
      case atStart => exact ⟨none, 0, [], 0, rfl, rfl, Nat.le_refl _, Lib.hid ⟨Fr.refl _ _, ⟨rfl, .inl ⟨rfl, rfl⟩⟩⟩, Lib.hid (RI.start _)⟩
      case round =>
        obtain ⟨A, c, o, at_, rfl, rfl, hat0, hw, hri⟩ := hrel
        have hle := hri.out.le
        have hfw := hri.out.few
        rw [ba_len] at hle
        by_cases hlt : at_ < s.size
        · have hltI : (at_ : Int) < s.size := by omega
          have hll : at_ < s.data.toList.length := by rw [ba_len]; exact hlt
          have e1 : (at_ : Int) + 1 = ((at_ + 1 : Nat) : Int) := by omega
          have E1 := Lib.hid e1
          clear e1
          by_cases hb : blankB s[at_] = true
          · have HB := Lib.hid (hri.out.blank hll hb)
            rw [blank_iff] at hb
            rcases hb with hb | hb | hb
            · have e := u8_eq (n := 32) hb rfl
              clear hb
              go_wp2_with fail
              go_step3
              rw [E1.out]
              exact ⟨rfl, A, c, o, at_ + 1, hw, HB, _, _, _, _, _, _, _, _, _, _, _, _, _, _, _, _, _, _, _, _, _, _, _, _, _, _, _, _, _, _, _, _, _, _, _, _, _, _, _, _, _, _, _, _, _, _, _, _, _, _, _, _, rfl⟩
            · have e := u8_eq (n := 9) hb rfl
              clear hb
              go_wp2_with fail
              go_step3
              rw [E1.out]
              exact ⟨rfl, A, c, o, at_ + 1, hw, HB, _, _, _, _, _, _, _, _, _, _, _, _, _, _, _, _, _, _, _, _, _, _, _, _, _, _, _, _, _, _, _, _, _, _, _, _, _, _, _, _, _, _, _, _, _, _, _, _, _, _, _, _, rfl⟩
            · have e := u8_eq (n := 10) hb rfl
              clear hb
              go_wp2_with fail
              go_step3
              rw [E1.out]
              exact ⟨rfl, A, c, o, at_ + 1, hw, HB, _, _, _, _, _, _, _, _, _, _, _, _, _, _, _, _, _, _, _, _, _, _, _, _, _, _, _, _, _, _, _, _, _, _, _, _, _, _, _, _, _, _, _, _, _, _, _, _, _, _, _, _, rfl⟩
          · have hb' : blankB s[at_] = false := by simpa using hb
            rw [blank_iff, not_or, not_or] at hb
            have n1 := u8_ne (n := 32) hb.1 rfl
            have n2 := u8_ne (n := 9) hb.2.1 rfl
            have n3 := u8_ne (n := 10) hb.2.2 rfl
            obtain ⟨⟨pe, T⟩, hp⟩ : ∃ p, nextT (s.data.toList.drop at_) = p := ⟨_, rfl⟩
            have HN := Lib.hid (fun W hv => tok_next W (s.extract at_ s.size) (by rw [ByteArray.size_extract]; omega) (by rw [ByteArray.size_extract]; omega) hv)
            rw [show (s.extract at_ s.size).data.toList = s.data.toList.drop at_ from by rw [cut_from], hp] at HN
            unfold tkv at HN
            simp only at HN
            by_cases h0 : pe = 0
            · subst h0
              have hlen := next_text (l := s.data.toList.drop at_) (by rw [hp])
              rw [hp, List.length_drop, ba_len] at hlen
              have HT := Lib.hid (hri.out.tok hll hb' hp)
              clear hb hb' hp
              simp only at hlen
              have hszT : (ByteArray.mk T.text.toArray).size = T.text.length := by simp [ByteArray.size]
              have HSZ := Lib.hid hszT
              clear hszT
              go_wp2_with fail
              refine (HN.out _ (HV.out.fr hw.out.fr)).mono ?_
              rintro e w1 ⟨rfl, hf⟩
              have HW1 := Lib.hid (hw.out.pure hf)
              have HLT := Lib.hid (hw.out.row_lt)
              have hsz1 := hf.size
              clear hf HN
              go_wp2_with (at_builtin; refine wpList_app rfl _ _ 81 rfl elemTok (base := w.heap.size) (xs := tcl o) (news := tcs (T, at_)) rfl ?own rfl ?src ?one ?h63 ?hby ?hbase ?_)
              case own => exact ((HW1.out.pure ((Fr.refl Nob _).alloc _)).own_al _ rfl)
              case src => exact Sl.new1 (Blk.new_eq (by simp)) 4 1 rfl (by decide)
              case one => exact tcs_one _
              case h63 => unfold maxLen; omega
              case hby => omega
              case hbase => have h1 := HW1.out.fr.size; simp at h1 ⊢; omega
              intro A2 c2 w2 hown2 hg2 _
              have HW2 := Lib.hid (((HW1.out.pure ((Fr.refl Nob _).alloc _)).pure ((Fr.refl Nob _).alloc _)).app (T, at_) hown2 (by simp) hg2)
              have hbk := (((Blk.new w1 90 #[.int .i64 T.kind, .string ⟨T.text.toArray⟩, .int .i64 T.num, .int .i64 at_]).alloc _).grown hg2 (fun e => by have := HLT.out _ e; omega)).cell
              clear hown2 hg2
              go_wp2_with fail
              go_roundw
              case rel => exact ⟨A2, c2, o ++ [(T, at_)], at_ + T.text.length, by simp, vint (by omega), by omega, HW2, HT⟩
              case measure => simp [intOf]; omega
            · have hpe := Lib.hid (hri.out.err hll hb' hp h0)
              have h0' : (pe != 0) = true := by simpa using h0
              have HR := Lib.hid (show readT s.data.toList = ((pe, at_), []) by unfold readT; rw [if_neg (by rw [ba_len]; exact h512), hpe.out, if_neg h0])
              clear hb hb' hp h0 hpe
              go_wp2_with fail
              refine (HN.out _ (HV.out.fr hw.out.fr)).mono ?_
              rintro e w1 ⟨rfl, hf⟩
              have HW1 := Lib.hid (hw.out.pure hf)
              clear hf HN
              go_wp2_with fail
              simp only [Exit.jump]
              go_ret3
              rw [HR.out]
              exact ⟨none, 0, rfl, Sl.none_ _ _, HW1.out.fr.alloc _⟩
        · have HR := Lib.hid (show readT s.data.toList = ((0, 0), o ++ [(tk0, s.data.toList.length)]) by unfold readT; rw [if_neg (by rw [ba_len]; exact h512), hri.out.done (by rw [ba_len]; exact hlt)]; rfl)
          have HBL := Lib.hid (ba_len s)
          go_wp2_with (at_builtin; refine wpList_app rfl _ _ 81 rfl elemTok (base := w.heap.size) (xs := tcl o) (news := tcs (tk0, s.size)) rfl ?own rfl ?src ?one ?h63 ?hby ?hbase ?_)
          case own => exact (hw.out.own_al _ rfl)
          case src => exact Sl.new1 (Blk.new _ _ _) 4 1 rfl (by decide)
          case one => exact tcs_one _
          case h63 => unfold maxLen; omega
          case hby => omega
          case hbase => have h1 := hw.out.fr.size; simp at h1 ⊢; omega
          intro A2 c2 w2 hown2 hg2 _
          have HW2 := Lib.hid ((hw.out.pure ((Fr.refl Nob _).alloc _)).app (tk0, s.size) hown2 (by simp) hg2)
          clear hown2 hg2
          go_wp2_with fail
          simp only [Exit.jump]
          go_ret3
          rw [HR.out, HBL.out]
          exact ⟨A2, c2, by simp, Sl.of_own HW2.out.own, HW2.out.fr⟩
    · rintro a' wa ⟨A, c, o, at0, hw, hri, u2, u3, u4, u7, u8, u9, u10, u11, u12, u13, u14, u15, u16, u17, u18, u19, u20, u21, u22, u23, u24, u25, u26, u27, u28, u29, u30, u31, u32, u33, u34, u35, u36, u37, u38, u39, u40, u41, u42, u43, u44, u45, u46, u47, u48, u49, u50, u51, u52, u53, u54, u55, rfl⟩
      have hw0 := hw
      have hri0 := hri
      clear hw hri
      go_wp2_with fail
      go_loopw [5, 6] (fun sv i wr => ∃ (A : Option Addr) (c : Nat) (o : List (TK × Nat)) (at_ : Nat), sv = .slice A o.length c ∧ i = .int .i64 at_ ∧ at0 ≤ at_ ∧ Hid (RdW w wr A c o) ∧ Hid (RI s.data.toList at_ o)) (fun _ i _ => s.size - (intOf i).toNat)
      case atStart => exact ⟨A, c, o, at0, rfl, rfl, Nat.le_refl _, hw0, hri0⟩
      case round =>
        clear hw0 hri0
        obtain ⟨A, c, o, at_, rfl, rfl, hat0, hw, hri⟩ := hrel
        have hle := hri.out.le
        have hfw := hri.out.few
        rw [ba_len] at hle
        by_cases hlt : at_ < s.size
        · have hltI : (at_ : Int) < s.size := by omega
          have hll : at_ < s.data.toList.length := by rw [ba_len]; exact hlt
          have e1 : (at_ : Int) + 1 = ((at_ + 1 : Nat) : Int) := by omega
          have E1 := Lib.hid e1
          clear e1
          by_cases hb : blankB s[at_] = true
          · have HB := Lib.hid (hri.out.blank hll hb)
            rw [blank_iff] at hb
            rcases hb with hb | hb | hb
            · have e := u8_eq (n := 32) hb rfl
              clear hb
              go_wp2_with fail
              go_step3
              rw [E1.out]
              refine ⟨rfl, ⟨A, c, o, at_ + 1, hw, HB, _, _, _, _, _, _, _, _, _, _, _, _, _, _, _, _, _, _, _, _, _, _, _, _, _, _, _, _, _, _, _, _, _, _, _, _, _, _, _, _, _, _, _, _, _, _, _, _, _, _, _, _, rfl⟩, ?_⟩; simp [intOf]; omega
            · have e := u8_eq (n := 9) hb rfl
              clear hb
              go_wp2_with fail
              go_step3
              rw [E1.out]
              refine ⟨rfl, ⟨A, c, o, at_ + 1, hw, HB, _, _, _, _, _, _, _, _, _, _, _, _, _, _, _, _, _, _, _, _, _, _, _, _, _, _, _, _, _, _, _, _, _, _, _, _, _, _, _, _, _, _, _, _, _, _, _, _, _, _, _, _, rfl⟩, ?_⟩; simp [intOf]; omega
            · have e := u8_eq (n := 10) hb rfl
              clear hb
              go_wp2_with fail
              go_step3
              rw [E1.out]
              refine ⟨rfl, ⟨A, c, o, at_ + 1, hw, HB, _, _, _, _, _, _, _, _, _, _, _, _, _, _, _, _, _, _, _, _, _, _, _, _, _, _, _, _, _, _, _, _, _, _, _, _, _, _, _, _, _, _, _, _, _, _, _, _, _, _, _, _, rfl⟩, ?_⟩; simp [intOf]; omega
          · have hb' : blankB s[at_] = false := by simpa using hb
            rw [blank_iff, not_or, not_or] at hb
            have n1 := u8_ne (n := 32) hb.1 rfl
            have n2 := u8_ne (n := 9) hb.2.1 rfl
            have n3 := u8_ne (n := 10) hb.2.2 rfl
            obtain ⟨⟨pe, T⟩, hp⟩ : ∃ p, nextT (s.data.toList.drop at_) = p := ⟨_, rfl⟩
            have HN := Lib.hid (fun W hv => tok_next W (s.extract at_ s.size) (by rw [ByteArray.size_extract]; omega) (by rw [ByteArray.size_extract]; omega) hv)
            rw [show (s.extract at_ s.size).data.toList = s.data.toList.drop at_ from by rw [cut_from], hp] at HN
            unfold tkv at HN
            simp only at HN
            by_cases h0 : pe = 0
            · subst h0
              have hlen := next_text (l := s.data.toList.drop at_) (by rw [hp])
              rw [hp, List.length_drop, ba_len] at hlen
              have HT := Lib.hid (hri.out.tok hll hb' hp)
              clear hb hb' hp
              simp only at hlen
              have hszT : (ByteArray.mk T.text.toArray).size = T.text.length := by simp [ByteArray.size]
              have HSZ := Lib.hid hszT
              clear hszT
              go_wp2_with fail
              refine (HN.out _ (HV.out.fr hw.out.fr)).mono ?_
              rintro e w1 ⟨rfl, hf⟩
              have HW1 := Lib.hid (hw.out.pure hf)
              have HLT := Lib.hid (hw.out.row_lt)
              have hsz1 := hf.size
              clear hf HN
              go_wp2_with (at_builtin; refine wpList_app rfl _ _ 81 rfl elemTok (base := w.heap.size) (xs := tcl o) (news := tcs (T, at_)) rfl ?own rfl ?src ?one ?h63 ?hby ?hbase ?_)
              case own => exact ((HW1.out.pure ((Fr.refl Nob _).alloc _)).own_al _ rfl)
              case src => exact Sl.new1 (Blk.new_eq (by simp)) 4 1 rfl (by decide)
              case one => exact tcs_one _
              case h63 => unfold maxLen; omega
              case hby => omega
              case hbase => have h1 := HW1.out.fr.size; simp at h1 ⊢; omega
              intro A2 c2 w2 hown2 hg2 _
              have HW2 := Lib.hid (((HW1.out.pure ((Fr.refl Nob _).alloc _)).pure ((Fr.refl Nob _).alloc _)).app (T, at_) hown2 (by simp) hg2)
              have hbk := (((Blk.new w1 90 #[.int .i64 T.kind, .string ⟨T.text.toArray⟩, .int .i64 T.num, .int .i64 at_]).alloc _).grown hg2 (fun e => by have := HLT.out _ e; omega)).cell
              clear hown2 hg2
              go_wp2_with fail
              go_roundw
              case rel => exact ⟨A2, c2, o ++ [(T, at_)], at_ + T.text.length, by simp, vint (by omega), by omega, HW2, HT⟩
              case measure => simp [intOf]; omega
            · have hpe := Lib.hid (hri.out.err hll hb' hp h0)
              have h0' : (pe != 0) = true := by simpa using h0
              have HR := Lib.hid (show readT s.data.toList = ((pe, at_), []) by unfold readT; rw [if_neg (by rw [ba_len]; exact h512), hpe.out, if_neg h0])
              clear hb hb' hp h0 hpe
              go_wp2_with fail
              refine (HN.out _ (HV.out.fr hw.out.fr)).mono ?_
              rintro e w1 ⟨rfl, hf⟩
              have HW1 := Lib.hid (hw.out.pure hf)
              clear hf HN
              go_wp2_with fail
              simp only [Exit.jump]
              go_ret3
              rw [HR.out]
              exact ⟨none, 0, rfl, Sl.none_ _ _, HW1.out.fr.alloc _⟩
        · have HR := Lib.hid (show readT s.data.toList = ((0, 0), o ++ [(tk0, s.data.toList.length)]) by unfold readT; rw [if_neg (by rw [ba_len]; exact h512), hri.out.done (by rw [ba_len]; exact hlt)]; rfl)
          have HBL := Lib.hid (ba_len s)
          go_wp2_with (at_builtin; refine wpList_app rfl _ _ 81 rfl elemTok (base := w.heap.size) (xs := tcl o) (news := tcs (tk0, s.size)) rfl ?own rfl ?src ?one ?h63 ?hby ?hbase ?_)
          case own => exact (hw.out.own_al _ rfl)
          case src => exact Sl.new1 (Blk.new _ _ _) 4 1 rfl (by decide)
          case one => exact tcs_one _
          case h63 => unfold maxLen; omega
          case hby => omega
          case hbase => have h1 := hw.out.fr.size; simp at h1 ⊢; omega
          intro A2 c2 w2 hown2 hg2 _
          have HW2 := Lib.hid ((hw.out.pure ((Fr.refl Nob _).alloc _)).app (tk0, s.size) hown2 (by simp) hg2)
          clear hown2 hg2
          go_wp2_with fail
          simp only [Exit.jump]
          go_ret3
          rw [HR.out, HBL.out]
          exact ⟨A2, c2, by simp, Sl.of_own HW2.out.own, HW2.out.fr⟩
end Go.Proofs.YtfebkjoohnlifaaDoor
