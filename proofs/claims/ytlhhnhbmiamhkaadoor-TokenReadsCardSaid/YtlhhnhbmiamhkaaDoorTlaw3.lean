/- The law of a token alone. -/
import Derived.Test.YtlhhnhbmiamhkaaDoorTlaw1
namespace Go.Proofs.YtlhhnhbmiamhkaaDoor
open Go.RowKit Go.Shelf

theorem next_blank {c : UInt8} (r : List UInt8) (h : blankB c = true) : ¬ (nextT (c :: r)).1 = 0 := by
  have h1 : numLen (c :: r) = 0 := by rcases (blank_iff c).1 h with rfl | rfl | rfl <;> rfl
  have h2 : signLen (c :: r) = 0 := by rcases (blank_iff c).1 h with rfl | rfl | rfl <;> simp [signLen, sgn2, sgn1]
  have h3 : smallB c = false := by rcases (blank_iff c).1 h with rfl | rfl | rfl <;> rfl
  unfold nextT
  simp [h1, h2, h3]
/-- What each token is: the end, or what its text alone is. -/
def TokOk (n : Nat) (T : TK) : Prop := T = tk0 ∨ (¬ T.kind = 0 ∧ T.text.length ≤ n ∧ nextT T.text = (0, T))
theorem tok_mem (s : List UInt8) (n : Nat) : ∀ (p : Nat) (o : List (TK × Nat)), s.length - p ≤ n → p ≤ s.length → rdT p (s.drop p) = ((0, 0), o) → ∀ x ∈ o, TokOk s.length x.1 := by
  induction n with
  | zero =>
    intro p o hn hp h x hx
    have : p = s.length := by omega
    subst this
    rw [List.drop_length, rdT_nil] at h
    simp only [Prod.mk.injEq, true_and] at h
    subst h
    simp only [List.mem_singleton] at hx
    subst hx
    exact .inl rfl
  | succ n ih =>
    intro p o hn hp h x hx
    obtain ⟨q, T, o', H⟩ := rd_head s _ p o (Nat.le_refl _) hp h
    rw [H.eq] at hx
    rcases Nat.eq_zero_or_pos T.text.length with h0 | h0
    · obtain ⟨_, h2, h3⟩ := H.at_end h0
      rw [h2, h3] at hx
      simp only [List.mem_singleton] at hx
      subst hx
      exact .inl rfl
    · obtain ⟨h1, h2, h3, h4, _⟩ := H.tok h0
      have := H.hi
      have := H.le
      rcases List.mem_cons.1 hx with rfl | hx
      · exact .inr ⟨h3, by simp only; omega, (nextT_self h1).1⟩
      · exact ih _ o' (by omega) (by omega) h4 x hx
theorem tok_len {n : Nat} {T : TK} (h : TokOk n T) : T.text.length ≤ n := by
  rcases h with rfl | ⟨_, h, _⟩
  · simp [tk0]
  · exact h
theorem readT_tok {n : Nat} (hn : n ≤ 512) {T : TK} (h : TokOk n T) : (T = tk0 ∧ readT T.text = ((0, 0), [(tk0, 0)])) ∨ (¬ T.kind = 0 ∧ readT T.text = ((0, 0), [(T, 0), (tk0, T.text.length)])) := by
  rcases h with rfl | ⟨h1, h2, h3⟩
  · exact .inl ⟨rfl, rfl⟩
  · refine .inr ⟨h1, readT_alone h3 ?_ (by omega)⟩
    cases ht : T.text with
    | nil => rw [ht] at h3; simp [nextT] at h3
    | cons c r =>
      rw [← Bool.not_eq_true]
      intro hb
      rw [ht] at h3
      exact next_blank (c := c) r hb (by rw [h3])

set_option maxRecDepth 100000 in
set_option maxHeartbeats 8000000 in
theorem law_TokenAlone (w : World) (s : ByteArray) (kk : Nat) (hkk : kk ≤ 255) (hv : ErrVar w) : Calls Tryd.prog 7 #[.string s, .int .u8 kk] w fun e w' => e = .returned (.bool true) ∧ Fr Nob w w' := by
  have HV := Lib.hid hv
  clear hv
  go_enter Tryd.func7, Tryd.ntmps7
  go_wp2_with fail
  refine (law_awake _ HV.out).mono ?_
  rintro e w0 ⟨rfl, hf0⟩
  have HV0 := Lib.hid (HV.out.fr hf0)
  clear HV
  by_cases hl : s.size ≤ 512
  · have hlI : (s.size : Int) ≤ 512 := by omega
    have HBL := Lib.hid (ba_len s)
    have HE := Lib.hid (fun h => readT_err (l := s.data.toList) h)
    have HO := Lib.hid (fun h => readT_ok (l := s.data.toList) h)
    go_wp2_with fail
    refine (tok_Read _ s (by omega) HV0.out).mono ?_
    rintro e w1 ⟨A1, c1, rfl, hs1, hf1⟩
    have HF := Lib.hid (hf0.call hf1 (fun _ h _ => h))
    have HV1 := Lib.hid (HV0.out.fr hf1)
    clear hf0 hf1 HV0
    obtain ⟨⟨⟨er, at_⟩, o⟩, hr⟩ : ∃ p, readT s.data.toList = p := ⟨_, rfl⟩
    rw [hr] at hs1 HE HO ⊢
    have hmx : _ ≤ 9223372036854775807 := Nat.le_trans hs1.le (by have := hs1.max; unfold maxLen at this; exact this)
    have HS1 := Lib.hid hs1
    clear hs1 hr
    simp only at hmx HE HO ⊢
    by_cases h0 : er = 0
    · obtain ⟨_, hrd, hne, _⟩ := HO.out h0
      have hpos : 0 < o.length := List.length_pos_iff.2 hne
      have hposI : ((o.length : Int) == 0) = false := by rw [beq_eq_false_iff_ne]; omega
      subst h0
      have hil := Nat.mod_lt kk hpos
      have ht0 := tok_mem s.data.toList _ 0 o (Nat.le_refl _) (Nat.zero_le _) (by simpa using hrd) o[kk % o.length] (List.getElem_mem hil)
      have ht := readT_tok (n := s.data.toList.length) (by rw [HBL.out]; exact hl) ht0
      have htl := tok_len ht0
      rw [HBL.out] at htl
      clear ht0
      clear hrd hne HE HO
      obtain ⟨ba, off, rfl, hba, d0, d1, d2, d3⟩ := tk_cells HS1.out hil
      generalize o[kk % o.length] = x at *
      obtain ⟨⟨ki, tx, nu⟩, pl⟩ := x
      simp only at d0 d1 d2 d3 ht htl
      have HR := Lib.hid (fun W h => tok_Read W ⟨tx.toArray⟩ (by simp [ByteArray.size]; omega) h)
      rw [show (ByteArray.mk tx.toArray).data.toList = tx by simp] at HR
      have eI : (kk : Int) % o.length = ((kk % o.length : Nat) : Int) := by omega
      generalize kk % o.length = i at *
      have hiI : (i : Int) < o.length := by omega
      have hiI3 : (0 : Int) ≤ i := by omega
      rcases ht with ⟨h1, h2⟩ | ⟨h1, h2⟩
      · rw [h2] at HR
        clear h2
        simp only [tk0, TK.mk.injEq] at h1
        obtain ⟨rfl, rfl, rfl⟩ := h1
        go_wp2_with fail
        refine (HR.out _ ?_).mono ?_
        · exact HV1.out.fr ((Fr.refl Nob _).alloc _)
        rintro e w2 ⟨A2, c2, rfl, hs2, hf2⟩
        obtain ⟨bb, off2, rfl, hbb, e0, e1, e2, e3⟩ := tk_cells (k := 0) hs2 (by simp)
        simp only [List.getElem_cons_zero, Nat.zero_mul, Nat.add_zero, tk0] at e0 e1 e2 e3
        have b0 := ((Blk.new w1 32 #[.int .i64 0, .string ⟨([] : List UInt8).toArray⟩, .int .i64 0, .int .i64 pl]).fr hf2 (fun e => e)).cell 0
        have HF2 := Lib.hid ((HF.out.alloc _).call hf2 (fun _ h _ => h))
        clear HF hs2 hf2
        go_wp2_with fail
        first | go_quiet (fail) | skip
        go_wp2_with fail
        go_ret
        exact ⟨rfl, HF2.out⟩
      · rw [h2] at HR
        clear h2
        have h1' : (ki == 0) = false := by simpa using h1
        generalize htb : ByteArray.mk tx.toArray = tb at *
        have HTB := Lib.hid htb
        clear htb
        go_wp2_with fail
        refine (HR.out _ ?_).mono ?_
        · exact HV1.out.fr ((Fr.refl Nob _).alloc _)
        rintro e w2 ⟨A2, c2, rfl, hs2, hf2⟩
        obtain ⟨bb, off2, rfl, hbb, e0, e1, e2, e3⟩ := tk_cells (k := 0) hs2 (by simp)
        simp only [List.getElem_cons_zero, Nat.zero_mul, Nat.add_zero] at e0 e1 e2 e3
        rw [HTB.out] at e1
        have e3 : w2.cell? ⟨bb, off2 + 3, none⟩ = some (.int .i64 0) := e3
        have B := (Blk.new w1 32 #[.int .i64 ki, .string tb, .int .i64 nu, .int .i64 pl]).fr hf2 (fun e => e)
        have b0 : w2.cell? ⟨w1.heap.size, 0, none⟩ = some (.int .i64 ki) := B.cell 0
        have b1 : w2.cell? ⟨w1.heap.size, 1, none⟩ = some (.string tb) := B.cell 1
        have b2 : w2.cell? ⟨w1.heap.size, 2, none⟩ = some (.int .i64 nu) := B.cell 2
        have HF2 := Lib.hid ((HF.out.alloc _).call hf2 (fun _ h _ => h))
        clear HF hs2 hf2 B
        go_wp2_with fail
        first | go_quiet (fail) | skip
        go_wp2_with fail
        go_ret
        exact ⟨rfl, HF2.out.drewN _⟩
    · obtain ⟨h1, h2⟩ := HE.out h0
      subst h1
      have h0' : (er != 0) = true := by simpa using h0
      clear HE HO h0 h2
      go_wp2_with fail
      go_ret
      exact ⟨rfl, HF.out⟩
  · have hlI : (512 : Int) < s.size := by omega
    go_wp2_with fail
    go_ret
    exact ⟨rfl, hf0⟩
end Go.Proofs.YtlhhnhbmiamhkaaDoor
