/- Words: whether two are the same; what the laws make of a word. -/
import Derived.Test.YtckmmihbipmkcaaW2
namespace Go.Proofs.Ytckmmihbipmkcaa
open Go.RowKit Go.Sort Go.Lib

set_option maxRecDepth 100000 in
set_option maxHeartbeats 4000000 in
theorem lab_Equal (w : World) (A : Option Addr) (c : Nat) (a : List PP) (B : Option Addr) (d : Nat) (b : List PP) (ha : Sl w 2 A a.length c (a.flatMap pcs)) (hb : Sl w 2 B b.length d (b.flatMap pcs)) :
    Calls Try.prog 37 #[.slice A a.length c, .slice B b.length d] w fun e w' => e = .returned (.bool (sameB a b)) ∧ Fr Nob w w' := by
  have HA := Lib.hid ha
  have HB := Lib.hid hb
  have hle := ha.le
  have hmx := ha.max
  have hle2 := hb.le
  have hmx2 := hb.max
  unfold maxLen at hmx hmx2
  clear ha hb
  have hn : ∀ (xn yn : ByteArray) (xv yv : Int) (w : World), Sem.run Try.prog (binOp .neq 51 (.agg #[.string xn, .int .i64 xv]) (.agg #[.string yn, .int .i64 yv])) w = .ok (.bool (!ppeq ⟨xn, xv⟩ ⟨yn, yv⟩)) w := fun xn yn xv yv w => pp_neq ⟨xn, xv⟩ ⟨yn, yv⟩ w
  have hg : ∀ (op : BinOp) (a b : Operand) (xn yn : ByteArray) (xv yv : Int) (w : World), Sem.run Try.prog (eqGuard op 51 a b (.agg #[.string xn, .int .i64 xv]) (.agg #[.string yn, .int .i64 yv])) w = .ok () w := fun op a b xn yn xv yv w => pp_guard op a b ⟨xn, xv⟩ ⟨yn, yv⟩ w
  by_cases hne : a.length = b.length
  · have hneI : ((a.length : Int) != (b.length : Int)) = false := by simp [hne]
    have HNE := Lib.hid hne
    have hI0 : (a.length : Int) = b.length := by omega
    have HI0 := Lib.hid hI0
    clear hI0 hne
    go_enter Try.func37, Try.ntmps37
    go_wp2_with fail
    go_loopw [13] (fun i wr => ∃ k : Nat, k ≤ a.length ∧ i = .int .i64 k ∧ Hid (Fr Nob w wr) ∧ Hid (∀ j, (hj : j < a.length) → j < k → ppeq a[j] (b[j]'(HNE.out ▸ hj)) = true)) (fun i _ => a.length - (intOf i).toNat)
    case atStart => exact ⟨0, Nat.zero_le _, rfl, Lib.hid (Fr.refl Nob w), Lib.hid (fun j _ hj => absurd hj (by omega))⟩
    case round =>
      obtain ⟨k, hk, rfl, hfr, hall⟩ := hrel
      by_cases hlt : k < a.length
      · have hltb : k < b.length := HNE.out ▸ hlt
        have hI : (k : Int) < a.length := by omega
        have hIb : (k : Int) < b.length := by omega
        have hI3 : 0 ≤ (k : Int) := by omega
        have HF := Lib.hid (fun h => same_ne_at HNE.out hlt h)
        have HT := Lib.hid (fun (h : ppeq a[k] b[k] = true) => show ∀ j, (hj : j < a.length) → j < k + 1 → ppeq a[j] (b[j]'(HNE.out ▸ hj)) = true from fun j hj hjk => by
          rcases Nat.lt_succ_iff_lt_or_eq.1 hjk with h' | h'
          · exact hall.out j hj h'
          · subst h'; exact h)
        obtain ⟨ba, off, rfl, hba, d0, d1⟩ := pp_cells (HA.out.pure hfr.out) hlt
        obtain ⟨ba2, off2, rfl, hba2, p0, p1⟩ := pp_cells (HB.out.pure hfr.out) hltb
        generalize a[k] = x at *
        generalize b[k] = y at *
        obtain ⟨xn, xv⟩ := x
        obtain ⟨yn, yv⟩ := y
        simp only at d0 d1 p0 p1
        generalize hpe : ppeq ⟨xn, xv⟩ ⟨yn, yv⟩ = pe at HF HT
        cases pe
        · go_wp2_with fail
          go_quiet (fail)
          go_wp2_with fail
          have HR := Lib.hid (HF.out (by simp))
          go_ret
          exact ⟨ret1b HR.out.symm, hfr.out.drewN _⟩
        · go_wp2_with fail
          go_quiet (fail)
          go_wp2_with fail
          go_roundw
          case rel => exact ⟨k + 1, by omega, by go_num, Lib.hid (hfr.out.drewN _), Lib.hid (HT.out (by simp))⟩
          case measure => simp [intOf]; omega
      · have HR := Lib.hid (same_all HNE.out (fun k' hk' => hall.out k' hk' (by omega)))
        clear hn hg
        go_wp2_with fail
        go_ret
        exact ⟨ret1b HR.out.symm, hfr.out⟩
  · have hneI : ((a.length : Int) != (b.length : Int)) = true := by rw [bne_iff_ne]; omega
    have HR := Lib.hid (same_len hne)
    clear hne hn hg
    go_enter Try.func37, Try.ntmps37
    go_wp2_with fail
    go_ret
    exact ⟨ret1b HR.out.symm, Fr.refl Nob w⟩

def ptEq (x y : Pt) : Bool := x.1 == y.1 && sameB x.2 y.2
theorem ptEq_iff (x y : Pt) : ptEq x y = true ↔ x = y := by
  unfold ptEq sameB
  obtain ⟨a, b⟩ := x
  obtain ⟨c, d⟩ := y
  simp
def sameW (a b : List Pt) : Bool := decide (a = b)
theorem sameW_ne_at {a b : List Pt} {k : Nat} (hl : a.length = b.length) (hk : k < a.length) (h : ptEq a[k] (b[k]'(hl ▸ hk)) = false) : sameW a b = false := by
  unfold sameW
  rw [decide_eq_false_iff_not]
  rintro rfl
  rw [(ptEq_iff _ _).2 rfl] at h
  cases h
theorem sameW_len {a b : List Pt} (hl : a.length ≠ b.length) : sameW a b = false := by
  unfold sameW
  rw [decide_eq_false_iff_not]
  rintro rfl
  exact hl rfl
theorem sameW_all {a b : List Pt} (hl : a.length = b.length) (h : ∀ k, (hk : k < a.length) → ptEq a[k] (b[k]'(hl ▸ hk)) = true) : sameW a b = true := by
  unfold sameW
  rw [decide_eq_true_iff]
  exact List.ext_getElem hl fun k h1 h2 => (ptEq_iff _ _).1 (h k h1)
theorem pts_get {ps : List Pn} {k : Nat} (hk : k < ps.length) (h : k < (pts ps).length) : (pts ps)[k] = ps[k].pt := by simp [pts]
set_option maxHeartbeats 1000000 in
theorem wd_same1 (w : World) (p q : Pn) (h1 : Sl w 2 p.A p.l.length p.c (p.l.flatMap pcs)) (h2 : Sl w 2 q.A q.l.length q.c (q.l.flatMap pcs)) :
    Calls Try.prog 36 #[.agg #[.int .i64 p.t, .slice p.A p.l.length p.c], .agg #[.int .i64 q.t, .slice q.A q.l.length q.c]] w fun e w' => e = .returned (.bool (ptEq p.pt q.pt)) ∧ Fr Nob w w' := by
  have HE := Lib.hid (fun X (hf : Fr Nob w X) => lab_Equal X p.A p.c p.l q.A q.c q.l (h1.pure hf) (h2.pure hf))
  obtain ⟨t, A, c, l⟩ := p
  obtain ⟨t', B, d, m⟩ := q
  unfold ptEq Pn.pt
  dsimp only at HE ⊢
  generalize sameB l m = r at *
  clear h1 h2
  cases ht : t == t'
  · go_enter Try.func36, Try.ntmps36
    go_wp2_with fail
    go_ret
    exact ⟨rfl, ((Fr.refl _ _).alloc _).alloc _⟩
  · go_enter Try.func36, Try.ntmps36
    go_wp2_with ((go_at_call 37); (with_reducible refine (HE.out _ (((Fr.refl _ _).alloc _).alloc _)).mono ?_); rintro e w1 ⟨rfl, hf1⟩)
    go_ret
    exact ⟨rfl, (((Fr.refl Nob w).alloc _).alloc _).call hf1 (fun _ h _ => h)⟩
set_option maxRecDepth 100000 in
set_option maxHeartbeats 4000000 in
theorem wd_EqualFunc (w : World) (A : Option Addr) (c : Nat) (ps : List Pn) (B : Option Addr) (d : Nat) (qs : List Pn) (h : WSl w A c ps) (k : WSl w B d qs) (h63 : ps.length ≤ 1000) :
    Calls Try.prog 35 #[.slice A ps.length c, .slice B qs.length d, .func (.func 36) #[] #[]] w fun e w' => e = .returned (.bool (sameW (pts ps) (pts qs))) ∧ Fr Nob w w' := by
  have HL := Lib.hid h
  have HK := Lib.hid k
  clear h k
  by_cases hl : ps.length = qs.length
  · have hlI : ((ps.length : Int) != (qs.length : Int)) = false := by simp [hl]
    have HLN := Lib.hid (show (pts ps).length = (pts qs).length by rw [pts_len, pts_len, hl])
    have HL0 := Lib.hid hl
    clear hl
    go_enter Try.func35, Try.ntmps35
    go_wp2_with fail
    go_loopw [17] (fun i wr => ∃ k : Nat, k ≤ ps.length ∧ i = .int .i64 k ∧ Hid (∀ j, (hj : j < (pts ps).length) → j < k → ptEq (pts ps)[j] ((pts qs)[j]'(HLN.out ▸ hj)) = true) ∧ Hid (Fr Nob w wr)) (fun i _ => ps.length - (intOf i).toNat)
    case atStart => exact ⟨0, Nat.zero_le _, rfl, Lib.hid (fun j _ hj => absurd hj (by omega)), Lib.hid (Fr.refl _ _)⟩
    case round =>
      obtain ⟨k, hk, rfl, hall, hfr⟩ := hrel
      by_cases hlt : k < ps.length
      · have hI : (k : Int) < ps.length := by omega
        have hI3 : 0 ≤ (k : Int) := by omega
        have hlq : k < qs.length := by have := HL0.out; omega
        have hIq : (k : Int) < qs.length := by omega
        have hlp : k < (pts ps).length := by rw [pts_len]; exact hlt
        have hlp2 : k < (pts qs).length := by rw [pts_len]; exact hlq
        obtain ⟨b, off, rfl, hb, d0, d1⟩ := (HL.out.pure hfr.out).at_ hlt
        obtain ⟨b2, off2, rfl, hb2, e0, e1⟩ := (HK.out.pure hfr.out).at_ hlq
        have HC := Lib.hid (fun X (hf : Fr Nob wr X) => wd_same1 X ps[k] qs[k] (((HL.out.inn _ (List.getElem_mem hlt)).pure hfr.out).pure hf) (((HK.out.inn _ (List.getElem_mem hlq)).pure hfr.out).pure hf))
        have HN := Lib.hid (fun h => sameW_ne_at HLN.out hlp h)
        have HY := Lib.hid (fun (h : ptEq (pts ps)[k] (pts qs)[k] = true) => show ∀ j, (hj : j < (pts ps).length) → j < k + 1 → ptEq (pts ps)[j] ((pts qs)[j]'(HLN.out ▸ hj)) = true from fun j hj hjk => by
          rcases Nat.lt_succ_iff_lt_or_eq.1 hjk with h' | h'
          · exact hall.out j hj h'
          · subst h'; exact h)
        rw [pts_get hlt hlp, pts_get hlq hlp2] at HN HY
        generalize ps[k] = p at *
        generalize qs[k] = q at *
        generalize ptEq p.pt q.pt = r at *
        obtain ⟨t, pA, pc, l⟩ := p
        obtain ⟨t', qA, qc, m⟩ := q
        dsimp only at d0 d1 e0 e1 HC
        cases r
        · replace HN := Lib.hid (HN.out rfl)
          clear HY
          go_wp2_with ((go_at_call 36); (with_reducible refine (HC.out _ (((Fr.refl _ _).alloc _).alloc _)).mono ?_); rintro e w1 ⟨rfl, hf1⟩; have HF := Lib.hid (((hfr.out.alloc _).alloc _).call hf1 (fun _ h _ => h)); clear hf1)
          go_ret
          rw [HN.out]
          exact ⟨rfl, HF.out⟩
        · replace HY := Lib.hid (HY.out rfl)
          clear HN
          go_wp2_with ((go_at_call 36); (with_reducible refine (HC.out _ (((Fr.refl _ _).alloc _).alloc _)).mono ?_); rintro e w1 ⟨rfl, hf1⟩; have HF := Lib.hid (((hfr.out.alloc _).alloc _).call hf1 (fun _ h _ => h)); clear hf1)
          go_roundw
          case rel => exact ⟨_, by omega, by go_num, HY, HF⟩
          case measure => simp [intOf]; omega
      · have HR := Lib.hid (sameW_all HLN.out (fun k' hk' => hall.out k' hk' (by rw [pts_len] at hk'; omega)))
        go_wp2_with fail
        go_ret
        rw [HR.out]
        exact ⟨rfl, hfr.out⟩
  · have hlI : ((ps.length : Int) != (qs.length : Int)) = true := by rw [bne_iff_ne]; omega
    have HR := Lib.hid (sameW_len (a := pts ps) (b := pts qs) (by rw [pts_len, pts_len]; exact hl))
    clear hl
    go_enter Try.func35, Try.ntmps35
    go_wp2_with fail
    go_ret
    rw [HR.out]
    exact ⟨rfl, Fr.refl _ _⟩
theorem wd_Same (w : World) (A : Option Addr) (c : Nat) (ps : List Pn) (B : Option Addr) (d : Nat) (qs : List Pn) (h : WSl w A c ps) (k : WSl w B d qs) (h63 : ps.length ≤ 1000) :
    Calls Try.prog 20 #[.slice A ps.length c, .slice B qs.length d] w fun e w' => e = .returned (.bool (sameW (pts ps) (pts qs))) ∧ Fr Nob w w' := by
  have HE := Lib.hid (wd_EqualFunc w A c ps B d qs h k h63)
  generalize sameW (pts ps) (pts qs) = r at *
  clear h k
  go_enter Try.func20, Try.ntmps20
  go_wp2_with ((go_at_call 35); (with_reducible refine (HE.out).mono ?_); rintro e w1 ⟨rfl, hf1⟩)
  go_ret
  exact ⟨rfl, hf1⟩
set_option maxRecDepth 100000 in
set_option maxHeartbeats 4000000 in
theorem rw_Same (w : World) (A : Option Addr) (c : Nat) (ps : List Pn) (B : Option Addr) (d : Nat) (qs : List Pn) (h : WSl w A c ps) (k : WSl w B d qs) (h63 : ps.length ≤ 1000) :
    Calls Try.prog 12 #[.slice A ps.length c, .slice B qs.length d] w fun e w' => e = .returned (.bool (sameW (pts ps) (pts qs))) ∧ Fr Nob w w' := by
  have HL := Lib.hid h
  have HK := Lib.hid k
  clear h k
  by_cases hl : ps.length = qs.length
  · have hlI : ((ps.length : Int) != (qs.length : Int)) = false := by simp [hl]
    have HLN := Lib.hid (show (pts ps).length = (pts qs).length by rw [pts_len, pts_len, hl])
    have HL0 := Lib.hid hl
    clear hl
    go_enter Try.func12, Try.ntmps12
    go_wp2_with fail
    go_loopw [5] (fun i wr => ∃ k : Nat, k ≤ ps.length ∧ i = .int .i64 k ∧ Hid (∀ j, (hj : j < (pts ps).length) → j < k → ptEq (pts ps)[j] ((pts qs)[j]'(HLN.out ▸ hj)) = true) ∧ Hid (Fr Nob w wr)) (fun i _ => ps.length - (intOf i).toNat)
    case atStart => exact ⟨0, Nat.zero_le _, rfl, Lib.hid (fun j _ hj => absurd hj (by omega)), Lib.hid (Fr.refl _ _)⟩
    case round =>
      obtain ⟨k, hk, rfl, hall, hfr⟩ := hrel
      by_cases hlt : k < ps.length
      · have hI : (k : Int) < ps.length := by omega
        have hI3 : 0 ≤ (k : Int) := by omega
        have hlq : k < qs.length := by have := HL0.out; omega
        have hIq : (k : Int) < qs.length := by omega
        have hlp : k < (pts ps).length := by rw [pts_len]; exact hlt
        have hlp2 : k < (pts qs).length := by rw [pts_len]; exact hlq
        obtain ⟨b, off, rfl, hb, d0, d1⟩ := (HL.out.pure hfr.out).at_ hlt
        obtain ⟨b2, off2, rfl, hb2, e0, e1⟩ := (HK.out.pure hfr.out).at_ hlq
        have HC := Lib.hid (fun X (hf : Fr Nob wr X) => ref_Same X ps[k].A ps[k].c ps[k].l qs[k].A qs[k].c qs[k].l (((HL.out.inn _ (List.getElem_mem hlt)).pure hfr.out).pure hf) (((HK.out.inn _ (List.getElem_mem hlq)).pure hfr.out).pure hf))
        have HN := Lib.hid (fun h => sameW_ne_at HLN.out hlp h)
        have HY := Lib.hid (fun (h : ptEq (pts ps)[k] (pts qs)[k] = true) => show ∀ j, (hj : j < (pts ps).length) → j < k + 1 → ptEq (pts ps)[j] ((pts qs)[j]'(HLN.out ▸ hj)) = true from fun j hj hjk => by
          rcases Nat.lt_succ_iff_lt_or_eq.1 hjk with h' | h'
          · exact hall.out j hj h'
          · subst h'; exact h)
        rw [pts_get hlt hlp, pts_get hlq hlp2] at HN HY
        generalize ps[k] = p at *
        generalize qs[k] = q at *
        obtain ⟨t, pA, pc, l⟩ := p
        obtain ⟨t', qA, qc, m⟩ := q
        unfold ptEq Pn.pt at HN HY
        dsimp only at d0 d1 e0 e1 HC HN HY
        cases ht : t == t'
        · have htn : (t != t') = true := by simpa using ht
          replace HN := Lib.hid (HN.out (by rw [ht]; rfl))
          clear HY ht
          go_wp2_with fail
          go_quiet (fail)
          go_wp2_with fail
          go_ret
          rw [HN.out]
          exact ⟨rfl, hfr.out.drewN _⟩
        · have htn : (t != t') = false := by simpa using ht
          rw [ht, Bool.true_and] at HN HY
          clear ht
          generalize sameB l m = r at *
          have k0 := cell_regrown d0
          have k1 := cell_regrown d1
          have k2 := cell_regrown e0
          have k3 := cell_regrown e1
          have C1 := Lib.hid (regr fun X hf => HC.out X hf)
          cases r
          · replace HN := Lib.hid (HN.out rfl)
            clear HY
            go_wp2_with fail
            refine wp_region_quiet_below (by kernel_rfl) (by kernel_rfl) ?_
            repeat (go_big_quiet_step (first | exact C1.out _ _))
            refine wpQuiet_nil ?_
            intro _ hw'
            obtain ⟨⟨dq, osq⟩, hw''⟩ := hw'
            subst hw''
            go_wp2_with fail
            go_ret
            rw [HN.out]
            exact ⟨rfl, rg_fr hfr.out _ _⟩
          · replace HY := Lib.hid (HY.out rfl)
            clear HN
            go_wp2_with fail
            refine wp_region_quiet_below (by kernel_rfl) (by kernel_rfl) ?_
            repeat (go_big_quiet_step (first | exact C1.out _ _))
            refine wpQuiet_nil ?_
            intro _ hw'
            obtain ⟨⟨dq, osq⟩, hw''⟩ := hw'
            subst hw''
            go_wp2_with fail
            go_roundw
            case rel => exact ⟨_, by omega, by go_num, HY, Lib.hid (rg_fr hfr.out _ _)⟩
            case measure => simp [intOf]; omega
      · have HR := Lib.hid (sameW_all HLN.out (fun k' hk' => hall.out k' hk' (by rw [pts_len] at hk'; omega)))
        go_wp2_with fail
        go_ret
        rw [HR.out]
        exact ⟨rfl, hfr.out⟩
  · have hlI : ((ps.length : Int) != (qs.length : Int)) = true := by rw [bne_iff_ne]; omega
    have HR := Lib.hid (sameW_len (a := pts ps) (b := pts qs) (by rw [pts_len, pts_len]; exact hl))
    clear hl
    go_enter Try.func12, Try.ntmps12
    go_wp2_with fail
    go_ret
    rw [HR.out]
    exact ⟨rfl, Fr.refl _ _⟩
/-- Short names, few propositions. -/
def shortB (n : Nat) (l : List PP) : Bool := decide (l.length ≤ n) && l.all fun p => decide (p.name.size ≤ 40)
theorem short_no {n : Nat} {l : List PP} {k : Nat} (hk : k < l.length) (h : 40 < l[k].name.size) : shortB n l = false := by
  unfold shortB
  have : (l.all fun p => decide (p.name.size ≤ 40)) = false := by
    rw [List.all_eq_false]; exact ⟨l[k], List.getElem_mem hk, by simpa using h⟩
  rw [this, Bool.and_false]
theorem short_all {n : Nat} {l : List PP} (hn : l.length ≤ n) (h : ∀ k, (hk : k < l.length) → l[k].name.size ≤ 40) : shortB n l = true := by
  unfold shortB
  have : (l.all fun p => decide (p.name.size ≤ 40)) = true := by
    rw [List.all_eq_true]
    intro x hx
    obtain ⟨k, hk, rfl⟩ := List.getElem_of_mem hx
    simpa using h k hk
  rw [this, Bool.and_true]; simpa using hn
theorem short_imp {n : Nat} {l : List PP} (h : shortB n l = true) : l.length ≤ n ∧ ∀ x ∈ l, x.name.size ≤ 40 := by
  unfold shortB at h
  simp only [Bool.and_eq_true, decide_eq_true_eq, List.all_eq_true] at h
  exact h
set_option maxHeartbeats 4000000 in
theorem law_short (w : World) (A : Option Addr) (c : Nat) (l : List PP) (hl : Sl w 2 A l.length c (l.flatMap pcs)) :
    Calls Try.prog 16 #[.slice A l.length c] w fun e w' => e = .returned (.bool (shortB 20 l)) ∧ w' = w := by
  have HL := Lib.hid hl
  clear hl
  by_cases h20 : 20 < l.length
  · have hI : (20 : Int) < l.length := by omega
    have HR := Lib.hid (show shortB 20 l = false by unfold shortB; rw [decide_eq_false (by omega)]; rfl)
    clear h20
    go_enter Try.func16, Try.ntmps16
    go_wp2_with fail
    go_ret
    rw [HR.out]
    exact ⟨rfl, rfl⟩
  · have hI : (l.length : Int) ≤ 20 := by omega
    go_enter Try.func16, Try.ntmps16
    go_wp2_with fail
    go_loop [3] (fun i => ∃ k : Nat, k ≤ l.length ∧ i = .int .i64 k ∧ Hid (∀ j, (hj : j < l.length) → j < k → l[j].name.size ≤ 40)) (fun i => l.length - (intOf i).toNat)
    case atStart => exact ⟨0, Nat.zero_le _, rfl, Lib.hid (fun j _ hj => absurd hj (by omega))⟩
    case round =>
      obtain ⟨k, hk, rfl, hall⟩ := hrel
      by_cases hlt : k < l.length
      · have hI2 : (k : Int) < l.length := by omega
        have hI3 : 0 ≤ (k : Int) := by omega
        obtain ⟨ba, off, rfl, hba, d0, d1⟩ := pp_cells HL.out hlt
        have HF := Lib.hid (fun h => short_no (n := 20) hlt h)
        have HT := Lib.hid (fun (h : l[k].name.size ≤ 40) => show ∀ j, (hj : j < l.length) → j < k + 1 → l[j].name.size ≤ 40 from fun j hj hjk => by
          rcases Nat.lt_succ_iff_lt_or_eq.1 hjk with h' | h'
          · exact hall.out j hj h'
          · subst h'; exact h)
        generalize l[k] = x at *
        obtain ⟨xn, xv⟩ := x
        simp only at d0 d1 HF HT
        by_cases h40 : 40 < xn.size
        · have h40I : (40 : Int) < xn.size := by omega
          have HR := Lib.hid (HF.out h40)
          clear HF HT h40
          go_wp2_with fail
          go_ret
          rw [HR.out]
          exact ⟨rfl, rfl⟩
        · have h40I : ¬ (40 : Int) < xn.size := by omega
          have HR := Lib.hid (HT.out (by omega))
          clear HF HT h40
          go_wp2_with fail
          go_round
          case rel => exact ⟨k + 1, by omega, by go_num, HR⟩
          case measure => simp [intOf]; omega
      · have HR := Lib.hid (short_all (n := 20) (l := l) (by omega) (fun k' hk' => hall.out k' hk' (by omega)))
        go_wp2_with fail
        go_ret
        rw [HR.out]
        exact ⟨rfl, rfl⟩
end Go.Proofs.Ytckmmihbipmkcaa
