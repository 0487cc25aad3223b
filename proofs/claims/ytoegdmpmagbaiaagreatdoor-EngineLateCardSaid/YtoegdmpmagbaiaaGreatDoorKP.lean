/- The reference's right, same; few: walks. -/
import Derived.Test.YtoegdmpmagbaiaaGreatDoorKO
import Derived.Test.YtoegdmpmagbaiaaGreatDoorKA
namespace Go.Proofs.YtoegdmpmagbaiaaGreatDoor
open Go.RowKit Go.Sort Go.Lib

set_option maxHeartbeats 4000000 in
theorem lref_Right (w : World) (A : Option Addr) (c : Nat) (l : List PP) (hl : Sl w 2 A l.length c (l.flatMap pcs)) (hsz : ∀ p ∈ l, p.name.size ≤ 9223372036854775807) :
    Calls Tryz.prog 44 #[.slice A l.length c] w fun e w' => e = .returned (.bool (rightB l)) ∧ Fr Nob w w' := by
  have HL := Lib.hid hl
  have HZ := Lib.hid hsz
  have hle := hl.le
  have hmx := hl.max
  unfold maxLen at hmx
  clear hl hsz
  go_enter Tryz.func44, Tryz.ntmps44
  go_wp2_with fail
  go_loopw [3] (fun i wl => ∃ k : Nat, k ≤ l.length ∧ i = .int .i64 k ∧ Hid (Fr Nob w wl) ∧ Hid (∀ j, (hj : j < l.length) → j < k → okAt l j (l[j]) = true)) (fun i _ => l.length - (intOf i).toNat)
  case atStart => exact ⟨0, Nat.zero_le _, rfl, Lib.hid (Fr.refl Nob w), Lib.hid (fun j _ hj => absurd hj (by omega))⟩
  case round =>
    obtain ⟨k, hk, rfl, hfr, hall⟩ := hrel
    by_cases hlt : k < l.length
    · have hI : (k : Int) < l.length := by omega
      have hI3 : 0 ≤ (k : Int) := by omega
      have HF := Lib.hid (fun h => rightB_false hlt h)
      have HT := Lib.hid (fun (h : okAt l k l[k] = true) => show ∀ j, (hj : j < l.length) → j < k + 1 → okAt l j (l[j]) = true from fun j hj hjk => by
        rcases Nat.lt_succ_iff_lt_or_eq.1 hjk with h' | h'
        · exact hall.out j hj h'
        · subst h'; exact h)
      have HS := Lib.hid (HZ.out l[k] (List.getElem_mem hlt))
      have HX := hfr
      cases k with
      | zero =>
        obtain ⟨ba, off, rfl, hba, d0, d1⟩ := pp_cells (HL.out.pure hfr.out) hlt
        rw [okAt_zero] at HF HT
        generalize l[0] = x at *
        obtain ⟨xn, xv⟩ := x
        simp only [Nat.zero_mul, Nat.add_zero, Nat.zero_add] at d0 d1 HF HT HS
        have HN := Lib.hid (fun W => ref_Name W xn HS.out)
        generalize nmOk xn = nb at *
        cases nb
        all_goals
          go_wp2_with fail
          go_quiet ((go_at_call 75; exact Calls.quiet_of_same ((HN.out _).mono fun _ _ ⟨h1, h2⟩ => ⟨h1, h2.symm⟩)))
          all_goals go_wp2_with fail
        · have HR := Lib.hid (HF.out (by simp))
          go_ret
          exact ⟨ret1b HR.out.symm, hfr.out.drewN _⟩
        · go_roundw
          case rel => exact ⟨1, by omega, by go_num, Lib.hid (hfr.out.drewN _), Lib.hid (HT.out (by simp))⟩
          case measure => simp [intOf]; omega
      | succ k =>
        obtain ⟨ba, off, rfl, hba, d0, d1⟩ := pp_cells (HL.out.pure hfr.out) hlt
        obtain ⟨ba2, off2, he, _, p0, p1⟩ := pp_cells (HL.out.pure hfr.out) (k := k) (by omega)
        cases he
        rw [okAt_succ (by omega)] at HF HT
        have HX : Hid (Fr Nob w wr) := hfr
        generalize l[k + 1] = x at *
        generalize l[k] = y at *
        obtain ⟨xn, xv⟩ := x
        obtain ⟨yn, yv⟩ := y
        simp only at d0 d1 p0 p1 HF HT HS
        have HN := Lib.hid (fun W => ref_Name W xn HS.out)
        have HO := Lib.hid (fun W => ref_Ahead W ⟨yn, yv⟩ ⟨xn, xv⟩)
        have hk0 : (0 : Int) ≤ (k : Int) := by omega
        have hk1 : (k : Int) < l.length := by omega
        have hk2 : (k : Int) < c := by omega
        have hk3 : (k : Int) + 1 < l.length := by omega
        have hk4 : (0 : Int) ≤ (k : Int) + 1 := by omega
        have e1 : IntKind.i64.wrap (k : Int) = (k : Int) := IntWalk.i64_in _ (by omega)
        have e2 : IntKind.i64.wrap ((k : Int) + 1 - 1) = (k : Int) := by rw [show (k : Int) + 1 - 1 = (k : Int) by omega]; exact e1
        generalize nmOk xn = nb at *
        cases nb
        · go_wp2_with fail
          go_quiet ((go_at_call 75; exact Calls.quiet_of_same ((HN.out _).mono fun _ _ ⟨h1, h2⟩ => ⟨h1, h2.symm⟩)))
          all_goals go_wp2_with fail
          have HR := Lib.hid (HF.out (by simp))
          go_ret
          exact ⟨ret1b HR.out.symm, hfr.out.drewN _⟩
        · simp only [Bool.true_and] at HF HT
          generalize paheadB ⟨yn, yv⟩ ⟨xn, xv⟩ = r at *
          cases r
          rotate_left
          all_goals
            go_wp2_with fail
            go_region_held3 (fun w' => w'.cell? ⟨ba, off + (k + 1) * 2, none⟩ = some (.string xn) ∧ w'.cell? ⟨ba, off + (k + 1) * 2 + 1, none⟩ = some (.int .i64 xv) ∧ w'.cell? ⟨ba, off + k * 2, none⟩ = some (.string yn) ∧ w'.cell? ⟨ba, off + k * 2 + 1, none⟩ = some (.int .i64 yv)) (first | go_keep | (go_split_ands; refine ⟨?_, ?_, ?_, ?_⟩ <;> exact Fr.cell hf1 (by assumption) (fun e => e))) (first | ((go_at_call 75); refine (HN.out _).mono ?_; rintro e w1 ⟨rfl, rfl⟩) | ((go_at_call 76); refine (HO.out _).mono ?_; rintro e w1 ⟨rfl, hf1⟩))
            all_goals go_wp2_with fail
          · go_roundw
            case rel => exact ⟨k + 1 + 1, by omega, by go_num, Lib.hid (hfr.out.drew.call hf1 (fun _ h _ => h)), Lib.hid (HT.out (by simp))⟩
            case measure => simp [intOf]; omega
          · have HR := Lib.hid (HF.out (by simp))
            go_ret
            exact ⟨ret1b HR.out.symm, hfr.out.drew.call hf1 (fun _ h _ => h)⟩
    · have HR := Lib.hid (rightB_true (l := l) (fun k' hk' => hall.out k' hk' (by omega)))
      go_wp2_with fail
      go_ret
      exact ⟨ret1b HR.out.symm, hfr.out⟩

def sameB (a b : List PP) : Bool := decide (a = b)
theorem same_ne_at {a b : List PP} {k : Nat} (hl : a.length = b.length) (hk : k < a.length) (h : ppeq a[k] (b[k]'(hl ▸ hk)) = false) : sameB a b = false := by
  unfold sameB
  rw [decide_eq_false_iff_not]
  rintro rfl
  rw [(ppeq_iff _ _).2 rfl] at h; cases h
theorem same_len {a b : List PP} (hl : a.length ≠ b.length) : sameB a b = false := by
  unfold sameB
  rw [decide_eq_false_iff_not]
  rintro rfl; exact hl rfl
theorem same_all {a b : List PP} (hl : a.length = b.length) (h : ∀ k, (hk : k < a.length) → ppeq a[k] (b[k]'(hl ▸ hk)) = true) : sameB a b = true := by
  unfold sameB
  rw [decide_eq_true_iff]
  exact List.ext_getElem hl fun i h1 h2 => (ppeq_iff _ _).1 (h i h1)

def fewB (l : List PP) : Bool := l.all (fun p => decide (p.name.size ≤ 40)) && decide (l.length ≤ 40)
theorem few_no {l : List PP} {k : Nat} (hk : k < l.length) (h : 40 < l[k].name.size) : fewB l = false := by
  unfold fewB
  rw [Bool.and_eq_false_iff]
  left
  rw [List.all_eq_false]
  exact ⟨l[k], List.getElem_mem hk, by simp; omega⟩
theorem few_all {l : List PP} (h : ∀ k, (hk : k < l.length) → l[k].name.size ≤ 40) : fewB l = decide (l.length ≤ 40) := by
  unfold fewB
  have : l.all (fun p => decide (p.name.size ≤ 40)) = true := by
    rw [List.all_eq_true]
    intro x hx
    obtain ⟨i, hi, rfl⟩ := List.getElem_of_mem hx
    simpa using h i hi
  rw [this, Bool.true_and]
theorem few_len {l : List PP} (h : fewB l = true) : l.length ≤ 40 := by
  unfold fewB at h
  rw [Bool.and_eq_true, decide_eq_true_iff] at h
  exact h.2
end Go.Proofs.YtoegdmpmagbaiaaGreatDoor

/- Two rows, each in order, as one: the walk. -/
namespace Go.Proofs.YtoegdmpmagbaiaaGreatDoor
open Go.RowKit Go.Sort Go.Lib

/-- What is made (o), and what is left (a, b), of A and B. -/
structure MI (A B o a b : List PP) : Prop where
  asca : Asc (o ++ a)
  ascb : Asc (o ++ b)
  mem : ∀ x, (x ∈ o ∨ x ∈ a ∨ x ∈ b) ↔ (x ∈ A ∨ x ∈ B)
  len : o.length + a.length + b.length ≤ A.length + B.length
theorem MI.start {A B : List PP} (ha : Asc A) (hb : Asc B) : MI A B [] A B := ⟨by simpa using ha, by simpa using hb, fun x => by simp, by simp⟩
theorem MI.less {A B o a b : List PP} {x y : PP} (h : MI A B o (x :: a) (y :: b)) (hlt : plt x y) : MI A B (o ++ [x]) a (y :: b) := by
  have hb := h.ascb
  have ha := h.asca
  unfold Asc at *
  rw [List.pairwise_append] at ha hb
  refine ⟨by have := h.asca; unfold Asc at this ⊢; simpa using this, ?_, fun z => ?_, by have := h.len; simp at *; omega⟩
  · unfold Asc
    rw [List.append_assoc, List.pairwise_append]
    refine ⟨hb.1, ?_, fun p hp q hq => ?_⟩
    · simp only [List.singleton_append, List.pairwise_cons]
      exact ⟨fun q hq => by
        rcases List.mem_cons.1 hq with rfl | hq
        · exact hlt
        · exact plt_trans hlt ((List.pairwise_cons.1 hb.2.1).1 q hq), List.pairwise_cons.1 hb.2.1⟩
    · simp only [List.singleton_append, List.mem_cons] at hq
      rcases hq with rfl | hq
      · exact ha.2.2 p hp _ (by simp)
      · exact hb.2.2 p hp q (List.mem_cons.2 hq)
  · rw [← h.mem z]; simp only [List.mem_append, List.mem_cons, List.not_mem_nil, or_false, or_assoc]
theorem MI.comm {A B o a b : List PP} (h : MI A B o a b) : MI B A o b a :=
  ⟨h.ascb, h.asca, fun x => by rw [Or.comm (a := x ∈ b), Or.comm (a := x ∈ B)]; exact h.mem x, by have := h.len; omega⟩
theorem MI.more {A B o a b : List PP} {x y : PP} (h : MI A B o (x :: a) (y :: b)) (hlt : plt y x) : MI A B (o ++ [y]) (x :: a) b := (h.comm.less hlt).comm
theorem MI.same {A B o a b : List PP} {x : PP} (h : MI A B o (x :: a) (x :: b)) : MI A B (o ++ [x]) a b := by
  refine ⟨by simpa using h.asca, by simpa using h.ascb, fun z => ?_, by have := h.len; simp at *; omega⟩
  rw [← h.mem z]; simp only [List.mem_append, List.mem_cons, List.not_mem_nil, or_false, or_assoc]
  constructor
  · rintro (h | h | h | h)
    · exact .inl h
    · exact .inr (.inl h)
    · exact .inr (.inr (.inl h))
    · exact .inr (.inr (.inr (.inr h)))
  · rintro (h | h | h | h | h)
    · exact .inl h
    · exact .inr (.inl h)
    · exact .inr (.inr (.inl h))
    · exact .inr (.inl h)
    · exact .inr (.inr (.inr h))
theorem MI.done {A B o a b : List PP} (h : MI A B o a b) (hn : a = [] ∨ b = []) : o ++ a ++ b = lof (A ++ B) := by
  refine (lof_eq ?_ fun x => ?_).symm
  · rcases hn with rfl | rfl
    · simpa using h.ascb
    · simpa using h.asca
  · rw [List.mem_append (s := A), ← h.mem x]; simp

/-- The row that is being made. -/
structure MrgW (w wr : World) (base : Nat) (A1 : Option Addr) (c1 : Nat) (a : List PP) (A2 : Option Addr) (c2 : Nat) (b : List PP) (Ao : Option Addr) (co : Nat) (o : List PP) : Prop where
  fr : Fr Nob w wr
  own : wr.ownsRow base 91 2 (.slice Ao o.length co) o.length (o.flatMap pcs)
  sa : Sl w 2 A1 a.length c1 (a.flatMap pcs)
  sb : Sl w 2 A2 b.length c2 (b.flatMap pcs)
  hb : w.heap.size ≤ base
  hb2 : base ≤ wr.heap.size
section
variable {w wr w1 : World} {base : Nat} {A1 A2 Ao : Option Addr} {c1 c2 co : Nat} {a b o : List PP}
theorem MrgW.pure (h : MrgW w wr base A1 c1 a A2 c2 b Ao co o) (hf : Fr Nob wr w1) : MrgW w w1 base A1 c1 a A2 c2 b Ao co o :=
  ⟨h.fr.call hf (fun _ h _ => h), own_fr h.own hf (fun _ _ _ _ e => e), h.sa, h.sb, h.hb, Nat.le_trans h.hb2 hf.size⟩
theorem MrgW.app {A' : Option Addr} {c' n : Nat} (h : MrgW w wr base A1 c1 a A2 c2 b Ao co o) (l : List PP) (hown : w1.ownsRow base 91 2 (.slice A' n c') n (o.flatMap pcs ++ l.flatMap pcs)) (hn : n = (o ++ l).length) (hg : wr.grownBy w1 (Ao.map (·.block))) : MrgW w w1 base A1 c1 a A2 c2 b A' c' (o ++ l) := by
  subst hn
  refine ⟨h.fr.grown hg (fun k hk hlt => by have := own_base h.own k hk; have := h.hb; omega), by rw [List.flatMap_append]; exact hown, h.sa, h.sb, h.hb, Nat.le_trans h.hb2 hg.size⟩
theorem MrgW.own_al (h : MrgW w wr base A1 c1 a A2 c2 b Ao co o) (ob : Obj) {n : Nat} (hn : n = o.length) : (wr.alloc ob).ownsRow base 91 2 (.slice Ao n co) n (o.flatMap pcs) := by
  subst hn; exact (h.pure ((Fr.refl Nob wr).alloc ob)).own
theorem MrgW.own_len (h : MrgW w wr base A1 c1 a A2 c2 b Ao co o) {n : Nat} (hn : n = o.length) : wr.ownsRow base 91 2 (.slice Ao n co) n (o.flatMap pcs) := by
  subst hn; exact h.own
theorem MrgW.cuta {x : PP} (h : MrgW w wr base A1 c1 (x :: a) A2 c2 b Ao co o) : MrgW w wr base (if c1 = 1 then A1 else A1.map (·.add 2)) (c1 - 1) a A2 c2 b Ao co o :=
  ⟨h.fr, h.own, by have := h.sa.cut (k := 1) (by simp); simpa [pcs] using this, h.sb, h.hb, h.hb2⟩
theorem MrgW.cutb {x : PP} (h : MrgW w wr base A1 c1 a A2 c2 (x :: b) Ao co o) : MrgW w wr base A1 c1 a (if c2 = 1 then A2 else A2.map (·.add 2)) (c2 - 1) b Ao co o :=
  ⟨h.fr, h.own, h.sa, by have := h.sb.cut (k := 1) (by simp); simpa [pcs] using this, h.hb, h.hb2⟩
theorem MrgW.cuta' {ba off : Nat} {x : PP} (h : MrgW w wr base (some ⟨ba, off, none⟩) c1 (x :: a) A2 c2 b Ao co o) : MrgW w wr base (if c1 = 1 then some ⟨ba, off, none⟩ else some ⟨ba, off + 2, none⟩) (c1 - 1) a A2 c2 b Ao co o := by
  have := h.cuta; rwa [Option.map_some, add_addr] at this
theorem MrgW.cutb' {ba off : Nat} {x : PP} (h : MrgW w wr base A1 c1 a (some ⟨ba, off, none⟩) c2 (x :: b) Ao co o) : MrgW w wr base A1 c1 a (if c2 = 1 then some ⟨ba, off, none⟩ else some ⟨ba, off + 2, none⟩) (c2 - 1) b Ao co o := by
  have := h.cutb; rwa [Option.map_some, add_addr] at this
end
theorem pord_pos {x y : PP} (h : 0 < pord x y) : plt y x := by
  rcases plt_tri x y with h1 | h1 | h1
  · have := (pord_neg x y).2 h1; omega
  · have := (pord_zero x y).2 h1; omega
  · exact h1
theorem MI.same' {A B o a b : List PP} {x y : PP} (h : MI A B o (x :: a) (y :: b)) (e : x = y) : MI A B (o ++ [x]) a b := by subst e; exact h.same
def slLen : Value → Nat
  | .slice _ n _ => n
  | _ => 0
theorem run_cut1 (A : Option Addr) (n cap : Nat) (W : World) :
    (Instr.slice 57 (.slice A (n + 1) cap) (some (.int .i64 1)) none none).run Tryz.prog W = .ok (.slice (if cap = 1 then A else A.map (·.add 2)) n (cap - 1)) W := run_cut elemPP A 1 (by omega) W

def pcl (l : List PP) : List Value := l.flatMap pcs
/-- Made, in new memory. -/
def MadeN (w w' : World) (e : Ending) (l : List PP) : Prop := ∃ A' c', e = .returned (.slice A' l.length c') ∧ Sl w' 2 A' l.length c' (l.flatMap pcs) ∧ Fr Nob w w' ∧ (∀ g off, A' = some ⟨g, off, none⟩ → w.heap.size ≤ g)
def MadeP (w w' : World) (e : Ending) (l : List PP) : Prop := ∃ A' c', e = .returned (.slice A' l.length c') ∧ Sl w' 2 A' l.length c' (l.flatMap pcs) ∧ Fr Nob w w' ∧ (∀ g off, A' = some ⟨g, off, none⟩ → w.heap.size ≤ g ∧ Pb w' g)
theorem pcs_one' (x : PP) : ∀ u ∈ pcs x, u.oneCell' = true := by intro u hu; simp [pcs] at hu; rcases hu with rfl | rfl <;> rfl
set_option maxRecDepth 100000 in
set_option maxHeartbeats 4000000 in
theorem lab_merge (w : World) (A : Option Addr) (c : Nat) (la : List PP) (B : Option Addr) (d : Nat) (lb : List PP) (ha : Sl w 2 A la.length c (la.flatMap pcs)) (hb : Sl w 2 B lb.length d (lb.flatMap pcs)) (asca : Asc la) (ascb : Asc lb) (ha63 : la.length ≤ 10000) (hb63 : lb.length ≤ 10000) :
    Calls Tryz.prog 83 #[.slice A la.length c, .slice B lb.length d, .func (.func 59) #[] #[]] w fun e w' => MadeP w w' e (lof (la ++ lb)) := by
  have HA := Lib.hid ha
  have HB := Lib.hid hb
  have HI := Lib.hid (MI.start asca ascb)
  clear ha hb asca ascb
  obtain ⟨cs, hcs, hmk⟩ := run_mk elemPP (la.length + lb.length) ((la.length : Int) + lb.length) (by omega) (by omega) (by unfold maxLen; omega)
  have HCS := Lib.hid hcs
  clear hcs
  go_enter Tryz.func83, Tryz.ntmps83
  go_wp2_with fail
  go_loopw [0, 1, 7] (fun s1 s2 so wr => ∃ (A1 : Option Addr) (c1 : Nat) (a : List PP) (A2 : Option Addr) (c2 : Nat) (b : List PP) (Ao : Option Addr) (co : Nat) (o : List PP), s1 = .slice A1 a.length c1 ∧ s2 = .slice A2 b.length c2 ∧ so = .slice Ao o.length co ∧ Hid (MrgW w wr w.heap.size A1 c1 a A2 c2 b Ao co o) ∧ Hid (MI la lb o a b)) (fun s1 s2 _ _ => slLen s1 + slLen s2)
  case atStart => exact ⟨A, c, la, B, d, lb, _, _, [], rfl, rfl, rfl, Lib.hid ⟨(Fr.refl Nob w).alloc _, World.ownsRow_made w cs (la.length + lb.length) (Nat.le_refl _) (by unfold maxLen; omega) HCS.out, HA.out, HB.out, Nat.le_refl _, by simp⟩, HI⟩
  case round =>
    obtain ⟨A1, c1, a, A2, c2, b, Ao, co, o, rfl, rfl, rfl, hw, hi⟩ := hrel
    have hlen := hi.out.len
    clear hmk
    by_cases ha0 : a.length = 0
    · have hI1 : (a.length : Int) ≤ 0 := by omega
      have HD := Lib.hid (hi.out.done (.inl (List.eq_nil_of_length_eq_zero ha0)))
      clear ha0
      go_wp2_with (at_builtin; refine wpList_app rfl _ _ 57 rfl elemPP (base := w.heap.size) (xs := pcl o) (news := (pcl a)) rfl ?own rfl ?src ?one ?h63 ?hby ?hbase ?_)
      case own => exact hw.out.own
      case src => exact hw.out.sa.pure hw.out.fr
      case one => exact pcs_one
      case h63 => unfold maxLen; omega
      case hby => omega
      case hbase => have h1 := hw.out.hb2; simp at h1 ⊢; omega
      intro A3 c3 w2 hown2 hg2 _
      have HW2 := Lib.hid (hw.out.app a hown2 (by simp) hg2)
      clear hown2 hg2
      go_wp2_with (at_builtin; refine wpList_app rfl _ _ 57 rfl elemPP (base := w.heap.size) (xs := pcl (o ++ a)) (news := (pcl b)) rfl ?own rfl ?src ?one ?h63 ?hby ?hbase ?_)
      case own => exact HW2.out.own_len (by simp)
      case src => exact HW2.out.sb.pure HW2.out.fr
      case one => exact pcs_one
      case h63 => unfold maxLen; omega
      case hby => omega
      case hbase => have h1 := HW2.out.hb2; simp at h1 ⊢; omega
      intro A4 c4 w4 hown2 hg2 _
      have HW4 := Lib.hid (HW2.out.app b hown2 (by simp; omega) hg2)
      clear hown2 hg2
      go_wp2_with fail
      go_ret
      rw [← HD.out]
      exact ⟨A4, c4, by simp; omega, Sl.of_own HW4.out.own, HW4.out.fr, fun g off e => ⟨Nat.le_trans HW4.out.hb (own_addr HW4.out.own g off e), own_pb HW4.out.own g off e⟩⟩
    · by_cases hb0 : b.length = 0
      · have hI1 : (0 : Int) < a.length := by omega
        have hI2 : (b.length : Int) ≤ 0 := by omega
        have HD := Lib.hid (hi.out.done (.inr (List.eq_nil_of_length_eq_zero hb0)))
        clear ha0 hb0
        go_wp2_with (at_builtin; refine wpList_app rfl _ _ 57 rfl elemPP (base := w.heap.size) (xs := pcl o) (news := (pcl a)) rfl ?own rfl ?src ?one ?h63 ?hby ?hbase ?_)
        case own => exact hw.out.own
        case src => exact hw.out.sa.pure hw.out.fr
        case one => exact pcs_one
        case h63 => unfold maxLen; omega
        case hby => omega
        case hbase => have h1 := hw.out.hb2; simp at h1 ⊢; omega
        intro A3 c3 w2 hown2 hg2 _
        have HW2 := Lib.hid (hw.out.app a hown2 (by simp) hg2)
        clear hown2 hg2
        go_wp2_with (at_builtin; refine wpList_app rfl _ _ 57 rfl elemPP (base := w.heap.size) (xs := pcl (o ++ a)) (news := (pcl b)) rfl ?own rfl ?src ?one ?h63 ?hby ?hbase ?_)
        case own => exact HW2.out.own_len (by simp)
        case src => exact HW2.out.sb.pure HW2.out.fr
        case one => exact pcs_one
        case h63 => unfold maxLen; omega
        case hby => omega
        case hbase => have h1 := HW2.out.hb2; simp at h1 ⊢; omega
        intro A4 c4 w4 hown2 hg2 _
        have HW4 := Lib.hid (HW2.out.app b hown2 (by simp; omega) hg2)
        clear hown2 hg2
        go_wp2_with fail
        go_ret
        rw [← HD.out]
        exact ⟨A4, c4, by simp; omega, Sl.of_own HW4.out.own, HW4.out.fr, fun g off e => ⟨Nat.le_trans HW4.out.hb (own_addr HW4.out.own g off e), own_pb HW4.out.own g off e⟩⟩
      · obtain ⟨x, a, rfl⟩ : ∃ x a', a = x :: a' := List.exists_cons_of_length_pos (by omega)
        obtain ⟨y, b, rfl⟩ : ∃ y b', b = y :: b' := List.exists_cons_of_length_pos (by omega)
        clear ha0 hb0
        have hcA := run_cut1 A1 a.length c1
        have hcB := run_cut1 A2 b.length c2
        have hle1 := hw.out.sa.le
        have hle2 := hw.out.sb.le
        have hmx1 := hw.out.sa.max
        have hmx2 := hw.out.sb.max
        unfold maxLen at hmx1 hmx2
        simp only [List.length_cons] at hle1 hle2 hlen
        obtain ⟨ba, off, rfl, hba, d0, d1⟩ := pp_cells (hw.out.sa.pure hw.out.fr) (k := 0) (by simp)
        obtain ⟨bb, off2, rfl, hbb, p0, p1⟩ := pp_cells (hw.out.sb.pure hw.out.fr) (k := 0) (by simp)
        simp only [List.getElem_cons_zero, Nat.zero_mul, Nat.add_zero] at d0 d1 p0 p1
        obtain ⟨xn, xv⟩ := x
        obtain ⟨yn, yv⟩ := y
        simp only at d0 d1 p0 p1
        have HO := Lib.hid (fun W => lab_orderF W ⟨xn, xv⟩ ⟨yn, yv⟩)
        have HL := Lib.hid (fun h => hi.out.less ((pord_neg _ _).1 h))
        have HM := Lib.hid (fun h => hi.out.more (pord_pos h))
        have HS := Lib.hid (fun h => hi.out.same' ((pord_zero ⟨xn, xv⟩ ⟨yn, yv⟩).1 h))
        generalize pord ⟨xn, xv⟩ ⟨yn, yv⟩ = r at *
        rcases Int.lt_trichotomy r 0 with hr | hr | hr
        ·
          go_wp2_with fail
          go_region_held3 (fun w' => w'.cell? ⟨ba, off, none⟩ = some (.string xn) ∧ w'.cell? ⟨ba, off + 1, none⟩ = some (.int .i64 xv) ∧ w'.cell? ⟨bb, off2, none⟩ = some (.string yn) ∧ w'.cell? ⟨bb, off2 + 1, none⟩ = some (.int .i64 yv)) (first | go_keep | (go_split_ands; refine ⟨?_, ?_, ?_, ?_⟩ <;> exact Fr.cell hf1 (by assumption) (fun e => e))) (((go_at_call 59); refine (HO.out _).mono ?_; rintro e w1 ⟨rfl, hf1⟩))
          go_split_ands
          have HW1 := Lib.hid (hw.out.pure (((Fr.refl Nob wr).drew).call hf1 (fun _ h _ => h)))
          clear d0 d1 p0 p1 hf1
          go_wp2_with (at_builtin; refine wpList_app rfl _ _ 57 rfl elemPP (base := w.heap.size) (xs := pcl o) (news := (pcs ⟨xn, xv⟩)) rfl ?own rfl ?src ?one ?h63 ?hby ?hbase ?_)
          case own => exact HW1.out.own_al _ rfl
          case src => exact Sl.new1 (Blk.new _ _ _) 2 1 rfl (by decide)
          case one => exact (pcs_one' _)
          case h63 => unfold maxLen; omega
          case hby => omega
          case hbase => have h1 := HW1.out.hb2; simp at h1 ⊢; omega
          intro A3 c3 w2 hown2 hg2 _
          have HW2 := Lib.hid ((HW1.out.pure ((Fr.refl Nob _).alloc _)).app [⟨xn, xv⟩] (by simpa [pcl] using hown2) (by simp) hg2)
          clear hown2 hg2
          go_wp2_with fail
          refine ⟨⟨_, _, a, _, _, ⟨yn, yv⟩ :: b, A3, c3, o ++ [⟨xn, xv⟩], rfl, rfl, by simp, Lib.hid HW2.out.cuta', Lib.hid (HL.out hr)⟩, ?_⟩
          simp [slLen] <;> omega
        · subst hr
          go_wp2_with fail
          go_region_held3 (fun w' => w'.cell? ⟨ba, off, none⟩ = some (.string xn) ∧ w'.cell? ⟨ba, off + 1, none⟩ = some (.int .i64 xv) ∧ w'.cell? ⟨bb, off2, none⟩ = some (.string yn) ∧ w'.cell? ⟨bb, off2 + 1, none⟩ = some (.int .i64 yv)) (first | go_keep | (go_split_ands; refine ⟨?_, ?_, ?_, ?_⟩ <;> exact Fr.cell hf1 (by assumption) (fun e => e))) (((go_at_call 59); refine (HO.out _).mono ?_; rintro e w1 ⟨rfl, hf1⟩))
          go_split_ands
          have HW1 := Lib.hid (hw.out.pure (((Fr.refl Nob wr).drew).call hf1 (fun _ h _ => h)))
          clear d0 d1 p0 p1 hf1
          go_wp2_with (at_builtin; refine wpList_app rfl _ _ 57 rfl elemPP (base := w.heap.size) (xs := pcl o) (news := (pcs ⟨xn, xv⟩)) rfl ?own rfl ?src ?one ?h63 ?hby ?hbase ?_)
          case own => exact HW1.out.own_al _ rfl
          case src => exact Sl.new1 (Blk.new _ _ _) 2 1 rfl (by decide)
          case one => exact (pcs_one' _)
          case h63 => unfold maxLen; omega
          case hby => omega
          case hbase => have h1 := HW1.out.hb2; simp at h1 ⊢; omega
          intro A3 c3 w2 hown2 hg2 _
          have HW2 := Lib.hid ((HW1.out.pure ((Fr.refl Nob _).alloc _)).app [⟨xn, xv⟩] (by simpa [pcl] using hown2) (by simp) hg2)
          clear hown2 hg2
          go_wp2_with fail
          refine ⟨⟨_, _, a, _, _, b, A3, c3, o ++ [⟨xn, xv⟩], rfl, rfl, by simp, Lib.hid HW2.out.cuta'.cutb', Lib.hid (HS.out (by simp))⟩, ?_⟩
          simp [slLen] <;> omega
        ·
          go_wp2_with fail
          go_region_held3 (fun w' => w'.cell? ⟨ba, off, none⟩ = some (.string xn) ∧ w'.cell? ⟨ba, off + 1, none⟩ = some (.int .i64 xv) ∧ w'.cell? ⟨bb, off2, none⟩ = some (.string yn) ∧ w'.cell? ⟨bb, off2 + 1, none⟩ = some (.int .i64 yv)) (first | go_keep | (go_split_ands; refine ⟨?_, ?_, ?_, ?_⟩ <;> exact Fr.cell hf1 (by assumption) (fun e => e))) (((go_at_call 59); refine (HO.out _).mono ?_; rintro e w1 ⟨rfl, hf1⟩))
          go_split_ands
          have HW1 := Lib.hid (hw.out.pure (((Fr.refl Nob wr).drew).call hf1 (fun _ h _ => h)))
          clear d0 d1 p0 p1 hf1
          go_wp2_with (at_builtin; refine wpList_app rfl _ _ 57 rfl elemPP (base := w.heap.size) (xs := pcl o) (news := (pcs ⟨yn, yv⟩)) rfl ?own rfl ?src ?one ?h63 ?hby ?hbase ?_)
          case own => exact HW1.out.own_al _ rfl
          case src => exact Sl.new1 (Blk.new _ _ _) 2 1 rfl (by decide)
          case one => exact (pcs_one' _)
          case h63 => unfold maxLen; omega
          case hby => omega
          case hbase => have h1 := HW1.out.hb2; simp at h1 ⊢; omega
          intro A3 c3 w2 hown2 hg2 _
          have HW2 := Lib.hid ((HW1.out.pure ((Fr.refl Nob _).alloc _)).app [⟨yn, yv⟩] (by simpa [pcl] using hown2) (by simp) hg2)
          clear hown2 hg2
          go_wp2_with fail
          refine ⟨⟨_, _, ⟨xn, xv⟩ :: a, _, _, b, A3, c3, o ++ [⟨yn, yv⟩], rfl, rfl, by simp, Lib.hid HW2.out.cutb', Lib.hid (HM.out hr)⟩, ?_⟩
          simp [slLen] <;> omega
end Go.Proofs.YtoegdmpmagbaiaaGreatDoor

/- label.Union; the reference's lists in plain words; the document's example. -/
namespace Go.Proofs.YtoegdmpmagbaiaaGreatDoor
open Go.RowKit Go.Sort Go.Lib

theorem lof_len (l : List PP) : (lof l).length ≤ l.length := by have := dd_len (msort l); rw [msort_len] at this; exact this
theorem lof_lof (a b : List PP) : lof (lof a ++ lof b) = lof (a ++ b) := lof_eq (lof_asc _) fun x => by rw [lof_mem, List.mem_append, List.mem_append, lof_mem, lof_mem]

theorem putL_mem : ∀ (l : List PP) (p x : PP), x ∈ putL l p ↔ x ∈ l ∨ x = p
  | [], p, x => by simp [putL]
  | y :: r, p, x => by
    have ih := putL_mem r p x
    unfold putL
    split
    · simp only [List.mem_cons, ih, or_assoc]
    · split
      · rename_i h
        rw [ppeq_iff] at h
        subst h
        simp only [List.mem_cons]
        constructor
        · exact .inl
        · rintro (h | rfl)
          · exact h
          · exact .inl rfl
      · simp only [List.mem_cons]
        constructor
        · rintro (h | h)
          · exact .inr h
          · exact .inl h
        · rintro (h | h)
          · exact .inr h
          · exact .inl h
theorem putL_asc : ∀ {l : List PP} (p : PP), Asc l → Asc (putL l p)
  | [], p, _ => by simp [putL, Asc]
  | y :: r, p, h => by
    have h' := List.pairwise_cons.1 h
    unfold putL
    split
    · rename_i ha
      refine List.pairwise_cons.2 ⟨fun z hz => ?_, putL_asc p h'.2⟩
      rcases (putL_mem r p z).1 hz with hz | rfl
      · exact h'.1 z hz
      · exact (paheadB_iff _ _).1 ha
    · split
      · exact h
      · rename_i ha he
        have hlt : plt p y := by
          rcases plt_tri p y with h1 | h1 | h1
          · exact h1
          · exact absurd ((ppeq_iff _ _).2 h1.symm) he
          · exact absurd ((paheadB_iff _ _).2 h1) ha
        refine List.pairwise_cons.2 ⟨fun z hz => ?_, h⟩
        rcases List.mem_cons.1 hz with rfl | hz
        · exact hlt
        · exact plt_trans hlt (h'.1 z hz)
theorem putAll_asc : ∀ (l : List PP) {o : List PP}, Asc o → Asc (putAll o l)
  | [], _, h => h
  | x :: l, _, h => putAll_asc l (putL_asc x h)
theorem putAll_mem : ∀ (l o : List PP) (x : PP), x ∈ putAll o l ↔ x ∈ o ∨ x ∈ l
  | [], o, x => by simp [putAll]
  | y :: l, o, x => by
    show x ∈ putAll (putL o y) l ↔ _
    rw [putAll_mem l, putL_mem, List.mem_cons, or_assoc]
theorem putAll_nil (l : List PP) : putAll [] l = lof l := (lof_eq (putAll_asc l List.Pairwise.nil) fun x => by rw [putAll_mem]; simp).symm
theorem putAll_two (a b : List PP) : putAll (putAll [] a) b = lof (a ++ b) := (lof_eq (putAll_asc b (putAll_asc a List.Pairwise.nil)) fun x => by rw [putAll_mem, putAll_mem]; simp).symm

theorem lab_Of' (w : World) (A : Option Addr) (c : Nat) (l : List PP) (hl : Sl w 2 A l.length c (l.flatMap pcs)) (h63 : l.length ≤ 10000) :
    Calls Tryz.prog 30 #[.slice A l.length c] w fun e w' => Made w w' e (lof l) :=
  (lab_Of w A c l hl h63).mono fun _ _ ⟨A', c', he, hs, hf, _⟩ => ⟨A', c', he, hs, hf⟩

theorem lab_UnionN (w : World) (A : Option Addr) (c : Nat) (a : List PP) (B : Option Addr) (d : Nat) (b : List PP) (ha : Sl w 2 A a.length c (a.flatMap pcs)) (hb : Sl w 2 B b.length d (b.flatMap pcs)) (ha63 : a.length ≤ 10000) (hb63 : b.length ≤ 10000) :
    Calls Tryz.prog 52 #[.slice A a.length c, .slice B b.length d] w fun e w' => MadeP w w' e (lof (a ++ b)) := by
  have HA := Lib.hid ha
  have HB := Lib.hid hb
  clear ha hb
  go_enter Tryz.func52, Tryz.ntmps52
  go_wp2_with fail
  refine (lab_Of' _ A c a HA.out ha63).mono ?_
  rintro e w1 ⟨A1, c1, rfl, hs1, hf1⟩
  have HS1 := Lib.hid hs1
  have HF1 := Lib.hid hf1
  clear hs1 hf1
  go_wp2_with fail
  refine (lab_Of' _ B d b (HB.out.pure HF1.out) hb63).mono ?_
  rintro e w2 ⟨B1, d1, rfl, hs2, hf2⟩
  have HS2 := Lib.hid hs2
  have HF2 := Lib.hid hf2
  clear hs2 hf2
  go_wp2_with fail
  refine (lab_merge w2 A1 c1 (lof a) B1 d1 (lof b) (HS1.out.pure HF2.out) HS2.out (lof_asc a) (lof_asc b) (by have := lof_len a; omega) (by have := lof_len b; omega)).mono ?_
  rintro e w3 ⟨A3, c3, rfl, hs3, hf3, hn3⟩
  have HS3 := Lib.hid hs3
  have HF3 := Lib.hid hf3
  have HN3 := Lib.hid hn3
  clear hs3 hf3 hn3
  go_wp2_with fail
  go_ret
  rw [lof_lof a b] at HS3 ⊢
  exact ⟨A3, c3, rfl, HS3.out, (HF1.out.call HF2.out (fun _ h _ => h)).call HF3.out (fun _ h _ => h), fun g off e => by have h1 := (HN3.out g off e).1; have h2 := HF1.out.size; have h3 := HF2.out.size; exact ⟨by omega, (HN3.out g off e).2⟩⟩
theorem lab_Union (w : World) (A : Option Addr) (c : Nat) (a : List PP) (B : Option Addr) (d : Nat) (b : List PP) (ha : Sl w 2 A a.length c (a.flatMap pcs)) (hb : Sl w 2 B b.length d (b.flatMap pcs)) (ha63 : a.length ≤ 10000) (hb63 : b.length ≤ 10000) :
    Calls Tryz.prog 52 #[.slice A a.length c, .slice B b.length d] w fun e w' => Made w w' e (lof (a ++ b)) :=
  (lab_UnionN w A c a B d b ha hb ha63 hb63).mono fun _ _ ⟨A', c', he, hs, hf, _⟩ => ⟨A', c', he, hs, hf⟩

def sx (l : List UInt8) : ByteArray := ⟨l.toArray⟩
def awl : List PP := [⟨⟨#[97]⟩, 2⟩, ⟨⟨#[98]⟩, 1⟩, ⟨⟨#[97]⟩, 1⟩, ⟨⟨#[97]⟩, 2⟩]
def awo : List PP := [⟨⟨#[97]⟩, 1⟩, ⟨⟨#[97]⟩, 2⟩, ⟨⟨#[98]⟩, 1⟩]
theorem awo_eq : lof awl = awo := by
  refine lof_eq ?_ fun x => ?_
  · simp [Asc, awo, plt]
    decide
  · simp only [awl, awo, List.mem_cons, List.not_mem_nil, or_false]
    constructor
    · rintro (h | h | h)
      · exact .inr (.inr (.inl h))
      · exact .inl h
      · exact .inr (.inl h)
    · rintro (h | h | h | h)
      · exact .inr (.inl h)
      · exact .inr (.inr h)
      · exact .inl h
      · exact .inr (.inl h)
theorem awo_right : rightB awo = true := by
  refine rightB_true fun k hk => ?_
  have : k = 0 ∨ k = 1 ∨ k = 2 := by simp [awo] at hk; omega
  rcases this with rfl | rfl | rfl
  · show okAt awo 0 ⟨⟨#[97]⟩, 1⟩ = true; decide +kernel
  · rw [okAt_succ (by simp [awo]), (paheadB_iff _ _).2 (by simp [awo, plt])]; show (nmOk ⟨#[97]⟩ && true) = true; decide +kernel
  · rw [okAt_succ (by simp [awo]), (paheadB_iff _ _).2 (by simp [awo, plt]; decide)]; show (nmOk ⟨#[98]⟩ && true) = true; decide +kernel

end Go.Proofs.YtoegdmpmagbaiaaGreatDoor
