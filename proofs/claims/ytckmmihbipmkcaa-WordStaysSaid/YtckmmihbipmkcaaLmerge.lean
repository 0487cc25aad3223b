/- Two rows, each in order, as one: the walk. -/
import Derived.Test.YtckmmihbipmkcaaLref2
import Derived.Test.YtckmmihbipmkcaaSl
namespace Go.Proofs.Ytckmmihbipmkcaa
open Go.RowKit Go.Sort Go.Lib

/-- What is made (o), and what is left (a, b), of A and B. -/
structure MI (A B o a b : List PP) : Prop where
  asca : Asc (o ++ a)
  ascb : Asc (o ++ b)
  mem : ∀ x, (x ∈ o ∨ x ∈ a ∨ x ∈ b) ↔ (x ∈ A ∨ x ∈ B)
  len : o.length + a.length + b.length ≤ A.length + B.length
theorem MI.start {A B : List PP} (ha : Asc A) (hb : Asc B) : MI A B [] A B := ⟨by simpa using ha, by simpa using hb, fun x => by simp, by simp⟩
theorem MI.less {A B o a b : List PP} {x y : PP} (h : MI A B o (x :: a) (y :: b)) (hlt : plt x y) : MI A B (o ++ [x]) a (y :: b) := by
  have hb := h.ascb
  have ha := h.asca
  unfold Asc at *
  rw [List.pairwise_append] at ha hb
  refine ⟨by have := h.asca; unfold Asc at this ⊢; simpa using this, ?_, fun z => ?_, by have := h.len; simp at *; omega⟩
  · unfold Asc
    rw [List.append_assoc, List.pairwise_append]
    refine ⟨hb.1, ?_, fun p hp q hq => ?_⟩
    · simp only [List.singleton_append, List.pairwise_cons]
      exact ⟨fun q hq => by
        rcases List.mem_cons.1 hq with rfl | hq
        · exact hlt
        · exact plt_trans hlt ((List.pairwise_cons.1 hb.2.1).1 q hq), List.pairwise_cons.1 hb.2.1⟩
    · simp only [List.singleton_append, List.mem_cons] at hq
      rcases hq with rfl | hq
      · exact ha.2.2 p hp _ (by simp)
      · exact hb.2.2 p hp q (List.mem_cons.2 hq)
  · rw [← h.mem z]; simp only [List.mem_append, List.mem_cons, List.not_mem_nil, or_false, or_assoc]
theorem MI.comm {A B o a b : List PP} (h : MI A B o a b) : MI B A o b a :=
  ⟨h.ascb, h.asca, fun x => by rw [Or.comm (a := x ∈ b), Or.comm (a := x ∈ B)]; exact h.mem x, by have := h.len; omega⟩
theorem MI.more {A B o a b : List PP} {x y : PP} (h : MI A B o (x :: a) (y :: b)) (hlt : plt y x) : MI A B (o ++ [y]) (x :: a) b := (h.comm.less hlt).comm
theorem MI.same {A B o a b : List PP} {x : PP} (h : MI A B o (x :: a) (x :: b)) : MI A B (o ++ [x]) a b := by
  refine ⟨by simpa using h.asca, by simpa using h.ascb, fun z => ?_, by have := h.len; simp at *; omega⟩
  rw [← h.mem z]; simp only [List.mem_append, List.mem_cons, List.not_mem_nil, or_false, or_assoc]
  constructor
  · rintro (h | h | h | h)
    · exact .inl h
    · exact .inr (.inl h)
    · exact .inr (.inr (.inl h))
    · exact .inr (.inr (.inr (.inr h)))
  · rintro (h | h | h | h | h)
    · exact .inl h
    · exact .inr (.inl h)
    · exact .inr (.inr (.inl h))
    · exact .inr (.inl h)
    · exact .inr (.inr (.inr h))
theorem MI.done {A B o a b : List PP} (h : MI A B o a b) (hn : a = [] ∨ b = []) : o ++ a ++ b = lof (A ++ B) := by
  refine (lof_eq ?_ fun x => ?_).symm
  · rcases hn with rfl | rfl
    · simpa using h.ascb
    · simpa using h.asca
  · rw [List.mem_append (s := A), ← h.mem x]; simp

/-- The row that is being made. -/
structure MrgW (w wr : World) (base : Nat) (A1 : Option Addr) (c1 : Nat) (a : List PP) (A2 : Option Addr) (c2 : Nat) (b : List PP) (Ao : Option Addr) (co : Nat) (o : List PP) : Prop where
  fr : Fr Nob w wr
  own : wr.ownsRow base 51 2 (.slice Ao o.length co) o.length (o.flatMap pcs)
  sa : Sl w 2 A1 a.length c1 (a.flatMap pcs)
  sb : Sl w 2 A2 b.length c2 (b.flatMap pcs)
  hb : w.heap.size ≤ base
  hb2 : base ≤ wr.heap.size
section
variable {w wr w1 : World} {base : Nat} {A1 A2 Ao : Option Addr} {c1 c2 co : Nat} {a b o : List PP}
theorem MrgW.pure (h : MrgW w wr base A1 c1 a A2 c2 b Ao co o) (hf : Fr Nob wr w1) : MrgW w w1 base A1 c1 a A2 c2 b Ao co o :=
  ⟨h.fr.call hf (fun _ h _ => h), own_fr h.own hf (fun _ _ _ _ e => e), h.sa, h.sb, h.hb, Nat.le_trans h.hb2 hf.size⟩
theorem MrgW.app {A' : Option Addr} {c' n : Nat} (h : MrgW w wr base A1 c1 a A2 c2 b Ao co o) (l : List PP) (hown : w1.ownsRow base 51 2 (.slice A' n c') n (o.flatMap pcs ++ l.flatMap pcs)) (hn : n = (o ++ l).length) (hg : wr.grownBy w1 (Ao.map (·.block))) : MrgW w w1 base A1 c1 a A2 c2 b A' c' (o ++ l) := by
  subst hn
  refine ⟨h.fr.grown hg (fun k hk hlt => by have := own_base h.own k hk; have := h.hb; omega), by rw [List.flatMap_append]; exact hown, h.sa, h.sb, h.hb, Nat.le_trans h.hb2 hg.size⟩
theorem MrgW.own_al (h : MrgW w wr base A1 c1 a A2 c2 b Ao co o) (ob : Obj) {n : Nat} (hn : n = o.length) : (wr.alloc ob).ownsRow base 51 2 (.slice Ao n co) n (o.flatMap pcs) := by
  subst hn; exact (h.pure ((Fr.refl Nob wr).alloc ob)).own
theorem MrgW.own_len (h : MrgW w wr base A1 c1 a A2 c2 b Ao co o) {n : Nat} (hn : n = o.length) : wr.ownsRow base 51 2 (.slice Ao n co) n (o.flatMap pcs) := by
  subst hn; exact h.own
theorem MrgW.cuta {x : PP} (h : MrgW w wr base A1 c1 (x :: a) A2 c2 b Ao co o) : MrgW w wr base (if c1 = 1 then A1 else A1.map (·.add 2)) (c1 - 1) a A2 c2 b Ao co o :=
  ⟨h.fr, h.own, by have := h.sa.cut (k := 1) (by simp); simpa [pcs] using this, h.sb, h.hb, h.hb2⟩
theorem MrgW.cutb {x : PP} (h : MrgW w wr base A1 c1 a A2 c2 (x :: b) Ao co o) : MrgW w wr base A1 c1 a (if c2 = 1 then A2 else A2.map (·.add 2)) (c2 - 1) b Ao co o :=
  ⟨h.fr, h.own, h.sa, by have := h.sb.cut (k := 1) (by simp); simpa [pcs] using this, h.hb, h.hb2⟩
theorem MrgW.cuta' {ba off : Nat} {x : PP} (h : MrgW w wr base (some ⟨ba, off, none⟩) c1 (x :: a) A2 c2 b Ao co o) : MrgW w wr base (if c1 = 1 then some ⟨ba, off, none⟩ else some ⟨ba, off + 2, none⟩) (c1 - 1) a A2 c2 b Ao co o := by
  have := h.cuta; rwa [Option.map_some, add_addr] at this
theorem MrgW.cutb' {ba off : Nat} {x : PP} (h : MrgW w wr base A1 c1 a (some ⟨ba, off, none⟩) c2 (x :: b) Ao co o) : MrgW w wr base A1 c1 a (if c2 = 1 then some ⟨ba, off, none⟩ else some ⟨ba, off + 2, none⟩) (c2 - 1) b Ao co o := by
  have := h.cutb; rwa [Option.map_some, add_addr] at this
end
theorem pord_pos {x y : PP} (h : 0 < pord x y) : plt y x := by
  rcases plt_tri x y with h1 | h1 | h1
  · have := (pord_neg x y).2 h1; omega
  · have := (pord_zero x y).2 h1; omega
  · exact h1
theorem MI.same' {A B o a b : List PP} {x y : PP} (h : MI A B o (x :: a) (y :: b)) (e : x = y) : MI A B (o ++ [x]) a b := by subst e; exact h.same
def slLen : Value → Nat
  | .slice _ n _ => n
  | _ => 0
theorem run_cut1 (A : Option Addr) (n cap : Nat) (W : World) :
    (Instr.slice 30 (.slice A (n + 1) cap) (some (.int .i64 1)) none none).run Try.prog W = .ok (.slice (if cap = 1 then A else A.map (·.add 2)) n (cap - 1)) W := run_cut elemPP A 1 (by omega) W

def pcl (l : List PP) : List Value := l.flatMap pcs
/-- Made, in new memory. -/
def MadeN (w w' : World) (e : Ending) (l : List PP) : Prop := ∃ A' c', e = .returned (.slice A' l.length c') ∧ Sl w' 2 A' l.length c' (l.flatMap pcs) ∧ Fr Nob w w' ∧ (∀ g off, A' = some ⟨g, off, none⟩ → w.heap.size ≤ g)
def MadeP (w w' : World) (e : Ending) (l : List PP) : Prop := ∃ A' c', e = .returned (.slice A' l.length c') ∧ Sl w' 2 A' l.length c' (l.flatMap pcs) ∧ Fr Nob w w' ∧ (∀ g off, A' = some ⟨g, off, none⟩ → w.heap.size ≤ g ∧ Pb w' g)
theorem pcs_one' (x : PP) : ∀ u ∈ pcs x, u.oneCell' = true := by intro u hu; simp [pcs] at hu; rcases hu with rfl | rfl <;> rfl
set_option maxRecDepth 100000 in
set_option maxHeartbeats 4000000 in
theorem lab_merge (w : World) (A : Option Addr) (c : Nat) (la : List PP) (B : Option Addr) (d : Nat) (lb : List PP) (ha : Sl w 2 A la.length c (la.flatMap pcs)) (hb : Sl w 2 B lb.length d (lb.flatMap pcs)) (asca : Asc la) (ascb : Asc lb) (ha63 : la.length ≤ 10000) (hb63 : lb.length ≤ 10000) :
    Calls Try.prog 39 #[.slice A la.length c, .slice B lb.length d, .func (.func 40) #[] #[]] w fun e w' => MadeP w w' e (lof (la ++ lb)) := by
  have HA := Lib.hid ha
  have HB := Lib.hid hb
  have HI := Lib.hid (MI.start asca ascb)
  clear ha hb asca ascb
  obtain ⟨cs, hcs, hmk⟩ := run_mk elemPP (la.length + lb.length) ((la.length : Int) + lb.length) (by omega) (by omega) (by unfold maxLen; omega)
  have HCS := Lib.hid hcs
  clear hcs
  go_enter Try.func39, Try.ntmps39
  go_wp2_with fail
  go_loopw [0, 1, 7] (fun s1 s2 so wr => ∃ (A1 : Option Addr) (c1 : Nat) (a : List PP) (A2 : Option Addr) (c2 : Nat) (b : List PP) (Ao : Option Addr) (co : Nat) (o : List PP), s1 = .slice A1 a.length c1 ∧ s2 = .slice A2 b.length c2 ∧ so = .slice Ao o.length co ∧ Hid (MrgW w wr w.heap.size A1 c1 a A2 c2 b Ao co o) ∧ Hid (MI la lb o a b)) (fun s1 s2 _ _ => slLen s1 + slLen s2)
  case atStart => exact ⟨A, c, la, B, d, lb, _, _, [], rfl, rfl, rfl, Lib.hid ⟨(Fr.refl Nob w).alloc _, World.ownsRow_made w cs (la.length + lb.length) (Nat.le_refl _) (by unfold maxLen; omega) HCS.out, HA.out, HB.out, Nat.le_refl _, by simp⟩, HI⟩
  case round =>
    obtain ⟨A1, c1, a, A2, c2, b, Ao, co, o, rfl, rfl, rfl, hw, hi⟩ := hrel
    have hlen := hi.out.len
    clear hmk
    by_cases ha0 : a.length = 0
    · have hI1 : (a.length : Int) ≤ 0 := by omega
      have HD := Lib.hid (hi.out.done (.inl (List.eq_nil_of_length_eq_zero ha0)))
      clear ha0
      go_wp2_with (at_builtin; refine wpList_app rfl _ _ 30 rfl elemPP (base := w.heap.size) (xs := pcl o) (news := (pcl a)) rfl ?own rfl ?src ?one ?h63 ?hby ?hbase ?_)
      case own => exact hw.out.own
      case src => exact hw.out.sa.pure hw.out.fr
      case one => exact pcs_one
      case h63 => unfold maxLen; omega
      case hby => omega
      case hbase => have h1 := hw.out.hb2; simp at h1 ⊢; omega
      intro A3 c3 w2 hown2 hg2 _
      have HW2 := Lib.hid (hw.out.app a hown2 (by simp) hg2)
      clear hown2 hg2
      go_wp2_with (at_builtin; refine wpList_app rfl _ _ 30 rfl elemPP (base := w.heap.size) (xs := pcl (o ++ a)) (news := (pcl b)) rfl ?own rfl ?src ?one ?h63 ?hby ?hbase ?_)
      case own => exact HW2.out.own_len (by simp)
      case src => exact HW2.out.sb.pure HW2.out.fr
      case one => exact pcs_one
      case h63 => unfold maxLen; omega
      case hby => omega
      case hbase => have h1 := HW2.out.hb2; simp at h1 ⊢; omega
      intro A4 c4 w4 hown2 hg2 _
      have HW4 := Lib.hid (HW2.out.app b hown2 (by simp; omega) hg2)
      clear hown2 hg2
      go_wp2_with fail
      go_ret
      rw [← HD.out]
      exact ⟨A4, c4, by simp; omega, Sl.of_own HW4.out.own, HW4.out.fr, fun g off e => ⟨Nat.le_trans HW4.out.hb (own_addr HW4.out.own g off e), own_pb HW4.out.own g off e⟩⟩
    · by_cases hb0 : b.length = 0
      · have hI1 : (0 : Int) < a.length := by omega
        have hI2 : (b.length : Int) ≤ 0 := by omega
        have HD := Lib.hid (hi.out.done (.inr (List.eq_nil_of_length_eq_zero hb0)))
        clear ha0 hb0
        go_wp2_with (at_builtin; refine wpList_app rfl _ _ 30 rfl elemPP (base := w.heap.size) (xs := pcl o) (news := (pcl a)) rfl ?own rfl ?src ?one ?h63 ?hby ?hbase ?_)
        case own => exact hw.out.own
        case src => exact hw.out.sa.pure hw.out.fr
        case one => exact pcs_one
        case h63 => unfold maxLen; omega
        case hby => omega
        case hbase => have h1 := hw.out.hb2; simp at h1 ⊢; omega
        intro A3 c3 w2 hown2 hg2 _
        have HW2 := Lib.hid (hw.out.app a hown2 (by simp) hg2)
        clear hown2 hg2
        go_wp2_with (at_builtin; refine wpList_app rfl _ _ 30 rfl elemPP (base := w.heap.size) (xs := pcl (o ++ a)) (news := (pcl b)) rfl ?own rfl ?src ?one ?h63 ?hby ?hbase ?_)
        case own => exact HW2.out.own_len (by simp)
        case src => exact HW2.out.sb.pure HW2.out.fr
        case one => exact pcs_one
        case h63 => unfold maxLen; omega
        case hby => omega
        case hbase => have h1 := HW2.out.hb2; simp at h1 ⊢; omega
        intro A4 c4 w4 hown2 hg2 _
        have HW4 := Lib.hid (HW2.out.app b hown2 (by simp; omega) hg2)
        clear hown2 hg2
        go_wp2_with fail
        go_ret
        rw [← HD.out]
        exact ⟨A4, c4, by simp; omega, Sl.of_own HW4.out.own, HW4.out.fr, fun g off e => ⟨Nat.le_trans HW4.out.hb (own_addr HW4.out.own g off e), own_pb HW4.out.own g off e⟩⟩
      · obtain ⟨x, a, rfl⟩ : ∃ x a', a = x :: a' := List.exists_cons_of_length_pos (by omega)
        obtain ⟨y, b, rfl⟩ : ∃ y b', b = y :: b' := List.exists_cons_of_length_pos (by omega)
        clear ha0 hb0
        have hcA := run_cut1 A1 a.length c1
        have hcB := run_cut1 A2 b.length c2
        have hle1 := hw.out.sa.le
        have hle2 := hw.out.sb.le
        have hmx1 := hw.out.sa.max
        have hmx2 := hw.out.sb.max
        unfold maxLen at hmx1 hmx2
        simp only [List.length_cons] at hle1 hle2 hlen
        obtain ⟨ba, off, rfl, hba, d0, d1⟩ := pp_cells (hw.out.sa.pure hw.out.fr) (k := 0) (by simp)
        obtain ⟨bb, off2, rfl, hbb, p0, p1⟩ := pp_cells (hw.out.sb.pure hw.out.fr) (k := 0) (by simp)
        simp only [List.getElem_cons_zero, Nat.zero_mul, Nat.add_zero] at d0 d1 p0 p1
        obtain ⟨xn, xv⟩ := x
        obtain ⟨yn, yv⟩ := y
        simp only at d0 d1 p0 p1
        have HO := Lib.hid (fun W => lab_orderF W ⟨xn, xv⟩ ⟨yn, yv⟩)
        have HL := Lib.hid (fun h => hi.out.less ((pord_neg _ _).1 h))
        have HM := Lib.hid (fun h => hi.out.more (pord_pos h))
        have HS := Lib.hid (fun h => hi.out.same' ((pord_zero ⟨xn, xv⟩ ⟨yn, yv⟩).1 h))
        generalize pord ⟨xn, xv⟩ ⟨yn, yv⟩ = r at *
        rcases Int.lt_trichotomy r 0 with hr | hr | hr
        ·
          go_wp2_with fail
          go_region_held3 (fun w' => w'.cell? ⟨ba, off, none⟩ = some (.string xn) ∧ w'.cell? ⟨ba, off + 1, none⟩ = some (.int .i64 xv) ∧ w'.cell? ⟨bb, off2, none⟩ = some (.string yn) ∧ w'.cell? ⟨bb, off2 + 1, none⟩ = some (.int .i64 yv)) (first | go_keep | (go_split_ands; refine ⟨?_, ?_, ?_, ?_⟩ <;> exact Fr.cell hf1 (by assumption) (fun e => e))) (((go_at_call 40); refine (HO.out _).mono ?_; rintro e w1 ⟨rfl, hf1⟩))
          go_split_ands
          have HW1 := Lib.hid (hw.out.pure (((Fr.refl Nob wr).drew).call hf1 (fun _ h _ => h)))
          clear d0 d1 p0 p1 hf1
          go_wp2_with (at_builtin; refine wpList_app rfl _ _ 30 rfl elemPP (base := w.heap.size) (xs := pcl o) (news := (pcs ⟨xn, xv⟩)) rfl ?own rfl ?src ?one ?h63 ?hby ?hbase ?_)
          case own => exact HW1.out.own_al _ rfl
          case src => exact Sl.new1 (Blk.new _ _ _) 2 1 rfl (by decide)
          case one => exact (pcs_one' _)
          case h63 => unfold maxLen; omega
          case hby => omega
          case hbase => have h1 := HW1.out.hb2; simp at h1 ⊢; omega
          intro A3 c3 w2 hown2 hg2 _
          have HW2 := Lib.hid ((HW1.out.pure ((Fr.refl Nob _).alloc _)).app [⟨xn, xv⟩] (by simpa [pcl] using hown2) (by simp) hg2)
          clear hown2 hg2
          go_wp2_with fail
          refine ⟨⟨_, _, a, _, _, ⟨yn, yv⟩ :: b, A3, c3, o ++ [⟨xn, xv⟩], rfl, rfl, by simp, Lib.hid HW2.out.cuta', Lib.hid (HL.out hr)⟩, ?_⟩
          simp [slLen] <;> omega
        · subst hr
          go_wp2_with fail
          go_region_held3 (fun w' => w'.cell? ⟨ba, off, none⟩ = some (.string xn) ∧ w'.cell? ⟨ba, off + 1, none⟩ = some (.int .i64 xv) ∧ w'.cell? ⟨bb, off2, none⟩ = some (.string yn) ∧ w'.cell? ⟨bb, off2 + 1, none⟩ = some (.int .i64 yv)) (first | go_keep | (go_split_ands; refine ⟨?_, ?_, ?_, ?_⟩ <;> exact Fr.cell hf1 (by assumption) (fun e => e))) (((go_at_call 40); refine (HO.out _).mono ?_; rintro e w1 ⟨rfl, hf1⟩))
          go_split_ands
          have HW1 := Lib.hid (hw.out.pure (((Fr.refl Nob wr).drew).call hf1 (fun _ h _ => h)))
          clear d0 d1 p0 p1 hf1
          go_wp2_with (at_builtin; refine wpList_app rfl _ _ 30 rfl elemPP (base := w.heap.size) (xs := pcl o) (news := (pcs ⟨xn, xv⟩)) rfl ?own rfl ?src ?one ?h63 ?hby ?hbase ?_)
          case own => exact HW1.out.own_al _ rfl
          case src => exact Sl.new1 (Blk.new _ _ _) 2 1 rfl (by decide)
          case one => exact (pcs_one' _)
          case h63 => unfold maxLen; omega
          case hby => omega
          case hbase => have h1 := HW1.out.hb2; simp at h1 ⊢; omega
          intro A3 c3 w2 hown2 hg2 _
          have HW2 := Lib.hid ((HW1.out.pure ((Fr.refl Nob _).alloc _)).app [⟨xn, xv⟩] (by simpa [pcl] using hown2) (by simp) hg2)
          clear hown2 hg2
          go_wp2_with fail
          refine ⟨⟨_, _, a, _, _, b, A3, c3, o ++ [⟨xn, xv⟩], rfl, rfl, by simp, Lib.hid HW2.out.cuta'.cutb', Lib.hid (HS.out (by simp))⟩, ?_⟩
          simp [slLen] <;> omega
        ·
          go_wp2_with fail
          go_region_held3 (fun w' => w'.cell? ⟨ba, off, none⟩ = some (.string xn) ∧ w'.cell? ⟨ba, off + 1, none⟩ = some (.int .i64 xv) ∧ w'.cell? ⟨bb, off2, none⟩ = some (.string yn) ∧ w'.cell? ⟨bb, off2 + 1, none⟩ = some (.int .i64 yv)) (first | go_keep | (go_split_ands; refine ⟨?_, ?_, ?_, ?_⟩ <;> exact Fr.cell hf1 (by assumption) (fun e => e))) (((go_at_call 40); refine (HO.out _).mono ?_; rintro e w1 ⟨rfl, hf1⟩))
          go_split_ands
          have HW1 := Lib.hid (hw.out.pure (((Fr.refl Nob wr).drew).call hf1 (fun _ h _ => h)))
          clear d0 d1 p0 p1 hf1
          go_wp2_with (at_builtin; refine wpList_app rfl _ _ 30 rfl elemPP (base := w.heap.size) (xs := pcl o) (news := (pcs ⟨yn, yv⟩)) rfl ?own rfl ?src ?one ?h63 ?hby ?hbase ?_)
          case own => exact HW1.out.own_al _ rfl
          case src => exact Sl.new1 (Blk.new _ _ _) 2 1 rfl (by decide)
          case one => exact (pcs_one' _)
          case h63 => unfold maxLen; omega
          case hby => omega
          case hbase => have h1 := HW1.out.hb2; simp at h1 ⊢; omega
          intro A3 c3 w2 hown2 hg2 _
          have HW2 := Lib.hid ((HW1.out.pure ((Fr.refl Nob _).alloc _)).app [⟨yn, yv⟩] (by simpa [pcl] using hown2) (by simp) hg2)
          clear hown2 hg2
          go_wp2_with fail
          refine ⟨⟨_, _, ⟨xn, xv⟩ :: a, _, _, b, A3, c3, o ++ [⟨yn, yv⟩], rfl, rfl, by simp, Lib.hid HW2.out.cutb', Lib.hid (HM.out hr)⟩, ?_⟩
          simp [slLen] <;> omega
end Go.Proofs.Ytckmmihbipmkcaa
