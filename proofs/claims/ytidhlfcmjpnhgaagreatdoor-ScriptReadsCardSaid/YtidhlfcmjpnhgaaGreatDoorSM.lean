/- The reference's propositions in order: put, of, union; right, same; few. -/
import Derived.Test.YtidhlfcmjpnhgaaGreatDoorSC
namespace Go.Proofs.YtidhlfcmjpnhgaaGreatDoor
open Go.RowKit Go.Sort Go.Lib

def putL : List PP → PP → List PP
  | [], p => [p]
  | x :: r, p => if paheadB x p = true then x :: putL r p else if ppeq x p = true then x :: r else p :: x :: r
def restL (b : Bool) (r : List PP) (p : PP) : List PP := if b then r else putL r p
theorem putL_len : ∀ (l : List PP) (p : PP), (putL l p).length ≤ l.length + 1
  | [], _ => by simp [putL]
  | x :: r, p => by
    have := putL_len r p
    unfold putL
    split
    · simp; omega
    · split <;> simp
theorem drop_cons {l : List PP} {k : Nat} (hk : k < l.length) : l.drop k = l[k] :: l.drop (k + 1) := List.drop_eq_getElem_cons hk
theorem put_done {l o m : List PP} {p : PP} {k : Nat} (hk : k < l.length) (h : o ++ restL true (l.drop k) p = m) : (o ++ [l[k]]) ++ restL true (l.drop (k + 1)) p = m := by
  rw [← h, drop_cons hk]; simp [restL]
theorem put_ahead {l o m : List PP} {p : PP} {k : Nat} (hk : k < l.length) (h : o ++ restL false (l.drop k) p = m) (ha : paheadB l[k] p = true) : (o ++ [l[k]]) ++ restL false (l.drop (k + 1)) p = m := by
  rw [← h, drop_cons hk]; simp [restL, putL, ha]
theorem put_eq {l o m : List PP} {p : PP} {k : Nat} (hk : k < l.length) (h : o ++ restL false (l.drop k) p = m) (ha : paheadB l[k] p = false) (he : ppeq l[k] p = true) : (o ++ [l[k]]) ++ restL true (l.drop (k + 1)) p = m := by
  rw [← h, drop_cons hk]; simp [restL, putL, ha, he]
theorem put_new {l o m : List PP} {p : PP} {k : Nat} (hk : k < l.length) (h : o ++ restL false (l.drop k) p = m) (ha : paheadB l[k] p = false) (he : ppeq l[k] p = false) : ((o ++ [p]) ++ [l[k]]) ++ restL true (l.drop (k + 1)) p = m := by
  rw [← h, drop_cons hk]; simp [restL, putL, ha, he]
theorem flat1 (o : List PP) (x : PP) : o.flatMap pcs ++ pcs x = (o ++ [x]).flatMap pcs := by simp

/-- The row that is being made. -/
structure PutW (w wr : World) (A : Option Addr) (c : Nat) (o : List PP) (p : PP) : Prop where
  fr : Fr Nob w wr
  own : wr.ownsRow (w.heap.size + 1) 41 2 (.slice A o.length c) o.length (o.flatMap pcs)
  box : Blk wr w.heap.size 41 #[.string p.name, .int .i64 p.value]
section
variable {w wr w1 : World} {A : Option Addr} {c : Nat} {o : List PP} {p : PP}
theorem PutW.pure (h : PutW w wr A c o p) (hf : Fr Nob wr w1) : PutW w w1 A c o p := ⟨h.fr.call hf (fun _ h _ => h), own_fr h.own hf (fun _ _ _ _ e => e), h.box.fr hf (fun e => e)⟩
theorem PutW.app {A' : Option Addr} {c' : Nat} (h : PutW w wr A c o p) (x : PP) (hown : w1.ownsRow (w.heap.size + 1) 41 2 (.slice A' (o.length + 1) c') (o.length + 1) (o.flatMap pcs ++ pcs x)) (hg : wr.grownBy w1 (A.map (·.block))) : PutW w w1 A' c' (o ++ [x]) p := by
  refine ⟨h.fr.grown hg (fun k hk hlt => by have := own_base h.own k hk; omega), ?_, h.box.grown hg (fun e => by have := own_base h.own _ e; omega)⟩
  rw [flat1] at hown
  simpa using hown
theorem PutW.own_al (h : PutW w wr A c o p) (ob : Obj) {n : Nat} (hn : n = o.length) : (wr.alloc ob).ownsRow (w.heap.size + 1) 41 2 (.slice A n c) n (o.flatMap pcs) := by
  subst hn; exact (h.pure ((Fr.refl Nob wr).alloc ob)).own
end

set_option maxRecDepth 100000 in
set_option maxHeartbeats 4000000 in
theorem ref_Put (w : World) (A : Option Addr) (c : Nat) (l : List PP) (p : PP) (hl : Sl w 2 A l.length c (l.flatMap pcs)) (h63 : l.length ≤ 10000) :
    Calls Tryz.prog 86 #[.slice A l.length c, .agg #[.string p.name, .int .i64 p.value]] w fun e w' => ∃ A' c', e = .returned (.slice A' (putL l p).length c') ∧ Sl w' 2 A' (putL l p).length c' ((putL l p).flatMap pcs) ∧ Fr Nob w w' ∧ (∀ g off, A' = some ⟨g, off, none⟩ → w.heap.size ≤ g) := by
  have HL := Lib.hid hl
  have hle := hl.le
  have hmx := hl.max
  unfold maxLen at hmx
  clear hl
  have HM := Lib.hid (show ∃ m, putL l p = m from ⟨_, rfl⟩)
  obtain ⟨pn, pv⟩ := p
  have hn : ∀ (xn yn : ByteArray) (xv yv : Int) (w : World), Sem.run Tryz.prog (binOp .neq 41 (.agg #[.string xn, .int .i64 xv]) (.agg #[.string yn, .int .i64 yv])) w = .ok (.bool (!ppeq ⟨xn, xv⟩ ⟨yn, yv⟩)) w := fun xn yn xv yv w => pp_neq ⟨xn, xv⟩ ⟨yn, yv⟩ w
  have hg : ∀ (op : BinOp) (a b : Operand) (xn yn : ByteArray) (xv yv : Int) (w : World), Sem.run Tryz.prog (eqGuard op 41 a b (.agg #[.string xn, .int .i64 xv]) (.agg #[.string yn, .int .i64 yv])) w = .ok () w := fun op a b xn yn xv yv w => pp_guard op a b ⟨xn, xv⟩ ⟨yn, yv⟩ w
  go_enter Tryz.func86, Tryz.ntmps86
  go_wp2_with fail
  go_loopw [5, 6, 7] (fun sv dn i wr => ∃ (k : Nat) (A' : Option Addr) (c' : Nat) (o : List PP) (b : Bool), k ≤ l.length ∧ o.length ≤ k + b.toNat ∧ i = .int .i64 k ∧ dn = .bool b ∧ sv = .slice A' o.length c' ∧ Hid (PutW w wr A' c' o ⟨pn, pv⟩) ∧ Hid (o ++ restL b (l.drop k) ⟨pn, pv⟩ = putL l ⟨pn, pv⟩)) (fun _ _ i _ => l.length - (intOf i).toNat)
  case atStart => exact ⟨0, none, 0, [], false, Nat.zero_le _, by simp, rfl, rfl, rfl, Lib.hid ⟨(Fr.refl Nob w).alloc _, ⟨rfl, .inl ⟨rfl, rfl⟩⟩, Blk.new _ _ _⟩, Lib.hid rfl⟩
  case round =>
    obtain ⟨k, A', c', o, b, hk, hko, rfl, rfl, rfl, hp, hinv⟩ := hrel
    have hb0 := hp.out.box.cell 0
    have hb1 := hp.out.box.cell 1
    have hko1 : o.length ≤ k + 1 := by have := b.toNat_le; omega
    by_cases hlt : k < l.length
    · have hI : (k : Int) < l.length := by omega
      have hI3 : 0 ≤ (k : Int) := by omega
      have HC := Lib.hid (fun W (h : Fr Nob w W) => pp_cells (HL.out.pure h) hlt)
      obtain ⟨ba, off, rfl, hba, d0, d1⟩ := HC.out wr hp.out.fr
      have H1 := Lib.hid (fun (h : b = true) => put_done (p := ⟨pn, pv⟩) (o := o) hlt (h ▸ hinv.out))
      have H2 := Lib.hid (fun (h : b = false) => put_ahead (p := ⟨pn, pv⟩) (o := o) hlt (h ▸ hinv.out))
      have H3 := Lib.hid (fun (h : b = false) => put_eq (p := ⟨pn, pv⟩) (o := o) hlt (h ▸ hinv.out))
      have H4 := Lib.hid (fun (h : b = false) => put_new (p := ⟨pn, pv⟩) (o := o) hlt (h ▸ hinv.out))
      generalize l[k] = x at *
      obtain ⟨xn, xv⟩ := x
      simp only at d0 d1 HC
      have HA := Lib.hid (fun W => ref_Ahead W ⟨xn, xv⟩ ⟨pn, pv⟩)
      generalize paheadB ⟨xn, xv⟩ ⟨pn, pv⟩ = a at *
      generalize hpe : ppeq ⟨xn, xv⟩ ⟨pn, pv⟩ = pe at H3 H4
      cases b
      · simp only [Bool.toNat_false, Nat.add_zero] at hko
        cases a
        · go_wp2_with fail
          go_region_held3 (fun w' => w'.cell? ⟨w.heap.size, 0, none⟩ = some (.string pn) ∧ w'.cell? ⟨w.heap.size, 1, none⟩ = some (.int .i64 pv) ∧ w'.cell? ⟨ba, off + k * 2, none⟩ = some (.string xn) ∧ w'.cell? ⟨ba, off + k * 2 + 1, none⟩ = some (.int .i64 xv)) (first | go_keep | (go_split_ands; refine ⟨?_, ?_, ?_, ?_⟩ <;> exact Fr.cell hf1 (by assumption) (fun e => e))) (((go_at_call 114); refine (HA.out _).mono ?_; rintro e w1 ⟨rfl, hf1⟩))
          go_split_ands
          have HP1 := Lib.hid (hp.out.pure (((Fr.refl Nob wr).drew).call hf1 (fun _ h _ => h)))
          clear hb0 hb1 d0 d1 hf1
          cases pe
          · go_wp2_with fail
            go_quiet (fail)
            have HP2 := Lib.hid (HP1.out.pure ((Fr.refl Nob w1).drewN nq))
            go_wp2_with (at_builtin; refine wpList_app rfl _ _ 37 rfl elemPP (base := w.heap.size + 1) (xs := o.flatMap pcs) (news := pcs ⟨pn, pv⟩) rfl ?own rfl ?src ?one ?h63 ?hby ?hbase ?_)
            case own => exact HP2.out.own_al _ (by simp)
            case src => exact Sl.new1 (Blk.new _ _ _) 2 1 rfl (by decide)
            case one => exact (by intro u hu; simp [pcs] at hu; rcases hu with rfl | rfl <;> rfl)
            case h63 => unfold maxLen; omega
            case hby => omega
            case hbase => have h1 := HP2.out.fr.size; have h2 := HP2.out.box.lt; simp at h1 h2 ⊢; omega
            intro A2 c2 w2 hown2 hg2 _
            have HP3 := Lib.hid ((HP2.out.pure ((Fr.refl Nob _).alloc _)).app ⟨pn, pv⟩ hown2 hg2)
            clear hown2 hg2
            obtain ⟨bb, oo, hA, hba2, d0, d1⟩ := HC.out w2 HP3.out.fr
            cases hA
            go_wp2_with (at_builtin; refine wpList_app rfl _ _ 37 rfl elemPP (base := w.heap.size + 1) (xs := (o ++ [(⟨pn, pv⟩ : PP)]).flatMap pcs) (news := pcs ⟨xn, xv⟩) rfl ?own rfl ?src ?one ?h63 ?hby ?hbase ?_)
            case own => exact HP3.out.own_al _ (by simp)
            case src => exact Sl.new1 (Blk.new _ _ _) 2 1 rfl (by decide)
            case one => exact (by intro u hu; simp [pcs] at hu; rcases hu with rfl | rfl <;> rfl)
            case h63 => unfold maxLen; omega
            case hby => omega
            case hbase => have h1 := HP3.out.fr.size; have h2 := HP3.out.box.lt; simp at h1 h2 ⊢; omega
            intro A3 c3 w3 hown3 hg3 _
            have HP4 := Lib.hid ((HP3.out.pure ((Fr.refl Nob _).alloc _)).app ⟨xn, xv⟩ (by simpa using hown3) hg3)
            clear hown3 hg3
            go_wp2_with fail
            go_roundw
            case rel => exact ⟨k + 1, A3, c3, o ++ [⟨pn, pv⟩] ++ [⟨xn, xv⟩], true, by omega, by simp <;> omega, by go_num, rfl, by simp, HP4, Lib.hid (H4.out trivial trivial trivial)⟩
            case measure => simp [intOf]; omega
          · go_wp2_with fail
            go_quiet (fail)
            have HP2 := Lib.hid (HP1.out.pure ((Fr.refl Nob w1).drewN nq))
            go_wp2_with (at_builtin; refine wpList_app rfl _ _ 37 rfl elemPP (base := w.heap.size + 1) (xs := o.flatMap pcs) (news := pcs ⟨xn, xv⟩) rfl ?own rfl ?src ?one ?h63 ?hby ?hbase ?_)
            case own => exact HP2.out.own_al _ (by simp)
            case src => exact Sl.new1 (Blk.new _ _ _) 2 1 rfl (by decide)
            case one => exact (by intro u hu; simp [pcs] at hu; rcases hu with rfl | rfl <;> rfl)
            case h63 => unfold maxLen; omega
            case hby => omega
            case hbase => have h1 := HP2.out.fr.size; have h2 := HP2.out.box.lt; simp at h1 h2 ⊢; omega
            intro A2 c2 w2 hown2 hg2 _
            have HP3 := Lib.hid ((HP2.out.pure ((Fr.refl Nob _).alloc _)).app ⟨xn, xv⟩ hown2 hg2)
            clear hown2 hg2
            go_wp2_with fail
            go_roundw
            case rel => exact ⟨k + 1, A2, c2, o ++ [⟨xn, xv⟩], true, by omega, by simp <;> omega, by go_num, rfl, by simp, HP3, Lib.hid (H3.out trivial trivial trivial)⟩
            case measure => simp [intOf]; omega
        · go_wp2_with fail
          go_region_held3 (fun w' => w'.cell? ⟨w.heap.size, 0, none⟩ = some (.string pn) ∧ w'.cell? ⟨w.heap.size, 1, none⟩ = some (.int .i64 pv) ∧ w'.cell? ⟨ba, off + k * 2, none⟩ = some (.string xn) ∧ w'.cell? ⟨ba, off + k * 2 + 1, none⟩ = some (.int .i64 xv)) (first | go_keep | (go_split_ands; refine ⟨?_, ?_, ?_, ?_⟩ <;> exact Fr.cell hf1 (by assumption) (fun e => e))) (((go_at_call 114); refine (HA.out _).mono ?_; rintro e w1 ⟨rfl, hf1⟩))
          go_split_ands
          have HP2 := Lib.hid (hp.out.pure (((Fr.refl Nob wr).drew).call hf1 (fun _ h _ => h)))
          clear hb0 hb1 d0 d1 hf1
          go_wp2_with (at_builtin; refine wpList_app rfl _ _ 37 rfl elemPP (base := w.heap.size + 1) (xs := o.flatMap pcs) (news := pcs ⟨xn, xv⟩) rfl ?own rfl ?src ?one ?h63 ?hby ?hbase ?_)
          case own => exact HP2.out.own_al _ (by simp)
          case src => exact Sl.new1 (Blk.new _ _ _) 2 1 rfl (by decide)
          case one => exact (by intro u hu; simp [pcs] at hu; rcases hu with rfl | rfl <;> rfl)
          case h63 => unfold maxLen; omega
          case hby => omega
          case hbase => have h1 := HP2.out.fr.size; have h2 := HP2.out.box.lt; simp at h1 h2 ⊢; omega
          intro A2 c2 w2 hown2 hg2 _
          have HP3 := Lib.hid ((HP2.out.pure ((Fr.refl Nob _).alloc _)).app ⟨xn, xv⟩ hown2 hg2)
          clear hown2 hg2
          go_wp2_with fail
          go_roundw
          case rel => exact ⟨k + 1, A2, c2, o ++ [⟨xn, xv⟩], false, by omega, by simp <;> omega, by go_num, rfl, by simp, HP3, Lib.hid (H2.out trivial trivial)⟩
          case measure => simp [intOf]; omega
      · go_wp2_with fail
        go_quiet (fail)
        have HP2 := Lib.hid (hp.out.pure ((Fr.refl Nob wr).drewN nq))
        go_wp2_with (at_builtin; refine wpList_app rfl _ _ 37 rfl elemPP (base := w.heap.size + 1) (xs := o.flatMap pcs) (news := pcs ⟨xn, xv⟩) rfl ?own rfl ?src ?one ?h63 ?hby ?hbase ?_)
        case own => exact HP2.out.own_al _ (by simp)
        case src => exact Sl.new1 (Blk.new _ _ _) 2 1 rfl (by decide)
        case one => exact (by intro u hu; simp [pcs] at hu; rcases hu with rfl | rfl <;> rfl)
        case h63 => unfold maxLen; omega
        case hby => omega
        case hbase => have h1 := HP2.out.fr.size; have h2 := HP2.out.box.lt; simp at h1 h2 ⊢; omega
        intro A2 c2 w2 hown2 hg2 _
        have HP3 := Lib.hid ((HP2.out.pure ((Fr.refl Nob _).alloc _)).app ⟨xn, xv⟩ hown2 hg2)
        clear hown2 hg2
        go_wp2_with fail
        go_roundw
        case rel => exact ⟨k + 1, A2, c2, o ++ [⟨xn, xv⟩], true, by omega, by simp <;> omega, by go_num, rfl, by simp, HP3, Lib.hid (H1.out trivial)⟩
        case measure => simp [intOf]; omega
    · have hkk : k = l.length := by omega
      have HD := Lib.hid (show l.drop k = [] from List.drop_eq_nil_of_le (by omega))
      rw [HD.out] at hinv
      clear hn hg
      cases b
      · have HE := Lib.hid (show putL l ⟨pn, pv⟩ = o ++ [⟨pn, pv⟩] by rw [← hinv.out]; rfl)
        clear hinv
        go_wp2_with (at_builtin; refine wpList_app rfl _ _ 37 rfl elemPP (base := w.heap.size + 1) (xs := o.flatMap pcs) (news := pcs ⟨pn, pv⟩) rfl ?own rfl ?src ?one ?h63 ?hby ?hbase ?_)
        case own => exact hp.out.own_al _ (by simp)
        case src => exact Sl.new1 (Blk.new _ _ _) 2 1 rfl (by decide)
        case one => exact (by intro u hu; simp [pcs] at hu; rcases hu with rfl | rfl <;> rfl)
        case h63 => unfold maxLen; omega
        case hby => omega
        case hbase => have h1 := hp.out.fr.size; have h2 := hp.out.box.lt; simp at h1 h2 ⊢; omega
        intro A2 c2 w2 hown2 hg2 _
        have HP3 := Lib.hid ((hp.out.pure ((Fr.refl Nob _).alloc _)).app ⟨pn, pv⟩ hown2 hg2)
        clear hown2 hg2
        go_wp2_with fail
        go_ret
        rw [HE.out]
        exact ⟨A2, c2, by simp, Sl.of_own HP3.out.own, HP3.out.fr, fun g off e => by have := own_addr HP3.out.own g off e; omega⟩
      · have HE := Lib.hid (show putL l ⟨pn, pv⟩ = o by rw [← hinv.out]; simp [restL])
        clear hinv
        go_wp2_with fail
        go_ret
        rw [HE.out]
        exact ⟨A', c', by simp, Sl.of_own hp.out.own, hp.out.fr, fun g off e => by have := own_addr hp.out.own g off e; omega⟩

def putAll (o : List PP) (l : List PP) : List PP := l.foldl putL o
theorem putAll_snoc {o l : List PP} {k : Nat} (hk : k < l.length) : putAll o (l.take (k + 1)) = putL (putAll o (l.take k)) l[k] := by
  unfold putAll
  rw [List.take_succ_eq_append_getElem hk, List.foldl_append]; rfl
theorem putAll_len : ∀ (l o : List PP), (putAll o l).length ≤ o.length + l.length
  | [], o => by simp [putAll]
  | x :: l, o => by
    have h1 := putAll_len l (putL o x)
    have h2 := putL_len o x
    show (putAll (putL o x) l).length ≤ _
    simp; omega
/-- A slice of this call's making. -/
def Made (w w' : World) (e : Ending) (l : List PP) : Prop := ∃ A' c', e = .returned (.slice A' l.length c') ∧ Sl w' 2 A' l.length c' (l.flatMap pcs) ∧ Fr Nob w w'

theorem ref_Of (w : World) (A : Option Addr) (c : Nat) (l : List PP) (hl : Sl w 2 A l.length c (l.flatMap pcs)) (h63 : l.length ≤ 9000) :
    Calls Tryz.prog 68 #[.slice A l.length c] w fun e w' => Made w w' e (putAll [] l) := by
  have HL := Lib.hid hl
  have hle := hl.le
  have hmx := hl.max
  unfold maxLen at hmx
  clear hl
  go_enter Tryz.func68, Tryz.ntmps68
  go_wp2_with fail
  go_loopw [3, 4] (fun sv i wr => ∃ (k : Nat) (A' : Option Addr) (c' : Nat), k ≤ l.length ∧ i = .int .i64 k ∧ sv = .slice A' (putAll [] (l.take k)).length c' ∧ Hid (Fr Nob w wr) ∧ Hid (Sl wr 2 A' (putAll [] (l.take k)).length c' ((putAll [] (l.take k)).flatMap pcs))) (fun _ i _ => l.length - (intOf i).toNat)
  case atStart => exact ⟨0, none, 0, Nat.zero_le _, rfl, rfl, Lib.hid (Fr.refl Nob w), Lib.hid (Sl.none_ _ _)⟩
  case round =>
    obtain ⟨k, A', c', hk, rfl, rfl, hf, hs⟩ := hrel
    by_cases hlt : k < l.length
    · have hI : (k : Int) < l.length := by omega
      have hI3 : 0 ≤ (k : Int) := by omega
      obtain ⟨ba, off, rfl, hba, d0, d1⟩ := pp_cells (HL.out.pure hf.out) hlt
      have HS := Lib.hid (putAll_snoc (o := ([] : List PP)) hlt)
      have hlen := putAll_len (l.take k) ([] : List PP)
      rw [List.length_take_of_le (by omega)] at hlen
      have hlen2 := hlen
      generalize putAll ([] : List PP) (l.take k) = o at *
      generalize l[k] = x at *
      obtain ⟨xn, xv⟩ := x
      simp only at d0 d1
      have HP := Lib.hid (ref_Put wr A' c' o ⟨xn, xv⟩ hs.out (by (try simp only [List.length_nil, Nat.zero_add] at hlen); omega))
      go_wp2_with fail
      refine HP.out.mono ?_
      rintro e w1 ⟨A2, c2, rfl, hs2, hf2, ho2⟩
      have HS2 := Lib.hid hs2
      have HF2 := Lib.hid (hf.out.call hf2 (fun _ h _ => h))
      clear hs2 hf2 ho2
      go_wp2_with fail
      go_roundw
      case rel => exact ⟨k + 1, A2, c2, by omega, by go_num, by rw [HS.out], HF2, by rw [HS.out]; exact HS2⟩
      case measure => simp [intOf]; omega
    · have hkk : k = l.length := by omega
      have HE := Lib.hid (show putAll ([] : List PP) (l.take k) = putAll ([] : List PP) l by rw [List.take_of_length_le (by omega)])
      rw [HE.out] at hs ⊢
      go_wp2_with fail
      go_ret
      exact ⟨A', c', rfl, hs.out, hf.out⟩
end Go.Proofs.YtidhlfcmjpnhgaaGreatDoor

/- The reference's right, same; few: walks. -/
namespace Go.Proofs.YtidhlfcmjpnhgaaGreatDoor
open Go.RowKit Go.Sort Go.Lib

set_option maxHeartbeats 4000000 in
theorem lref_Right (w : World) (A : Option Addr) (c : Nat) (l : List PP) (hl : Sl w 2 A l.length c (l.flatMap pcs)) (hsz : ∀ p ∈ l, p.name.size ≤ 9223372036854775807) :
    Calls Tryz.prog 87 #[.slice A l.length c] w fun e w' => e = .returned (.bool (rightB l)) ∧ Fr Nob w w' := by
  have HL := Lib.hid hl
  have HZ := Lib.hid hsz
  have hle := hl.le
  have hmx := hl.max
  unfold maxLen at hmx
  clear hl hsz
  go_enter Tryz.func87, Tryz.ntmps87
  go_wp2_with fail
  go_loopw [3] (fun i wl => ∃ k : Nat, k ≤ l.length ∧ i = .int .i64 k ∧ Hid (Fr Nob w wl) ∧ Hid (∀ j, (hj : j < l.length) → j < k → okAt l j (l[j]) = true)) (fun i _ => l.length - (intOf i).toNat)
  case atStart => exact ⟨0, Nat.zero_le _, rfl, Lib.hid (Fr.refl Nob w), Lib.hid (fun j _ hj => absurd hj (by omega))⟩
  case round =>
    obtain ⟨k, hk, rfl, hfr, hall⟩ := hrel
    by_cases hlt : k < l.length
    · have hI : (k : Int) < l.length := by omega
      have hI3 : 0 ≤ (k : Int) := by omega
      have HF := Lib.hid (fun h => rightB_false hlt h)
      have HT := Lib.hid (fun (h : okAt l k l[k] = true) => show ∀ j, (hj : j < l.length) → j < k + 1 → okAt l j (l[j]) = true from fun j hj hjk => by
        rcases Nat.lt_succ_iff_lt_or_eq.1 hjk with h' | h'
        · exact hall.out j hj h'
        · subst h'; exact h)
      have HS := Lib.hid (HZ.out l[k] (List.getElem_mem hlt))
      have HX := hfr
      cases k with
      | zero =>
        obtain ⟨ba, off, rfl, hba, d0, d1⟩ := pp_cells (HL.out.pure hfr.out) hlt
        rw [okAt_zero] at HF HT
        generalize l[0] = x at *
        obtain ⟨xn, xv⟩ := x
        simp only [Nat.zero_mul, Nat.add_zero, Nat.zero_add] at d0 d1 HF HT HS
        have HN := Lib.hid (fun W => ref_Name W xn HS.out)
        generalize nmOk xn = nb at *
        cases nb
        all_goals
          go_wp2_with fail
          go_quiet ((go_at_call 67; exact Calls.quiet_of_same ((HN.out _).mono fun _ _ ⟨h1, h2⟩ => ⟨h1, h2.symm⟩)))
          all_goals go_wp2_with fail
        · have HR := Lib.hid (HF.out (by simp))
          go_ret
          exact ⟨ret1b HR.out.symm, hfr.out.drewN _⟩
        · go_roundw
          case rel => exact ⟨1, by omega, by go_num, Lib.hid (hfr.out.drewN _), Lib.hid (HT.out (by simp))⟩
          case measure => simp [intOf]; omega
      | succ k =>
        obtain ⟨ba, off, rfl, hba, d0, d1⟩ := pp_cells (HL.out.pure hfr.out) hlt
        obtain ⟨ba2, off2, he, _, p0, p1⟩ := pp_cells (HL.out.pure hfr.out) (k := k) (by omega)
        cases he
        rw [okAt_succ (by omega)] at HF HT
        have HX : Hid (Fr Nob w wr) := hfr
        generalize l[k + 1] = x at *
        generalize l[k] = y at *
        obtain ⟨xn, xv⟩ := x
        obtain ⟨yn, yv⟩ := y
        simp only at d0 d1 p0 p1 HF HT HS
        have HN := Lib.hid (fun W => ref_Name W xn HS.out)
        have HO := Lib.hid (fun W => ref_Ahead W ⟨yn, yv⟩ ⟨xn, xv⟩)
        have hk0 : (0 : Int) ≤ (k : Int) := by omega
        have hk1 : (k : Int) < l.length := by omega
        have hk2 : (k : Int) < c := by omega
        have hk3 : (k : Int) + 1 < l.length := by omega
        have hk4 : (0 : Int) ≤ (k : Int) + 1 := by omega
        have e1 : IntKind.i64.wrap (k : Int) = (k : Int) := IntWalk.i64_in _ (by omega)
        have e2 : IntKind.i64.wrap ((k : Int) + 1 - 1) = (k : Int) := by rw [show (k : Int) + 1 - 1 = (k : Int) by omega]; exact e1
        generalize nmOk xn = nb at *
        cases nb
        · go_wp2_with fail
          go_quiet ((go_at_call 67; exact Calls.quiet_of_same ((HN.out _).mono fun _ _ ⟨h1, h2⟩ => ⟨h1, h2.symm⟩)))
          all_goals go_wp2_with fail
          have HR := Lib.hid (HF.out (by simp))
          go_ret
          exact ⟨ret1b HR.out.symm, hfr.out.drewN _⟩
        · simp only [Bool.true_and] at HF HT
          generalize paheadB ⟨yn, yv⟩ ⟨xn, xv⟩ = r at *
          cases r
          rotate_left
          all_goals
            go_wp2_with fail
            go_region_held3 (fun w' => w'.cell? ⟨ba, off + (k + 1) * 2, none⟩ = some (.string xn) ∧ w'.cell? ⟨ba, off + (k + 1) * 2 + 1, none⟩ = some (.int .i64 xv) ∧ w'.cell? ⟨ba, off + k * 2, none⟩ = some (.string yn) ∧ w'.cell? ⟨ba, off + k * 2 + 1, none⟩ = some (.int .i64 yv)) (first | go_keep | (go_split_ands; refine ⟨?_, ?_, ?_, ?_⟩ <;> exact Fr.cell hf1 (by assumption) (fun e => e))) (first | ((go_at_call 67); refine (HN.out _).mono ?_; rintro e w1 ⟨rfl, rfl⟩) | ((go_at_call 114); refine (HO.out _).mono ?_; rintro e w1 ⟨rfl, hf1⟩))
            all_goals go_wp2_with fail
          · go_roundw
            case rel => exact ⟨k + 1 + 1, by omega, by go_num, Lib.hid (hfr.out.drew.call hf1 (fun _ h _ => h)), Lib.hid (HT.out (by simp))⟩
            case measure => simp [intOf]; omega
          · have HR := Lib.hid (HF.out (by simp))
            go_ret
            exact ⟨ret1b HR.out.symm, hfr.out.drew.call hf1 (fun _ h _ => h)⟩
    · have HR := Lib.hid (rightB_true (l := l) (fun k' hk' => hall.out k' hk' (by omega)))
      go_wp2_with fail
      go_ret
      exact ⟨ret1b HR.out.symm, hfr.out⟩

def sameB (a b : List PP) : Bool := decide (a = b)
theorem same_ne_at {a b : List PP} {k : Nat} (hl : a.length = b.length) (hk : k < a.length) (h : ppeq a[k] (b[k]'(hl ▸ hk)) = false) : sameB a b = false := by
  unfold sameB
  rw [decide_eq_false_iff_not]
  rintro rfl
  rw [(ppeq_iff _ _).2 rfl] at h; cases h
theorem same_len {a b : List PP} (hl : a.length ≠ b.length) : sameB a b = false := by
  unfold sameB
  rw [decide_eq_false_iff_not]
  rintro rfl; exact hl rfl
theorem same_all {a b : List PP} (hl : a.length = b.length) (h : ∀ k, (hk : k < a.length) → ppeq a[k] (b[k]'(hl ▸ hk)) = true) : sameB a b = true := by
  unfold sameB
  rw [decide_eq_true_iff]
  exact List.ext_getElem hl fun i h1 h2 => (ppeq_iff _ _).1 (h i h1)

def fewB (l : List PP) : Bool := l.all (fun p => decide (p.name.size ≤ 40)) && decide (l.length ≤ 40)
theorem few_no {l : List PP} {k : Nat} (hk : k < l.length) (h : 40 < l[k].name.size) : fewB l = false := by
  unfold fewB
  rw [Bool.and_eq_false_iff]
  left
  rw [List.all_eq_false]
  exact ⟨l[k], List.getElem_mem hk, by simp; omega⟩
theorem few_all {l : List PP} (h : ∀ k, (hk : k < l.length) → l[k].name.size ≤ 40) : fewB l = decide (l.length ≤ 40) := by
  unfold fewB
  have : l.all (fun p => decide (p.name.size ≤ 40)) = true := by
    rw [List.all_eq_true]
    intro x hx
    obtain ⟨i, hi, rfl⟩ := List.getElem_of_mem hx
    simpa using h i hi
  rw [this, Bool.true_and]
theorem few_len {l : List PP} (h : fewB l = true) : l.length ≤ 40 := by
  unfold fewB at h
  rw [Bool.and_eq_true, decide_eq_true_iff] at h
  exact h.2
end Go.Proofs.YtidhlfcmjpnhgaaGreatDoor
