/- slices.Compact at propositions: the walk. -/
import Derived.Test.YtoegdmpmagbaiaaGreatDoorKM
namespace Go.Proofs.YtoegdmpmagbaiaaGreatDoor
open Go.RowKit Go.Sort Go.Shelf Go.Lib

theorem Heads.cell0 {w : World} {b t : Nat} {cur : Array Value} {l : List PP} (h : Blk w b t cur) (hh : Heads cur l) {k : Nat} (hk : k < l.length) :
    w.cell? ⟨b, k * 2, none⟩ = some (.string l[k].name) ∧ w.cell? ⟨b, k * 2 + 1, none⟩ = some (.int .i64 l[k].value) := by
  have := Heads.cells h hh hk
  rwa [Nat.zero_add] at this
def dd (l : List PP) : List PP := compactUpTo l.toArray l.length
def CompW (w : World) (b t : Nat) (n : Nat) (l : List PP) (m kk : Nat) (wr : World) : Prop :=
  ∃ (dk : List PP) (cur : Array Value), CompInv l.toArray m kk dk.toArray ∧ dk.length = l.length ∧ Blk wr b t cur ∧ cur.size = n ∧ Heads cur dk ∧ Fr (Only b) w wr

theorem keeps_eq (l : List PP) (k : Nat) (hlt : k + 1 < l.length) : keeps l.toArray (k + 1) = !ppeq l[k + 1] l[k] := by
  have e1 : l.toArray[k + 1]! = l[k + 1] := by rw [getElem!_pos l.toArray (k + 1) (by simpa using hlt)]; rfl
  have e0 : l.toArray[k]! = l[k] := by rw [getElem!_pos l.toArray k (by simp; omega)]; rfl
  unfold keeps
  rw [Nat.add_sub_cancel, e1, e0]
  by_cases h : l[k + 1] = l[k]
  · have h3 := (ppeq_iff _ _).2 h
    rw [h3]; simp [h]
  · have h3 : ppeq l[k + 1] l[k] = false := by rw [← Bool.not_eq_true, ppeq_iff]; exact h
    rw [h3]; simp [h]
theorem CompInv_high {l dk : List PP} {m kk i : Nat} (h : CompInv l.toArray m kk dk.toArray) (hd : dk.length = l.length) (hi : i < l.length) (hk : kk ≤ i) : dk[i]'(by omega) = l[i] := by
  have := h.high i hk
  rw [getElem!_pos dk.toArray i (by simp; omega), getElem!_pos l.toArray i (by simpa using hi)] at this
  simpa using this
theorem CompInv_take {l dk : List PP} {kk : Nat} (h : CompInv l.toArray l.length kk dk.toArray) (hd : dk.length = l.length) : dd l = dk.take kk := by
  have hk := h.lt
  apply List.ext_getElem?
  intro j
  by_cases hj : j < kk
  · have := h.low j hj
    rw [getElem!_pos dk.toArray j (by simp; omega)] at this
    unfold dd
    rw [this, List.getElem?_take_of_lt hj, List.getElem?_eq_getElem (by omega)]
    rfl
  · rw [List.getElem?_eq_none (by unfold dd; rw [h.len]; omega), List.getElem?_eq_none (by simp; omega)]
theorem Heads.less {cur cur' : Array Value} {dk : List PP} {kk : Nat} (h : Heads cur dk) (hk : kk ≤ dk.length) (he : ∀ i, i < kk * 2 → cur'[i]? = cur[i]?) : Heads cur' (dk.take kk) := by
  unfold Heads
  apply List.ext_getElem?
  intro i
  by_cases hi : i < kk * 2
  · rw [List.getElem?_take_of_lt (by simp; omega), Array.getElem?_toList, he i hi, h.get (by omega)]
    have h1 := flat_get pcs 2 pcs_len dk (i / 2) (i % 2) (by omega) (by omega)
    have h2 := flat_get pcs 2 pcs_len (dk.take kk) (i / 2) (i % 2) (by simp; omega) (by omega)
    rw [show i / 2 * 2 + i % 2 = i by omega] at h1 h2
    rw [h1, h2, List.getElem_take]
  · rw [List.getElem?_eq_none (by simp; omega), List.getElem?_eq_none (by rw [flat_len pcs 2 pcs_len]; simp; omega)]
theorem keeps_next {l : List PP} {k : Nat} (hall : ∀ j, j < k + 1 → keeps l.toArray j = true) (h : keeps l.toArray (k + 1) = true) : ∀ j, j < k + 1 + 1 → keeps l.toArray j = true := by
  intro j hj
  rcases Nat.lt_succ_iff_lt_or_eq.1 hj with h' | h'
  · exact hall j h'
  · subst h'; exact h

set_option maxHeartbeats 2000000 in
theorem lab_Compact (w : World) (b t cap : Nat) (cur : Array Value) (l : List PP) (h : Blk w b t cur) (hh : Heads cur l) (hc : l.length * 2 ≤ cur.size) (h63 : l.length ≤ 10000) (hcap : l.length ≤ cap) (hmx : cap ≤ 9223372036854775807) :
    Calls Tryz.prog 62 #[.slice (some ⟨b, 0, none⟩) l.length cap] w fun e w' => e = .returned (.slice (some ⟨b, 0, none⟩) (dd l).length cap) ∧ Fr (Only b) w w' ∧ ∃ cur', Blk w' b t cur' ∧ cur'.size = cur.size ∧ Heads cur' (dd l) := by
  have HB := Lib.hid h
  have HH := Lib.hid hh
  have HC := Lib.hid hc
  clear h hh hc
  have hq : ∀ (xn yn : ByteArray) (xv yv : Int) (w : World), Sem.run Tryz.prog (binOp .eql 91 (.agg #[.string xn, .int .i64 xv]) (.agg #[.string yn, .int .i64 yv])) w = .ok (.bool (ppeq ⟨xn, xv⟩ ⟨yn, yv⟩)) w := fun xn yn xv yv w => pp_eql ⟨xn, xv⟩ ⟨yn, yv⟩ w
  have hn : ∀ (xn yn : ByteArray) (xv yv : Int) (w : World), Sem.run Tryz.prog (binOp .neq 91 (.agg #[.string xn, .int .i64 xv]) (.agg #[.string yn, .int .i64 yv])) w = .ok (.bool (!ppeq ⟨xn, xv⟩ ⟨yn, yv⟩)) w := fun xn yn xv yv w => pp_neq ⟨xn, xv⟩ ⟨yn, yv⟩ w
  have hg : ∀ (op : BinOp) (a b : Operand) (xn yn : ByteArray) (xv yv : Int) (w : World), Sem.run Tryz.prog (eqGuard op 91 a b (.agg #[.string xn, .int .i64 xv]) (.agg #[.string yn, .int .i64 yv])) w = .ok () w := fun op a b xn yn xv yv w => pp_guard op a b ⟨xn, xv⟩ ⟨yn, yv⟩ w
  by_cases h2 : l.length < 2
  · have h2I : (l.length : Int) < 2 := by omega
    have HD := Lib.hid (show dd l = l from compact_all l (fun j hj => keeps_lt_one _ j (by omega)))
    go_enter Tryz.func62, Tryz.ntmps62
    go_wp2_with fail
    go_ret
    rw [HD.out]
    exact ⟨rfl, Fr.refl _ _, cur, HB.out, rfl, HH.out⟩
  · have h2I : ¬ (l.length : Int) < 2 := by omega
    go_enter Tryz.func62, Tryz.ntmps62
    go_wp2_with fail
    go_loopw [3] (fun s wr => ∃ k : Nat, k + 1 ≤ l.length ∧ s = .int .i64 ((k : Int) + 1) ∧ Hid (Blk wr b t cur) ∧ Hid (Fr Nob w wr) ∧ Hid (∀ j, j < k + 1 → keeps l.toArray j = true)) (fun s _ => l.length - (intOf s).toNat)
    case atStart => exact ⟨0, by omega, rfl, HB, Lib.hid (Fr.refl _ _), Lib.hid (keeps_lt_one _)⟩
    case round =>
      obtain ⟨k, hk, rfl, hb, hf, hall⟩ := hrel
      by_cases hlt : k + 1 < l.length
      · have hI : (k : Int) + 1 < l.length := by omega
        have hI1 : (k : Int) < l.length := by omega
        have hI2 : 0 ≤ (k : Int) := by omega
        obtain ⟨c0, c1⟩ := Heads.cell0 hb.out HH.out hlt
        obtain ⟨p0, p1⟩ := Heads.cell0 hb.out HH.out (k := k) (by omega)
        have hfz := hb.out.frozen
        have HX := Lib.hid (show keeps l.toArray (k + 1) = !ppeq l[k + 1] l[k] from keeps_eq l k hlt)
        generalize l[k + 1] = x at *
        generalize l[k] = y at *
        obtain ⟨xn, xv⟩ := x
        obtain ⟨yn, yv⟩ := y
        simp only at c0 c1 p0 p1
        generalize hpe : ppeq ⟨xn, xv⟩ ⟨yn, yv⟩ = pe at HX
        cases pe
        · go_wp2_with fail
          go_quiet (fail)
          go_wp2_with fail
          go_roundw
          case rel => exact ⟨k + 1, by omega, by go_num, Lib.hid (hb.out.drewN _), Lib.hid (hf.out.drewN _), Lib.hid (keeps_next hall.out HX.out)⟩
          case measure => simp [intOf]; omega
        · go_wp2_with fail
          go_quiet (fail)
          go_wp2_with fail
          clear c0 c1 p0 p1 hpe
          obtain ⟨wo, hwo⟩ : ∃ wo : World, wo = wr := ⟨_, rfl⟩
          clear hwo
          go_loopw [3, 5] (fun s v wl => ∃ j kk : Nat, k + 1 + (j + 1) ≤ l.length ∧ s = .int .i64 kk ∧ v = .int .i64 ((j : Int) + 1) ∧ kk < k + 1 + (j + 1) ∧ Hid (CompW w b t cur.size l (k + 1 + (j + 1)) kk wl)) (fun _ v _ => l.length - (intOf v).toNat)
          case atStart => exact ⟨0, k + 1, by omega, by go_num, by go_num, by omega, Lib.hid ⟨l, cur, CompInv.start hall.out (by rw [HX.out]; rfl), rfl, hb.out.drewN _, rfl, HH.out, (hf.out.drewN _).mono (fun _ _ h => h.elim)⟩⟩
          case round =>
            obtain ⟨j, kk, hjl, rfl, rfl, hkk, hcw⟩ := hrel
            obtain ⟨dk, cur2, hci, hdl, hb2, hcs, hh2, hf2⟩ := hcw.out
            have HI := Lib.hid hci
            have HB2 := Lib.hid hb2
            have HH2 := Lib.hid hh2
            have HF2 := Lib.hid hf2
            have hfz2 := hb2.frozen
            clear hfz
            by_cases hlt2 : k + 1 + (j + 1) < l.length
            · obtain ⟨c0, c1⟩ := Heads.cell0 hb2 hh2 (k := k + 1 + (j + 1)) (by omega)
              obtain ⟨p0, p1⟩ := Heads.cell0 hb2 hh2 (k := k + 1 + j) (by omega)
              obtain ⟨q0, q1⟩ := Heads.cell0 hb2 hh2 (k := kk) (by omega)
              rw [Nat.add_mul (k + 1) (j + 1) 2] at c0 c1
              rw [Nat.add_mul (k + 1) j 2] at p0 p1
              have e1 : dk[k + 1 + (j + 1)]'(by omega) = l[k + 1 + (j + 1)] := CompInv_high hci hdl hlt2 (by omega)
              have e0 : dk[k + 1 + j]'(by omega) = l[k + 1 + j] := CompInv_high hci hdl (by omega) (by omega)
              rw [e1] at c0 c1
              rw [e0] at p0 p1
              have HK := Lib.hid (show keeps l.toArray (k + 1 + (j + 1)) = !ppeq l[k + 1 + (j + 1)] l[k + 1 + j] from keeps_eq l (k + 1 + j) (by omega))
              have HV := Lib.hid (show l.toArray[k + 1 + (j + 1)]! = l[k + 1 + (j + 1)] by rw [getElem!_pos l.toArray _ (by simpa using hlt2)]; rfl)
              clear hci hb2 hh2 hf2 e0 e1
              generalize l[k + 1 + (j + 1)] = x at *
              generalize l[k + 1 + j] = y at *
              obtain ⟨xn, xv⟩ := x
              obtain ⟨yn, yv⟩ := y
              simp only at c0 c1 p0 p1
              have hI3 : (k : Int) + 1 + (j + 1) < l.length := by omega
              have hI4 : 0 ≤ (j : Int) := by omega
              have hI5 : (kk : Int) < l.length := by omega
              generalize hpe : ppeq ⟨xn, xv⟩ ⟨yn, yv⟩ = pe at HK
              cases pe
              · go_wp2_with fail
                go_quiet (fail)
                go_wp2_with fail
                have HS := Lib.hid (show CompInv l.toArray (k + 1 + (j + 1) + 1) (kk + 1) (dk.set kk ⟨xn, xv⟩).toArray by
                  have := HI.out.keep (by simpa using hlt2) (by rw [HK.out]; rfl)
                  rw [HV.out, List.setIfInBounds_toArray] at this
                  exact this)
                go_roundw
                case rel => exact ⟨j + 1, kk + 1, by omega, by go_num, by go_num, by omega, Lib.hid ⟨dk.set kk ⟨xn, xv⟩, _, HS.out, by simp; exact hdl, ((HB2.out.drewN _).set _ _).set _ _, by simp; exact hcs, Heads.put HH2.out (by have := HC.out; omega) (by omega) ⟨xn, xv⟩, ((HF2.out.drewN _).setCell (p := ⟨b, _, none⟩) (fun _ => rfl) _).setCell (p := ⟨b, _, none⟩) (fun _ => rfl) _⟩⟩
                case measure => simp [intOf]; omega
              · go_wp2_with fail
                go_quiet (fail)
                go_wp2_with fail
                go_roundw
                case rel => exact ⟨j + 1, kk, by omega, rfl, by go_num, by omega, Lib.hid ⟨dk, cur2, HI.out.skip (by rw [HK.out]; rfl), hdl, HB2.out.drewN _, hcs, HH2.out, HF2.out.drewN _⟩⟩
                case measure => simp [intOf]; omega
            · obtain ⟨Z, hcl⟩ := clear_PP (c := cap - kk) (m := l.length - kk) (o := kk) hb2 (by have := HC.out; omega) (by omega)
              have hm : k + 1 + (j + 1) = l.length := by omega
              have hI5 : (kk : Int) < l.length := by omega
              have hI6 : (kk : Int) ≤ l.length := by omega
              have hI7 : 0 ≤ (kk : Int) := by omega
              have HD := Lib.hid (show dd l = dk.take kk from CompInv_take (by rw [← hm]; exact hci) hdl)
              have HM := Lib.hid hm
              obtain ⟨cur3, b3, s3, g3, f3⟩ := Blk.setCells Z (kk * 2) wr cur2 hb2
              have HB3 := Lib.hid b3
              have HG3 := Lib.hid g3
              have HF3 := Lib.hid f3
              clear hci hb2 hh2 hf2 hm b3 g3 f3
              have HL2 := Lib.hid (show kk = (dd l).length by rw [HD.out, List.length_take]; omega)
              go_wp2_with fail
              go_ret
              refine ⟨by rw [← HL2.out]; rfl, HF2.out.call HF3.out (fun _ e _ => e), cur3, HB3.out, s3.trans hcs, ?_⟩
              rw [HD.out]
              exact Heads.less HH2.out (by omega) HG3.out
      · have hkk : k + 1 = l.length := by omega
        have hkI : (k : Int) + 1 = l.length := by omega
        have HD := Lib.hid (show dd l = l from compact_all l (by rw [← hkk]; exact hall.out))
        go_wp2_with fail
        go_ret
        rw [HD.out]
        exact ⟨rfl, hf.out.mono (fun _ _ h => h.elim), cur, hb.out, rfl, HH.out⟩
end Go.Proofs.YtoegdmpmagbaiaaGreatDoor

/- label.Of: the propositions sorted, each once. -/
namespace Go.Proofs.YtoegdmpmagbaiaaGreatDoor
open Go.RowKit Go.Sort Go.Shelf Go.Lib

/-- A plain block. -/
def Pb (w : World) (b : Nat) : Prop := ∃ t cs, Blk w b t cs
section
variable {w w' : World} {b : Nat}
theorem Pb.lt (h : Pb w b) : b < w.heap.size := let ⟨_, _, h⟩ := h; h.lt
theorem Pb.fr {S : Nat → Prop} (h : Pb w b) (hf : Fr S w w') (hb : ¬ S b) : Pb w' b := let ⟨t, cs, h⟩ := h; ⟨t, cs, h.fr hf hb⟩
theorem Pb.set (h : Pb w b) (g i : Nat) (v : Value) : Pb (w.setCell ⟨g, i, none⟩ v) b := by
  obtain ⟨t, cs, h⟩ := h
  by_cases e : b = g
  · subst e; exact ⟨t, _, h.set i v⟩
  · exact ⟨t, cs, h.far (p := ⟨g, i, none⟩) e v⟩
theorem Pb.alloc (h : Pb w b) (o : Obj) : Pb (w.alloc o) b := let ⟨t, cs, h⟩ := h; ⟨t, cs, h.alloc o⟩
theorem Pb.free (h : Pb w b) (i : Nat) : w.frozen? ⟨b, i, none⟩ = false := let ⟨_, _, h⟩ := h; h.frozen i
theorem own_pb {base e size n c : Nat} {A : Option Addr} {xs : List Value} (h : w.ownsRow base e size (.slice A n c) n xs) : ∀ g off, A = some ⟨g, off, none⟩ → Pb w g := fun g off e => by
  subst e
  rcases h.2 with ⟨hv, _⟩ | ⟨g', cap, cur, hv, _, hcur, _⟩
  · simp at hv
  · simp only [Value.slice.injEq, Option.some.injEq, Addr.mk.injEq, and_true] at hv
    obtain ⟨⟨rfl, _⟩, _⟩ := hv
    exact ⟨_, cur, hcur⟩
end
theorem lab_Compact_nil (w : World) : Calls Tryz.prog 62 #[.slice none 0 0] w fun e w' => e = .returned (.slice none 0 0) ∧ w = w' := by
  go_enter Tryz.func62, Tryz.ntmps62
  go_wp2_with fail
  go_ret
  exact ⟨rfl, rfl⟩
theorem lab_sort_nil (w : World) (fv : Value) : Calls Tryz.prog 61 #[.slice none 0 0, fv] w fun e w' => e = .returned (.tuple #[]) ∧ w' = w := by
  have := AnyF.slices_SortFunc_none { Tryz.sortPP with } none 0 fv w
  exact this

theorem dd_len (l : List PP) : (dd l).length ≤ l.length := by
  unfold dd compactUpTo
  rw [List.length_map]
  exact Nat.le_trans (List.length_filter_le _ _) (by simp)
def lof (l : List PP) : List PP := dd (msort l)
theorem lof_nil : lof [] = [] := by unfold lof msort dd; simp [compactUpTo]

theorem lab_Of (w : World) (A : Option Addr) (c : Nat) (l : List PP) (hl : Sl w 2 A l.length c (l.flatMap pcs)) (h63 : l.length ≤ 10000) :
    Calls Tryz.prog 30 #[.slice A l.length c] w fun e w' => ∃ A' c', e = .returned (.slice A' (lof l).length c') ∧ Sl w' 2 A' (lof l).length c' ((lof l).flatMap pcs) ∧ Fr Nob w w' ∧ (∀ g off, A' = some ⟨g, off, none⟩ → w.heap.size ≤ g ∧ Pb w' g) := by
  have HL := Lib.hid hl
  clear hl
  go_enter Tryz.func30, Tryz.ntmps30
  go_wp2_with fail
  refine (lab_Clone _ A c l HL.out h63).mono ?_
  rintro e w1 ⟨A1, c1, rfl, hown, hf1⟩
  have HF1 := Lib.hid hf1
  clear hf1
  rcases hown.2 with ⟨hv, h0⟩ | ⟨g, cap, cur, hv, hge, hcur, hle, hmx, hcs, htake⟩
  · simp only [Value.slice.injEq] at hv
    obtain ⟨rfl, _, rfl⟩ := hv
    have h0' : l = [] := List.eq_nil_of_length_eq_zero h0
    subst h0'
    clear hown h0
    go_wp2_with fail
    refine (lab_sort_nil _ _).mono ?_
    rintro e w2 ⟨rfl, rfl⟩
    go_wp2_with fail
    refine (lab_Compact_nil _).mono ?_
    rintro e w3 ⟨rfl, rfl⟩
    go_wp2_with fail
    go_ret
    rw [lof_nil]
    exact ⟨none, 0, rfl, Sl.none_ _ _, HF1.out, fun g off e => by cases e⟩
  · simp only [Value.slice.injEq] at hv
    obtain ⟨rfl, _, rfl⟩ := hv
    have HB := Lib.hid (show Blk w1 g 91 cur from hcur)
    have HH := Lib.hid (show Heads cur l from htake)
    unfold maxLen at hmx
    have hsz : l.length * 2 ≤ cur.size := by omega
    have HS := Lib.hid hsz
    clear hown hcur htake hsz
    go_wp2_with fail
    refine (lab_sort HB.out HH.out HS.out (by omega)).mono ?_
    rintro e w2 ⟨rfl, hf2, cur2, hb2, hs2, hh2⟩
    have HF2 := Lib.hid hf2
    have HB2 := Lib.hid hb2
    have HH2 := Lib.hid hh2
    have hml := msort_len l
    clear hf2 hb2 hh2
    have hcon := lab_Compact w2 g 91 c1 cur2 (msort l) HB2.out HH2.out (by have := HS.out; omega) (by omega) (by omega) (by omega)
    rw [hml] at hcon
    have HCON := Lib.hid hcon
    clear hcon hml
    go_wp2_with fail
    refine HCON.out.mono ?_
    rintro e w3 ⟨rfl, hf3, cur3, hb3, hs3, hh3⟩
    have HF3 := Lib.hid hf3
    have HB3 := Lib.hid hb3
    have HH3 := Lib.hid hh3
    clear hf3 hb3 hh3
    go_wp2_with fail
    go_ret
    have hd : (dd (msort l)).length ≤ l.length := by have := dd_len (msort l); rw [msort_len] at this; exact this
    refine ⟨some ⟨g, 0, none⟩, c1, rfl, ⟨flat_len pcs 2 pcs_len _, by unfold lof; omega, by unfold maxLen; omega, (fun e => by cases e), fun _ => ⟨g, 0, rfl, HB3.out.lt, fun j u hu => ?_⟩⟩, ?_, fun g' off e => by cases e; exact ⟨hge, _, _, HB3.out⟩⟩
    · have hj : j < (dd (msort l)).length * 2 := by rw [← flat_len pcs 2 pcs_len]; exact (List.getElem?_eq_some_iff.1 hu).1
      rw [Nat.zero_add, HB3.out.cell, HH3.out.get hj]
      exact hu
    · exact (HF1.out.call HF2.out (fun i hi hlt => by unfold Only at hi; omega)).call HF3.out (fun i hi hlt => by unfold Only at hi; omega)
end Go.Proofs.YtoegdmpmagbaiaaGreatDoor
