/- ParseBlanks. -/
import Derived.Test.YtanhmigknafhkaaDoorQ12
import Derived.Test.YtanhmigknafhkaaDoorPmore
import Derived.Test.YtanhmigknafhkaaDoorTref6
namespace Go.Proofs.YtanhmigknafhkaaDoor
open Go.RowKit Go.Shelf
attribute [local go_sem] Instr.field asAgg

def intz (l : List Int) : List Value := l.map (Value.int .i64)
theorem el_intz : ElemT Tryd.prog 53 3 1 8 := ElemT.mk (z := .int .i64 0) Tryd.underlying53 (by kernel_rfl) rfl (by decide)
theorem one_intz (l : List Int) : ∀ u ∈ intz l, u.oneCell' = true := by
  intro u hu
  simp only [intz, List.mem_map] at hu
  obtain ⟨x, _, rfl⟩ := hu
  rfl
/-- The text as far as it has come. -/
def tq (b : UInt8) (o : List (TK × Nat)) (k : Nat) : List UInt8 := b :: blT b (o.take k)
/-- The new places. -/
def pq (b : UInt8) (o : List (TK × Nat)) (k : Nat) : List Int := (List.range k).map fun i => ((tq b o i).length : Int)
section
variable {b : UInt8} {o : List (TK × Nat)} {k : Nat}
theorem tq_step (hk : k < o.length) : tq b o (k + 1) = tq b o k ++ o[k].1.text ++ [b] := by
  unfold tq
  rw [List.take_succ_eq_append_getElem hk]
  simp only [blT, List.flatMap_append, List.flatMap_cons, List.flatMap_nil, List.append_nil, List.cons_append, List.append_assoc]
theorem tq_end : tq b o (o.length + 1) = tq b o o.length := by unfold tq; rw [List.take_of_length_le (by omega), List.take_of_length_le (Nat.le_refl _)]
theorem tq_len (h : ∀ x ∈ o, x.1.text.length ≤ 512) : ∀ k, (tq b o k).length ≤ 1 + 513 * k
  | 0 => by simp [tq, blT]
  | k + 1 => by
    have ih := tq_len h k
    rcases Nat.lt_or_ge k o.length with hk | hk
    · rw [tq_step hk]
      have := h o[k] (List.getElem_mem hk)
      simp only [List.length_append, List.length_singleton]; omega
    · unfold tq at ih ⊢
      rw [List.take_of_length_le (by omega : o.length ≤ k + 1)]
      rw [List.take_of_length_le hk] at ih
      omega
theorem pq_len : (pq b o k).length = k := by simp [pq]
theorem pq_step : pq b o (k + 1) = pq b o k ++ [((tq b o k).length : Int)] := by simp [pq, List.range_succ]
theorem blP_at : ∀ (o : List (TK × Nat)) (a k : Nat) (h : k < (blP a o).length), (blP a o)[k].2 = a + (blT b (o.take k)).length
  | [], _, k, h => by simp [blP] at h
  | x :: o, a, 0, _ => by simp [blP, blT]
  | x :: o, a, k + 1, h => by
    simp only [blP, List.getElem_cons_succ, List.take_succ_cons]
    rw [blP_at o _ k, blT_cons]
    simp; omega
/-- The new text's places are those. -/
theorem pl_at {t : List UInt8} (ht : t = b :: blT b o) (hr : readT t = ((0, 0), blP 1 o ++ [(tk0, t.length)])) (hk : k < (readT t).2.length) : ((readT t).2[k].2 : Int) = (tq b o k).length := by
  have hl : (readT t).2.length = o.length + 1 := by rw [hr]; simp [blP_len]
  have e : ∀ h, (readT t).2[k]'h = (blP 1 o ++ [(tk0, t.length)])[k]'(by simp [blP_len]; omega) := by rw [hr]; intro h; rfl
  rw [e]
  rcases Nat.lt_or_ge k (blP 1 o).length with h | h
  · rw [List.getElem_append_left h, blP_at (b := b) o 1 k h]
    unfold tq; simp only [List.length_cons]; omega
  · have hk2 : k = o.length := by rw [blP_len] at h; omega
    subst hk2
    rw [List.getElem_append_right h]
    simp only [blP_len, Nat.sub_self, List.getElem_cons_zero]
    rw [ht]; unfold tq; rw [List.take_of_length_le (Nat.le_refl _)]
end
theorem same_nil2 (X : World) : Calls Tryd.prog 15 #[fval ⟨0, ⟨#[]⟩, 0, 0, 0, 0⟩ none 0 0, fval ⟨0, ⟨#[]⟩, 0, 0, 0, 0⟩ none 0 0] X fun en w' => en = .returned (.bool true) ∧ Fr Nob X w' := by
  have h := prg_Same X ⟨0, ⟨#[]⟩, 0, 0, 0, 0⟩ ⟨0, ⟨#[]⟩, 0, 0, 0, 0⟩ none none 0 0 .nil .nil (FoSl.nil _ _) (FoSl.nil _ _) (by simp [Fo.tr, Tr.size])
  rw [same_one] at h
  exact h
set_option maxRecDepth 100000 in
set_option maxHeartbeats 4000000 in
theorem blank_32 (W : World) (s : ByteArray) (hs : s.size ≤ 9223372036854775807) (hv : ErrVar W) (hsh : ShVar W) (hI : (s.size : Int) ≤ 200) (h0 : (readT s.data.toList).1.1 = 0) (o : List (TK × Nat)) (ho : (readT s.data.toList).2 = o ++ [(tk0, s.data.toList.length)]) (hbl : ((32 : UInt8) :: blT 32 o).length ≤ 512 → Bl s.data.toList (32 :: blT 32 o) o) :
    Calls Tryd.prog 6 #[.string s, .bool false] W fun en w' => en = .returned (.bool true) ∧ Fr Nob W w' := by
  have HAW := Lib.hid (law10_awake W hv hsh)
  have HRD := Lib.hid (fun X => ref_Read X s hs)
  have HV := Lib.hid hv
  have HSH := Lib.hid hsh
  have HBL := Lib.hid hbl
  have HOT := Lib.hid ho
  clear hbl
  have htl := readT_toks h0
  have hfew := htl.few
  have htx : ∀ x ∈ (readT s.data.toList).2, x.1.text.length ≤ 512 := fun x hx => (htl.ok x hx).text
  rw [h0] at HRD
  simp only [ho] at HRD hfew htx
  generalize (readT s.data.toList).1.2 = pe at HRD
  rw [List.length_append, List.length_singleton] at hfew
  have hto : ∀ x ∈ o, x.1.text.length ≤ 512 := fun x hx => htx x (by simp [hx])
  have HTL := Lib.hid (tq_len (b := 32) hto)
  clear hto
  obtain ⟨n, hn⟩ : ∃ n, o.length = n := ⟨_, rfl⟩
  have HN := Lib.hid hn
  have hn6 : (n : Int) ≤ 599 := by omega
  have hlen : (o ++ [(tk0, s.data.toList.length)]).length = n + 1 := by simp [hn]
  obtain ⟨toks, htk⟩ : ∃ t, o ++ [(tk0, s.data.toList.length)] = t := ⟨_, rfl⟩
  have HTK := Lib.hid htk
  rw [htk] at hlen htx
  simp only [htk, hlen] at HRD
  have HLEN := Lib.hid hlen
  have HTX := Lib.hid htx
  clear htk hn hlen htx htl
  go_enter Tryd.func6, Tryd.ntmps6
  go_wp2_with (first
    | ((go_at_call 20); refine (HAW.out).mono ?_; rintro en w0 ⟨rfl, hf⟩)
    | ((go_at_call 24); (with_reducible refine (HRD.out _).mono ?_); rintro en w1 ⟨A, c, rfl, hsl, hf1⟩; have HSL := Lib.hid hsl; have HF := Lib.hid (hf.call hf1 (fun _ h _ => h)); clear hsl hf hf1))
  have HPO := Lib.hid (show 0 < toks.length by rw [HLEN.out]; omega)
  go_loopw [10, 11, 12] (fun tv pv iv wr => ∃ (k : Nat) (B : Option Addr) (d : Nat) (T : ByteArray), k ≤ n + 1 ∧ iv = .int .i64 k ∧ tv = .string T ∧ pv = .slice B k d ∧ Hid (T.data.toList = tq 32 o k) ∧ Hid (wr.ownsRow w1.heap.size 3 1 (.slice B k d) k (intz (pq 32 o k))) ∧ Hid (Fr Nob w1 wr)) (fun _ _ iv _ => n + 1 - (intOf iv).toNat)
  case atStart => exact ⟨0, none, 0, ⟨#[32]⟩, Nat.zero_le _, rfl, rfl, rfl, Lib.hid (by simp [tq, blT]), Lib.hid (World.ownsRow_nil _ _ _ _), Lib.hid (Fr.refl _ _)⟩
  case round =>
    obtain ⟨k, B, d, T, hk, rfl, rfl, rfl, hT, hown, hfr⟩ := hrel
    have hTs : (T.size : Int) ≤ 400000 := by
      have h1 := HTL.out k
      have h2 := ba_len2 T
      rw [hT.out] at h2
      omega
    by_cases hlt : k < n + 1
    · have hkI : (k : Int) < (n : Int) + 1 := by omega
      have hk0 : 0 ≤ (k : Int) := by omega
      have hkl : k < toks.length := by rw [HLEN.out]; exact hlt
      obtain ⟨b2, off, hA, hb2, hc⟩ := Sl.row (size := 4) tcs_len (show Sl w1 4 A toks.length c (toks.flatMap tcs) by rw [HLEN.out]; exact HSL.out) hkl
      have ct := Lib.hid (show w1.cell? ⟨b2, off + k * 4 + 1, none⟩ = some (.string ⟨toks[k].1.text.toArray⟩) by simpa [Nat.add_assoc] using hc 1 _ rfl)
      obtain ⟨X, hX⟩ : ∃ X : ByteArray, X = ⟨toks[k].1.text.toArray⟩ := ⟨_, rfl⟩
      have hXl : X.data.toList = toks[k].1.text := by rw [hX]
      have hXs : (X.size : Int) ≤ 512 := by
        have h1 := HTX.out _ (List.getElem_mem hkl)
        have h2 := ba_len2 X
        rw [hXl] at h2
        omega
      rw [← hX] at ct
      have HXL := Lib.hid hXl
      subst hA
      clear hc hX hXl
      have hbase := hfr.out.size
      go_wp2_with (at_builtin; refine wpList_app rfl _ _ 53 rfl el_intz (base := w1.heap.size) (xs := intz (pq 32 o k)) (news := [.int .i64 (T.size : Nat)]) rfl ?own rfl ?src ?one ?h63 ?hby ?hbase ?_)
      case own => exact own_fr hown.out (S := Nob) ((Fr.refl _ _).alloc _) (fun i _ hb _ e => e)
      case src => exact Sl.new1 (Blk.new_eq (by simp)) 1 1 rfl (by decide)
      case one => exact one_intz [(T.size : Int)]
      case h63 => unfold maxLen; omega
      case hby => omega
      case hbase => have := hfr.out.size; simp; omega
      intro B' d' w2 hown1 hgr hat
      have hb1 : ∀ i, B.map (·.block) = some i → w1.heap.size ≤ i := own_base hown.out
      have HF2 := Lib.hid ((hfr.out.alloc (.cells #[.int .i64 (T.size : Nat)] 3)).grown hgr (fun i hi hlt => by have := hb1 i hi; omega))
      have ct2 := HF2.out.cell ct.out (fun e => e)
      have HO2 := Lib.hid (show w2.ownsRow w1.heap.size 3 1 (.slice B' (k + 1) d') (k + 1) (intz (pq 32 o (k + 1))) by
        rw [pq_step]
        have e : ((tq 32 o k).length : Int) = (T.size : Nat) := by rw [← hT.out, ba_len2]
        rw [e]
        simpa [intz] using hown1)
      by_cases hln : k < n
      · have hlnI : (k : Int) < (n : Int) := by omega
        have HT2 := Lib.hid (show (T ++ X ++ (⟨#[32]⟩ : ByteArray)).data.toList = tq 32 o (k + 1) by
          have hko : k < o.length := by rw [HN.out]; exact hln
          have e2 : toks[k].1.text = o[k].1.text := by
            have : ∀ (l : List (TK × Nat)) (h : o ++ [(tk0, s.data.toList.length)] = l) (h1 : k < l.length), l[k] = o[k] := by
              intro l h h1; subst h; rw [List.getElem_append_left hko]
            rw [this _ HTK.out hkl]
          rw [tq_step hko, ← e2, ← HXL.out, ← hT.out]
          simp [ByteArray.data_append])
        clear hown1 hgr hat hb1 ct
        go_wp2_with fail
        go_roundw
        case rel => exact ⟨k + 1, B', d', _, by omega, by go_num, rfl, rfl, HT2, HO2, HF2⟩
        case measure => simp [intOf]; omega
      · have hlnI : (n : Int) ≤ (k : Int) := by omega
        have HT2 := Lib.hid (show (T ++ X).data.toList = tq 32 o (k + 1) by
          have hkn : k = o.length := by rw [HN.out]; omega
          have e2 : toks[k].1.text = [] := by
            have : ∀ (l : List (TK × Nat)) (h : o ++ [(tk0, s.data.toList.length)] = l) (h1 : k < l.length), l[k] = (tk0, s.data.toList.length) := by
              intro l h h1; subst h; subst hkn; rw [List.getElem_append_right (Nat.le_refl _)]; simp
            rw [this _ HTK.out hkl]; rfl
          rw [hkn, tq_end, ← hkn, ← hT.out]
          have := HXL.out
          rw [e2] at this
          simp [ByteArray.data_append, this])
        clear hown1 hgr hat hb1 ct
        go_wp2_with fail
        go_roundw
        case rel => exact ⟨k + 1, B', d', _, by omega, by go_num, rfl, rfl, HT2, HO2, HF2⟩
        case measure => simp [intOf]; omega
    · have hke : k = n + 1 := by omega
      have HTE := Lib.hid (show T.data.toList = 32 :: blT 32 o by rw [hT.out, hke, ← HN.out, tq_end]; unfold tq; rw [List.take_of_length_le (Nat.le_refl _)])
      by_cases h512 : 512 < T.size
      · have hJ : (512 : Int) < T.size := by omega
        clear h512
        go_wp2_with fail
        go_ret
        exact ⟨rfl, HF.out.call hfr.out (fun _ h _ => h)⟩
      · have hJ : (T.size : Int) ≤ 512 := by omega
        have hbl2 := HBL.out (by rw [← HTE.out, ba_len2]; omega)
        obtain ⟨q, hq⟩ := parse_all s.data.toList
        have hTz : T.size ≤ 9223372036854775807 := by omega
        have HSP := Lib.hid (Sl.of_own hown.out)
        have HFW := Lib.hid (HF.out.call hfr.out (fun _ h _ => h))
        have HSN := Lib.hid same_nil2
        unfold fval at HSN
        have hbp := bl_parse hbl2 hq
        have h22 := hbl2.rd2
        clear hbl2 h512
        subst hke
        rcases hbp with ⟨x, ks, rfl, hq2⟩ | ⟨e, he, rfl, hq2⟩ | ⟨e, k0, h1, h2, he, rfl, hq2⟩
        · rw [← HTE.out] at hq2
          have HPS := Lib.hid (fun X (hf : Fr Nob W X) => prg_Parse X s hs (HV.out.fr hf) (HSH.out.fr hf) _ hq)
          have HPT := Lib.hid (fun X (hf : Fr Nob W X) => prg_Parse X T hTz (HV.out.fr hf) (HSH.out.fr hf) _ hq2)
          obtain ⟨og, hog⟩ := good_of hq
          have HSM := Lib.hid (same_true (x := x) (ks := ks) (by have := check_small hog.check; omega))
          unfold ParseR fval at HPS HPT
          unfold fval at HSM
          clear hq hq2 hog h22
          go_wp2_with (first
            | ((go_at_call 21); (with_reducible refine (HPS.out _ HFW.out).mono ?_); rintro en w4 ⟨C, e, f, rfl, htr, hsl, hf⟩; have HG := Lib.hid (HFW.out.call hf (fun _ h _ => h)); have HS1 := Lib.hid (hsl.lt.sl (N := w4.heap.size) (fun k hk => hk.2)); have HT1 := Lib.hid htr; have HX := Lib.hid (Blk.new w4 28 #[.int .i64 x.op, .string x.name, .int .i64 x.cmp, .int .i64 x.val, .int .i64 x.lo, .int .i64 x.hi, .slice C f.len e]); clear hsl htr hf)
            | ((go_at_call 21); (with_reducible refine (HPT.out _ (HG.out.alloc _)).mono ?_); rintro en w5 ⟨D, u, g, rfl, htr, hsl, hf⟩; have HS2 := Lib.hid (hsl.lt.sl (N := w5.heap.size) (fun k hk => hk.2)); have HT2 := Lib.hid htr; replace HS1 := Lib.hid ((HS1.out.fr ((Fr.refl Nob _).alloc _)).fr hf); replace HX := Lib.hid (HX.out.fr hf (fun e => e)); replace HG := Lib.hid ((HG.out.alloc _).call hf (fun _ h _ => h)); have xc := HX.out.cell; have xl := HX.out.lt; have hz5 := hf.size; simp only [World.size_alloc] at hz5; clear hf htr hsl)
            | ((go_at_call 15); (with_reducible refine (HSM.out _ _ _ _ _ _ _ ((HS1.out.fr ((Fr.refl Nob _).alloc _)).mono (by simp; omega)) ((HS2.out.fr ((Fr.refl Nob _).alloc _)).mono (by simp)) HT1.out HT2.out).mono ?_); rintro en w6 ⟨rfl, hf⟩; replace HG := Lib.hid ((HG.out.alloc _).call hf (fun _ h _ => h)); clear hf))
          go_ret
          exact ⟨rfl, HG.out⟩
        · rw [← HTE.out] at hq2
          have HPS := Lib.hid (fun X (hf : Fr Nob W X) => prg_Parse X s hs (HV.out.fr hf) (HSH.out.fr hf) _ hq)
          have HPT := Lib.hid (fun X (hf : Fr Nob W X) => prg_Parse X T hTz (HV.out.fr hf) (HSH.out.fr hf) _ hq2)
          unfold ParseR fval at HPS HPT
          clear hq hq2 h22
          rcases he with rfl | rfl
          all_goals
            go_wp2_with (first
              | ((go_at_call 21); (with_reducible refine (HPS.out _ HFW.out).mono ?_); rintro en w4 ⟨rfl, hf⟩; have HG := Lib.hid (HFW.out.call hf (fun _ h _ => h)); have HK6 := Lib.hid hf; have HX := Lib.hid (Blk.new w4 28 #[.int .i64 0, .string ⟨#[]⟩, .int .i64 0, .int .i64 0, .int .i64 0, .int .i64 0, .slice none 0 0]); clear hf)
              | ((go_at_call 21); (with_reducible refine (HPT.out _ (HG.out.alloc _)).mono ?_); rintro en w5 ⟨rfl, hf⟩; replace HX := Lib.hid (HX.out.fr hf (fun e => e)); replace HG := Lib.hid ((HG.out.alloc _).call hf (fun _ h _ => h)); replace HK6 := Lib.hid ((HK6.out.alloc _).call hf (fun _ h _ => h)); have xc := HX.out.cell; have xl := HX.out.lt; clear hf)
              | ((go_at_call 15); (with_reducible refine (HSN.out _).mono ?_); rintro en w6 ⟨rfl, hf⟩; replace HG := Lib.hid ((HG.out.alloc _).call hf (fun _ h _ => h)); replace HK6 := Lib.hid ((HK6.out.alloc _).call hf (fun _ h _ => h)); clear hf)
              )
            go_ret
            exact ⟨rfl, HG.out⟩
        · have hp2 := pl_at (k := k0) rfl h22 h2
          have hk0n : k0 ≤ n := by
            have : (readT s.data.toList).2.length = n + 1 := by rw [HOT.out, HTK.out, HLEN.out]
            omega
          have hp1 : ∀ h, toks[k0]'h = (readT s.data.toList).2[k0] := by
            have : ∀ (l : List (TK × Nat)) (e : (readT s.data.toList).2 = l) (h : k0 < l.length), l[k0] = (readT s.data.toList).2[k0] := by
              intro l e h; subst e; rfl
            exact this _ (HOT.out.trans HTK.out)
          obtain ⟨p1, hp1'⟩ : ∃ p, (readT s.data.toList).2[k0].2 = p := ⟨_, rfl⟩
          obtain ⟨p2, hp2'⟩ : ∃ p, (readT (32 :: blT 32 o)).2[k0].2 = p := ⟨_, rfl⟩
          rw [hp1'] at hq
          rw [hp2'] at hq2 hp2
          rw [← HTE.out] at hq2
          have HPS := Lib.hid (fun X (hf : Fr Nob W X) => prg_Parse X s hs (HV.out.fr hf) (HSH.out.fr hf) _ hq)
          have HPT := Lib.hid (fun X (hf : Fr Nob W X) => prg_Parse X T hTz (HV.out.fr hf) (HSH.out.fr hf) _ hq2)
          have HM1 := Lib.hid (fun h => (show (toks[k0]'h).2 = p1 by rw [hp1 h]; exact hp1'))
          have HM2 := Lib.hid hp2
          unfold ParseR fval at HPS HPT
          clear hq hq2 h22 hp1 hp1' hp2' hp2 h1 h2
          rcases he with rfl | rfl
          all_goals
            go_wp2_with (first
              | ((go_at_call 21); (with_reducible refine (HPS.out _ HFW.out).mono ?_); rintro en w4 ⟨rfl, hf⟩; have HG := Lib.hid (HFW.out.call hf (fun _ h _ => h)); have HK6 := Lib.hid hf; have HX := Lib.hid (Blk.new w4 28 #[.int .i64 0, .string ⟨#[]⟩, .int .i64 0, .int .i64 0, .int .i64 0, .int .i64 0, .slice none 0 0]); clear hf)
              | ((go_at_call 21); (with_reducible refine (HPT.out _ (HG.out.alloc _)).mono ?_); rintro en w5 ⟨rfl, hf⟩; replace HX := Lib.hid (HX.out.fr hf (fun e => e)); replace HG := Lib.hid ((HG.out.alloc _).call hf (fun _ h _ => h)); replace HK6 := Lib.hid ((HK6.out.alloc _).call hf (fun _ h _ => h)); have xc := HX.out.cell; have xl := HX.out.lt; clear hf)
              | ((go_at_call 15); (with_reducible refine (HSN.out _).mono ?_); rintro en w6 ⟨rfl, hf⟩; replace HG := Lib.hid ((HG.out.alloc _).call hf (fun _ h _ => h)); replace HK6 := Lib.hid ((HK6.out.alloc _).call hf (fun _ h _ => h)); clear hf)
              )
            go_loopw [19] (fun iv wl => ∃ i : Nat, i ≤ k0 ∧ iv = .int .i64 i ∧ Hid (Fr Nob w6 wl)) (fun iv _ => k0 + 1 - (intOf iv).toNat)
            case atStart => exact ⟨0, Nat.zero_le _, rfl, Lib.hid (Fr.refl _ _)⟩
            case round =>
              obtain ⟨i, hi, rfl, hfl⟩ := hrel
              have hiI : (i : Int) < ((n + 1 : Nat) : Int) := by omega
              have hiI2 : (i : Int) < (n : Int) + 1 := by omega
              have hi0 : 0 ≤ (i : Int) := by omega
              have hil : i < toks.length := by rw [HLEN.out]; omega
              obtain ⟨b2, off, hA, hb2, hc⟩ := Sl.row (size := 4) tcs_len (show Sl w1 4 A toks.length c (toks.flatMap tcs) by rw [HLEN.out]; exact HSL.out) hil
              have c3 := hfl.out.cell (HK6.out.cell (hfr.out.cell (show w1.cell? ⟨b2, off + i * 4 + 3, none⟩ = some (.int .i64 (toks[i].2 : Nat)) by simpa [Nat.add_assoc] using hc 3 _ rfl) (fun e => e)) (fun e => e)) (fun e => e)
              obtain ⟨b3, off3, u, hB, hb3, hu, hcu⟩ := Sl.at_ (HSP.out) (k := i) (by omega)
              have hu2 : u = .int .i64 ((tq 32 o i).length : Nat) := by
                unfold intz pq at hu
                rw [List.getElem?_map, List.getElem?_map, List.getElem?_range (by omega)] at hu
                simpa using hu.symm
              have c4 := hfl.out.cell (HK6.out.cell hcu (fun e => e)) (fun e => e)
              rw [hu2] at c4
              have HB3 := Lib.hid hB
              subst hA
              clear hc hu hcu hu2
              have hq : i = k0 → toks[i].2 = p1 ∧ ((p2 : Int) = (tq 32 o i).length) := by
                intro e; subst e; exact ⟨HM1.out _, HM2.out⟩
              generalize toks[i].2 = v1 at *
              generalize (tq 32 o i).length = v2 at *
              by_cases hm1 : (v1 : Int) = p1
              · by_cases hm2 : (v2 : Int) = p2
                · have e1 : ((v1 : Int) == (p1 : Int)) = true := by simpa using hm1
                  have e2 : ((v2 : Int) == (p2 : Int)) = true := by simpa using hm2
                  clear hq hm1 hm2
                  go_wp2_with fail
                  go_ret
                  exact ⟨rfl, HG.out.call hfl.out (fun _ h _ => h)⟩
                · have e1 : ((v1 : Int) == (p1 : Int)) = true := by simpa using hm1
                  have e2 : ((v2 : Int) == (p2 : Int)) = false := by simpa using hm2
                  have hlt : i < k0 := by
                    rcases Nat.lt_or_ge i k0 with h | h
                    · exact h
                    · have := (hq (by omega)).2; omega
                  clear hq hm1 hm2
                  go_wp2_with fail
                  go_roundw
                  case rel => exact ⟨i + 1, by omega, by go_num, hfl⟩
                  case measure => simp [intOf]; omega
              · have e1 : ((v1 : Int) == (p1 : Int)) = false := by simpa using hm1
                have hlt : i < k0 := by
                  rcases Nat.lt_or_ge i k0 with h | h
                  · exact h
                  · have := (hq (by omega)).1; omega
                clear hq hm1
                go_wp2_with fail
                go_roundw
                case rel => exact ⟨i + 1, by omega, by go_num, hfl⟩
                case measure => simp [intOf]; omega
set_option maxRecDepth 100000 in
set_option maxHeartbeats 4000000 in
theorem blank_9 (W : World) (s : ByteArray) (hs : s.size ≤ 9223372036854775807) (hv : ErrVar W) (hsh : ShVar W) (hI : (s.size : Int) ≤ 200) (h0 : (readT s.data.toList).1.1 = 0) (o : List (TK × Nat)) (ho : (readT s.data.toList).2 = o ++ [(tk0, s.data.toList.length)]) (hbl : ((9 : UInt8) :: blT 9 o).length ≤ 512 → Bl s.data.toList (9 :: blT 9 o) o) :
    Calls Tryd.prog 6 #[.string s, .bool true] W fun en w' => en = .returned (.bool true) ∧ Fr Nob W w' := by
  have HAW := Lib.hid (law10_awake W hv hsh)
  have HRD := Lib.hid (fun X => ref_Read X s hs)
  have HV := Lib.hid hv
  have HSH := Lib.hid hsh
  have HBL := Lib.hid hbl
  have HOT := Lib.hid ho
  clear hbl
  have htl := readT_toks h0
  have hfew := htl.few
  have htx : ∀ x ∈ (readT s.data.toList).2, x.1.text.length ≤ 512 := fun x hx => (htl.ok x hx).text
  rw [h0] at HRD
  simp only [ho] at HRD hfew htx
  generalize (readT s.data.toList).1.2 = pe at HRD
  rw [List.length_append, List.length_singleton] at hfew
  have hto : ∀ x ∈ o, x.1.text.length ≤ 512 := fun x hx => htx x (by simp [hx])
  have HTL := Lib.hid (tq_len (b := 9) hto)
  clear hto
  obtain ⟨n, hn⟩ : ∃ n, o.length = n := ⟨_, rfl⟩
  have HN := Lib.hid hn
  have hn6 : (n : Int) ≤ 599 := by omega
  have hlen : (o ++ [(tk0, s.data.toList.length)]).length = n + 1 := by simp [hn]
  obtain ⟨toks, htk⟩ : ∃ t, o ++ [(tk0, s.data.toList.length)] = t := ⟨_, rfl⟩
  have HTK := Lib.hid htk
  rw [htk] at hlen htx
  simp only [htk, hlen] at HRD
  have HLEN := Lib.hid hlen
  have HTX := Lib.hid htx
  clear htk hn hlen htx htl
  go_enter Tryd.func6, Tryd.ntmps6
  go_wp2_with (first
    | ((go_at_call 20); refine (HAW.out).mono ?_; rintro en w0 ⟨rfl, hf⟩)
    | ((go_at_call 24); (with_reducible refine (HRD.out _).mono ?_); rintro en w1 ⟨A, c, rfl, hsl, hf1⟩; have HSL := Lib.hid hsl; have HF := Lib.hid (hf.call hf1 (fun _ h _ => h)); clear hsl hf hf1))
  have HPO := Lib.hid (show 0 < toks.length by rw [HLEN.out]; omega)
  go_loopw [10, 11, 12] (fun tv pv iv wr => ∃ (k : Nat) (B : Option Addr) (d : Nat) (T : ByteArray), k ≤ n + 1 ∧ iv = .int .i64 k ∧ tv = .string T ∧ pv = .slice B k d ∧ Hid (T.data.toList = tq 9 o k) ∧ Hid (wr.ownsRow w1.heap.size 3 1 (.slice B k d) k (intz (pq 9 o k))) ∧ Hid (Fr Nob w1 wr)) (fun _ _ iv _ => n + 1 - (intOf iv).toNat)
  case atStart => exact ⟨0, none, 0, ⟨#[9]⟩, Nat.zero_le _, rfl, rfl, rfl, Lib.hid (by simp [tq, blT]), Lib.hid (World.ownsRow_nil _ _ _ _), Lib.hid (Fr.refl _ _)⟩
  case round =>
    obtain ⟨k, B, d, T, hk, rfl, rfl, rfl, hT, hown, hfr⟩ := hrel
    have hTs : (T.size : Int) ≤ 400000 := by
      have h1 := HTL.out k
      have h2 := ba_len2 T
      rw [hT.out] at h2
      omega
    by_cases hlt : k < n + 1
    · have hkI : (k : Int) < (n : Int) + 1 := by omega
      have hk0 : 0 ≤ (k : Int) := by omega
      have hkl : k < toks.length := by rw [HLEN.out]; exact hlt
      obtain ⟨b2, off, hA, hb2, hc⟩ := Sl.row (size := 4) tcs_len (show Sl w1 4 A toks.length c (toks.flatMap tcs) by rw [HLEN.out]; exact HSL.out) hkl
      have ct := Lib.hid (show w1.cell? ⟨b2, off + k * 4 + 1, none⟩ = some (.string ⟨toks[k].1.text.toArray⟩) by simpa [Nat.add_assoc] using hc 1 _ rfl)
      obtain ⟨X, hX⟩ : ∃ X : ByteArray, X = ⟨toks[k].1.text.toArray⟩ := ⟨_, rfl⟩
      have hXl : X.data.toList = toks[k].1.text := by rw [hX]
      have hXs : (X.size : Int) ≤ 512 := by
        have h1 := HTX.out _ (List.getElem_mem hkl)
        have h2 := ba_len2 X
        rw [hXl] at h2
        omega
      rw [← hX] at ct
      have HXL := Lib.hid hXl
      subst hA
      clear hc hX hXl
      have hbase := hfr.out.size
      go_wp2_with (at_builtin; refine wpList_app rfl _ _ 53 rfl el_intz (base := w1.heap.size) (xs := intz (pq 9 o k)) (news := [.int .i64 (T.size : Nat)]) rfl ?own rfl ?src ?one ?h63 ?hby ?hbase ?_)
      case own => exact own_fr hown.out (S := Nob) ((Fr.refl _ _).alloc _) (fun i _ hb _ e => e)
      case src => exact Sl.new1 (Blk.new_eq (by simp)) 1 1 rfl (by decide)
      case one => exact one_intz [(T.size : Int)]
      case h63 => unfold maxLen; omega
      case hby => omega
      case hbase => have := hfr.out.size; simp; omega
      intro B' d' w2 hown1 hgr hat
      have hb1 : ∀ i, B.map (·.block) = some i → w1.heap.size ≤ i := own_base hown.out
      have HF2 := Lib.hid ((hfr.out.alloc (.cells #[.int .i64 (T.size : Nat)] 3)).grown hgr (fun i hi hlt => by have := hb1 i hi; omega))
      have ct2 := HF2.out.cell ct.out (fun e => e)
      have HO2 := Lib.hid (show w2.ownsRow w1.heap.size 3 1 (.slice B' (k + 1) d') (k + 1) (intz (pq 9 o (k + 1))) by
        rw [pq_step]
        have e : ((tq 9 o k).length : Int) = (T.size : Nat) := by rw [← hT.out, ba_len2]
        rw [e]
        simpa [intz] using hown1)
      by_cases hln : k < n
      · have hlnI : (k : Int) < (n : Int) := by omega
        have HT2 := Lib.hid (show (T ++ X ++ (⟨#[9]⟩ : ByteArray)).data.toList = tq 9 o (k + 1) by
          have hko : k < o.length := by rw [HN.out]; exact hln
          have e2 : toks[k].1.text = o[k].1.text := by
            have : ∀ (l : List (TK × Nat)) (h : o ++ [(tk0, s.data.toList.length)] = l) (h1 : k < l.length), l[k] = o[k] := by
              intro l h h1; subst h; rw [List.getElem_append_left hko]
            rw [this _ HTK.out hkl]
          rw [tq_step hko, ← e2, ← HXL.out, ← hT.out]
          simp [ByteArray.data_append])
        clear hown1 hgr hat hb1 ct
        go_wp2_with fail
        go_roundw
        case rel => exact ⟨k + 1, B', d', _, by omega, by go_num, rfl, rfl, HT2, HO2, HF2⟩
        case measure => simp [intOf]; omega
      · have hlnI : (n : Int) ≤ (k : Int) := by omega
        have HT2 := Lib.hid (show (T ++ X).data.toList = tq 9 o (k + 1) by
          have hkn : k = o.length := by rw [HN.out]; omega
          have e2 : toks[k].1.text = [] := by
            have : ∀ (l : List (TK × Nat)) (h : o ++ [(tk0, s.data.toList.length)] = l) (h1 : k < l.length), l[k] = (tk0, s.data.toList.length) := by
              intro l h h1; subst h; subst hkn; rw [List.getElem_append_right (Nat.le_refl _)]; simp
            rw [this _ HTK.out hkl]; rfl
          rw [hkn, tq_end, ← hkn, ← hT.out]
          have := HXL.out
          rw [e2] at this
          simp [ByteArray.data_append, this])
        clear hown1 hgr hat hb1 ct
        go_wp2_with fail
        go_roundw
        case rel => exact ⟨k + 1, B', d', _, by omega, by go_num, rfl, rfl, HT2, HO2, HF2⟩
        case measure => simp [intOf]; omega
    · have hke : k = n + 1 := by omega
      have HTE := Lib.hid (show T.data.toList = 9 :: blT 9 o by rw [hT.out, hke, ← HN.out, tq_end]; unfold tq; rw [List.take_of_length_le (Nat.le_refl _)])
      by_cases h512 : 512 < T.size
      · have hJ : (512 : Int) < T.size := by omega
        clear h512
        go_wp2_with fail
        go_ret
        exact ⟨rfl, HF.out.call hfr.out (fun _ h _ => h)⟩
      · have hJ : (T.size : Int) ≤ 512 := by omega
        have hbl2 := HBL.out (by rw [← HTE.out, ba_len2]; omega)
        obtain ⟨q, hq⟩ := parse_all s.data.toList
        have hTz : T.size ≤ 9223372036854775807 := by omega
        have HSP := Lib.hid (Sl.of_own hown.out)
        have HFW := Lib.hid (HF.out.call hfr.out (fun _ h _ => h))
        have HSN := Lib.hid same_nil2
        unfold fval at HSN
        have hbp := bl_parse hbl2 hq
        have h22 := hbl2.rd2
        clear hbl2 h512
        subst hke
        rcases hbp with ⟨x, ks, rfl, hq2⟩ | ⟨e, he, rfl, hq2⟩ | ⟨e, k0, h1, h2, he, rfl, hq2⟩
        · rw [← HTE.out] at hq2
          have HPS := Lib.hid (fun X (hf : Fr Nob W X) => prg_Parse X s hs (HV.out.fr hf) (HSH.out.fr hf) _ hq)
          have HPT := Lib.hid (fun X (hf : Fr Nob W X) => prg_Parse X T hTz (HV.out.fr hf) (HSH.out.fr hf) _ hq2)
          obtain ⟨og, hog⟩ := good_of hq
          have HSM := Lib.hid (same_true (x := x) (ks := ks) (by have := check_small hog.check; omega))
          unfold ParseR fval at HPS HPT
          unfold fval at HSM
          clear hq hq2 hog h22
          go_wp2_with (first
            | ((go_at_call 21); (with_reducible refine (HPS.out _ HFW.out).mono ?_); rintro en w4 ⟨C, e, f, rfl, htr, hsl, hf⟩; have HG := Lib.hid (HFW.out.call hf (fun _ h _ => h)); have HS1 := Lib.hid (hsl.lt.sl (N := w4.heap.size) (fun k hk => hk.2)); have HT1 := Lib.hid htr; have HX := Lib.hid (Blk.new w4 28 #[.int .i64 x.op, .string x.name, .int .i64 x.cmp, .int .i64 x.val, .int .i64 x.lo, .int .i64 x.hi, .slice C f.len e]); clear hsl htr hf)
            | ((go_at_call 21); (with_reducible refine (HPT.out _ (HG.out.alloc _)).mono ?_); rintro en w5 ⟨D, u, g, rfl, htr, hsl, hf⟩; have HS2 := Lib.hid (hsl.lt.sl (N := w5.heap.size) (fun k hk => hk.2)); have HT2 := Lib.hid htr; replace HS1 := Lib.hid ((HS1.out.fr ((Fr.refl Nob _).alloc _)).fr hf); replace HX := Lib.hid (HX.out.fr hf (fun e => e)); replace HG := Lib.hid ((HG.out.alloc _).call hf (fun _ h _ => h)); have xc := HX.out.cell; have xl := HX.out.lt; have hz5 := hf.size; simp only [World.size_alloc] at hz5; clear hf htr hsl)
            | ((go_at_call 15); (with_reducible refine (HSM.out _ _ _ _ _ _ _ ((HS1.out.fr ((Fr.refl Nob _).alloc _)).mono (by simp; omega)) ((HS2.out.fr ((Fr.refl Nob _).alloc _)).mono (by simp)) HT1.out HT2.out).mono ?_); rintro en w6 ⟨rfl, hf⟩; replace HG := Lib.hid ((HG.out.alloc _).call hf (fun _ h _ => h)); clear hf))
          go_ret
          exact ⟨rfl, HG.out⟩
        · rw [← HTE.out] at hq2
          have HPS := Lib.hid (fun X (hf : Fr Nob W X) => prg_Parse X s hs (HV.out.fr hf) (HSH.out.fr hf) _ hq)
          have HPT := Lib.hid (fun X (hf : Fr Nob W X) => prg_Parse X T hTz (HV.out.fr hf) (HSH.out.fr hf) _ hq2)
          unfold ParseR fval at HPS HPT
          clear hq hq2 h22
          rcases he with rfl | rfl
          all_goals
            go_wp2_with (first
              | ((go_at_call 21); (with_reducible refine (HPS.out _ HFW.out).mono ?_); rintro en w4 ⟨rfl, hf⟩; have HG := Lib.hid (HFW.out.call hf (fun _ h _ => h)); have HK6 := Lib.hid hf; have HX := Lib.hid (Blk.new w4 28 #[.int .i64 0, .string ⟨#[]⟩, .int .i64 0, .int .i64 0, .int .i64 0, .int .i64 0, .slice none 0 0]); clear hf)
              | ((go_at_call 21); (with_reducible refine (HPT.out _ (HG.out.alloc _)).mono ?_); rintro en w5 ⟨rfl, hf⟩; replace HX := Lib.hid (HX.out.fr hf (fun e => e)); replace HG := Lib.hid ((HG.out.alloc _).call hf (fun _ h _ => h)); replace HK6 := Lib.hid ((HK6.out.alloc _).call hf (fun _ h _ => h)); have xc := HX.out.cell; have xl := HX.out.lt; clear hf)
              | ((go_at_call 15); (with_reducible refine (HSN.out _).mono ?_); rintro en w6 ⟨rfl, hf⟩; replace HG := Lib.hid ((HG.out.alloc _).call hf (fun _ h _ => h)); replace HK6 := Lib.hid ((HK6.out.alloc _).call hf (fun _ h _ => h)); clear hf)
              )
            go_ret
            exact ⟨rfl, HG.out⟩
        · have hp2 := pl_at (k := k0) rfl h22 h2
          have hk0n : k0 ≤ n := by
            have : (readT s.data.toList).2.length = n + 1 := by rw [HOT.out, HTK.out, HLEN.out]
            omega
          have hp1 : ∀ h, toks[k0]'h = (readT s.data.toList).2[k0] := by
            have : ∀ (l : List (TK × Nat)) (e : (readT s.data.toList).2 = l) (h : k0 < l.length), l[k0] = (readT s.data.toList).2[k0] := by
              intro l e h; subst e; rfl
            exact this _ (HOT.out.trans HTK.out)
          obtain ⟨p1, hp1'⟩ : ∃ p, (readT s.data.toList).2[k0].2 = p := ⟨_, rfl⟩
          obtain ⟨p2, hp2'⟩ : ∃ p, (readT (9 :: blT 9 o)).2[k0].2 = p := ⟨_, rfl⟩
          rw [hp1'] at hq
          rw [hp2'] at hq2 hp2
          rw [← HTE.out] at hq2
          have HPS := Lib.hid (fun X (hf : Fr Nob W X) => prg_Parse X s hs (HV.out.fr hf) (HSH.out.fr hf) _ hq)
          have HPT := Lib.hid (fun X (hf : Fr Nob W X) => prg_Parse X T hTz (HV.out.fr hf) (HSH.out.fr hf) _ hq2)
          have HM1 := Lib.hid (fun h => (show (toks[k0]'h).2 = p1 by rw [hp1 h]; exact hp1'))
          have HM2 := Lib.hid hp2
          unfold ParseR fval at HPS HPT
          clear hq hq2 h22 hp1 hp1' hp2' hp2 h1 h2
          rcases he with rfl | rfl
          all_goals
            go_wp2_with (first
              | ((go_at_call 21); (with_reducible refine (HPS.out _ HFW.out).mono ?_); rintro en w4 ⟨rfl, hf⟩; have HG := Lib.hid (HFW.out.call hf (fun _ h _ => h)); have HK6 := Lib.hid hf; have HX := Lib.hid (Blk.new w4 28 #[.int .i64 0, .string ⟨#[]⟩, .int .i64 0, .int .i64 0, .int .i64 0, .int .i64 0, .slice none 0 0]); clear hf)
              | ((go_at_call 21); (with_reducible refine (HPT.out _ (HG.out.alloc _)).mono ?_); rintro en w5 ⟨rfl, hf⟩; replace HX := Lib.hid (HX.out.fr hf (fun e => e)); replace HG := Lib.hid ((HG.out.alloc _).call hf (fun _ h _ => h)); replace HK6 := Lib.hid ((HK6.out.alloc _).call hf (fun _ h _ => h)); have xc := HX.out.cell; have xl := HX.out.lt; clear hf)
              | ((go_at_call 15); (with_reducible refine (HSN.out _).mono ?_); rintro en w6 ⟨rfl, hf⟩; replace HG := Lib.hid ((HG.out.alloc _).call hf (fun _ h _ => h)); replace HK6 := Lib.hid ((HK6.out.alloc _).call hf (fun _ h _ => h)); clear hf)
              )
            go_loopw [19] (fun iv wl => ∃ i : Nat, i ≤ k0 ∧ iv = .int .i64 i ∧ Hid (Fr Nob w6 wl)) (fun iv _ => k0 + 1 - (intOf iv).toNat)
            case atStart => exact ⟨0, Nat.zero_le _, rfl, Lib.hid (Fr.refl _ _)⟩
            case round =>
              obtain ⟨i, hi, rfl, hfl⟩ := hrel
              have hiI : (i : Int) < ((n + 1 : Nat) : Int) := by omega
              have hiI2 : (i : Int) < (n : Int) + 1 := by omega
              have hi0 : 0 ≤ (i : Int) := by omega
              have hil : i < toks.length := by rw [HLEN.out]; omega
              obtain ⟨b2, off, hA, hb2, hc⟩ := Sl.row (size := 4) tcs_len (show Sl w1 4 A toks.length c (toks.flatMap tcs) by rw [HLEN.out]; exact HSL.out) hil
              have c3 := hfl.out.cell (HK6.out.cell (hfr.out.cell (show w1.cell? ⟨b2, off + i * 4 + 3, none⟩ = some (.int .i64 (toks[i].2 : Nat)) by simpa [Nat.add_assoc] using hc 3 _ rfl) (fun e => e)) (fun e => e)) (fun e => e)
              obtain ⟨b3, off3, u, hB, hb3, hu, hcu⟩ := Sl.at_ (HSP.out) (k := i) (by omega)
              have hu2 : u = .int .i64 ((tq 9 o i).length : Nat) := by
                unfold intz pq at hu
                rw [List.getElem?_map, List.getElem?_map, List.getElem?_range (by omega)] at hu
                simpa using hu.symm
              have c4 := hfl.out.cell (HK6.out.cell hcu (fun e => e)) (fun e => e)
              rw [hu2] at c4
              have HB3 := Lib.hid hB
              subst hA
              clear hc hu hcu hu2
              have hq : i = k0 → toks[i].2 = p1 ∧ ((p2 : Int) = (tq 9 o i).length) := by
                intro e; subst e; exact ⟨HM1.out _, HM2.out⟩
              generalize toks[i].2 = v1 at *
              generalize (tq 9 o i).length = v2 at *
              by_cases hm1 : (v1 : Int) = p1
              · by_cases hm2 : (v2 : Int) = p2
                · have e1 : ((v1 : Int) == (p1 : Int)) = true := by simpa using hm1
                  have e2 : ((v2 : Int) == (p2 : Int)) = true := by simpa using hm2
                  clear hq hm1 hm2
                  go_wp2_with fail
                  go_ret
                  exact ⟨rfl, HG.out.call hfl.out (fun _ h _ => h)⟩
                · have e1 : ((v1 : Int) == (p1 : Int)) = true := by simpa using hm1
                  have e2 : ((v2 : Int) == (p2 : Int)) = false := by simpa using hm2
                  have hlt : i < k0 := by
                    rcases Nat.lt_or_ge i k0 with h | h
                    · exact h
                    · have := (hq (by omega)).2; omega
                  clear hq hm1 hm2
                  go_wp2_with fail
                  go_roundw
                  case rel => exact ⟨i + 1, by omega, by go_num, hfl⟩
                  case measure => simp [intOf]; omega
              · have e1 : ((v1 : Int) == (p1 : Int)) = false := by simpa using hm1
                have hlt : i < k0 := by
                  rcases Nat.lt_or_ge i k0 with h | h
                  · exact h
                  · have := (hq (by omega)).1; omega
                clear hq hm1
                go_wp2_with fail
                go_roundw
                case rel => exact ⟨i + 1, by omega, by go_num, hfl⟩
                case measure => simp [intOf]; omega
set_option maxRecDepth 100000 in
set_option maxHeartbeats 4000000 in
theorem law_ParseBlanks (W : World) (s : ByteArray) (tab : Bool) (hs : s.size ≤ 9223372036854775807) (hv : ErrVar W) (hsh : ShVar W) : Calls Tryd.prog 6 #[.string s, .bool tab] W fun en w' => en = .returned (.bool true) ∧ Fr Nob W w' := by
  by_cases h5 : 200 < s.size
  · have HAW := Lib.hid (law10_awake W hv hsh)
    have hI : (200 : Int) < s.size := by omega
    clear hv hsh h5
    go_enter Tryd.func6, Tryd.ntmps6
    go_wp2_with ((go_at_call 20); refine (HAW.out).mono ?_; rintro en w1 ⟨rfl, hf⟩)
    go_ret
    exact ⟨rfl, hf⟩
  have hI : (s.size : Int) ≤ 200 := by omega
  by_cases h0 : (readT s.data.toList).1.1 = 0
  · cases tab
    · obtain ⟨o, h1, h2⟩ := bl_of (b := 32) (by decide) h0
      exact blank_32 W s hs hv hsh hI h0 o h1 h2
    · obtain ⟨o, h1, h2⟩ := bl_of (b := 9) (by decide) h0
      exact blank_9 W s hs hv hsh hI h0 o h1 h2
  · have HAW := Lib.hid (law10_awake W hv hsh)
    have HRD := Lib.hid (fun X => ref_Read X s hs)
    generalize readT s.data.toList = r at *
    obtain ⟨⟨e, p⟩, l⟩ := r
    dsimp only at HRD h0
    have he : (e == 0) = false := by simpa using h0
    have he2 : (e != 0) = true := by simpa using h0
    clear hv hsh h5
    go_enter Tryd.func6, Tryd.ntmps6
    go_wp2_with (first
      | ((go_at_call 20); refine (HAW.out).mono ?_; rintro en w0 ⟨rfl, hf⟩)
      | ((go_at_call 24); (with_reducible refine (HRD.out _).mono ?_); rintro en w1 ⟨A, c, rfl, hsl, hf1⟩; replace hf := hf.call hf1 (fun _ h _ => h); clear hsl hf1))
    go_ret
    exact ⟨rfl, hf⟩
end Go.Proofs.YtanhmigknafhkaaDoor
