/- ParseShown. -/
import Derived.Test.YtanhmigknafhkaaDoorQ12
import Derived.Test.YtanhmigknafhkaaDoorPback
import Derived.Test.YtanhmigknafhkaaDoorFshow3
namespace Go.Proofs.YtanhmigknafhkaaDoor
open Go.RowKit Go.Shelf
attribute [local go_sem] Instr.field asAgg

theorem wt_of : ∀ {t : Tr}, t.nm512 → t.wt ≤ 612 * t.size
  | .nil, _ => by simp [Tr.wt]
  | .cons x k r, h => by
    have h1 := wt_of h.2.1
    have h2 := wt_of h.2.2
    have h3 := h.1
    simp only [Tr.wt, Tr.size]
    omega
theorem bad_place {l : List UInt8} {e : Int} {p : Nat} (h : ParseIs l (.bad e p)) : p ≤ l.length := by
  cases h with
  | lex h => exact (readT_err h).2
  | wrong h hk hr => have := (readT_tl h).place _ (List.getElem_mem hk); omega
  | more h hk hr => have := (readT_tl h).place _ (List.getElem_mem hk); omega
  | big => omega
/-- What is told of a formula that was parsed. -/
structure Shn (x : Nd) (ks : Tr) : Prop where
  fit : Fit x ks
  check : checkT x ks = 0
section
variable {x : Nd} {ks : Tr}
theorem Shn.wt (h : Shn x ks) : x.name.size + ks.wt ≤ 100000 := by
  have h1 := wt_of h.fit.names
  have h2 := check_small h.check
  have h3 := h.fit.name
  omega
theorem Shn.size (h : Shn x ks) : (showT x ks).size ≤ 100060 := by
  rw [show_text h.check]
  have h1 := textT_size h.fit.nd h.fit.ok
  have h2 := h.wt
  omega
theorem Shn.show_ {w : World} (h : Shn x ks) (hv : ShVar w) (ht : TbVar w) {w' : World} (hf : Fr Nob w w') (B : Option Addr) (d : Nat) (f : Fo) (hs : FoSl w'.heap.size w' B d f) (he : f.tr = ks) :
    Calls Tryd.prog 17 #[fval x B f.len d] w' fun e w2 => e = .returned (.string (showT x ks)) ∧ Fr Nob w' w2 := by
  subst he
  exact prg_Show w' x B d f hs (by have := check_small h.check; omega) (hv.fr hf) (ht.fr hf) h.fit.nd h.fit.ok (by have := h.wt; omega) (nm_nodes h.fit.name h.fit.names)
theorem Shn.check_ {w : World} (h : Shn x ks) (hv : ShVar w) {w' : World} (hf : Fr Nob w w') (B : Option Addr) (d : Nat) (f : Fo) (hs : FoSl w'.heap.size w' B d f) (he : f.tr = ks) :
    Calls Tryd.prog 25 #[fval x B f.len d] w' fun e w2 => e = .returned (.int .i64 0) ∧ Fr Nob w' w2 := by
  have h1 := prg_Check w' x B d f hs (by have := check_small h.check; rw [he]; omega) (hv.fr hf) (by rw [he]; exact nm_nodes h.fit.name h.fit.names)
  rw [he, h.check] at h1
  exact h1
end
theorem same_nil (X : World) : Calls Tryd.prog 15 #[fval ⟨0, ⟨#[]⟩, 0, 0, 0, 0⟩ none 0 0, fval ⟨0, ⟨#[]⟩, 0, 0, 0, 0⟩ none 0 0] X fun en w' => en = .returned (.bool true) ∧ Fr Nob X w' := by
  have h := prg_Same X ⟨0, ⟨#[]⟩, 0, 0, 0, 0⟩ ⟨0, ⟨#[]⟩, 0, 0, 0, 0⟩ none none 0 0 .nil .nil (FoSl.nil _ _) (FoSl.nil _ _) (by simp [Fo.tr, Tr.size])
  rw [same_one] at h
  exact h
set_option maxRecDepth 100000 in
set_option maxHeartbeats 4000000 in
theorem law_ParseShown (W : World) (s : ByteArray) (hs : s.size ≤ 9223372036854775807) (hv : ErrVar W) (hsh : ShVar W) (htb : TbVar W) : Calls Tryd.prog 10 #[.string s] W fun en w' => en = .returned (.bool true) ∧ Fr Nob W w' := by
  have HAW := Lib.hid (law10_awake W hv hsh)
  by_cases h5 : 1000 < s.size
  · have hI : (1000 : Int) < s.size := by omega
    clear hv hsh h5 htb
    go_enter Tryd.func10, Tryd.ntmps10
    go_wp2_with ((go_at_call 20); refine (HAW.out).mono ?_; rintro en w1 ⟨rfl, hf⟩)
    go_ret
    exact ⟨rfl, hf⟩
  have hI : (s.size : Int) ≤ 1000 := by omega
  obtain ⟨q, hq⟩ := parse_all s.data.toList
  have HP0 := Lib.hid (fun X (hf : Fr Nob W X) => prg_Parse X s hs (hv.fr hf) (hsh.fr hf) q hq)
  cases q with
  | bad e p =>
    have he : (e == 0) = false := by simpa using bad_ne hq
    have hp := bad_place hq
    rw [ba_len2] at hp
    have hp1 : (p : Int) ≤ s.size := by omega
    have hp0 : (0 : Int) ≤ p := by omega
    have HSN := Lib.hid same_nil
    unfold ParseR fval at HP0
    unfold fval at HSN
    clear hv hsh h5 hq htb hp
    go_enter Tryd.func10, Tryd.ntmps10
    go_wp2_with (first
      | ((go_at_call 20); refine (HAW.out).mono ?_; rintro en w1 ⟨rfl, hf⟩)
      | ((go_at_call 21); (with_reducible refine (HP0.out _ hf).mono ?_); rintro en w2 ⟨rfl, hf2⟩; replace hf := hf.call hf2 (fun _ h _ => h))
      | ((go_at_call 15); (with_reducible refine (HSN.out _).mono ?_); rintro en w3 ⟨rfl, hf2⟩; replace hf := (hf.alloc _).call hf2 (fun _ h _ => h)))
    go_ret
    exact ⟨rfl, hf⟩
  | good x ks =>
    obtain ⟨o, ho⟩ := good_of hq
    have hsn : Shn x ks := ⟨parsed_fit hq, ho.check⟩
    have HSH := Lib.hid (fun X (hf : Fr Nob W X) => hsn.show_ hsh htb hf)
    have HCK := Lib.hid (fun X (hf : Fr Nob W X) => hsn.check_ hsh hf)
    have HSM := Lib.hid (same_true (x := x) (ks := ks) (by have := check_small ho.check; omega))
    have htp := text_parse hsn.fit.nd hsn.fit.ok hsn.check
    have hne := text_ne hsn.fit.nd hsn.fit.ok hsn.check
    have hsz := hsn.size
    obtain ⟨t, ht⟩ : ∃ t, showT x ks = t := ⟨_, rfl⟩
    rw [ht] at htp hne hsz
    simp only [ht] at HSH
    rw [ba_len2] at htp
    have hts : t.size ≤ 9223372036854775807 := by omega
    have hte : (t.toList == ([] : List UInt8)) = false := by rw [ByteArray.toList_eq]; simpa using hne
    unfold ParseR at HP0
    unfold fval at HP0 HSH HCK HSM
    by_cases h512 : 512 < t.size
    · have hJ : (512 : Int) < t.size := by omega
      have HP1 := Lib.hid (fun X (hf : Fr Nob W X) => prg_Parse X t hts (hv.fr hf) (hsh.fr hf) _ (htp.2 h512))
      unfold ParseR fval at HP1
      clear hv hsh h5 hq htb ho hsn htp hne hsz ht h512 hts
      go_enter Tryd.func10, Tryd.ntmps10
      go_wp2_with (first
        | ((go_at_call 20); refine (HAW.out).mono ?_; rintro en w1 ⟨rfl, hf⟩)
        | ((go_at_call 21); (with_reducible refine (HP0.out _ hf).mono ?_); rintro en w2 ⟨B, d, f, rfl, htr, hsl, hf2⟩; have HF := Lib.hid (hf.call hf2 (fun _ h _ => h)); have HS1 := Lib.hid (hsl.lt.sl (N := w2.heap.size) (fun k hk => hk.2)); have HT1 := Lib.hid htr; have HX := Lib.hid (Blk.new w2 28 #[.int .i64 x.op, .string x.name, .int .i64 x.cmp, .int .i64 x.val, .int .i64 x.lo, .int .i64 x.hi, .slice B f.len d]); clear hsl htr hf hf2)
        | ((go_at_call 17); (with_reducible refine (HSH.out _ (HF.out.alloc _) _ _ _ ((HS1.out.fr ((Fr.refl Nob _).alloc _)).mono (by simp)) HT1.out).mono ?_); rintro en w3 ⟨rfl, hf⟩; replace HS1 := Lib.hid ((HS1.out.fr ((Fr.refl Nob _).alloc _)).fr hf); replace HX := Lib.hid (HX.out.fr hf (fun e => e)); replace HF := Lib.hid ((HF.out.alloc _).call hf (fun _ h _ => h)); have xc := HX.out.cell; have xl := HX.out.lt; have hz3 := hf.size; simp only [World.size_alloc] at hz3; clear hf)
        | ((go_at_call 25); (with_reducible refine (HCK.out _ HF.out _ _ _ (HS1.out.mono (by omega)) HT1.out).mono ?_); rintro en w4 ⟨rfl, hf⟩; replace HS1 := Lib.hid (HS1.out.fr hf); replace HX := Lib.hid (HX.out.fr hf (fun e => e)); replace HF := Lib.hid (HF.out.call hf (fun _ h _ => h)); replace xc := HX.out.cell; replace xl := HX.out.lt; have hz4 := hf.size; clear hf)
        | ((go_at_call 21); (with_reducible refine (HP1.out _ HF.out).mono ?_); rintro en w5 ⟨rfl, hf⟩; replace HF := Lib.hid (HF.out.call hf (fun _ h _ => h)); clear hf))
      go_ret
      exact ⟨rfl, HF.out.alloc _⟩
    · have hJ : (t.size : Int) ≤ 512 := by omega
      have HP1 := Lib.hid (fun X (hf : Fr Nob W X) => prg_Parse X t hts (hv.fr hf) (hsh.fr hf) _ (htp.1 (by omega)))
      unfold ParseR fval at HP1
      clear hv hsh h5 hq htb ho hsn htp hne hsz ht h512 hts
      go_enter Tryd.func10, Tryd.ntmps10
      go_wp2_with (first
        | ((go_at_call 20); refine (HAW.out).mono ?_; rintro en w1 ⟨rfl, hf⟩)
        | ((go_at_call 21); (with_reducible refine (HP0.out _ hf).mono ?_); rintro en w2 ⟨B, d, f, rfl, htr, hsl, hf2⟩; have HF := Lib.hid (hf.call hf2 (fun _ h _ => h)); have HS1 := Lib.hid (hsl.lt.sl (N := w2.heap.size) (fun k hk => hk.2)); have HT1 := Lib.hid htr; have HX := Lib.hid (Blk.new w2 28 #[.int .i64 x.op, .string x.name, .int .i64 x.cmp, .int .i64 x.val, .int .i64 x.lo, .int .i64 x.hi, .slice B f.len d]); clear hsl htr hf hf2)
        | ((go_at_call 17); (with_reducible refine (HSH.out _ (HF.out.alloc _) _ _ _ ((HS1.out.fr ((Fr.refl Nob _).alloc _)).mono (by simp)) HT1.out).mono ?_); rintro en w3 ⟨rfl, hf⟩; replace HS1 := Lib.hid ((HS1.out.fr ((Fr.refl Nob _).alloc _)).fr hf); replace HX := Lib.hid (HX.out.fr hf (fun e => e)); replace HF := Lib.hid ((HF.out.alloc _).call hf (fun _ h _ => h)); have xc := HX.out.cell; have xl := HX.out.lt; have hz3 := hf.size; simp only [World.size_alloc] at hz3; clear hf)
        | ((go_at_call 25); (with_reducible refine (HCK.out _ HF.out _ _ _ (HS1.out.mono (by omega)) HT1.out).mono ?_); rintro en w4 ⟨rfl, hf⟩; replace HS1 := Lib.hid (HS1.out.fr hf); replace HX := Lib.hid (HX.out.fr hf (fun e => e)); replace HF := Lib.hid (HF.out.call hf (fun _ h _ => h)); replace xc := HX.out.cell; replace xl := HX.out.lt; have hz4 := hf.size; clear hf)
        | ((go_at_call 21); (with_reducible refine (HP1.out _ HF.out).mono ?_); rintro en w5 ⟨C, e, g, rfl, htr, hsl, hf⟩; have HT2 := Lib.hid htr; have HS2 := Lib.hid (hsl.lt.sl (N := w5.heap.size) (fun k hk => hk.2)); replace HS1 := Lib.hid (HS1.out.fr hf); replace HX := Lib.hid (HX.out.fr hf (fun e => e)); replace HF := Lib.hid (HF.out.call hf (fun _ h _ => h)); replace xc := HX.out.cell; replace xl := HX.out.lt; have hz5 := hf.size; clear hf htr hsl)
        | ((go_at_call 15); (with_reducible refine (HSM.out _ _ _ _ _ _ _ ((HS1.out.fr ((Fr.refl Nob _).alloc _)).mono (by simp; omega)) ((HS2.out.fr ((Fr.refl Nob _).alloc _)).mono (by simp)) HT1.out HT2.out).mono ?_); rintro en w6 ⟨rfl, hf⟩; replace HF := Lib.hid ((HF.out.alloc _).call hf (fun _ h _ => h)); clear hf))
      go_ret
      exact ⟨rfl, HF.out⟩
end Go.Proofs.YtanhmigknafhkaaDoor
