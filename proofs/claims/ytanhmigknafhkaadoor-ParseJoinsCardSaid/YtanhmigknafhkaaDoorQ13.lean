/- ParseJoins. -/
import Derived.Test.YtanhmigknafhkaaDoorQ12
import Derived.Test.YtanhmigknafhkaaDoorPjoin
import Derived.Test.YtanhmigknafhkaaDoorPback
namespace Go.Proofs.YtanhmigknafhkaaDoor
open Go.RowKit Go.Shelf
attribute [local go_sem] Instr.field asAgg

theorem len_of {s : ByteArray} {x : Nd} {ks : Tr} {o : List (TK × Nat)} (h : GoodT s.data.toList x ks o) : s.size ≤ 512 := by
  have := h.len; rw [ba_len2] at this; exact this
theorem joinB (s t : ByteArray) (r : Nat) (g : ByteArray) (hg : g.data.toList = jsg r) : ((⟨#[40]⟩ : ByteArray) ++ s ++ (⟨#[41]⟩ : ByteArray) ++ g ++ (⟨#[40]⟩ : ByteArray) ++ t ++ (⟨#[41]⟩ : ByteArray)).data.toList = joinT s.data.toList t.data.toList r := by
  simp [ByteArray.data_append, joinT, hg]
theorem jworld {w4 : World} {x y : Nd} {B C : Option Addr} {d e : Nat} {f g : Fo} (ocs zcs : Array Value) (h1 : FoSlP (fun _ => True) w4 B d f) (h2 : FoSlP (fun _ => True) w4 C e g) :
    ∃ wa, ((w4.alloc (.cells ocs 28)).alloc (.cells #[.int .i64 x.op, .string x.name, .int .i64 x.cmp, .int .i64 x.val, .int .i64 x.lo, .int .i64 x.hi, .slice B f.len d, .int .i64 y.op, .string y.name, .int .i64 y.cmp, .int .i64 y.val, .int .i64 y.lo, .int .i64 y.hi, .slice C g.len e] 28)).alloc (.cells zcs 28) = wa ∧ Fr Nob w4 wa ∧ FoSl wa.heap.size wa (some ⟨w4.heap.size + 1, 0, none⟩) 2 (.cons x B d f (.cons y C e g .nil)) ∧
      Blk wa w4.heap.size 28 ocs ∧ Blk wa (w4.heap.size + 2) 28 zcs := by
  refine ⟨_, rfl, ?_, ?_, ?_, ?_⟩
  · exact (((Fr.refl _ _).alloc _).alloc _).alloc _
  · have hf : Fr Nob w4 (((w4.alloc (.cells ocs 28)).alloc (.cells (pairC x B f.len d y C g.len e) 28)).alloc (.cells zcs 28)) := (((Fr.refl _ _).alloc _).alloc _).alloc _
    have hb : Blk (((w4.alloc (.cells ocs 28)).alloc (.cells (pairC x B f.len d y C g.len e) 28)).alloc (.cells zcs 28)) (w4.heap.size + 1) 28 (pairC x B f.len d y C g.len e) := (Blk.new_eq (by simp)).alloc _
    exact (kids_two hb (sl_fr h1 hf (fun _ _ e => e)) (sl_fr h2 hf (fun _ _ e => e)) trivial).lt.sl (fun k hk => hk.2)
  · exact ((Blk.new _ _ _).alloc _).alloc _
  · exact Blk.new_eq (by simp)
theorem join_check {W : World} {op : Int} {x y : Nd} {ks js : Tr} (hx : Fit x ks) (hy : Fit y js) (h1 : ks.size ≤ 48) (h2 : js.size ≤ 48) (hsh : ShVar W) (X : World) (hf : Fr Nob W X) (A B C : Option Addr) (d e : Nat) (f g : Fo) (hs : FoSl X.heap.size X A 2 (.cons x B d f (.cons y C e g .nil))) (e1 : f.tr = ks) (e2 : g.tr = js) :
    Calls Tryd.prog 25 #[fval (nd1 op 0 0) A 2 2] X fun en w' => en = .returned (.int .i64 (checkT (nd1 op 0 0) (two x ks y js))) ∧ Fr Nob X w' := by
  subst e1 e2
  exact prg_Check X (nd1 op 0 0) A 2 (.cons x B d f (.cons y C e g .nil)) hs (by simp [Fo.tr, Tr.size]; omega) (hsh.fr hf) (nm_nodes (by simp [nd1, ByteArray.size]) ⟨hx.name, hx.names, hy.name, hy.names, trivial⟩)
theorem join_same {op : Int} {x y : Nd} {ks js : Tr} (hc : (two x ks y js).size ≤ 100000) (X : World) (D : Option Addr) (u : Nat) (h : Fo) (A B C : Option Addr) (d e : Nat) (f g : Fo) (h1 : FoSl X.heap.size X D u h) (h2 : FoSl X.heap.size X A 2 (.cons x B d f (.cons y C e g .nil))) (e3 : h.tr = two x ks y js) (e1 : f.tr = ks) (e2 : g.tr = js) :
    Calls Tryd.prog 15 #[fval ⟨op, ⟨#[]⟩, 0, 0, 0, 0⟩ D h.len u, fval ⟨op, ⟨#[]⟩, 0, 0, 0, 0⟩ A 2 2] X fun en w' => en = .returned (.bool true) ∧ Fr Nob X w' :=
  same_true hc X D u h A 2 (.cons x B d f (.cons y C e g .nil)) h1 h2 e3 (by simp only [Fo.tr, e1, e2]; rfl)
set_option maxRecDepth 100000 in
set_option maxHeartbeats 4000000 in
theorem join_at0 (W : World) (s t : ByteArray) (n : Int) (hs : s.size ≤ 9223372036854775807) (ht : t.size ≤ 9223372036854775807) (hv : ErrVar W) (hsh : ShVar W) (hI : (s.size : Int) ≤ 240) (hJ : (t.size : Int) ≤ 240) (hr : n % 4 = 0) (hn0 : 0 ≤ n) (hn1 : n ≤ 255) (x y : Nd) (ks js : Tr) (hq : ParseIs s.data.toList (.good x ks)) (hq2 : ParseIs t.data.toList (.good y js)) :
    Calls Tryd.prog 8 #[.string s, .string t, .int .u8 n] W fun en w' => en = .returned (.bool true) ∧ Fr Nob W w' := by
  have HAW := Lib.hid (law10_awake W hv hsh)
  have HP0 := Lib.hid (fun X (hf : Fr Nob W X) => prg_Parse X s hs (hv.fr hf) (hsh.fr hf) _ hq)
  have HP1 := Lib.hid (fun X (hf : Fr Nob W X) => prg_Parse X t ht (hv.fr hf) (hsh.fr hf) _ hq2)
  obtain ⟨o, ho⟩ := good_of hq
  obtain ⟨p, hp⟩ := good_of hq2
  have hl := ba_len2 s
  have hl2 := ba_len2 t
  unfold ParseR at HP0 HP1
  unfold fval at HP0 HP1
  dsimp only at HP0 HP1
  have hjs : ((⟨#[40]⟩ : ByteArray) ++ s ++ (⟨#[41]⟩ : ByteArray) ++ (⟨#[38]⟩ : ByteArray) ++ (⟨#[40]⟩ : ByteArray) ++ t ++ (⟨#[41]⟩ : ByteArray)).data.toList = joinT s.data.toList t.data.toList 0 := joinB s t 0 ⟨#[38]⟩ rfl
  have hz : ((⟨#[40]⟩ : ByteArray) ++ s ++ (⟨#[41]⟩ : ByteArray) ++ (⟨#[38]⟩ : ByteArray) ++ (⟨#[40]⟩ : ByteArray) ++ t ++ (⟨#[41]⟩ : ByteArray)).size ≤ 9223372036854775807 := by rw [← ba_len2, hjs]; simp [joinT, jsg]; omega
  have HCW := Lib.hid (join_check (W := W) (op := 5) (parsed_fit hq) (parsed_fit hq2) (check_small ho.check) (check_small hp.check) hsh)
  have hjp := join_parse ho hp (by omega) (by omega) 0 (by decide)
  rw [show jop 0 = 5 from rfl] at hjp
  unfold nd1 at HCW hjp
  by_cases hc : checkT ⟨5, ⟨#[]⟩, 0, 0, 0, 0⟩ (two x ks y js) = 0
  · have HP2 := Lib.hid (fun X (hf : Fr Nob W X) => prg_Parse X _ hz (hv.fr hf) (hsh.fr hf) _ (by rw [hjs]; exact hjp.1 hc))
    have HSM := Lib.hid (join_same (op := 5) (x := x) (ks := ks) (y := y) (js := js) (by have := check_small hc; omega))
    rw [hc] at HCW
    unfold ParseR fval at HP2
    unfold fval at HCW HSM
    clear hv hsh hq hq2 ho hp hjs hz hc hjp
    go_enter Tryd.func8, Tryd.ntmps8
    go_upto_region 14 with (first
      | ((go_at_call 20); refine (HAW.out).mono ?_; rintro en w1 ⟨rfl, hf⟩)
      | ((go_at_call 21); (with_reducible refine (HP0.out _ hf).mono ?_); rintro en w2 ⟨B, d, f, rfl, htr, hsl, hf2⟩; have HF := Lib.hid (hf.call hf2 (fun _ h _ => h)); have HS1 := Lib.hid (hsl.mono (q := fun _ => True) (fun _ _ => trivial)); have HT1 := Lib.hid htr; have HX := Lib.hid (Blk.new w2 28 #[.int .i64 x.op, .string x.name, .int .i64 x.cmp, .int .i64 x.val, .int .i64 x.lo, .int .i64 x.hi, .slice B f.len d]); clear hsl htr hf hf2)
      | ((go_at_call 21); (with_reducible refine (HP1.out _ (HF.out.alloc _)).mono ?_); rintro en w3 ⟨C, e, g, rfl, htr, hsl, hf⟩; have HS2 := Lib.hid (hsl.mono (q := fun _ => True) (fun _ _ => trivial)); have HT2 := Lib.hid htr; replace HS1 := Lib.hid (sl_fr (sl_fr HS1.out ((Fr.refl Nob _).alloc _) (fun _ _ e => e)) hf (fun _ _ e => e)); replace HX := Lib.hid (HX.out.fr hf (fun e => e)); replace HF := Lib.hid ((HF.out.alloc _).call hf (fun _ h _ => h)); have HY := Lib.hid (Blk.new w3 28 #[.int .i64 y.op, .string y.name, .int .i64 y.cmp, .int .i64 y.val, .int .i64 y.lo, .int .i64 y.hi, .slice C g.len e]); have hz3 := hf.size; simp only [World.size_alloc] at hz3; clear hsl htr hf)
      | ((go_at_call 21); (with_reducible refine (HP2.out _ ((HF.out.alloc _).alloc _)).mono ?_); rintro en w4 ⟨D, u, h, rfl, htr, hsl, hf⟩; have HS3 := Lib.hid (hsl.mono (q := fun _ => True) (fun _ _ => trivial)); have HT3 := Lib.hid htr; have HV := Lib.hid (Blk.new w4 28 #[.int .i64 5, .string ⟨#[]⟩, .int .i64 0, .int .i64 0, .int .i64 0, .int .i64 0, .slice D h.len u]); replace HS1 := Lib.hid (sl_fr (sl_fr HS1.out (((Fr.refl Nob _).alloc _).alloc _) (fun _ _ e => e)) hf (fun _ _ e => e)); replace HS2 := Lib.hid (sl_fr (sl_fr HS2.out (((Fr.refl Nob _).alloc _).alloc _) (fun _ _ e => e)) hf (fun _ _ e => e)); replace HX := Lib.hid (((HX.out.alloc _).alloc _).fr hf (fun e => e)); replace HY := Lib.hid ((HY.out.alloc _).fr hf (fun e => e)); replace HF := Lib.hid (((HF.out.alloc _).alloc _).call hf (fun _ h _ => h)); have xc := HX.out.cell; have xl := HX.out.lt; have yc := HY.out.cell; have yl := HY.out.lt; clear hf htr hsl)
      )
    obtain ⟨wa, hwa, hfa, hrow, hbo, hbz⟩ := jworld (x := x) (y := y) #[.int .i64 5, .string ⟨#[]⟩, .int .i64 0, .int .i64 0, .int .i64 0, .int .i64 0, .slice D h.len u] #[.int .i64 5, .string ⟨#[]⟩, .int .i64 0, .int .i64 0, .int .i64 0, .int .i64 0, .slice (some ⟨w4.heap.size + 1, 0, none⟩) 2 2] HS1.out HS2.out
    rw [hwa]
    have HROW := Lib.hid hrow
    have HBO := Lib.hid hbo
    have HBZ := Lib.hid hbz
    have HS4 := Lib.hid (sl_fr HS3.out hfa (fun _ _ e => e))
    replace HF := Lib.hid (HF.out.call hfa (fun _ h _ => h))
    have zc := hbz.cell
    have zl := hbz.lt
    clear hwa hfa hrow hbo hbz xc xl yc yl HX HY HS1 HS2 HS3
    go_wp2_with (first
      | ((go_at_call 25); (with_reducible refine (HCW.out _ HF.out _ _ _ _ _ _ _ HROW.out HT1.out HT2.out).mono ?_); rintro en w5 ⟨rfl, hf⟩; replace HF := Lib.hid (HF.out.call hf (fun _ h _ => h)); replace HROW := Lib.hid ((HROW.out.fr hf).mono hf.size); replace HS4 := Lib.hid ((sl_fr HS4.out hf (fun _ _ e => e)).lt.sl (N := w5.heap.size) (fun k hk => hk.2)); replace HBO := Lib.hid (HBO.out.fr hf (fun e => e)); replace HBZ := Lib.hid (HBZ.out.fr hf (fun e => e)); replace zc := HBZ.out.cell; replace zl := HBZ.out.lt; have oc := HBO.out.cell; have ol := HBO.out.lt; clear hf)
      | ((go_at_call 15); (with_reducible refine (HSM.out _ _ _ _ _ _ _ _ _ _ _ HS4.out HROW.out HT3.out HT1.out HT2.out).mono ?_); rintro en w6 ⟨rfl, hf⟩; replace HF := Lib.hid (HF.out.call hf (fun _ h _ => h)); clear hf)
      )
    go_ret
    exact ⟨rfl, HF.out⟩
  · have HP2 := Lib.hid (fun X (hf : Fr Nob W X) => prg_Parse X _ hz (hv.fr hf) (hsh.fr hf) _ (by rw [hjs]; exact hjp.2 hc))
    unfold ParseR fval at HP2
    unfold fval at HCW
    generalize checkT ⟨5, ⟨#[]⟩, 0, 0, 0, 0⟩ (two x ks y js) = ce at *
    have hcc : (ce == 0) = false := by simpa using hc
    clear hv hsh hq hq2 ho hp hjs hz hc hjp
    go_enter Tryd.func8, Tryd.ntmps8
    go_upto_region 14 with (first
      | ((go_at_call 20); refine (HAW.out).mono ?_; rintro en w1 ⟨rfl, hf⟩)
      | ((go_at_call 21); (with_reducible refine (HP0.out _ hf).mono ?_); rintro en w2 ⟨B, d, f, rfl, htr, hsl, hf2⟩; have HF := Lib.hid (hf.call hf2 (fun _ h _ => h)); have HS1 := Lib.hid (hsl.mono (q := fun _ => True) (fun _ _ => trivial)); have HT1 := Lib.hid htr; have HX := Lib.hid (Blk.new w2 28 #[.int .i64 x.op, .string x.name, .int .i64 x.cmp, .int .i64 x.val, .int .i64 x.lo, .int .i64 x.hi, .slice B f.len d]); clear hsl htr hf hf2)
      | ((go_at_call 21); (with_reducible refine (HP1.out _ (HF.out.alloc _)).mono ?_); rintro en w3 ⟨C, e, g, rfl, htr, hsl, hf⟩; have HS2 := Lib.hid (hsl.mono (q := fun _ => True) (fun _ _ => trivial)); have HT2 := Lib.hid htr; replace HS1 := Lib.hid (sl_fr (sl_fr HS1.out ((Fr.refl Nob _).alloc _) (fun _ _ e => e)) hf (fun _ _ e => e)); replace HX := Lib.hid (HX.out.fr hf (fun e => e)); replace HF := Lib.hid ((HF.out.alloc _).call hf (fun _ h _ => h)); have HY := Lib.hid (Blk.new w3 28 #[.int .i64 y.op, .string y.name, .int .i64 y.cmp, .int .i64 y.val, .int .i64 y.lo, .int .i64 y.hi, .slice C g.len e]); have hz3 := hf.size; simp only [World.size_alloc] at hz3; clear hsl htr hf)
      | ((go_at_call 21); (with_reducible refine (HP2.out _ ((HF.out.alloc _).alloc _)).mono ?_); rintro en w4 ⟨rfl, hf⟩; replace HS1 := Lib.hid (sl_fr (sl_fr HS1.out (((Fr.refl Nob _).alloc _).alloc _) (fun _ _ e => e)) hf (fun _ _ e => e)); replace HS2 := Lib.hid (sl_fr (sl_fr HS2.out (((Fr.refl Nob _).alloc _).alloc _) (fun _ _ e => e)) hf (fun _ _ e => e)); replace HX := Lib.hid (((HX.out.alloc _).alloc _).fr hf (fun e => e)); replace HY := Lib.hid ((HY.out.alloc _).fr hf (fun e => e)); replace HF := Lib.hid (((HF.out.alloc _).alloc _).call hf (fun _ h _ => h)); have xc := HX.out.cell; have xl := HX.out.lt; have yc := HY.out.cell; have yl := HY.out.lt; clear hf)
      )
    obtain ⟨wa, hwa, hfa, hrow, hbo, hbz⟩ := jworld (x := x) (y := y) #[.int .i64 0, .string ⟨#[]⟩, .int .i64 0, .int .i64 0, .int .i64 0, .int .i64 0, .slice none 0 0] #[.int .i64 5, .string ⟨#[]⟩, .int .i64 0, .int .i64 0, .int .i64 0, .int .i64 0, .slice (some ⟨w4.heap.size + 1, 0, none⟩) 2 2] HS1.out HS2.out
    rw [hwa]
    have HROW := Lib.hid hrow
    replace HF := Lib.hid (HF.out.call hfa (fun _ h _ => h))
    have zc := hbz.cell
    have zl := hbz.lt
    clear hwa hfa hrow hbo hbz xc xl yc yl HX HY HS1 HS2
    go_wp2_with (first
      | ((go_at_call 25); (with_reducible refine (HCW.out _ HF.out _ _ _ _ _ _ _ HROW.out HT1.out HT2.out).mono ?_); rintro en w5 ⟨rfl, hf⟩; replace HF := Lib.hid (HF.out.call hf (fun _ h _ => h)); clear hf)
      )
    go_ret
    exact ⟨rfl, HF.out⟩
set_option maxRecDepth 100000 in
set_option maxHeartbeats 4000000 in
theorem join_at1 (W : World) (s t : ByteArray) (n : Int) (hs : s.size ≤ 9223372036854775807) (ht : t.size ≤ 9223372036854775807) (hv : ErrVar W) (hsh : ShVar W) (hI : (s.size : Int) ≤ 240) (hJ : (t.size : Int) ≤ 240) (hr : n % 4 = 1) (hn0 : 0 ≤ n) (hn1 : n ≤ 255) (x y : Nd) (ks js : Tr) (hq : ParseIs s.data.toList (.good x ks)) (hq2 : ParseIs t.data.toList (.good y js)) :
    Calls Tryd.prog 8 #[.string s, .string t, .int .u8 n] W fun en w' => en = .returned (.bool true) ∧ Fr Nob W w' := by
  have HAW := Lib.hid (law10_awake W hv hsh)
  have HP0 := Lib.hid (fun X (hf : Fr Nob W X) => prg_Parse X s hs (hv.fr hf) (hsh.fr hf) _ hq)
  have HP1 := Lib.hid (fun X (hf : Fr Nob W X) => prg_Parse X t ht (hv.fr hf) (hsh.fr hf) _ hq2)
  obtain ⟨o, ho⟩ := good_of hq
  obtain ⟨p, hp⟩ := good_of hq2
  have hl := ba_len2 s
  have hl2 := ba_len2 t
  unfold ParseR at HP0 HP1
  unfold fval at HP0 HP1
  dsimp only at HP0 HP1
  have hjs : ((⟨#[40]⟩ : ByteArray) ++ s ++ (⟨#[41]⟩ : ByteArray) ++ (⟨#[124]⟩ : ByteArray) ++ (⟨#[40]⟩ : ByteArray) ++ t ++ (⟨#[41]⟩ : ByteArray)).data.toList = joinT s.data.toList t.data.toList 1 := joinB s t 1 ⟨#[124]⟩ rfl
  have hz : ((⟨#[40]⟩ : ByteArray) ++ s ++ (⟨#[41]⟩ : ByteArray) ++ (⟨#[124]⟩ : ByteArray) ++ (⟨#[40]⟩ : ByteArray) ++ t ++ (⟨#[41]⟩ : ByteArray)).size ≤ 9223372036854775807 := by rw [← ba_len2, hjs]; simp [joinT, jsg]; omega
  have HCW := Lib.hid (join_check (W := W) (op := 6) (parsed_fit hq) (parsed_fit hq2) (check_small ho.check) (check_small hp.check) hsh)
  have hjp := join_parse ho hp (by omega) (by omega) 1 (by decide)
  rw [show jop 1 = 6 from rfl] at hjp
  unfold nd1 at HCW hjp
  by_cases hc : checkT ⟨6, ⟨#[]⟩, 0, 0, 0, 0⟩ (two x ks y js) = 0
  · have HP2 := Lib.hid (fun X (hf : Fr Nob W X) => prg_Parse X _ hz (hv.fr hf) (hsh.fr hf) _ (by rw [hjs]; exact hjp.1 hc))
    have HSM := Lib.hid (join_same (op := 6) (x := x) (ks := ks) (y := y) (js := js) (by have := check_small hc; omega))
    rw [hc] at HCW
    unfold ParseR fval at HP2
    unfold fval at HCW HSM
    clear hv hsh hq hq2 ho hp hjs hz hc hjp
    go_enter Tryd.func8, Tryd.ntmps8
    go_upto_region 14 with (first
      | ((go_at_call 20); refine (HAW.out).mono ?_; rintro en w1 ⟨rfl, hf⟩)
      | ((go_at_call 21); (with_reducible refine (HP0.out _ hf).mono ?_); rintro en w2 ⟨B, d, f, rfl, htr, hsl, hf2⟩; have HF := Lib.hid (hf.call hf2 (fun _ h _ => h)); have HS1 := Lib.hid (hsl.mono (q := fun _ => True) (fun _ _ => trivial)); have HT1 := Lib.hid htr; have HX := Lib.hid (Blk.new w2 28 #[.int .i64 x.op, .string x.name, .int .i64 x.cmp, .int .i64 x.val, .int .i64 x.lo, .int .i64 x.hi, .slice B f.len d]); clear hsl htr hf hf2)
      | ((go_at_call 21); (with_reducible refine (HP1.out _ (HF.out.alloc _)).mono ?_); rintro en w3 ⟨C, e, g, rfl, htr, hsl, hf⟩; have HS2 := Lib.hid (hsl.mono (q := fun _ => True) (fun _ _ => trivial)); have HT2 := Lib.hid htr; replace HS1 := Lib.hid (sl_fr (sl_fr HS1.out ((Fr.refl Nob _).alloc _) (fun _ _ e => e)) hf (fun _ _ e => e)); replace HX := Lib.hid (HX.out.fr hf (fun e => e)); replace HF := Lib.hid ((HF.out.alloc _).call hf (fun _ h _ => h)); have HY := Lib.hid (Blk.new w3 28 #[.int .i64 y.op, .string y.name, .int .i64 y.cmp, .int .i64 y.val, .int .i64 y.lo, .int .i64 y.hi, .slice C g.len e]); have hz3 := hf.size; simp only [World.size_alloc] at hz3; clear hsl htr hf)
      | ((go_at_call 21); (with_reducible refine (HP2.out _ ((HF.out.alloc _).alloc _)).mono ?_); rintro en w4 ⟨D, u, h, rfl, htr, hsl, hf⟩; have HS3 := Lib.hid (hsl.mono (q := fun _ => True) (fun _ _ => trivial)); have HT3 := Lib.hid htr; have HV := Lib.hid (Blk.new w4 28 #[.int .i64 6, .string ⟨#[]⟩, .int .i64 0, .int .i64 0, .int .i64 0, .int .i64 0, .slice D h.len u]); replace HS1 := Lib.hid (sl_fr (sl_fr HS1.out (((Fr.refl Nob _).alloc _).alloc _) (fun _ _ e => e)) hf (fun _ _ e => e)); replace HS2 := Lib.hid (sl_fr (sl_fr HS2.out (((Fr.refl Nob _).alloc _).alloc _) (fun _ _ e => e)) hf (fun _ _ e => e)); replace HX := Lib.hid (((HX.out.alloc _).alloc _).fr hf (fun e => e)); replace HY := Lib.hid ((HY.out.alloc _).fr hf (fun e => e)); replace HF := Lib.hid (((HF.out.alloc _).alloc _).call hf (fun _ h _ => h)); have xc := HX.out.cell; have xl := HX.out.lt; have yc := HY.out.cell; have yl := HY.out.lt; clear hf htr hsl)
      )
    obtain ⟨wa, hwa, hfa, hrow, hbo, hbz⟩ := jworld (x := x) (y := y) #[.int .i64 6, .string ⟨#[]⟩, .int .i64 0, .int .i64 0, .int .i64 0, .int .i64 0, .slice D h.len u] #[.int .i64 6, .string ⟨#[]⟩, .int .i64 0, .int .i64 0, .int .i64 0, .int .i64 0, .slice (some ⟨w4.heap.size + 1, 0, none⟩) 2 2] HS1.out HS2.out
    rw [hwa]
    have HROW := Lib.hid hrow
    have HBO := Lib.hid hbo
    have HBZ := Lib.hid hbz
    have HS4 := Lib.hid (sl_fr HS3.out hfa (fun _ _ e => e))
    replace HF := Lib.hid (HF.out.call hfa (fun _ h _ => h))
    have zc := hbz.cell
    have zl := hbz.lt
    clear hwa hfa hrow hbo hbz xc xl yc yl HX HY HS1 HS2 HS3
    go_wp2_with (first
      | ((go_at_call 25); (with_reducible refine (HCW.out _ HF.out _ _ _ _ _ _ _ HROW.out HT1.out HT2.out).mono ?_); rintro en w5 ⟨rfl, hf⟩; replace HF := Lib.hid (HF.out.call hf (fun _ h _ => h)); replace HROW := Lib.hid ((HROW.out.fr hf).mono hf.size); replace HS4 := Lib.hid ((sl_fr HS4.out hf (fun _ _ e => e)).lt.sl (N := w5.heap.size) (fun k hk => hk.2)); replace HBO := Lib.hid (HBO.out.fr hf (fun e => e)); replace HBZ := Lib.hid (HBZ.out.fr hf (fun e => e)); replace zc := HBZ.out.cell; replace zl := HBZ.out.lt; have oc := HBO.out.cell; have ol := HBO.out.lt; clear hf)
      | ((go_at_call 15); (with_reducible refine (HSM.out _ _ _ _ _ _ _ _ _ _ _ HS4.out HROW.out HT3.out HT1.out HT2.out).mono ?_); rintro en w6 ⟨rfl, hf⟩; replace HF := Lib.hid (HF.out.call hf (fun _ h _ => h)); clear hf)
      )
    go_ret
    exact ⟨rfl, HF.out⟩
  · have HP2 := Lib.hid (fun X (hf : Fr Nob W X) => prg_Parse X _ hz (hv.fr hf) (hsh.fr hf) _ (by rw [hjs]; exact hjp.2 hc))
    unfold ParseR fval at HP2
    unfold fval at HCW
    generalize checkT ⟨6, ⟨#[]⟩, 0, 0, 0, 0⟩ (two x ks y js) = ce at *
    have hcc : (ce == 0) = false := by simpa using hc
    clear hv hsh hq hq2 ho hp hjs hz hc hjp
    go_enter Tryd.func8, Tryd.ntmps8
    go_upto_region 14 with (first
      | ((go_at_call 20); refine (HAW.out).mono ?_; rintro en w1 ⟨rfl, hf⟩)
      | ((go_at_call 21); (with_reducible refine (HP0.out _ hf).mono ?_); rintro en w2 ⟨B, d, f, rfl, htr, hsl, hf2⟩; have HF := Lib.hid (hf.call hf2 (fun _ h _ => h)); have HS1 := Lib.hid (hsl.mono (q := fun _ => True) (fun _ _ => trivial)); have HT1 := Lib.hid htr; have HX := Lib.hid (Blk.new w2 28 #[.int .i64 x.op, .string x.name, .int .i64 x.cmp, .int .i64 x.val, .int .i64 x.lo, .int .i64 x.hi, .slice B f.len d]); clear hsl htr hf hf2)
      | ((go_at_call 21); (with_reducible refine (HP1.out _ (HF.out.alloc _)).mono ?_); rintro en w3 ⟨C, e, g, rfl, htr, hsl, hf⟩; have HS2 := Lib.hid (hsl.mono (q := fun _ => True) (fun _ _ => trivial)); have HT2 := Lib.hid htr; replace HS1 := Lib.hid (sl_fr (sl_fr HS1.out ((Fr.refl Nob _).alloc _) (fun _ _ e => e)) hf (fun _ _ e => e)); replace HX := Lib.hid (HX.out.fr hf (fun e => e)); replace HF := Lib.hid ((HF.out.alloc _).call hf (fun _ h _ => h)); have HY := Lib.hid (Blk.new w3 28 #[.int .i64 y.op, .string y.name, .int .i64 y.cmp, .int .i64 y.val, .int .i64 y.lo, .int .i64 y.hi, .slice C g.len e]); have hz3 := hf.size; simp only [World.size_alloc] at hz3; clear hsl htr hf)
      | ((go_at_call 21); (with_reducible refine (HP2.out _ ((HF.out.alloc _).alloc _)).mono ?_); rintro en w4 ⟨rfl, hf⟩; replace HS1 := Lib.hid (sl_fr (sl_fr HS1.out (((Fr.refl Nob _).alloc _).alloc _) (fun _ _ e => e)) hf (fun _ _ e => e)); replace HS2 := Lib.hid (sl_fr (sl_fr HS2.out (((Fr.refl Nob _).alloc _).alloc _) (fun _ _ e => e)) hf (fun _ _ e => e)); replace HX := Lib.hid (((HX.out.alloc _).alloc _).fr hf (fun e => e)); replace HY := Lib.hid ((HY.out.alloc _).fr hf (fun e => e)); replace HF := Lib.hid (((HF.out.alloc _).alloc _).call hf (fun _ h _ => h)); have xc := HX.out.cell; have xl := HX.out.lt; have yc := HY.out.cell; have yl := HY.out.lt; clear hf)
      )
    obtain ⟨wa, hwa, hfa, hrow, hbo, hbz⟩ := jworld (x := x) (y := y) #[.int .i64 0, .string ⟨#[]⟩, .int .i64 0, .int .i64 0, .int .i64 0, .int .i64 0, .slice none 0 0] #[.int .i64 6, .string ⟨#[]⟩, .int .i64 0, .int .i64 0, .int .i64 0, .int .i64 0, .slice (some ⟨w4.heap.size + 1, 0, none⟩) 2 2] HS1.out HS2.out
    rw [hwa]
    have HROW := Lib.hid hrow
    replace HF := Lib.hid (HF.out.call hfa (fun _ h _ => h))
    have zc := hbz.cell
    have zl := hbz.lt
    clear hwa hfa hrow hbo hbz xc xl yc yl HX HY HS1 HS2
    go_wp2_with (first
      | ((go_at_call 25); (with_reducible refine (HCW.out _ HF.out _ _ _ _ _ _ _ HROW.out HT1.out HT2.out).mono ?_); rintro en w5 ⟨rfl, hf⟩; replace HF := Lib.hid (HF.out.call hf (fun _ h _ => h)); clear hf)
      )
    go_ret
    exact ⟨rfl, HF.out⟩
set_option maxRecDepth 100000 in
set_option maxHeartbeats 4000000 in
theorem join_at2 (W : World) (s t : ByteArray) (n : Int) (hs : s.size ≤ 9223372036854775807) (ht : t.size ≤ 9223372036854775807) (hv : ErrVar W) (hsh : ShVar W) (hI : (s.size : Int) ≤ 240) (hJ : (t.size : Int) ≤ 240) (hr : n % 4 = 2) (hn0 : 0 ≤ n) (hn1 : n ≤ 255) (x y : Nd) (ks js : Tr) (hq : ParseIs s.data.toList (.good x ks)) (hq2 : ParseIs t.data.toList (.good y js)) :
    Calls Tryd.prog 8 #[.string s, .string t, .int .u8 n] W fun en w' => en = .returned (.bool true) ∧ Fr Nob W w' := by
  have HAW := Lib.hid (law10_awake W hv hsh)
  have HP0 := Lib.hid (fun X (hf : Fr Nob W X) => prg_Parse X s hs (hv.fr hf) (hsh.fr hf) _ hq)
  have HP1 := Lib.hid (fun X (hf : Fr Nob W X) => prg_Parse X t ht (hv.fr hf) (hsh.fr hf) _ hq2)
  obtain ⟨o, ho⟩ := good_of hq
  obtain ⟨p, hp⟩ := good_of hq2
  have hl := ba_len2 s
  have hl2 := ba_len2 t
  unfold ParseR at HP0 HP1
  unfold fval at HP0 HP1
  dsimp only at HP0 HP1
  have hjs : ((⟨#[40]⟩ : ByteArray) ++ s ++ (⟨#[41]⟩ : ByteArray) ++ (⟨#[45, 62]⟩ : ByteArray) ++ (⟨#[40]⟩ : ByteArray) ++ t ++ (⟨#[41]⟩ : ByteArray)).data.toList = joinT s.data.toList t.data.toList 2 := joinB s t 2 ⟨#[45, 62]⟩ rfl
  have hz : ((⟨#[40]⟩ : ByteArray) ++ s ++ (⟨#[41]⟩ : ByteArray) ++ (⟨#[45, 62]⟩ : ByteArray) ++ (⟨#[40]⟩ : ByteArray) ++ t ++ (⟨#[41]⟩ : ByteArray)).size ≤ 9223372036854775807 := by rw [← ba_len2, hjs]; simp [joinT, jsg]; omega
  have HCW := Lib.hid (join_check (W := W) (op := 7) (parsed_fit hq) (parsed_fit hq2) (check_small ho.check) (check_small hp.check) hsh)
  have hjp := join_parse ho hp (by omega) (by omega) 2 (by decide)
  rw [show jop 2 = 7 from rfl] at hjp
  unfold nd1 at HCW hjp
  by_cases hc : checkT ⟨7, ⟨#[]⟩, 0, 0, 0, 0⟩ (two x ks y js) = 0
  · have HP2 := Lib.hid (fun X (hf : Fr Nob W X) => prg_Parse X _ hz (hv.fr hf) (hsh.fr hf) _ (by rw [hjs]; exact hjp.1 hc))
    have HSM := Lib.hid (join_same (op := 7) (x := x) (ks := ks) (y := y) (js := js) (by have := check_small hc; omega))
    rw [hc] at HCW
    unfold ParseR fval at HP2
    unfold fval at HCW HSM
    clear hv hsh hq hq2 ho hp hjs hz hc hjp
    go_enter Tryd.func8, Tryd.ntmps8
    go_upto_region 14 with (first
      | ((go_at_call 20); refine (HAW.out).mono ?_; rintro en w1 ⟨rfl, hf⟩)
      | ((go_at_call 21); (with_reducible refine (HP0.out _ hf).mono ?_); rintro en w2 ⟨B, d, f, rfl, htr, hsl, hf2⟩; have HF := Lib.hid (hf.call hf2 (fun _ h _ => h)); have HS1 := Lib.hid (hsl.mono (q := fun _ => True) (fun _ _ => trivial)); have HT1 := Lib.hid htr; have HX := Lib.hid (Blk.new w2 28 #[.int .i64 x.op, .string x.name, .int .i64 x.cmp, .int .i64 x.val, .int .i64 x.lo, .int .i64 x.hi, .slice B f.len d]); clear hsl htr hf hf2)
      | ((go_at_call 21); (with_reducible refine (HP1.out _ (HF.out.alloc _)).mono ?_); rintro en w3 ⟨C, e, g, rfl, htr, hsl, hf⟩; have HS2 := Lib.hid (hsl.mono (q := fun _ => True) (fun _ _ => trivial)); have HT2 := Lib.hid htr; replace HS1 := Lib.hid (sl_fr (sl_fr HS1.out ((Fr.refl Nob _).alloc _) (fun _ _ e => e)) hf (fun _ _ e => e)); replace HX := Lib.hid (HX.out.fr hf (fun e => e)); replace HF := Lib.hid ((HF.out.alloc _).call hf (fun _ h _ => h)); have HY := Lib.hid (Blk.new w3 28 #[.int .i64 y.op, .string y.name, .int .i64 y.cmp, .int .i64 y.val, .int .i64 y.lo, .int .i64 y.hi, .slice C g.len e]); have hz3 := hf.size; simp only [World.size_alloc] at hz3; clear hsl htr hf)
      | ((go_at_call 21); (with_reducible refine (HP2.out _ ((HF.out.alloc _).alloc _)).mono ?_); rintro en w4 ⟨D, u, h, rfl, htr, hsl, hf⟩; have HS3 := Lib.hid (hsl.mono (q := fun _ => True) (fun _ _ => trivial)); have HT3 := Lib.hid htr; have HV := Lib.hid (Blk.new w4 28 #[.int .i64 7, .string ⟨#[]⟩, .int .i64 0, .int .i64 0, .int .i64 0, .int .i64 0, .slice D h.len u]); replace HS1 := Lib.hid (sl_fr (sl_fr HS1.out (((Fr.refl Nob _).alloc _).alloc _) (fun _ _ e => e)) hf (fun _ _ e => e)); replace HS2 := Lib.hid (sl_fr (sl_fr HS2.out (((Fr.refl Nob _).alloc _).alloc _) (fun _ _ e => e)) hf (fun _ _ e => e)); replace HX := Lib.hid (((HX.out.alloc _).alloc _).fr hf (fun e => e)); replace HY := Lib.hid ((HY.out.alloc _).fr hf (fun e => e)); replace HF := Lib.hid (((HF.out.alloc _).alloc _).call hf (fun _ h _ => h)); have xc := HX.out.cell; have xl := HX.out.lt; have yc := HY.out.cell; have yl := HY.out.lt; clear hf htr hsl)
      )
    obtain ⟨wa, hwa, hfa, hrow, hbo, hbz⟩ := jworld (x := x) (y := y) #[.int .i64 7, .string ⟨#[]⟩, .int .i64 0, .int .i64 0, .int .i64 0, .int .i64 0, .slice D h.len u] #[.int .i64 7, .string ⟨#[]⟩, .int .i64 0, .int .i64 0, .int .i64 0, .int .i64 0, .slice (some ⟨w4.heap.size + 1, 0, none⟩) 2 2] HS1.out HS2.out
    rw [hwa]
    have HROW := Lib.hid hrow
    have HBO := Lib.hid hbo
    have HBZ := Lib.hid hbz
    have HS4 := Lib.hid (sl_fr HS3.out hfa (fun _ _ e => e))
    replace HF := Lib.hid (HF.out.call hfa (fun _ h _ => h))
    have zc := hbz.cell
    have zl := hbz.lt
    clear hwa hfa hrow hbo hbz xc xl yc yl HX HY HS1 HS2 HS3
    go_wp2_with (first
      | ((go_at_call 25); (with_reducible refine (HCW.out _ HF.out _ _ _ _ _ _ _ HROW.out HT1.out HT2.out).mono ?_); rintro en w5 ⟨rfl, hf⟩; replace HF := Lib.hid (HF.out.call hf (fun _ h _ => h)); replace HROW := Lib.hid ((HROW.out.fr hf).mono hf.size); replace HS4 := Lib.hid ((sl_fr HS4.out hf (fun _ _ e => e)).lt.sl (N := w5.heap.size) (fun k hk => hk.2)); replace HBO := Lib.hid (HBO.out.fr hf (fun e => e)); replace HBZ := Lib.hid (HBZ.out.fr hf (fun e => e)); replace zc := HBZ.out.cell; replace zl := HBZ.out.lt; have oc := HBO.out.cell; have ol := HBO.out.lt; clear hf)
      | ((go_at_call 15); (with_reducible refine (HSM.out _ _ _ _ _ _ _ _ _ _ _ HS4.out HROW.out HT3.out HT1.out HT2.out).mono ?_); rintro en w6 ⟨rfl, hf⟩; replace HF := Lib.hid (HF.out.call hf (fun _ h _ => h)); clear hf)
      )
    go_ret
    exact ⟨rfl, HF.out⟩
  · have HP2 := Lib.hid (fun X (hf : Fr Nob W X) => prg_Parse X _ hz (hv.fr hf) (hsh.fr hf) _ (by rw [hjs]; exact hjp.2 hc))
    unfold ParseR fval at HP2
    unfold fval at HCW
    generalize checkT ⟨7, ⟨#[]⟩, 0, 0, 0, 0⟩ (two x ks y js) = ce at *
    have hcc : (ce == 0) = false := by simpa using hc
    clear hv hsh hq hq2 ho hp hjs hz hc hjp
    go_enter Tryd.func8, Tryd.ntmps8
    go_upto_region 14 with (first
      | ((go_at_call 20); refine (HAW.out).mono ?_; rintro en w1 ⟨rfl, hf⟩)
      | ((go_at_call 21); (with_reducible refine (HP0.out _ hf).mono ?_); rintro en w2 ⟨B, d, f, rfl, htr, hsl, hf2⟩; have HF := Lib.hid (hf.call hf2 (fun _ h _ => h)); have HS1 := Lib.hid (hsl.mono (q := fun _ => True) (fun _ _ => trivial)); have HT1 := Lib.hid htr; have HX := Lib.hid (Blk.new w2 28 #[.int .i64 x.op, .string x.name, .int .i64 x.cmp, .int .i64 x.val, .int .i64 x.lo, .int .i64 x.hi, .slice B f.len d]); clear hsl htr hf hf2)
      | ((go_at_call 21); (with_reducible refine (HP1.out _ (HF.out.alloc _)).mono ?_); rintro en w3 ⟨C, e, g, rfl, htr, hsl, hf⟩; have HS2 := Lib.hid (hsl.mono (q := fun _ => True) (fun _ _ => trivial)); have HT2 := Lib.hid htr; replace HS1 := Lib.hid (sl_fr (sl_fr HS1.out ((Fr.refl Nob _).alloc _) (fun _ _ e => e)) hf (fun _ _ e => e)); replace HX := Lib.hid (HX.out.fr hf (fun e => e)); replace HF := Lib.hid ((HF.out.alloc _).call hf (fun _ h _ => h)); have HY := Lib.hid (Blk.new w3 28 #[.int .i64 y.op, .string y.name, .int .i64 y.cmp, .int .i64 y.val, .int .i64 y.lo, .int .i64 y.hi, .slice C g.len e]); have hz3 := hf.size; simp only [World.size_alloc] at hz3; clear hsl htr hf)
      | ((go_at_call 21); (with_reducible refine (HP2.out _ ((HF.out.alloc _).alloc _)).mono ?_); rintro en w4 ⟨rfl, hf⟩; replace HS1 := Lib.hid (sl_fr (sl_fr HS1.out (((Fr.refl Nob _).alloc _).alloc _) (fun _ _ e => e)) hf (fun _ _ e => e)); replace HS2 := Lib.hid (sl_fr (sl_fr HS2.out (((Fr.refl Nob _).alloc _).alloc _) (fun _ _ e => e)) hf (fun _ _ e => e)); replace HX := Lib.hid (((HX.out.alloc _).alloc _).fr hf (fun e => e)); replace HY := Lib.hid ((HY.out.alloc _).fr hf (fun e => e)); replace HF := Lib.hid (((HF.out.alloc _).alloc _).call hf (fun _ h _ => h)); have xc := HX.out.cell; have xl := HX.out.lt; have yc := HY.out.cell; have yl := HY.out.lt; clear hf)
      )
    obtain ⟨wa, hwa, hfa, hrow, hbo, hbz⟩ := jworld (x := x) (y := y) #[.int .i64 0, .string ⟨#[]⟩, .int .i64 0, .int .i64 0, .int .i64 0, .int .i64 0, .slice none 0 0] #[.int .i64 7, .string ⟨#[]⟩, .int .i64 0, .int .i64 0, .int .i64 0, .int .i64 0, .slice (some ⟨w4.heap.size + 1, 0, none⟩) 2 2] HS1.out HS2.out
    rw [hwa]
    have HROW := Lib.hid hrow
    replace HF := Lib.hid (HF.out.call hfa (fun _ h _ => h))
    have zc := hbz.cell
    have zl := hbz.lt
    clear hwa hfa hrow hbo hbz xc xl yc yl HX HY HS1 HS2
    go_wp2_with (first
      | ((go_at_call 25); (with_reducible refine (HCW.out _ HF.out _ _ _ _ _ _ _ HROW.out HT1.out HT2.out).mono ?_); rintro en w5 ⟨rfl, hf⟩; replace HF := Lib.hid (HF.out.call hf (fun _ h _ => h)); clear hf)
      )
    go_ret
    exact ⟨rfl, HF.out⟩
set_option maxRecDepth 100000 in
set_option maxHeartbeats 4000000 in
theorem join_at3 (W : World) (s t : ByteArray) (n : Int) (hs : s.size ≤ 9223372036854775807) (ht : t.size ≤ 9223372036854775807) (hv : ErrVar W) (hsh : ShVar W) (hI : (s.size : Int) ≤ 240) (hJ : (t.size : Int) ≤ 240) (hr : n % 4 = 3) (hn0 : 0 ≤ n) (hn1 : n ≤ 255) (x y : Nd) (ks js : Tr) (hq : ParseIs s.data.toList (.good x ks)) (hq2 : ParseIs t.data.toList (.good y js)) :
    Calls Tryd.prog 8 #[.string s, .string t, .int .u8 n] W fun en w' => en = .returned (.bool true) ∧ Fr Nob W w' := by
  have HAW := Lib.hid (law10_awake W hv hsh)
  have HP0 := Lib.hid (fun X (hf : Fr Nob W X) => prg_Parse X s hs (hv.fr hf) (hsh.fr hf) _ hq)
  have HP1 := Lib.hid (fun X (hf : Fr Nob W X) => prg_Parse X t ht (hv.fr hf) (hsh.fr hf) _ hq2)
  obtain ⟨o, ho⟩ := good_of hq
  obtain ⟨p, hp⟩ := good_of hq2
  have hl := ba_len2 s
  have hl2 := ba_len2 t
  unfold ParseR at HP0 HP1
  unfold fval at HP0 HP1
  dsimp only at HP0 HP1
  have hjs : ((⟨#[40]⟩ : ByteArray) ++ s ++ (⟨#[41]⟩ : ByteArray) ++ (⟨#[60, 45, 62]⟩ : ByteArray) ++ (⟨#[40]⟩ : ByteArray) ++ t ++ (⟨#[41]⟩ : ByteArray)).data.toList = joinT s.data.toList t.data.toList 3 := joinB s t 3 ⟨#[60, 45, 62]⟩ rfl
  have hz : ((⟨#[40]⟩ : ByteArray) ++ s ++ (⟨#[41]⟩ : ByteArray) ++ (⟨#[60, 45, 62]⟩ : ByteArray) ++ (⟨#[40]⟩ : ByteArray) ++ t ++ (⟨#[41]⟩ : ByteArray)).size ≤ 9223372036854775807 := by rw [← ba_len2, hjs]; simp [joinT, jsg]; omega
  have HCW := Lib.hid (join_check (W := W) (op := 8) (parsed_fit hq) (parsed_fit hq2) (check_small ho.check) (check_small hp.check) hsh)
  have hjp := join_parse ho hp (by omega) (by omega) 3 (by decide)
  rw [show jop 3 = 8 from rfl] at hjp
  unfold nd1 at HCW hjp
  by_cases hc : checkT ⟨8, ⟨#[]⟩, 0, 0, 0, 0⟩ (two x ks y js) = 0
  · have HP2 := Lib.hid (fun X (hf : Fr Nob W X) => prg_Parse X _ hz (hv.fr hf) (hsh.fr hf) _ (by rw [hjs]; exact hjp.1 hc))
    have HSM := Lib.hid (join_same (op := 8) (x := x) (ks := ks) (y := y) (js := js) (by have := check_small hc; omega))
    rw [hc] at HCW
    unfold ParseR fval at HP2
    unfold fval at HCW HSM
    clear hv hsh hq hq2 ho hp hjs hz hc hjp
    go_enter Tryd.func8, Tryd.ntmps8
    go_upto_region 14 with (first
      | ((go_at_call 20); refine (HAW.out).mono ?_; rintro en w1 ⟨rfl, hf⟩)
      | ((go_at_call 21); (with_reducible refine (HP0.out _ hf).mono ?_); rintro en w2 ⟨B, d, f, rfl, htr, hsl, hf2⟩; have HF := Lib.hid (hf.call hf2 (fun _ h _ => h)); have HS1 := Lib.hid (hsl.mono (q := fun _ => True) (fun _ _ => trivial)); have HT1 := Lib.hid htr; have HX := Lib.hid (Blk.new w2 28 #[.int .i64 x.op, .string x.name, .int .i64 x.cmp, .int .i64 x.val, .int .i64 x.lo, .int .i64 x.hi, .slice B f.len d]); clear hsl htr hf hf2)
      | ((go_at_call 21); (with_reducible refine (HP1.out _ (HF.out.alloc _)).mono ?_); rintro en w3 ⟨C, e, g, rfl, htr, hsl, hf⟩; have HS2 := Lib.hid (hsl.mono (q := fun _ => True) (fun _ _ => trivial)); have HT2 := Lib.hid htr; replace HS1 := Lib.hid (sl_fr (sl_fr HS1.out ((Fr.refl Nob _).alloc _) (fun _ _ e => e)) hf (fun _ _ e => e)); replace HX := Lib.hid (HX.out.fr hf (fun e => e)); replace HF := Lib.hid ((HF.out.alloc _).call hf (fun _ h _ => h)); have HY := Lib.hid (Blk.new w3 28 #[.int .i64 y.op, .string y.name, .int .i64 y.cmp, .int .i64 y.val, .int .i64 y.lo, .int .i64 y.hi, .slice C g.len e]); have hz3 := hf.size; simp only [World.size_alloc] at hz3; clear hsl htr hf)
      | ((go_at_call 21); (with_reducible refine (HP2.out _ ((HF.out.alloc _).alloc _)).mono ?_); rintro en w4 ⟨D, u, h, rfl, htr, hsl, hf⟩; have HS3 := Lib.hid (hsl.mono (q := fun _ => True) (fun _ _ => trivial)); have HT3 := Lib.hid htr; have HV := Lib.hid (Blk.new w4 28 #[.int .i64 8, .string ⟨#[]⟩, .int .i64 0, .int .i64 0, .int .i64 0, .int .i64 0, .slice D h.len u]); replace HS1 := Lib.hid (sl_fr (sl_fr HS1.out (((Fr.refl Nob _).alloc _).alloc _) (fun _ _ e => e)) hf (fun _ _ e => e)); replace HS2 := Lib.hid (sl_fr (sl_fr HS2.out (((Fr.refl Nob _).alloc _).alloc _) (fun _ _ e => e)) hf (fun _ _ e => e)); replace HX := Lib.hid (((HX.out.alloc _).alloc _).fr hf (fun e => e)); replace HY := Lib.hid ((HY.out.alloc _).fr hf (fun e => e)); replace HF := Lib.hid (((HF.out.alloc _).alloc _).call hf (fun _ h _ => h)); have xc := HX.out.cell; have xl := HX.out.lt; have yc := HY.out.cell; have yl := HY.out.lt; clear hf htr hsl)
      )
    obtain ⟨wa, hwa, hfa, hrow, hbo, hbz⟩ := jworld (x := x) (y := y) #[.int .i64 8, .string ⟨#[]⟩, .int .i64 0, .int .i64 0, .int .i64 0, .int .i64 0, .slice D h.len u] #[.int .i64 8, .string ⟨#[]⟩, .int .i64 0, .int .i64 0, .int .i64 0, .int .i64 0, .slice (some ⟨w4.heap.size + 1, 0, none⟩) 2 2] HS1.out HS2.out
    rw [hwa]
    have HROW := Lib.hid hrow
    have HBO := Lib.hid hbo
    have HBZ := Lib.hid hbz
    have HS4 := Lib.hid (sl_fr HS3.out hfa (fun _ _ e => e))
    replace HF := Lib.hid (HF.out.call hfa (fun _ h _ => h))
    have zc := hbz.cell
    have zl := hbz.lt
    clear hwa hfa hrow hbo hbz xc xl yc yl HX HY HS1 HS2 HS3
    go_wp2_with (first
      | ((go_at_call 25); (with_reducible refine (HCW.out _ HF.out _ _ _ _ _ _ _ HROW.out HT1.out HT2.out).mono ?_); rintro en w5 ⟨rfl, hf⟩; replace HF := Lib.hid (HF.out.call hf (fun _ h _ => h)); replace HROW := Lib.hid ((HROW.out.fr hf).mono hf.size); replace HS4 := Lib.hid ((sl_fr HS4.out hf (fun _ _ e => e)).lt.sl (N := w5.heap.size) (fun k hk => hk.2)); replace HBO := Lib.hid (HBO.out.fr hf (fun e => e)); replace HBZ := Lib.hid (HBZ.out.fr hf (fun e => e)); replace zc := HBZ.out.cell; replace zl := HBZ.out.lt; have oc := HBO.out.cell; have ol := HBO.out.lt; clear hf)
      | ((go_at_call 15); (with_reducible refine (HSM.out _ _ _ _ _ _ _ _ _ _ _ HS4.out HROW.out HT3.out HT1.out HT2.out).mono ?_); rintro en w6 ⟨rfl, hf⟩; replace HF := Lib.hid (HF.out.call hf (fun _ h _ => h)); clear hf)
      )
    go_ret
    exact ⟨rfl, HF.out⟩
  · have HP2 := Lib.hid (fun X (hf : Fr Nob W X) => prg_Parse X _ hz (hv.fr hf) (hsh.fr hf) _ (by rw [hjs]; exact hjp.2 hc))
    unfold ParseR fval at HP2
    unfold fval at HCW
    generalize checkT ⟨8, ⟨#[]⟩, 0, 0, 0, 0⟩ (two x ks y js) = ce at *
    have hcc : (ce == 0) = false := by simpa using hc
    clear hv hsh hq hq2 ho hp hjs hz hc hjp
    go_enter Tryd.func8, Tryd.ntmps8
    go_upto_region 14 with (first
      | ((go_at_call 20); refine (HAW.out).mono ?_; rintro en w1 ⟨rfl, hf⟩)
      | ((go_at_call 21); (with_reducible refine (HP0.out _ hf).mono ?_); rintro en w2 ⟨B, d, f, rfl, htr, hsl, hf2⟩; have HF := Lib.hid (hf.call hf2 (fun _ h _ => h)); have HS1 := Lib.hid (hsl.mono (q := fun _ => True) (fun _ _ => trivial)); have HT1 := Lib.hid htr; have HX := Lib.hid (Blk.new w2 28 #[.int .i64 x.op, .string x.name, .int .i64 x.cmp, .int .i64 x.val, .int .i64 x.lo, .int .i64 x.hi, .slice B f.len d]); clear hsl htr hf hf2)
      | ((go_at_call 21); (with_reducible refine (HP1.out _ (HF.out.alloc _)).mono ?_); rintro en w3 ⟨C, e, g, rfl, htr, hsl, hf⟩; have HS2 := Lib.hid (hsl.mono (q := fun _ => True) (fun _ _ => trivial)); have HT2 := Lib.hid htr; replace HS1 := Lib.hid (sl_fr (sl_fr HS1.out ((Fr.refl Nob _).alloc _) (fun _ _ e => e)) hf (fun _ _ e => e)); replace HX := Lib.hid (HX.out.fr hf (fun e => e)); replace HF := Lib.hid ((HF.out.alloc _).call hf (fun _ h _ => h)); have HY := Lib.hid (Blk.new w3 28 #[.int .i64 y.op, .string y.name, .int .i64 y.cmp, .int .i64 y.val, .int .i64 y.lo, .int .i64 y.hi, .slice C g.len e]); have hz3 := hf.size; simp only [World.size_alloc] at hz3; clear hsl htr hf)
      | ((go_at_call 21); (with_reducible refine (HP2.out _ ((HF.out.alloc _).alloc _)).mono ?_); rintro en w4 ⟨rfl, hf⟩; replace HS1 := Lib.hid (sl_fr (sl_fr HS1.out (((Fr.refl Nob _).alloc _).alloc _) (fun _ _ e => e)) hf (fun _ _ e => e)); replace HS2 := Lib.hid (sl_fr (sl_fr HS2.out (((Fr.refl Nob _).alloc _).alloc _) (fun _ _ e => e)) hf (fun _ _ e => e)); replace HX := Lib.hid (((HX.out.alloc _).alloc _).fr hf (fun e => e)); replace HY := Lib.hid ((HY.out.alloc _).fr hf (fun e => e)); replace HF := Lib.hid (((HF.out.alloc _).alloc _).call hf (fun _ h _ => h)); have xc := HX.out.cell; have xl := HX.out.lt; have yc := HY.out.cell; have yl := HY.out.lt; clear hf)
      )
    obtain ⟨wa, hwa, hfa, hrow, hbo, hbz⟩ := jworld (x := x) (y := y) #[.int .i64 0, .string ⟨#[]⟩, .int .i64 0, .int .i64 0, .int .i64 0, .int .i64 0, .slice none 0 0] #[.int .i64 8, .string ⟨#[]⟩, .int .i64 0, .int .i64 0, .int .i64 0, .int .i64 0, .slice (some ⟨w4.heap.size + 1, 0, none⟩) 2 2] HS1.out HS2.out
    rw [hwa]
    have HROW := Lib.hid hrow
    replace HF := Lib.hid (HF.out.call hfa (fun _ h _ => h))
    have zc := hbz.cell
    have zl := hbz.lt
    clear hwa hfa hrow hbo hbz xc xl yc yl HX HY HS1 HS2
    go_wp2_with (first
      | ((go_at_call 25); (with_reducible refine (HCW.out _ HF.out _ _ _ _ _ _ _ HROW.out HT1.out HT2.out).mono ?_); rintro en w5 ⟨rfl, hf⟩; replace HF := Lib.hid (HF.out.call hf (fun _ h _ => h)); clear hf)
      )
    go_ret
    exact ⟨rfl, HF.out⟩
set_option maxRecDepth 100000 in
set_option maxHeartbeats 4000000 in
theorem law_ParseJoins (W : World) (s t : ByteArray) (n : Int) (hs : s.size ≤ 9223372036854775807) (ht : t.size ≤ 9223372036854775807) (hn0 : 0 ≤ n) (hn1 : n ≤ 255) (hv : ErrVar W) (hsh : ShVar W) : Calls Tryd.prog 8 #[.string s, .string t, .int .u8 n] W fun en w' => en = .returned (.bool true) ∧ Fr Nob W w' := by
  have HAW := Lib.hid (law10_awake W hv hsh)
  by_cases h5 : 240 < s.size
  · have hI : (240 : Int) < s.size := by omega
    clear hv hsh h5
    go_enter Tryd.func8, Tryd.ntmps8
    go_wp2_with ((go_at_call 20); refine (HAW.out).mono ?_; rintro en w1 ⟨rfl, hf⟩)
    go_ret
    exact ⟨rfl, hf⟩
  have hI : (s.size : Int) ≤ 240 := by omega
  by_cases h6 : 240 < t.size
  · have hI : (240 : Int) < t.size := by omega
    clear hv hsh h5 h6
    go_enter Tryd.func8, Tryd.ntmps8
    go_wp2_with ((go_at_call 20); refine (HAW.out).mono ?_; rintro en w1 ⟨rfl, hf⟩)
    go_ret
    exact ⟨rfl, hf⟩
  have hJ : (t.size : Int) ≤ 240 := by omega
  obtain ⟨q, hq⟩ := parse_all s.data.toList
  have HP0 := Lib.hid (fun X (hf : Fr Nob W X) => prg_Parse X s hs (hv.fr hf) (hsh.fr hf) q hq)
  obtain ⟨q2, hq2⟩ := parse_all t.data.toList
  have HP1 := Lib.hid (fun X (hf : Fr Nob W X) => prg_Parse X t ht (hv.fr hf) (hsh.fr hf) q2 hq2)
  cases q with
  | bad e p =>
    have he : (e == 0) = false := by simpa using bad_ne hq
    have hen : ¬ e = 0 := bad_ne hq
    have hen2 : (e != 0) = true := by simpa using hen
    cases q2 with
    | bad e2 p2 =>
      have he2 : (e2 == 0) = false := by simpa using bad_ne hq2
      unfold ParseR at HP0 HP1
      unfold fval at HP0 HP1
      dsimp only at HP0 HP1
      clear hv hsh h5 h6 hq hq2
      go_enter Tryd.func8, Tryd.ntmps8
      go_wp2_with (first
        | ((go_at_call 20); refine (HAW.out).mono ?_; rintro en w1 ⟨rfl, hf⟩)
        | ((go_at_call 21); (with_reducible refine (HP0.out _ hf).mono ?_); rintro en w2 ⟨rfl, hf2⟩; have HF := Lib.hid (hf.call hf2 (fun _ h _ => h)); clear hf hf2)
        | ((go_at_call 21); (with_reducible refine (HP1.out _ (HF.out.alloc _)).mono ?_); rintro en w3 ⟨rfl, hf2⟩; replace HF := Lib.hid ((HF.out.alloc _).call hf2 (fun _ h _ => h)); clear hf2))
      go_ret
      exact ⟨rfl, HF.out.alloc _⟩
    | good y js =>
      unfold ParseR at HP0 HP1
      unfold fval at HP0 HP1
      dsimp only at HP0 HP1
      clear hv hsh h5 h6 hq hq2
      go_enter Tryd.func8, Tryd.ntmps8
      go_wp2_with (first
        | ((go_at_call 20); refine (HAW.out).mono ?_; rintro en w1 ⟨rfl, hf⟩)
        | ((go_at_call 21); (with_reducible refine (HP0.out _ hf).mono ?_); rintro en w2 ⟨rfl, hf2⟩; have HF := Lib.hid (hf.call hf2 (fun _ h _ => h)); clear hf hf2)
        | ((go_at_call 21); (with_reducible refine (HP1.out _ (HF.out.alloc _)).mono ?_); rintro en w3 ⟨C, e3, g, rfl, htr, hsl, hf2⟩; replace HF := Lib.hid ((HF.out.alloc _).call hf2 (fun _ h _ => h)); clear hf2 htr hsl))
      go_ret
      exact ⟨rfl, HF.out.alloc _⟩
  | good x ks =>
    cases q2 with
    | bad e p =>
      have he : (e == 0) = false := by simpa using bad_ne hq2
      unfold ParseR at HP0 HP1
      unfold fval at HP0 HP1
      dsimp only at HP0 HP1
      clear hv hsh h5 h6 hq hq2
      go_enter Tryd.func8, Tryd.ntmps8
      go_wp2_with (first
        | ((go_at_call 20); refine (HAW.out).mono ?_; rintro en w1 ⟨rfl, hf⟩)
        | ((go_at_call 21); (with_reducible refine (HP0.out _ hf).mono ?_); rintro en w2 ⟨B, d, f, rfl, htr, hsl, hf2⟩; have HF := Lib.hid (hf.call hf2 (fun _ h _ => h)); have HS1 := Lib.hid (hsl.mono (q := fun _ => True) (fun _ _ => trivial)); have HT1 := Lib.hid htr; have HX := Lib.hid (Blk.new w2 28 #[.int .i64 x.op, .string x.name, .int .i64 x.cmp, .int .i64 x.val, .int .i64 x.lo, .int .i64 x.hi, .slice B f.len d]); clear hsl htr hf hf2)
        | ((go_at_call 21); (with_reducible refine (HP1.out _ (HF.out.alloc _)).mono ?_); rintro en w3 ⟨rfl, hf2⟩; replace HF := Lib.hid ((HF.out.alloc _).call hf2 (fun _ h _ => h)); clear hf2))
      go_ret
      exact ⟨rfl, HF.out.alloc _⟩
    | good y js =>
      have hr : n % 4 = 0 ∨ n % 4 = 1 ∨ n % 4 = 2 ∨ n % 4 = 3 := by omega
      rcases hr with hr | hr | hr | hr
      · exact join_at0 W s t n hs ht hv hsh hI hJ hr hn0 hn1 x y ks js hq hq2
      · exact join_at1 W s t n hs ht hv hsh hI hJ hr hn0 hn1 x y ks js hq hq2
      · exact join_at2 W s t n hs ht hv hsh hI hJ hr hn0 hn1 x y ks js hq hq2
      · exact join_at3 W s t n hs ht hv hsh hI hJ hr hn0 hn1 x y ks js hq hq2
end Go.Proofs.YtanhmigknafhkaaDoor
