/- ParseParens. -/
import Derived.Test.YtanhmigknafhkaaDoorQ11
import Derived.Test.YtanhmigknafhkaaDoorPgood
import Derived.Test.YtanhmigknafhkaaDoorFsame2
namespace Go.Proofs.YtanhmigknafhkaaDoor
open Go.RowKit Go.Shelf
attribute [local go_sem] Instr.field asAgg

theorem bad_ne {l : List UInt8} {e : Int} {p : Nat} (h : ParseIs l (.bad e p)) : ¬ e = 0 := by
  cases h with
  | lex h => exact h
  | wrong h hk hr =>
    have := reads_left hr (remT_ok (readT_toks h) 0)
    rcases this.2 with h | h <;> omega
  | more => decide
  | big _ _ _ _ hc => exact hc
theorem ba_len2 (s : ByteArray) : s.data.toList.length = s.size := ba_len s
theorem check_small {x : Nd} {ks : Tr} (h : checkT x ks = 0) : ks.size ≤ 48 := by
  unfold checkT at h
  by_cases h1 : 48 < ks.size + 1
  · rw [if_pos h1] at h; exact absurd h (by decide)
  · omega
theorem same_one (x : Nd) (k : Tr) : same1 x k x k = true := (same1_iff x k x k).2 ⟨rfl, rfl⟩
theorem same_true {x : Nd} {ks : Tr} (hc : ks.size ≤ 100000) (X : World) (B : Option Addr) (d : Nat) (f : Fo) (C : Option Addr) (e : Nat) (g : Fo) (h1 : FoSl X.heap.size X B d f) (h2 : FoSl X.heap.size X C e g) (e1 : f.tr = ks) (e2 : g.tr = ks) :
    Calls Tryd.prog 15 #[fval x B f.len d, fval x C g.len e] X fun en w' => en = .returned (.bool true) ∧ Fr Nob X w' := by
  have h := prg_Same X x x B C d e f g h1 h2 (by rw [e1]; exact hc)
  rw [e1, e2, same_one] at h
  exact h
set_option maxRecDepth 100000 in
set_option maxHeartbeats 4000000 in
theorem law_ParseParens (W : World) (s : ByteArray) (hs : s.size ≤ 9223372036854775807) (hv : ErrVar W) (hsh : ShVar W) : Calls Tryd.prog 7 #[.string s] W fun en w' => en = .returned (.bool true) ∧ Fr Nob W w' := by
  have HAW := Lib.hid (law10_awake W hv hsh)
  by_cases h5 : 510 < s.size
  · have hI : (510 : Int) < s.size := by omega
    clear hv hsh h5
    go_enter Tryd.func7, Tryd.ntmps7
    go_wp2_with ((go_at_call 20); refine (HAW.out).mono ?_; rintro en w1 ⟨rfl, hf⟩)
    go_ret
    exact ⟨rfl, hf⟩
  have hI : (s.size : Int) ≤ 510 := by omega
  obtain ⟨q, hq⟩ := parse_all s.data.toList
  have HP0 := Lib.hid (fun X (hf : Fr Nob W X) => prg_Parse X s hs (hv.fr hf) (hsh.fr hf) q hq)
  cases q with
  | bad e p =>
    have he : (e == 0) = false := by simpa using bad_ne hq
    unfold ParseR fval at HP0
    clear hv hsh h5 hq
    go_enter Tryd.func7, Tryd.ntmps7
    go_wp2_with (first | ((go_at_call 20); refine (HAW.out).mono ?_; rintro en w1 ⟨rfl, hf⟩) | ((go_at_call 21); (with_reducible refine (HP0.out _ hf).mono ?_); rintro en w2 ⟨rfl, hf2⟩))
    go_ret
    exact ⟨rfl, (hf.call hf2 (fun _ h _ => h)).alloc _⟩
  | good x ks =>
    obtain ⟨o, ho⟩ := good_of hq
    have hl := ba_len2 s
    have e1 : ((⟨#[40]⟩ : ByteArray) ++ s ++ (⟨#[41]⟩ : ByteArray)).data.toList = 40 :: (s.data.toList ++ [41]) := by simp [ByteArray.data_append]
    have e2 : ((⟨#[40]⟩ : ByteArray) ++ s).data.toList = 40 :: s.data.toList := by simp [ByteArray.data_append]
    have e3 : (s ++ (⟨#[41]⟩ : ByteArray)).data.toList = s.data.toList ++ [41] := by simp [ByteArray.data_append]
    have z1 : ((⟨#[40]⟩ : ByteArray) ++ s ++ (⟨#[41]⟩ : ByteArray)).size ≤ 9223372036854775807 := by rw [← ba_len2, e1]; simp; omega
    have z2 : ((⟨#[40]⟩ : ByteArray) ++ s).size ≤ 9223372036854775807 := by rw [← ba_len2, e2]; simp; omega
    have z3 : (s ++ (⟨#[41]⟩ : ByteArray)).size ≤ 9223372036854775807 := by rw [← ba_len2, e3]; simp; omega
    have HP1 := Lib.hid (fun X (hf : Fr Nob W X) => prg_Parse X _ z1 (hv.fr hf) (hsh.fr hf) (.good x ks) (by rw [e1]; exact paren_both ho (by omega)))
    have HP2 := Lib.hid (fun X (hf : Fr Nob W X) => prg_Parse X _ z2 (hv.fr hf) (hsh.fr hf) (.bad 20 (s.data.toList.length + 1)) (by rw [e2]; exact paren_left ho (by omega)))
    have HP3 := Lib.hid (fun X (hf : Fr Nob W X) => prg_Parse X _ z3 (hv.fr hf) (hsh.fr hf) (.bad 20 s.data.toList.length) (by rw [e3]; exact paren_right ho (by omega)))
    rw [hl] at HP2 HP3
    have HSM := Lib.hid (same_true (x := x) (ks := ks) (by have := check_small ho.check; omega))
    unfold ParseR at HP0 HP1 HP2 HP3
    unfold fval at HP0 HP1 HP2 HP3 HSM
    clear hv hsh h5 hq ho e1 e2 e3 z1 z2 z3 hl
    go_enter Tryd.func7, Tryd.ntmps7
    go_wp2_with (first
      | ((go_at_call 20); refine (HAW.out).mono ?_; rintro en w1 ⟨rfl, hf⟩)
      | ((go_at_call 21); (with_reducible refine (HP0.out _ hf).mono ?_); rintro en w2 ⟨B, d, f, rfl, htr, hsl, hf2⟩; have HF := Lib.hid (hf.call hf2 (fun _ h _ => h)); have HS1 := Lib.hid (hsl.lt.sl (N := w2.heap.size) (fun k hk => hk.2)); have HT1 := Lib.hid htr; have HX := Lib.hid (Blk.new w2 28 #[.int .i64 x.op, .string x.name, .int .i64 x.cmp, .int .i64 x.val, .int .i64 x.lo, .int .i64 x.hi, .slice B f.len d]); clear hsl htr hf hf2)
      | ((go_at_call 21); (with_reducible refine (HP1.out _ (HF.out.alloc _)).mono ?_); rintro en w3 ⟨C, e, g, rfl, htr, hsl, hf⟩; have HS2 := Lib.hid (hsl.lt.sl (N := w3.heap.size) (fun k hk => hk.2)); have HT2 := Lib.hid htr; replace HS1 := Lib.hid ((HS1.out.fr ((Fr.refl Nob _).alloc _)).fr hf); replace HX := Lib.hid (HX.out.fr hf (fun e => e)); replace HF := Lib.hid ((HF.out.alloc _).call hf (fun _ h _ => h)); have HY := Lib.hid (Blk.new w3 28 #[.int .i64 x.op, .string x.name, .int .i64 x.cmp, .int .i64 x.val, .int .i64 x.lo, .int .i64 x.hi, .slice C g.len e]); clear hsl htr hf)
      | ((go_at_call 21); (with_reducible refine (HP2.out _ (HF.out.alloc _)).mono ?_); rintro en w4 ⟨rfl, hf⟩; replace HS1 := Lib.hid ((HS1.out.fr ((Fr.refl Nob _).alloc _)).fr hf); replace HS2 := Lib.hid ((HS2.out.fr ((Fr.refl Nob _).alloc _)).fr hf); replace HX := Lib.hid ((HX.out.alloc _).fr hf (fun e => e)); replace HY := Lib.hid (HY.out.fr hf (fun e => e)); replace HF := Lib.hid ((HF.out.alloc _).call hf (fun _ h _ => h)); have hz4 := hf.size; clear hf)
      | ((go_at_call 21); (with_reducible refine (HP3.out _ (HF.out.alloc _)).mono ?_); rintro en w5 ⟨rfl, hf⟩; replace HS1 := Lib.hid ((HS1.out.fr ((Fr.refl Nob _).alloc _)).fr hf); replace HS2 := Lib.hid ((HS2.out.fr ((Fr.refl Nob _).alloc _)).fr hf); replace HX := Lib.hid ((HX.out.alloc _).fr hf (fun e => e)); replace HY := Lib.hid ((HY.out.alloc _).fr hf (fun e => e)); replace HF := Lib.hid ((HF.out.alloc _).call hf (fun _ h _ => h)); have xc := HX.out.cell; have xl := HX.out.lt; have yc := HY.out.cell; have yl := HY.out.lt; clear hf)
      | ((go_at_call 15); (with_reducible refine (HSM.out _ _ _ _ _ _ _ ((HS1.out.fr ((Fr.refl Nob _).alloc _)).mono (by simp; omega)) ((HS2.out.fr ((Fr.refl Nob _).alloc _)).mono (by simp; omega)) HT1.out HT2.out).mono ?_); rintro en w6 ⟨rfl, hf⟩; have HF2 := Lib.hid ((HF.out.alloc _).call hf (fun _ h _ => h)); clear hf)
      )
    go_ret
    exact ⟨rfl, HF2.out⟩
end Go.Proofs.YtanhmigknafhkaaDoor
