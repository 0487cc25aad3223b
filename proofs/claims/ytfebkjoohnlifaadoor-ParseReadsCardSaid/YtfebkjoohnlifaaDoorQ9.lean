/- parse's reader: iff, or, and; all of it. -/
import Derived.Test.YtfebkjoohnlifaaDoorQ8
import Derived.Test.YtfebkjoohnlifaaDoorQ7
import Derived.Test.YtfebkjoohnlifaaDoorQ4
import Derived.Deep.DeepCutAuto
namespace Go.Proofs.YtfebkjoohnlifaaDoor
open Go.RowKit Go.Shelf

theorem rd_fromLeft (w : World) (s : ByteArray) (op : Int) (g : Nat) :
    Calls Tryd.prog 76 #[.string s, .int .i64 op, .func (.func g) #[] #[]] w fun en w' => en = .returned (.func (.func 131) #[] #[.pointer (some ⟨w.heap.size + 2, 0, none⟩), .pointer (some ⟨w.heap.size, 0, none⟩), .pointer (some ⟨w.heap.size + 1, 0, none⟩)]) ∧
      ((w.alloc (.cells #[.string s] 9)).alloc (.cells #[.int .i64 op] 3)).alloc (.cells #[.func (.func g) #[] #[]] 148) = w' := by
  go_enter Tryd.func76, Tryd.ntmps76
  go_wp2_with fail
  go_ret
  exact ⟨rfl, rfl⟩
/-- The world in which the loop runs. -/
structure Lpw (W X : World) (R : Nat) (s : ByteArray) (op : Int) (g : Nat) : Prop where
  size : X.heap.size = W.heap.size + 4
  fr : Fr Nob W X
  z : Blk X W.heap.size 28 #[.int .i64 0, .string ⟨#[]⟩, .int .i64 0, .int .i64 0, .int .i64 0, .int .i64 0, .slice none 0 0]
  b1 : Blk X (W.heap.size + 3) 148 #[.func (.func g) #[] #[]]
  b2 : Blk X (W.heap.size + 1) 9 #[.string s]
  b3 : Blk X (W.heap.size + 2) 3 #[.int .i64 op]
theorem lpw (W : World) (R : Nat) (s : ByteArray) (op : Int) (g : Nat) : Lpw W ((((W.alloc (.cells #[.int .i64 0, .string ⟨#[]⟩, .int .i64 0, .int .i64 0, .int .i64 0, .int .i64 0, .slice none 0 0] 28)).alloc (.cells #[.string s] 9)).alloc (.cells #[.int .i64 op] 3)).alloc (.cells #[.func (.func g) #[] #[]] 148)) R s op g :=
  ⟨by simp, ((((Fr.refl _ _).alloc _).alloc _).alloc _).alloc _, (((Blk.new _ _ _).alloc _).alloc _).alloc _, Blk.new_eq (by simp), ((Blk.new_eq (by simp)).alloc _).alloc _, (Blk.new_eq (by simp)).alloc _⟩
set_option maxRecDepth 100000 in
set_option maxHeartbeats 4000000 in
theorem side_iff (R : Nat) (A : Option Addr) (c : Nat) (toks : List (TK × Nat)) (ht : Toks toks) (n : Nat) (hone : SideOk 77 (1 + 1) R A c toks (gP n)) :
    SideOk 45 1 R A c toks (gP (n + 1)) := by
  intro W k h hk hne
  have hR := h.blk.lt
  have hOR : ¬ Only R W.heap.size := only_ne hR
  have HRD := Lib.hid h
  have HFL := Lib.hid (fun X => rd_fromLeft X ⟨#[60, 45, 62]⟩ 8 77)
  have HLP := Lib.hid (fun X (hl : Lpw W X R ⟨#[60, 45, 62]⟩ 8 77) => loop_iff R A c toks ht n hone X (W.heap.size + 3) (W.heap.size + 1) (W.heap.size + 2) k (h.fr hl.fr) hk hne hl.b1 hl.b2 hl.b3 (by omega) (by omega) (by omega))
  cases hq : gP (n + 1) (.lev 1 (remT toks k)) with
  | out => exact absurd hq hne
  | bad er r =>
    rw [hq] at HLP
    unfold SideR fval at HLP
    clear h hne hone hq
    unfold SideR fval
    go_enter Tryd.func45, Tryd.ntmps45
    go_wp2_with (first
      | ((go_at_call 76); (with_reducible refine (HFL.out _).mono ?_); rintro en w1 ⟨rfl, hw1⟩; have HW := Lib.hid (lpw W R ⟨#[60, 45, 62]⟩ 8 77); rw [hw1] at HW; clear hw1; have hz1 := HW.out.size)
      | ((go_at_call 131); (with_reducible refine (HLP.out _ HW.out).mono ?_); rintro en w2 ⟨x, B, m, d, rfl, hg⟩; have HG := Lib.hid hg; have HZ := Lib.hid (HW.out.z.fr hg.fr hOR); have HFR := Lib.hid ((HW.out.fr.mono (fun _ _ h => h.elim) : Fr (Only R) W w1).call hg.fr (fun _ h _ => h)); have zc := HZ.out.cell; have zf := HZ.out.frozen; have zl := HZ.out.lt; clear hg))
    have HB7 := Lib.hid (set7_blk HZ.out (.int .i64 x.op) (.string x.name) (.int .i64 x.cmp) (.int .i64 x.val) (.int .i64 x.lo) (.int .i64 x.hi) (.slice B m d))
    have HF7 := Lib.hid (set7_fr w2 W.heap.size (.int .i64 x.op) (.string x.name) (.int .i64 x.cmp) (.int .i64 x.val) (.int .i64 x.lo) (.int .i64 x.hi) (.slice B m d))
    change bodyPost _ _ _ _ _ (set7 w2 W.heap.size (.int .i64 x.op) (.string x.name) (.int .i64 x.cmp) (.int .i64 x.val) (.int .i64 x.lo) (.int .i64 x.hi) (.slice B m d))
    generalize set7 w2 W.heap.size (.int .i64 x.op) (.string x.name) (.int .i64 x.cmp) (.int .i64 x.val) (.int .i64 x.lo) (.int .i64 x.hi) (.slice B m d) = W7 at *
    have HS := HB7.out.cell
    refine bodyPost_ret (v := .tuple #[.agg #[.int .i64 x.op, .string x.name, .int .i64 x.cmp, .int .i64 x.val, .int .i64 x.lo, .int .i64 x.hi, .slice B m d], .bool false]) (by simp [results, Tryd.results45, go_sem, HS]) rfl ?_
    exact ⟨x, B, m, d, rfl, bad_done7 HRD.out HFR.out HF7.out HG.out⟩
  | ok x ks r =>
    rw [hq] at HLP
    unfold SideR fval at HLP
    clear h hne hone hq
    unfold SideR fval
    go_enter Tryd.func45, Tryd.ntmps45
    go_wp2_with (first
      | ((go_at_call 76); (with_reducible refine (HFL.out _).mono ?_); rintro en w1 ⟨rfl, hw1⟩; have HW := Lib.hid (lpw W R ⟨#[60, 45, 62]⟩ 8 77); rw [hw1] at HW; clear hw1; have hz1 := HW.out.size)
      | ((go_at_call 131); (with_reducible refine (HLP.out _ HW.out).mono ?_); rintro en w2 ⟨B, d, f, rfl, k2, hk2, hrr, hg⟩; have HG := Lib.hid hg; have HZ := Lib.hid (HW.out.z.fr hg.fr hOR); have HFR := Lib.hid ((HW.out.fr.mono (fun _ _ h => h.elim) : Fr (Only R) W w1).call hg.fr (fun _ h _ => h)); have zc := HZ.out.cell; have zf := HZ.out.frozen; have zl := HZ.out.lt; have HRR := Lib.hid hrr; clear hg hrr))
    have HB7 := Lib.hid (set7_blk HZ.out (.int .i64 x.op) (.string x.name) (.int .i64 x.cmp) (.int .i64 x.val) (.int .i64 x.lo) (.int .i64 x.hi) (.slice B f.len d))
    have HF7 := Lib.hid (set7_fr w2 W.heap.size (.int .i64 x.op) (.string x.name) (.int .i64 x.cmp) (.int .i64 x.val) (.int .i64 x.lo) (.int .i64 x.hi) (.slice B f.len d))
    change bodyPost _ _ _ _ _ (set7 w2 W.heap.size (.int .i64 x.op) (.string x.name) (.int .i64 x.cmp) (.int .i64 x.val) (.int .i64 x.lo) (.int .i64 x.hi) (.slice B f.len d))
    generalize set7 w2 W.heap.size (.int .i64 x.op) (.string x.name) (.int .i64 x.cmp) (.int .i64 x.val) (.int .i64 x.lo) (.int .i64 x.hi) (.slice B f.len d) = W7 at *
    have HS := HB7.out.cell
    refine bodyPost_ret (v := .tuple #[.agg #[.int .i64 x.op, .string x.name, .int .i64 x.cmp, .int .i64 x.val, .int .i64 x.lo, .int .i64 x.hi, .slice B f.len d], .bool true]) (by simp [results, Tryd.results45, go_sem, HS]) rfl ?_
    have hd := done7 HRD.out HFR.out HF7.out HG.out.rd
    exact ⟨B, d, f, rfl, k2, hk2, HRR.out, HG.out.tr, done7_sl (sl_up (by omega) HG.out.sl) HF7.out, hd.1, hd.2⟩
set_option maxRecDepth 100000 in
set_option maxHeartbeats 4000000 in
theorem side_or (R : Nat) (A : Option Addr) (c : Nat) (toks : List (TK × Nat)) (ht : Toks toks) (n : Nat) (hone : SideOk 181 (3 + 1) R A c toks (gP n)) :
    SideOk 134 3 R A c toks (gP (n + 1)) := by
  intro W k h hk hne
  have hR := h.blk.lt
  have hOR : ¬ Only R W.heap.size := only_ne hR
  have HRD := Lib.hid h
  have HFL := Lib.hid (fun X => rd_fromLeft X ⟨#[124]⟩ 6 181)
  have HLP := Lib.hid (fun X (hl : Lpw W X R ⟨#[124]⟩ 6 181) => loop_or R A c toks ht n hone X (W.heap.size + 3) (W.heap.size + 1) (W.heap.size + 2) k (h.fr hl.fr) hk hne hl.b1 hl.b2 hl.b3 (by omega) (by omega) (by omega))
  cases hq : gP (n + 1) (.lev 3 (remT toks k)) with
  | out => exact absurd hq hne
  | bad er r =>
    rw [hq] at HLP
    unfold SideR fval at HLP
    clear h hne hone hq
    unfold SideR fval
    go_enter Tryd.func134, Tryd.ntmps134
    go_wp2_with (first
      | ((go_at_call 76); (with_reducible refine (HFL.out _).mono ?_); rintro en w1 ⟨rfl, hw1⟩; have HW := Lib.hid (lpw W R ⟨#[124]⟩ 6 181); rw [hw1] at HW; clear hw1; have hz1 := HW.out.size)
      | ((go_at_call 131); (with_reducible refine (HLP.out _ HW.out).mono ?_); rintro en w2 ⟨x, B, m, d, rfl, hg⟩; have HG := Lib.hid hg; have HZ := Lib.hid (HW.out.z.fr hg.fr hOR); have HFR := Lib.hid ((HW.out.fr.mono (fun _ _ h => h.elim) : Fr (Only R) W w1).call hg.fr (fun _ h _ => h)); have zc := HZ.out.cell; have zf := HZ.out.frozen; have zl := HZ.out.lt; clear hg))
    have HB7 := Lib.hid (set7_blk HZ.out (.int .i64 x.op) (.string x.name) (.int .i64 x.cmp) (.int .i64 x.val) (.int .i64 x.lo) (.int .i64 x.hi) (.slice B m d))
    have HF7 := Lib.hid (set7_fr w2 W.heap.size (.int .i64 x.op) (.string x.name) (.int .i64 x.cmp) (.int .i64 x.val) (.int .i64 x.lo) (.int .i64 x.hi) (.slice B m d))
    change bodyPost _ _ _ _ _ (set7 w2 W.heap.size (.int .i64 x.op) (.string x.name) (.int .i64 x.cmp) (.int .i64 x.val) (.int .i64 x.lo) (.int .i64 x.hi) (.slice B m d))
    generalize set7 w2 W.heap.size (.int .i64 x.op) (.string x.name) (.int .i64 x.cmp) (.int .i64 x.val) (.int .i64 x.lo) (.int .i64 x.hi) (.slice B m d) = W7 at *
    have HS := HB7.out.cell
    refine bodyPost_ret (v := .tuple #[.agg #[.int .i64 x.op, .string x.name, .int .i64 x.cmp, .int .i64 x.val, .int .i64 x.lo, .int .i64 x.hi, .slice B m d], .bool false]) (by simp [results, Tryd.results134, go_sem, HS]) rfl ?_
    exact ⟨x, B, m, d, rfl, bad_done7 HRD.out HFR.out HF7.out HG.out⟩
  | ok x ks r =>
    rw [hq] at HLP
    unfold SideR fval at HLP
    clear h hne hone hq
    unfold SideR fval
    go_enter Tryd.func134, Tryd.ntmps134
    go_wp2_with (first
      | ((go_at_call 76); (with_reducible refine (HFL.out _).mono ?_); rintro en w1 ⟨rfl, hw1⟩; have HW := Lib.hid (lpw W R ⟨#[124]⟩ 6 181); rw [hw1] at HW; clear hw1; have hz1 := HW.out.size)
      | ((go_at_call 131); (with_reducible refine (HLP.out _ HW.out).mono ?_); rintro en w2 ⟨B, d, f, rfl, k2, hk2, hrr, hg⟩; have HG := Lib.hid hg; have HZ := Lib.hid (HW.out.z.fr hg.fr hOR); have HFR := Lib.hid ((HW.out.fr.mono (fun _ _ h => h.elim) : Fr (Only R) W w1).call hg.fr (fun _ h _ => h)); have zc := HZ.out.cell; have zf := HZ.out.frozen; have zl := HZ.out.lt; have HRR := Lib.hid hrr; clear hg hrr))
    have HB7 := Lib.hid (set7_blk HZ.out (.int .i64 x.op) (.string x.name) (.int .i64 x.cmp) (.int .i64 x.val) (.int .i64 x.lo) (.int .i64 x.hi) (.slice B f.len d))
    have HF7 := Lib.hid (set7_fr w2 W.heap.size (.int .i64 x.op) (.string x.name) (.int .i64 x.cmp) (.int .i64 x.val) (.int .i64 x.lo) (.int .i64 x.hi) (.slice B f.len d))
    change bodyPost _ _ _ _ _ (set7 w2 W.heap.size (.int .i64 x.op) (.string x.name) (.int .i64 x.cmp) (.int .i64 x.val) (.int .i64 x.lo) (.int .i64 x.hi) (.slice B f.len d))
    generalize set7 w2 W.heap.size (.int .i64 x.op) (.string x.name) (.int .i64 x.cmp) (.int .i64 x.val) (.int .i64 x.lo) (.int .i64 x.hi) (.slice B f.len d) = W7 at *
    have HS := HB7.out.cell
    refine bodyPost_ret (v := .tuple #[.agg #[.int .i64 x.op, .string x.name, .int .i64 x.cmp, .int .i64 x.val, .int .i64 x.lo, .int .i64 x.hi, .slice B f.len d], .bool true]) (by simp [results, Tryd.results134, go_sem, HS]) rfl ?_
    have hd := done7 HRD.out HFR.out HF7.out HG.out.rd
    exact ⟨B, d, f, rfl, k2, hk2, HRR.out, HG.out.tr, done7_sl (sl_up (by omega) HG.out.sl) HF7.out, hd.1, hd.2⟩
set_option maxRecDepth 100000 in
set_option maxHeartbeats 4000000 in
theorem side_and (R : Nat) (A : Option Addr) (c : Nat) (toks : List (TK × Nat)) (ht : Toks toks) (n : Nat) (hone : SideOk 195 (4 + 1) R A c toks (gP n)) :
    SideOk 181 4 R A c toks (gP (n + 1)) := by
  intro W k h hk hne
  have hR := h.blk.lt
  have hOR : ¬ Only R W.heap.size := only_ne hR
  have HRD := Lib.hid h
  have HFL := Lib.hid (fun X => rd_fromLeft X ⟨#[38]⟩ 5 195)
  have HLP := Lib.hid (fun X (hl : Lpw W X R ⟨#[38]⟩ 5 195) => loop_and R A c toks ht n hone X (W.heap.size + 3) (W.heap.size + 1) (W.heap.size + 2) k (h.fr hl.fr) hk hne hl.b1 hl.b2 hl.b3 (by omega) (by omega) (by omega))
  cases hq : gP (n + 1) (.lev 4 (remT toks k)) with
  | out => exact absurd hq hne
  | bad er r =>
    rw [hq] at HLP
    unfold SideR fval at HLP
    clear h hne hone hq
    unfold SideR fval
    go_enter Tryd.func181, Tryd.ntmps181
    go_wp2_with (first
      | ((go_at_call 76); (with_reducible refine (HFL.out _).mono ?_); rintro en w1 ⟨rfl, hw1⟩; have HW := Lib.hid (lpw W R ⟨#[38]⟩ 5 195); rw [hw1] at HW; clear hw1; have hz1 := HW.out.size)
      | ((go_at_call 131); (with_reducible refine (HLP.out _ HW.out).mono ?_); rintro en w2 ⟨x, B, m, d, rfl, hg⟩; have HG := Lib.hid hg; have HZ := Lib.hid (HW.out.z.fr hg.fr hOR); have HFR := Lib.hid ((HW.out.fr.mono (fun _ _ h => h.elim) : Fr (Only R) W w1).call hg.fr (fun _ h _ => h)); have zc := HZ.out.cell; have zf := HZ.out.frozen; have zl := HZ.out.lt; clear hg))
    have HB7 := Lib.hid (set7_blk HZ.out (.int .i64 x.op) (.string x.name) (.int .i64 x.cmp) (.int .i64 x.val) (.int .i64 x.lo) (.int .i64 x.hi) (.slice B m d))
    have HF7 := Lib.hid (set7_fr w2 W.heap.size (.int .i64 x.op) (.string x.name) (.int .i64 x.cmp) (.int .i64 x.val) (.int .i64 x.lo) (.int .i64 x.hi) (.slice B m d))
    change bodyPost _ _ _ _ _ (set7 w2 W.heap.size (.int .i64 x.op) (.string x.name) (.int .i64 x.cmp) (.int .i64 x.val) (.int .i64 x.lo) (.int .i64 x.hi) (.slice B m d))
    generalize set7 w2 W.heap.size (.int .i64 x.op) (.string x.name) (.int .i64 x.cmp) (.int .i64 x.val) (.int .i64 x.lo) (.int .i64 x.hi) (.slice B m d) = W7 at *
    have HS := HB7.out.cell
    refine bodyPost_ret (v := .tuple #[.agg #[.int .i64 x.op, .string x.name, .int .i64 x.cmp, .int .i64 x.val, .int .i64 x.lo, .int .i64 x.hi, .slice B m d], .bool false]) (by simp [results, Tryd.results181, go_sem, HS]) rfl ?_
    exact ⟨x, B, m, d, rfl, bad_done7 HRD.out HFR.out HF7.out HG.out⟩
  | ok x ks r =>
    rw [hq] at HLP
    unfold SideR fval at HLP
    clear h hne hone hq
    unfold SideR fval
    go_enter Tryd.func181, Tryd.ntmps181
    go_wp2_with (first
      | ((go_at_call 76); (with_reducible refine (HFL.out _).mono ?_); rintro en w1 ⟨rfl, hw1⟩; have HW := Lib.hid (lpw W R ⟨#[38]⟩ 5 195); rw [hw1] at HW; clear hw1; have hz1 := HW.out.size)
      | ((go_at_call 131); (with_reducible refine (HLP.out _ HW.out).mono ?_); rintro en w2 ⟨B, d, f, rfl, k2, hk2, hrr, hg⟩; have HG := Lib.hid hg; have HZ := Lib.hid (HW.out.z.fr hg.fr hOR); have HFR := Lib.hid ((HW.out.fr.mono (fun _ _ h => h.elim) : Fr (Only R) W w1).call hg.fr (fun _ h _ => h)); have zc := HZ.out.cell; have zf := HZ.out.frozen; have zl := HZ.out.lt; have HRR := Lib.hid hrr; clear hg hrr))
    have HB7 := Lib.hid (set7_blk HZ.out (.int .i64 x.op) (.string x.name) (.int .i64 x.cmp) (.int .i64 x.val) (.int .i64 x.lo) (.int .i64 x.hi) (.slice B f.len d))
    have HF7 := Lib.hid (set7_fr w2 W.heap.size (.int .i64 x.op) (.string x.name) (.int .i64 x.cmp) (.int .i64 x.val) (.int .i64 x.lo) (.int .i64 x.hi) (.slice B f.len d))
    change bodyPost _ _ _ _ _ (set7 w2 W.heap.size (.int .i64 x.op) (.string x.name) (.int .i64 x.cmp) (.int .i64 x.val) (.int .i64 x.lo) (.int .i64 x.hi) (.slice B f.len d))
    generalize set7 w2 W.heap.size (.int .i64 x.op) (.string x.name) (.int .i64 x.cmp) (.int .i64 x.val) (.int .i64 x.lo) (.int .i64 x.hi) (.slice B f.len d) = W7 at *
    have HS := HB7.out.cell
    refine bodyPost_ret (v := .tuple #[.agg #[.int .i64 x.op, .string x.name, .int .i64 x.cmp, .int .i64 x.val, .int .i64 x.lo, .int .i64 x.hi, .slice B f.len d], .bool true]) (by simp [results, Tryd.results181, go_sem, HS]) rfl ?_
    have hd := done7 HRD.out HFR.out HF7.out HG.out.rd
    exact ⟨B, d, f, rfl, k2, hk2, HRR.out, HG.out.tr, done7_sl (sl_up (by omega) HG.out.sl) HF7.out, hd.1, hd.2⟩
/-- All levels, with any fuel. -/
theorem sides (R : Nat) (A : Option Addr) (c : Nat) (toks : List (TK × Nat)) (ht : Toks toks) : ∀ n, SideOk 45 1 R A c toks (gP n) ∧ SideOk 77 2 R A c toks (gP n) ∧ SideOk 134 3 R A c toks (gP n) ∧ SideOk 181 4 R A c toks (gP n) ∧ SideOk 195 5 R A c toks (gP n) ∧ SideOk 216 6 R A c toks (gP n) ∧ SideOk 232 7 R A c toks (gP n)
  | 0 => ⟨fun _ _ _ _ h => absurd rfl h, fun _ _ _ _ h => absurd rfl h, fun _ _ _ _ h => absurd rfl h, fun _ _ _ _ h => absurd rfl h, fun _ _ _ _ h => absurd rfl h, fun _ _ _ _ h => absurd rfl h, fun _ _ _ _ h => absurd rfl h⟩
  | n + 1 => by
    obtain ⟨h1, h2, h3, h4, h5, h6, h7⟩ := sides R A c toks ht n
    exact ⟨side_iff R A c toks ht n h2, side_imp R A c toks ht n h3 h2, side_or R A c toks ht n h4, side_and R A c toks ht n h5, side_until R A c toks ht n h6 h5, side_unary R A c toks ht n h7 h6, side_atom R A c toks ht n h1⟩
end Go.Proofs.YtfebkjoohnlifaaDoor
