/- Recursions over formulas: how many nodes the reference counts, how deep they stand; how many nodes may be left. -/
import Derived.Test.YtoegdmpmagbaiaaDoorFplain
import Derived.IntWalk
namespace Go.Proofs.YtoegdmpmagbaiaaDoor
open Go.RowKit

theorem Fo.get_size : ∀ {f : Fo} {k : Nat} {x : Nd} {A : Option Addr} {c : Nat} {ks rest : Fo}, f.get k = .cons x A c ks rest → ks.tr.size + 1 + rest.tr.size ≤ f.tr.size
  | .nil, _, _, _, _, _, _, h => by simp [Fo.get] at h
  | .cons _ _ _ _ _, 0, _, _, _, _, _, h => by
    simp only [Fo.get, Fo.cons.injEq] at h
    obtain ⟨rfl, rfl, rfl, rfl, rfl⟩ := h
    simp [Fo.tr, Tr.size]
  | .cons _ _ _ _ rest, k + 1, _, _, _, _, _, h => by
    have := Fo.get_size (f := rest) (k := k) h
    simp only [Fo.tr, Tr.size]; omega
theorem Fo.get_succ : ∀ {f : Fo} {k : Nat} {x : Nd} {A : Option Addr} {c : Nat} {ks rest : Fo}, f.get k = .cons x A c ks rest → f.get (k + 1) = rest
  | .nil, _, _, _, _, _, _, h => by simp [Fo.get] at h
  | .cons _ _ _ _ r, 0, _, _, _, _, _, h => by
    simp only [Fo.get, Fo.cons.injEq] at h
    obtain ⟨rfl, rfl, rfl, rfl, rfl⟩ := h
    cases r <;> rfl
  | .cons _ _ _ _ rest, k + 1, _, _, _, _, _, h => Fo.get_succ (f := rest) (k := k) h
theorem Fo.get_end : ∀ {f : Fo} {k : Nat}, f.len ≤ k → f.get k = .nil
  | .nil, _, _ => rfl
  | .cons _ _ _ _ _, 0, h => by simp [Fo.len] at h
  | .cons _ _ _ _ rest, k + 1, h => Fo.get_end (f := rest) (by simp only [Fo.len] at h; omega)
theorem Fo.get_zero (f : Fo) : f.get 0 = f := by cases f <;> rfl
theorem Fo.len_size (f : Fo) : f.len ≤ f.tr.size := by rw [← Fo.tr_len]; exact f.tr.len_size

/-- A kid that is looked at. -/
structure KidAt (N : Nat) (w : World) (A : Option Addr) (c : Nat) (f : Fo) (k : Nat) (b off : Nat) (y : Nd) (B : Option Addr) (d : Nat) (js rs : Fo) : Prop where
  slice : A = some ⟨b, off, none⟩
  get : f.get k = .cons y B d js rs
  lt : b < w.heap.size
  bN : b < N
  nd : NdAt w b (off + k * 7) y B js.len d
  sl : FoSl N w B d js
  len : rs.len + 1 + k = f.len
  size : js.tr.size + 1 + rs.tr.size ≤ f.tr.size
theorem FoSl.kid {N : Nat} {w : World} {A : Option Addr} {c : Nat} {f : Fo} {k : Nat} (h : FoSl N w A c f) (hk : k < f.len) : ∃ b off y B d js rs, KidAt N w A c f k b off y B d js rs := by
  obtain ⟨b, off, hA⟩ := h.some_ (by omega)
  obtain ⟨y, B, d, js, rs, hg, hl⟩ := Fo.get_cons hk
  have ha := (h.at_ b off hA).get k
  rw [hg] at ha
  obtain ⟨h1, h2, h3, h4, h5, h6, _⟩ := ha
  exact ⟨b, off, y, B, d, js, rs, hA, hg, h2, h1, NdAt.of h3, ⟨h4, h5, h6⟩, hl, Fo.get_size hg⟩
theorem NdAt.fr {w w' : World} {b off : Nat} {x : Nd} {A : Option Addr} {n c : Nat} (h : NdAt w b off x A n c) (hf : Fr Nob w w') : NdAt w' b off x A n c :=
  ⟨hf.cell h.h0 (fun e => e), hf.cell h.h1 (fun e => e), hf.cell h.h2 (fun e => e), hf.cell h.h3 (fun e => e), hf.cell h.h4 (fun e => e), hf.cell h.h5 (fun e => e), hf.cell h.h6 (fun e => e)⟩
def fval (x : Nd) (A : Option Addr) (n c : Nat) : Value := .agg #[.int .i64 x.op, .string x.name, .int .i64 x.cmp, .int .i64 x.val, .int .i64 x.lo, .int .i64 x.hi, .slice A n c]

/-- How many nodes may still come behind some formulas; 0: too many, or a long name. -/
def leftF : Tr → Nat → Nat
  | .nil, m => m
  | .cons x k r, m => if m = 0 then 0 else leftF r (if 40 < x.name.size then 0 else leftF k (m - 1))
theorem leftF_zero (t : Tr) : leftF t 0 = 0 := by cases t <;> simp [leftF]
theorem leftF_le (t : Tr) : ∀ m, leftF t m ≤ m := by
  induction t with
  | nil => intro m; exact Nat.le_refl _
  | cons x k r ihk ihr =>
    intro m
    unfold leftF
    split
    · omega
    · split
      · rw [leftF_zero]; omega
      · have := ihk (m - 1); have := ihr (leftF k (m - 1)); omega
def left1 (x : Nd) (ks : Tr) (n : Nat) : Nat := if n = 0 ∨ 40 < x.name.size then 0 else leftF ks (n - 1)
/-- All names are short. -/
def Tr.shortN : Tr → Prop
  | .nil => True
  | .cons x k r => x.name.size ≤ 40 ∧ k.shortN ∧ r.shortN
theorem leftF_pos (t : Tr) : ∀ m, 0 < leftF t m → t.size + leftF t m = m ∧ t.shortN := by
  induction t with
  | nil => intro m _; simp [Tr.size, leftF, Tr.shortN]
  | cons x k r ihk ihr =>
    intro m h
    unfold leftF at h ⊢
    split at h
    · omega
    · rename_i hm
      split at h
      · rw [leftF_zero] at h; omega
      · rename_i hx
        rw [if_neg hm, if_neg hx]
        obtain ⟨h1, h2⟩ := ihr _ h
        obtain ⟨h3, h4⟩ := ihk (m - 1) (by omega)
        simp only [Tr.size, Tr.shortN]
        exact ⟨by omega, by omega, h4, h2⟩
theorem left1_pos {x : Nd} {ks : Tr} {n : Nat} (h : 0 < left1 x ks n) : ks.size + 1 ≤ n ∧ x.name.size ≤ 40 ∧ ks.shortN := by
  unfold left1 at h
  split at h
  · omega
  · obtain ⟨h1, h2⟩ := leftF_pos ks _ h
    exact ⟨by omega, by omega, h2⟩

set_option maxRecDepth 100000 in
set_option maxHeartbeats 4000000 in
theorem law_left : ∀ (n : Nat) (N : Nat) (w : World) (x : Nd) (A : Option Addr) (c : Nat) (ks : Fo), n ≤ 100000 → FoSl N w A c ks →
    Calls Tryd.prog 10 #[fval x A ks.len c, .int .i64 n] w fun e w' => e = .returned (.int .i64 (left1 x ks.tr n : Nat)) ∧ Fr Nob w w' := by
  intro n
  induction n using Nat.strongRecOn with
  | _ n ih =>
    intro N w x A c ks hn hs
    have IH := Lib.hid ih
    have HS := Lib.hid hs
    have hmx : ks.len ≤ 9223372036854775807 := Nat.le_trans hs.ok.le (by have := hs.ok.max; unfold maxLen at this; exact this)
    clear ih hs
    unfold fval at *
    by_cases h0 : n = 0
    · subst h0
      have HR := Lib.hid (show left1 x ks.tr 0 = 0 by simp [left1])
      go_enter Tryd.func10, Tryd.ntmps10
      go_wp2_with fail
      go_ret
      rw [HR.out]
      exact ⟨rfl, (Fr.refl _ _).alloc _⟩
    · have hnI : ¬ (n : Int) ≤ 0 := by omega
      have hnI2 : (0 : Int) < n := by omega
      by_cases hnm : 40 < x.name.size
      · have hnm' : (40 : Int) < x.name.size := by omega
        have HR := Lib.hid (show left1 x ks.tr n = 0 by simp [left1, hnm])
        clear h0
        go_enter Tryd.func10, Tryd.ntmps10
        go_wp2_with fail
        go_ret
        rw [HR.out]
        exact ⟨rfl, (Fr.refl _ _).alloc _⟩
      · have hnm' : (x.name.size : Int) ≤ 40 := by omega
        have HR := Lib.hid (show left1 x ks.tr n = leftF ks.tr (n - 1) by simp [left1, hnm, h0])
        clear h0
        have e1 : (n : Int) - 1 = ((n - 1 : Nat) : Int) := by omega
        have E1 := Lib.hid e1
        clear e1
        go_enter Tryd.func10, Tryd.ntmps10
        go_wp2_with fail
        go_loopw [5, 6] (fun s i wr => ∃ k v : Nat, k ≤ ks.len ∧ i = .int .i64 k ∧ s = .int .i64 v ∧ v < n ∧ Hid (leftF (ks.get k).tr v = leftF ks.tr (n - 1)) ∧ Hid (Fr Nob w wr) ∧ Hid (Blk wr w.heap.size 28 #[.int .i64 x.op, .string x.name, .int .i64 x.cmp, .int .i64 x.val, .int .i64 x.lo, .int .i64 x.hi, .slice A ks.len c])) (fun _ i _ => ks.len - (intOf i).toNat)
        case atStart => exact ⟨0, n - 1, Nat.zero_le _, rfl, vint E1.out, by omega, Lib.hid (by rw [Fo.get_zero]), Lib.hid ((Fr.refl _ _).alloc _), Lib.hid (Blk.new _ _ _)⟩
        case round =>
          obtain ⟨k, v, hk, rfl, rfl, hvn, hle, hfr, hbx⟩ := hrel
          have c6 : wr.cell? ⟨w.heap.size, 6, none⟩ = some (.slice A ks.len c) := hbx.out.cell 6
          have hbl := Blk.lt hbx.out
          by_cases hlt : k < ks.len
          · have hI : (k : Int) < ks.len := by omega
            have hI3 : 0 ≤ (k : Int) := by omega
            by_cases hv0 : v = 0
            · have HE := Lib.hid (show leftF ks.tr (n - 1) = 0 by rw [← hle.out, hv0, leftF_zero])
              subst hv0
              clear hle
              go_wp2_with fail
              go_ret
              rw [HR.out, HE.out]
              exact ⟨rfl, hfr.out⟩
            · have hvI : (0 : Int) < v := by omega
              obtain ⟨b, off, y, B, d, js, rs, K⟩ := (HS.out.fr hfr.out).kid hlt
              obtain ⟨d0, d1, d2, d3, d4, d5, d6⟩ := K.nd
              obtain rfl := K.slice
              have hlt2 := K.lt
              have hg := K.get
              have hg2 := Fo.get_succ hg
              have HC := Lib.hid (IH.out v hvn N wr y B d js (by omega) K.sl)
              have HE := Lib.hid (show leftF (ks.get (k + 1)).tr (left1 y js.tr v) = leftF ks.tr (n - 1) by
                rw [← hle.out, hg, hg2]; simp only [Fo.tr, leftF]; rw [if_neg hv0]; unfold left1; by_cases hy : 40 < y.name.size <;> simp [hy, hv0])
              have hlv : left1 y js.tr v < n := by
                have : left1 y js.tr v ≤ v := by unfold left1; split; omega; have := leftF_le js.tr (v - 1); omega
                omega
              clear hg hg2 K hv0
              generalize left1 y js.tr v = u at *
              go_wp2_with ((go_at_call 10); refine (HC.out).mono ?_; rintro e w1 ⟨rfl, hf⟩)
              go_roundw
              case rel => exact ⟨k + 1, u, by omega, by go_num, rfl, hlv, HE, Lib.hid (hfr.out.call hf (fun _ h _ => h)), Lib.hid (hbx.out.fr hf (fun e => e))⟩
              case measure => simp [intOf]; omega
          · have HE := Lib.hid (show leftF ks.tr (n - 1) = v by rw [← hle.out, Fo.get_end (by omega)]; rfl)
            go_wp2_with fail
            go_ret
            rw [HR.out, HE.out]
            exact ⟨rfl, hfr.out⟩
end Go.Proofs.YtoegdmpmagbaiaaDoor
