/- three's nodes: what is known of any node at a point. -/
import Derived.Test.YtoegdmpmagbaiaaGreatDoorQH21
namespace Go.Proofs.YtoegdmpmagbaiaaGreatDoor
open Go.RowKit Go.Lib

def notK (v : Int) : Int := if v = 2 then 2 else 1 - v
def andK (v u : Int) : Int := if v = 0 ∨ u = 0 then 0 else if v = 1 ∧ u = 1 then 1 else 2
def iffK (v u : Int) : Int := if v = 2 ∨ u = 2 then 2 else if v = u then 1 else 0
/-- What three's tables hold. -/
structure ThVar (w : World) : Prop where
  not : ∀ v, Tri v → w.cell? ⟨0, v.toNat, none⟩ = some (.int .i64 (notK v))
  and : ∀ v u, Tri v → Tri u → w.cell? ⟨1, v.toNat * 3 + u.toNat, none⟩ = some (.int .i64 (andK v u))
  iff : ∀ v u, Tri v → Tri u → w.cell? ⟨2, v.toNat * 3 + u.toNat, none⟩ = some (.int .i64 (iffK v u))
theorem ThVar.fr {w w' : World} (h : ThVar w) (hf : Fr Nob w w') : ThVar w' :=
  ⟨fun v a => hf.cell (h.not v a) (fun e => e), fun v u a b => hf.cell (h.and v u a b) (fun e => e), fun v u a b => hf.cell (h.iff v u a b) (fun e => e)⟩
set_option maxRecDepth 100000 in
set_option maxHeartbeats 8000000 in
theorem th_at (w : World) (A : Option Addr) (c : Nat) (ps : List Pn) (h : WSl w A c ps) (hW : Rise (pts ps)) (hv : ThVar w) (i : Nat) (hi' : i < ps.length) (mark : Int) (n : Nd) (NA : Option Addr) (nn nc : Nat)
    (X : Option Addr) (cx : Nat) (xs : List Int) (hx : Sl w 1 X xs.length cx (xs.map ivI)) (htri : ∀ j, Tri (xAt xs j)) (Y : Option Addr) (cy : Nat) (ys : List Int) (hy : Sl w 1 Y ys.length cy (ys.map ivI)) (htri2 : ∀ j, Tri (xAt ys j))
    (hop : n.op = 1 ∨ n.op = 2 ∨ n.op = 3 ∨ n.op = 4 ∨ n.op = 5 ∨ n.op = 8 ∨ n.op = 9 ∨ n.op = 11) (hxl : 4 ≤ n.op → xs.length = ps.length) (hyl : n.op = 5 ∨ n.op = 8 ∨ n.op = 11 → ys.length = ps.length) (hlo : 9 ≤ n.op → 0 ≤ n.lo) (hfew : ps.length ≤ 1000) :
    Calls Tryz.prog 74 #[.agg #[.slice A ps.length c, .int .i64 mark], .int .i64 i, fval n NA nn nc, .slice X xs.length cx, .slice Y ys.length cy] w fun e w' => e = .returned (.int .i64 (knK (pts ps) mark n i xs ys)) ∧ Fr Nob w w' := by
  obtain ⟨r, hr⟩ : ∃ r, r = knK (pts ps) mark n i xs ys := ⟨_, rfl⟩
  rw [← hr]
  obtain ⟨op, nm, cm, va, lo, hi⟩ := n
  dsimp only at hop hxl hyl hlo
  unfold fval
  dsimp only
  have hI : (i : Int) < ps.length := by omega
  have hI3 : 0 ≤ (i : Int) := by omega
  have HL := Lib.hid h
  have HV := Lib.hid hv
  rcases hop with rfl | rfl | rfl | rfl | rfl | rfl | rfl | rfl
  · have HR := Lib.hid (show r = 1 by rw [hr]; simp [knK])
    clear h hx hy hv hr hxl hyl hlo hW
    go_enter Tryz.func74, Tryz.ntmps74
    go_wp2_with fail
    go_ret
    rw [HR.out]
    exact ⟨rfl, ((Fr.refl _ _).alloc _).alloc _⟩
  · have HR := Lib.hid (show r = 0 by rw [hr]; simp [knK])
    clear h hx hy hv hr hxl hyl hlo hW
    go_enter Tryz.func74, Tryz.ntmps74
    go_wp2_with fail
    go_ret
    rw [HR.out]
    exact ⟨rfl, ((Fr.refl _ _).alloc _).alloc _⟩
  · have HP := Lib.hid (h.inn _ (List.getElem_mem hi'))
    obtain ⟨b, off, hA, hb, d0, d1⟩ := h.at_ hi'
    have HA := Lib.hid hA
    clear hA
    have HRR := Lib.hid (show r = if holdsB ps[i].l nm cm va then 1 else if ps[i].t ≤ mark then 0 else 2 by rw [hr]; simp [knK, tAt_pts hi', pAt_pts hi'])
    generalize ps[i] = p at *
    obtain ⟨t, pA, pc, l⟩ := p
    dsimp only at d0 d1 HP HRR
    obtain ⟨op, hop⟩ : ∃ op : Int, op = 3 := ⟨_, rfl⟩
    have HH := Lib.hid (fun W (hf : Fr Nob w W) => lab_Holds W pA pc l nm cm va (HP.out.pure hf))
    clear h hx hy hv hxl hyl hlo hW hr htri htri2 HL HV
    go_enter Tryz.func74, Tryz.ntmps74
    go_upto_region 1 with fail
    rw [← hop]
    obtain ⟨W0, hW0⟩ : ∃ W0, (w.alloc (.cells #[.slice A ps.length c, .int .i64 mark] 137)).alloc (.cells #[.int .i64 op, .string nm, .int .i64 cm, .int .i64 va, .int .i64 lo, .int .i64 hi, .slice NA nn nc] 28) = W0 := ⟨_, rfl⟩
    have HK0 := Lib.hid (show Blk W0 w.heap.size 137 #[.slice A ps.length c, .int .i64 mark] by rw [← hW0]; exact (Blk.new _ _ _).alloc _)
    have HB0 := Lib.hid (show Blk W0 (w.heap.size + 1) 28 #[.int .i64 op, .string nm, .int .i64 cm, .int .i64 va, .int .i64 lo, .int .i64 hi, .slice NA nn nc] by rw [← hW0]; exact Blk.new_eq (by simp))
    have HF0 := Lib.hid (show Fr Nob w W0 by rw [← hW0]; exact ((Fr.refl _ _).alloc _).alloc _)
    rw [hW0]
    clear hW0
    have kc := HK0.out.cell
    have kl := HK0.out.lt
    have bc := HB0.out.cell
    have bl := HB0.out.lt
    subst hop
    have hA := HA.out
    subst hA
    replace d0 := HF0.out.cell d0 (fun e => e)
    replace d1 := HF0.out.cell d1 (fun e => e)
    replace hb := Nat.lt_of_lt_of_le hb HF0.out.size
    go_upto_region 6 with fail
    obtain ⟨W1, hW1⟩ : ∃ W1, W0.alloc (.cells #[.int .i64 t, .slice pA l.length pc] 78) = W1 := ⟨_, rfl⟩
    rw [hW1]
    have HF1 := Lib.hid (show Fr Nob W0 W1 by rw [← hW1]; exact (Fr.refl _ _).alloc _)
    have HPB := Lib.hid (show Blk W1 W0.heap.size 78 #[.int .i64 t, .slice pA l.length pc] by rw [← hW1]; exact Blk.new _ _ _)
    have kc1 := (HK0.out.fr HF1.out (fun e => e)).cell
    have kl1 := (HK0.out.fr HF1.out (fun e => e)).lt
    have bc1 := (HB0.out.fr HF1.out (fun e => e)).cell
    have bl1 := (HB0.out.fr HF1.out (fun e => e)).lt
    have pc1 := HPB.out.cell
    have pl1 := HPB.out.lt
    clear hW1 kc kl bc bl d0 d1
    cases hhb : holdsB l nm cm va
    · rw [hhb] at HRR HH
      clear hhb
      by_cases htm : t ≤ mark
      · have HR := Lib.hid (show r = 0 by rw [HRR.out]; simp [htm])
        clear HRR
        go_wp2_with (first
          | ((go_at_call 89); (with_reducible refine (HH.out _ (HF0.out.call HF1.out (fun _ h _ => h))).mono ?_); rintro e w1 ⟨rfl, hf1⟩; have kc2 := ((HK0.out.fr HF1.out (fun e => e)).fr hf1 (fun e => e)).cell; have kl2 := ((HK0.out.fr HF1.out (fun e => e)).fr hf1 (fun e => e)).lt; have pc2 := (HPB.out.fr hf1 (fun e => e)).cell; have pl2 := (HPB.out.fr hf1 (fun e => e)).lt)
          | fail)
        go_ret
        rw [HR.out]
        exact ⟨rfl, (HF0.out.call HF1.out (fun _ h _ => h)).call hf1 (fun _ h _ => h)⟩
      · have HR := Lib.hid (show r = 2 by rw [HRR.out]; simp [htm])
        have htm' : mark < t := by omega
        clear HRR
        go_wp2_with (first
          | ((go_at_call 89); (with_reducible refine (HH.out _ (HF0.out.call HF1.out (fun _ h _ => h))).mono ?_); rintro e w1 ⟨rfl, hf1⟩; have kc2 := ((HK0.out.fr HF1.out (fun e => e)).fr hf1 (fun e => e)).cell; have kl2 := ((HK0.out.fr HF1.out (fun e => e)).fr hf1 (fun e => e)).lt; have pc2 := (HPB.out.fr hf1 (fun e => e)).cell; have pl2 := (HPB.out.fr hf1 (fun e => e)).lt)
          | fail)
        go_ret
        rw [HR.out]
        exact ⟨rfl, (HF0.out.call HF1.out (fun _ h _ => h)).call hf1 (fun _ h _ => h)⟩
    · have HR := Lib.hid (show r = 1 by rw [HRR.out, hhb]; rfl)
      rw [hhb] at HH
      clear HRR hhb
      go_wp2_with (first
        | ((go_at_call 89); (with_reducible refine (HH.out _ (HF0.out.call HF1.out (fun _ h _ => h))).mono ?_); rintro e w1 ⟨rfl, hf1⟩; have kc2 := ((HK0.out.fr HF1.out (fun e => e)).fr hf1 (fun e => e)).cell; have kl2 := ((HK0.out.fr HF1.out (fun e => e)).fr hf1 (fun e => e)).lt; have pc2 := (HPB.out.fr hf1 (fun e => e)).cell; have pl2 := (HPB.out.fr hf1 (fun e => e)).lt)
        | fail)
      go_ret
      rw [HR.out]
      exact ⟨rfl, (HF0.out.call HF1.out (fun _ h _ => h)).call hf1 (fun _ h _ => h)⟩
  · have hl := hxl (by decide)
    obtain ⟨bx, ofx, rfl, hbx, x0⟩ := row_at hx (k := i) (by rw [hl]; exact hi')
    have hvx := htri i
    obtain ⟨op, hop⟩ : ∃ op : Int, op = 4 := ⟨_, rfl⟩
    rw [hl]
    clear h hx hy hv hxl hyl hlo hW hl
    go_enter Tryz.func74, Tryz.ntmps74
    go_upto_region 1 with fail
    rw [← hop]
    obtain ⟨W0, hW0⟩ : ∃ W0, (w.alloc (.cells #[.slice A ps.length c, .int .i64 mark] 137)).alloc (.cells #[.int .i64 op, .string nm, .int .i64 cm, .int .i64 va, .int .i64 lo, .int .i64 hi, .slice NA nn nc] 28) = W0 := ⟨_, rfl⟩
    have HK0 := Lib.hid (show Blk W0 w.heap.size 137 #[.slice A ps.length c, .int .i64 mark] by rw [← hW0]; exact (Blk.new _ _ _).alloc _)
    have HB0 := Lib.hid (show Blk W0 (w.heap.size + 1) 28 #[.int .i64 op, .string nm, .int .i64 cm, .int .i64 va, .int .i64 lo, .int .i64 hi, .slice NA nn nc] by rw [← hW0]; exact Blk.new_eq (by simp))
    have HF0 := Lib.hid (show Fr Nob w W0 by rw [← hW0]; exact ((Fr.refl _ _).alloc _).alloc _)
    rw [hW0]
    clear hW0
    have kc := HK0.out.cell
    have kl := HK0.out.lt
    have bc := HB0.out.cell
    have bl := HB0.out.lt
    subst hop
    replace x0 := HF0.out.cell x0 (fun e => e)
    replace hbx := Nat.lt_of_lt_of_le hbx HF0.out.size
    have HVW := Lib.hid (HV.out.fr HF0.out)
    rcases hvx with hxv | hxv | hxv
    · rw [hxv] at x0
      have g0 : W0.cell? ⟨0, 0, none⟩ = some (.int .i64 1) := HVW.out.not 0 (.inl rfl)
      have HR := Lib.hid (show r = 1 by rw [hr]; simp [knK, hxv])
      clear hr
      go_wp2_with fail
      (try go_quiet (fail))
      (try go_wp2_with fail)
      go_ret
      rw [HR.out]
      first
        | exact ⟨rfl, HF0.out⟩
        | exact ⟨rfl, HF0.out.drewN _⟩
    · rw [hxv] at x0
      have g0 : W0.cell? ⟨0, 1, none⟩ = some (.int .i64 0) := HVW.out.not 1 (.inr (.inl rfl))
      have HR := Lib.hid (show r = 0 by rw [hr]; simp [knK, hxv])
      clear hr
      go_wp2_with fail
      (try go_quiet (fail))
      (try go_wp2_with fail)
      go_ret
      rw [HR.out]
      first
        | exact ⟨rfl, HF0.out⟩
        | exact ⟨rfl, HF0.out.drewN _⟩
    · rw [hxv] at x0
      have g0 : W0.cell? ⟨0, 2, none⟩ = some (.int .i64 2) := HVW.out.not 2 (.inr (.inr rfl))
      have HR := Lib.hid (show r = 2 by rw [hr]; simp [knK, hxv])
      clear hr
      go_wp2_with fail
      (try go_quiet (fail))
      (try go_wp2_with fail)
      go_ret
      rw [HR.out]
      first
        | exact ⟨rfl, HF0.out⟩
        | exact ⟨rfl, HF0.out.drewN _⟩
  · have hl := hxl (by decide)
    have hl2 := hyl (by omega)
    obtain ⟨bx, ofx, rfl, hbx, x0⟩ := row_at hx (k := i) (by rw [hl]; exact hi')
    obtain ⟨b_y, ofy, rfl, hby, y0⟩ := row_at hy (k := i) (by rw [hl2]; exact hi')
    have hvx := htri i
    have hvy := htri2 i
    obtain ⟨op, hop⟩ : ∃ op : Int, op = 5 := ⟨_, rfl⟩
    rw [hl, hl2]
    clear h hx hy hv hxl hyl hlo hW hl hl2
    go_enter Tryz.func74, Tryz.ntmps74
    go_upto_region 1 with fail
    rw [← hop]
    obtain ⟨W0, hW0⟩ : ∃ W0, (w.alloc (.cells #[.slice A ps.length c, .int .i64 mark] 137)).alloc (.cells #[.int .i64 op, .string nm, .int .i64 cm, .int .i64 va, .int .i64 lo, .int .i64 hi, .slice NA nn nc] 28) = W0 := ⟨_, rfl⟩
    have HK0 := Lib.hid (show Blk W0 w.heap.size 137 #[.slice A ps.length c, .int .i64 mark] by rw [← hW0]; exact (Blk.new _ _ _).alloc _)
    have HB0 := Lib.hid (show Blk W0 (w.heap.size + 1) 28 #[.int .i64 op, .string nm, .int .i64 cm, .int .i64 va, .int .i64 lo, .int .i64 hi, .slice NA nn nc] by rw [← hW0]; exact Blk.new_eq (by simp))
    have HF0 := Lib.hid (show Fr Nob w W0 by rw [← hW0]; exact ((Fr.refl _ _).alloc _).alloc _)
    rw [hW0]
    clear hW0
    have kc := HK0.out.cell
    have kl := HK0.out.lt
    have bc := HB0.out.cell
    have bl := HB0.out.lt
    subst hop
    replace x0 := HF0.out.cell x0 (fun e => e)
    replace y0 := HF0.out.cell y0 (fun e => e)
    replace hbx := Nat.lt_of_lt_of_le hbx HF0.out.size
    replace hby := Nat.lt_of_lt_of_le hby HF0.out.size
    have HVW := Lib.hid (HV.out.fr HF0.out)
    rcases hvx with hxv | hxv | hxv <;> rcases hvy with hyv | hyv | hyv
    · rw [hxv] at x0
      rw [hyv] at y0
      have g0 : W0.cell? ⟨1, 0, none⟩ = some (.int .i64 0) := HVW.out.and 0 0 (.inl rfl) (.inl rfl)
      have HR := Lib.hid (show r = 0 by rw [hr]; simp [knK, hxv, hyv])
      clear hr
      go_wp2_with fail
      (try go_quiet (fail))
      (try go_wp2_with fail)
      go_ret
      rw [HR.out]
      first
        | exact ⟨rfl, HF0.out⟩
        | exact ⟨rfl, HF0.out.drewN _⟩
    · rw [hxv] at x0
      rw [hyv] at y0
      have g0 : W0.cell? ⟨1, 1, none⟩ = some (.int .i64 0) := HVW.out.and 0 1 (.inl rfl) (.inr (.inl rfl))
      have HR := Lib.hid (show r = 0 by rw [hr]; simp [knK, hxv, hyv])
      clear hr
      go_wp2_with fail
      (try go_quiet (fail))
      (try go_wp2_with fail)
      go_ret
      rw [HR.out]
      first
        | exact ⟨rfl, HF0.out⟩
        | exact ⟨rfl, HF0.out.drewN _⟩
    · rw [hxv] at x0
      rw [hyv] at y0
      have g0 : W0.cell? ⟨1, 2, none⟩ = some (.int .i64 0) := HVW.out.and 0 2 (.inl rfl) (.inr (.inr rfl))
      have HR := Lib.hid (show r = 0 by rw [hr]; simp [knK, hxv, hyv])
      clear hr
      go_wp2_with fail
      (try go_quiet (fail))
      (try go_wp2_with fail)
      go_ret
      rw [HR.out]
      first
        | exact ⟨rfl, HF0.out⟩
        | exact ⟨rfl, HF0.out.drewN _⟩
    · rw [hxv] at x0
      rw [hyv] at y0
      have g0 : W0.cell? ⟨1, 3, none⟩ = some (.int .i64 0) := HVW.out.and 1 0 (.inr (.inl rfl)) (.inl rfl)
      have HR := Lib.hid (show r = 0 by rw [hr]; simp [knK, hxv, hyv])
      clear hr
      go_wp2_with fail
      (try go_quiet (fail))
      (try go_wp2_with fail)
      go_ret
      rw [HR.out]
      first
        | exact ⟨rfl, HF0.out⟩
        | exact ⟨rfl, HF0.out.drewN _⟩
    · rw [hxv] at x0
      rw [hyv] at y0
      have g0 : W0.cell? ⟨1, 4, none⟩ = some (.int .i64 1) := HVW.out.and 1 1 (.inr (.inl rfl)) (.inr (.inl rfl))
      have HR := Lib.hid (show r = 1 by rw [hr]; simp [knK, hxv, hyv])
      clear hr
      go_wp2_with fail
      (try go_quiet (fail))
      (try go_wp2_with fail)
      go_ret
      rw [HR.out]
      first
        | exact ⟨rfl, HF0.out⟩
        | exact ⟨rfl, HF0.out.drewN _⟩
    · rw [hxv] at x0
      rw [hyv] at y0
      have g0 : W0.cell? ⟨1, 5, none⟩ = some (.int .i64 2) := HVW.out.and 1 2 (.inr (.inl rfl)) (.inr (.inr rfl))
      have HR := Lib.hid (show r = 2 by rw [hr]; simp [knK, hxv, hyv])
      clear hr
      go_wp2_with fail
      (try go_quiet (fail))
      (try go_wp2_with fail)
      go_ret
      rw [HR.out]
      first
        | exact ⟨rfl, HF0.out⟩
        | exact ⟨rfl, HF0.out.drewN _⟩
    · rw [hxv] at x0
      rw [hyv] at y0
      have g0 : W0.cell? ⟨1, 6, none⟩ = some (.int .i64 0) := HVW.out.and 2 0 (.inr (.inr rfl)) (.inl rfl)
      have HR := Lib.hid (show r = 0 by rw [hr]; simp [knK, hxv, hyv])
      clear hr
      go_wp2_with fail
      (try go_quiet (fail))
      (try go_wp2_with fail)
      go_ret
      rw [HR.out]
      first
        | exact ⟨rfl, HF0.out⟩
        | exact ⟨rfl, HF0.out.drewN _⟩
    · rw [hxv] at x0
      rw [hyv] at y0
      have g0 : W0.cell? ⟨1, 7, none⟩ = some (.int .i64 2) := HVW.out.and 2 1 (.inr (.inr rfl)) (.inr (.inl rfl))
      have HR := Lib.hid (show r = 2 by rw [hr]; simp [knK, hxv, hyv])
      clear hr
      go_wp2_with fail
      (try go_quiet (fail))
      (try go_wp2_with fail)
      go_ret
      rw [HR.out]
      first
        | exact ⟨rfl, HF0.out⟩
        | exact ⟨rfl, HF0.out.drewN _⟩
    · rw [hxv] at x0
      rw [hyv] at y0
      have g0 : W0.cell? ⟨1, 8, none⟩ = some (.int .i64 2) := HVW.out.and 2 2 (.inr (.inr rfl)) (.inr (.inr rfl))
      have HR := Lib.hid (show r = 2 by rw [hr]; simp [knK, hxv, hyv])
      clear hr
      go_wp2_with fail
      (try go_quiet (fail))
      (try go_wp2_with fail)
      go_ret
      rw [HR.out]
      first
        | exact ⟨rfl, HF0.out⟩
        | exact ⟨rfl, HF0.out.drewN _⟩
  · have hl := hxl (by decide)
    have hl2 := hyl (by omega)
    obtain ⟨bx, ofx, rfl, hbx, x0⟩ := row_at hx (k := i) (by rw [hl]; exact hi')
    obtain ⟨b_y, ofy, rfl, hby, y0⟩ := row_at hy (k := i) (by rw [hl2]; exact hi')
    have hvx := htri i
    have hvy := htri2 i
    obtain ⟨op, hop⟩ : ∃ op : Int, op = 8 := ⟨_, rfl⟩
    rw [hl, hl2]
    clear h hx hy hv hxl hyl hlo hW hl hl2
    go_enter Tryz.func74, Tryz.ntmps74
    go_upto_region 1 with fail
    rw [← hop]
    obtain ⟨W0, hW0⟩ : ∃ W0, (w.alloc (.cells #[.slice A ps.length c, .int .i64 mark] 137)).alloc (.cells #[.int .i64 op, .string nm, .int .i64 cm, .int .i64 va, .int .i64 lo, .int .i64 hi, .slice NA nn nc] 28) = W0 := ⟨_, rfl⟩
    have HK0 := Lib.hid (show Blk W0 w.heap.size 137 #[.slice A ps.length c, .int .i64 mark] by rw [← hW0]; exact (Blk.new _ _ _).alloc _)
    have HB0 := Lib.hid (show Blk W0 (w.heap.size + 1) 28 #[.int .i64 op, .string nm, .int .i64 cm, .int .i64 va, .int .i64 lo, .int .i64 hi, .slice NA nn nc] by rw [← hW0]; exact Blk.new_eq (by simp))
    have HF0 := Lib.hid (show Fr Nob w W0 by rw [← hW0]; exact ((Fr.refl _ _).alloc _).alloc _)
    rw [hW0]
    clear hW0
    have kc := HK0.out.cell
    have kl := HK0.out.lt
    have bc := HB0.out.cell
    have bl := HB0.out.lt
    subst hop
    replace x0 := HF0.out.cell x0 (fun e => e)
    replace y0 := HF0.out.cell y0 (fun e => e)
    replace hbx := Nat.lt_of_lt_of_le hbx HF0.out.size
    replace hby := Nat.lt_of_lt_of_le hby HF0.out.size
    have HVW := Lib.hid (HV.out.fr HF0.out)
    rcases hvx with hxv | hxv | hxv <;> rcases hvy with hyv | hyv | hyv
    · rw [hxv] at x0
      rw [hyv] at y0
      have g0 : W0.cell? ⟨2, 0, none⟩ = some (.int .i64 1) := HVW.out.iff 0 0 (.inl rfl) (.inl rfl)
      have HR := Lib.hid (show r = 1 by rw [hr]; simp [knK, hxv, hyv])
      clear hr
      go_wp2_with fail
      (try go_quiet (fail))
      (try go_wp2_with fail)
      go_ret
      rw [HR.out]
      first
        | exact ⟨rfl, HF0.out⟩
        | exact ⟨rfl, HF0.out.drewN _⟩
    · rw [hxv] at x0
      rw [hyv] at y0
      have g0 : W0.cell? ⟨2, 1, none⟩ = some (.int .i64 0) := HVW.out.iff 0 1 (.inl rfl) (.inr (.inl rfl))
      have HR := Lib.hid (show r = 0 by rw [hr]; simp [knK, hxv, hyv])
      clear hr
      go_wp2_with fail
      (try go_quiet (fail))
      (try go_wp2_with fail)
      go_ret
      rw [HR.out]
      first
        | exact ⟨rfl, HF0.out⟩
        | exact ⟨rfl, HF0.out.drewN _⟩
    · rw [hxv] at x0
      rw [hyv] at y0
      have g0 : W0.cell? ⟨2, 2, none⟩ = some (.int .i64 2) := HVW.out.iff 0 2 (.inl rfl) (.inr (.inr rfl))
      have HR := Lib.hid (show r = 2 by rw [hr]; simp [knK, hxv, hyv])
      clear hr
      go_wp2_with fail
      (try go_quiet (fail))
      (try go_wp2_with fail)
      go_ret
      rw [HR.out]
      first
        | exact ⟨rfl, HF0.out⟩
        | exact ⟨rfl, HF0.out.drewN _⟩
    · rw [hxv] at x0
      rw [hyv] at y0
      have g0 : W0.cell? ⟨2, 3, none⟩ = some (.int .i64 0) := HVW.out.iff 1 0 (.inr (.inl rfl)) (.inl rfl)
      have HR := Lib.hid (show r = 0 by rw [hr]; simp [knK, hxv, hyv])
      clear hr
      go_wp2_with fail
      (try go_quiet (fail))
      (try go_wp2_with fail)
      go_ret
      rw [HR.out]
      first
        | exact ⟨rfl, HF0.out⟩
        | exact ⟨rfl, HF0.out.drewN _⟩
    · rw [hxv] at x0
      rw [hyv] at y0
      have g0 : W0.cell? ⟨2, 4, none⟩ = some (.int .i64 1) := HVW.out.iff 1 1 (.inr (.inl rfl)) (.inr (.inl rfl))
      have HR := Lib.hid (show r = 1 by rw [hr]; simp [knK, hxv, hyv])
      clear hr
      go_wp2_with fail
      (try go_quiet (fail))
      (try go_wp2_with fail)
      go_ret
      rw [HR.out]
      first
        | exact ⟨rfl, HF0.out⟩
        | exact ⟨rfl, HF0.out.drewN _⟩
    · rw [hxv] at x0
      rw [hyv] at y0
      have g0 : W0.cell? ⟨2, 5, none⟩ = some (.int .i64 2) := HVW.out.iff 1 2 (.inr (.inl rfl)) (.inr (.inr rfl))
      have HR := Lib.hid (show r = 2 by rw [hr]; simp [knK, hxv, hyv])
      clear hr
      go_wp2_with fail
      (try go_quiet (fail))
      (try go_wp2_with fail)
      go_ret
      rw [HR.out]
      first
        | exact ⟨rfl, HF0.out⟩
        | exact ⟨rfl, HF0.out.drewN _⟩
    · rw [hxv] at x0
      rw [hyv] at y0
      have g0 : W0.cell? ⟨2, 6, none⟩ = some (.int .i64 2) := HVW.out.iff 2 0 (.inr (.inr rfl)) (.inl rfl)
      have HR := Lib.hid (show r = 2 by rw [hr]; simp [knK, hxv, hyv])
      clear hr
      go_wp2_with fail
      (try go_quiet (fail))
      (try go_wp2_with fail)
      go_ret
      rw [HR.out]
      first
        | exact ⟨rfl, HF0.out⟩
        | exact ⟨rfl, HF0.out.drewN _⟩
    · rw [hxv] at x0
      rw [hyv] at y0
      have g0 : W0.cell? ⟨2, 7, none⟩ = some (.int .i64 2) := HVW.out.iff 2 1 (.inr (.inr rfl)) (.inr (.inl rfl))
      have HR := Lib.hid (show r = 2 by rw [hr]; simp [knK, hxv, hyv])
      clear hr
      go_wp2_with fail
      (try go_quiet (fail))
      (try go_wp2_with fail)
      go_ret
      rw [HR.out]
      first
        | exact ⟨rfl, HF0.out⟩
        | exact ⟨rfl, HF0.out.drewN _⟩
    · rw [hxv] at x0
      rw [hyv] at y0
      have g0 : W0.cell? ⟨2, 8, none⟩ = some (.int .i64 2) := HVW.out.iff 2 2 (.inr (.inr rfl)) (.inr (.inr rfl))
      have HR := Lib.hid (show r = 2 by rw [hr]; simp [knK, hxv, hyv])
      clear hr
      go_wp2_with fail
      (try go_quiet (fail))
      (try go_wp2_with fail)
      go_ret
      rw [HR.out]
      first
        | exact ⟨rfl, HF0.out⟩
        | exact ⟨rfl, HF0.out.drewN _⟩
  · have hl := hxl (by decide)
    have HEV := Lib.hid (fun W (hf : Fr Nob w W) => th_ev W A c ps (h.pure hf) hW i hi' mark lo hi X cx xs (hx.pure hf) hl htri (hlo (by decide)) hfew)
    have HR := Lib.hid (show r = evK (pts ps) mark lo hi i xs by rw [hr]; simp [knK])
    generalize evK (pts ps) mark lo hi i xs = r2 at *
    rw [hl] at HEV ⊢
    obtain ⟨op, hop⟩ : ∃ op : Int, op = 9 := ⟨_, rfl⟩
    clear h hx hy hv hxl hyl hlo hW hl hr htri htri2 HL HV
    go_enter Tryz.func74, Tryz.ntmps74
    go_upto_region 1 with fail
    rw [← hop]
    obtain ⟨W0, hW0⟩ : ∃ W0, (w.alloc (.cells #[.slice A ps.length c, .int .i64 mark] 137)).alloc (.cells #[.int .i64 op, .string nm, .int .i64 cm, .int .i64 va, .int .i64 lo, .int .i64 hi, .slice NA nn nc] 28) = W0 := ⟨_, rfl⟩
    have HK0 := Lib.hid (show Blk W0 w.heap.size 137 #[.slice A ps.length c, .int .i64 mark] by rw [← hW0]; exact (Blk.new _ _ _).alloc _)
    have HB0 := Lib.hid (show Blk W0 (w.heap.size + 1) 28 #[.int .i64 op, .string nm, .int .i64 cm, .int .i64 va, .int .i64 lo, .int .i64 hi, .slice NA nn nc] by rw [← hW0]; exact Blk.new_eq (by simp))
    have HF0 := Lib.hid (show Fr Nob w W0 by rw [← hW0]; exact ((Fr.refl _ _).alloc _).alloc _)
    rw [hW0]
    clear hW0
    have kc := HK0.out.cell
    have kl := HK0.out.lt
    have bc := HB0.out.cell
    have bl := HB0.out.lt
    subst hop
    go_wp2_with (first | ((go_at_call 123); (with_reducible refine (HEV.out _ HF0.out).mono ?_); rintro e w1 ⟨rfl, hf1⟩) | fail)
    go_ret
    rw [HR.out]
    exact ⟨rfl, HF0.out.call hf1 (fun _ h _ => h)⟩
  · have hl := hxl (by decide)
    have hl2 := hyl (by omega)
    have HUN := Lib.hid (fun W (hf : Fr Nob w W) => th_un W A c ps (h.pure hf) hW i hi' mark lo hi X cx xs (hx.pure hf) hl htri Y cy ys (hy.pure hf) hl2 htri2 (hlo (by decide)) hfew)
    have HR := Lib.hid (show r = unK (pts ps) mark lo hi i xs ys by rw [hr]; simp [knK])
    generalize unK (pts ps) mark lo hi i xs ys = r2 at *
    rw [hl, hl2] at HUN ⊢
    obtain ⟨op, hop⟩ : ∃ op : Int, op = 11 := ⟨_, rfl⟩
    clear h hx hy hv hxl hyl hlo hW hl hl2 hr htri htri2 HL HV
    go_enter Tryz.func74, Tryz.ntmps74
    go_upto_region 1 with fail
    rw [← hop]
    obtain ⟨W0, hW0⟩ : ∃ W0, (w.alloc (.cells #[.slice A ps.length c, .int .i64 mark] 137)).alloc (.cells #[.int .i64 op, .string nm, .int .i64 cm, .int .i64 va, .int .i64 lo, .int .i64 hi, .slice NA nn nc] 28) = W0 := ⟨_, rfl⟩
    have HK0 := Lib.hid (show Blk W0 w.heap.size 137 #[.slice A ps.length c, .int .i64 mark] by rw [← hW0]; exact (Blk.new _ _ _).alloc _)
    have HB0 := Lib.hid (show Blk W0 (w.heap.size + 1) 28 #[.int .i64 op, .string nm, .int .i64 cm, .int .i64 va, .int .i64 lo, .int .i64 hi, .slice NA nn nc] by rw [← hW0]; exact Blk.new_eq (by simp))
    have HF0 := Lib.hid (show Fr Nob w W0 by rw [← hW0]; exact ((Fr.refl _ _).alloc _).alloc _)
    rw [hW0]
    clear hW0
    have kc := HK0.out.cell
    have kl := HK0.out.lt
    have bc := HB0.out.cell
    have bl := HB0.out.lt
    subst hop
    go_wp2_with (first | ((go_at_call 124); (with_reducible refine (HUN.out _ HF0.out).mono ?_); rintro e w1 ⟨rfl, hf1⟩) | fail)
    go_ret
    rw [HR.out]
    exact ⟨rfl, HF0.out.call hf1 (fun _ h _ => h)⟩
end Go.Proofs.YtoegdmpmagbaiaaGreatDoor
