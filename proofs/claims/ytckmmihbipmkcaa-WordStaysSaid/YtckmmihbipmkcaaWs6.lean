/- Merging in place: the general case. -/
import Derived.Test.YtckmmihbipmkcaaWs5
namespace Go.Proofs.Ytckmmihbipmkcaa
open Go.RowKit Go.Sort Go.Lib

/-- What stands behind the turn, in whichever way it came about. -/
theorem rotT_none {α : Type} [Inhabited α] (d : Array α) {s m en : Nat} (h : s = m ∨ m = en) (hs : s ≤ m) (he : m ≤ en) (p : Nat) : rotT d s m en p = d[p]! := by
  unfold rotT
  rcases h with h | h
  · subst h
    by_cases h1 : s ≤ p ∧ p < s + (en - s)
    · rw [if_pos h1]; congr 1; omega
    · rw [if_neg h1, if_neg (by omega)]
  · subst h
    rw [if_neg (by omega)]
    by_cases h2 : s + (m - m) ≤ p ∧ p < m
    · rw [if_pos h2]; congr 1; omega
    · rw [if_neg h2]
theorem perm_mono {d d' : Array Ev} {a b a' b' : Nat} (ha : a' ≤ a) (hb : b ≤ b') (hs : b' ≤ d.size) (h : PermIn a b d d') : PermIn a' b' d d' := permIn_mono d d' a b a' b' ha hb hs h
/-- How far the search about the middle is. -/
structure SrM (lt : Ev → Ev → Bool) (d : Array Ev) (p s0 r0 s r : Nat) : Prop where
  lo : s = s0 ∨ lt d[p - (s - 1)]! d[s - 1]! = false
  hi : r = r0 ∨ lt d[p - r]! d[r]! = true
/-- Where the search begins and ends. -/
structure SymB (a m b mid s0 r0 : Nat) : Prop where
  am : a < m
  mb : m < b
  m1 : 2 * mid ≤ a + b
  m2 : a + b ≤ 2 * mid + 1
  c : (mid < m ∧ s0 + b = mid + m ∧ r0 = mid) ∨ (m ≤ mid ∧ s0 = a ∧ r0 = m)
theorem SymB.le {a m b mid s0 r0 : Nat} (h : SymB a m b mid s0 r0) : a ≤ s0 ∧ s0 ≤ r0 ∧ r0 ≤ m ∧ r0 ≤ mid ∧ mid + m ≤ s0 + b := by
  obtain ⟨h1, h2, h3, h4, h5⟩ := h
  rcases h5 with ⟨h6, h7, h8⟩ | ⟨h6, h7, h8⟩ <;> refine ⟨?_, ?_, ?_, ?_, ?_⟩ <;> omega
/-- What stands behind the turn. -/
structure SymMid (dk d1 : Array Ev) (a b mid s en : Nat) : Prop where
  perm : PermIn a b dk d1
  s1 : SortedIn (ltOf evcf) a s d1
  s2 : SortedIn (ltOf evcf) s mid d1
  s3 : SortedIn (ltOf evcf) mid en d1
  s4 : SortedIn (ltOf evcf) en b d1
  cross : ∀ i j, a ≤ i → i < mid → mid ≤ j → j < b → ltOf evcf d1[j]! d1[i]! = false
theorem SrM.done {dk d1 : Array Ev} {a m b mid s0 r0 s : Nat} (h : SrM (ltOf evcf) dk (mid + m - 1) s0 r0 s s) (B : SymB a m b mid s0 r0) (h0 : s0 ≤ s) (h1 : s ≤ r0) (o1 : SortedIn (ltOf evcf) a m dk) (o2 : SortedIn (ltOf evcf) m b dk)
    (hp : PermIn a b dk d1) (hg : ∀ p, d1[p]! = rotT dk s m (mid + m - s) p) : SymMid dk d1 a b mid s (mid + m - s) := by
  obtain ⟨l1, l2, l3, l4, l5⟩ := B.le
  obtain ⟨am, mb, m1, m2, c⟩ := B
  have hlo : a < s → mid + m - s < b → ltOf evcf dk[mid + m - s]! dk[s - 1]! = false := fun h2 h3 => by
    rcases h.lo with e | e
    · omega
    · rwa [show mid + m - 1 - (s - 1) = mid + m - s by omega] at e
  have hhi : s < m → m < mid + m - s → ltOf evcf dk[mid + m - s - 1]! dk[s]! = true := fun h2 h3 => by
    rcases h.hi with e | e
    · omega
    · rwa [show mid + m - 1 - s = mid + m - s - 1 by omega] at e
  obtain ⟨p1, p2⟩ := sym_parts ev_swo (a := a) (m := m) (b := b) (mid := mid) (s := s) (en := mid + m - s) (by omega) (by omega) (by omega) (by omega) (by omega) (by omega) (by omega) o1 o2 hlo hhi
  refine ⟨hp, fun i j hi hij hj => ?_, fun i j hi hij hj => ?_, fun i j hi hij hj => ?_, fun i j hi hij hj => ?_, fun i j hi him hj hjb => ?_⟩
  · rw [hg, hg]
    unfold rotT
    rw [if_neg (by omega), if_neg (by omega), if_neg (by omega), if_neg (by omega)]
    exact p1 i j hi hij hj
  · rw [hg, hg]
    unfold rotT
    rw [if_pos (by omega), if_pos (by omega)]
    exact o2 _ _ (by omega) (by omega) (by omega)
  · rw [hg, hg]
    unfold rotT
    rw [if_neg (by omega), if_pos (by omega), if_neg (by omega), if_pos (by omega)]
    exact o1 _ _ (by omega) (by omega) (by omega)
  · rw [hg, hg]
    unfold rotT
    rw [if_neg (by omega), if_neg (by omega), if_neg (by omega), if_neg (by omega)]
    exact o2 i j (by omega) hij hj
  · rw [hg, hg]
    exact p2 i j hi him hj hjb
theorem SymMid.fin {dk d1 d2 d3 : Array Ev} {a b mid s en : Nat} (h : SymMid dk d1 a b mid s en) (ham : a ≤ mid) (hmb : mid ≤ b) (hb : b ≤ dk.size) (p2 : PermIn a mid d1 d2) (o2 : SortedIn (ltOf evcf) a mid d2) (p3 : PermIn mid b d2 d3) (o3 : SortedIn (ltOf evcf) mid b d3) :
    PermIn a b dk d3 ∧ SortedIn (ltOf evcf) a b d3 := by
  have z1 := h.perm.1
  have z2 := p2.1
  have z3 := p3.1
  refine ⟨permIn_trans _ _ _ _ _ h.perm (permIn_trans _ _ _ _ _ (perm_mono (Nat.le_refl a) hmb (by omega) p2) (perm_mono ham (Nat.le_refl b) (by omega) p3)), ?_⟩
  exact sorted_join (sorted_frame o2 p3 (.inl (Nat.le_refl _))) o3 (cross_perm (by omega) (by omega) p2 p3 h.cross)
set_option maxRecDepth 100000 in
set_option maxHeartbeats 8000000 in
theorem ev_sym : ∀ (n : Nat) {w0 W : World} {blk off cap : Nat} {d0 dk : Array Ev} (_ : SWK evc 3 w0 blk off dk W) (_ : RowK evc 3 w0 blk off d0) (_ : dk.size = d0.size) (a m b : Nat) (_ : b - a ≤ n) (_ : a < m) (_ : m < b) (_ : b ≤ dk.size) (_ : dk.size ≤ 1000000)
    (_ : SortedIn (ltOf evcf) a m dk) (_ : SortedIn (ltOf evcf) m b dk),
    Calls Try.prog 55 #[.slice (some ⟨blk, off, none⟩) dk.size cap, .int .i64 a, .int .i64 m, .int .i64 b, .func (.func 31) #[] #[]] W fun e w' => e = .returned (.tuple #[]) ∧ ∃ d, SWK evc 3 w0 blk off d w' ∧ PermIn a b dk d ∧ SortedIn (ltOf evcf) a b d := by
  intro n
  induction n with
  | zero => intro _ _ _ _ _ _ _ _ _ _ a m b h1 h2 h3; omega
  | succ n ih =>
    intro w0 W blk off cap d0 dk h R hs a m b hn ham hmb hb hsz o1 o2
    by_cases hm1 : m = a + 1
    · exact ev_sym1 h R hs a m b hm1 hmb hb hsz (hm1 ▸ o2)
    by_cases hb1 : b = m + 1
    · exact ev_sym2 h R hs a m b (by omega) hb1 hb hsz o1
    have HS := Lib.hid h
    have HR := Lib.hid R
    have HSZ := Lib.hid hs
    have HO := Lib.hid (And.intro o1 o2)
    have e0 : ((m : Int) - a == 1) = false := by simp; omega
    have e1 : ((b : Int) - m == 1) = false := by simp; omega
    have mixed : Try.prog.follows Departure.mixedOrders = true := by kernel_rfl
    have IH := Lib.hid (fun (X : World) (d : Array Ev) (hx : SWK evc 3 w0 blk off d X) (hd : d.size = dk.size) (a m b : Nat) (hn : b - a ≤ n) (h1 : a < m) (h2 : m < b) (h3 : b ≤ dk.size) (p1 : SortedIn (ltOf evcf) a m d) (p2 : SortedIn (ltOf evcf) m b d) =>
      (show Calls Try.prog 55 #[.slice (some ⟨blk, off, none⟩) dk.size cap, .int .i64 a, .int .i64 m, .int .i64 b, .func (.func 31) #[] #[]] X fun e w' => e = .returned (.tuple #[]) ∧ ∃ d2, SWK evc 3 w0 blk off d2 w' ∧ PermIn a b d d2 ∧ SortedIn (ltOf evcf) a b d2 by
        have := ih (cap := cap) hx R (by omega) a m b hn h1 h2 (by omega) (by omega) p1 p2
        rwa [hd] at this))
    have HRT := Lib.hid (fun (X : World) (hx : SWK evc 3 w0 blk off dk X) (a m b : Nat) (h1 : a < m) (h2 : m < b) (h3 : b ≤ dk.size) => ev_rotate (.func (.func 31) #[] #[]) (cap := cap) hx R hs a m b h1 h2 h3 hsz)
    clear ih h R hs o1 o2 hm1 hb1
    go_enter Try.func55, Try.ntmps55
    go_upto_region 25 with fail
    obtain ⟨mid, hmid⟩ : ∃ mid, (a + b) / 2 = mid := ⟨_, rfl⟩
    have em : ((a : Int) + b) / 2 = mid := by omega
    have m1 : 2 * mid ≤ a + b := by omega
    have m2 : a + b ≤ 2 * mid + 1 := by omega
    rw [em]
    clear em hmid
    by_cases hmm : mid < m
    · have hI : (mid : Int) < m := by omega
      obtain ⟨s0, hs0⟩ : ∃ s0, mid + m - b = s0 := ⟨_, rfl⟩
      have e2 : (mid : Int) + m - b = (s0 : Nat) := by omega
      have HB := Lib.hid (show SymB a m b mid s0 mid from ⟨ham, hmb, m1, m2, .inl ⟨hmm, by omega, rfl⟩⟩)
      clear hs0
      have HL := Lib.hid HB.out.le
      obtain ⟨lb1, lb2, lb3, lb4, lb5⟩ := HL.out
      go_wp2_with fail
      go_loopw [20, 21] (fun iv jv wr => ∃ (s r : Nat), s0 ≤ s ∧ s ≤ r ∧ r ≤ mid ∧ iv = .int .i64 s ∧ jv = .int .i64 r ∧ Hid (SWK evc 3 w0 blk off dk wr ∧ SrM (ltOf evcf) dk (mid + m - 1) s0 mid s r)) (fun iv jv _ => (intOf jv).toNat - (intOf iv).toNat)
      case atStart => exact ⟨s0, mid, Nat.le_refl _, lb2, Nat.le_refl _, by first | rfl | (rw [e2]), rfl, Lib.hid ⟨HS.out, .inl rfl, .inl rfl⟩⟩
      case round =>
        obtain ⟨s, r, hs0, hsr, hr0, rfl, rfl, hi⟩ := hrel
        by_cases hlt : s < r
        · have hI : (s : Int) < r := by omega
          go_upto_region 35 with fail
          obtain ⟨h, hh⟩ : ∃ h, (s + r) / 2 = h := ⟨_, rfl⟩
          have eh : ((s : Int) + r) / 2 = h := by omega
          have h1 : s ≤ h := by omega
          have h2 : h < r := by omega
          clear hh
          rw [eh]
          obtain ⟨q, hq⟩ : ∃ q, mid + m - 1 - h = q := ⟨_, rfl⟩
          have hq1 : (mid : Int) + m - 1 - h = (q : Nat) := by omega
          have hq4 : IntKind.i64.wrap (q : Int) = q := by rw [IntKind.wrap_i64]; omega
          have hq3 : q < dk.size := by omega
          have HQ := Lib.hid hq
          clear hq
          have HG := Lib.hid (fun n os => hi.out.1.grown n os)
          have KX := fun n os => swk_ev (HG.out n os) HR.out HSZ.out q (by omega)
          have KY := fun n os => swk_ev (HG.out n os) HR.out HSZ.out h (by omega)
          obtain ⟨x, hx⟩ : ∃ x, dk[q]! = x := ⟨_, rfl⟩
          obtain ⟨y, hy⟩ : ∃ y, dk[h]! = y := ⟨_, rfl⟩
          have HXY := Lib.hid (And.intro hx hy)
          rw [hx] at KX
          rw [hy] at KY
          have x0 := fun n os => (KX n os).c0
          have x1 := fun n os => (KX n os).c1
          have x2 := fun n os => (KX n os).c2
          have y0 := fun n os => (KY n os).c0
          have y1 := fun n os => (KY n os).c1
          have y2 := fun n os => (KY n os).c2
          have HCG := Lib.hid (fun n os => ev_cmp (grow (wr.drewN n) os) x y)
          clear KX KY hx hy
          have b1 : (q : Int) < dk.size := by omega
          have b2 : (h : Int) < dk.size := by omega
          by_cases hlv : evcf x y < 0
          · have HN := Lib.hid (fun X (hX : SWK evc 3 w0 blk off dk X) => (show SWK evc 3 w0 blk off dk X ∧ SrM (ltOf evcf) dk (mid + m - 1) s0 mid s h from ⟨hX, hi.out.2.lo, .inr (by rw [HQ.out, HXY.out.1, HXY.out.2]; exact ev_lt_true hlv)⟩))
            clear hi
            obtain ⟨xs, xt, xA, xc, xl⟩ := x
            obtain ⟨ys, yt, yA, yc, yl⟩ := y
            unfold evc at HCG
            dsimp only at x0 x1 x2 y0 y1 y2 HCG
            go_quiet_grown (first | (go_at_call 31; refine Calls.grown_of (HCG.out _ _)))
            go_wp2_with fail
            go_roundw
            case rel => exact ⟨s, h, hs0, h1, by omega, rfl, rfl, Lib.hid (HN.out _ (HG.out nq osq))⟩
            case measure => simp [intOf]; omega
          · have HN := Lib.hid (fun X (hX : SWK evc 3 w0 blk off dk X) => (show SWK evc 3 w0 blk off dk X ∧ SrM (ltOf evcf) dk (mid + m - 1) s0 mid (h + 1) r from ⟨hX, .inr (by rw [Nat.add_sub_cancel, HQ.out, HXY.out.1, HXY.out.2]; exact ev_lt_false hlv), hi.out.2.hi⟩))
            clear hi
            obtain ⟨xs, xt, xA, xc, xl⟩ := x
            obtain ⟨ys, yt, yA, yc, yl⟩ := y
            unfold evc at HCG
            dsimp only at x0 x1 x2 y0 y1 y2 HCG
            go_quiet_grown (first | (go_at_call 31; refine Calls.grown_of (HCG.out _ _)))
            go_wp2_with fail
            go_roundw
            case rel => exact ⟨h + 1, r, by omega, by omega, hr0, by go_num, rfl, Lib.hid (HN.out _ (HG.out nq osq))⟩
            case measure => simp [intOf]; omega
        · obtain rfl : s = r := by omega
          have HDN := Lib.hid (fun (d1 : Array Ev) (hp : PermIn a b dk d1) (hg : ∀ p, d1[p]! = rotT dk s m (mid + m - s) p) => hi.out.2.done HB.out hs0 hr0 HO.out.1 HO.out.2 hp hg)
          have HI1 := Lib.hid hi.out.1
          clear hi
          obtain ⟨en, hen⟩ : ∃ en, mid + m - s = en := ⟨_, rfl⟩
          have fe : (mid : Int) + m - s = (en : Nat) := by omega
          rw [hen] at HDN
          have hen1 : m ≤ en := by omega
          have hen2 : en ≤ b := by omega
          have hen3 : s + (en - m) = mid := by omega
          have hsa : a ≤ s := by omega
          have hsm : s ≤ m := by omega
          have hsd : s ≤ mid := by omega
          clear hen
          go_upto_region 39 with fail
          (try rw [fe])
          clear fe lb1 lb2 lb3 lb4 lb5 hs0 hr0 hlt HL
          by_cases hrot : s < m ∧ m < en
          · obtain ⟨hr1, hr2⟩ := hrot
            have hI1 : (s : Int) < m := by omega
            have hI2 : (m : Int) < en := by omega
            have HC := Lib.hid (HRT.out _ HI1.out s m en hr1 hr2 (by omega))
            go_upto_region 41 with (first
              | ((go_at_call 67); (with_reducible refine (HC.out).mono ?_); rintro e w1 ⟨rfl, d1, hw1, hr1⟩; have HW := Lib.hid hw1; have HMID := Lib.hid (HDN.out d1 (perm_mono hsa hen2 hb hr1.perm) hr1.get); clear hw1 hr1))
            have HZ1 := Lib.hid HMID.out.perm.1
            by_cases hx1 : a < s ∧ s < mid
            · obtain ⟨hx, hx2⟩ := hx1
              have hI3 : (a : Int) < s := by omega
              have hI4 : (s : Int) < mid := by omega
              have HC1 := Lib.hid (IH.out w1 d1 HW.out HZ1.out a s mid (by omega) hx hx2 (by omega) HMID.out.s1 HMID.out.s2)
              go_upto_region 43 with (first
                | ((go_at_call 55); (with_reducible refine (HC1.out).mono ?_); rintro e w2 ⟨rfl, d2, hw2, hp2, ho2⟩; have H2 := Lib.hid (And.intro hw2 (And.intro hp2 ho2)); clear hw2 hp2 ho2))
              all_goals
                have hz2 := H2.out.2.1.1
                by_cases hx3 : mid < en ∧ en < b
                · obtain ⟨hx4, hx5⟩ := hx3
                  have hI5 : (mid : Int) < en := by omega
                  have hI6 : (en : Int) < b := by omega
                  have HC2 := Lib.hid (IH.out w2 d2 H2.out.1 (by have := HZ1.out; omega) mid en b (by omega) hx4 hx5 hb (sorted_frame HMID.out.s3 H2.out.2.1 (.inr (Nat.le_refl _))) (sorted_frame HMID.out.s4 H2.out.2.1 (.inr (by omega))))
                  clear hz2
                  go_wp2_with (first
                    | ((go_at_call 55); (with_reducible refine (HC2.out).mono ?_); rintro e w3 ⟨rfl, d3, hw3, hp3, ho3⟩; have H3 := Lib.hid (And.intro hw3 (And.intro hp3 ho3)); clear hw3 hp3 ho3))
                  all_goals
                    go_end0
                    obtain ⟨rp, ro⟩ := HMID.out.fin (by omega) (by omega) hb H2.out.2.1 H2.out.2.2 H3.out.2.1 H3.out.2.2
                    exact ⟨rfl, _, H3.out.1, rp, ro⟩
                · have HS3 := Lib.hid (show SortedIn (ltOf evcf) mid b d2 from by
                    rcases Nat.lt_or_ge mid en with h1 | h1
                    · have e1 : en = b := by omega
                      have := sorted_frame HMID.out.s3 H2.out.2.1 (.inr (Nat.le_refl _))
                      rwa [e1] at this
                    · have e1 : en = mid := by omega
                      have := sorted_frame HMID.out.s4 H2.out.2.1 (.inr (by omega))
                      rwa [e1] at this)
                  clear hz2
                  by_cases h1 : mid < en
                  · have hI5 : (mid : Int) < en := by omega
                    have hI6 : (b : Int) ≤ en := by omega
                    go_wp2_with fail
                    all_goals
                      go_end0
                      obtain ⟨rp, ro⟩ := HMID.out.fin (by omega) (by omega) hb H2.out.2.1 H2.out.2.2 (permIn_refl _ _ _) HS3.out
                      exact ⟨rfl, _, H2.out.1, rp, ro⟩
                  · have hI5 : (en : Int) ≤ mid := by omega
                    go_wp2_with fail
                    all_goals
                      go_end0
                      obtain ⟨rp, ro⟩ := HMID.out.fin (by omega) (by omega) hb H2.out.2.1 H2.out.2.2 (permIn_refl _ _ _) HS3.out
                      exact ⟨rfl, _, H2.out.1, rp, ro⟩
            · have H2 := Lib.hid (show SWK evc 3 w0 blk off d1 w1 ∧ PermIn a mid d1 d1 ∧ SortedIn (ltOf evcf) a mid d1 from ⟨HW.out, permIn_refl _ _ _, by
                rcases Nat.lt_or_ge a s with h1 | h1
                · have e1 : mid = s := by omega
                  rw [e1]; exact HMID.out.s1
                · have e1 : s = a := by omega
                  have := HMID.out.s2
                  rwa [e1] at this⟩)
              by_cases h1 : a < s
              · have hI3 : (a : Int) < s := by omega
                have hI4 : (mid : Int) ≤ s := by omega
                go_upto_region 43 with fail
                all_goals
                  have hz2 := H2.out.2.1.1
                  by_cases hx3 : mid < en ∧ en < b
                  · obtain ⟨hx4, hx5⟩ := hx3
                    have hI5 : (mid : Int) < en := by omega
                    have hI6 : (en : Int) < b := by omega
                    have HC2 := Lib.hid (IH.out w1 d1 H2.out.1 (by have := HZ1.out; omega) mid en b (by omega) hx4 hx5 hb (sorted_frame HMID.out.s3 H2.out.2.1 (.inr (Nat.le_refl _))) (sorted_frame HMID.out.s4 H2.out.2.1 (.inr (by omega))))
                    clear hz2
                    go_wp2_with (first
                      | ((go_at_call 55); (with_reducible refine (HC2.out).mono ?_); rintro e w3 ⟨rfl, d3, hw3, hp3, ho3⟩; have H3 := Lib.hid (And.intro hw3 (And.intro hp3 ho3)); clear hw3 hp3 ho3))
                    all_goals
                      go_end0
                      obtain ⟨rp, ro⟩ := HMID.out.fin (by omega) (by omega) hb H2.out.2.1 H2.out.2.2 H3.out.2.1 H3.out.2.2
                      exact ⟨rfl, _, H3.out.1, rp, ro⟩
                  · have HS3 := Lib.hid (show SortedIn (ltOf evcf) mid b d1 from by
                      rcases Nat.lt_or_ge mid en with h1 | h1
                      · have e1 : en = b := by omega
                        have := sorted_frame HMID.out.s3 H2.out.2.1 (.inr (Nat.le_refl _))
                        rwa [e1] at this
                      · have e1 : en = mid := by omega
                        have := sorted_frame HMID.out.s4 H2.out.2.1 (.inr (by omega))
                        rwa [e1] at this)
                    clear hz2
                    by_cases h1 : mid < en
                    · have hI5 : (mid : Int) < en := by omega
                      have hI6 : (b : Int) ≤ en := by omega
                      go_wp2_with fail
                      all_goals
                        go_end0
                        obtain ⟨rp, ro⟩ := HMID.out.fin (by omega) (by omega) hb H2.out.2.1 H2.out.2.2 (permIn_refl _ _ _) HS3.out
                        exact ⟨rfl, _, H2.out.1, rp, ro⟩
                    · have hI5 : (en : Int) ≤ mid := by omega
                      go_wp2_with fail
                      all_goals
                        go_end0
                        obtain ⟨rp, ro⟩ := HMID.out.fin (by omega) (by omega) hb H2.out.2.1 H2.out.2.2 (permIn_refl _ _ _) HS3.out
                        exact ⟨rfl, _, H2.out.1, rp, ro⟩
              · have hI3 : (s : Int) ≤ a := by omega
                go_upto_region 43 with fail
                all_goals
                  have hz2 := H2.out.2.1.1
                  by_cases hx3 : mid < en ∧ en < b
                  · obtain ⟨hx4, hx5⟩ := hx3
                    have hI5 : (mid : Int) < en := by omega
                    have hI6 : (en : Int) < b := by omega
                    have HC2 := Lib.hid (IH.out w1 d1 H2.out.1 (by have := HZ1.out; omega) mid en b (by omega) hx4 hx5 hb (sorted_frame HMID.out.s3 H2.out.2.1 (.inr (Nat.le_refl _))) (sorted_frame HMID.out.s4 H2.out.2.1 (.inr (by omega))))
                    clear hz2
                    go_wp2_with (first
                      | ((go_at_call 55); (with_reducible refine (HC2.out).mono ?_); rintro e w3 ⟨rfl, d3, hw3, hp3, ho3⟩; have H3 := Lib.hid (And.intro hw3 (And.intro hp3 ho3)); clear hw3 hp3 ho3))
                    all_goals
                      go_end0
                      obtain ⟨rp, ro⟩ := HMID.out.fin (by omega) (by omega) hb H2.out.2.1 H2.out.2.2 H3.out.2.1 H3.out.2.2
                      exact ⟨rfl, _, H3.out.1, rp, ro⟩
                  · have HS3 := Lib.hid (show SortedIn (ltOf evcf) mid b d1 from by
                      rcases Nat.lt_or_ge mid en with h1 | h1
                      · have e1 : en = b := by omega
                        have := sorted_frame HMID.out.s3 H2.out.2.1 (.inr (Nat.le_refl _))
                        rwa [e1] at this
                      · have e1 : en = mid := by omega
                        have := sorted_frame HMID.out.s4 H2.out.2.1 (.inr (by omega))
                        rwa [e1] at this)
                    clear hz2
                    by_cases h1 : mid < en
                    · have hI5 : (mid : Int) < en := by omega
                      have hI6 : (b : Int) ≤ en := by omega
                      go_wp2_with fail
                      all_goals
                        go_end0
                        obtain ⟨rp, ro⟩ := HMID.out.fin (by omega) (by omega) hb H2.out.2.1 H2.out.2.2 (permIn_refl _ _ _) HS3.out
                        exact ⟨rfl, _, H2.out.1, rp, ro⟩
                    · have hI5 : (en : Int) ≤ mid := by omega
                      go_wp2_with fail
                      all_goals
                        go_end0
                        obtain ⟨rp, ro⟩ := HMID.out.fin (by omega) (by omega) hb H2.out.2.1 H2.out.2.2 (permIn_refl _ _ _) HS3.out
                        exact ⟨rfl, _, H2.out.1, rp, ro⟩
          · have HMID := Lib.hid (HDN.out dk (permIn_refl _ _ _) (fun p => (rotT_none dk (by omega) hsm hen1 p).symm))
            have HW := HI1
            by_cases hr1 : s < m
            · have hI1 : (s : Int) < m := by omega
              have hI2 : (en : Int) ≤ m := by omega
              go_upto_region 41 with fail
              all_goals
                have HZ1 := Lib.hid HMID.out.perm.1
                by_cases hx1 : a < s ∧ s < mid
                · obtain ⟨hx, hx2⟩ := hx1
                  have hI3 : (a : Int) < s := by omega
                  have hI4 : (s : Int) < mid := by omega
                  have HC1 := Lib.hid (IH.out wr dk HW.out HZ1.out a s mid (by omega) hx hx2 (by omega) HMID.out.s1 HMID.out.s2)
                  go_upto_region 43 with (first
                    | ((go_at_call 55); (with_reducible refine (HC1.out).mono ?_); rintro e w2 ⟨rfl, d2, hw2, hp2, ho2⟩; have H2 := Lib.hid (And.intro hw2 (And.intro hp2 ho2)); clear hw2 hp2 ho2))
                  all_goals
                    have hz2 := H2.out.2.1.1
                    by_cases hx3 : mid < en ∧ en < b
                    · obtain ⟨hx4, hx5⟩ := hx3
                      have hI5 : (mid : Int) < en := by omega
                      have hI6 : (en : Int) < b := by omega
                      have HC2 := Lib.hid (IH.out w2 d2 H2.out.1 (by have := HZ1.out; omega) mid en b (by omega) hx4 hx5 hb (sorted_frame HMID.out.s3 H2.out.2.1 (.inr (Nat.le_refl _))) (sorted_frame HMID.out.s4 H2.out.2.1 (.inr (by omega))))
                      clear hz2
                      go_wp2_with (first
                        | ((go_at_call 55); (with_reducible refine (HC2.out).mono ?_); rintro e w3 ⟨rfl, d3, hw3, hp3, ho3⟩; have H3 := Lib.hid (And.intro hw3 (And.intro hp3 ho3)); clear hw3 hp3 ho3))
                      all_goals
                        go_end0
                        obtain ⟨rp, ro⟩ := HMID.out.fin (by omega) (by omega) hb H2.out.2.1 H2.out.2.2 H3.out.2.1 H3.out.2.2
                        exact ⟨rfl, _, H3.out.1, rp, ro⟩
                    · have HS3 := Lib.hid (show SortedIn (ltOf evcf) mid b d2 from by
                        rcases Nat.lt_or_ge mid en with h1 | h1
                        · have e1 : en = b := by omega
                          have := sorted_frame HMID.out.s3 H2.out.2.1 (.inr (Nat.le_refl _))
                          rwa [e1] at this
                        · have e1 : en = mid := by omega
                          have := sorted_frame HMID.out.s4 H2.out.2.1 (.inr (by omega))
                          rwa [e1] at this)
                      clear hz2
                      by_cases h1 : mid < en
                      · have hI5 : (mid : Int) < en := by omega
                        have hI6 : (b : Int) ≤ en := by omega
                        go_wp2_with fail
                        all_goals
                          go_end0
                          obtain ⟨rp, ro⟩ := HMID.out.fin (by omega) (by omega) hb H2.out.2.1 H2.out.2.2 (permIn_refl _ _ _) HS3.out
                          exact ⟨rfl, _, H2.out.1, rp, ro⟩
                      · have hI5 : (en : Int) ≤ mid := by omega
                        go_wp2_with fail
                        all_goals
                          go_end0
                          obtain ⟨rp, ro⟩ := HMID.out.fin (by omega) (by omega) hb H2.out.2.1 H2.out.2.2 (permIn_refl _ _ _) HS3.out
                          exact ⟨rfl, _, H2.out.1, rp, ro⟩
                · have H2 := Lib.hid (show SWK evc 3 w0 blk off dk wr ∧ PermIn a mid dk dk ∧ SortedIn (ltOf evcf) a mid dk from ⟨HW.out, permIn_refl _ _ _, by
                    rcases Nat.lt_or_ge a s with h1 | h1
                    · have e1 : mid = s := by omega
                      rw [e1]; exact HMID.out.s1
                    · have e1 : s = a := by omega
                      have := HMID.out.s2
                      rwa [e1] at this⟩)
                  by_cases h1 : a < s
                  · have hI3 : (a : Int) < s := by omega
                    have hI4 : (mid : Int) ≤ s := by omega
                    go_upto_region 43 with fail
                    all_goals
                      have hz2 := H2.out.2.1.1
                      by_cases hx3 : mid < en ∧ en < b
                      · obtain ⟨hx4, hx5⟩ := hx3
                        have hI5 : (mid : Int) < en := by omega
                        have hI6 : (en : Int) < b := by omega
                        have HC2 := Lib.hid (IH.out wr dk H2.out.1 (by have := HZ1.out; omega) mid en b (by omega) hx4 hx5 hb (sorted_frame HMID.out.s3 H2.out.2.1 (.inr (Nat.le_refl _))) (sorted_frame HMID.out.s4 H2.out.2.1 (.inr (by omega))))
                        clear hz2
                        go_wp2_with (first
                          | ((go_at_call 55); (with_reducible refine (HC2.out).mono ?_); rintro e w3 ⟨rfl, d3, hw3, hp3, ho3⟩; have H3 := Lib.hid (And.intro hw3 (And.intro hp3 ho3)); clear hw3 hp3 ho3))
                        all_goals
                          go_end0
                          obtain ⟨rp, ro⟩ := HMID.out.fin (by omega) (by omega) hb H2.out.2.1 H2.out.2.2 H3.out.2.1 H3.out.2.2
                          exact ⟨rfl, _, H3.out.1, rp, ro⟩
                      · have HS3 := Lib.hid (show SortedIn (ltOf evcf) mid b dk from by
                          rcases Nat.lt_or_ge mid en with h1 | h1
                          · have e1 : en = b := by omega
                            have := sorted_frame HMID.out.s3 H2.out.2.1 (.inr (Nat.le_refl _))
                            rwa [e1] at this
                          · have e1 : en = mid := by omega
                            have := sorted_frame HMID.out.s4 H2.out.2.1 (.inr (by omega))
                            rwa [e1] at this)
                        clear hz2
                        by_cases h1 : mid < en
                        · have hI5 : (mid : Int) < en := by omega
                          have hI6 : (b : Int) ≤ en := by omega
                          go_wp2_with fail
                          all_goals
                            go_end0
                            obtain ⟨rp, ro⟩ := HMID.out.fin (by omega) (by omega) hb H2.out.2.1 H2.out.2.2 (permIn_refl _ _ _) HS3.out
                            exact ⟨rfl, _, H2.out.1, rp, ro⟩
                        · have hI5 : (en : Int) ≤ mid := by omega
                          go_wp2_with fail
                          all_goals
                            go_end0
                            obtain ⟨rp, ro⟩ := HMID.out.fin (by omega) (by omega) hb H2.out.2.1 H2.out.2.2 (permIn_refl _ _ _) HS3.out
                            exact ⟨rfl, _, H2.out.1, rp, ro⟩
                  · have hI3 : (s : Int) ≤ a := by omega
                    go_upto_region 43 with fail
                    all_goals
                      have hz2 := H2.out.2.1.1
                      by_cases hx3 : mid < en ∧ en < b
                      · obtain ⟨hx4, hx5⟩ := hx3
                        have hI5 : (mid : Int) < en := by omega
                        have hI6 : (en : Int) < b := by omega
                        have HC2 := Lib.hid (IH.out wr dk H2.out.1 (by have := HZ1.out; omega) mid en b (by omega) hx4 hx5 hb (sorted_frame HMID.out.s3 H2.out.2.1 (.inr (Nat.le_refl _))) (sorted_frame HMID.out.s4 H2.out.2.1 (.inr (by omega))))
                        clear hz2
                        go_wp2_with (first
                          | ((go_at_call 55); (with_reducible refine (HC2.out).mono ?_); rintro e w3 ⟨rfl, d3, hw3, hp3, ho3⟩; have H3 := Lib.hid (And.intro hw3 (And.intro hp3 ho3)); clear hw3 hp3 ho3))
                        all_goals
                          go_end0
                          obtain ⟨rp, ro⟩ := HMID.out.fin (by omega) (by omega) hb H2.out.2.1 H2.out.2.2 H3.out.2.1 H3.out.2.2
                          exact ⟨rfl, _, H3.out.1, rp, ro⟩
                      · have HS3 := Lib.hid (show SortedIn (ltOf evcf) mid b dk from by
                          rcases Nat.lt_or_ge mid en with h1 | h1
                          · have e1 : en = b := by omega
                            have := sorted_frame HMID.out.s3 H2.out.2.1 (.inr (Nat.le_refl _))
                            rwa [e1] at this
                          · have e1 : en = mid := by omega
                            have := sorted_frame HMID.out.s4 H2.out.2.1 (.inr (by omega))
                            rwa [e1] at this)
                        clear hz2
                        by_cases h1 : mid < en
                        · have hI5 : (mid : Int) < en := by omega
                          have hI6 : (b : Int) ≤ en := by omega
                          go_wp2_with fail
                          all_goals
                            go_end0
                            obtain ⟨rp, ro⟩ := HMID.out.fin (by omega) (by omega) hb H2.out.2.1 H2.out.2.2 (permIn_refl _ _ _) HS3.out
                            exact ⟨rfl, _, H2.out.1, rp, ro⟩
                        · have hI5 : (en : Int) ≤ mid := by omega
                          go_wp2_with fail
                          all_goals
                            go_end0
                            obtain ⟨rp, ro⟩ := HMID.out.fin (by omega) (by omega) hb H2.out.2.1 H2.out.2.2 (permIn_refl _ _ _) HS3.out
                            exact ⟨rfl, _, H2.out.1, rp, ro⟩
            · have hI1 : (m : Int) ≤ s := by omega
              go_upto_region 41 with fail
              all_goals
                have HZ1 := Lib.hid HMID.out.perm.1
                by_cases hx1 : a < s ∧ s < mid
                · obtain ⟨hx, hx2⟩ := hx1
                  have hI3 : (a : Int) < s := by omega
                  have hI4 : (s : Int) < mid := by omega
                  have HC1 := Lib.hid (IH.out wr dk HW.out HZ1.out a s mid (by omega) hx hx2 (by omega) HMID.out.s1 HMID.out.s2)
                  go_upto_region 43 with (first
                    | ((go_at_call 55); (with_reducible refine (HC1.out).mono ?_); rintro e w2 ⟨rfl, d2, hw2, hp2, ho2⟩; have H2 := Lib.hid (And.intro hw2 (And.intro hp2 ho2)); clear hw2 hp2 ho2))
                  all_goals
                    have hz2 := H2.out.2.1.1
                    by_cases hx3 : mid < en ∧ en < b
                    · obtain ⟨hx4, hx5⟩ := hx3
                      have hI5 : (mid : Int) < en := by omega
                      have hI6 : (en : Int) < b := by omega
                      have HC2 := Lib.hid (IH.out w2 d2 H2.out.1 (by have := HZ1.out; omega) mid en b (by omega) hx4 hx5 hb (sorted_frame HMID.out.s3 H2.out.2.1 (.inr (Nat.le_refl _))) (sorted_frame HMID.out.s4 H2.out.2.1 (.inr (by omega))))
                      clear hz2
                      go_wp2_with (first
                        | ((go_at_call 55); (with_reducible refine (HC2.out).mono ?_); rintro e w3 ⟨rfl, d3, hw3, hp3, ho3⟩; have H3 := Lib.hid (And.intro hw3 (And.intro hp3 ho3)); clear hw3 hp3 ho3))
                      all_goals
                        go_end0
                        obtain ⟨rp, ro⟩ := HMID.out.fin (by omega) (by omega) hb H2.out.2.1 H2.out.2.2 H3.out.2.1 H3.out.2.2
                        exact ⟨rfl, _, H3.out.1, rp, ro⟩
                    · have HS3 := Lib.hid (show SortedIn (ltOf evcf) mid b d2 from by
                        rcases Nat.lt_or_ge mid en with h1 | h1
                        · have e1 : en = b := by omega
                          have := sorted_frame HMID.out.s3 H2.out.2.1 (.inr (Nat.le_refl _))
                          rwa [e1] at this
                        · have e1 : en = mid := by omega
                          have := sorted_frame HMID.out.s4 H2.out.2.1 (.inr (by omega))
                          rwa [e1] at this)
                      clear hz2
                      by_cases h1 : mid < en
                      · have hI5 : (mid : Int) < en := by omega
                        have hI6 : (b : Int) ≤ en := by omega
                        go_wp2_with fail
                        all_goals
                          go_end0
                          obtain ⟨rp, ro⟩ := HMID.out.fin (by omega) (by omega) hb H2.out.2.1 H2.out.2.2 (permIn_refl _ _ _) HS3.out
                          exact ⟨rfl, _, H2.out.1, rp, ro⟩
                      · have hI5 : (en : Int) ≤ mid := by omega
                        go_wp2_with fail
                        all_goals
                          go_end0
                          obtain ⟨rp, ro⟩ := HMID.out.fin (by omega) (by omega) hb H2.out.2.1 H2.out.2.2 (permIn_refl _ _ _) HS3.out
                          exact ⟨rfl, _, H2.out.1, rp, ro⟩
                · have H2 := Lib.hid (show SWK evc 3 w0 blk off dk wr ∧ PermIn a mid dk dk ∧ SortedIn (ltOf evcf) a mid dk from ⟨HW.out, permIn_refl _ _ _, by
                    rcases Nat.lt_or_ge a s with h1 | h1
                    · have e1 : mid = s := by omega
                      rw [e1]; exact HMID.out.s1
                    · have e1 : s = a := by omega
                      have := HMID.out.s2
                      rwa [e1] at this⟩)
                  by_cases h1 : a < s
                  · have hI3 : (a : Int) < s := by omega
                    have hI4 : (mid : Int) ≤ s := by omega
                    go_upto_region 43 with fail
                    all_goals
                      have hz2 := H2.out.2.1.1
                      by_cases hx3 : mid < en ∧ en < b
                      · obtain ⟨hx4, hx5⟩ := hx3
                        have hI5 : (mid : Int) < en := by omega
                        have hI6 : (en : Int) < b := by omega
                        have HC2 := Lib.hid (IH.out wr dk H2.out.1 (by have := HZ1.out; omega) mid en b (by omega) hx4 hx5 hb (sorted_frame HMID.out.s3 H2.out.2.1 (.inr (Nat.le_refl _))) (sorted_frame HMID.out.s4 H2.out.2.1 (.inr (by omega))))
                        clear hz2
                        go_wp2_with (first
                          | ((go_at_call 55); (with_reducible refine (HC2.out).mono ?_); rintro e w3 ⟨rfl, d3, hw3, hp3, ho3⟩; have H3 := Lib.hid (And.intro hw3 (And.intro hp3 ho3)); clear hw3 hp3 ho3))
                        all_goals
                          go_end0
                          obtain ⟨rp, ro⟩ := HMID.out.fin (by omega) (by omega) hb H2.out.2.1 H2.out.2.2 H3.out.2.1 H3.out.2.2
                          exact ⟨rfl, _, H3.out.1, rp, ro⟩
                      · have HS3 := Lib.hid (show SortedIn (ltOf evcf) mid b dk from by
                          rcases Nat.lt_or_ge mid en with h1 | h1
                          · have e1 : en = b := by omega
                            have := sorted_frame HMID.out.s3 H2.out.2.1 (.inr (Nat.le_refl _))
                            rwa [e1] at this
                          · have e1 : en = mid := by omega
                            have := sorted_frame HMID.out.s4 H2.out.2.1 (.inr (by omega))
                            rwa [e1] at this)
                        clear hz2
                        by_cases h1 : mid < en
                        · have hI5 : (mid : Int) < en := by omega
                          have hI6 : (b : Int) ≤ en := by omega
                          go_wp2_with fail
                          all_goals
                            go_end0
                            obtain ⟨rp, ro⟩ := HMID.out.fin (by omega) (by omega) hb H2.out.2.1 H2.out.2.2 (permIn_refl _ _ _) HS3.out
                            exact ⟨rfl, _, H2.out.1, rp, ro⟩
                        · have hI5 : (en : Int) ≤ mid := by omega
                          go_wp2_with fail
                          all_goals
                            go_end0
                            obtain ⟨rp, ro⟩ := HMID.out.fin (by omega) (by omega) hb H2.out.2.1 H2.out.2.2 (permIn_refl _ _ _) HS3.out
                            exact ⟨rfl, _, H2.out.1, rp, ro⟩
                  · have hI3 : (s : Int) ≤ a := by omega
                    go_upto_region 43 with fail
                    all_goals
                      have hz2 := H2.out.2.1.1
                      by_cases hx3 : mid < en ∧ en < b
                      · obtain ⟨hx4, hx5⟩ := hx3
                        have hI5 : (mid : Int) < en := by omega
                        have hI6 : (en : Int) < b := by omega
                        have HC2 := Lib.hid (IH.out wr dk H2.out.1 (by have := HZ1.out; omega) mid en b (by omega) hx4 hx5 hb (sorted_frame HMID.out.s3 H2.out.2.1 (.inr (Nat.le_refl _))) (sorted_frame HMID.out.s4 H2.out.2.1 (.inr (by omega))))
                        clear hz2
                        go_wp2_with (first
                          | ((go_at_call 55); (with_reducible refine (HC2.out).mono ?_); rintro e w3 ⟨rfl, d3, hw3, hp3, ho3⟩; have H3 := Lib.hid (And.intro hw3 (And.intro hp3 ho3)); clear hw3 hp3 ho3))
                        all_goals
                          go_end0
                          obtain ⟨rp, ro⟩ := HMID.out.fin (by omega) (by omega) hb H2.out.2.1 H2.out.2.2 H3.out.2.1 H3.out.2.2
                          exact ⟨rfl, _, H3.out.1, rp, ro⟩
                      · have HS3 := Lib.hid (show SortedIn (ltOf evcf) mid b dk from by
                          rcases Nat.lt_or_ge mid en with h1 | h1
                          · have e1 : en = b := by omega
                            have := sorted_frame HMID.out.s3 H2.out.2.1 (.inr (Nat.le_refl _))
                            rwa [e1] at this
                          · have e1 : en = mid := by omega
                            have := sorted_frame HMID.out.s4 H2.out.2.1 (.inr (by omega))
                            rwa [e1] at this)
                        clear hz2
                        by_cases h1 : mid < en
                        · have hI5 : (mid : Int) < en := by omega
                          have hI6 : (b : Int) ≤ en := by omega
                          go_wp2_with fail
                          all_goals
                            go_end0
                            obtain ⟨rp, ro⟩ := HMID.out.fin (by omega) (by omega) hb H2.out.2.1 H2.out.2.2 (permIn_refl _ _ _) HS3.out
                            exact ⟨rfl, _, H2.out.1, rp, ro⟩
                        · have hI5 : (en : Int) ≤ mid := by omega
                          go_wp2_with fail
                          all_goals
                            go_end0
                            obtain ⟨rp, ro⟩ := HMID.out.fin (by omega) (by omega) hb H2.out.2.1 H2.out.2.2 (permIn_refl _ _ _) HS3.out
                            exact ⟨rfl, _, H2.out.1, rp, ro⟩
    · have hI : (m : Int) ≤ mid := by omega
      have HB := Lib.hid (show SymB a m b mid a m from ⟨ham, hmb, m1, m2, .inr ⟨by omega, rfl, rfl⟩⟩)
      have HL := Lib.hid HB.out.le
      obtain ⟨lb1, lb2, lb3, lb4, lb5⟩ := HL.out
      go_wp2_with fail
      go_loopw [20, 21] (fun iv jv wr => ∃ (s r : Nat), a ≤ s ∧ s ≤ r ∧ r ≤ m ∧ iv = .int .i64 s ∧ jv = .int .i64 r ∧ Hid (SWK evc 3 w0 blk off dk wr ∧ SrM (ltOf evcf) dk (mid + m - 1) a m s r)) (fun iv jv _ => (intOf jv).toNat - (intOf iv).toNat)
      case atStart => exact ⟨a, m, Nat.le_refl _, lb2, Nat.le_refl _, by first | rfl | (rw [e2]), rfl, Lib.hid ⟨HS.out, .inl rfl, .inl rfl⟩⟩
      case round =>
        obtain ⟨s, r, hs0, hsr, hr0, rfl, rfl, hi⟩ := hrel
        by_cases hlt : s < r
        · have hI : (s : Int) < r := by omega
          go_upto_region 35 with fail
          obtain ⟨h, hh⟩ : ∃ h, (s + r) / 2 = h := ⟨_, rfl⟩
          have eh : ((s : Int) + r) / 2 = h := by omega
          have h1 : s ≤ h := by omega
          have h2 : h < r := by omega
          clear hh
          rw [eh]
          obtain ⟨q, hq⟩ : ∃ q, mid + m - 1 - h = q := ⟨_, rfl⟩
          have hq1 : (mid : Int) + m - 1 - h = (q : Nat) := by omega
          have hq4 : IntKind.i64.wrap (q : Int) = q := by rw [IntKind.wrap_i64]; omega
          have hq3 : q < dk.size := by omega
          have HQ := Lib.hid hq
          clear hq
          have HG := Lib.hid (fun n os => hi.out.1.grown n os)
          have KX := fun n os => swk_ev (HG.out n os) HR.out HSZ.out q (by omega)
          have KY := fun n os => swk_ev (HG.out n os) HR.out HSZ.out h (by omega)
          obtain ⟨x, hx⟩ : ∃ x, dk[q]! = x := ⟨_, rfl⟩
          obtain ⟨y, hy⟩ : ∃ y, dk[h]! = y := ⟨_, rfl⟩
          have HXY := Lib.hid (And.intro hx hy)
          rw [hx] at KX
          rw [hy] at KY
          have x0 := fun n os => (KX n os).c0
          have x1 := fun n os => (KX n os).c1
          have x2 := fun n os => (KX n os).c2
          have y0 := fun n os => (KY n os).c0
          have y1 := fun n os => (KY n os).c1
          have y2 := fun n os => (KY n os).c2
          have HCG := Lib.hid (fun n os => ev_cmp (grow (wr.drewN n) os) x y)
          clear KX KY hx hy
          have b1 : (q : Int) < dk.size := by omega
          have b2 : (h : Int) < dk.size := by omega
          by_cases hlv : evcf x y < 0
          · have HN := Lib.hid (fun X (hX : SWK evc 3 w0 blk off dk X) => (show SWK evc 3 w0 blk off dk X ∧ SrM (ltOf evcf) dk (mid + m - 1) a m s h from ⟨hX, hi.out.2.lo, .inr (by rw [HQ.out, HXY.out.1, HXY.out.2]; exact ev_lt_true hlv)⟩))
            clear hi
            obtain ⟨xs, xt, xA, xc, xl⟩ := x
            obtain ⟨ys, yt, yA, yc, yl⟩ := y
            unfold evc at HCG
            dsimp only at x0 x1 x2 y0 y1 y2 HCG
            go_quiet_grown (first | (go_at_call 31; refine Calls.grown_of (HCG.out _ _)))
            go_wp2_with fail
            go_roundw
            case rel => exact ⟨s, h, hs0, h1, by omega, rfl, rfl, Lib.hid (HN.out _ (HG.out nq osq))⟩
            case measure => simp [intOf]; omega
          · have HN := Lib.hid (fun X (hX : SWK evc 3 w0 blk off dk X) => (show SWK evc 3 w0 blk off dk X ∧ SrM (ltOf evcf) dk (mid + m - 1) a m (h + 1) r from ⟨hX, .inr (by rw [Nat.add_sub_cancel, HQ.out, HXY.out.1, HXY.out.2]; exact ev_lt_false hlv), hi.out.2.hi⟩))
            clear hi
            obtain ⟨xs, xt, xA, xc, xl⟩ := x
            obtain ⟨ys, yt, yA, yc, yl⟩ := y
            unfold evc at HCG
            dsimp only at x0 x1 x2 y0 y1 y2 HCG
            go_quiet_grown (first | (go_at_call 31; refine Calls.grown_of (HCG.out _ _)))
            go_wp2_with fail
            go_roundw
            case rel => exact ⟨h + 1, r, by omega, by omega, hr0, by go_num, rfl, Lib.hid (HN.out _ (HG.out nq osq))⟩
            case measure => simp [intOf]; omega
        · obtain rfl : s = r := by omega
          have HDN := Lib.hid (fun (d1 : Array Ev) (hp : PermIn a b dk d1) (hg : ∀ p, d1[p]! = rotT dk s m (mid + m - s) p) => hi.out.2.done HB.out hs0 hr0 HO.out.1 HO.out.2 hp hg)
          have HI1 := Lib.hid hi.out.1
          clear hi
          obtain ⟨en, hen⟩ : ∃ en, mid + m - s = en := ⟨_, rfl⟩
          have fe : (mid : Int) + m - s = (en : Nat) := by omega
          rw [hen] at HDN
          have hen1 : m ≤ en := by omega
          have hen2 : en ≤ b := by omega
          have hen3 : s + (en - m) = mid := by omega
          have hsa : a ≤ s := by omega
          have hsm : s ≤ m := by omega
          have hsd : s ≤ mid := by omega
          clear hen
          go_upto_region 39 with fail
          (try rw [fe])
          clear fe lb1 lb2 lb3 lb4 lb5 hs0 hr0 hlt HL
          by_cases hrot : s < m ∧ m < en
          · obtain ⟨hr1, hr2⟩ := hrot
            have hI1 : (s : Int) < m := by omega
            have hI2 : (m : Int) < en := by omega
            have HC := Lib.hid (HRT.out _ HI1.out s m en hr1 hr2 (by omega))
            go_upto_region 41 with (first
              | ((go_at_call 67); (with_reducible refine (HC.out).mono ?_); rintro e w1 ⟨rfl, d1, hw1, hr1⟩; have HW := Lib.hid hw1; have HMID := Lib.hid (HDN.out d1 (perm_mono hsa hen2 hb hr1.perm) hr1.get); clear hw1 hr1))
            have HZ1 := Lib.hid HMID.out.perm.1
            by_cases hx1 : a < s ∧ s < mid
            · obtain ⟨hx, hx2⟩ := hx1
              have hI3 : (a : Int) < s := by omega
              have hI4 : (s : Int) < mid := by omega
              have HC1 := Lib.hid (IH.out w1 d1 HW.out HZ1.out a s mid (by omega) hx hx2 (by omega) HMID.out.s1 HMID.out.s2)
              go_upto_region 43 with (first
                | ((go_at_call 55); (with_reducible refine (HC1.out).mono ?_); rintro e w2 ⟨rfl, d2, hw2, hp2, ho2⟩; have H2 := Lib.hid (And.intro hw2 (And.intro hp2 ho2)); clear hw2 hp2 ho2))
              all_goals
                have hz2 := H2.out.2.1.1
                by_cases hx3 : mid < en ∧ en < b
                · obtain ⟨hx4, hx5⟩ := hx3
                  have hI5 : (mid : Int) < en := by omega
                  have hI6 : (en : Int) < b := by omega
                  have HC2 := Lib.hid (IH.out w2 d2 H2.out.1 (by have := HZ1.out; omega) mid en b (by omega) hx4 hx5 hb (sorted_frame HMID.out.s3 H2.out.2.1 (.inr (Nat.le_refl _))) (sorted_frame HMID.out.s4 H2.out.2.1 (.inr (by omega))))
                  clear hz2
                  go_wp2_with (first
                    | ((go_at_call 55); (with_reducible refine (HC2.out).mono ?_); rintro e w3 ⟨rfl, d3, hw3, hp3, ho3⟩; have H3 := Lib.hid (And.intro hw3 (And.intro hp3 ho3)); clear hw3 hp3 ho3))
                  all_goals
                    go_end0
                    obtain ⟨rp, ro⟩ := HMID.out.fin (by omega) (by omega) hb H2.out.2.1 H2.out.2.2 H3.out.2.1 H3.out.2.2
                    exact ⟨rfl, _, H3.out.1, rp, ro⟩
                · have HS3 := Lib.hid (show SortedIn (ltOf evcf) mid b d2 from by
                    rcases Nat.lt_or_ge mid en with h1 | h1
                    · have e1 : en = b := by omega
                      have := sorted_frame HMID.out.s3 H2.out.2.1 (.inr (Nat.le_refl _))
                      rwa [e1] at this
                    · have e1 : en = mid := by omega
                      have := sorted_frame HMID.out.s4 H2.out.2.1 (.inr (by omega))
                      rwa [e1] at this)
                  clear hz2
                  by_cases h1 : mid < en
                  · have hI5 : (mid : Int) < en := by omega
                    have hI6 : (b : Int) ≤ en := by omega
                    go_wp2_with fail
                    all_goals
                      go_end0
                      obtain ⟨rp, ro⟩ := HMID.out.fin (by omega) (by omega) hb H2.out.2.1 H2.out.2.2 (permIn_refl _ _ _) HS3.out
                      exact ⟨rfl, _, H2.out.1, rp, ro⟩
                  · have hI5 : (en : Int) ≤ mid := by omega
                    go_wp2_with fail
                    all_goals
                      go_end0
                      obtain ⟨rp, ro⟩ := HMID.out.fin (by omega) (by omega) hb H2.out.2.1 H2.out.2.2 (permIn_refl _ _ _) HS3.out
                      exact ⟨rfl, _, H2.out.1, rp, ro⟩
            · have H2 := Lib.hid (show SWK evc 3 w0 blk off d1 w1 ∧ PermIn a mid d1 d1 ∧ SortedIn (ltOf evcf) a mid d1 from ⟨HW.out, permIn_refl _ _ _, by
                rcases Nat.lt_or_ge a s with h1 | h1
                · have e1 : mid = s := by omega
                  rw [e1]; exact HMID.out.s1
                · have e1 : s = a := by omega
                  have := HMID.out.s2
                  rwa [e1] at this⟩)
              by_cases h1 : a < s
              · have hI3 : (a : Int) < s := by omega
                have hI4 : (mid : Int) ≤ s := by omega
                go_upto_region 43 with fail
                all_goals
                  have hz2 := H2.out.2.1.1
                  by_cases hx3 : mid < en ∧ en < b
                  · obtain ⟨hx4, hx5⟩ := hx3
                    have hI5 : (mid : Int) < en := by omega
                    have hI6 : (en : Int) < b := by omega
                    have HC2 := Lib.hid (IH.out w1 d1 H2.out.1 (by have := HZ1.out; omega) mid en b (by omega) hx4 hx5 hb (sorted_frame HMID.out.s3 H2.out.2.1 (.inr (Nat.le_refl _))) (sorted_frame HMID.out.s4 H2.out.2.1 (.inr (by omega))))
                    clear hz2
                    go_wp2_with (first
                      | ((go_at_call 55); (with_reducible refine (HC2.out).mono ?_); rintro e w3 ⟨rfl, d3, hw3, hp3, ho3⟩; have H3 := Lib.hid (And.intro hw3 (And.intro hp3 ho3)); clear hw3 hp3 ho3))
                    all_goals
                      go_end0
                      obtain ⟨rp, ro⟩ := HMID.out.fin (by omega) (by omega) hb H2.out.2.1 H2.out.2.2 H3.out.2.1 H3.out.2.2
                      exact ⟨rfl, _, H3.out.1, rp, ro⟩
                  · have HS3 := Lib.hid (show SortedIn (ltOf evcf) mid b d1 from by
                      rcases Nat.lt_or_ge mid en with h1 | h1
                      · have e1 : en = b := by omega
                        have := sorted_frame HMID.out.s3 H2.out.2.1 (.inr (Nat.le_refl _))
                        rwa [e1] at this
                      · have e1 : en = mid := by omega
                        have := sorted_frame HMID.out.s4 H2.out.2.1 (.inr (by omega))
                        rwa [e1] at this)
                    clear hz2
                    by_cases h1 : mid < en
                    · have hI5 : (mid : Int) < en := by omega
                      have hI6 : (b : Int) ≤ en := by omega
                      go_wp2_with fail
                      all_goals
                        go_end0
                        obtain ⟨rp, ro⟩ := HMID.out.fin (by omega) (by omega) hb H2.out.2.1 H2.out.2.2 (permIn_refl _ _ _) HS3.out
                        exact ⟨rfl, _, H2.out.1, rp, ro⟩
                    · have hI5 : (en : Int) ≤ mid := by omega
                      go_wp2_with fail
                      all_goals
                        go_end0
                        obtain ⟨rp, ro⟩ := HMID.out.fin (by omega) (by omega) hb H2.out.2.1 H2.out.2.2 (permIn_refl _ _ _) HS3.out
                        exact ⟨rfl, _, H2.out.1, rp, ro⟩
              · have hI3 : (s : Int) ≤ a := by omega
                go_upto_region 43 with fail
                all_goals
                  have hz2 := H2.out.2.1.1
                  by_cases hx3 : mid < en ∧ en < b
                  · obtain ⟨hx4, hx5⟩ := hx3
                    have hI5 : (mid : Int) < en := by omega
                    have hI6 : (en : Int) < b := by omega
                    have HC2 := Lib.hid (IH.out w1 d1 H2.out.1 (by have := HZ1.out; omega) mid en b (by omega) hx4 hx5 hb (sorted_frame HMID.out.s3 H2.out.2.1 (.inr (Nat.le_refl _))) (sorted_frame HMID.out.s4 H2.out.2.1 (.inr (by omega))))
                    clear hz2
                    go_wp2_with (first
                      | ((go_at_call 55); (with_reducible refine (HC2.out).mono ?_); rintro e w3 ⟨rfl, d3, hw3, hp3, ho3⟩; have H3 := Lib.hid (And.intro hw3 (And.intro hp3 ho3)); clear hw3 hp3 ho3))
                    all_goals
                      go_end0
                      obtain ⟨rp, ro⟩ := HMID.out.fin (by omega) (by omega) hb H2.out.2.1 H2.out.2.2 H3.out.2.1 H3.out.2.2
                      exact ⟨rfl, _, H3.out.1, rp, ro⟩
                  · have HS3 := Lib.hid (show SortedIn (ltOf evcf) mid b d1 from by
                      rcases Nat.lt_or_ge mid en with h1 | h1
                      · have e1 : en = b := by omega
                        have := sorted_frame HMID.out.s3 H2.out.2.1 (.inr (Nat.le_refl _))
                        rwa [e1] at this
                      · have e1 : en = mid := by omega
                        have := sorted_frame HMID.out.s4 H2.out.2.1 (.inr (by omega))
                        rwa [e1] at this)
                    clear hz2
                    by_cases h1 : mid < en
                    · have hI5 : (mid : Int) < en := by omega
                      have hI6 : (b : Int) ≤ en := by omega
                      go_wp2_with fail
                      all_goals
                        go_end0
                        obtain ⟨rp, ro⟩ := HMID.out.fin (by omega) (by omega) hb H2.out.2.1 H2.out.2.2 (permIn_refl _ _ _) HS3.out
                        exact ⟨rfl, _, H2.out.1, rp, ro⟩
                    · have hI5 : (en : Int) ≤ mid := by omega
                      go_wp2_with fail
                      all_goals
                        go_end0
                        obtain ⟨rp, ro⟩ := HMID.out.fin (by omega) (by omega) hb H2.out.2.1 H2.out.2.2 (permIn_refl _ _ _) HS3.out
                        exact ⟨rfl, _, H2.out.1, rp, ro⟩
          · have HMID := Lib.hid (HDN.out dk (permIn_refl _ _ _) (fun p => (rotT_none dk (by omega) hsm hen1 p).symm))
            have HW := HI1
            by_cases hr1 : s < m
            · have hI1 : (s : Int) < m := by omega
              have hI2 : (en : Int) ≤ m := by omega
              go_upto_region 41 with fail
              all_goals
                have HZ1 := Lib.hid HMID.out.perm.1
                by_cases hx1 : a < s ∧ s < mid
                · obtain ⟨hx, hx2⟩ := hx1
                  have hI3 : (a : Int) < s := by omega
                  have hI4 : (s : Int) < mid := by omega
                  have HC1 := Lib.hid (IH.out wr dk HW.out HZ1.out a s mid (by omega) hx hx2 (by omega) HMID.out.s1 HMID.out.s2)
                  go_upto_region 43 with (first
                    | ((go_at_call 55); (with_reducible refine (HC1.out).mono ?_); rintro e w2 ⟨rfl, d2, hw2, hp2, ho2⟩; have H2 := Lib.hid (And.intro hw2 (And.intro hp2 ho2)); clear hw2 hp2 ho2))
                  all_goals
                    have hz2 := H2.out.2.1.1
                    by_cases hx3 : mid < en ∧ en < b
                    · obtain ⟨hx4, hx5⟩ := hx3
                      have hI5 : (mid : Int) < en := by omega
                      have hI6 : (en : Int) < b := by omega
                      have HC2 := Lib.hid (IH.out w2 d2 H2.out.1 (by have := HZ1.out; omega) mid en b (by omega) hx4 hx5 hb (sorted_frame HMID.out.s3 H2.out.2.1 (.inr (Nat.le_refl _))) (sorted_frame HMID.out.s4 H2.out.2.1 (.inr (by omega))))
                      clear hz2
                      go_wp2_with (first
                        | ((go_at_call 55); (with_reducible refine (HC2.out).mono ?_); rintro e w3 ⟨rfl, d3, hw3, hp3, ho3⟩; have H3 := Lib.hid (And.intro hw3 (And.intro hp3 ho3)); clear hw3 hp3 ho3))
                      all_goals
                        go_end0
                        obtain ⟨rp, ro⟩ := HMID.out.fin (by omega) (by omega) hb H2.out.2.1 H2.out.2.2 H3.out.2.1 H3.out.2.2
                        exact ⟨rfl, _, H3.out.1, rp, ro⟩
                    · have HS3 := Lib.hid (show SortedIn (ltOf evcf) mid b d2 from by
                        rcases Nat.lt_or_ge mid en with h1 | h1
                        · have e1 : en = b := by omega
                          have := sorted_frame HMID.out.s3 H2.out.2.1 (.inr (Nat.le_refl _))
                          rwa [e1] at this
                        · have e1 : en = mid := by omega
                          have := sorted_frame HMID.out.s4 H2.out.2.1 (.inr (by omega))
                          rwa [e1] at this)
                      clear hz2
                      by_cases h1 : mid < en
                      · have hI5 : (mid : Int) < en := by omega
                        have hI6 : (b : Int) ≤ en := by omega
                        go_wp2_with fail
                        all_goals
                          go_end0
                          obtain ⟨rp, ro⟩ := HMID.out.fin (by omega) (by omega) hb H2.out.2.1 H2.out.2.2 (permIn_refl _ _ _) HS3.out
                          exact ⟨rfl, _, H2.out.1, rp, ro⟩
                      · have hI5 : (en : Int) ≤ mid := by omega
                        go_wp2_with fail
                        all_goals
                          go_end0
                          obtain ⟨rp, ro⟩ := HMID.out.fin (by omega) (by omega) hb H2.out.2.1 H2.out.2.2 (permIn_refl _ _ _) HS3.out
                          exact ⟨rfl, _, H2.out.1, rp, ro⟩
                · have H2 := Lib.hid (show SWK evc 3 w0 blk off dk wr ∧ PermIn a mid dk dk ∧ SortedIn (ltOf evcf) a mid dk from ⟨HW.out, permIn_refl _ _ _, by
                    rcases Nat.lt_or_ge a s with h1 | h1
                    · have e1 : mid = s := by omega
                      rw [e1]; exact HMID.out.s1
                    · have e1 : s = a := by omega
                      have := HMID.out.s2
                      rwa [e1] at this⟩)
                  by_cases h1 : a < s
                  · have hI3 : (a : Int) < s := by omega
                    have hI4 : (mid : Int) ≤ s := by omega
                    go_upto_region 43 with fail
                    all_goals
                      have hz2 := H2.out.2.1.1
                      by_cases hx3 : mid < en ∧ en < b
                      · obtain ⟨hx4, hx5⟩ := hx3
                        have hI5 : (mid : Int) < en := by omega
                        have hI6 : (en : Int) < b := by omega
                        have HC2 := Lib.hid (IH.out wr dk H2.out.1 (by have := HZ1.out; omega) mid en b (by omega) hx4 hx5 hb (sorted_frame HMID.out.s3 H2.out.2.1 (.inr (Nat.le_refl _))) (sorted_frame HMID.out.s4 H2.out.2.1 (.inr (by omega))))
                        clear hz2
                        go_wp2_with (first
                          | ((go_at_call 55); (with_reducible refine (HC2.out).mono ?_); rintro e w3 ⟨rfl, d3, hw3, hp3, ho3⟩; have H3 := Lib.hid (And.intro hw3 (And.intro hp3 ho3)); clear hw3 hp3 ho3))
                        all_goals
                          go_end0
                          obtain ⟨rp, ro⟩ := HMID.out.fin (by omega) (by omega) hb H2.out.2.1 H2.out.2.2 H3.out.2.1 H3.out.2.2
                          exact ⟨rfl, _, H3.out.1, rp, ro⟩
                      · have HS3 := Lib.hid (show SortedIn (ltOf evcf) mid b dk from by
                          rcases Nat.lt_or_ge mid en with h1 | h1
                          · have e1 : en = b := by omega
                            have := sorted_frame HMID.out.s3 H2.out.2.1 (.inr (Nat.le_refl _))
                            rwa [e1] at this
                          · have e1 : en = mid := by omega
                            have := sorted_frame HMID.out.s4 H2.out.2.1 (.inr (by omega))
                            rwa [e1] at this)
                        clear hz2
                        by_cases h1 : mid < en
                        · have hI5 : (mid : Int) < en := by omega
                          have hI6 : (b : Int) ≤ en := by omega
                          go_wp2_with fail
                          all_goals
                            go_end0
                            obtain ⟨rp, ro⟩ := HMID.out.fin (by omega) (by omega) hb H2.out.2.1 H2.out.2.2 (permIn_refl _ _ _) HS3.out
                            exact ⟨rfl, _, H2.out.1, rp, ro⟩
                        · have hI5 : (en : Int) ≤ mid := by omega
                          go_wp2_with fail
                          all_goals
                            go_end0
                            obtain ⟨rp, ro⟩ := HMID.out.fin (by omega) (by omega) hb H2.out.2.1 H2.out.2.2 (permIn_refl _ _ _) HS3.out
                            exact ⟨rfl, _, H2.out.1, rp, ro⟩
                  · have hI3 : (s : Int) ≤ a := by omega
                    go_upto_region 43 with fail
                    all_goals
                      have hz2 := H2.out.2.1.1
                      by_cases hx3 : mid < en ∧ en < b
                      · obtain ⟨hx4, hx5⟩ := hx3
                        have hI5 : (mid : Int) < en := by omega
                        have hI6 : (en : Int) < b := by omega
                        have HC2 := Lib.hid (IH.out wr dk H2.out.1 (by have := HZ1.out; omega) mid en b (by omega) hx4 hx5 hb (sorted_frame HMID.out.s3 H2.out.2.1 (.inr (Nat.le_refl _))) (sorted_frame HMID.out.s4 H2.out.2.1 (.inr (by omega))))
                        clear hz2
                        go_wp2_with (first
                          | ((go_at_call 55); (with_reducible refine (HC2.out).mono ?_); rintro e w3 ⟨rfl, d3, hw3, hp3, ho3⟩; have H3 := Lib.hid (And.intro hw3 (And.intro hp3 ho3)); clear hw3 hp3 ho3))
                        all_goals
                          go_end0
                          obtain ⟨rp, ro⟩ := HMID.out.fin (by omega) (by omega) hb H2.out.2.1 H2.out.2.2 H3.out.2.1 H3.out.2.2
                          exact ⟨rfl, _, H3.out.1, rp, ro⟩
                      · have HS3 := Lib.hid (show SortedIn (ltOf evcf) mid b dk from by
                          rcases Nat.lt_or_ge mid en with h1 | h1
                          · have e1 : en = b := by omega
                            have := sorted_frame HMID.out.s3 H2.out.2.1 (.inr (Nat.le_refl _))
                            rwa [e1] at this
                          · have e1 : en = mid := by omega
                            have := sorted_frame HMID.out.s4 H2.out.2.1 (.inr (by omega))
                            rwa [e1] at this)
                        clear hz2
                        by_cases h1 : mid < en
                        · have hI5 : (mid : Int) < en := by omega
                          have hI6 : (b : Int) ≤ en := by omega
                          go_wp2_with fail
                          all_goals
                            go_end0
                            obtain ⟨rp, ro⟩ := HMID.out.fin (by omega) (by omega) hb H2.out.2.1 H2.out.2.2 (permIn_refl _ _ _) HS3.out
                            exact ⟨rfl, _, H2.out.1, rp, ro⟩
                        · have hI5 : (en : Int) ≤ mid := by omega
                          go_wp2_with fail
                          all_goals
                            go_end0
                            obtain ⟨rp, ro⟩ := HMID.out.fin (by omega) (by omega) hb H2.out.2.1 H2.out.2.2 (permIn_refl _ _ _) HS3.out
                            exact ⟨rfl, _, H2.out.1, rp, ro⟩
            · have hI1 : (m : Int) ≤ s := by omega
              go_upto_region 41 with fail
              all_goals
                have HZ1 := Lib.hid HMID.out.perm.1
                by_cases hx1 : a < s ∧ s < mid
                · obtain ⟨hx, hx2⟩ := hx1
                  have hI3 : (a : Int) < s := by omega
                  have hI4 : (s : Int) < mid := by omega
                  have HC1 := Lib.hid (IH.out wr dk HW.out HZ1.out a s mid (by omega) hx hx2 (by omega) HMID.out.s1 HMID.out.s2)
                  go_upto_region 43 with (first
                    | ((go_at_call 55); (with_reducible refine (HC1.out).mono ?_); rintro e w2 ⟨rfl, d2, hw2, hp2, ho2⟩; have H2 := Lib.hid (And.intro hw2 (And.intro hp2 ho2)); clear hw2 hp2 ho2))
                  all_goals
                    have hz2 := H2.out.2.1.1
                    by_cases hx3 : mid < en ∧ en < b
                    · obtain ⟨hx4, hx5⟩ := hx3
                      have hI5 : (mid : Int) < en := by omega
                      have hI6 : (en : Int) < b := by omega
                      have HC2 := Lib.hid (IH.out w2 d2 H2.out.1 (by have := HZ1.out; omega) mid en b (by omega) hx4 hx5 hb (sorted_frame HMID.out.s3 H2.out.2.1 (.inr (Nat.le_refl _))) (sorted_frame HMID.out.s4 H2.out.2.1 (.inr (by omega))))
                      clear hz2
                      go_wp2_with (first
                        | ((go_at_call 55); (with_reducible refine (HC2.out).mono ?_); rintro e w3 ⟨rfl, d3, hw3, hp3, ho3⟩; have H3 := Lib.hid (And.intro hw3 (And.intro hp3 ho3)); clear hw3 hp3 ho3))
                      all_goals
                        go_end0
                        obtain ⟨rp, ro⟩ := HMID.out.fin (by omega) (by omega) hb H2.out.2.1 H2.out.2.2 H3.out.2.1 H3.out.2.2
                        exact ⟨rfl, _, H3.out.1, rp, ro⟩
                    · have HS3 := Lib.hid (show SortedIn (ltOf evcf) mid b d2 from by
                        rcases Nat.lt_or_ge mid en with h1 | h1
                        · have e1 : en = b := by omega
                          have := sorted_frame HMID.out.s3 H2.out.2.1 (.inr (Nat.le_refl _))
                          rwa [e1] at this
                        · have e1 : en = mid := by omega
                          have := sorted_frame HMID.out.s4 H2.out.2.1 (.inr (by omega))
                          rwa [e1] at this)
                      clear hz2
                      by_cases h1 : mid < en
                      · have hI5 : (mid : Int) < en := by omega
                        have hI6 : (b : Int) ≤ en := by omega
                        go_wp2_with fail
                        all_goals
                          go_end0
                          obtain ⟨rp, ro⟩ := HMID.out.fin (by omega) (by omega) hb H2.out.2.1 H2.out.2.2 (permIn_refl _ _ _) HS3.out
                          exact ⟨rfl, _, H2.out.1, rp, ro⟩
                      · have hI5 : (en : Int) ≤ mid := by omega
                        go_wp2_with fail
                        all_goals
                          go_end0
                          obtain ⟨rp, ro⟩ := HMID.out.fin (by omega) (by omega) hb H2.out.2.1 H2.out.2.2 (permIn_refl _ _ _) HS3.out
                          exact ⟨rfl, _, H2.out.1, rp, ro⟩
                · have H2 := Lib.hid (show SWK evc 3 w0 blk off dk wr ∧ PermIn a mid dk dk ∧ SortedIn (ltOf evcf) a mid dk from ⟨HW.out, permIn_refl _ _ _, by
                    rcases Nat.lt_or_ge a s with h1 | h1
                    · have e1 : mid = s := by omega
                      rw [e1]; exact HMID.out.s1
                    · have e1 : s = a := by omega
                      have := HMID.out.s2
                      rwa [e1] at this⟩)
                  by_cases h1 : a < s
                  · have hI3 : (a : Int) < s := by omega
                    have hI4 : (mid : Int) ≤ s := by omega
                    go_upto_region 43 with fail
                    all_goals
                      have hz2 := H2.out.2.1.1
                      by_cases hx3 : mid < en ∧ en < b
                      · obtain ⟨hx4, hx5⟩ := hx3
                        have hI5 : (mid : Int) < en := by omega
                        have hI6 : (en : Int) < b := by omega
                        have HC2 := Lib.hid (IH.out wr dk H2.out.1 (by have := HZ1.out; omega) mid en b (by omega) hx4 hx5 hb (sorted_frame HMID.out.s3 H2.out.2.1 (.inr (Nat.le_refl _))) (sorted_frame HMID.out.s4 H2.out.2.1 (.inr (by omega))))
                        clear hz2
                        go_wp2_with (first
                          | ((go_at_call 55); (with_reducible refine (HC2.out).mono ?_); rintro e w3 ⟨rfl, d3, hw3, hp3, ho3⟩; have H3 := Lib.hid (And.intro hw3 (And.intro hp3 ho3)); clear hw3 hp3 ho3))
                        all_goals
                          go_end0
                          obtain ⟨rp, ro⟩ := HMID.out.fin (by omega) (by omega) hb H2.out.2.1 H2.out.2.2 H3.out.2.1 H3.out.2.2
                          exact ⟨rfl, _, H3.out.1, rp, ro⟩
                      · have HS3 := Lib.hid (show SortedIn (ltOf evcf) mid b dk from by
                          rcases Nat.lt_or_ge mid en with h1 | h1
                          · have e1 : en = b := by omega
                            have := sorted_frame HMID.out.s3 H2.out.2.1 (.inr (Nat.le_refl _))
                            rwa [e1] at this
                          · have e1 : en = mid := by omega
                            have := sorted_frame HMID.out.s4 H2.out.2.1 (.inr (by omega))
                            rwa [e1] at this)
                        clear hz2
                        by_cases h1 : mid < en
                        · have hI5 : (mid : Int) < en := by omega
                          have hI6 : (b : Int) ≤ en := by omega
                          go_wp2_with fail
                          all_goals
                            go_end0
                            obtain ⟨rp, ro⟩ := HMID.out.fin (by omega) (by omega) hb H2.out.2.1 H2.out.2.2 (permIn_refl _ _ _) HS3.out
                            exact ⟨rfl, _, H2.out.1, rp, ro⟩
                        · have hI5 : (en : Int) ≤ mid := by omega
                          go_wp2_with fail
                          all_goals
                            go_end0
                            obtain ⟨rp, ro⟩ := HMID.out.fin (by omega) (by omega) hb H2.out.2.1 H2.out.2.2 (permIn_refl _ _ _) HS3.out
                            exact ⟨rfl, _, H2.out.1, rp, ro⟩
                  · have hI3 : (s : Int) ≤ a := by omega
                    go_upto_region 43 with fail
                    all_goals
                      have hz2 := H2.out.2.1.1
                      by_cases hx3 : mid < en ∧ en < b
                      · obtain ⟨hx4, hx5⟩ := hx3
                        have hI5 : (mid : Int) < en := by omega
                        have hI6 : (en : Int) < b := by omega
                        have HC2 := Lib.hid (IH.out wr dk H2.out.1 (by have := HZ1.out; omega) mid en b (by omega) hx4 hx5 hb (sorted_frame HMID.out.s3 H2.out.2.1 (.inr (Nat.le_refl _))) (sorted_frame HMID.out.s4 H2.out.2.1 (.inr (by omega))))
                        clear hz2
                        go_wp2_with (first
                          | ((go_at_call 55); (with_reducible refine (HC2.out).mono ?_); rintro e w3 ⟨rfl, d3, hw3, hp3, ho3⟩; have H3 := Lib.hid (And.intro hw3 (And.intro hp3 ho3)); clear hw3 hp3 ho3))
                        all_goals
                          go_end0
                          obtain ⟨rp, ro⟩ := HMID.out.fin (by omega) (by omega) hb H2.out.2.1 H2.out.2.2 H3.out.2.1 H3.out.2.2
                          exact ⟨rfl, _, H3.out.1, rp, ro⟩
                      · have HS3 := Lib.hid (show SortedIn (ltOf evcf) mid b dk from by
                          rcases Nat.lt_or_ge mid en with h1 | h1
                          · have e1 : en = b := by omega
                            have := sorted_frame HMID.out.s3 H2.out.2.1 (.inr (Nat.le_refl _))
                            rwa [e1] at this
                          · have e1 : en = mid := by omega
                            have := sorted_frame HMID.out.s4 H2.out.2.1 (.inr (by omega))
                            rwa [e1] at this)
                        clear hz2
                        by_cases h1 : mid < en
                        · have hI5 : (mid : Int) < en := by omega
                          have hI6 : (b : Int) ≤ en := by omega
                          go_wp2_with fail
                          all_goals
                            go_end0
                            obtain ⟨rp, ro⟩ := HMID.out.fin (by omega) (by omega) hb H2.out.2.1 H2.out.2.2 (permIn_refl _ _ _) HS3.out
                            exact ⟨rfl, _, H2.out.1, rp, ro⟩
                        · have hI5 : (en : Int) ≤ mid := by omega
                          go_wp2_with fail
                          all_goals
                            go_end0
                            obtain ⟨rp, ro⟩ := HMID.out.fin (by omega) (by omega) hb H2.out.2.1 H2.out.2.2 (permIn_refl _ _ _) HS3.out
                            exact ⟨rfl, _, H2.out.1, rp, ro⟩
end Go.Proofs.Ytckmmihbipmkcaa
