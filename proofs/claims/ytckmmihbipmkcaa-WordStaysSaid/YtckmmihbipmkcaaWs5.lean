/- Merging in place: a stretch and one element. -/
import Derived.Test.YtckmmihbipmkcaaWs4
namespace Go.Proofs.Ytckmmihbipmkcaa
open Go.RowKit Go.Sort Go.Lib

set_option maxRecDepth 100000 in
set_option maxHeartbeats 4000000 in
theorem ev_sym2 {w0 W : World} {blk off cap : Nat} {d0 dk : Array Ev} (h : SWK evc 3 w0 blk off dk W) (R : RowK evc 3 w0 blk off d0) (hs : dk.size = d0.size) (a m b : Nat) (ham : a + 1 < m) (hbm : b = m + 1) (hb : b ≤ dk.size) (hsz : dk.size ≤ 1000000)
    (h2 : SortedIn (ltOf evcf) a m dk) :
    Calls Try.prog 55 #[.slice (some ⟨blk, off, none⟩) dk.size cap, .int .i64 a, .int .i64 m, .int .i64 b, .func (.func 31) #[] #[]] W fun e w' => e = .returned (.tuple #[]) ∧ ∃ d, SWK evc 3 w0 blk off d w' ∧ PermIn a b dk d ∧ SortedIn (ltOf evcf) a b d := by
  have HS := Lib.hid h
  have HR := Lib.hid R
  have HSZ := Lib.hid hs
  have HSO := Lib.hid h2
  have e0 : ((m : Int) - a == 1) = false := by simp; omega
  have e1 : (b : Int) - m = 1 := by omega
  have mixed : Try.prog.follows Departure.mixedOrders = true := by kernel_rfl
  have hbm1 : b ≤ m + 1 := by omega
  have hbm2 : m + 1 ≤ b := by omega
  clear h R hs h2 hbm
  go_enter Try.func55, Try.ntmps55
  go_wp2_with fail
  go_loopw [14, 15] (fun iv jv wr => ∃ (i j : Nat), a ≤ i ∧ i ≤ j ∧ j ≤ m ∧ iv = .int .i64 i ∧ jv = .int .i64 j ∧ Hid (SWK evc 3 w0 blk off dk wr ∧ SrD (ltOf evcf) dk dk[m]! a m i j)) (fun iv jv _ => (intOf jv).toNat - (intOf iv).toNat)
  case atStart => exact ⟨a, m, Nat.le_refl _, by omega, Nat.le_refl _, rfl, rfl, Lib.hid ⟨HS.out, ⟨fun h h1 h2 => absurd h2 (by omega), fun h h1 h2 => absurd h2 (by omega)⟩⟩⟩
  case round =>
    obtain ⟨i, j, hi1, hij, hjb, rfl, rfl, hi⟩ := hrel
    by_cases hlt : i < j
    · have hI : (i : Int) < j := by omega
      go_upto_region 17 with fail
      obtain ⟨h, hh⟩ : ∃ h, (i + j) / 2 = h := ⟨_, rfl⟩
      have eh : ((i : Int) + j) / 2 = h := by omega
      have h1 : i ≤ h := by omega
      have h2 : h < j := by omega
      clear hh
      rw [eh]
      have HG := Lib.hid (fun n os => hi.out.1.grown n os)
      have KX := fun n os => swk_ev (HG.out n os) HR.out HSZ.out m (by omega)
      have KY := fun n os => swk_ev (HG.out n os) HR.out HSZ.out h (by omega)
      obtain ⟨x, hx⟩ : ∃ x, dk[m]! = x := ⟨_, rfl⟩
      obtain ⟨y, hy⟩ : ∃ y, dk[h]! = y := ⟨_, rfl⟩
      have HXY := Lib.hid (And.intro hx hy)
      rw [hx] at KX
      rw [hy] at KY
      have x0 := fun n os => (KX n os).c0
      have x1 := fun n os => (KX n os).c1
      have x2 := fun n os => (KX n os).c2
      have y0 := fun n os => (KY n os).c0
      have y1 := fun n os => (KY n os).c1
      have y2 := fun n os => (KY n os).c2
      have HCG := Lib.hid (fun n os => ev_cmp (grow (wr.drewN n) os) x y)
      clear KX KY hx hy
      have b1 : (m : Int) < dk.size := by omega
      have b2 : (h : Int) < dk.size := by omega
      by_cases hlv : evcf x y < 0
      · have HN := Lib.hid (fun X (hX : SWK evc 3 w0 blk off dk X) => (show SWK evc 3 w0 blk off dk X ∧ SrD (ltOf evcf) dk dk[m]! a m i h from ⟨hX, hi.out.2.yes ev_swo HSO.out (by omega) (by rw [HXY.out.1, HXY.out.2]; exact ev_lt_true hlv)⟩))
        clear hi
        obtain ⟨xs, xt, xA, xc, xl⟩ := x
        obtain ⟨ys, yt, yA, yc, yl⟩ := y
        unfold evc at HCG
        dsimp only at x0 x1 x2 y0 y1 y2 HCG
        go_quiet_grown (first | (go_at_call 31; refine Calls.grown_of (HCG.out _ _)))
        go_wp2_with fail
        go_roundw
        case rel => exact ⟨i, h, hi1, h1, by omega, rfl, rfl, Lib.hid (HN.out _ (HG.out nq osq))⟩
        case measure => simp [intOf]; omega
      · have HN := Lib.hid (fun X (hX : SWK evc 3 w0 blk off dk X) => (show SWK evc 3 w0 blk off dk X ∧ SrD (ltOf evcf) dk dk[m]! a m (h + 1) j from ⟨hX, hi.out.2.no ev_swo HSO.out (by omega) (by rw [HXY.out.1, HXY.out.2]; exact ev_lt_false hlv)⟩))
        clear hi
        obtain ⟨xs, xt, xA, xc, xl⟩ := x
        obtain ⟨ys, yt, yA, yc, yl⟩ := y
        unfold evc at HCG
        dsimp only at x0 x1 x2 y0 y1 y2 HCG
        go_quiet_grown (first | (go_at_call 31; refine Calls.grown_of (HCG.out _ _)))
        go_wp2_with fail
        go_roundw
        case rel => exact ⟨h + 1, j, by omega, by omega, hjb, by go_num, rfl, Lib.hid (HN.out _ (HG.out nq osq))⟩
        case measure => simp [intOf]; omega
    · obtain rfl : i = j := by omega
      have HI := Lib.hid hi.out
      clear hi
      have him : i ≤ m := hjb
      go_wp2_with fail
      go_loopw [17] (fun kv wr2 => ∃ k : Nat, i ≤ k ∧ k ≤ m ∧ kv = .int .i64 k ∧ Hid (SWK evc 3 w0 blk off (downS dk m (m - k)) wr2)) (fun kv _ => (intOf kv).toNat - i)
      case atStart => exact ⟨m, him, Nat.le_refl _, rfl, Lib.hid (by rw [Nat.sub_self]; exact HI.out.1)⟩
      case round =>
        obtain ⟨k, hk0, hk1, rfl, hi⟩ := hrel
        by_cases hlt2 : i < k
        · have hI2 : (i : Int) < k := by omega
          obtain ⟨k2, hk2⟩ : ∃ k2, k = k2 + 1 := ⟨k - 1, by omega⟩
          subst hk2
          have e : swp (downS dk m (m - (k2 + 1))) (k2 + 1) k2 = downS dk m (m - k2) := by
            rw [show m - k2 = (m - (k2 + 1)) + 1 by omega, downS, show m - (m - (k2 + 1)) = k2 + 1 by omega]; rfl
          have HE := Lib.hid e
          have hsz2 := downS_size dk m (m - (k2 + 1))
          generalize downS dk m (m - (k2 + 1)) = dj at *
          clear e
          have hj1 : k2 + 1 < dj.size := by omega
          have hj2 : k2 < dj.size := by omega
          obtain ⟨c0, c1, c2, q0, q1, q2⟩ := swk_ev hi.out HR.out (by have := HSZ.out; omega) (k2 + 1) hj1
          obtain ⟨d0, d1, d2, g0, g1, g2⟩ := swk_ev hi.out HR.out (by have := HSZ.out; omega) k2 hj2
          have HN := Lib.hid (hi.out.swap HR.out.hk HR.out.hblk (k2 + 1) k2 hj1 hj2).drew
          clear hi
          have b1 : (k2 : Int) < dk.size := by omega
          have b2 : (k2 : Int) + 1 < dk.size := by omega
          have b3 : (0 : Int) ≤ (k2 : Int) + 1 := by omega
          have b4 : ((k2 : Int) + 1).toNat = k2 + 1 := by omega
          generalize hx : dj[k2]! = x at *
          generalize hy : dj[k2 + 1]! = y at *
          clear hx hy
          obtain ⟨xs, xt, xA, xc, xl⟩ := x
          obtain ⟨ys, yt, yA, yc, yl⟩ := y
          unfold evc at HN
          simp only [World.setCells] at HN
          dsimp only at *
          clear hj1 hj2 hsz2
          go_wp2_with fail
          go_big_region_o
          all_goals go_wp2
          go_roundw
          case rel => exact ⟨k2, by omega, by omega, by first | rfl | go_num, Lib.hid (by rw [← HE.out]; exact HN.out)⟩
          case measure => simp [intOf]; omega
        · have hI2 : (k : Int) ≤ i := by omega
          obtain rfl : k = i := by omega
          go_wp2_with fail
          (try simp only [Exit.inBlock, Exit.then])
          refine bodyPost_ret (results_none rfl _ _ _) rfl ?_
          have hbe : b = m + 1 := by omega
          rw [hbe]
          exact ⟨rfl, _, hi.out, downS_perm dk (by omega) (by omega) _ (by omega), HI.out.2.done ev_swo HSO.out hi1 him (by omega)⟩
end Go.Proofs.Ytckmmihbipmkcaa
