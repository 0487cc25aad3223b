/- Merging in place: one element and a stretch. -/
import Derived.Test.YtckmmihbipmkcaaWs3
namespace Go.Proofs.Ytckmmihbipmkcaa
open Go.RowKit Go.Sort Go.Lib

theorem ev_swo : SWO (ltOf evcf) where
  irrefl x := by unfold ltOf evcf Lib.compareInt; simp
  trans x y z h1 h2 := by
    unfold ltOf evcf Lib.compareInt at *
    simp only [decide_eq_true_eq] at *
    repeat' split at h1
    all_goals repeat' split at h2
    all_goals repeat' split
    all_goals omega
  ntrans x y z h1 h2 := by
    unfold ltOf evcf Lib.compareInt at *
    simp only [decide_eq_false_iff_not] at *
    repeat' split at h1
    all_goals repeat' split at h2
    all_goals repeat' split
    all_goals omega
theorem ev_lt_true {x y : Ev} (h : evcf x y < 0) : ltOf evcf x y = true := decide_eq_true h
theorem ev_lt_false {x y : Ev} (h : ¬ evcf x y < 0) : ltOf evcf x y = false := decide_eq_false h
set_option maxRecDepth 100000 in
set_option maxHeartbeats 4000000 in
theorem ev_sym1 {w0 W : World} {blk off cap : Nat} {d0 dk : Array Ev} (h : SWK evc 3 w0 blk off dk W) (R : RowK evc 3 w0 blk off d0) (hs : dk.size = d0.size) (a m b : Nat) (ham : m = a + 1) (hmb : m < b) (hb : b ≤ dk.size) (hsz : dk.size ≤ 1000000)
    (h2 : SortedIn (ltOf evcf) (a + 1) b dk) :
    Calls Try.prog 55 #[.slice (some ⟨blk, off, none⟩) dk.size cap, .int .i64 a, .int .i64 m, .int .i64 b, .func (.func 31) #[] #[]] W fun e w' => e = .returned (.tuple #[]) ∧ ∃ d, SWK evc 3 w0 blk off d w' ∧ PermIn a b dk d ∧ SortedIn (ltOf evcf) a b d := by
  have HS := Lib.hid h
  have HR := Lib.hid R
  have HSZ := Lib.hid hs
  have HSO := Lib.hid h2
  have e0 : (m : Int) - a = 1 := by omega
  have mixed : Try.prog.follows Departure.mixedOrders = true := by kernel_rfl
  have ham1 : m ≤ a + 1 := by omega
  have ham2 : a + 1 ≤ m := by omega
  clear h R hs h2 ham
  go_enter Try.func55, Try.ntmps55
  go_wp2_with fail
  go_loopw [10, 11] (fun iv jv wr => ∃ (i j : Nat), a + 1 ≤ i ∧ i ≤ j ∧ j ≤ b ∧ iv = .int .i64 i ∧ jv = .int .i64 j ∧ Hid (SWK evc 3 w0 blk off dk wr ∧ SrU (ltOf evcf) dk dk[a]! (a + 1) b i j)) (fun iv jv _ => (intOf jv).toNat - (intOf iv).toNat)
  case atStart => exact ⟨m, b, by omega, by omega, Nat.le_refl _, rfl, rfl, Lib.hid ⟨HS.out, ⟨fun h h1 h2 => absurd h2 (by omega), fun h h1 h2 => absurd h2 (by omega)⟩⟩⟩
  case round =>
    obtain ⟨i, j, hi1, hij, hjb, rfl, rfl, hi⟩ := hrel
    by_cases hlt : i < j
    · have hI : (i : Int) < j := by omega
      go_upto_region 5 with fail
      obtain ⟨h, hh⟩ : ∃ h, (i + j) / 2 = h := ⟨_, rfl⟩
      have eh : ((i : Int) + j) / 2 = h := by omega
      have h1 : i ≤ h := by omega
      have h2 : h < j := by omega
      clear hh
      rw [eh]
      have HG := Lib.hid (fun n os => hi.out.1.grown n os)
      have KX := fun n os => swk_ev (HG.out n os) HR.out HSZ.out h (by omega)
      have KY := fun n os => swk_ev (HG.out n os) HR.out HSZ.out a (by omega)
      obtain ⟨x, hx⟩ : ∃ x, dk[h]! = x := ⟨_, rfl⟩
      obtain ⟨y, hy⟩ : ∃ y, dk[a]! = y := ⟨_, rfl⟩
      have HXY := Lib.hid (And.intro hx hy)
      rw [hx] at KX
      rw [hy] at KY
      have x0 := fun n os => (KX n os).c0
      have x1 := fun n os => (KX n os).c1
      have x2 := fun n os => (KX n os).c2
      have y0 := fun n os => (KY n os).c0
      have y1 := fun n os => (KY n os).c1
      have y2 := fun n os => (KY n os).c2
      have HCG := Lib.hid (fun n os => ev_cmp (grow (wr.drewN n) os) x y)
      clear KX KY hx hy
      have b1 : (h : Int) < dk.size := by omega
      have b2 : (a : Int) < dk.size := by omega
      by_cases hlv : evcf x y < 0
      · have HN := Lib.hid (fun X (hX : SWK evc 3 w0 blk off dk X) => (show SWK evc 3 w0 blk off dk X ∧ SrU (ltOf evcf) dk dk[a]! (a + 1) b (h + 1) j from ⟨hX, hi.out.2.yes ev_swo HSO.out (by omega) (by rw [HXY.out.1, HXY.out.2]; exact ev_lt_true hlv)⟩))
        clear hi
        obtain ⟨xs, xt, xA, xc, xl⟩ := x
        obtain ⟨ys, yt, yA, yc, yl⟩ := y
        unfold evc at HCG
        dsimp only at x0 x1 x2 y0 y1 y2 HCG
        go_quiet_grown (first | (go_at_call 31; refine Calls.grown_of (HCG.out _ _)))
        go_wp2_with fail
        go_roundw
        case rel => exact ⟨h + 1, j, by omega, by omega, hjb, by go_num, rfl, Lib.hid (HN.out _ (HG.out nq osq))⟩
        case measure => simp [intOf]; omega
      · have HN := Lib.hid (fun X (hX : SWK evc 3 w0 blk off dk X) => (show SWK evc 3 w0 blk off dk X ∧ SrU (ltOf evcf) dk dk[a]! (a + 1) b i h from ⟨hX, hi.out.2.no ev_swo HSO.out (by omega) (by rw [HXY.out.1, HXY.out.2]; exact ev_lt_false hlv)⟩))
        clear hi
        obtain ⟨xs, xt, xA, xc, xl⟩ := x
        obtain ⟨ys, yt, yA, yc, yl⟩ := y
        unfold evc at HCG
        dsimp only at x0 x1 x2 y0 y1 y2 HCG
        go_quiet_grown (first | (go_at_call 31; refine Calls.grown_of (HCG.out _ _)))
        go_wp2_with fail
        go_roundw
        case rel => exact ⟨i, h, hi1, h1, by omega, rfl, rfl, Lib.hid (HN.out _ (HG.out nq osq))⟩
        case measure => simp [intOf]; omega
    · obtain rfl : i = j := by omega
      have HI := Lib.hid hi.out
      clear hi
      have f1 : (i : Int) - 1 = ((i - 1 : Nat) : Int) := by omega
      have ha1 : a ≤ i - 1 := by omega
      have hib : i ≤ b := hjb
      go_wp2_with fail
      go_loopw [13] (fun kv wr2 => ∃ k : Nat, a ≤ k ∧ k ≤ i - 1 ∧ kv = .int .i64 k ∧ Hid (SWK evc 3 w0 blk off (upS dk a (k - a)) wr2)) (fun kv _ => i - 1 - (intOf kv).toNat)
      case atStart => exact ⟨a, Nat.le_refl _, ha1, rfl, Lib.hid (by rw [Nat.sub_self]; exact HI.out.1)⟩
      case round =>
        obtain ⟨k, hk0, hk1, rfl, hi⟩ := hrel
        by_cases hlt2 : k < i - 1
        · have hI2 : (k : Int) < ((i - 1 : Nat) : Int) := by omega
          have e : swp (upS dk a (k - a)) k (k + 1) = upS dk a (k + 1 - a) := by
            rw [show k + 1 - a = (k - a) + 1 by omega, upS, show a + (k - a) = k by omega]
          have HE := Lib.hid e
          have hsz2 := upS_size dk a (k - a)
          generalize upS dk a (k - a) = dj at *
          clear e
          have hj1 : k < dj.size := by omega
          have hj2 : (k + 1) < dj.size := by omega
          obtain ⟨c0, c1, c2, q0, q1, q2⟩ := swk_ev hi.out HR.out (by have := HSZ.out; omega) k hj1
          obtain ⟨d0, d1, d2, g0, g1, g2⟩ := swk_ev hi.out HR.out (by have := HSZ.out; omega) (k + 1) hj2
          have HN := Lib.hid (hi.out.swap HR.out.hk HR.out.hblk k (k + 1) hj1 hj2).drew
          clear hi
          have b1 : (k : Int) < dk.size := by omega
          have b2 : (k : Int) + 1 < dk.size := by omega
          have b3 : (0 : Int) ≤ (k : Int) + 1 := by omega
          have b4 : ((k : Int) + 1).toNat = k + 1 := by omega
          generalize hx : dj[(k + 1)]! = x at *
          generalize hy : dj[k]! = y at *
          clear hx hy
          obtain ⟨xs, xt, xA, xc, xl⟩ := x
          obtain ⟨ys, yt, yA, yc, yl⟩ := y
          unfold evc at HN
          simp only [World.setCells] at HN
          dsimp only at *
          clear hj1 hj2 hsz2
          go_wp2_with fail
          go_big_region_o
          all_goals go_wp2
          go_roundw
          case rel => exact ⟨k + 1, by omega, by omega, by go_num, Lib.hid (by rw [← HE.out]; exact HN.out)⟩
          case measure => simp [intOf]; omega
        · have hI2 : ((i - 1 : Nat) : Int) ≤ k := by omega
          obtain rfl : k = i - 1 := by omega
          go_wp2_with fail
          (try simp only [Exit.inBlock, Exit.then])
          refine bodyPost_ret (results_none rfl _ _ _) rfl ?_
          exact ⟨rfl, _, hi.out, upS_perm dk _ (by omega) hb, HI.out.2.done ev_swo HSO.out hi1 hib hb⟩
end Go.Proofs.Ytckmmihbipmkcaa
