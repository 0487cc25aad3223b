/- Events in memory; their order; two stretches exchanged. -/
import Derived.Shelf.SlSortCmp.KitK
import Derived.Test.YtckmmihbipmkcaaWs0
import Derived.Test.YtckmmihbipmkcaaWlays
namespace Go.Proofs.Ytckmmihbipmkcaa
open Go.RowKit Go.Sort Go.Lib

structure Ev where
  s : Int
  t : Int
  A : Option Addr
  c : Nat
  l : List PP
instance : Inhabited Ev := ⟨⟨0, 0, none, 0, []⟩⟩
def evc (e : Ev) : List Value := [.int .u64 e.s, .int .i64 e.t, .slice e.A e.l.length e.c]
def evcf (x y : Ev) : Int := Lib.compareInt x.t y.t
theorem evc_len (x : Ev) : (evc x).length = 3 := rfl
theorem evc_one (x : Ev) : ∀ v ∈ evc x, v.oneCell' = true := by intro u hu; simp [evc] at hu; rcases hu with rfl | rfl | rfl <;> rfl
set_option maxRecDepth 100000 in
set_option maxHeartbeats 4000000 in
theorem ev_cmp (W : World) (x y : Ev) : Calls Try.prog 31 #[.agg (evc x).toArray, .agg (evc y).toArray] W fun e w' => e = .returned (.int .i64 (evcf x y)) ∧ ∃ q os', w' = grow (W.drewN q) os' := by
  have hi := fun W' => AnyG.cmp_Compare_int Try.cmpInt x.t y.t W'
  change ∀ W', Calls Try.prog 32 _ _ _ at hi
  have HP := Lib.hid (show evcf x y = Lib.compareInt x.t y.t from rfl)
  obtain ⟨xs, xt, xA, xc, xl⟩ := x
  obtain ⟨ys, yt, yA, yc, yl⟩ := y
  dsimp only at hi HP
  generalize Lib.compareInt xt yt = r at *
  unfold evc
  go_enter Try.func31, Try.ntmps31
  go_wp2_with (first | (go_at_call 32; refine (hi _).mono ?_; rintro e w' ⟨rfl, rfl⟩))
  go_ret
  exact ⟨by rw [HP.out]; rfl, 0, _, by simp only [alloc_eq_grow, grow_grow]; rfl⟩
theorem ev_lays (w : World) (blk off size : Nat) : CmpLays Try.prog 31 #[] evc 3 evcf blk off size w := fun m os dk _ x y => by
  have := ev_cmp (sortWorldK evc 3 w blk off m dk os) x y
  simpa using this
/-- An event's cells, in any world of the sort's. -/
structure EvAt (W : World) (blk o : Nat) (x : Ev) : Prop where
  c0 : W.cell? ⟨blk, o, none⟩ = some (.int .u64 x.s)
  c1 : W.cell? ⟨blk, o + 1, none⟩ = some (.int .i64 x.t)
  c2 : W.cell? ⟨blk, o + 2, none⟩ = some (.slice x.A x.l.length x.c)
  f0 : W.frozen? ⟨blk, o, none⟩ = false
  f1 : W.frozen? ⟨blk, o + 1, none⟩ = false
  f2 : W.frozen? ⟨blk, o + 2, none⟩ = false
theorem swk_ev {w0 W : World} {blk off : Nat} {d0 dk : Array Ev} (h : SWK evc 3 w0 blk off dk W) (R : RowK evc 3 w0 blk off d0) (hs : dk.size = d0.size) (i : Nat) (hi : i < dk.size) : EvAt W blk (off + i * 3) dk[i]! := by
  have hH := h.holds R.hblk R.hH hs
  have g := fun c (hc : c < 3) => hH.cell hi hc
  exact ⟨(g 0 (by omega)).1, (g 1 (by omega)).1, (g 2 (by omega)).1, (g 0 (by omega)).2, (g 1 (by omega)).2, (g 2 (by omega)).2⟩
theorem ev_swap (fv : Value) {w0 W : World} {blk off cap : Nat} {d0 dk : Array Ev} (h : SWK evc 3 w0 blk off dk W) (R : RowK evc 3 w0 blk off d0) (hs : dk.size = d0.size) (a b n : Nat) (hab : a + n ≤ b) (hb : b + n ≤ dk.size) (hsz : dk.size ≤ 1000000) :
    Calls Try.prog 74 #[.slice (some ⟨blk, off, none⟩) dk.size cap, .int .i64 a, .int .i64 b, .int .i64 n, fv] W fun e w' => e = .returned (.tuple #[]) ∧ SWK evc 3 w0 blk off (swR dk a b n) w' := by
  have HS := Lib.hid h
  have HR := Lib.hid R
  clear h R
  go_enter Try.func74, Try.ntmps74
  go_wp2_with fail
  go_loopw [10] (fun iv wr => ∃ k : Nat, k ≤ n ∧ iv = .int .i64 k ∧ Hid (SWK evc 3 w0 blk off (swR dk a b k) wr)) (fun iv _ => n - (intOf iv).toNat)
  case atStart => exact ⟨0, Nat.zero_le _, rfl, HS⟩
  case round =>
    obtain ⟨k, hk, rfl, hi⟩ := hrel
    by_cases hlt : k < n
    · have hI : (k : Int) < n := by omega
      have hI3 : 0 ≤ (k : Int) := by omega
      have hsz2 := swR_size dk a b k
      have R := HR.out
      have i1 : a + k < (swR dk a b k).size := by omega
      have i2 : b + k < (swR dk a b k).size := by omega
      obtain ⟨c0, c1, c2, f0, f1, f2⟩ := swk_ev hi.out R (by omega) (a + k) i1
      obtain ⟨d0, d1, d2, g0, g1, g2⟩ := swk_ev hi.out R (by omega) (b + k) i2
      have HN := Lib.hid (hi.out.swap R.hk R.hblk (a + k) (b + k) i1 i2).drew
      clear hi R
      have e1 : (a : Int) + k < dk.size := by omega
      have e2 : (b : Int) + k < dk.size := by omega
      have e3 : (0 : Int) ≤ (a : Int) + k := by omega
      have e4 : (0 : Int) ≤ (b : Int) + k := by omega
      have e5 : ((a : Int) + k).toNat = a + k := by omega
      have e6 : ((b : Int) + k).toNat = b + k := by omega
      generalize hx : (swR dk a b k)[b + k]! = x at *
      generalize hy : (swR dk a b k)[a + k]! = y at *
      clear hx hy
      obtain ⟨xs, xt, xA, xc, xl⟩ := x
      obtain ⟨ys, yt, yA, yc, yl⟩ := y
      dsimp only at *
      unfold evc at HN
      simp only [World.setCells] at HN
      have mixed : Try.prog.follows Departure.mixedOrders = true := by kernel_rfl
      go_wp2_with fail
      go_big_region_o
      all_goals go_wp2
      go_roundw
      case rel => exact ⟨k + 1, by omega, by go_num, HN⟩
      case measure => simp [intOf]; omega
    · obtain rfl : k = n := by omega
      go_wp2_with fail
      go_end0
      exact ⟨rfl, hi.out⟩
end Go.Proofs.Ytckmmihbipmkcaa
