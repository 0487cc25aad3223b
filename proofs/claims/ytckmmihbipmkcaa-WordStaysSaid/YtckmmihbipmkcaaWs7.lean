/- The stable sort of events. -/
import Derived.Test.YtckmmihbipmkcaaWs6
namespace Go.Proofs.Ytckmmihbipmkcaa
open Go.RowKit Go.Sort Go.Lib Go.Shelf

theorem ev_ins {w0 W : World} {blk off cap : Nat} {d0 dk : Array Ev} (h : SWK evc 3 w0 blk off dk W) (R : RowK evc 3 w0 blk off d0) (hs : dk.size = d0.size) (a b : Nat) (hab : a ≤ b) (hb : b ≤ dk.size) (hsz : dk.size ≤ 1000000) :
    Calls Try.prog 54 #[.slice (some ⟨blk, off, none⟩) dk.size cap, .int .i64 a, .int .i64 b, .func (.func 31) #[] #[]] W fun e w' => e = .returned (.tuple #[]) ∧ ∃ d, SWK evc 3 w0 blk off d w' ∧ PermIn a b dk d ∧ SortedIn (ltOf evcf) a b d := by
  have eg : ∀ args w, (callFunc 31 args).run Try.prog w = .ok (.enter 31 args) w := enters_of Try.func31 (by kernel_rfl) rfl
  have hcon := AnyQ.insertionSortCmpFunc Try.insEv 3 Try.isAgg32 Try.sizeOf32 evc evc_len evc_one evcf 31 #[] blk off cap a b dk W eg (ev_lays W blk off dk.size) (h.holds R.hblk R.hH hs) (h.lt R.hblk) hab hb (by omega)
  refine hcon.mono ?_
  rintro e w' ⟨rfl, n, os, rfl⟩
  obtain ⟨hp, ho⟩ := insertionSort_holds ev_swo dk a b hab hb
  exact ⟨rfl, _, h.on R.hblk n _ os hp.1, hp, ho⟩

/-- Sorted within each stretch of s. -/
def Chk (s lo hi : Nat) (d : Array Ev) : Prop := ∀ i j, lo ≤ i → i < j → j < hi → i / s = j / s → ltOf evcf d[j]! d[i]! = false
theorem Chk.frame {s lo hi a b : Nat} {d d' : Array Ev} (h : Chk s lo hi d) (hp : PermIn a b d d') (ho : hi ≤ a ∨ b ≤ lo) : Chk s lo hi d' := by
  intro i j hi1 hij hj e
  rw [hp.2.1 i (by omega), hp.2.1 j (by omega)]
  exact h i j hi1 hij hj e
theorem Chk.sorted {s lo hi k : Nat} {d : Array Ev} (h : Chk s lo hi d) (h1 : lo ≤ k * s) {e : Nat} (h2 : e ≤ hi) (h3 : e ≤ (k + 1) * s) : SortedIn (ltOf evcf) (k * s) e d := by
  intro i j hi1 hij hj
  refine h i j (by omega) hij (by omega) ?_
  rw [Nat.div_eq_of_lt_le hi1 (by omega : i < (k + 1) * s), Nat.div_eq_of_lt_le (by omega : k * s ≤ j) (by omega : j < (k + 1) * s)]
theorem Chk.more {s hi k e : Nat} {d : Array Ev} (_ : 0 < s) (h : Chk s 0 (k * s) d) (h1 : SortedIn (ltOf evcf) (k * s) e d) (he : e ≤ (k + 1) * s) (hhi : hi ≤ e) : Chk s 0 hi d := by
  intro i j _ hij hj eq
  rcases Nat.lt_or_ge j (k * s) with hj1 | hj1
  · exact h i j (Nat.zero_le _) hij hj1 eq
  · have e1 : j / s = k := Nat.div_eq_of_lt_le hj1 (by omega)
    have h2 : k * s ≤ i := by
      have := Nat.div_mul_le_self i s
      rw [eq, e1] at this
      exact this
    exact h1 i j h2 hij (by omega)
theorem Chk.whole {s n : Nat} {d : Array Ev} (h : Chk s 0 n d) (hs : n ≤ s) : SortedIn (ltOf evcf) 0 n d := by
  intro i j hi hij hj
  refine h i j hi hij hj ?_
  rw [Nat.div_eq_of_lt (by omega), Nat.div_eq_of_lt (by omega)]
/-- How far the merging of stretches of s is. -/
structure StI (s A n : Nat) (dk d : Array Ev) : Prop where
  mul : ∃ q, A = q * (2 * s)
  perm : PermIn 0 n dk d
  lo : Chk (2 * s) 0 A d
  hi : Chk s A n d
theorem StI.start {s n : Nat} {dk d : Array Ev} (hp : PermIn 0 n dk d) (h : Chk s 0 n d) : StI s 0 n dk d := ⟨⟨0, by omega⟩, hp, fun i j _ h1 h2 => by omega, h⟩
theorem StI.half1 {s A n e : Nat} {dk d : Array Ev} (h : StI s A n dk d) (he : e ≤ n) (h2 : e ≤ A + s) : SortedIn (ltOf evcf) A e d := by
  obtain ⟨q, hq⟩ := h.mul
  have e1 : A = (2 * q) * s := by rw [hq, ← Nat.mul_assoc, Nat.mul_comm q 2]
  have e2 : (2 * q + 1) * s = A + s := by rw [Nat.add_mul, Nat.one_mul, ← e1]
  have := h.hi.sorted (k := 2 * q) (by omega) he (by omega)
  rwa [← e1] at this
theorem StI.half2 {s A n e : Nat} {dk d : Array Ev} (h : StI s A n dk d) (he : e ≤ n) (h2 : e ≤ A + 2 * s) : SortedIn (ltOf evcf) (A + s) e d := by
  obtain ⟨q, hq⟩ := h.mul
  have e1 : A = (2 * q) * s := by rw [hq, ← Nat.mul_assoc, Nat.mul_comm q 2]
  have e2 : (2 * q + 1) * s = A + s := by rw [Nat.add_mul, Nat.one_mul, ← e1]
  have e3 : (2 * q + 1 + 1) * s = A + 2 * s := by rw [Nat.add_mul, Nat.one_mul, e2]; omega
  have := h.hi.sorted (k := 2 * q + 1) (by omega) he (by omega)
  rwa [e2] at this
theorem StI.next {s A n : Nat} {dk d d' : Array Ev} (h : StI s A n dk d) (hs : 0 < s) (hb : A + 2 * s ≤ n) (hn : n = dk.size) (hp : PermIn A (A + 2 * s) d d') (ho : SortedIn (ltOf evcf) A (A + 2 * s) d') : StI s (A + 2 * s) n dk d' := by
  obtain ⟨q, hq⟩ := h.mul
  have hz := h.perm.1
  have e1 : (q + 1) * (2 * s) = A + 2 * s := by rw [Nat.add_mul, Nat.one_mul, ← hq]
  refine ⟨⟨q + 1, e1.symm⟩, permIn_trans _ _ _ _ _ h.perm (perm_mono (Nat.zero_le _) hb (by omega) hp), ?_, ?_⟩
  · have h1 := h.lo.frame hp (.inl (Nat.le_refl _))
    rw [hq] at h1 ho
    exact Chk.more (k := q) (by omega) h1 ho (by omega) (by omega)
  · intro i j hi1 hij hj e
    rw [hp.2.1 i (by omega), hp.2.1 j (by omega)]
    exact h.hi i j (by omega) hij hj e
theorem StI.last {s A n : Nat} {dk d d' : Array Ev} (h : StI s A n dk d) (hs : 0 < s) (hb : n ≤ A + 2 * s) (hn : n = dk.size) (hp : PermIn A n d d') (ho : SortedIn (ltOf evcf) A n d') : PermIn 0 n dk d' ∧ Chk (2 * s) 0 n d' := by
  obtain ⟨q, hq⟩ := h.mul
  have hz := h.perm.1
  have e1 : (q + 1) * (2 * s) = A + 2 * s := by rw [Nat.add_mul, Nat.one_mul, ← hq]
  refine ⟨permIn_trans _ _ _ _ _ h.perm (perm_mono (Nat.zero_le _) (Nat.le_refl _) (by omega) hp), ?_⟩
  have h1 := h.lo.frame hp (.inl (Nat.le_refl _))
  rw [hq] at h1 ho
  exact Chk.more (k := q) (by omega) h1 ho (by omega) (Nat.le_refl _)
/-- How far the insertion sorts are. -/
structure InI (q n : Nat) (dk d : Array Ev) : Prop where
  perm : PermIn 0 n dk d
  lo : Chk 20 0 (q * 20) d
theorem InI.next {q n e : Nat} {dk d d' : Array Ev} (h : InI q n dk d) (he : e ≤ q * 20 + 20) (hn : e ≤ n) (hk : n = dk.size) (hp : PermIn (q * 20) e d d') (ho : SortedIn (ltOf evcf) (q * 20) e d') : PermIn 0 n dk d' ∧ Chk 20 0 e d' := by
  have hz := h.perm.1
  exact ⟨permIn_trans _ _ _ _ _ h.perm (perm_mono (Nat.zero_le _) hn (by omega) hp), Chk.more (by omega) (h.lo.frame hp (.inl (Nat.le_refl _))) ho (by omega) (Nat.le_refl _)⟩
set_option maxRecDepth 100000 in
set_option maxHeartbeats 8000000 in
theorem ev_stable {w0 W : World} {blk off cap : Nat} {d0 dk : Array Ev} (h : SWK evc 3 w0 blk off dk W) (R : RowK evc 3 w0 blk off d0) (hs : dk.size = d0.size) (hsz : dk.size ≤ 1000000) :
    Calls Try.prog 47 #[.slice (some ⟨blk, off, none⟩) dk.size cap, .int .i64 dk.size, .func (.func 31) #[] #[]] W fun e w' => e = .returned (.tuple #[]) ∧ ∃ d, SWK evc 3 w0 blk off d w' ∧ PermIn 0 dk.size dk d ∧ SortedIn (ltOf evcf) 0 dk.size d := by
  have HS := Lib.hid h
  obtain ⟨n, hn⟩ : ∃ n, dk.size = n := ⟨_, rfl⟩
  have HN := Lib.hid hn
  have HIN := Lib.hid (fun (X : World) (d : Array Ev) (hx : SWK evc 3 w0 blk off d X) (hd : d.size = n) (a b : Nat) (hab : a ≤ b) (hb : b ≤ n) =>
    (show Calls Try.prog 54 #[.slice (some ⟨blk, off, none⟩) n cap, .int .i64 a, .int .i64 b, .func (.func 31) #[] #[]] X fun e w' => e = .returned (.tuple #[]) ∧ ∃ d2, SWK evc 3 w0 blk off d2 w' ∧ PermIn a b d d2 ∧ SortedIn (ltOf evcf) a b d2 by
      have := ev_ins (cap := cap) hx R (by omega) a b hab (by omega) (by omega)
      rwa [hd] at this))
  have HSM := Lib.hid (fun (X : World) (d : Array Ev) (hx : SWK evc 3 w0 blk off d X) (hd : d.size = n) (a m b : Nat) (h1 : a < m) (h2 : m < b) (h3 : b ≤ n) (p1 : SortedIn (ltOf evcf) a m d) (p2 : SortedIn (ltOf evcf) m b d) =>
    (show Calls Try.prog 55 #[.slice (some ⟨blk, off, none⟩) n cap, .int .i64 a, .int .i64 m, .int .i64 b, .func (.func 31) #[] #[]] X fun e w' => e = .returned (.tuple #[]) ∧ ∃ d2, SWK evc 3 w0 blk off d2 w' ∧ PermIn a b d d2 ∧ SortedIn (ltOf evcf) a b d2 by
      have := ev_sym (b - a) (cap := cap) hx R (by omega) a m b (Nat.le_refl _) h1 h2 (by omega) (by omega) p1 p2
      rwa [hd] at this))
  rw [hn]
  have hsz2 : n ≤ 1000000 := by omega
  clear h R hs hsz hn
  go_enter Try.func47, Try.ntmps47
  go_wp2_with fail
  go_loopw [7, 8] (fun av bv wr => ∃ (q A B : Nat) (d : Array Ev), A ≤ n ∧ A < B ∧ av = .int .i64 A ∧ bv = .int .i64 B ∧ Hid (A = q * 20 ∧ B = A + 20) ∧ Hid (SWK evc 3 w0 blk off d wr ∧ InI q n dk d)) (fun av _ _ => n - (intOf av).toNat)
  case atStart => exact ⟨0, 0, 20, dk, by omega, by omega, rfl, rfl, Lib.hid ⟨rfl, rfl⟩, Lib.hid ⟨HS.out, permIn_refl _ _ _, fun i j _ h1 h2 => by omega⟩⟩
  case round =>
    obtain ⟨q, A, B, d, hA, hAB, rfl, rfl, HAB, hi⟩ := hrel
    have hdz := hi.out.2.perm.1
    have hnz := HN.out
    obtain ⟨hab1, hab2⟩ := HAB.out
    by_cases hlt : B ≤ n
    · have hI : (B : Int) ≤ n := by omega
      have HC := Lib.hid (HIN.out _ _ hi.out.1 (by omega) A B (by omega) hlt)
      have HX := Lib.hid (fun d' (hp : PermIn A B d d') (ho : SortedIn (ltOf evcf) A B d') => hi.out.2.next (by omega) hlt hnz.symm (hab1 ▸ hp) (hab1 ▸ ho))
      clear hi hdz hnz hab1 hab2
      go_wp2_with (first
        | ((go_at_call 54); (with_reducible refine (HC.out).mono ?_); rintro e w1 ⟨rfl, d2, hw1, hp1, ho1⟩; have H2 := Lib.hid (And.intro hw1 (HX.out _ hp1 ho1)); clear hw1 hp1 ho1))
      obtain ⟨hab1, hab2⟩ := HAB.out
      go_roundw
      case rel => exact ⟨q + 1, B, B + 20, d2, hlt, by omega, rfl, by first | rfl | go_num, Lib.hid ⟨by omega, rfl⟩, Lib.hid ⟨H2.out.1, H2.out.2.1, by rw [show (q + 1) * 20 = B by omega]; exact H2.out.2.2⟩⟩
      case measure => simp [intOf]; omega
    · have hI : (n : Int) < B := by omega
      have HC := Lib.hid (HIN.out _ _ hi.out.1 (by omega) A n hA (Nat.le_refl _))
      have HX := Lib.hid (fun d' (hp : PermIn A n d d') (ho : SortedIn (ltOf evcf) A n d') => hi.out.2.next (by omega) (Nat.le_refl _) hnz.symm (hab1 ▸ hp) (hab1 ▸ ho))
      clear hi hdz hnz hab1 hab2
      go_wp2_with (first
        | ((go_at_call 54); (with_reducible refine (HC.out).mono ?_); rintro e w1 ⟨rfl, d2, hw1, hp1, ho1⟩; have H2 := Lib.hid (And.intro hw1 (HX.out _ hp1 ho1)); clear hw1 hp1 ho1))
      go_loopw [6, 7, 8, 9] (fun sv _ _ _ wr => ∃ (s : Nat) (d : Array Ev), 20 ≤ s ∧ s ≤ 4000000 ∧ sv = .int .i64 s ∧ Hid (SWK evc 3 w0 blk off d wr ∧ PermIn 0 n dk d ∧ Chk s 0 n d)) (fun sv _ _ _ _ => n - (intOf sv).toNat)
      case atStart => exact ⟨20, d2, by omega, by omega, rfl, H2⟩
      case round =>
        obtain ⟨s, d, hs1, hs2, rfl, hi⟩ := hrel
        have hdz := hi.out.2.1.1
        have hnz := HN.out
        by_cases hls : s < n
        · have hI3 : (s : Int) < n := by omega
          have H3 := Lib.hid (And.intro hi.out.1 (StI.start hi.out.2.1 hi.out.2.2))
          clear hi hdz hnz
          have hs3 : s ≤ 1000000 := by omega
          go_wp2_with fail
          go_loopw [7, 8] (fun av bv wr => ∃ (A B : Nat) (d : Array Ev), A ≤ n ∧ B = A + 2 * s ∧ av = .int .i64 A ∧ bv = .int .i64 B ∧ Hid (SWK evc 3 w0 blk off d wr ∧ StI s A n dk d)) (fun av _ _ => n - (intOf av).toNat)
          case atStart => exact ⟨0, 2 * s, d, by omega, by omega, rfl, by first | rfl | go_num, H3⟩
          case round =>
            obtain ⟨A, B, dd1, hA, hB, rfl, rfl, hi⟩ := hrel
            have hdz := hi.out.2.perm.1
            have hnz := HN.out
            by_cases hlb : B ≤ n
            · have hIb : (B : Int) ≤ n := by omega
              have hAB : A + 2 * s ≤ n := by omega
              obtain ⟨M, hM⟩ : ∃ M, A + s = M := ⟨_, rfl⟩
              have e9 : (A : Int) + s = (M : Nat) := by omega
              have hM2 : M ≤ n := by omega
              have HC := Lib.hid (HSM.out _ _ hi.out.1 (by omega) A M B (by omega) (by omega) hlb (hi.out.2.half1 hM2 (by omega)) (hM ▸ hi.out.2.half2 hlb (by omega)))
              have HX := Lib.hid (fun d' (hp : PermIn A B dd1 d') (ho : SortedIn (ltOf evcf) A B d') => hi.out.2.next (by omega) hAB hnz.symm (hB ▸ hp) (hB ▸ ho))
              clear hi hdz hnz hM
              have HB0 := Lib.hid hB
              clear hB
              go_wp2_with (first
                | ((go_at_call 55); (with_reducible refine (HC.out).mono ?_); rintro e w2 ⟨rfl, d2, hw2, hp2, ho2⟩; have H4 := Lib.hid (And.intro hw2 (HX.out _ hp2 ho2)); clear hw2 hp2 ho2))
              have hB := HB0.out
              go_roundw
              case rel => exact ⟨B, B + 2 * s, d2, hlb, rfl, rfl, by first | rfl | go_num, by rw [hB]; exact H4⟩
              case measure => simp [intOf]; omega
            · have hIb : (n : Int) < B := by omega
              obtain ⟨M, hM⟩ : ∃ M, A + s = M := ⟨_, rfl⟩
              have e9 : (A : Int) + s = (M : Nat) := by omega
              have hM2 : M ≤ 2000000 := by omega
              have HX := Lib.hid (fun d' (hp : PermIn A n dd1 d') (ho : SortedIn (ltOf evcf) A n d') => hi.out.2.last (by omega) (by omega) hnz.symm hp ho)
              by_cases hlm : M < n
              · have hIm : (M : Int) < n := by omega
                have HC := Lib.hid (HSM.out _ _ hi.out.1 (by omega) A M n (by omega) hlm (Nat.le_refl _) (hi.out.2.half1 (by omega) (by omega)) (hM ▸ hi.out.2.half2 (Nat.le_refl _) (by omega)))
                clear hi hdz hnz hM
                have HB0 := Lib.hid hB
                clear hB
                go_wp2_with (first
                  | ((go_at_call 55); (with_reducible refine (HC.out).mono ?_); rintro e w2 ⟨rfl, d2, hw2, hp2, ho2⟩; have H4 := Lib.hid (And.intro hw2 (HX.out _ hp2 ho2)); clear hw2 hp2 ho2))
                go_roundw
                case rel => exact ⟨2 * s, d2, by omega, by omega, by first | rfl | (congr 1; omega) | go_num, H4⟩
                case measure => simp [intOf]; omega
              · have hIm : (n : Int) ≤ (M : Int) := by omega
                have H4 := Lib.hid (And.intro hi.out.1 (HX.out dd1 (permIn_refl _ _ _) (hi.out.2.half1 (Nat.le_refl _) (by omega))))
                clear hi hdz hnz hM
                have HB0 := Lib.hid hB
                clear hB
                go_wp2_with fail
                go_roundw
                case rel => exact ⟨2 * s, dd1, by omega, by omega, by first | rfl | (congr 1; omega) | go_num, H4⟩
                case measure => simp [intOf]; omega
        · have hI3 : (n : Int) ≤ s := by omega
          go_wp2_with fail
          go_end0
          exact ⟨rfl, d, hi.out.1, hi.out.2.1, hi.out.2.2.whole (by omega)⟩
end Go.Proofs.Ytckmmihbipmkcaa
