/- Events in memory; the library's stable sort over a row of them. -/
import Derived.Test.YtckmmihbipmkcaaWs7
import Derived.Test.YtckmmihbipmkcaaWo0
namespace Go.Proofs.Ytckmmihbipmkcaa
open Go.RowKit Go.Sort Go.Lib Go.Shelf

theorem flatKe_list (l : List Ev) : (flatK evc 3 l.toArray).toList = l.flatMap evc := by
  apply List.ext_getElem?
  intro t
  by_cases h : t < l.length * 3
  · have h1 : t / 3 < l.length := by omega
    have h2 := flat_get evc 3 evc_len l (t / 3) (t % 3) h1 (by omega)
    rw [show t / 3 * 3 + t % 3 = t by omega] at h2
    have h3 := get_flatK evc 3 l.toArray t (by simpa using h)
    have h4 : t < (flatK evc 3 l.toArray).size := by simpa using h
    rw [getElem!_pos (flatK evc 3 l.toArray) t h4, getElem!_pos l.toArray (t / 3) (by simpa using h1)] at h3
    have h5 : t % 3 < (evc l[t / 3]).length := by rw [evc_len]; omega
    rw [h2, List.getElem?_eq_getElem h5, List.getElem?_eq_getElem (by simpa using h4)]
    congr 1
    simp only [Array.getElem_toList, h3, List.getElem_toArray]
    rw [getElem!_pos (evc l[t / 3]) (t % 3) h5]
  · rw [List.getElem?_eq_none (by simp; omega), List.getElem?_eq_none (by rw [flat_len evc 3 evc_len]; omega)]
theorem holdsE_of {w : World} {b t : Nat} {cur : Array Value} {l : List Ev} (h : Blk w b t cur) (hh : cur.toList.take (l.length * 3) = l.flatMap evc) : HoldsK evc 3 w b 0 l.toArray := by
  intro j hj
  have hj' : j < l.length * 3 := by simpa using hj
  refine ⟨?_, h.frozen _⟩
  have hg : cur[j]? = (l.flatMap evc)[j]? := by rw [← hh, List.getElem?_take_of_lt hj', Array.getElem?_toList]
  rw [Nat.zero_add, h.cell, hg, ← flatKe_list, getElem!_pos (flatK evc 3 l.toArray) j hj, Array.getElem?_toList, Array.getElem?_eq_getElem hj]
  rfl
theorem swk_fr {w W : World} {b : Nat} {d : Array Ev} (h : SWK evc 3 w b 0 d W) : Fr (Only b) w W := by
  obtain ⟨n, os, rfl⟩ := h
  have hs : (sortWorldK evc 3 w b 0 n d os).heap.size = w.heap.size + os.size := by
    unfold sortWorldK; rw [size_grow, size_putRowK]; rfl
  refine ⟨rfl, rfl, rfl, by omega, fun k hk hn => ?_⟩
  unfold sortWorldK
  rw [heap_grow_old _ _ (by rw [size_putRowK]; exact hk)]
  show (w.heap.modify b _)[k]? = _
  rw [Array.getElem?_modify, if_neg (fun e => hn e.symm)]
theorem swk_sl {w W : World} {b cap : Nat} {d d0 : Array Ev} (h : SWK evc 3 w b 0 d W) (R : RowK evc 3 w b 0 d0) (hs : d.size = d0.size) (hc : d.size ≤ cap) (hm : cap ≤ maxLen) : Sl W 3 (some ⟨b, 0, none⟩) d.size cap (d.toList.flatMap evc) := by
  have hH := h.holds R.hblk R.hH hs
  refine ⟨by rw [flat_len evc 3 evc_len, Array.length_toList], hc, hm, (fun e => by cases e), fun _ => ⟨b, 0, rfl, h.lt R.hblk, fun j u hu => ?_⟩⟩
  have hj : j < d.toList.length * 3 := by
    have := (List.getElem?_eq_some_iff.1 hu).1
    rwa [flat_len evc 3 evc_len] at this
  have hj' : j < (flatK evc 3 d).size := by simpa using hj
  have e : (flatK evc 3 d).toList = d.toList.flatMap evc := by have := flatKe_list d.toList; simpa using this
  rw [(hH j hj').1]
  rw [← e, Array.getElem?_toList, Array.getElem?_eq_getElem hj'] at hu
  rw [getElem!_pos (flatK evc 3 d) j hj']
  exact hu

set_option maxRecDepth 100000 in
theorem ev_stable_nil (w : World) : Calls Try.prog 47 #[.slice none 0 0, .int .i64 0, .func (.func 31) #[] #[]] w fun e w' => e = .returned (.tuple #[]) ∧ w' = w := by
  have HC := Lib.hid (AnyF.insertionSortCmpFunc_none Try.insEv none 0 (.func (.func 31) #[] #[]) w)
  change Hid (Calls Try.prog 54 _ _ _) at HC
  go_enter Try.func47, Try.ntmps47
  go_wp2_with fail
  go_loopw [7, 8] (fun av bv wr => av = .int .i64 0 ∧ bv = .int .i64 20 ∧ Hid (wr = w)) (fun _ _ _ => 0)
  case atStart => exact ⟨rfl, rfl, Lib.hid rfl⟩
  case round =>
    obtain ⟨rfl, rfl, hw⟩ := hrel
    have hw' := hw.out
    subst hw'
    go_wp2_with (first
      | ((go_at_call 54); refine (HC.out).mono ?_; rintro e w1 ⟨rfl, hw1⟩; have HW1 := Lib.hid hw1; clear hw1))
    go_loopw [6, 7, 8, 9] (fun sv _ _ _ wr2 => sv = .int .i64 20 ∧ Hid (wr2 = w1)) (fun _ _ _ _ _ => 0)
    case atStart => exact ⟨rfl, Lib.hid rfl⟩
    case round =>
      obtain ⟨rfl, hw2⟩ := hrel
      go_wp2_with fail
      go_end0
      exact ⟨rfl, hw2.out.trans HW1.out⟩
/-- The events in order. -/
structure EvS (gs fs : List Ev) : Prop where
  perm : gs.Perm fs
  up : gs.Pairwise fun x y => x.t ≤ y.t
theorem EvS.of {fs : List Ev} {d : Array Ev} (hp : PermIn 0 fs.toArray.size fs.toArray d) (ho : SortedIn (ltOf evcf) 0 fs.toArray.size d) : EvS d.toList fs := by
  obtain ⟨hz, _, hq⟩ := hp
  refine ⟨?_, ?_⟩
  · have e1 : d.extract 0 fs.toArray.size = d := by rw [← hz]; exact Array.extract_size
    have e2 : fs.toArray.extract 0 fs.toArray.size = fs.toArray := Array.extract_size
    rw [e1, e2] at hq
    simpa using hq
  · rw [List.pairwise_iff_getElem]
    intro i j hi hj hij
    have hj' : j < d.size := by simpa using hj
    have h := ho i j (Nat.zero_le _) hij (by rw [← hz]; exact hj')
    rw [getElem!_pos d j hj', getElem!_pos d i (by omega)] at h
    unfold ltOf evcf Lib.compareInt at h
    simp only [Array.getElem_toList]
    simp only [decide_eq_false_iff_not] at h
    split at h
    · omega
    · omega
theorem ev_Sort_nil (w : World) : Calls Try.prog 30 #[.slice none 0 0, .func (.func 31) #[] #[]] w fun e w' => e = .returned (.tuple #[]) ∧ w' = w := by
  have HC := Lib.hid (ev_stable_nil w)
  go_enter Try.func30, Try.ntmps30
  go_wp2_with (first
    | ((go_at_call 47); refine (HC.out).mono ?_; rintro e w1 ⟨rfl, hw1⟩; have HW1 := Lib.hid hw1; clear hw1))
  go_end0
  exact ⟨rfl, HW1.out⟩
set_option maxRecDepth 100000 in
theorem ev_Sort (w : World) (base : Nat) (A : Option Addr) (c n : Nat) (fs : List Ev) (hn : n = fs.length) (hown : w.ownsRow base 32 3 (.slice A n c) n (fs.flatMap evc)) (hm : n ≤ 100000) :
    Calls Try.prog 30 #[.slice A n c, .func (.func 31) #[] #[]] w fun e w' => e = .returned (.tuple #[]) ∧ ∃ gs, EvS gs fs ∧ gs.length = n ∧ Sl w' 3 A n c (gs.flatMap evc) ∧ Fr (fun i => base ≤ i) w w' := by
  have HO := Lib.hid hown
  rcases hown.2 with ⟨hv, h0⟩ | ⟨g, cap, cur, hv, hge, hcur, hle, hmx, hcs, htake⟩
  · simp only [Value.slice.injEq] at hv
    obtain ⟨rfl, _, rfl⟩ := hv
    have h0' : fs = [] := List.eq_nil_of_length_eq_zero (by omega)
    subst h0'
    have hn0 : n = 0 := hn
    subst hn0
    refine (ev_Sort_nil w).mono ?_
    rintro e w1 ⟨rfl, rfl⟩
    exact ⟨rfl, [], ⟨List.Perm.refl _, List.Pairwise.nil⟩, rfl, Sl.none_ _ _, Fr.refl _ _⟩
  · simp only [Value.slice.injEq] at hv
    obtain ⟨rfl, _, rfl⟩ := hv
    have hb : Blk w g 32 cur := hcur
    have R : RowK evc 3 w g 0 fs.toArray := ⟨evc_len, evc_one, holdsE_of hb (by rw [← hn]; exact htake), hb.lt⟩
    have hz : fs.toArray.size = n := by simp [hn]
    have HC := Lib.hid (show Calls Try.prog 47 #[.slice (some ⟨g, 0, none⟩) n c, .int .i64 n, .func (.func 31) #[] #[]] w fun e w' => e = .returned (.tuple #[]) ∧ ∃ d, SWK evc 3 w g 0 d w' ∧ PermIn 0 n fs.toArray d ∧ SortedIn (ltOf evcf) 0 n d by
      have := ev_stable (cap := c) (SWK.start R.hH) R rfl (by omega)
      rwa [hz] at this)
    have HR := Lib.hid R
    have HZ := Lib.hid hz
    have HM := Lib.hid (And.intro hge (And.intro hle hmx))
    clear hown hb R hz hge hle hmx hcs htake hcur hn
    go_enter Try.func30, Try.ntmps30
    go_wp2_with (first
      | ((go_at_call 47); refine (HC.out).mono ?_; rintro e w1 ⟨rfl, d, hw1, hp, ho⟩; have H1 := Lib.hid (And.intro hw1 (And.intro hp ho)); clear hw1 hp ho))
    refine bodyPost_end (results_none rfl _ _ _) rfl ?_
    obtain ⟨hw1, hp, ho⟩ := H1.out
    rw [← HZ.out] at hp ho
    have hd : d.size = n := by rw [hp.1, HZ.out]
    have hsl := swk_sl (cap := c) hw1 HR.out hp.1 (by rw [hd]; exact HM.out.2.1) HM.out.2.2
    rw [hd] at hsl
    exact ⟨rfl, d.toList, EvS.of hp ho, by simpa using hd, hsl, (swk_fr hw1).mono fun i _ e => by have := HM.out.1; unfold Only at e; omega⟩
end Go.Proofs.Ytckmmihbipmkcaa
