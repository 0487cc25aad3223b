/- Two texts in parentheses with a sign between. Plain. -/
import Derived.Test.YtanhmigknafhkaaDoorPgood
namespace Go.Proofs.YtanhmigknafhkaaDoor
open Go.RowKit

def jsg (r : Nat) : List UInt8 := if r = 0 then [38] else if r = 1 then [124] else if r = 2 then [45, 62] else [60, 45, 62]
def jop (r : Nat) : Int := 5 + r
theorem jsg_tok (r : Nat) (hr : r < 4) (t : List UInt8) : nextT (jsg r ++ 40 :: t) = (0, tS (jsg r)) := by
  match r, hr with
  | 0, _ => exact tok_simple 38 (by decide) _
  | 1, _ => exact tok_simple 124 (by decide) _
  | 2, _ => simp [jsg, nextT, numLen, signLen, smallB, digB, sgn2, tS]
  | 3, _ => simp [jsg, nextT, numLen, signLen, smallB, digB, tS]
theorem jsg_head (r : Nat) (hr : r < 4) : ∃ c s, (tS (jsg r)).text = c :: s ∧ blankB c = false := by
  match r, hr with
  | 0, _ => exact ⟨38, [], rfl, by decide⟩
  | 1, _ => exact ⟨124, [], rfl, by decide⟩
  | 2, _ => exact ⟨45, [62], rfl, by decide⟩
  | 3, _ => exact ⟨60, [45, 62], rfl, by decide⟩
theorem jsg_len (r : Nat) : (jsg r).length ≤ 3 := by unfold jsg; (repeat' split) <;> decide
def joinT (s t : List UInt8) (r : Nat) : List UInt8 := 40 :: (s ++ 41 :: (jsg r ++ 40 :: (t ++ [41])))
section
variable {s t : List UInt8} {x y : Nd} {ks js : Tr} {o p : List (TK × Nat)}
theorem join_read (h : GoodT s x ks o) (k : GoodT t y js p) (hs : s.length ≤ 240) (ht : t.length ≤ 240) (r : Nat) (hr : r < 4) :
    ∃ us q, readT (joinT s t r) = ((0, 0), us ++ [(tk0, q)]) ∧ us.map (·.1) ++ [tk0] = tS [40] :: (o.map (·.1) ++ tS [41] :: (tS (jsg r) :: (tS [40] :: (p.map (·.1) ++ tS [41] :: [tk0])))) := by
  obtain ⟨c, s2, hc, hb⟩ := jsg_head r hr
  have hl := jsg_len r
  have h1 := h.shut (jsg r ++ 40 :: (t ++ [41])) 1
  have h2 : ∀ a, rdT a (jsg r ++ 40 :: (t ++ [41])) = ((rdT (a + (jsg r).length) (40 :: (t ++ [41]))).1, (tS (jsg r), a) :: (rdT (a + (jsg r).length) (40 :: (t ++ [41]))).2) := fun a => rdT_cons (T := tS (jsg r)) hc hb (jsg_tok r hr _) a
  have h3 : ∀ a, rdT a (40 :: (t ++ [41])) = _ := fun a => rd_open (t ++ [41]) a
  have h4 : ∀ a, rdT a (t ++ [41]) = _ := fun a => k.shut [] a
  refine ⟨(tS [40], 0) :: (moved 1 o ++ (tS [41], 1 + s.length) :: (tS (jsg r), 1 + s.length + 1) :: (tS [40], 1 + s.length + 1 + (jsg r).length) :: (moved (1 + s.length + 1 + (jsg r).length + 1) p ++ [(tS [41], 1 + s.length + 1 + (jsg r).length + 1 + t.length)])), 1 + s.length + 1 + (jsg r).length + 1 + t.length + 1, ?_, ?_⟩
  · refine readT_of (by simp [joinT]; omega) ?_
    unfold joinT
    rw [rd_open, Nat.zero_add, h1, h2, h3, h4, rdT_nil]
    simp
  · simp [moved_fst]
theorem nf_sign {p : Nat} {q : List UInt8} (E : List TK) (h1 : p ≤ 1 → q ≠ [60, 45, 62]) (h2 : p ≤ 2 → q ≠ [45, 62]) (h3 : p ≤ 3 → q ≠ [124]) (h4 : p ≤ 4 → q ≠ [38]) (h5 : q ≠ [85] ∧ q ≠ [82]) : NF p (tS q :: E) := by
  unfold NF
  simp only [sgn_tS, beq_eq_false_iff_ne, ne_eq]
  exact ⟨h1, h2, h3, h4, fun _ => h5⟩
theorem join_loop {us vs : List TK} {l : Nat} (hl : l = 1 ∨ l = 3 ∨ l = 4) (hu : ∀ t ∈ us, ¬ t.kind = 0) (hv : ∀ t ∈ vs, ¬ t.kind = 0) (h : Reads (.lev 1 (us ++ [tk0])) (.ok x ks [tk0])) (k : Reads (.lev 1 (vs ++ [tk0])) (.ok y js [tk0]))
    (hn : NF (l + 1) (tS (lsign l) :: (tS [40] :: (vs ++ tS [41] :: [tk0])))) : Reads (.lev 1 (tS [40] :: (us ++ tS [41] :: (tS (lsign l) :: (tS [40] :: (vs ++ tS [41] :: [tk0])))))) (.ok (nd1 (lop l) 0 0) (two x ks y js) [tk0]) := by
  have a := paren_at (E := tS (lsign l) :: (tS [40] :: (vs ++ tS [41] :: [tk0]))) hu h (p := l + 1) (by omega) (by omega) hn
  have b := paren_at (E := [tk0]) hv k (p := l + 1) (by omega) (by omega) (nf_end _)
  have c : Reads (.lp l (nd1 (lop l) 0 0) (two x ks y js) [tk0]) (.ok (nd1 (lop l) 0 0) (two x ks y js) [tk0]) := rd_stop rfl
  have d := rd_go (l := l) (r := tS (lsign l) :: (tS [40] :: (vs ++ tS [41] :: [tk0]))) (x := x) (ks := ks) (by rw [sgn_tS]; simp) b c
  have e := rd_up hl a d
  exact descend (p := 1) (by decide) (nf_end 1) (l - 1) (by omega) (by rw [show 1 + (l - 1) = l by omega]; exact e)
theorem join_reads (h : GoodT s x ks o) (k : GoodT t y js p) (r : Nat) (hr : r < 4) :
    Reads (.lev 1 (tS [40] :: (o.map (·.1) ++ tS [41] :: (tS (jsg r) :: (tS [40] :: (p.map (·.1) ++ tS [41] :: [tk0])))))) (.ok (nd1 (jop r) 0 0) (two x ks y js) [tk0]) := by
  match r, hr with
  | 0, _ => exact join_loop (l := 4) (by simp) h.kinds k.kinds h.reads k.reads (nf_sign _ (fun h => by omega) (fun h => by omega) (fun h => by omega) (fun h => by omega) (by decide))
  | 1, _ => exact join_loop (l := 3) (by simp) h.kinds k.kinds h.reads k.reads (nf_sign _ (fun h => by omega) (fun h => by omega) (fun h => by omega) (fun _ => by decide) (by decide))
  | 3, _ => exact join_loop (l := 1) (by simp) h.kinds k.kinds h.reads k.reads (nf_sign _ (fun h => by omega) (fun _ => by decide) (fun _ => by decide) (fun _ => by decide) (by decide))
  | 2, _ =>
    have a := paren_at (E := tS [45, 62] :: (tS [40] :: (p.map (·.1) ++ tS [41] :: [tk0]))) h.kinds h.reads (p := 3) (by omega) (by omega) (nf_sign _ (fun h => by omega) (fun h => by omega) (fun _ => by decide) (fun _ => by decide) (by decide))
    have b := paren_at (E := [tk0]) k.kinds k.reads (p := 2) (by omega) (by omega) (nf_end _)
    have e := rd2_go a (by rw [sgn_tS]; rfl) b
    exact descend (p := 1) (by decide) (nf_end 1) 1 (by omega) e
theorem join_parse (h : GoodT s x ks o) (k : GoodT t y js p) (hs : s.length ≤ 240) (ht : t.length ≤ 240) (r : Nat) (hr : r < 4) :
    (checkT (nd1 (jop r) 0 0) (two x ks y js) = 0 → ParseIs (joinT s t r) (.good (nd1 (jop r) 0 0) (two x ks y js))) ∧ (¬ checkT (nd1 (jop r) 0 0) (two x ks y js) = 0 → ParseIs (joinT s t r) (.bad (checkT (nd1 (jop r) 0 0) (two x ks y js)) 0)) := by
  obtain ⟨us, q, h1, h2⟩ := join_read h k hs ht r hr
  exact parse_good h1 (by rw [h2]; exact join_reads h k r hr)
end
end Go.Proofs.YtanhmigknafhkaaDoor
