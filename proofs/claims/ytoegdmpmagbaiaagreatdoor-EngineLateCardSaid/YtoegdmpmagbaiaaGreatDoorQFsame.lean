/- Whether two formulas are the same: in plain words; the reference's walk. -/
import Derived.Test.YtoegdmpmagbaiaaGreatDoorKB
import Derived.Deep.RegionHeld3
namespace Go.Proofs.YtoegdmpmagbaiaaGreatDoor
open Go.RowKit

def ndEq (x y : Nd) : Bool := x.op == y.op && x.name.toList == y.name.toList && x.cmp == y.cmp && x.val == y.val && x.lo == y.lo && x.hi == y.hi
def sameT : Tr → Tr → Bool
  | .nil, .nil => true
  | .cons x k r, .cons y j s => ndEq x y && k.len == j.len && sameT k j && sameT r s
  | _, _ => false
theorem toList_inj {a b : ByteArray} (h : a.toList = b.toList) : a = b := by
  rw [ByteArray.toList_eq, ByteArray.toList_eq] at h
  exact ByteArray.ext (Array.ext' h)
theorem ndEq_iff (x y : Nd) : ndEq x y = true ↔ x = y := by
  constructor
  · intro h
    simp only [ndEq, Bool.and_eq_true, beq_iff_eq] at h
    obtain ⟨⟨⟨⟨⟨h1, h2⟩, h3⟩, h4⟩, h5⟩, h6⟩ := h
    have h2 := toList_inj h2
    cases x; cases y; simp_all
  · rintro rfl; simp [ndEq]
theorem sameT_iff : ∀ t s : Tr, sameT t s = true ↔ t = s
  | .nil, .nil => by simp [sameT]
  | .nil, .cons _ _ _ => by simp [sameT]
  | .cons _ _ _, .nil => by simp [sameT]
  | .cons x k r, .cons y j s => by
    simp only [sameT, Bool.and_eq_true, beq_iff_eq, ndEq_iff, sameT_iff k j, sameT_iff r s, Tr.cons.injEq]
    constructor
    · rintro ⟨⟨⟨h1, _⟩, h3⟩, h4⟩; exact ⟨h1, h3, h4⟩
    · rintro ⟨h1, h3, h4⟩; exact ⟨⟨⟨h1, by rw [h3]⟩, h3⟩, h4⟩
/-- Two formulas. -/
def same1 (x : Nd) (k : Tr) (y : Nd) (j : Tr) : Bool := ndEq x y && k.len == j.len && sameT k j
theorem same1_iff (x : Nd) (k : Tr) (y : Nd) (j : Tr) : same1 x k y j = true ↔ x = y ∧ k = j := by
  simp only [same1, Bool.and_eq_true, beq_iff_eq, ndEq_iff, sameT_iff]
  constructor
  · rintro ⟨⟨h1, _⟩, h3⟩; exact ⟨h1, h3⟩
  · rintro ⟨h1, h3⟩; exact ⟨⟨h1, by rw [h3]⟩, h3⟩
set_option maxRecDepth 100000 in
set_option maxHeartbeats 8000000 in
theorem ref_Same : ∀ (m : Nat) (N : Nat) (w : World) (x y : Nd) (A B : Option Addr) (c d : Nat) (ks js : Fo), ks.tr.size ≤ m → ks.tr.size ≤ 100000 → FoSl N w A c ks → FoSl N w B d js →
    Calls Tryz.prog 152 #[fval x A ks.len c, fval y B js.len d] w fun e w' => e = .returned (.bool (same1 x ks.tr y js.tr)) ∧ Fr Nob w w' := by
  intro m
  induction m using Nat.strongRecOn with
  | _ m ih =>
    intro N w x y A B c d ks js hm hb hs hs2
    have IH := Lib.hid ih
    have HS := Lib.hid hs
    have HS2 := Lib.hid hs2
    have hlen := ks.len_size
    have hmx2 : js.len ≤ 9223372036854775807 := Nat.le_trans hs2.ok.le (by have := hs2.ok.max; unfold maxLen at this; exact this)
    clear ih hs hs2
    by_cases heq : x = y ∧ ks.len = js.len
    · obtain ⟨rfl, hl⟩ := heq
      have HL := Lib.hid hl
      have HR := Lib.hid (show same1 x ks.tr x js.tr = sameT ks.tr js.tr by simp [same1, (ndEq_iff x x).2 rfl, Fo.tr_len, hl])
      rw [← hl] at hmx2 ⊢
      unfold fval at *
      clear hl
      go_enter Tryz.func152, Tryz.ntmps152
      go_wp2_with fail
      go_loopw [5] (fun i wr => ∃ k : Nat, k ≤ ks.len ∧ i = .int .i64 k ∧ Hid (Fr Nob w wr) ∧ Hid (sameT (ks.get k).tr (js.get k).tr = sameT ks.tr js.tr) ∧ Hid (Blk wr w.heap.size 39 #[.int .i64 x.op, .string x.name, .int .i64 x.cmp, .int .i64 x.val, .int .i64 x.lo, .int .i64 x.hi, .slice A ks.len c]) ∧ Hid (Blk wr (w.heap.size + 1) 39 #[.int .i64 x.op, .string x.name, .int .i64 x.cmp, .int .i64 x.val, .int .i64 x.lo, .int .i64 x.hi, .slice B ks.len d])) (fun i _ => ks.len - (intOf i).toNat)
      case atStart => exact ⟨0, Nat.zero_le _, rfl, Lib.hid (((Fr.refl _ _).alloc _).alloc _), Lib.hid (by rw [Fo.get_zero, Fo.get_zero]), Lib.hid ((Blk.new _ _ _).alloc _), Lib.hid (Blk.new_eq (by simp))⟩
      case round =>
        obtain ⟨k, hk, rfl, hfr, hsm, hb1, hb2⟩ := hrel
        have e6 : wr.cell? ⟨w.heap.size, 6, none⟩ = some (.slice A ks.len c) := hb1.out.cell 6
        have r6 : wr.cell? ⟨w.heap.size + 1, 6, none⟩ = some (.slice B ks.len d) := hb2.out.cell 6
        have hbl := Blk.lt hb2.out
        by_cases hlt : k < ks.len
        · have hI : (k : Int) < ks.len := by omega
          have hI3 : 0 ≤ (k : Int) := by omega
          obtain ⟨b, off, y, B2, d2, ls, rs, K⟩ := (HS.out.fr hfr.out).kid hlt
          obtain ⟨b', off', y', B2', d2', ls', rs', K'⟩ := (HS2.out.fr hfr.out).kid (k := k) (by rw [← HL.out]; exact hlt)
          obtain ⟨d0, d1, d2c, d3, d4, d5, d6⟩ := K.nd
          obtain ⟨t0, t1, t2, t3, t4, t5, t6⟩ := K'.nd
          obtain rfl := K.slice
          obtain rfl := K'.slice
          have hlt2 := K.lt
          have hlt3 := K'.lt
          have hsz := K.size
          have hg := K.get
          have hg' := K'.get
          have hgs := Fo.get_succ hg
          have hgs' := Fo.get_succ hg'
          have HC := Lib.hid (fun W (h : Fr Nob wr W) => IH.out ls.tr.size (by omega) N W y y' B2 B2' d2 d2' ls ls' (Nat.le_refl _) (by omega) (K.sl.fr h) (K'.sl.fr h))
          have HE := Lib.hid (show (same1 y ls.tr y' ls'.tr && sameT (ks.get (k + 1)).tr (js.get (k + 1)).tr) = sameT ks.tr js.tr by
            rw [← hsm.out, hg, hg', hgs, hgs']; simp only [Fo.tr, sameT, same1])
          clear hg hg' hgs hgs' K K' hsm
          generalize same1 y ls.tr y' ls'.tr = u at *
          cases u
          all_goals
            go_wp2_with fail
            go_region_held3 (fun w' => w'.cell? ⟨w.heap.size, 6, none⟩ = some (.slice (some ⟨b, off, none⟩) ks.len c) ∧ w'.cell? ⟨w.heap.size + 1, 6, none⟩ = some (.slice (some ⟨b', off', none⟩) ks.len d) ∧ w'.cell? ⟨b, off + k * 7, none⟩ = some (.int .i64 y.op) ∧ w'.cell? ⟨b, off + k * 7 + 1, none⟩ = some (.string y.name) ∧ w'.cell? ⟨b, off + k * 7 + 2, none⟩ = some (.int .i64 y.cmp) ∧ w'.cell? ⟨b, off + k * 7 + 3, none⟩ = some (.int .i64 y.val) ∧ w'.cell? ⟨b, off + k * 7 + 4, none⟩ = some (.int .i64 y.lo) ∧ w'.cell? ⟨b, off + k * 7 + 5, none⟩ = some (.int .i64 y.hi) ∧ w'.cell? ⟨b, off + k * 7 + 6, none⟩ = some (.slice B2 ls.len d2) ∧
                w'.cell? ⟨b', off' + k * 7, none⟩ = some (.int .i64 y'.op) ∧ w'.cell? ⟨b', off' + k * 7 + 1, none⟩ = some (.string y'.name) ∧ w'.cell? ⟨b', off' + k * 7 + 2, none⟩ = some (.int .i64 y'.cmp) ∧ w'.cell? ⟨b', off' + k * 7 + 3, none⟩ = some (.int .i64 y'.val) ∧ w'.cell? ⟨b', off' + k * 7 + 4, none⟩ = some (.int .i64 y'.lo) ∧ w'.cell? ⟨b', off' + k * 7 + 5, none⟩ = some (.int .i64 y'.hi) ∧ w'.cell? ⟨b', off' + k * 7 + 6, none⟩ = some (.slice B2' ls'.len d2'))
              (first | go_keep | (go_split_ands; refine ⟨?_, ?_, ?_, ?_, ?_, ?_, ?_, ?_, ?_, ?_, ?_, ?_, ?_, ?_, ?_, ?_⟩ <;> exact Fr.cell hf1 (by assumption) (fun e => e)))
              (first | ((go_at_call 152); refine (HC.out _ (Fr.refl _ _).drew).mono ?_; rintro e w1 ⟨rfl, hf1⟩))
            go_wp2_with fail
          · have HR2 := Lib.hid (show sameT ks.tr js.tr = false by rw [← HE.out]; rfl)
            go_ret
            rw [HR.out, HR2.out]
            exact ⟨rfl, hfr.out.drew.call hf1 (fun _ h _ => h)⟩
          · have HE2 := Lib.hid (show sameT (ks.get (k + 1)).tr (js.get (k + 1)).tr = sameT ks.tr js.tr by rw [← HE.out]; simp)
            go_roundw
            case rel => exact ⟨k + 1, by omega, by go_num, Lib.hid (hfr.out.drew.call hf1 (fun _ h _ => h)), HE2, Lib.hid (hb1.out.drew.fr hf1 (fun e => e)), Lib.hid (hb2.out.drew.fr hf1 (fun e => e))⟩
            case measure => simp [intOf]; omega
        · have HR2 := Lib.hid (show sameT ks.tr js.tr = true by
            rw [← hsm.out, Fo.get_end (by omega), Fo.get_end (by have := HL.out; omega)]; rfl)
          go_wp2_with fail
          go_ret
          rw [HR.out, HR2.out]
          exact ⟨rfl, hfr.out⟩
    · have HR := Lib.hid (show same1 x ks.tr y js.tr = false by
        rw [← Bool.not_eq_true, same1_iff]
        rintro ⟨h1, h2⟩
        exact heq ⟨h1, by rw [← Fo.tr_len, ← Fo.tr_len, h2]⟩)
      have HE := Lib.hid heq
      clear heq
      unfold fval at *
      go_enter Tryz.func152, Tryz.ntmps152
      go_wp2_with fail
      all_goals first
        | (go_ret; rw [HR.out]; exact ⟨rfl, ((Fr.refl _ _).alloc _).alloc _⟩)
        | (exfalso
           refine HE.out ⟨?_, by (clear HE HR HS HS2 IH hmx2 hlen hm hb; simp at *; omega)⟩
           rw [← ndEq_iff]
           clear HE HR HS HS2 IH
           simp only [ndEq, Bool.and_eq_true, beq_iff_eq]
           simp_all)
end Go.Proofs.YtoegdmpmagbaiaaGreatDoor
