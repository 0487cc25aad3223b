/- parse's reader: what a side hands back; imp. -/
import Derived.Test.YtfebkjoohnlifaaDoorQ2
import Derived.Deep.DeepCutAuto
namespace Go.Proofs.YtfebkjoohnlifaaDoor
open Go.RowKit Go.Shelf

/-- A formula that was read, at world w' behind a call from w. -/
structure Got (w w' : World) (R : Nat) (A : Option Addr) (c : Nat) (toks : List (TK × Nat)) (k : Nat) (B : Option Addr) (d : Nat) (f : Fo) (ks : Tr) : Prop where
  tr : f.tr = ks
  sl : FoSlP (fun b => w.heap.size ≤ b) w' B d f
  rd : Rdr w' R A c toks k 0 0
  fr : Fr (Only R) w w'
/-- What was wrong. -/
structure Bad (w w' : World) (R : Nat) (A : Option Addr) (c : Nat) (toks : List (TK × Nat)) (er : Int) (r : List TK) : Prop where
  rd : ∃ k' kk, ∃ _ : k' < toks.length, r = remT toks k' ∧ Rdr w' R A c toks kk er toks[k'].2
  fr : Fr (Only R) w w'
def SideR (w : World) (R : Nat) (A : Option Addr) (c : Nat) (toks : List (TK × Nat)) (q : PR) (en : Ending) (w' : World) : Prop := match q with
  | .ok x ks r => ∃ B d f, en = .returned (.tuple #[fval x B (Fo.len f) d, .bool true]) ∧ ∃ k', k' < toks.length ∧ r = remT toks k' ∧ Got w w' R A c toks k' B d f ks
  | .bad er r => ∃ x B m d, en = .returned (.tuple #[fval x B m d, .bool false]) ∧ Bad w w' R A c toks er r
  | .out => False
/-- The function fn reads the level l as S says. -/
def SideOk (fn : FuncId) (l : Nat) (R : Nat) (A : Option Addr) (c : Nat) (toks : List (TK × Nat)) (S : Job → PR) : Prop :=
  ∀ W k, Rdr W R A c toks k 0 0 → k < toks.length → ¬ S (.lev l (remT toks k)) = .out → Calls Tryd.prog fn #[.pointer (some ⟨R, 0, none⟩)] W (SideR W R A c toks (S (.lev l (remT toks k))))
section
variable {fn : FuncId} {l R : Nat} {A : Option Addr} {c : Nat} {toks : List (TK × Nat)} {S : Job → PR} {k k' : Nat} {x : Nd} {ks : Tr} {r : List TK} {er : Int}
theorem remT_inj (h : k < toks.length) (h' : k' < toks.length) (e : remT toks k = remT toks k') : k = k' := by
  have := congrArg List.length e
  rw [remT_len, remT_len] at this; omega
theorem side_ok (h : SideOk fn l R A c toks S) (hk : k < toks.length) (hs : S (.lev l (remT toks k)) = .ok x ks (remT toks k')) (hk' : k' < toks.length) (W : World) (hr : Rdr W R A c toks k 0 0) :
    Calls Tryd.prog fn #[.pointer (some ⟨R, 0, none⟩)] W fun en w' => ∃ B d f, en = .returned (.tuple #[fval x B (Fo.len f) d, .bool true]) ∧ Got W w' R A c toks k' B d f ks := by
  have h1 := h W k hr hk (by rw [hs]; simp)
  rw [hs] at h1
  refine h1.mono fun en w' ⟨B, d, f, he, k2, h2, h3, h4⟩ => ?_
  obtain rfl := remT_inj hk' h2 h3
  exact ⟨B, d, f, he, h4⟩
theorem side_bad (h : SideOk fn l R A c toks S) (hk : k < toks.length) (hs : S (.lev l (remT toks k)) = .bad er r) (W : World) (hr : Rdr W R A c toks k 0 0) :
    Calls Tryd.prog fn #[.pointer (some ⟨R, 0, none⟩)] W fun en w' => ∃ x B m d, en = .returned (.tuple #[fval x B m d, .bool false]) ∧ Bad W w' R A c toks er r := by
  have h1 := h W k hr hk (by rw [hs]; simp)
  rw [hs] at h1
  exact h1
theorem lev_pos (ht : Toks toks) (hk : k < toks.length) {n : Nat} (hs : gP n (.lev l (remT toks k)) = .ok x ks r) : ∃ k', k' < toks.length ∧ r = remT toks k' := by
  have h := gP_left n (.lev l (remT toks k)) (remT_ok ht k)
  rw [hs] at h
  obtain ⟨j, _, h2, h3⟩ := sfx_pos ht h.1 k hk rfl
  exact ⟨j, h2, h3⟩
end
section
variable {W wb w2 W7 : World} {R : Nat} {A : Option Addr} {c : Nat} {toks : List (TK × Nat)} {k k0 : Nat} {e p e0 p0 : Int} {B : Option Addr} {d : Nat} {f : Fo}
theorem done7 (h0 : Rdr W R A c toks k0 e0 p0) (hf : Fr (Only R) W wb) (h7 : Fr (Only W.heap.size) wb W7) (hr : Rdr wb R A c toks k e p) : Rdr W7 R A c toks k e p ∧ Fr (Only R) W W7 := by
  have hR := h0.blk.lt
  have hf7 : Fr (Only R) W W7 := hf.call h7 (fun i h hlt => by unfold Only at h; omega)
  exact ⟨h0.only hf7 (hr.blk.fr h7 (by unfold Only; omega)), hf7⟩
theorem done7_sl (h : FoSlP (fun b => W.heap.size + 1 ≤ b) wb B d f) (h7 : Fr (Only W.heap.size) wb W7) : FoSlP (fun b => W.heap.size ≤ b) W7 B d f :=
  (h.keep (fun k hk hlt => h7.block k hlt (by unfold Only; omega))).mono (fun k hk => by omega)
theorem sl_only (hR : R < W.heap.size) (h : FoSlP (fun b => W.heap.size + 1 ≤ b) wb B d f) (hf : Fr (Only R) wb w2) : FoSlP (fun b => W.heap.size + 1 ≤ b) w2 B d f :=
  h.keep (fun k hk hlt => hf.block k hlt (by unfold Only; omega))
theorem sl_nob (h : FoSlP (fun b => W.heap.size + 1 ≤ b) wb B d f) (hf : Fr Nob wb w2) : FoSlP (fun b => W.heap.size + 1 ≤ b) w2 B d f :=
  h.keep (fun k _ hlt => hf.block k hlt (fun e => e))
theorem sl_up {N : Nat} (hN : W.heap.size + 1 ≤ N) (h : FoSlP (fun b => N ≤ b) wb B d f) : FoSlP (fun b => W.heap.size + 1 ≤ b) wb B d f := h.mono (fun k hk => by omega)
theorem bad_done7 {w1 : World} {er : Int} {r : List TK} (h0 : Rdr W R A c toks k0 e0 p0) (hf : Fr (Only R) W wb) (h7 : Fr (Only W.heap.size) wb W7) (hb : Bad w1 wb R A c toks er r) : Bad W W7 R A c toks er r := by
  obtain ⟨k', kk, hk, h1, h2⟩ := hb.rd
  have h3 := done7 h0 hf h7 h2
  exact ⟨⟨k', kk, hk, h1, h3.1⟩, h3.2⟩
theorem Bad.nob {w1 : World} {er : Int} {r : List TK} (hb : Bad w1 wb R A c toks er r) (hf : Fr Nob wb w2) : Bad w1 w2 R A c toks er r := by
  obtain ⟨k', kk, hk, h1, h2⟩ := hb.rd
  exact ⟨⟨k', kk, hk, h1, h2.fr hf⟩, hb.fr.call hf (fun _ h _ => h.elim)⟩
end
/-- The node's cells. -/
def fbox (x : Nd) (B : Option Addr) (n d : Nat) : Obj := .cells #[.int .i64 x.op, .string x.name, .int .i64 x.cmp, .int .i64 x.val, .int .i64 x.lo, .int .i64 x.hi, .slice B n d] 28
set_option maxRecDepth 100000 in
set_option maxHeartbeats 4000000 in
theorem side_imp (R : Nat) (A : Option Addr) (c : Nat) (toks : List (TK × Nat)) (ht : Toks toks) (n : Nat) (hor : SideOk 134 3 R A c toks (gP n)) (himp : SideOk 77 2 R A c toks (gP n)) :
    SideOk 77 2 R A c toks (gP (n + 1)) := by
  intro W k h hk hne
  have hR := h.blk.lt
  have hOR : ¬ Only R W.heap.size := only_ne hR
  have H0 := Lib.hid (fun X (hf : Fr Nob W X) => h.fr hf)
  have HRD := Lib.hid h
  rw [show gP (n + 1) (.lev 2 (remT toks k)) = (gP n (.lev 3 (remT toks k))).bind fun x ks r => if sgn r [45, 62] then (gP n (.lev 2 r.tail)).bind fun y js r2 => .ok (nd1 7 0 0) (two x ks y js) r2 else .ok x ks r from rfl] at hne ⊢
  cases hq : gP n (.lev 3 (remT toks k)) with
  | out => rw [hq] at hne; exact absurd rfl hne
  | bad er r =>
    have HOR := Lib.hid (side_bad hor hk hq)
    rw [show ∀ g, (PR.bad er r).bind g = .bad er r from fun _ => rfl]
    unfold fval at HOR
    clear h hne hq hor himp
    unfold SideR fval
    go_enter Tryd.func77, Tryd.ntmps77
    go_upto_region 3 with ((go_at_call 134); refine (HOR.out _ (H0.out _ ((Fr.refl _ _).alloc _))).mono ?_; rintro en w1 ⟨x, B, m, d, rfl, hg⟩; have HG := Lib.hid hg; have HZ := Lib.hid ((Blk.new W _ _).fr hg.fr hOR); have HFR := Lib.hid (((Fr.refl (Only R) W).alloc _).call hg.fr (fun _ h _ => h)); have zc := HZ.out.cell; have zf := HZ.out.frozen; have hz1 := HZ.out.lt; clear hg)
    obtain ⟨wa, hwa⟩ : ∃ wa, w1.alloc (fbox x B m d) = wa := ⟨_, rfl⟩
    have hfa : Fr Nob w1 wa := by rw [← hwa]; exact (Fr.refl _ _).alloc _
    have hXA : Blk wa w1.heap.size 28 #[.int .i64 x.op, .string x.name, .int .i64 x.cmp, .int .i64 x.val, .int .i64 x.lo, .int .i64 x.hi, .slice B m d] := by rw [← hwa]; exact Blk.new _ _ _
    unfold fbox at hwa
    rw [hwa]
    replace HZ := Lib.hid (HZ.out.fr hfa (fun e => e))
    replace HFR := Lib.hid (HFR.out.call hfa (fun _ h _ => h.elim))
    replace HG := Lib.hid (HG.out.nob hfa)
    have xc := hXA.cell
    have xl := hXA.lt
    replace zc := HZ.out.cell
    replace zf := HZ.out.frozen
    clear hwa hfa hXA
    have HB7 := Lib.hid (set7_blk HZ.out (.int .i64 x.op) (.string x.name) (.int .i64 x.cmp) (.int .i64 x.val) (.int .i64 x.lo) (.int .i64 x.hi) (.slice B m d))
    have HF7 := Lib.hid (set7_fr wa W.heap.size (.int .i64 x.op) (.string x.name) (.int .i64 x.cmp) (.int .i64 x.val) (.int .i64 x.lo) (.int .i64 x.hi) (.slice B m d))
    go_wp2_with fail
    change bodyPost _ _ _ _ _ (set7 wa W.heap.size (.int .i64 x.op) (.string x.name) (.int .i64 x.cmp) (.int .i64 x.val) (.int .i64 x.lo) (.int .i64 x.hi) (.slice B m d))
    generalize set7 wa W.heap.size (.int .i64 x.op) (.string x.name) (.int .i64 x.cmp) (.int .i64 x.val) (.int .i64 x.lo) (.int .i64 x.hi) (.slice B m d) = W7 at *
    have HS := HB7.out.cell
    refine bodyPost_ret (v := .tuple #[.agg #[.int .i64 x.op, .string x.name, .int .i64 x.cmp, .int .i64 x.val, .int .i64 x.lo, .int .i64 x.hi, .slice B m d], .bool false]) (by simp [results, Tryd.results77, go_sem, HS]) rfl ?_
    exact ⟨x, B, m, d, rfl, bad_done7 HRD.out HFR.out HF7.out HG.out⟩
  | ok x ks r =>
    obtain ⟨k1, hk1, rfl⟩ := lev_pos ht hk hq
    have HOR := Lib.hid (side_ok hor hk hq hk1)
    rw [hq] at hne
    rw [show ∀ g, (PR.ok x ks (remT toks k1)).bind g = g x ks (remT toks k1) from fun _ => rfl] at hne ⊢
    simp only [sgn_rem hk1, remT_tail] at hne ⊢
    unfold fval at HOR
    cases hs : tsg toks[k1] [45, 62]
    · have HT := Lib.hid (fun X (h : Rdr X R A c toks k1 0 0) => take_no h ht hk1 hs)
      rw [if_neg (by simp)]
      clear h hne hq hor himp hs
      unfold SideR fval
      go_enter Tryd.func77, Tryd.ntmps77
      go_upto_region 3 with (first | ((go_at_call 134); refine (HOR.out _ (H0.out _ ((Fr.refl _ _).alloc _))).mono ?_; rintro en w1 ⟨B, d, f, rfl, hg⟩; have HG := Lib.hid hg; have HZ := Lib.hid ((Blk.new W _ _).fr hg.fr hOR); have HFR := Lib.hid (((Fr.refl (Only R) W).alloc _).call hg.fr (fun _ h _ => h)); have zc := HZ.out.cell; have zf := HZ.out.frozen; have hz1 := HZ.out.lt; clear hg) | ((go_at_call 132); (with_reducible refine (HT.out _ ?_).mono ?_); exact HG.out.rd.fr ((Fr.refl _ _).alloc _); rintro en w2 ⟨rfl, hr2, hf2⟩; have HX := Lib.hid ((Blk.new w1 _ _).fr hf2 (only_ne (Nat.lt_trans hR hz1))); replace HZ := Lib.hid ((HZ.out.alloc _).fr hf2 hOR); replace HFR := Lib.hid ((HFR.out.alloc _).call hf2 (fun _ h _ => h)); have HSL := Lib.hid (sl_only hR (sl_nob (sl_up (by simp) HG.out.sl) ((Fr.refl _ _).alloc _)) hf2); have HR2 := Lib.hid hr2; have HTR := Lib.hid HG.out.tr; have hzx := HZ.out.lt; replace zc := HZ.out.cell; replace zf := HZ.out.frozen; have xc := HX.out.cell; have xl := HX.out.lt; clear hr2 hf2 HG))
      have HB7 := Lib.hid (set7_blk HZ.out (.int .i64 x.op) (.string x.name) (.int .i64 x.cmp) (.int .i64 x.val) (.int .i64 x.lo) (.int .i64 x.hi) (.slice B f.len d))
      have HF7 := Lib.hid (set7_fr w2 W.heap.size (.int .i64 x.op) (.string x.name) (.int .i64 x.cmp) (.int .i64 x.val) (.int .i64 x.lo) (.int .i64 x.hi) (.slice B f.len d))
      go_wp2_with fail
      change bodyPost _ _ _ _ _ (set7 w2 W.heap.size (.int .i64 x.op) (.string x.name) (.int .i64 x.cmp) (.int .i64 x.val) (.int .i64 x.lo) (.int .i64 x.hi) (.slice B f.len d))
      generalize set7 w2 W.heap.size (.int .i64 x.op) (.string x.name) (.int .i64 x.cmp) (.int .i64 x.val) (.int .i64 x.lo) (.int .i64 x.hi) (.slice B f.len d) = W7 at *
      have HS := HB7.out.cell
      refine bodyPost_ret (v := .tuple #[.agg #[.int .i64 x.op, .string x.name, .int .i64 x.cmp, .int .i64 x.val, .int .i64 x.lo, .int .i64 x.hi, .slice B f.len d], .bool true]) (by simp [results, Tryd.results77, go_sem, HS]) rfl ?_
      have hd := done7 HRD.out HFR.out HF7.out HR2.out
      exact ⟨B, d, f, rfl, k1, hk1, rfl, HTR.out, done7_sl HSL.out HF7.out, hd.1, hd.2⟩
    · have HT := Lib.hid (fun X (h : Rdr X R A c toks k1 0 0) => take_yes h ht hk1 hs)
      have hk2 := tsg_next ht hk1 hs
      rw [hs, if_pos rfl] at hne
      rw [if_pos rfl]
      have HP := Lib.hid (fun X x B n d y C m e => rd_pair X 7 0 0 x B n d y C m e)
      unfold fval nd1 at HP
      cases hq2 : gP n (.lev 2 (remT toks (k1 + 1))) with
      | out => rw [hq2] at hne; exact absurd rfl hne
      | bad er r =>
        have HIM := Lib.hid (side_bad himp hk2 hq2)
        rw [show ∀ g, (PR.bad er r).bind g = .bad er r from fun _ => rfl]
        unfold fval at HIM
        clear h hne hq hor himp hs hq2
        unfold SideR fval
        go_enter Tryd.func77, Tryd.ntmps77
        go_wp2_with (first | ((go_at_call 134); refine (HOR.out _ (H0.out _ ((Fr.refl _ _).alloc _))).mono ?_; rintro en w1 ⟨B, d, f, rfl, hg⟩; have HG := Lib.hid hg; have HZ := Lib.hid ((Blk.new W _ _).fr hg.fr hOR); have HFR := Lib.hid (((Fr.refl (Only R) W).alloc _).call hg.fr (fun _ h _ => h)); have zc := HZ.out.cell; have zf := HZ.out.frozen; have hz1 := HZ.out.lt; clear hg) | ((go_at_call 132); (with_reducible refine (HT.out _ ?_).mono ?_); exact HG.out.rd.fr ((Fr.refl _ _).alloc _); rintro en w2 ⟨rfl, hr2, hf2⟩; have HX := Lib.hid ((Blk.new w1 _ _).fr hf2 (only_ne (Nat.lt_trans hR hz1))); replace HZ := Lib.hid ((HZ.out.alloc _).fr hf2 hOR); replace HFR := Lib.hid ((HFR.out.alloc _).call hf2 (fun _ h _ => h)); have HSL := Lib.hid (sl_only hR (sl_nob (sl_up (by simp) HG.out.sl) ((Fr.refl _ _).alloc _)) hf2); have HR2 := Lib.hid hr2; have HTR := Lib.hid HG.out.tr; have hzx := HZ.out.lt; replace zc := HZ.out.cell; replace zf := HZ.out.frozen; have xc := HX.out.cell; have xl := HX.out.lt; clear hr2 hf2 HG) | ((go_at_call 77); refine (HIM.out _ HR2.out).mono ?_; rintro en w3 ⟨y, C, m, e, rfl, hg2⟩; have HG2 := Lib.hid hg2; replace HX := Lib.hid (HX.out.fr hg2.fr (only_ne (Nat.lt_trans hR hz1))); replace HZ := Lib.hid (HZ.out.fr hg2.fr hOR); replace HFR := Lib.hid (HFR.out.call hg2.fr (fun _ h _ => h)); replace HSL := Lib.hid (sl_only hR HSL.out hg2.fr); replace zc := HZ.out.cell; replace zf := HZ.out.frozen; replace xc := HX.out.cell; replace xl := HX.out.lt; have hz3 := HZ.out.lt; clear hg2) | ((go_at_call 133); (with_reducible refine (HP.out _ _ _ _ _ _ _ _ _).mono ?_); rintro en w4 ⟨g, rfl, hgw, hgb, hf4⟩; replace HZ := Lib.hid ((HZ.out.alloc _).fr hf4 (fun e => e)); replace HFR := Lib.hid ((HFR.out.alloc _).call hf4 (fun _ h _ => h.elim)); replace HG2 := Lib.hid ((HG2.out.nob ((Fr.refl _ _).alloc _)).nob hf4); replace zc := HZ.out.cell; replace zf := HZ.out.frozen; clear hgb hf4))
        have HB7 := Lib.hid (set7_blk HZ.out (.int .i64 7) (.string ⟨#[]⟩) (.int .i64 0) (.int .i64 0) (.int .i64 0) (.int .i64 0) (.slice (some ⟨g, 0, none⟩) 2 2))
        have HF7 := Lib.hid (set7_fr w4 W.heap.size (.int .i64 7) (.string ⟨#[]⟩) (.int .i64 0) (.int .i64 0) (.int .i64 0) (.int .i64 0) (.slice (some ⟨g, 0, none⟩) 2 2))
        change bodyPost _ _ _ _ _ (set7 w4 W.heap.size (.int .i64 7) (.string ⟨#[]⟩) (.int .i64 0) (.int .i64 0) (.int .i64 0) (.int .i64 0) (.slice (some ⟨g, 0, none⟩) 2 2))
        generalize set7 w4 W.heap.size (.int .i64 7) (.string ⟨#[]⟩) (.int .i64 0) (.int .i64 0) (.int .i64 0) (.int .i64 0) (.slice (some ⟨g, 0, none⟩) 2 2) = W7 at *
        have HS := HB7.out.cell
        refine bodyPost_ret (v := .tuple #[.agg #[.int .i64 7, .string ⟨#[]⟩, .int .i64 0, .int .i64 0, .int .i64 0, .int .i64 0, .slice (some ⟨g, 0, none⟩) 2 2], .bool false]) (by simp [results, Tryd.results77, go_sem, HS]) rfl ?_
        exact ⟨nd1 7 0 0, some ⟨g, 0, none⟩, 2, 2, rfl, bad_done7 HRD.out HFR.out HF7.out HG2.out⟩
      | ok y js r =>
        obtain ⟨k3, hk3, rfl⟩ := lev_pos ht hk2 hq2
        have HIM := Lib.hid (side_ok himp hk2 hq2 hk3)
        rw [show ∀ g, (PR.ok y js (remT toks k3)).bind g = g y js (remT toks k3) from fun _ => rfl]
        unfold fval at HIM
        clear h hne hq hor himp hs hq2
        unfold SideR fval
        go_enter Tryd.func77, Tryd.ntmps77
        go_wp2_with (first | ((go_at_call 134); refine (HOR.out _ (H0.out _ ((Fr.refl _ _).alloc _))).mono ?_; rintro en w1 ⟨B, d, f, rfl, hg⟩; have HG := Lib.hid hg; have HZ := Lib.hid ((Blk.new W _ _).fr hg.fr hOR); have HFR := Lib.hid (((Fr.refl (Only R) W).alloc _).call hg.fr (fun _ h _ => h)); have zc := HZ.out.cell; have zf := HZ.out.frozen; have hz1 := HZ.out.lt; clear hg) | ((go_at_call 132); (with_reducible refine (HT.out _ ?_).mono ?_); exact HG.out.rd.fr ((Fr.refl _ _).alloc _); rintro en w2 ⟨rfl, hr2, hf2⟩; have HX := Lib.hid ((Blk.new w1 _ _).fr hf2 (only_ne (Nat.lt_trans hR hz1))); replace HZ := Lib.hid ((HZ.out.alloc _).fr hf2 hOR); replace HFR := Lib.hid ((HFR.out.alloc _).call hf2 (fun _ h _ => h)); have HSL := Lib.hid (sl_only hR (sl_nob (sl_up (by simp) HG.out.sl) ((Fr.refl _ _).alloc _)) hf2); have HR2 := Lib.hid hr2; have HTR := Lib.hid HG.out.tr; have hzx := HZ.out.lt; replace zc := HZ.out.cell; replace zf := HZ.out.frozen; have xc := HX.out.cell; have xl := HX.out.lt; clear hr2 hf2 HG) | ((go_at_call 77); refine (HIM.out _ HR2.out).mono ?_; rintro en w3 ⟨C, e, f2, rfl, hg2⟩; have HG2 := Lib.hid hg2; replace HX := Lib.hid (HX.out.fr hg2.fr (only_ne (Nat.lt_trans hR hz1))); replace HZ := Lib.hid (HZ.out.fr hg2.fr hOR); replace HFR := Lib.hid (HFR.out.call hg2.fr (fun _ h _ => h)); replace HSL := Lib.hid (sl_only hR HSL.out hg2.fr); replace zc := HZ.out.cell; replace zf := HZ.out.frozen; replace xc := HX.out.cell; replace xl := HX.out.lt; have hz3 := HZ.out.lt; clear hg2) | ((go_at_call 133); (with_reducible refine (HP.out _ _ _ _ _ _ _ _ _).mono ?_); rintro en w4 ⟨g, rfl, hgw, hgb, hf4⟩; replace HZ := Lib.hid ((HZ.out.alloc _).fr hf4 (fun e => e)); replace HFR := Lib.hid ((HFR.out.alloc _).call hf4 (fun _ h _ => h.elim)); have HR4 := Lib.hid ((HG2.out.rd.fr ((Fr.refl _ _).alloc _)).fr hf4); have HSL2 := Lib.hid (sl_nob (sl_nob (sl_up hzx HG2.out.sl) ((Fr.refl _ _).alloc _)) hf4); replace HSL := Lib.hid (sl_nob (sl_nob HSL.out ((Fr.refl _ _).alloc _)) hf4); have HTR2 := Lib.hid HG2.out.tr; have HGB := Lib.hid hgb; have HGW := Lib.hid (show W.heap.size + 1 ≤ g from (by simp at hgw; omega)); replace zc := HZ.out.cell; replace zf := HZ.out.frozen; clear hgw hgb hf4 HG2))
        have HB7 := Lib.hid (set7_blk HZ.out (.int .i64 7) (.string ⟨#[]⟩) (.int .i64 0) (.int .i64 0) (.int .i64 0) (.int .i64 0) (.slice (some ⟨g, 0, none⟩) 2 2))
        have HF7 := Lib.hid (set7_fr w4 W.heap.size (.int .i64 7) (.string ⟨#[]⟩) (.int .i64 0) (.int .i64 0) (.int .i64 0) (.int .i64 0) (.slice (some ⟨g, 0, none⟩) 2 2))
        change bodyPost _ _ _ _ _ (set7 w4 W.heap.size (.int .i64 7) (.string ⟨#[]⟩) (.int .i64 0) (.int .i64 0) (.int .i64 0) (.int .i64 0) (.slice (some ⟨g, 0, none⟩) 2 2))
        generalize set7 w4 W.heap.size (.int .i64 7) (.string ⟨#[]⟩) (.int .i64 0) (.int .i64 0) (.int .i64 0) (.int .i64 0) (.slice (some ⟨g, 0, none⟩) 2 2) = W7 at *
        have HS := HB7.out.cell
        refine bodyPost_ret (v := .tuple #[.agg #[.int .i64 7, .string ⟨#[]⟩, .int .i64 0, .int .i64 0, .int .i64 0, .int .i64 0, .slice (some ⟨g, 0, none⟩) 2 2], .bool true]) (by simp [results, Tryd.results77, go_sem, HS]) rfl ?_
        have hd := done7 HRD.out HFR.out HF7.out HR4.out
        exact ⟨some ⟨g, 0, none⟩, 2, .cons x B d f (.cons y C e f2 .nil), rfl, k3, hk3, rfl, by simp [Fo.tr, two, HTR.out, HTR2.out], done7_sl (kids_two HGB.out HSL.out HSL2.out HGW.out) HF7.out, hd.1, hd.2⟩
section
variable {R : Nat} {A : Option Addr} {c : Nat} {toks : List (TK × Nat)} {k k' : Nat}
theorem span_at (ht : Toks toks) (hk : k < toks.length) {lo hi : Int} {r : List TK} (hs : spanP (remT toks k) = .ok lo hi r) : ∃ k', k' < toks.length ∧ r = remT toks k' := by
  have h := span_left (remT toks k) (remT_ok ht k)
  rw [hs] at h
  obtain ⟨j, _, h2, h3⟩ := sfx_pos ht h.1 k hk rfl
  exact ⟨j, h2, h3⟩
theorem span_ok (ht : Toks toks) (hk : k < toks.length) {lo hi : Int} (hs : spanP (remT toks k) = .ok lo hi (remT toks k')) (hk' : k' < toks.length) (W : World) (hr : Rdr W R A c toks k 0 0) :
    Calls Tryd.prog 217 #[.pointer (some ⟨R, 0, none⟩)] W fun en w' => en = .returned (.tuple #[.agg #[.int .i64 lo, .int .i64 hi], .bool true]) ∧ Rdr w' R A c toks k' 0 0 ∧ Fr (Only R) W w' := by
  have h1 := rd_span W R A c toks k hr ht hk
  rw [hs] at h1
  refine h1.mono fun en w' ⟨h2, h3, k2, h4, h5, h6⟩ => ?_
  obtain rfl := remT_inj hk' h4 h5
  exact ⟨h3, h6, h2⟩
theorem span_bad (ht : Toks toks) (hk : k < toks.length) {er : Int} {r : List TK} (hs : spanP (remT toks k) = .bad er r) (W : World) (hr : Rdr W R A c toks k 0 0) :
    Calls Tryd.prog 217 #[.pointer (some ⟨R, 0, none⟩)] W fun en w' => ∃ lo hi, en = .returned (.tuple #[.agg #[.int .i64 lo, .int .i64 hi], .bool false]) ∧ Bad W w' R A c toks er r := by
  have h1 := rd_span W R A c toks k hr ht hk
  rw [hs] at h1
  exact h1.mono fun en w' ⟨h2, lo, hi, h3, h4⟩ => ⟨lo, hi, h3, h4, h2⟩
end
end Go.Proofs.YtfebkjoohnlifaaDoor
