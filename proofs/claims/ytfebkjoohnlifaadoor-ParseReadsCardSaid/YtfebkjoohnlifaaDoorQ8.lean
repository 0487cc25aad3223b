/- parse's reader: sides with a sign between. -/
import Derived.Test.YtfebkjoohnlifaaDoorQ5
import Derived.Deep.DeepCutAuto
namespace Go.Proofs.YtfebkjoohnlifaaDoor
open Go.RowKit Go.Shelf

/-- With more fuel. -/
theorem SideOk.more {fn : FuncId} {l R : Nat} {A : Option Addr} {c : Nat} {toks : List (TK × Nat)} {n m : Nat} (h : SideOk fn l R A c toks (gP n)) (hm : m ≤ n) : SideOk fn l R A c toks (gP m) := by
  intro W k hr hk hne
  have h1 := gP_le hm _ hne
  rw [← h1]
  exact h W k hr hk (by rw [h1]; exact hne)
theorem Fo.AtP.lt {p : Nat → Prop} {w : World} : ∀ {f : Fo} {b off : Nat}, f.AtP p w b off → f.AtP (fun k => p k ∧ k < w.heap.size) w b off
  | .nil, _, _, _ => trivial
  | .cons _ _ _ _ _, _, _, ⟨h1, h2, h3, h4, h5, h6, h7⟩ => ⟨⟨h1, h2⟩, h2, h3, h4, h5, fun bb oo e => (h6 bb oo e).lt, h7.lt⟩
theorem FoSlP.lt {p : Nat → Prop} {w : World} {A : Option Addr} {c : Nat} {f : Fo} (h : FoSlP p w A c f) : FoSlP (fun k => p k ∧ k < w.heap.size) w A c f := ⟨h.ok, h.some_, fun bb oo e => (h.at_ bb oo e).lt⟩
theorem sl_fr {p S : Nat → Prop} {w w2 : World} {B : Option Addr} {d : Nat} {f : Fo} (h : FoSlP p w B d f) (hf : Fr S w w2) (hS : ∀ k, p k → ¬ S k) : FoSlP p w2 B d f := h.keep fun k hk hlt => hf.block k hlt (hS k hk)
/-- A kid's block: none of the reader's, nor of the result's boxes. -/
def PF (n F : Nat) (b : Nat) : Prop := n + 1 ≤ b ∧ b ≠ F
theorem pf_only {R n F : Nat} (hR : R < n) : ∀ k, PF n F k → ¬ Only R k := fun k h e => by have := h.1; unfold Only at e; omega
/-- What stands at the loop: what was read so far; or what is wrong. -/
structure LpI (W : World) (R : Nat) (A : Option Addr) (c : Nat) (toks : List (TK × Nat)) (F n l : Nat) (q : PR) (k m : Nat) (x : Nd) (B : Option Addr) (d : Nat) (f : Fo) (wr : World) : Prop where
  hk : k < toks.length
  fuel : m ≤ n
  read : gP m (.lp l x f.tr (remT toks k)) = q
  box : Blk wr F 28 #[.int .i64 x.op, .string x.name, .int .i64 x.cmp, .int .i64 x.val, .int .i64 x.lo, .int .i64 x.hi, .slice B f.len d]
  z : Blk wr W.heap.size 28 #[.int .i64 0, .string ⟨#[]⟩, .int .i64 0, .int .i64 0, .int .i64 0, .int .i64 0, .slice none 0 0]
  sl : FoSlP (PF W.heap.size F) wr B d f
  rd : Rdr wr R A c toks k 0 0
  fr : Fr (Only R) W wr
structure LpB (W : World) (R : Nat) (A : Option Addr) (c : Nat) (toks : List (TK × Nat)) (F : Nat) (q : PR) (x : Nd) (B : Option Addr) (mm d : Nat) (er : Int) (r : List TK) (wr : World) : Prop where
  q : q = .bad er r
  box : Blk wr F 28 #[.int .i64 x.op, .string x.name, .int .i64 x.cmp, .int .i64 x.val, .int .i64 x.lo, .int .i64 x.hi, .slice B mm d]
  z : Blk wr W.heap.size 28 #[.int .i64 0, .string ⟨#[]⟩, .int .i64 0, .int .i64 0, .int .i64 0, .int .i64 0, .slice none 0 0]
  bad : Bad W wr R A c toks er r
def LpR (W : World) (R : Nat) (A : Option Addr) (c : Nat) (toks : List (TK × Nat)) (F n l : Nat) (q : PR) (ok : Value) (wr : World) : Prop :=
  W.heap.size < F ∧ ((ok = .bool true ∧ ∃ k m x B d f, LpI W R A c toks F n l q k m x B d f wr) ∨ (ok = .bool false ∧ ∃ x B mm d er r, LpB W R A c toks F q x B mm d er r wr))
def lpM (N R : Nat) (ok : Value) (wr : World) : Nat := match ok with
  | .bool true => 1 + (N - (match wr.cell? ⟨R, 1, none⟩ with | some (.int .i64 k) => k.toNat | _ => 0))
  | _ => 0
theorem lpM_true {N R : Nat} {w : World} {A : Option Addr} {c : Nat} {toks : List (TK × Nat)} {k : Nat} {e p : Int} (h : Rdr w R A c toks k e p) : lpM N R (.bool true) w = 1 + (N - k) := by
  unfold lpM
  have h1 : w.cell? ⟨R, 1, none⟩ = some (.int .i64 (k : Int)) := h.blk.cell 1
  simp only [h1, Int.toNat_natCast]
theorem lev_pos' {toks : List (TK × Nat)} (ht : Toks toks) {k l : Nat} (hk : k < toks.length) {n : Nat} {x : Nd} {ks : Tr} {r : List TK} (hs : gP n (.lev l (remT toks k)) = .ok x ks r) : ∃ k', k ≤ k' ∧ k' < toks.length ∧ r = remT toks k' := by
  have h := gP_left n (.lev l (remT toks k)) (remT_ok ht k)
  rw [hs] at h
  exact sfx_pos ht h.1 k hk rfl
set_option maxRecDepth 100000 in
set_option maxHeartbeats 4000000 in
theorem loop_iff (R : Nat) (A : Option Addr) (c : Nat) (toks : List (TK × Nat)) (ht : Toks toks) (n : Nat) (hone : SideOk 77 (1 + 1) R A c toks (gP n)) (W : World) (b1 b2 b3 k : Nat) (h : Rdr W R A c toks k 0 0) (hk : k < toks.length) (hne : ¬ gP (n + 1) (.lev 1 (remT toks k)) = .out)
    (h1 : Blk W b1 148 #[.func (.func 77) #[] #[]]) (h2 : Blk W b2 9 #[.string ⟨#[60, 45, 62]⟩]) (h3 : Blk W b3 3 #[.int .i64 8]) (n1 : b1 ≠ R) (n2 : b2 ≠ R) (n3 : b3 ≠ R) :
    Calls Tryd.prog 131 #[.pointer (some ⟨R, 0, none⟩), .pointer (some ⟨b1, 0, none⟩), .pointer (some ⟨b2, 0, none⟩), .pointer (some ⟨b3, 0, none⟩)] W (SideR W R A c toks (gP (n + 1) (.lev 1 (remT toks k)))) := by
  have hR := h.blk.lt
  have hOR : ¬ Only R W.heap.size := only_ne hR
  have H0 := Lib.hid (fun X (hf : Fr Nob W X) => h.fr hf)
  have HRD := Lib.hid h
  have HN1 := Lib.hid (fun X (hf : Fr (Only R) W X) => h1.fr hf n1)
  have HN2 := Lib.hid (fun X (hf : Fr (Only R) W X) => h2.fr hf n2)
  have HN3 := Lib.hid (fun X (hf : Fr (Only R) W X) => h3.fr hf n3)
  have HONE := Lib.hid hone
  have HP := Lib.hid (fun X x B n d y C m e => rd_pair X 8 0 0 x B n d y C m e)
  unfold fval nd1 at HP
  have L1 := Lib.hid h1.lt
  have L3 := Lib.hid h3.lt
  have c1 := h1.cell 0
  have l1 := h1.lt
  obtain ⟨q, hq⟩ : ∃ q, gP (n + 1) (.lev 1 (remT toks k)) = q := ⟨_, rfl⟩
  have HQ := Lib.hid (show (gP n (.lev (1 + 1) (remT toks k))).bind (fun x ks r => gP n (.lp 1 x ks r)) = q from hq)
  rw [hq] at hne ⊢
  have HNE := Lib.hid hne
  have HK := Lib.hid hk
  clear h hq hne hone h1 h2 h3 n1 n2 n3 hk
  go_enter Tryd.func131, Tryd.ntmps131
  go_upto_region 1 with fail
  go_cut [7, 8] (fun s ok wm => ∃ F, s = .pointer (some ⟨F, 0, none⟩) ∧ LpR W R A c toks F n 1 q ok wm)
  case first =>
    cases hq : gP n (.lev (1 + 1) (remT toks k)) with
    | out => exact absurd (by rw [← HQ.out, hq]; rfl) HNE.out
    | bad er r =>
      have HON := Lib.hid (side_bad HONE.out HK.out hq)
      have HE := Lib.hid (show q = .bad er r by rw [← HQ.out, hq]; rfl)
      unfold fval at HON
      clear hq
      go_wp2_with (first
        | ((go_at_call 77); (with_reducible refine (HON.out _ ?_).mono ?_); exact H0.out _ ((Fr.refl _ _).alloc _); rintro en w1 ⟨x, B, m, d, rfl, hg⟩; have HG := Lib.hid hg; have HZ := Lib.hid ((Blk.new W 28 #[.int .i64 0, .string ⟨#[]⟩, .int .i64 0, .int .i64 0, .int .i64 0, .int .i64 0, .slice none 0 0]).fr hg.fr hOR); have zl := HZ.out.lt; clear hg))
      go_meet
      exact ⟨_, rfl, zl, .inr ⟨rfl, x, B, m, d, er, r, HE.out, Blk.new _ _ _, HZ.out.alloc _, HG.out.rd.elim fun k' h => ⟨⟨k', h.elim fun kk h => ⟨kk, h.elim fun h1 h2 => ⟨h1, h2.1, h2.2.fr ((Fr.refl _ _).alloc _)⟩⟩⟩, (((Fr.refl (Only R) W).alloc _).call HG.out.fr (fun _ h _ => h)).alloc _⟩⟩⟩
    | ok x ks r =>
      obtain ⟨k1, hk1, rfl⟩ := lev_pos ht HK.out hq
      have HON := Lib.hid (side_ok HONE.out HK.out hq hk1)
      have HE := Lib.hid (show gP n (.lp 1 x ks (remT toks k1)) = q by rw [← HQ.out, hq]; rfl)
      unfold fval at HON
      clear hq
      go_wp2_with (first
        | ((go_at_call 77); (with_reducible refine (HON.out _ ?_).mono ?_); exact H0.out _ ((Fr.refl _ _).alloc _); rintro en w1 ⟨B, d, f, rfl, hg⟩; have HG := Lib.hid hg; have HZ := Lib.hid ((Blk.new W 28 #[.int .i64 0, .string ⟨#[]⟩, .int .i64 0, .int .i64 0, .int .i64 0, .int .i64 0, .slice none 0 0]).fr hg.fr hOR); have zl := HZ.out.lt; clear hg))
      go_meet
      exact ⟨_, rfl, zl, .inl ⟨rfl, k1, n, x, B, d, f, hk1, Nat.le_refl _, by rw [HG.out.tr]; exact HE.out, Blk.new _ _ _, HZ.out.alloc _, (sl_fr HG.out.sl.lt ((Fr.refl Nob _).alloc _) (fun _ _ e => e)).mono (fun k hk => ⟨by have := hk.1; simpa using this, Nat.ne_of_lt hk.2⟩), HG.out.rd.fr ((Fr.refl _ _).alloc _), (((Fr.refl (Only R) W).alloc _).call HG.out.fr (fun _ h _ => h)).alloc _⟩⟩
  case rest =>
    obtain ⟨F, rfl, hlp⟩ := hcut
    have HLP := Lib.hid hlp
    have hFZ : W.heap.size < F := hlp.1
    clear hlp HQ
    go_wp2_with fail
    go_loopw [8] (fun ok wr => LpR W R A c toks F n 1 q ok wr) (fun ok wr => lpM toks.length R ok wr)
    case atStart => exact HLP.out
    case round =>
      obtain ⟨_, (⟨rfl, k2, m, x, B, d, f, hI⟩ | ⟨rfl, x, B, mm, d, er, r, hI⟩)⟩ := hrel
      · have HI := Lib.hid hI
        have HZ := Lib.hid hI.z
        have HB := Lib.hid hI.box
        have HFR := Lib.hid hI.fr
        have HR1 := Lib.hid hI.rd
        have HR0 := Lib.hid hI.rd
        have HSL := Lib.hid hI.sl
        have zc := hI.z.cell
        have zf := hI.z.frozen
        have zl := hI.z.lt
        have fc := hI.box.cell
        have ff := hI.box.frozen
        have fl := hI.box.lt
        have hFZ2 : F ≠ W.heap.size := by omega
        have hOF : ¬ Only R F := only_ne (by omega)
        have c2 := (HN2.out _ hI.fr).cell 0
        have hk2 := hI.hk
        obtain ⟨m', rfl⟩ : ∃ m', m = m' + 1 := by
          cases m with
          | zero => exact absurd hI.read.symm HNE.out
          | succ m' => exact ⟨m', rfl⟩
        have hm : m' ≤ n := by have := hI.fuel; omega
        have hr : (if sgn (remT toks k2) (lsign 1) then (gP m' (.lev (1 + 1) (remT toks k2).tail)).bind fun y js r => gP m' (.lp 1 (nd1 (lop 1) 0 0) (two x f.tr y js) r) else .ok x f.tr (remT toks k2)) = q := hI.read
        rw [sgn_rem hk2, show lsign 1 = [60, 45, 62] from rfl, show lop 1 = 8 from rfl, remT_tail] at hr
        clear hI
        cases hs : tsg toks[k2] [60, 45, 62]
        · have HT := Lib.hid (fun X (h : Rdr X R A c toks k2 0 0) => take_no h ht hk2 hs)
          rw [hs, if_neg (by simp)] at hr
          have HE := Lib.hid hr
          clear hr hs
          go_upto_region 6 with (first
            | ((go_at_call 132); (with_reducible refine (HT.out _ HR1.out).mono ?_); rintro en w1 ⟨rfl, hr1, hf1⟩; replace HZ := Lib.hid (HZ.out.fr hf1 hOR); replace HB := Lib.hid (HB.out.fr hf1 hOF); replace HFR := Lib.hid (HFR.out.call hf1 (fun _ h _ => h)); replace HR1 := Lib.hid hr1; replace HSL := Lib.hid (sl_fr HSL.out hf1 (pf_only hR)); replace zc := HZ.out.cell; replace zf := HZ.out.frozen; replace zl := HZ.out.lt; replace fc := HB.out.cell; replace fl := HB.out.lt; clear hr1 hf1 ff c2))
          have HB7 := Lib.hid (set7_blk HZ.out (.int .i64 x.op) (.string x.name) (.int .i64 x.cmp) (.int .i64 x.val) (.int .i64 x.lo) (.int .i64 x.hi) (.slice B f.len d))
          have HF7 := Lib.hid (set7_fr w1 W.heap.size (.int .i64 x.op) (.string x.name) (.int .i64 x.cmp) (.int .i64 x.val) (.int .i64 x.lo) (.int .i64 x.hi) (.slice B f.len d))
          go_wp2_with fail
          change bodyPost _ _ _ _ _ (set7 w1 W.heap.size (.int .i64 x.op) (.string x.name) (.int .i64 x.cmp) (.int .i64 x.val) (.int .i64 x.lo) (.int .i64 x.hi) (.slice B f.len d))
          generalize set7 w1 W.heap.size (.int .i64 x.op) (.string x.name) (.int .i64 x.cmp) (.int .i64 x.val) (.int .i64 x.lo) (.int .i64 x.hi) (.slice B f.len d) = W7 at *
          have HS := HB7.out.cell
          refine bodyPost_ret (v := .tuple #[.agg #[.int .i64 x.op, .string x.name, .int .i64 x.cmp, .int .i64 x.val, .int .i64 x.lo, .int .i64 x.hi, .slice B f.len d], .bool true]) (by simp [results, Tryd.results131, go_sem, HS]) rfl ?_
          have hd := done7 HRD.out HFR.out HF7.out HR1.out
          rw [← HE.out]
          exact ⟨B, d, f, rfl, k2, hk2, rfl, rfl, done7_sl (HSL.out.mono fun _ h => h.1) HF7.out, hd.1, hd.2⟩
        · have HT := Lib.hid (fun X (h : Rdr X R A c toks k2 0 0) => take_yes h ht hk2 hs)
          have hk3 := tsg_next ht hk2 hs
          rw [hs, if_pos rfl] at hr
          cases hq2 : gP m' (.lev (1 + 1) (remT toks (k2 + 1))) with
          | out => exact absurd (by rw [← hr, hq2]; rfl) HNE.out
          | bad er r =>
            have HON := Lib.hid (side_bad (HONE.out.more hm) hk3 hq2)
            have HE := Lib.hid (show q = .bad er r by rw [← hr, hq2]; rfl)
            unfold fval at HON
            clear hr hq2 hs
            go_upto_region 5 with (first
              | ((go_at_call 132); (with_reducible refine (HT.out _ HR1.out).mono ?_); rintro en w1 ⟨rfl, hr1, hf1⟩; replace HZ := Lib.hid (HZ.out.fr hf1 hOR); replace HB := Lib.hid (HB.out.fr hf1 hOF); replace HFR := Lib.hid (HFR.out.call hf1 (fun _ h _ => h)); replace HR1 := Lib.hid hr1; replace HSL := Lib.hid (sl_fr HSL.out hf1 (pf_only hR)); replace zc := HZ.out.cell; replace zf := HZ.out.frozen; replace zl := HZ.out.lt; replace fc := HB.out.cell; replace ff := HB.out.frozen; replace fl := HB.out.lt; have c1 := (HN1.out _ HFR.out).cell 0; have l1b := (HN1.out _ HFR.out).lt; clear hr1 hf1 c2)
              | ((go_at_call 77); (with_reducible refine (HON.out _ (HR1.out.fr ((Fr.refl _ _).alloc _))).mono ?_); rintro en w2 ⟨y, C, mm, e, rfl, hg⟩; have HG := Lib.hid hg; have hgf := hg.fr; have HO := Lib.hid ((Blk.new w1 28 #[.int .i64 0, .string ⟨#[]⟩, .int .i64 0, .int .i64 0, .int .i64 0, .int .i64 0, .slice none 0 0]).fr hgf (only_ne (by omega))); replace HZ := Lib.hid ((HZ.out.alloc _).fr hgf hOR); replace HB := Lib.hid ((HB.out.alloc _).fr hgf hOF); replace HFR := Lib.hid ((HFR.out.alloc _).call hgf (fun _ h _ => h)); replace HSL := Lib.hid (sl_fr (sl_fr HSL.out.lt ((Fr.refl Nob _).alloc _) (fun _ _ e => e)) hgf (fun k hk => pf_only hR k hk.1)); have HOW := Lib.hid (And.intro fl zl); have hO2 : w1.heap.size ≠ F := (by omega); have hO3 : w1.heap.size ≠ W.heap.size := (by omega); replace zc := HZ.out.cell; replace zf := HZ.out.frozen; replace zl := HZ.out.lt; replace fc := HB.out.cell; replace ff := HB.out.frozen; replace fl := HB.out.lt; have oc := HO.out.cell; have of_ := HO.out.frozen; have ol := HO.out.lt; clear hg hgf c1))
            obtain ⟨wb, hwb⟩ : ∃ wb, set7 w2 w1.heap.size (.int .i64 y.op) (.string y.name) (.int .i64 y.cmp) (.int .i64 y.val) (.int .i64 y.lo) (.int .i64 y.hi) (.slice C mm e) = wb := ⟨_, rfl⟩
            change Code.wp _ _ _ _ (set7 w2 w1.heap.size (.int .i64 y.op) (.string y.name) (.int .i64 y.cmp) (.int .i64 y.val) (.int .i64 y.lo) (.int .i64 y.hi) (.slice C mm e))
            have h7 := set7_fr w2 w1.heap.size (.int .i64 y.op) (.string y.name) (.int .i64 y.cmp) (.int .i64 y.val) (.int .i64 y.lo) (.int .i64 y.hi) (.slice C mm e)
            have hO7 := set7_blk HO.out (.int .i64 y.op) (.string y.name) (.int .i64 y.cmp) (.int .i64 y.val) (.int .i64 y.lo) (.int .i64 y.hi) (.slice C mm e)
            rw [hwb] at h7 hO7 ⊢
            clear hwb
            have H7 := Lib.hid h7
            have hOZ := HOW.out
            replace HZ := Lib.hid (HZ.out.fr h7 (by unfold Only; omega))
            replace HB := Lib.hid (HB.out.fr h7 (by unfold Only; omega))
            replace HFR := Lib.hid (HFR.out.call h7 (fun i hi hlt => by unfold Only at hi; omega))
            replace HSL := Lib.hid (sl_fr HSL.out h7 (fun k hk e => Nat.ne_of_lt hk.2 e))
            replace zc := HZ.out.cell
            replace zf := HZ.out.frozen
            replace zl := HZ.out.lt
            replace fc := HB.out.cell
            replace ff := HB.out.frozen
            replace fl := HB.out.lt
            have c3 := (HN3.out _ HFR.out).cell 0
            replace oc := hO7.cell
            clear of_ ol zc zf zl
            replace HG := Lib.hid (HG.out.new HRD.out h7 (only_new (by omega)) HFR.out)
            clear h7 hO7
            go_wp2_with ((go_at_call 133); (with_reducible refine (HP.out _ _ _ _ _ _ _ _ _).mono ?_); rintro en w3 ⟨g, rfl, hgw, hgb, hf4⟩; replace HZ := Lib.hid (HZ.out.fr hf4 (fun e => e)); replace HB := Lib.hid (HB.out.fr hf4 (fun e => e)); replace HFR := Lib.hid (HFR.out.call hf4 (fun _ h _ => h.elim)); replace HG := Lib.hid (HG.out.nob hf4); replace fc := HB.out.cell; replace ff := HB.out.frozen; replace fl := HB.out.lt; clear hgb hf4 oc c3)
            go_roundw
            case rel =>
              have h7 := set7_fr w3 F (.int .i64 8) (.string ⟨#[]⟩) (.int .i64 0) (.int .i64 0) (.int .i64 0) (.int .i64 0) (.slice (some ⟨g, 0, none⟩) 2 2)
              have hb7 := set7_blk HB.out (.int .i64 8) (.string ⟨#[]⟩) (.int .i64 0) (.int .i64 0) (.int .i64 0) (.int .i64 0) (.slice (some ⟨g, 0, none⟩) 2 2)
              change LpR _ _ _ _ _ _ _ _ _ _ (set7 w3 F (.int .i64 8) (.string ⟨#[]⟩) (.int .i64 0) (.int .i64 0) (.int .i64 0) (.int .i64 0) (.slice (some ⟨g, 0, none⟩) 2 2))
              exact ⟨hFZ, .inr ⟨rfl, nd1 8 0 0, some ⟨g, 0, none⟩, 2, 2, er, r, HE.out, hb7, HZ.out.fr h7 (by unfold Only; omega), HG.out.new HRD.out h7 (only_new (by omega)) (HFR.out.call h7 (fun i hi hlt => by unfold Only at hi; omega))⟩⟩
            case measure =>
              rw [lpM_true HR0.out]
              show 0 < _
              omega
          | ok y js r =>
            obtain ⟨k4, hk42, hk4, rfl⟩ := lev_pos' ht hk3 hq2
            have HON := Lib.hid (side_ok (HONE.out.more hm) hk3 hq2 hk4)
            have HE := Lib.hid (show gP m' (.lp 1 (nd1 8 0 0) (two x f.tr y js) (remT toks k4)) = q by rw [← hr, hq2]; rfl)
            unfold fval at HON
            clear hr hq2 hs
            go_upto_region 5 with (first
              | ((go_at_call 132); (with_reducible refine (HT.out _ HR1.out).mono ?_); rintro en w1 ⟨rfl, hr1, hf1⟩; replace HZ := Lib.hid (HZ.out.fr hf1 hOR); replace HB := Lib.hid (HB.out.fr hf1 hOF); replace HFR := Lib.hid (HFR.out.call hf1 (fun _ h _ => h)); replace HR1 := Lib.hid hr1; replace HSL := Lib.hid (sl_fr HSL.out hf1 (pf_only hR)); replace zc := HZ.out.cell; replace zf := HZ.out.frozen; replace zl := HZ.out.lt; replace fc := HB.out.cell; replace ff := HB.out.frozen; replace fl := HB.out.lt; have c1 := (HN1.out _ HFR.out).cell 0; have l1b := (HN1.out _ HFR.out).lt; clear hr1 hf1 c2)
              | ((go_at_call 77); (with_reducible refine (HON.out _ (HR1.out.fr ((Fr.refl _ _).alloc _))).mono ?_); rintro en w2 ⟨C, e, f2, rfl, hg⟩; have HG := Lib.hid hg; have hgf := hg.fr; have HO := Lib.hid ((Blk.new w1 28 #[.int .i64 0, .string ⟨#[]⟩, .int .i64 0, .int .i64 0, .int .i64 0, .int .i64 0, .slice none 0 0]).fr hgf (only_ne (by omega))); replace HZ := Lib.hid ((HZ.out.alloc _).fr hgf hOR); replace HB := Lib.hid ((HB.out.alloc _).fr hgf hOF); replace HFR := Lib.hid ((HFR.out.alloc _).call hgf (fun _ h _ => h)); replace HSL := Lib.hid (sl_fr (sl_fr HSL.out.lt ((Fr.refl Nob _).alloc _) (fun _ _ e => e)) hgf (fun k hk => pf_only hR k hk.1)); have HOW := Lib.hid (And.intro fl zl); have hO2 : w1.heap.size ≠ F := (by omega); have hO3 : w1.heap.size ≠ W.heap.size := (by omega); replace zc := HZ.out.cell; replace zf := HZ.out.frozen; replace zl := HZ.out.lt; replace fc := HB.out.cell; replace ff := HB.out.frozen; replace fl := HB.out.lt; have oc := HO.out.cell; have of_ := HO.out.frozen; have ol := HO.out.lt; clear hg hgf c1))
            obtain ⟨wb, hwb⟩ : ∃ wb, set7 w2 w1.heap.size (.int .i64 y.op) (.string y.name) (.int .i64 y.cmp) (.int .i64 y.val) (.int .i64 y.lo) (.int .i64 y.hi) (.slice C f2.len e) = wb := ⟨_, rfl⟩
            change Code.wp _ _ _ _ (set7 w2 w1.heap.size (.int .i64 y.op) (.string y.name) (.int .i64 y.cmp) (.int .i64 y.val) (.int .i64 y.lo) (.int .i64 y.hi) (.slice C f2.len e))
            have h7 := set7_fr w2 w1.heap.size (.int .i64 y.op) (.string y.name) (.int .i64 y.cmp) (.int .i64 y.val) (.int .i64 y.lo) (.int .i64 y.hi) (.slice C f2.len e)
            have hO7 := set7_blk HO.out (.int .i64 y.op) (.string y.name) (.int .i64 y.cmp) (.int .i64 y.val) (.int .i64 y.lo) (.int .i64 y.hi) (.slice C f2.len e)
            rw [hwb] at h7 hO7 ⊢
            clear hwb
            have H7 := Lib.hid h7
            have hOZ := HOW.out
            replace HZ := Lib.hid (HZ.out.fr h7 (by unfold Only; omega))
            replace HB := Lib.hid (HB.out.fr h7 (by unfold Only; omega))
            replace HFR := Lib.hid (HFR.out.call h7 (fun i hi hlt => by unfold Only at hi; omega))
            replace HSL := Lib.hid (sl_fr HSL.out h7 (fun k hk e => Nat.ne_of_lt hk.2 e))
            replace zc := HZ.out.cell
            replace zf := HZ.out.frozen
            replace zl := HZ.out.lt
            replace fc := HB.out.cell
            replace ff := HB.out.frozen
            replace fl := HB.out.lt
            have c3 := (HN3.out _ HFR.out).cell 0
            replace oc := hO7.cell
            clear of_ ol zc zf zl
            have HR3 := Lib.hid (HRD.out.new HG.out.rd h7 (only_new (by omega)))
            have HS2 := Lib.hid ((sl_fr HG.out.sl h7 (fun k hk e => by unfold Only at e; simp at hk; omega)).mono (fun k hk => (⟨by simp at hk; omega, by simp at hk; omega⟩ : PF W.heap.size F k)))
            have HT2 := Lib.hid HG.out.tr
            have hwb2 := h7.size
            clear h7 hO7 HG
            go_wp2_with ((go_at_call 133); (with_reducible refine (HP.out _ _ _ _ _ _ _ _ _).mono ?_); rintro en w3 ⟨g, rfl, hgw, hgb, hf4⟩; replace HZ := Lib.hid (HZ.out.fr hf4 (fun e => e)); replace HB := Lib.hid (HB.out.fr hf4 (fun e => e)); replace HFR := Lib.hid (HFR.out.call hf4 (fun _ h _ => h.elim)); replace HR3 := Lib.hid (HR3.out.fr hf4); have HKS := Lib.hid (kids_two hgb (sl_fr (HSL.out.mono fun _ h => h.1) hf4 (fun _ _ e => e)) (sl_fr HS2.out hf4 (fun _ _ e => e)) (⟨by omega, by omega⟩ : PF W.heap.size F g)); replace fc := HB.out.cell; replace ff := HB.out.frozen; replace fl := HB.out.lt; clear hgb hf4 oc c3 HS2 HSL)
            go_roundw
            case rel =>
              have h7 := set7_fr w3 F (.int .i64 8) (.string ⟨#[]⟩) (.int .i64 0) (.int .i64 0) (.int .i64 0) (.int .i64 0) (.slice (some ⟨g, 0, none⟩) 2 2)
              have hb7 := set7_blk HB.out (.int .i64 8) (.string ⟨#[]⟩) (.int .i64 0) (.int .i64 0) (.int .i64 0) (.int .i64 0) (.slice (some ⟨g, 0, none⟩) 2 2)
              change LpR _ _ _ _ _ _ _ _ _ _ (set7 w3 F (.int .i64 8) (.string ⟨#[]⟩) (.int .i64 0) (.int .i64 0) (.int .i64 0) (.int .i64 0) (.slice (some ⟨g, 0, none⟩) 2 2))
              exact ⟨hFZ, .inl ⟨rfl, k4, m', nd1 8 0 0, some ⟨g, 0, none⟩, 2, .cons x B d f (.cons y C e f2 .nil), hk4, hm, by rw [← HE.out, ← HT2.out]; rfl, hb7, HZ.out.fr h7 (by unfold Only; omega), sl_fr HKS.out h7 (fun k hk e => hk.2 e), HRD.out.new HR3.out h7 (only_new (by omega)), HFR.out.call h7 (fun i hi hlt => by unfold Only at hi; omega)⟩⟩
            case measure =>
              have h7 := set7_fr w3 F (.int .i64 8) (.string ⟨#[]⟩) (.int .i64 0) (.int .i64 0) (.int .i64 0) (.int .i64 0) (.slice (some ⟨g, 0, none⟩) 2 2)
              change lpM _ _ _ (set7 w3 F (.int .i64 8) (.string ⟨#[]⟩) (.int .i64 0) (.int .i64 0) (.int .i64 0) (.int .i64 0) (.slice (some ⟨g, 0, none⟩) 2 2)) < _
              rw [lpM_true HR0.out, lpM_true (HRD.out.new HR3.out h7 (only_new (by omega)))]
              omega
      · have HI := Lib.hid hI
        have HZ := Lib.hid hI.z
        have zc := hI.z.cell
        have zf := hI.z.frozen
        have zl := hI.z.lt
        have fc := hI.box.cell
        have fl := hI.box.lt
        have hFZ2 : F ≠ W.heap.size := by omega
        clear hI
        go_upto_region 6 with fail
        have HB7 := Lib.hid (set7_blk HZ.out (.int .i64 x.op) (.string x.name) (.int .i64 x.cmp) (.int .i64 x.val) (.int .i64 x.lo) (.int .i64 x.hi) (.slice B mm d))
        have HF7 := Lib.hid (set7_fr wr W.heap.size (.int .i64 x.op) (.string x.name) (.int .i64 x.cmp) (.int .i64 x.val) (.int .i64 x.lo) (.int .i64 x.hi) (.slice B mm d))
        go_wp2_with fail
        change bodyPost _ _ _ _ _ (set7 wr W.heap.size (.int .i64 x.op) (.string x.name) (.int .i64 x.cmp) (.int .i64 x.val) (.int .i64 x.lo) (.int .i64 x.hi) (.slice B mm d))
        generalize set7 wr W.heap.size (.int .i64 x.op) (.string x.name) (.int .i64 x.cmp) (.int .i64 x.val) (.int .i64 x.lo) (.int .i64 x.hi) (.slice B mm d) = W7 at *
        have HS := HB7.out.cell
        refine bodyPost_ret (v := .tuple #[.agg #[.int .i64 x.op, .string x.name, .int .i64 x.cmp, .int .i64 x.val, .int .i64 x.lo, .int .i64 x.hi, .slice B mm d], .bool false]) (by simp [results, Tryd.results131, go_sem, HS]) rfl ?_
        rw [HI.out.q]
        exact ⟨x, B, mm, d, rfl, bad_done7 HRD.out HI.out.bad.fr HF7.out HI.out.bad⟩
set_option maxRecDepth 100000 in
set_option maxHeartbeats 4000000 in
theorem loop_or (R : Nat) (A : Option Addr) (c : Nat) (toks : List (TK × Nat)) (ht : Toks toks) (n : Nat) (hone : SideOk 181 (3 + 1) R A c toks (gP n)) (W : World) (b1 b2 b3 k : Nat) (h : Rdr W R A c toks k 0 0) (hk : k < toks.length) (hne : ¬ gP (n + 1) (.lev 3 (remT toks k)) = .out)
    (h1 : Blk W b1 148 #[.func (.func 181) #[] #[]]) (h2 : Blk W b2 9 #[.string ⟨#[124]⟩]) (h3 : Blk W b3 3 #[.int .i64 6]) (n1 : b1 ≠ R) (n2 : b2 ≠ R) (n3 : b3 ≠ R) :
    Calls Tryd.prog 131 #[.pointer (some ⟨R, 0, none⟩), .pointer (some ⟨b1, 0, none⟩), .pointer (some ⟨b2, 0, none⟩), .pointer (some ⟨b3, 0, none⟩)] W (SideR W R A c toks (gP (n + 1) (.lev 3 (remT toks k)))) := by
  have hR := h.blk.lt
  have hOR : ¬ Only R W.heap.size := only_ne hR
  have H0 := Lib.hid (fun X (hf : Fr Nob W X) => h.fr hf)
  have HRD := Lib.hid h
  have HN1 := Lib.hid (fun X (hf : Fr (Only R) W X) => h1.fr hf n1)
  have HN2 := Lib.hid (fun X (hf : Fr (Only R) W X) => h2.fr hf n2)
  have HN3 := Lib.hid (fun X (hf : Fr (Only R) W X) => h3.fr hf n3)
  have HONE := Lib.hid hone
  have HP := Lib.hid (fun X x B n d y C m e => rd_pair X 6 0 0 x B n d y C m e)
  unfold fval nd1 at HP
  have L1 := Lib.hid h1.lt
  have L3 := Lib.hid h3.lt
  have c1 := h1.cell 0
  have l1 := h1.lt
  obtain ⟨q, hq⟩ : ∃ q, gP (n + 1) (.lev 3 (remT toks k)) = q := ⟨_, rfl⟩
  have HQ := Lib.hid (show (gP n (.lev (3 + 1) (remT toks k))).bind (fun x ks r => gP n (.lp 3 x ks r)) = q from hq)
  rw [hq] at hne ⊢
  have HNE := Lib.hid hne
  have HK := Lib.hid hk
  clear h hq hne hone h1 h2 h3 n1 n2 n3 hk
  go_enter Tryd.func131, Tryd.ntmps131
  go_upto_region 1 with fail
  go_cut [7, 8] (fun s ok wm => ∃ F, s = .pointer (some ⟨F, 0, none⟩) ∧ LpR W R A c toks F n 3 q ok wm)
  case first =>
    cases hq : gP n (.lev (3 + 1) (remT toks k)) with
    | out => exact absurd (by rw [← HQ.out, hq]; rfl) HNE.out
    | bad er r =>
      have HON := Lib.hid (side_bad HONE.out HK.out hq)
      have HE := Lib.hid (show q = .bad er r by rw [← HQ.out, hq]; rfl)
      unfold fval at HON
      clear hq
      go_wp2_with (first
        | ((go_at_call 181); (with_reducible refine (HON.out _ ?_).mono ?_); exact H0.out _ ((Fr.refl _ _).alloc _); rintro en w1 ⟨x, B, m, d, rfl, hg⟩; have HG := Lib.hid hg; have HZ := Lib.hid ((Blk.new W 28 #[.int .i64 0, .string ⟨#[]⟩, .int .i64 0, .int .i64 0, .int .i64 0, .int .i64 0, .slice none 0 0]).fr hg.fr hOR); have zl := HZ.out.lt; clear hg))
      go_meet
      exact ⟨_, rfl, zl, .inr ⟨rfl, x, B, m, d, er, r, HE.out, Blk.new _ _ _, HZ.out.alloc _, HG.out.rd.elim fun k' h => ⟨⟨k', h.elim fun kk h => ⟨kk, h.elim fun h1 h2 => ⟨h1, h2.1, h2.2.fr ((Fr.refl _ _).alloc _)⟩⟩⟩, (((Fr.refl (Only R) W).alloc _).call HG.out.fr (fun _ h _ => h)).alloc _⟩⟩⟩
    | ok x ks r =>
      obtain ⟨k1, hk1, rfl⟩ := lev_pos ht HK.out hq
      have HON := Lib.hid (side_ok HONE.out HK.out hq hk1)
      have HE := Lib.hid (show gP n (.lp 3 x ks (remT toks k1)) = q by rw [← HQ.out, hq]; rfl)
      unfold fval at HON
      clear hq
      go_wp2_with (first
        | ((go_at_call 181); (with_reducible refine (HON.out _ ?_).mono ?_); exact H0.out _ ((Fr.refl _ _).alloc _); rintro en w1 ⟨B, d, f, rfl, hg⟩; have HG := Lib.hid hg; have HZ := Lib.hid ((Blk.new W 28 #[.int .i64 0, .string ⟨#[]⟩, .int .i64 0, .int .i64 0, .int .i64 0, .int .i64 0, .slice none 0 0]).fr hg.fr hOR); have zl := HZ.out.lt; clear hg))
      go_meet
      exact ⟨_, rfl, zl, .inl ⟨rfl, k1, n, x, B, d, f, hk1, Nat.le_refl _, by rw [HG.out.tr]; exact HE.out, Blk.new _ _ _, HZ.out.alloc _, (sl_fr HG.out.sl.lt ((Fr.refl Nob _).alloc _) (fun _ _ e => e)).mono (fun k hk => ⟨by have := hk.1; simpa using this, Nat.ne_of_lt hk.2⟩), HG.out.rd.fr ((Fr.refl _ _).alloc _), (((Fr.refl (Only R) W).alloc _).call HG.out.fr (fun _ h _ => h)).alloc _⟩⟩
  case rest =>
    obtain ⟨F, rfl, hlp⟩ := hcut
    have HLP := Lib.hid hlp
    have hFZ : W.heap.size < F := hlp.1
    clear hlp HQ
    go_wp2_with fail
    go_loopw [8] (fun ok wr => LpR W R A c toks F n 3 q ok wr) (fun ok wr => lpM toks.length R ok wr)
    case atStart => exact HLP.out
    case round =>
      obtain ⟨_, (⟨rfl, k2, m, x, B, d, f, hI⟩ | ⟨rfl, x, B, mm, d, er, r, hI⟩)⟩ := hrel
      · have HI := Lib.hid hI
        have HZ := Lib.hid hI.z
        have HB := Lib.hid hI.box
        have HFR := Lib.hid hI.fr
        have HR1 := Lib.hid hI.rd
        have HR0 := Lib.hid hI.rd
        have HSL := Lib.hid hI.sl
        have zc := hI.z.cell
        have zf := hI.z.frozen
        have zl := hI.z.lt
        have fc := hI.box.cell
        have ff := hI.box.frozen
        have fl := hI.box.lt
        have hFZ2 : F ≠ W.heap.size := by omega
        have hOF : ¬ Only R F := only_ne (by omega)
        have c2 := (HN2.out _ hI.fr).cell 0
        have hk2 := hI.hk
        obtain ⟨m', rfl⟩ : ∃ m', m = m' + 1 := by
          cases m with
          | zero => exact absurd hI.read.symm HNE.out
          | succ m' => exact ⟨m', rfl⟩
        have hm : m' ≤ n := by have := hI.fuel; omega
        have hr : (if sgn (remT toks k2) (lsign 3) then (gP m' (.lev (3 + 1) (remT toks k2).tail)).bind fun y js r => gP m' (.lp 3 (nd1 (lop 3) 0 0) (two x f.tr y js) r) else .ok x f.tr (remT toks k2)) = q := hI.read
        rw [sgn_rem hk2, show lsign 3 = [124] from rfl, show lop 3 = 6 from rfl, remT_tail] at hr
        clear hI
        cases hs : tsg toks[k2] [124]
        · have HT := Lib.hid (fun X (h : Rdr X R A c toks k2 0 0) => take_no h ht hk2 hs)
          rw [hs, if_neg (by simp)] at hr
          have HE := Lib.hid hr
          clear hr hs
          go_upto_region 6 with (first
            | ((go_at_call 132); (with_reducible refine (HT.out _ HR1.out).mono ?_); rintro en w1 ⟨rfl, hr1, hf1⟩; replace HZ := Lib.hid (HZ.out.fr hf1 hOR); replace HB := Lib.hid (HB.out.fr hf1 hOF); replace HFR := Lib.hid (HFR.out.call hf1 (fun _ h _ => h)); replace HR1 := Lib.hid hr1; replace HSL := Lib.hid (sl_fr HSL.out hf1 (pf_only hR)); replace zc := HZ.out.cell; replace zf := HZ.out.frozen; replace zl := HZ.out.lt; replace fc := HB.out.cell; replace fl := HB.out.lt; clear hr1 hf1 ff c2))
          have HB7 := Lib.hid (set7_blk HZ.out (.int .i64 x.op) (.string x.name) (.int .i64 x.cmp) (.int .i64 x.val) (.int .i64 x.lo) (.int .i64 x.hi) (.slice B f.len d))
          have HF7 := Lib.hid (set7_fr w1 W.heap.size (.int .i64 x.op) (.string x.name) (.int .i64 x.cmp) (.int .i64 x.val) (.int .i64 x.lo) (.int .i64 x.hi) (.slice B f.len d))
          go_wp2_with fail
          change bodyPost _ _ _ _ _ (set7 w1 W.heap.size (.int .i64 x.op) (.string x.name) (.int .i64 x.cmp) (.int .i64 x.val) (.int .i64 x.lo) (.int .i64 x.hi) (.slice B f.len d))
          generalize set7 w1 W.heap.size (.int .i64 x.op) (.string x.name) (.int .i64 x.cmp) (.int .i64 x.val) (.int .i64 x.lo) (.int .i64 x.hi) (.slice B f.len d) = W7 at *
          have HS := HB7.out.cell
          refine bodyPost_ret (v := .tuple #[.agg #[.int .i64 x.op, .string x.name, .int .i64 x.cmp, .int .i64 x.val, .int .i64 x.lo, .int .i64 x.hi, .slice B f.len d], .bool true]) (by simp [results, Tryd.results131, go_sem, HS]) rfl ?_
          have hd := done7 HRD.out HFR.out HF7.out HR1.out
          rw [← HE.out]
          exact ⟨B, d, f, rfl, k2, hk2, rfl, rfl, done7_sl (HSL.out.mono fun _ h => h.1) HF7.out, hd.1, hd.2⟩
        · have HT := Lib.hid (fun X (h : Rdr X R A c toks k2 0 0) => take_yes h ht hk2 hs)
          have hk3 := tsg_next ht hk2 hs
          rw [hs, if_pos rfl] at hr
          cases hq2 : gP m' (.lev (3 + 1) (remT toks (k2 + 1))) with
          | out => exact absurd (by rw [← hr, hq2]; rfl) HNE.out
          | bad er r =>
            have HON := Lib.hid (side_bad (HONE.out.more hm) hk3 hq2)
            have HE := Lib.hid (show q = .bad er r by rw [← hr, hq2]; rfl)
            unfold fval at HON
            clear hr hq2 hs
            go_upto_region 5 with (first
              | ((go_at_call 132); (with_reducible refine (HT.out _ HR1.out).mono ?_); rintro en w1 ⟨rfl, hr1, hf1⟩; replace HZ := Lib.hid (HZ.out.fr hf1 hOR); replace HB := Lib.hid (HB.out.fr hf1 hOF); replace HFR := Lib.hid (HFR.out.call hf1 (fun _ h _ => h)); replace HR1 := Lib.hid hr1; replace HSL := Lib.hid (sl_fr HSL.out hf1 (pf_only hR)); replace zc := HZ.out.cell; replace zf := HZ.out.frozen; replace zl := HZ.out.lt; replace fc := HB.out.cell; replace ff := HB.out.frozen; replace fl := HB.out.lt; have c1 := (HN1.out _ HFR.out).cell 0; have l1b := (HN1.out _ HFR.out).lt; clear hr1 hf1 c2)
              | ((go_at_call 181); (with_reducible refine (HON.out _ (HR1.out.fr ((Fr.refl _ _).alloc _))).mono ?_); rintro en w2 ⟨y, C, mm, e, rfl, hg⟩; have HG := Lib.hid hg; have hgf := hg.fr; have HO := Lib.hid ((Blk.new w1 28 #[.int .i64 0, .string ⟨#[]⟩, .int .i64 0, .int .i64 0, .int .i64 0, .int .i64 0, .slice none 0 0]).fr hgf (only_ne (by omega))); replace HZ := Lib.hid ((HZ.out.alloc _).fr hgf hOR); replace HB := Lib.hid ((HB.out.alloc _).fr hgf hOF); replace HFR := Lib.hid ((HFR.out.alloc _).call hgf (fun _ h _ => h)); replace HSL := Lib.hid (sl_fr (sl_fr HSL.out.lt ((Fr.refl Nob _).alloc _) (fun _ _ e => e)) hgf (fun k hk => pf_only hR k hk.1)); have HOW := Lib.hid (And.intro fl zl); have hO2 : w1.heap.size ≠ F := (by omega); have hO3 : w1.heap.size ≠ W.heap.size := (by omega); replace zc := HZ.out.cell; replace zf := HZ.out.frozen; replace zl := HZ.out.lt; replace fc := HB.out.cell; replace ff := HB.out.frozen; replace fl := HB.out.lt; have oc := HO.out.cell; have of_ := HO.out.frozen; have ol := HO.out.lt; clear hg hgf c1))
            obtain ⟨wb, hwb⟩ : ∃ wb, set7 w2 w1.heap.size (.int .i64 y.op) (.string y.name) (.int .i64 y.cmp) (.int .i64 y.val) (.int .i64 y.lo) (.int .i64 y.hi) (.slice C mm e) = wb := ⟨_, rfl⟩
            change Code.wp _ _ _ _ (set7 w2 w1.heap.size (.int .i64 y.op) (.string y.name) (.int .i64 y.cmp) (.int .i64 y.val) (.int .i64 y.lo) (.int .i64 y.hi) (.slice C mm e))
            have h7 := set7_fr w2 w1.heap.size (.int .i64 y.op) (.string y.name) (.int .i64 y.cmp) (.int .i64 y.val) (.int .i64 y.lo) (.int .i64 y.hi) (.slice C mm e)
            have hO7 := set7_blk HO.out (.int .i64 y.op) (.string y.name) (.int .i64 y.cmp) (.int .i64 y.val) (.int .i64 y.lo) (.int .i64 y.hi) (.slice C mm e)
            rw [hwb] at h7 hO7 ⊢
            clear hwb
            have H7 := Lib.hid h7
            have hOZ := HOW.out
            replace HZ := Lib.hid (HZ.out.fr h7 (by unfold Only; omega))
            replace HB := Lib.hid (HB.out.fr h7 (by unfold Only; omega))
            replace HFR := Lib.hid (HFR.out.call h7 (fun i hi hlt => by unfold Only at hi; omega))
            replace HSL := Lib.hid (sl_fr HSL.out h7 (fun k hk e => Nat.ne_of_lt hk.2 e))
            replace zc := HZ.out.cell
            replace zf := HZ.out.frozen
            replace zl := HZ.out.lt
            replace fc := HB.out.cell
            replace ff := HB.out.frozen
            replace fl := HB.out.lt
            have c3 := (HN3.out _ HFR.out).cell 0
            replace oc := hO7.cell
            clear of_ ol zc zf zl
            replace HG := Lib.hid (HG.out.new HRD.out h7 (only_new (by omega)) HFR.out)
            clear h7 hO7
            go_wp2_with ((go_at_call 133); (with_reducible refine (HP.out _ _ _ _ _ _ _ _ _).mono ?_); rintro en w3 ⟨g, rfl, hgw, hgb, hf4⟩; replace HZ := Lib.hid (HZ.out.fr hf4 (fun e => e)); replace HB := Lib.hid (HB.out.fr hf4 (fun e => e)); replace HFR := Lib.hid (HFR.out.call hf4 (fun _ h _ => h.elim)); replace HG := Lib.hid (HG.out.nob hf4); replace fc := HB.out.cell; replace ff := HB.out.frozen; replace fl := HB.out.lt; clear hgb hf4 oc c3)
            go_roundw
            case rel =>
              have h7 := set7_fr w3 F (.int .i64 6) (.string ⟨#[]⟩) (.int .i64 0) (.int .i64 0) (.int .i64 0) (.int .i64 0) (.slice (some ⟨g, 0, none⟩) 2 2)
              have hb7 := set7_blk HB.out (.int .i64 6) (.string ⟨#[]⟩) (.int .i64 0) (.int .i64 0) (.int .i64 0) (.int .i64 0) (.slice (some ⟨g, 0, none⟩) 2 2)
              change LpR _ _ _ _ _ _ _ _ _ _ (set7 w3 F (.int .i64 6) (.string ⟨#[]⟩) (.int .i64 0) (.int .i64 0) (.int .i64 0) (.int .i64 0) (.slice (some ⟨g, 0, none⟩) 2 2))
              exact ⟨hFZ, .inr ⟨rfl, nd1 6 0 0, some ⟨g, 0, none⟩, 2, 2, er, r, HE.out, hb7, HZ.out.fr h7 (by unfold Only; omega), HG.out.new HRD.out h7 (only_new (by omega)) (HFR.out.call h7 (fun i hi hlt => by unfold Only at hi; omega))⟩⟩
            case measure =>
              rw [lpM_true HR0.out]
              show 0 < _
              omega
          | ok y js r =>
            obtain ⟨k4, hk42, hk4, rfl⟩ := lev_pos' ht hk3 hq2
            have HON := Lib.hid (side_ok (HONE.out.more hm) hk3 hq2 hk4)
            have HE := Lib.hid (show gP m' (.lp 3 (nd1 6 0 0) (two x f.tr y js) (remT toks k4)) = q by rw [← hr, hq2]; rfl)
            unfold fval at HON
            clear hr hq2 hs
            go_upto_region 5 with (first
              | ((go_at_call 132); (with_reducible refine (HT.out _ HR1.out).mono ?_); rintro en w1 ⟨rfl, hr1, hf1⟩; replace HZ := Lib.hid (HZ.out.fr hf1 hOR); replace HB := Lib.hid (HB.out.fr hf1 hOF); replace HFR := Lib.hid (HFR.out.call hf1 (fun _ h _ => h)); replace HR1 := Lib.hid hr1; replace HSL := Lib.hid (sl_fr HSL.out hf1 (pf_only hR)); replace zc := HZ.out.cell; replace zf := HZ.out.frozen; replace zl := HZ.out.lt; replace fc := HB.out.cell; replace ff := HB.out.frozen; replace fl := HB.out.lt; have c1 := (HN1.out _ HFR.out).cell 0; have l1b := (HN1.out _ HFR.out).lt; clear hr1 hf1 c2)
              | ((go_at_call 181); (with_reducible refine (HON.out _ (HR1.out.fr ((Fr.refl _ _).alloc _))).mono ?_); rintro en w2 ⟨C, e, f2, rfl, hg⟩; have HG := Lib.hid hg; have hgf := hg.fr; have HO := Lib.hid ((Blk.new w1 28 #[.int .i64 0, .string ⟨#[]⟩, .int .i64 0, .int .i64 0, .int .i64 0, .int .i64 0, .slice none 0 0]).fr hgf (only_ne (by omega))); replace HZ := Lib.hid ((HZ.out.alloc _).fr hgf hOR); replace HB := Lib.hid ((HB.out.alloc _).fr hgf hOF); replace HFR := Lib.hid ((HFR.out.alloc _).call hgf (fun _ h _ => h)); replace HSL := Lib.hid (sl_fr (sl_fr HSL.out.lt ((Fr.refl Nob _).alloc _) (fun _ _ e => e)) hgf (fun k hk => pf_only hR k hk.1)); have HOW := Lib.hid (And.intro fl zl); have hO2 : w1.heap.size ≠ F := (by omega); have hO3 : w1.heap.size ≠ W.heap.size := (by omega); replace zc := HZ.out.cell; replace zf := HZ.out.frozen; replace zl := HZ.out.lt; replace fc := HB.out.cell; replace ff := HB.out.frozen; replace fl := HB.out.lt; have oc := HO.out.cell; have of_ := HO.out.frozen; have ol := HO.out.lt; clear hg hgf c1))
            obtain ⟨wb, hwb⟩ : ∃ wb, set7 w2 w1.heap.size (.int .i64 y.op) (.string y.name) (.int .i64 y.cmp) (.int .i64 y.val) (.int .i64 y.lo) (.int .i64 y.hi) (.slice C f2.len e) = wb := ⟨_, rfl⟩
            change Code.wp _ _ _ _ (set7 w2 w1.heap.size (.int .i64 y.op) (.string y.name) (.int .i64 y.cmp) (.int .i64 y.val) (.int .i64 y.lo) (.int .i64 y.hi) (.slice C f2.len e))
            have h7 := set7_fr w2 w1.heap.size (.int .i64 y.op) (.string y.name) (.int .i64 y.cmp) (.int .i64 y.val) (.int .i64 y.lo) (.int .i64 y.hi) (.slice C f2.len e)
            have hO7 := set7_blk HO.out (.int .i64 y.op) (.string y.name) (.int .i64 y.cmp) (.int .i64 y.val) (.int .i64 y.lo) (.int .i64 y.hi) (.slice C f2.len e)
            rw [hwb] at h7 hO7 ⊢
            clear hwb
            have H7 := Lib.hid h7
            have hOZ := HOW.out
            replace HZ := Lib.hid (HZ.out.fr h7 (by unfold Only; omega))
            replace HB := Lib.hid (HB.out.fr h7 (by unfold Only; omega))
            replace HFR := Lib.hid (HFR.out.call h7 (fun i hi hlt => by unfold Only at hi; omega))
            replace HSL := Lib.hid (sl_fr HSL.out h7 (fun k hk e => Nat.ne_of_lt hk.2 e))
            replace zc := HZ.out.cell
            replace zf := HZ.out.frozen
            replace zl := HZ.out.lt
            replace fc := HB.out.cell
            replace ff := HB.out.frozen
            replace fl := HB.out.lt
            have c3 := (HN3.out _ HFR.out).cell 0
            replace oc := hO7.cell
            clear of_ ol zc zf zl
            have HR3 := Lib.hid (HRD.out.new HG.out.rd h7 (only_new (by omega)))
            have HS2 := Lib.hid ((sl_fr HG.out.sl h7 (fun k hk e => by unfold Only at e; simp at hk; omega)).mono (fun k hk => (⟨by simp at hk; omega, by simp at hk; omega⟩ : PF W.heap.size F k)))
            have HT2 := Lib.hid HG.out.tr
            have hwb2 := h7.size
            clear h7 hO7 HG
            go_wp2_with ((go_at_call 133); (with_reducible refine (HP.out _ _ _ _ _ _ _ _ _).mono ?_); rintro en w3 ⟨g, rfl, hgw, hgb, hf4⟩; replace HZ := Lib.hid (HZ.out.fr hf4 (fun e => e)); replace HB := Lib.hid (HB.out.fr hf4 (fun e => e)); replace HFR := Lib.hid (HFR.out.call hf4 (fun _ h _ => h.elim)); replace HR3 := Lib.hid (HR3.out.fr hf4); have HKS := Lib.hid (kids_two hgb (sl_fr (HSL.out.mono fun _ h => h.1) hf4 (fun _ _ e => e)) (sl_fr HS2.out hf4 (fun _ _ e => e)) (⟨by omega, by omega⟩ : PF W.heap.size F g)); replace fc := HB.out.cell; replace ff := HB.out.frozen; replace fl := HB.out.lt; clear hgb hf4 oc c3 HS2 HSL)
            go_roundw
            case rel =>
              have h7 := set7_fr w3 F (.int .i64 6) (.string ⟨#[]⟩) (.int .i64 0) (.int .i64 0) (.int .i64 0) (.int .i64 0) (.slice (some ⟨g, 0, none⟩) 2 2)
              have hb7 := set7_blk HB.out (.int .i64 6) (.string ⟨#[]⟩) (.int .i64 0) (.int .i64 0) (.int .i64 0) (.int .i64 0) (.slice (some ⟨g, 0, none⟩) 2 2)
              change LpR _ _ _ _ _ _ _ _ _ _ (set7 w3 F (.int .i64 6) (.string ⟨#[]⟩) (.int .i64 0) (.int .i64 0) (.int .i64 0) (.int .i64 0) (.slice (some ⟨g, 0, none⟩) 2 2))
              exact ⟨hFZ, .inl ⟨rfl, k4, m', nd1 6 0 0, some ⟨g, 0, none⟩, 2, .cons x B d f (.cons y C e f2 .nil), hk4, hm, by rw [← HE.out, ← HT2.out]; rfl, hb7, HZ.out.fr h7 (by unfold Only; omega), sl_fr HKS.out h7 (fun k hk e => hk.2 e), HRD.out.new HR3.out h7 (only_new (by omega)), HFR.out.call h7 (fun i hi hlt => by unfold Only at hi; omega)⟩⟩
            case measure =>
              have h7 := set7_fr w3 F (.int .i64 6) (.string ⟨#[]⟩) (.int .i64 0) (.int .i64 0) (.int .i64 0) (.int .i64 0) (.slice (some ⟨g, 0, none⟩) 2 2)
              change lpM _ _ _ (set7 w3 F (.int .i64 6) (.string ⟨#[]⟩) (.int .i64 0) (.int .i64 0) (.int .i64 0) (.int .i64 0) (.slice (some ⟨g, 0, none⟩) 2 2)) < _
              rw [lpM_true HR0.out, lpM_true (HRD.out.new HR3.out h7 (only_new (by omega)))]
              omega
      · have HI := Lib.hid hI
        have HZ := Lib.hid hI.z
        have zc := hI.z.cell
        have zf := hI.z.frozen
        have zl := hI.z.lt
        have fc := hI.box.cell
        have fl := hI.box.lt
        have hFZ2 : F ≠ W.heap.size := by omega
        clear hI
        go_upto_region 6 with fail
        have HB7 := Lib.hid (set7_blk HZ.out (.int .i64 x.op) (.string x.name) (.int .i64 x.cmp) (.int .i64 x.val) (.int .i64 x.lo) (.int .i64 x.hi) (.slice B mm d))
        have HF7 := Lib.hid (set7_fr wr W.heap.size (.int .i64 x.op) (.string x.name) (.int .i64 x.cmp) (.int .i64 x.val) (.int .i64 x.lo) (.int .i64 x.hi) (.slice B mm d))
        go_wp2_with fail
        change bodyPost _ _ _ _ _ (set7 wr W.heap.size (.int .i64 x.op) (.string x.name) (.int .i64 x.cmp) (.int .i64 x.val) (.int .i64 x.lo) (.int .i64 x.hi) (.slice B mm d))
        generalize set7 wr W.heap.size (.int .i64 x.op) (.string x.name) (.int .i64 x.cmp) (.int .i64 x.val) (.int .i64 x.lo) (.int .i64 x.hi) (.slice B mm d) = W7 at *
        have HS := HB7.out.cell
        refine bodyPost_ret (v := .tuple #[.agg #[.int .i64 x.op, .string x.name, .int .i64 x.cmp, .int .i64 x.val, .int .i64 x.lo, .int .i64 x.hi, .slice B mm d], .bool false]) (by simp [results, Tryd.results131, go_sem, HS]) rfl ?_
        rw [HI.out.q]
        exact ⟨x, B, mm, d, rfl, bad_done7 HRD.out HI.out.bad.fr HF7.out HI.out.bad⟩
set_option maxRecDepth 100000 in
set_option maxHeartbeats 4000000 in
theorem loop_and (R : Nat) (A : Option Addr) (c : Nat) (toks : List (TK × Nat)) (ht : Toks toks) (n : Nat) (hone : SideOk 195 (4 + 1) R A c toks (gP n)) (W : World) (b1 b2 b3 k : Nat) (h : Rdr W R A c toks k 0 0) (hk : k < toks.length) (hne : ¬ gP (n + 1) (.lev 4 (remT toks k)) = .out)
    (h1 : Blk W b1 148 #[.func (.func 195) #[] #[]]) (h2 : Blk W b2 9 #[.string ⟨#[38]⟩]) (h3 : Blk W b3 3 #[.int .i64 5]) (n1 : b1 ≠ R) (n2 : b2 ≠ R) (n3 : b3 ≠ R) :
    Calls Tryd.prog 131 #[.pointer (some ⟨R, 0, none⟩), .pointer (some ⟨b1, 0, none⟩), .pointer (some ⟨b2, 0, none⟩), .pointer (some ⟨b3, 0, none⟩)] W (SideR W R A c toks (gP (n + 1) (.lev 4 (remT toks k)))) := by
  have hR := h.blk.lt
  have hOR : ¬ Only R W.heap.size := only_ne hR
  have H0 := Lib.hid (fun X (hf : Fr Nob W X) => h.fr hf)
  have HRD := Lib.hid h
  have HN1 := Lib.hid (fun X (hf : Fr (Only R) W X) => h1.fr hf n1)
  have HN2 := Lib.hid (fun X (hf : Fr (Only R) W X) => h2.fr hf n2)
  have HN3 := Lib.hid (fun X (hf : Fr (Only R) W X) => h3.fr hf n3)
  have HONE := Lib.hid hone
  have HP := Lib.hid (fun X x B n d y C m e => rd_pair X 5 0 0 x B n d y C m e)
  unfold fval nd1 at HP
  have L1 := Lib.hid h1.lt
  have L3 := Lib.hid h3.lt
  have c1 := h1.cell 0
  have l1 := h1.lt
  obtain ⟨q, hq⟩ : ∃ q, gP (n + 1) (.lev 4 (remT toks k)) = q := ⟨_, rfl⟩
  have HQ := Lib.hid (show (gP n (.lev (4 + 1) (remT toks k))).bind (fun x ks r => gP n (.lp 4 x ks r)) = q from hq)
  rw [hq] at hne ⊢
  have HNE := Lib.hid hne
  have HK := Lib.hid hk
  clear h hq hne hone h1 h2 h3 n1 n2 n3 hk
  go_enter Tryd.func131, Tryd.ntmps131
  go_upto_region 1 with fail
  go_cut [7, 8] (fun s ok wm => ∃ F, s = .pointer (some ⟨F, 0, none⟩) ∧ LpR W R A c toks F n 4 q ok wm)
  case first =>
    cases hq : gP n (.lev (4 + 1) (remT toks k)) with
    | out => exact absurd (by rw [← HQ.out, hq]; rfl) HNE.out
    | bad er r =>
      have HON := Lib.hid (side_bad HONE.out HK.out hq)
      have HE := Lib.hid (show q = .bad er r by rw [← HQ.out, hq]; rfl)
      unfold fval at HON
      clear hq
      go_wp2_with (first
        | ((go_at_call 195); (with_reducible refine (HON.out _ ?_).mono ?_); exact H0.out _ ((Fr.refl _ _).alloc _); rintro en w1 ⟨x, B, m, d, rfl, hg⟩; have HG := Lib.hid hg; have HZ := Lib.hid ((Blk.new W 28 #[.int .i64 0, .string ⟨#[]⟩, .int .i64 0, .int .i64 0, .int .i64 0, .int .i64 0, .slice none 0 0]).fr hg.fr hOR); have zl := HZ.out.lt; clear hg))
      go_meet
      exact ⟨_, rfl, zl, .inr ⟨rfl, x, B, m, d, er, r, HE.out, Blk.new _ _ _, HZ.out.alloc _, HG.out.rd.elim fun k' h => ⟨⟨k', h.elim fun kk h => ⟨kk, h.elim fun h1 h2 => ⟨h1, h2.1, h2.2.fr ((Fr.refl _ _).alloc _)⟩⟩⟩, (((Fr.refl (Only R) W).alloc _).call HG.out.fr (fun _ h _ => h)).alloc _⟩⟩⟩
    | ok x ks r =>
      obtain ⟨k1, hk1, rfl⟩ := lev_pos ht HK.out hq
      have HON := Lib.hid (side_ok HONE.out HK.out hq hk1)
      have HE := Lib.hid (show gP n (.lp 4 x ks (remT toks k1)) = q by rw [← HQ.out, hq]; rfl)
      unfold fval at HON
      clear hq
      go_wp2_with (first
        | ((go_at_call 195); (with_reducible refine (HON.out _ ?_).mono ?_); exact H0.out _ ((Fr.refl _ _).alloc _); rintro en w1 ⟨B, d, f, rfl, hg⟩; have HG := Lib.hid hg; have HZ := Lib.hid ((Blk.new W 28 #[.int .i64 0, .string ⟨#[]⟩, .int .i64 0, .int .i64 0, .int .i64 0, .int .i64 0, .slice none 0 0]).fr hg.fr hOR); have zl := HZ.out.lt; clear hg))
      go_meet
      exact ⟨_, rfl, zl, .inl ⟨rfl, k1, n, x, B, d, f, hk1, Nat.le_refl _, by rw [HG.out.tr]; exact HE.out, Blk.new _ _ _, HZ.out.alloc _, (sl_fr HG.out.sl.lt ((Fr.refl Nob _).alloc _) (fun _ _ e => e)).mono (fun k hk => ⟨by have := hk.1; simpa using this, Nat.ne_of_lt hk.2⟩), HG.out.rd.fr ((Fr.refl _ _).alloc _), (((Fr.refl (Only R) W).alloc _).call HG.out.fr (fun _ h _ => h)).alloc _⟩⟩
  case rest =>
    obtain ⟨F, rfl, hlp⟩ := hcut
    have HLP := Lib.hid hlp
    have hFZ : W.heap.size < F := hlp.1
    clear hlp HQ
    go_wp2_with fail
    go_loopw [8] (fun ok wr => LpR W R A c toks F n 4 q ok wr) (fun ok wr => lpM toks.length R ok wr)
    case atStart => exact HLP.out
    case round =>
      obtain ⟨_, (⟨rfl, k2, m, x, B, d, f, hI⟩ | ⟨rfl, x, B, mm, d, er, r, hI⟩)⟩ := hrel
      · have HI := Lib.hid hI
        have HZ := Lib.hid hI.z
        have HB := Lib.hid hI.box
        have HFR := Lib.hid hI.fr
        have HR1 := Lib.hid hI.rd
        have HR0 := Lib.hid hI.rd
        have HSL := Lib.hid hI.sl
        have zc := hI.z.cell
        have zf := hI.z.frozen
        have zl := hI.z.lt
        have fc := hI.box.cell
        have ff := hI.box.frozen
        have fl := hI.box.lt
        have hFZ2 : F ≠ W.heap.size := by omega
        have hOF : ¬ Only R F := only_ne (by omega)
        have c2 := (HN2.out _ hI.fr).cell 0
        have hk2 := hI.hk
        obtain ⟨m', rfl⟩ : ∃ m', m = m' + 1 := by
          cases m with
          | zero => exact absurd hI.read.symm HNE.out
          | succ m' => exact ⟨m', rfl⟩
        have hm : m' ≤ n := by have := hI.fuel; omega
        have hr : (if sgn (remT toks k2) (lsign 4) then (gP m' (.lev (4 + 1) (remT toks k2).tail)).bind fun y js r => gP m' (.lp 4 (nd1 (lop 4) 0 0) (two x f.tr y js) r) else .ok x f.tr (remT toks k2)) = q := hI.read
        rw [sgn_rem hk2, show lsign 4 = [38] from rfl, show lop 4 = 5 from rfl, remT_tail] at hr
        clear hI
        cases hs : tsg toks[k2] [38]
        · have HT := Lib.hid (fun X (h : Rdr X R A c toks k2 0 0) => take_no h ht hk2 hs)
          rw [hs, if_neg (by simp)] at hr
          have HE := Lib.hid hr
          clear hr hs
          go_upto_region 6 with (first
            | ((go_at_call 132); (with_reducible refine (HT.out _ HR1.out).mono ?_); rintro en w1 ⟨rfl, hr1, hf1⟩; replace HZ := Lib.hid (HZ.out.fr hf1 hOR); replace HB := Lib.hid (HB.out.fr hf1 hOF); replace HFR := Lib.hid (HFR.out.call hf1 (fun _ h _ => h)); replace HR1 := Lib.hid hr1; replace HSL := Lib.hid (sl_fr HSL.out hf1 (pf_only hR)); replace zc := HZ.out.cell; replace zf := HZ.out.frozen; replace zl := HZ.out.lt; replace fc := HB.out.cell; replace fl := HB.out.lt; clear hr1 hf1 ff c2))
          have HB7 := Lib.hid (set7_blk HZ.out (.int .i64 x.op) (.string x.name) (.int .i64 x.cmp) (.int .i64 x.val) (.int .i64 x.lo) (.int .i64 x.hi) (.slice B f.len d))
          have HF7 := Lib.hid (set7_fr w1 W.heap.size (.int .i64 x.op) (.string x.name) (.int .i64 x.cmp) (.int .i64 x.val) (.int .i64 x.lo) (.int .i64 x.hi) (.slice B f.len d))
          go_wp2_with fail
          change bodyPost _ _ _ _ _ (set7 w1 W.heap.size (.int .i64 x.op) (.string x.name) (.int .i64 x.cmp) (.int .i64 x.val) (.int .i64 x.lo) (.int .i64 x.hi) (.slice B f.len d))
          generalize set7 w1 W.heap.size (.int .i64 x.op) (.string x.name) (.int .i64 x.cmp) (.int .i64 x.val) (.int .i64 x.lo) (.int .i64 x.hi) (.slice B f.len d) = W7 at *
          have HS := HB7.out.cell
          refine bodyPost_ret (v := .tuple #[.agg #[.int .i64 x.op, .string x.name, .int .i64 x.cmp, .int .i64 x.val, .int .i64 x.lo, .int .i64 x.hi, .slice B f.len d], .bool true]) (by simp [results, Tryd.results131, go_sem, HS]) rfl ?_
          have hd := done7 HRD.out HFR.out HF7.out HR1.out
          rw [← HE.out]
          exact ⟨B, d, f, rfl, k2, hk2, rfl, rfl, done7_sl (HSL.out.mono fun _ h => h.1) HF7.out, hd.1, hd.2⟩
        · have HT := Lib.hid (fun X (h : Rdr X R A c toks k2 0 0) => take_yes h ht hk2 hs)
          have hk3 := tsg_next ht hk2 hs
          rw [hs, if_pos rfl] at hr
          cases hq2 : gP m' (.lev (4 + 1) (remT toks (k2 + 1))) with
          | out => exact absurd (by rw [← hr, hq2]; rfl) HNE.out
          | bad er r =>
            have HON := Lib.hid (side_bad (HONE.out.more hm) hk3 hq2)
            have HE := Lib.hid (show q = .bad er r by rw [← hr, hq2]; rfl)
            unfold fval at HON
            clear hr hq2 hs
            go_upto_region 5 with (first
              | ((go_at_call 132); (with_reducible refine (HT.out _ HR1.out).mono ?_); rintro en w1 ⟨rfl, hr1, hf1⟩; replace HZ := Lib.hid (HZ.out.fr hf1 hOR); replace HB := Lib.hid (HB.out.fr hf1 hOF); replace HFR := Lib.hid (HFR.out.call hf1 (fun _ h _ => h)); replace HR1 := Lib.hid hr1; replace HSL := Lib.hid (sl_fr HSL.out hf1 (pf_only hR)); replace zc := HZ.out.cell; replace zf := HZ.out.frozen; replace zl := HZ.out.lt; replace fc := HB.out.cell; replace ff := HB.out.frozen; replace fl := HB.out.lt; have c1 := (HN1.out _ HFR.out).cell 0; have l1b := (HN1.out _ HFR.out).lt; clear hr1 hf1 c2)
              | ((go_at_call 195); (with_reducible refine (HON.out _ (HR1.out.fr ((Fr.refl _ _).alloc _))).mono ?_); rintro en w2 ⟨y, C, mm, e, rfl, hg⟩; have HG := Lib.hid hg; have hgf := hg.fr; have HO := Lib.hid ((Blk.new w1 28 #[.int .i64 0, .string ⟨#[]⟩, .int .i64 0, .int .i64 0, .int .i64 0, .int .i64 0, .slice none 0 0]).fr hgf (only_ne (by omega))); replace HZ := Lib.hid ((HZ.out.alloc _).fr hgf hOR); replace HB := Lib.hid ((HB.out.alloc _).fr hgf hOF); replace HFR := Lib.hid ((HFR.out.alloc _).call hgf (fun _ h _ => h)); replace HSL := Lib.hid (sl_fr (sl_fr HSL.out.lt ((Fr.refl Nob _).alloc _) (fun _ _ e => e)) hgf (fun k hk => pf_only hR k hk.1)); have HOW := Lib.hid (And.intro fl zl); have hO2 : w1.heap.size ≠ F := (by omega); have hO3 : w1.heap.size ≠ W.heap.size := (by omega); replace zc := HZ.out.cell; replace zf := HZ.out.frozen; replace zl := HZ.out.lt; replace fc := HB.out.cell; replace ff := HB.out.frozen; replace fl := HB.out.lt; have oc := HO.out.cell; have of_ := HO.out.frozen; have ol := HO.out.lt; clear hg hgf c1))
            obtain ⟨wb, hwb⟩ : ∃ wb, set7 w2 w1.heap.size (.int .i64 y.op) (.string y.name) (.int .i64 y.cmp) (.int .i64 y.val) (.int .i64 y.lo) (.int .i64 y.hi) (.slice C mm e) = wb := ⟨_, rfl⟩
            change Code.wp _ _ _ _ (set7 w2 w1.heap.size (.int .i64 y.op) (.string y.name) (.int .i64 y.cmp) (.int .i64 y.val) (.int .i64 y.lo) (.int .i64 y.hi) (.slice C mm e))
            have h7 := set7_fr w2 w1.heap.size (.int .i64 y.op) (.string y.name) (.int .i64 y.cmp) (.int .i64 y.val) (.int .i64 y.lo) (.int .i64 y.hi) (.slice C mm e)
            have hO7 := set7_blk HO.out (.int .i64 y.op) (.string y.name) (.int .i64 y.cmp) (.int .i64 y.val) (.int .i64 y.lo) (.int .i64 y.hi) (.slice C mm e)
            rw [hwb] at h7 hO7 ⊢
            clear hwb
            have H7 := Lib.hid h7
            have hOZ := HOW.out
            replace HZ := Lib.hid (HZ.out.fr h7 (by unfold Only; omega))
            replace HB := Lib.hid (HB.out.fr h7 (by unfold Only; omega))
            replace HFR := Lib.hid (HFR.out.call h7 (fun i hi hlt => by unfold Only at hi; omega))
            replace HSL := Lib.hid (sl_fr HSL.out h7 (fun k hk e => Nat.ne_of_lt hk.2 e))
            replace zc := HZ.out.cell
            replace zf := HZ.out.frozen
            replace zl := HZ.out.lt
            replace fc := HB.out.cell
            replace ff := HB.out.frozen
            replace fl := HB.out.lt
            have c3 := (HN3.out _ HFR.out).cell 0
            replace oc := hO7.cell
            clear of_ ol zc zf zl
            replace HG := Lib.hid (HG.out.new HRD.out h7 (only_new (by omega)) HFR.out)
            clear h7 hO7
            go_wp2_with ((go_at_call 133); (with_reducible refine (HP.out _ _ _ _ _ _ _ _ _).mono ?_); rintro en w3 ⟨g, rfl, hgw, hgb, hf4⟩; replace HZ := Lib.hid (HZ.out.fr hf4 (fun e => e)); replace HB := Lib.hid (HB.out.fr hf4 (fun e => e)); replace HFR := Lib.hid (HFR.out.call hf4 (fun _ h _ => h.elim)); replace HG := Lib.hid (HG.out.nob hf4); replace fc := HB.out.cell; replace ff := HB.out.frozen; replace fl := HB.out.lt; clear hgb hf4 oc c3)
            go_roundw
            case rel =>
              have h7 := set7_fr w3 F (.int .i64 5) (.string ⟨#[]⟩) (.int .i64 0) (.int .i64 0) (.int .i64 0) (.int .i64 0) (.slice (some ⟨g, 0, none⟩) 2 2)
              have hb7 := set7_blk HB.out (.int .i64 5) (.string ⟨#[]⟩) (.int .i64 0) (.int .i64 0) (.int .i64 0) (.int .i64 0) (.slice (some ⟨g, 0, none⟩) 2 2)
              change LpR _ _ _ _ _ _ _ _ _ _ (set7 w3 F (.int .i64 5) (.string ⟨#[]⟩) (.int .i64 0) (.int .i64 0) (.int .i64 0) (.int .i64 0) (.slice (some ⟨g, 0, none⟩) 2 2))
              exact ⟨hFZ, .inr ⟨rfl, nd1 5 0 0, some ⟨g, 0, none⟩, 2, 2, er, r, HE.out, hb7, HZ.out.fr h7 (by unfold Only; omega), HG.out.new HRD.out h7 (only_new (by omega)) (HFR.out.call h7 (fun i hi hlt => by unfold Only at hi; omega))⟩⟩
            case measure =>
              rw [lpM_true HR0.out]
              show 0 < _
              omega
          | ok y js r =>
            obtain ⟨k4, hk42, hk4, rfl⟩ := lev_pos' ht hk3 hq2
            have HON := Lib.hid (side_ok (HONE.out.more hm) hk3 hq2 hk4)
            have HE := Lib.hid (show gP m' (.lp 4 (nd1 5 0 0) (two x f.tr y js) (remT toks k4)) = q by rw [← hr, hq2]; rfl)
            unfold fval at HON
            clear hr hq2 hs
            go_upto_region 5 with (first
              | ((go_at_call 132); (with_reducible refine (HT.out _ HR1.out).mono ?_); rintro en w1 ⟨rfl, hr1, hf1⟩; replace HZ := Lib.hid (HZ.out.fr hf1 hOR); replace HB := Lib.hid (HB.out.fr hf1 hOF); replace HFR := Lib.hid (HFR.out.call hf1 (fun _ h _ => h)); replace HR1 := Lib.hid hr1; replace HSL := Lib.hid (sl_fr HSL.out hf1 (pf_only hR)); replace zc := HZ.out.cell; replace zf := HZ.out.frozen; replace zl := HZ.out.lt; replace fc := HB.out.cell; replace ff := HB.out.frozen; replace fl := HB.out.lt; have c1 := (HN1.out _ HFR.out).cell 0; have l1b := (HN1.out _ HFR.out).lt; clear hr1 hf1 c2)
              | ((go_at_call 195); (with_reducible refine (HON.out _ (HR1.out.fr ((Fr.refl _ _).alloc _))).mono ?_); rintro en w2 ⟨C, e, f2, rfl, hg⟩; have HG := Lib.hid hg; have hgf := hg.fr; have HO := Lib.hid ((Blk.new w1 28 #[.int .i64 0, .string ⟨#[]⟩, .int .i64 0, .int .i64 0, .int .i64 0, .int .i64 0, .slice none 0 0]).fr hgf (only_ne (by omega))); replace HZ := Lib.hid ((HZ.out.alloc _).fr hgf hOR); replace HB := Lib.hid ((HB.out.alloc _).fr hgf hOF); replace HFR := Lib.hid ((HFR.out.alloc _).call hgf (fun _ h _ => h)); replace HSL := Lib.hid (sl_fr (sl_fr HSL.out.lt ((Fr.refl Nob _).alloc _) (fun _ _ e => e)) hgf (fun k hk => pf_only hR k hk.1)); have HOW := Lib.hid (And.intro fl zl); have hO2 : w1.heap.size ≠ F := (by omega); have hO3 : w1.heap.size ≠ W.heap.size := (by omega); replace zc := HZ.out.cell; replace zf := HZ.out.frozen; replace zl := HZ.out.lt; replace fc := HB.out.cell; replace ff := HB.out.frozen; replace fl := HB.out.lt; have oc := HO.out.cell; have of_ := HO.out.frozen; have ol := HO.out.lt; clear hg hgf c1))
            obtain ⟨wb, hwb⟩ : ∃ wb, set7 w2 w1.heap.size (.int .i64 y.op) (.string y.name) (.int .i64 y.cmp) (.int .i64 y.val) (.int .i64 y.lo) (.int .i64 y.hi) (.slice C f2.len e) = wb := ⟨_, rfl⟩
            change Code.wp _ _ _ _ (set7 w2 w1.heap.size (.int .i64 y.op) (.string y.name) (.int .i64 y.cmp) (.int .i64 y.val) (.int .i64 y.lo) (.int .i64 y.hi) (.slice C f2.len e))
            have h7 := set7_fr w2 w1.heap.size (.int .i64 y.op) (.string y.name) (.int .i64 y.cmp) (.int .i64 y.val) (.int .i64 y.lo) (.int .i64 y.hi) (.slice C f2.len e)
            have hO7 := set7_blk HO.out (.int .i64 y.op) (.string y.name) (.int .i64 y.cmp) (.int .i64 y.val) (.int .i64 y.lo) (.int .i64 y.hi) (.slice C f2.len e)
            rw [hwb] at h7 hO7 ⊢
            clear hwb
            have H7 := Lib.hid h7
            have hOZ := HOW.out
            replace HZ := Lib.hid (HZ.out.fr h7 (by unfold Only; omega))
            replace HB := Lib.hid (HB.out.fr h7 (by unfold Only; omega))
            replace HFR := Lib.hid (HFR.out.call h7 (fun i hi hlt => by unfold Only at hi; omega))
            replace HSL := Lib.hid (sl_fr HSL.out h7 (fun k hk e => Nat.ne_of_lt hk.2 e))
            replace zc := HZ.out.cell
            replace zf := HZ.out.frozen
            replace zl := HZ.out.lt
            replace fc := HB.out.cell
            replace ff := HB.out.frozen
            replace fl := HB.out.lt
            have c3 := (HN3.out _ HFR.out).cell 0
            replace oc := hO7.cell
            clear of_ ol zc zf zl
            have HR3 := Lib.hid (HRD.out.new HG.out.rd h7 (only_new (by omega)))
            have HS2 := Lib.hid ((sl_fr HG.out.sl h7 (fun k hk e => by unfold Only at e; simp at hk; omega)).mono (fun k hk => (⟨by simp at hk; omega, by simp at hk; omega⟩ : PF W.heap.size F k)))
            have HT2 := Lib.hid HG.out.tr
            have hwb2 := h7.size
            clear h7 hO7 HG
            go_wp2_with ((go_at_call 133); (with_reducible refine (HP.out _ _ _ _ _ _ _ _ _).mono ?_); rintro en w3 ⟨g, rfl, hgw, hgb, hf4⟩; replace HZ := Lib.hid (HZ.out.fr hf4 (fun e => e)); replace HB := Lib.hid (HB.out.fr hf4 (fun e => e)); replace HFR := Lib.hid (HFR.out.call hf4 (fun _ h _ => h.elim)); replace HR3 := Lib.hid (HR3.out.fr hf4); have HKS := Lib.hid (kids_two hgb (sl_fr (HSL.out.mono fun _ h => h.1) hf4 (fun _ _ e => e)) (sl_fr HS2.out hf4 (fun _ _ e => e)) (⟨by omega, by omega⟩ : PF W.heap.size F g)); replace fc := HB.out.cell; replace ff := HB.out.frozen; replace fl := HB.out.lt; clear hgb hf4 oc c3 HS2 HSL)
            go_roundw
            case rel =>
              have h7 := set7_fr w3 F (.int .i64 5) (.string ⟨#[]⟩) (.int .i64 0) (.int .i64 0) (.int .i64 0) (.int .i64 0) (.slice (some ⟨g, 0, none⟩) 2 2)
              have hb7 := set7_blk HB.out (.int .i64 5) (.string ⟨#[]⟩) (.int .i64 0) (.int .i64 0) (.int .i64 0) (.int .i64 0) (.slice (some ⟨g, 0, none⟩) 2 2)
              change LpR _ _ _ _ _ _ _ _ _ _ (set7 w3 F (.int .i64 5) (.string ⟨#[]⟩) (.int .i64 0) (.int .i64 0) (.int .i64 0) (.int .i64 0) (.slice (some ⟨g, 0, none⟩) 2 2))
              exact ⟨hFZ, .inl ⟨rfl, k4, m', nd1 5 0 0, some ⟨g, 0, none⟩, 2, .cons x B d f (.cons y C e f2 .nil), hk4, hm, by rw [← HE.out, ← HT2.out]; rfl, hb7, HZ.out.fr h7 (by unfold Only; omega), sl_fr HKS.out h7 (fun k hk e => hk.2 e), HRD.out.new HR3.out h7 (only_new (by omega)), HFR.out.call h7 (fun i hi hlt => by unfold Only at hi; omega)⟩⟩
            case measure =>
              have h7 := set7_fr w3 F (.int .i64 5) (.string ⟨#[]⟩) (.int .i64 0) (.int .i64 0) (.int .i64 0) (.int .i64 0) (.slice (some ⟨g, 0, none⟩) 2 2)
              change lpM _ _ _ (set7 w3 F (.int .i64 5) (.string ⟨#[]⟩) (.int .i64 0) (.int .i64 0) (.int .i64 0) (.int .i64 0) (.slice (some ⟨g, 0, none⟩) 2 2)) < _
              rw [lpM_true HR0.out, lpM_true (HRD.out.new HR3.out h7 (only_new (by omega)))]
              omega
      · have HI := Lib.hid hI
        have HZ := Lib.hid hI.z
        have zc := hI.z.cell
        have zf := hI.z.frozen
        have zl := hI.z.lt
        have fc := hI.box.cell
        have fl := hI.box.lt
        have hFZ2 : F ≠ W.heap.size := by omega
        clear hI
        go_upto_region 6 with fail
        have HB7 := Lib.hid (set7_blk HZ.out (.int .i64 x.op) (.string x.name) (.int .i64 x.cmp) (.int .i64 x.val) (.int .i64 x.lo) (.int .i64 x.hi) (.slice B mm d))
        have HF7 := Lib.hid (set7_fr wr W.heap.size (.int .i64 x.op) (.string x.name) (.int .i64 x.cmp) (.int .i64 x.val) (.int .i64 x.lo) (.int .i64 x.hi) (.slice B mm d))
        go_wp2_with fail
        change bodyPost _ _ _ _ _ (set7 wr W.heap.size (.int .i64 x.op) (.string x.name) (.int .i64 x.cmp) (.int .i64 x.val) (.int .i64 x.lo) (.int .i64 x.hi) (.slice B mm d))
        generalize set7 wr W.heap.size (.int .i64 x.op) (.string x.name) (.int .i64 x.cmp) (.int .i64 x.val) (.int .i64 x.lo) (.int .i64 x.hi) (.slice B mm d) = W7 at *
        have HS := HB7.out.cell
        refine bodyPost_ret (v := .tuple #[.agg #[.int .i64 x.op, .string x.name, .int .i64 x.cmp, .int .i64 x.val, .int .i64 x.lo, .int .i64 x.hi, .slice B mm d], .bool false]) (by simp [results, Tryd.results131, go_sem, HS]) rfl ?_
        rw [HI.out.q]
        exact ⟨x, B, mm, d, rfl, bad_done7 HRD.out HI.out.bad.fr HF7.out HI.out.bad⟩
end Go.Proofs.YtfebkjoohnlifaaDoor
