/- The reference's Nodes, First, Check of a formula. -/
import Derived.Test.YtoegdmpmagbaiaaDoorFwrong
import Derived.Test.YtoegdmpmagbaiaaDoorFcheck
import Derived.Test.YtoegdmpmagbaiaaDoorOpen
namespace Go.Proofs.YtoegdmpmagbaiaaDoor
open Go.RowKit

def Fo.rows : Fo → List Value
  | .nil => []
  | .cons x A c ks rest => fcs x A ks.len c ++ (ks.rows ++ rest.rows)
theorem Fo.rows_len (f : Fo) : f.rows.length = f.tr.size * 7 := by
  induction f with
  | nil => rfl
  | cons x A c k r ihk ihr => simp [Fo.rows, Fo.tr, Tr.size, ihk, ihr, fcs_len]; omega
theorem nd_one (x : Nd) (A : Option Addr) (n c : Nat) : ∀ u ∈ fcs x A n c, u.oneCell' = true := by
  intro u hu; simp [fcs] at hu; rcases hu with rfl | rfl | rfl | rfl | rfl | rfl | rfl <;> rfl
theorem Fo.rows_one (f : Fo) : ∀ u ∈ f.rows, u.oneCell' = true := by
  induction f with
  | nil => intro u hu; cases hu
  | cons x A c k r ihk ihr =>
    intro u hu
    simp only [Fo.rows, List.mem_append] at hu
    rcases hu with hu | hu | hu
    · exact nd_one _ _ _ _ u hu
    · exact ihk u hu
    · exact ihr u hu
theorem elemRF : ElemT Tryd.prog 31 34 7 80 := ElemT.mk (z := .agg #[.int .i64 0, .string default, .int .i64 0, .int .i64 0, .int .i64 0, .int .i64 0, .slice none 0 0]) Tryd.underlying31 (by kernel_rfl) (by kernel_rfl) (by decide)
/-- What is laid for one node and its kids. -/
def nrow (x : Nd) (A : Option Addr) (c : Nat) (ks : Fo) : List Value := fcs x A ks.len c ++ ks.rows
theorem nrow_len (x : Nd) (A : Option Addr) (c : Nat) (ks : Fo) : (nrow x A c ks).length = (ks.tr.size + 1) * 7 := by simp [nrow, Fo.rows_len, fcs_len]; omega
/-- How far the nodes are gathered. -/
structure NdI (w wr : World) (A : Option Addr) (n c : Nat) (x : Nd) (B : Option Addr) (d : Nat) (ks : Fo) (k : Nat) : Prop where
  fr : Fr Nob w wr
  own : ∃ R, R ++ (ks.get k).rows = ks.rows ∧ wr.ownsRow (w.heap.size + 1) 34 7 (.slice A n c) n (fcs x B ks.len d ++ R)
  box : Blk wr w.heap.size 34 #[.int .i64 x.op, .string x.name, .int .i64 x.cmp, .int .i64 x.val, .int .i64 x.lo, .int .i64 x.hi, .slice B ks.len d]
  few : n = 1 + (ks.tr.size - (ks.get k).tr.size)
set_option maxRecDepth 100000 in
set_option maxHeartbeats 4000000 in
theorem ref_Nodes : ∀ (m : Nat) (N : Nat) (w : World) (x : Nd) (B : Option Addr) (d : Nat) (ks : Fo), ks.tr.size ≤ m → ks.tr.size ≤ 100000 → FoSl N w B d ks →
    Calls Tryd.prog 11 #[fval x B ks.len d] w fun e w' => ∃ A c, e = .returned (.slice A (ks.tr.size + 1) c) ∧ Sl w' 7 A (ks.tr.size + 1) c (nrow x B d ks) ∧ Fr Nob w w' := by
  intro m
  induction m using Nat.strongRecOn with
  | _ m ih =>
    intro N w x B d ks hm hb hs
    have IH := Lib.hid ih
    have HS := Lib.hid hs
    have hlen := ks.len_size
    clear ih hs
    unfold fval at *
    go_enter Tryd.func11, Tryd.ntmps11
    go_wp2_with (at_builtin; refine wpList_app rfl _ _ 31 rfl elemRF (base := w.heap.size + 1) (xs := []) (news := fcs x B ks.len d) rfl ?own rfl ?src ?one ?h63 ?hby ?hbase ?_)
    case own => exact ⟨rfl, .inl ⟨rfl, rfl⟩⟩
    case src => exact Sl.new1 (Blk.new_eq (by simp)) 7 1 rfl (by decide)
    case one => exact nd_one _ _ _ _
    case h63 => decide
    case hby => decide
    case hbase => simp
    intro A1 c1 w1 hown1 hg1 _
    have HI := Lib.hid (show NdI w w1 A1 1 c1 x B d ks 0 from ⟨(((Fr.refl Nob w).alloc _).alloc _).grown hg1 (fun k e => by cases e), ⟨[], by rw [Fo.get_zero]; rfl, by rw [List.append_nil]; exact hown1⟩, ((Blk.new _ _ _).alloc _).grown hg1 (by simp), by rw [Fo.get_zero]; omega⟩)
    clear hown1 hg1
    go_wp2_with fail
    go_loopw [3, 4] (fun s i wr => ∃ (k : Nat) (A : Option Addr) (n c : Nat), k ≤ ks.len ∧ i = .int .i64 k ∧ s = .slice A n c ∧ Hid (NdI w wr A n c x B d ks k)) (fun _ i _ => ks.len - (intOf i).toNat)
    case atStart => exact ⟨0, _, _, _, Nat.zero_le _, rfl, rfl, HI⟩
    case round =>
      obtain ⟨k, A, n, c, hk, rfl, rfl, hi⟩ := hrel
      have c6 : wr.cell? ⟨w.heap.size, 6, none⟩ = some (.slice B ks.len d) := hi.out.box.cell 6
      have hbl := Blk.lt hi.out.box
      by_cases hlt : k < ks.len
      · have hI : (k : Int) < ks.len := by omega
        have hI3 : 0 ≤ (k : Int) := by omega
        obtain ⟨b, off, y, B2, d2, js, rs, K⟩ := (HS.out.fr hi.out.fr).kid hlt
        obtain ⟨d0, d1, d2', d3, d4, d5, d6⟩ := K.nd
        obtain rfl := K.slice
        have hlt2 := K.lt
        have hsz := K.size
        have hg := K.get
        have hg2 := Fo.get_succ hg
        have HC := Lib.hid (IH.out js.tr.size (by omega) N wr y B2 d2 js (Nat.le_refl _) (by omega) K.sl)
        have HRW := Lib.hid (show (ks.get k).rows = nrow y B2 d2 js ++ (ks.get (k + 1)).rows by rw [hg, hg2]; simp [Fo.rows, nrow])
        have HFW := Lib.hid hi.out.few
        have hn1 : n ≤ 100001 := by have := hi.out.few; omega
        have HSZ := Lib.hid (show (ks.get k).tr.size = js.tr.size + 1 + (ks.get (k + 1)).tr.size ∧ (ks.get k).tr.size ≤ ks.tr.size from ⟨by rw [hg2, hg]; rfl, by rw [hg]; exact hsz⟩)
        obtain ⟨R, hR, hown⟩ := hi.out.own
        have HR := Lib.hid hR
        have HOW := Lib.hid hown
        have HRO := Lib.hid (own_base hown)
        have HRL := Lib.hid (hown.lt)
        have HFR := Lib.hid hi.out.fr
        have HBX := Lib.hid hi.out.box
        clear hg hg2 K hR hown hi
        go_wp2_with first | ((go_at_call 11); refine (HC.out).mono ?_; rintro e w2 ⟨A3, c3, rfl, hs3, hf3⟩; have HS3 := Lib.hid hs3; have HF3 := Lib.hid hf3; clear hs3 hf3) | (at_builtin; refine wpList_app rfl _ _ 31 rfl elemRF (base := w.heap.size + 1) (xs := fcs x (some ⟨b, off, none⟩) ks.len d ++ R) (news := nrow y B2 d2 js) rfl ?own rfl HS3.out ?one ?h63 ?hby ?hbase ?_)
        case own => exact own_fr HOW.out HF3.out (fun _ _ _ _ e => e)
        case one => intro u hu; exact Fo.rows_one (.cons y B2 d2 js .nil) u (by simpa [Fo.rows, nrow] using hu)
        case h63 => unfold maxLen; omega
        case hby => omega
        case hbase => have := HF3.out.size; omega
        intro A4 c4 w4 hown4 hg4 _
        have HI2 := Lib.hid (show NdI w w4 A4 (n + (js.tr.size + 1)) c4 x (some ⟨b, off, none⟩) d ks (k + 1) from
          ⟨(HFR.out.call HF3.out (fun _ h _ => h)).grown hg4 (fun k e hlt => by have := HRO.out k e; omega), ⟨R ++ nrow y B2 d2 js, by rw [List.append_assoc, ← HRW.out, HR.out], by have h := hown4; simpa [List.append_assoc] using h⟩,
            (HBX.out.fr HF3.out (fun e => e)).grown hg4 (fun e => by have := HRO.out _ e; omega), by have h1 := HFW.out; have h2 := HSZ.out; omega⟩)
        clear hown4 hg4
        go_wp2_with fail
        go_roundw
        case rel => exact ⟨k + 1, A4, n + (js.tr.size + 1), c4, by omega, by go_num, rfl, HI2⟩
        case measure => simp [intOf]; omega
      · have HE := Lib.hid (show ks.get k = .nil from Fo.get_end (by omega))
        have HN := Lib.hid (show n = ks.tr.size + 1 by rw [hi.out.few, HE.out]; simp [Fo.tr, Tr.size]; omega)
        obtain ⟨R, hR, hown⟩ := hi.out.own
        rw [HE.out] at hR
        have HR := Lib.hid (show R = ks.rows by simpa [Fo.rows] using hR)
        have HOW := Lib.hid hown
        clear hR hown
        go_wp2_with fail
        go_ret
        obtain rfl := HN.out
        have h := HOW.out
        rw [HR.out] at h
        exact ⟨A, c, rfl, Sl.of_own h, hi.out.fr⟩

/-- The nodes' cells, as a list of rows. -/
theorem Fo.rows_vis : ∀ (f : Fo) (b off d : Nat), f.rows = (f.vis b off d).flatMap fun v => fcs v.x v.A v.n v.c
  | .nil, _, _, _ => rfl
  | .cons x A c ks rest, b, off, d => by simp [Fo.rows, Fo.vis, Fo.rows_vis ks (ab A) (ao A) (d + 1), Fo.rows_vis rest b (off + 7) d]
def vcs (v : Vis) : List Value := fcs v.x v.A v.n v.c
theorem vcs_len (v : Vis) : (vcs v).length = 7 := rfl
theorem nrow_vis (x : Nd) (A : Option Addr) (c : Nat) (ks : Fo) : nrow x A c ks = ((Fo.cons x A c ks .nil).vis 0 0 1).flatMap vcs := by
  have h := Fo.rows_vis (.cons x A c ks .nil) 0 0 1
  rw [show (fun v : Vis => fcs v.x v.A v.n v.c) = vcs from rfl] at h
  rw [← h]
  simp [nrow, Fo.rows]
theorem vis_cells {w : World} {A : Option Addr} {c : Nat} {l : List Vis} {k : Nat} (h : Sl w 7 A l.length c (l.flatMap vcs)) (hk : k < l.length) : ∃ b off, A = some ⟨b, off, none⟩ ∧ b < w.heap.size ∧ NdAt w b (off + k * 7) l[k].x l[k].A l[k].n l[k].c := by
  obtain ⟨b, off, hA, hb, hc⟩ := Sl.row (size := 7) vcs_len h hk
  exact ⟨b, off, hA, hb, NdAt.of fun j u hu => by rw [Nat.add_assoc]; exact hc j u hu⟩
end Go.Proofs.YtoegdmpmagbaiaaDoor
