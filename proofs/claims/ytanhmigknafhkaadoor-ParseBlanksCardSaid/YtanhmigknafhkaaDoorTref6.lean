/- The reference's tokens of a text. -/
import Derived.Test.YtanhmigknafhkaaDoorTref3
import Derived.Test.YtanhmigknafhkaaDoorTref5
namespace Go.Proofs.YtanhmigknafhkaaDoor
open Go.RowKit Go.Shelf

theorem ref_One (w : World) (s : ByteArray) (at_ : Nat) (ha : at_ < s.size) (hs : s.size ≤ 100000) :
    Calls Tryd.prog 44 #[.string s, .int .i64 at_] w fun e w' => e = .returned (oneV (nextT (s.data.toList.drop at_)) at_) ∧ Fr Nob w w' := by
  cases hsm : smallB s[at_]
  · rcases Nat.eq_zero_or_pos (numLen (s.data.toList.drop at_)) with h | h
    · exact ref_One_sign w s at_ ha hs hsm h
    · exact ref_One_num w s at_ ha hs hsm h
  · exact ref_One_word w s at_ ha hs hsm

theorem elemRef : ElemT Tryd.prog 50 55 4 40 := ElemT.mk (z := .agg #[.int .i64 0, .string default, .int .i64 0, .int .i64 0]) Tryd.underlying50 (by kernel_rfl) (by kernel_rfl) (by decide)
/-- The tokens that are being made. -/
structure RfW (w wr : World) (A : Option Addr) (c : Nat) (o : List (TK × Nat)) : Prop where
  fr : Fr Nob w wr
  own : wr.ownsRow w.heap.size 55 4 (.slice A o.length c) o.length (o.flatMap tcs)
section
variable {w wr w1 : World} {A : Option Addr} {c : Nat} {o : List (TK × Nat)}
theorem RfW.pure (h : RfW w wr A c o) (hf : Fr Nob wr w1) : RfW w w1 A c o := ⟨h.fr.call hf (fun _ h _ => h), own_fr h.own hf (fun _ _ _ _ e => e)⟩
theorem RfW.own_al (h : RfW w wr A c o) (ob : Obj) {n : Nat} (hn : n = o.length) : (wr.alloc ob).ownsRow w.heap.size 55 4 (.slice A n c) n (tcl o) := by
  subst hn; exact (h.pure ((Fr.refl Nob wr).alloc ob)).own
theorem RfW.app {A' : Option Addr} {c' n : Nat} (h : RfW w wr A c o) (x : TK × Nat) (hown : w1.ownsRow w.heap.size 55 4 (.slice A' n c') n (tcl o ++ tcs x)) (hn : n = (o ++ [x]).length) (hg : wr.grownBy w1 (A.map (·.block))) : RfW w w1 A' c' (o ++ [x]) := by
  subst hn
  refine ⟨h.fr.grown hg (fun k hk hlt => by have := own_base h.own k hk; omega), ?_⟩
  rw [List.flatMap_append]
  simpa [tcl] using hown
theorem RfW.row_lt (h : RfW w wr A c o) : ∀ k, A.map (·.block) = some k → k < wr.heap.size := by
  intro k hk
  exact (h.own.lt k (by cases A <;> simp_all [Value.ownBlock])).2
end
set_option maxRecDepth 100000 in
set_option maxHeartbeats 8000000 in
theorem ref_Read (w : World) (s : ByteArray) (hs : s.size ≤ 9223372036854775807) :
    Calls Tryd.prog 24 #[.string s] w fun e w' => ∃ A c, e = .returned (.tuple #[.slice A (readT s.data.toList).2.length c, .int .i64 (readT s.data.toList).1.1, .int .i64 (readT s.data.toList).1.2]) ∧ Sl w' 4 A (readT s.data.toList).2.length c ((readT s.data.toList).2.flatMap tcs) ∧ Fr Nob w w' := by
  by_cases h512 : 512 < s.size
  · have hI : (512 : Int) < s.size := by omega
    have HR := Lib.hid (show readT s.data.toList = ((13, 0), []) by unfold readT; rw [ba_len, if_pos h512])
    clear h512
    go_enter Tryd.func24, Tryd.ntmps24
    go_wp2_with fail
    go_ret3
    rw [HR.out]
    exact ⟨none, 0, rfl, Sl.none_ _ _, Fr.refl _ _⟩
  · have hI : ¬ (512 : Int) < s.size := by omega
    go_enter Tryd.func24, Tryd.ntmps24
    go_wp2_with fail
    go_loopw [5, 6] (fun sv i wr => ∃ (A : Option Addr) (c : Nat) (o : List (TK × Nat)) (at_ : Nat), sv = .slice A o.length c ∧ i = .int .i64 at_ ∧ Hid (RfW w wr A c o) ∧ Hid (RI s.data.toList at_ o)) (fun _ i _ => s.size - (intOf i).toNat)
    case atStart => exact ⟨none, 0, [], 0, rfl, rfl, Lib.hid ⟨Fr.refl _ _, ⟨rfl, .inl ⟨rfl, rfl⟩⟩⟩, Lib.hid (RI.start _)⟩
    case round =>
      obtain ⟨A, c, o, at_, rfl, rfl, hw, hri⟩ := hrel
      have hle := hri.out.le
      have hfw := hri.out.few
      rw [ba_len] at hle
      by_cases hlt : at_ < s.size
      · have hltI : (at_ : Int) < s.size := by omega
        have hll : at_ < s.data.toList.length := by rw [ba_len]; exact hlt
        have HBK := Lib.hid (fun W => ref_Blank W s[at_])
        cases hb : blankB s[at_]
        · rw [hb] at HBK
          obtain ⟨⟨pe, T⟩, hp⟩ : ∃ p, nextT (s.data.toList.drop at_) = p := ⟨_, rfl⟩
          have HN := Lib.hid (fun W => ref_One W s at_ hlt (by omega))
          rw [hp] at HN
          by_cases h0 : pe = 0
          · subst h0
            have hlen := next_text (l := s.data.toList.drop at_) (by rw [hp])
            rw [hp, List.length_drop, ba_len] at hlen
            have HT := Lib.hid (hri.out.tok hll hb hp)
            rw [show oneV (0, T) at_ = .tuple #[.agg #[.int .i64 T.kind, .string ⟨T.text.toArray⟩, .int .i64 T.num, .int .i64 at_], .int .i64 0] from rfl] at HN
            clear hb hp
            simp only at hlen
            have hszT : (ByteArray.mk T.text.toArray).size = T.text.length := by simp [ByteArray.size]
            have HSZ := Lib.hid hszT
            clear hszT
            have HLT := Lib.hid (hw.out.row_lt)
            go_wp2_with ((go_at_call 43); refine (HBK.out _).mono ?_; rintro e w' ⟨rfl, rfl⟩)
            refine (HN.out _).mono ?_
            rintro e w1 ⟨rfl, hf⟩
            have HW1 := Lib.hid (hw.out.pure hf)
            have hsz1 := hf.size
            clear hf HN
            go_wp2_with (at_builtin; refine wpList_app rfl _ _ 50 rfl elemRef (base := w.heap.size) (xs := tcl o) (news := tcs (T, at_)) rfl ?own rfl ?src ?one ?h63 ?hby ?hbase ?_)
            case own => exact ((HW1.out.pure ((Fr.refl Nob _).alloc _)).own_al _ rfl)
            case src => exact Sl.new1 (Blk.new_eq (by simp)) 4 1 rfl (by decide)
            case one => exact tcs_one _
            case h63 => unfold maxLen; omega
            case hby => omega
            case hbase => have h1 := HW1.out.fr.size; simp at h1 ⊢; omega
            intro A2 c2 w2 hown2 hg2 _
            have HW2 := Lib.hid (((HW1.out.pure ((Fr.refl Nob _).alloc _)).pure ((Fr.refl Nob _).alloc _)).app (T, at_) hown2 (by simp) hg2)
            have hbk := (((Blk.new w1 55 #[.int .i64 T.kind, .string ⟨T.text.toArray⟩, .int .i64 T.num, .int .i64 at_]).alloc _).grown hg2 (fun e => by have := HLT.out _ e; omega)).cell
            clear hown2 hg2
            go_wp2_with fail
            go_roundw
            case rel => exact ⟨A2, c2, o ++ [(T, at_)], at_ + T.text.length, by simp, vint (by omega), HW2, HT⟩
            case measure => simp [intOf]; omega
          · have hpe := Lib.hid (hri.out.err hll hb hp h0)
            have h0' : (pe != 0) = true := by simpa using h0
            have HR := Lib.hid (show readT s.data.toList = ((pe, at_), []) by unfold readT; rw [if_neg (by rw [ba_len]; exact h512), hpe.out, if_neg h0])
            rw [show oneV (pe, T) at_ = .tuple #[.agg #[.int .i64 T.kind, .string ⟨T.text.toArray⟩, .int .i64 T.num, .int .i64 0], .int .i64 pe] by unfold oneV tkv; simp only [if_neg h0]] at HN
            clear hb hp h0 hpe
            go_wp2_with first | ((go_at_call 43); refine (HBK.out _).mono ?_; rintro e w' ⟨rfl, rfl⟩) | ((go_at_call 44); refine (HN.out _).mono ?_; rintro e w1 ⟨rfl, hf⟩)
            go_ret3
            rw [HR.out]
            exact ⟨none, 0, rfl, Sl.none_ _ _, (hw.out.pure hf).fr.alloc _⟩
        · rw [hb] at HBK
          have HB := Lib.hid (hri.out.blank hll hb)
          clear hb
          go_wp2_with ((go_at_call 43); refine (HBK.out _).mono ?_; rintro e w' ⟨rfl, rfl⟩)
          go_roundw
          case rel => exact ⟨A, c, o, at_ + 1, rfl, by go_num, hw, HB⟩
          case measure => simp [intOf]; omega
      · have HR := Lib.hid (show readT s.data.toList = ((0, 0), o ++ [(tk0, s.data.toList.length)]) by unfold readT; rw [if_neg (by rw [ba_len]; exact h512), hri.out.done (by rw [ba_len]; exact hlt)]; rfl)
        have HBL := Lib.hid (ba_len s)
        go_wp2_with (at_builtin; refine wpList_app rfl _ _ 50 rfl elemRef (base := w.heap.size) (xs := tcl o) (news := tcs (tk0, s.size)) rfl ?own rfl ?src ?one ?h63 ?hby ?hbase ?_)
        case own => exact (hw.out.own_al _ rfl)
        case src => exact Sl.new1 (Blk.new _ _ _) 4 1 rfl (by decide)
        case one => exact tcs_one _
        case h63 => unfold maxLen; omega
        case hby => omega
        case hbase => have h1 := hw.out.fr.size; simp at h1 ⊢; omega
        intro A2 c2 w2 hown2 hg2 _
        have HW2 := Lib.hid ((hw.out.pure ((Fr.refl Nob _).alloc _)).app (tk0, s.size) hown2 (by simp) hg2)
        clear hown2 hg2
        go_wp2_with fail
        go_ret3
        rw [HR.out, HBL.out]
        exact ⟨A2, c2, by simp, Sl.of_own HW2.out.own, HW2.out.fr⟩
end Go.Proofs.YtanhmigknafhkaaDoor
