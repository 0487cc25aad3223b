/- Numbers as bytes: the program. -/
import Derived.Test.YtidhlfcmjpnhgaaGreatDoorQY1
import Derived.Test.YtidhlfcmjpnhgaaGreatDoorSD
import Derived.Test.YtidhlfcmjpnhgaaGreatDoorQYlays
import Derived.Test.YtidhlfcmjpnhgaaGreatDoorSA
import Derived.Deep.Cut
import Derived.Lib.AppendStr
import Derived.OwnWalk
import Derived.Laws.BitsLemmas
namespace Go.Proofs.YtidhlfcmjpnhgaaGreatDoor
open Go.RowKit Go.Lib Go.Shelf

theorem elemU8 : ElemT Tryz.prog 32 5 1 1 := ElemT.mk (z := .int .u8 0) Tryz.underlying32 (by kernel_rfl) (by kernel_rfl) (by decide)
theorem prg_Len64 (w : World) (x : Nat) (h : x < 18446744073709551616) : Calls Tryz.prog 92 #[.int .u64 x] w fun e w' => e = .returned (.int .i64 (Lib.bitLen x)) ∧ w = w' := by
  have := Any.bits_Len64 Tryz.bitsLen (x : Int) w (by omega) (by omega)
  change Calls Tryz.prog 92 _ _ _ at this
  exact this.mono fun e w' ⟨h1, h2⟩ => ⟨h1, h2.symm⟩
theorem k_wrap {x : Nat} (h : x < 18446744073709551616) : wrap64 ((wrap64 ((Lib.bitLen x : Nat) + 7)).tdiv 8) = ((be x).length : Nat) := by
  have h1 := be_len x h
  have h2 := Lib.bitLen_le x 64 (by omega) (by omega)
  rw [h1]
  unfold wrap64
  rw [Int.tdiv_eq_ediv_of_nonneg (by omega)]
  omega
theorem put_step {x k n : Nat} (hn : (be x).length = n) (hk : k < n) (l : List UInt8) : byteCells (l ++ (be x).take k) ++ [.int .u8 ((x : Int) / 2 ^ (8 * (n - 1 - k)) % 256)] = byteCells (l ++ (be x).take (k + 1)) := by
  have hk2 : k < (be x).length := by omega
  rw [List.take_succ_eq_append_getElem hk2, ← List.append_assoc, byteCells_append (l ++ (be x).take k), be_get x k hk2, hn]
  congr 1
  show _ = [Value.int .u8 (UInt8.ofNat (x / 256 ^ (n - 1 - k) % 256)).toNat]
  rw [UInt8.toNat_ofNat_of_lt' (by have := Nat.mod_lt (x / 256 ^ (n - 1 - k)) (show 256 > 0 by decide); simpa [UInt8.size] using this), show (2 : Int) ^ (8 * (n - 1 - k)) = ((256 ^ (n - 1 - k) : Nat) : Int) by rw [show 256 ^ (n - 1 - k) = 2 ^ (8 * (n - 1 - k)) by rw [Nat.pow_mul]]; simp]
  rw [← Int.natCast_ediv]
  rfl
set_option maxRecDepth 100000 in
set_option maxHeartbeats 4000000 in
theorem prg_put (wB w : World) (b : Nat) (A : Option Addr) (c : Nat) (l : List UInt8) (x : Nat) (h : Ap wB w b 5 A c l.length (byteCells l)) (hl : l.length ≤ 100000) (hx : x < 18446744073709551616) :
    Calls Tryz.prog 73 #[.slice A l.length c, .int .u64 x] w fun e w' => ∃ A' c', e = .returned (.slice A' (l ++ numO x).length c') ∧ Ap wB w' b 5 A' c' (l ++ numO x).length (byteCells (l ++ numO x)) := by
  have HP := Lib.hid h
  have HLN := Lib.hid (fun W => prg_Len64 W x hx)
  clear h
  by_cases h0 : x < 248
  · have hI : (x : Int) < 248 := by omega
    go_enter Tryz.func73, Tryz.ntmps73
    go_upto_region 2 with fail
    go_wp2_with (at_builtin; refine wpList_app rfl _ _ 32 rfl elemU8 (base := b) (xs := byteCells l) (news := [.int .u8 x]) rfl ?own rfl ?src ?one ?h63 ?hby ?hbase ?_)
    case own => exact HP.out.own_al _
    case src => exact Sl.new1 (Blk.new_eq (by first | rfl | simp)) 1 1 rfl (by decide)
    case one => first | rfl | exact (by intro u hu; simp at hu; subst hu; rfl)
    case h63 => unfold maxLen; omega
    case hby => omega
    case hbase => have h1 := HP.out.hi; simp at h1 ⊢; omega
    intro A2 c2 w2 hown hgr _
    have HP2 := Lib.hid ((HP.out.pure ((Fr.refl Nob _).alloc _)).app hown hgr)
    clear hown hgr
    have HN := Lib.hid (show byteCells l ++ [.int .u8 (x : Int)] = byteCells (l ++ numO x) by
      rw [byteCells_append, numO, if_pos h0]
      simp [byteCells, show x % 256 = x by omega])
    have HNL := Lib.hid (show (l ++ numO x).length = l.length + 1 by rw [numO, if_pos h0]; simp)
    rw [HN.out] at HP2
    go_wp2_with fail
    go_ret
    rw [HNL.out]
    exact ⟨A2, c2, rfl, HP2.out⟩
  · have hI : ¬ (x : Int) < 248 := by omega
    go_enter Tryz.func73, Tryz.ntmps73
    go_upto_region 4 with (first | ((go_at_call 92); (with_reducible refine (HLN.out _).mono ?_); rintro e w1 ⟨rfl, rfl⟩) | fail)
    rw [k_wrap hx]
    have hk8 := be_le8 hx
    have hI8 : ((be x).length : Int) ≤ 8 := by omega
    generalize hn : (be x).length = n at *
    go_wp2_with (at_builtin; refine wpList_app rfl _ _ 32 rfl elemU8 (base := b) (xs := byteCells l) (news := [.int .u8 (247 + (n : Int))]) rfl ?own rfl ?src ?one ?h63 ?hby ?hbase ?_)
    case own => exact HP.out.own_al _
    case src => exact Sl.new1 (Blk.new_eq (by first | rfl | simp)) 1 1 rfl (by decide)
    case one => first | rfl | exact (by intro u hu; simp at hu; subst hu; rfl)
    case h63 => unfold maxLen; omega
    case hby => omega
    case hbase => have h1 := HP.out.hi; simp at h1 ⊢; omega
    intro A2 c2 w2 hown hgr _
    have HP2 := Lib.hid ((HP.out.pure ((Fr.refl Nob _).alloc _)).app hown hgr)
    clear hown hgr
    have HN := Lib.hid (show byteCells l ++ [.int .u8 (247 + (n : Int))] = byteCells (l ++ [UInt8.ofNat (247 + n)]) by
      rw [byteCells_append]
      simp [byteCells]
      omega)
    rw [HN.out] at HP2
    obtain ⟨l2, HL2⟩ : ∃ l2, Hid (l ++ [UInt8.ofNat (247 + n)] = l2) := ⟨_, Lib.hid rfl⟩
    rw [HL2.out] at HP2
    clear HN
    go_wp2_with fail
    have HXN := Lib.hid hn
    clear hn
    go_loopw [0, 25] (fun sv iv wr => ∃ (k : Nat) (A' : Option Addr) (c' : Nat), k ≤ n ∧ iv = .int .i64 k ∧ sv = .slice A' (l.length + 1 + k) c' ∧ Hid (Ap wB wr b 5 A' c' (l.length + 1 + k) (byteCells (l2 ++ (be x).take k)))) (fun _ iv _ => n - (RowKit.intOf iv).toNat)
    case atStart => exact ⟨0, A2, c2, Nat.zero_le _, rfl, rfl, by simpa using HP2⟩
    case round =>
      obtain ⟨k, A', c', hk, rfl, rfl, hp⟩ := hrel
      by_cases hlt : k < n
      · have hK : (k : Int) < n := by omega
        have hK3 : 0 ≤ (k : Int) := by omega
        go_upto_region 8 with fail
        go_wp2_with (at_builtin; refine wpList_app rfl _ _ 32 rfl elemU8 (base := b) (xs := byteCells (l2 ++ (be x).take k)) (news := [.int .u8 ((x : Int) / 2 ^ (8 * (n - 1 - k)) % 256)]) rfl ?own rfl ?src ?one ?h63 ?hby ?hbase ?_)
        case own => exact hp.out.own_al _
        case src => exact Sl.new1 (Blk.new_eq (by first | rfl | simp)) 1 1 rfl (by decide)
        case one => first | rfl | exact (by intro u hu; simp at hu; subst hu; rfl)
        case h63 => unfold maxLen; omega
        case hby => omega
        case hbase => have h1 := hp.out.hi; simp at h1 ⊢; omega
        intro A3 c3 w3 hown hgr _
        have HP3 := Lib.hid ((hp.out.pure ((Fr.refl Nob _).alloc _)).app hown hgr)
        clear hown hgr
        rw [put_step HXN.out hlt] at HP3
        go_wp2_with fail
        go_roundw
        case rel => exact ⟨k + 1, A3, c3, by omega, by go_num, by simp [Nat.add_assoc], HP3⟩
        case measure => simp [RowKit.intOf]; omega
      · have hK : ¬ (k : Int) < n := by omega
        obtain rfl : k = n := by omega
        go_wp2_with fail
        go_ret
        have HE : l2 ++ (be x).take k = l ++ numO x := by
          rw [← HL2.out, List.take_of_length_le (by rw [HXN.out]; omega), numO, if_neg h0, HXN.out]
          simp
        rw [HE] at hp
        have HEL : (numO x).length = k + 1 := by rw [numO, if_neg h0, List.length_cons, HXN.out]
        rw [HEL, show l.length + (k + 1) = l.length + 1 + k by omega]
        exact ⟨A', c', rfl, hp.out⟩
end Go.Proofs.YtidhlfcmjpnhgaaGreatDoor

/- Numbers, texts and signs as bytes: the program. -/
namespace Go.Proofs.YtidhlfcmjpnhgaaGreatDoor
open Go.RowKit Go.Lib

/-- A call's bytes, in memory of their own. -/
def BsR (w w' : World) (e : Ending) (l : List UInt8) : Prop := ∃ A c, e = .returned (.slice A l.length c) ∧ Ap w w' w.heap.size 5 A c l.length (byteCells l)
theorem Ap.nil0 {w wr : World} (h : Fr Nob w wr) : Ap w wr w.heap.size 5 none 0 0 (byteCells []) := Ap.start h (Nat.le_refl _) h.size
theorem BsR.start {w w' : World} {e : Ending} {l : List UInt8} (h : ∃ A c, e = .returned (.slice A ([] ++ l).length c) ∧ Ap w w' w.heap.size 5 A c ([] ++ l).length (byteCells ([] ++ l))) : BsR w w' e l := by rw [List.nil_append] at h; exact h
theorem prg_put0 (w : World) (x : Nat) (hx : x < 18446744073709551616) : Calls Tryz.prog 73 #[.slice none 0 0, .int .u64 x] w fun e w' => BsR w w' e (numO x) :=
  (prg_put w w w.heap.size none 0 [] x (Ap.nil0 (Fr.refl Nob w)) (by simp) hx).mono fun _ _ h => .start h
/-- A text's bytes behind others. -/
theorem wpList_appS {wB w : World} {b : Nat} {A : Option Addr} {c n : Nat} {xs : List Value} {ops : Array Oper} {rest : List Oper} {o : Oper} {a : Act} {Q : Exit → Act → World → Prop} (hgd : o.guard = none) (sl x : Operand)
    (ho : o.op = .call { callee := .builtin .append, args := #[sl, x], argTypes := #[32, 9] }) (hs : a.eval sl = .slice A n c) (h : Ap wB w b 5 A c n xs) (s : ByteArray) (hx : a.eval x = .string s) (h63 : n + s.size ≤ 1000000)
    (hQ : ∀ A' c' w', Ap wB w' b 5 A' c' (n + s.size) (xs ++ byteCells s.data.toList) → wpList Tryz.prog ops Q rest (a.put o.dst (.slice A' (n + s.size) c')) w') : wpList Tryz.prog ops Q (o :: rest) a w := by
  obtain ⟨i0, hi, hz0, hz1, hz2⟩ := info_parts (show (Tryz.prog.info? 5).map (fun i => (i.zero, i.size, i.bytes)) = some (some (.int .u8 0), 1, 1) by kernel_rfl)
  refine Lib.wpList_append_own_string w hgd sl x 32 9 ho b 5 i0 Tryz.underlying32 Tryz.underlying9 hi hz0 hz1 hz2 _ n xs hs h.own s hx (by unfold maxLen; omega) (by omega) h.hi ?_
  intro v' w' hown hg _
  obtain ⟨A', c', rfl⟩ : ∃ A' c', v' = .slice A' (n + s.size) c' := by
    rcases hown.2 with ⟨hv, hn⟩ | ⟨g, cap, cur, hv, _⟩
    · refine ⟨none, 0, ?_⟩
      rw [hv, hn]
    · exact ⟨_, _, hv⟩
  have hob : (Value.slice A n c).ownBlock = A.map (·.block) := by cases A <;> rfl
  rw [hob] at hg
  exact hQ A' c' w' (h.app hown hg)
set_option maxRecDepth 100000 in
set_option maxHeartbeats 4000000 in
theorem prg_OPut (w : World) (B : Option Addr) (d x : Nat) (hB : Sl w 1 B 1 d [.int .u64 x]) (hx : x < 18446744073709551616) :
    Calls Tryz.prog 49 #[.slice B 1 d] w fun e w' => BsR w w' e (numO x) := by
  have HB := Lib.hid hB
  have HLN := Lib.hid (fun W => prg_put0 W x hx)
  have hle := hB.le
  clear hB
  go_enter Tryz.func49, Tryz.ntmps49
  go_wp2_with fail
  go_loopw [3, 8] (fun sv iv wr => (iv = .int .i64 0 ∧ sv = .slice none 0 0 ∧ wr = w) ∨ ∃ (A' : Option Addr) (c' : Nat), iv = .int .i64 1 ∧ sv = .slice A' (numO x).length c' ∧ Hid (Ap w wr w.heap.size 5 A' c' (numO x).length (byteCells (numO x)))) (fun _ iv _ => 1 - (RowKit.intOf iv).toNat)
  case atStart => exact .inl ⟨rfl, rfl, rfl⟩
  case round =>
    rcases hrel with ⟨rfl, rfl, rfl⟩ | ⟨A', c', rfl, rfl, hp⟩
    · obtain ⟨g, off, v, rfl, hg, hv, hc⟩ := HB.out.at_ (k := 0) (by simp)
      obtain rfl : .int .u64 x = v := by simpa using hv
      simp only [Nat.add_zero] at hc
      go_wp2_with (first | ((go_at_call 73); (with_reducible refine (HLN.out _).mono ?_); rintro e w1 ⟨A1, c1, rfl, hp⟩; have HP := Lib.hid hp; clear hp) | fail)
      exact ⟨.inr ⟨A1, c1, rfl, rfl, HP⟩, by simp [RowKit.intOf]⟩
    · go_wp2_with fail
      go_ret
      exact ⟨A', c', rfl, hp.out⟩
set_option maxRecDepth 100000 in
set_option maxHeartbeats 4000000 in
theorem prg_OTexts (w : World) (B : Option Addr) (d : Nat) (s : ByteArray) (hB : Sl w 1 B 1 d [.string s]) (hx : s.size ≤ 100000) :
    Calls Tryz.prog 50 #[.slice B 1 d] w fun e w' => BsR w w' e (textO s.data.toList) := by
  have HB := Lib.hid hB
  have HLN := Lib.hid (fun W => prg_put0 W s.size (by omega))
  have hle := hB.le
  have hsl : s.data.toList.length = s.size := by simp
  have hnl := numO_len (x := s.size) (by omega)
  clear hB
  go_enter Tryz.func50, Tryz.ntmps50
  go_wp2_with fail
  go_loopw [3, 8] (fun sv iv wr => (iv = .int .i64 0 ∧ sv = .slice none 0 0 ∧ wr = w) ∨ ∃ (A' : Option Addr) (c' : Nat), iv = .int .i64 1 ∧ sv = .slice A' (textO s.data.toList).length c' ∧ Hid (Ap w wr w.heap.size 5 A' c' (textO s.data.toList).length (byteCells (textO s.data.toList)))) (fun _ iv _ => 1 - (RowKit.intOf iv).toNat)
  case atStart => exact .inl ⟨rfl, rfl, rfl⟩
  case round =>
    rcases hrel with ⟨rfl, rfl, rfl⟩ | ⟨A', c', rfl, rfl, hp⟩
    · obtain ⟨g, off, v, rfl, hg, hv, hc⟩ := HB.out.at_ (k := 0) (by simp)
      obtain rfl : .string s = v := by simpa using hv
      simp only [Nat.add_zero] at hc
      go_wp2_with (first | ((go_at_call 73); (with_reducible refine (HLN.out _).mono ?_); rintro e w1 ⟨A1, c1, rfl, hp⟩; have HP := Lib.hid hp; clear hp) | (at_builtin; refine wpList_appS rfl _ _ rfl rfl HP.out s rfl (by omega) ?_; intro A2 c2 w2 hp2; have HP2 := Lib.hid hp2; clear hp2) | fail)
      have HEQ : (textO s.data.toList).length = (numO s.size).length + s.size := by unfold textO; rw [List.length_append, hsl]
      have HEB : byteCells (textO s.data.toList) = byteCells (numO s.size) ++ byteCells s.data.toList := by unfold textO; rw [byteCells_append, hsl]
      rw [HEQ, HEB]
      exact ⟨.inr ⟨A2, c2, rfl, rfl, HP2⟩, by simp [RowKit.intOf]⟩
    · go_wp2_with fail
      go_ret
      exact ⟨A', c', rfl, hp.out⟩
theorem sign_pos {n : Int} (h0 : 0 ≤ n) : (signO n : Int) = 2 * n := by unfold signO; rw [if_pos h0]; omega
theorem sign_neg {n : Int} (h0 : ¬ 0 ≤ n) : (signO n : Int) = 2 * (-(n + 1)) + 1 := by unfold signO; rw [if_neg h0]; omega
theorem prg_Sign (w : World) (n : Int) (hn : I64 n) : Calls Tryz.prog 51 #[.int .i64 n] w fun e w' => e = .returned (.int .u64 (signO n)) ∧ w = w' := by
  unfold I64 at hn
  by_cases h0 : 0 ≤ n
  · rw [sign_pos h0]
    go_enter Tryz.func51, Tryz.ntmps51
    go_wp2_with fail
    go_ret
    exact ⟨rfl, rfl⟩
  · rw [sign_neg h0]
    go_enter Tryz.func51, Tryz.ntmps51
    go_wp2_with fail
    go_ret
    exact ⟨rfl, rfl⟩
end Go.Proofs.YtidhlfcmjpnhgaaGreatDoor

/- Check sums: the program. -/
namespace Go.Proofs.YtidhlfcmjpnhgaaGreatDoor
open Go.RowKit Go.Lib

/-- The table of turns. -/
def TnVar (w : World) : Prop := ∀ i, i < 16 → w.cell? ⟨1, i, none⟩ = some (.int .u32 (turnsR.getD i 0 : Nat))
theorem TnVar.fr {w w' : World} (h : TnVar w) (hf : Fr Nob w w') : TnVar w' := fun i hi => hf.cell (h i hi) (fun e => e)
theorem turn_lt {s c : Nat} (hs : s < 16777216) (hc : c < 16) : (s / 1048576) ^^^ c < 16 := Nat.xor_lt_two_pow (n := 4) (by omega) (by omega)
theorem xor32 {a b : Nat} (ha : a < 4294967296) (hb : b < 4294967296) : bits .xor .u32 (a : Int) (b : Int) = ((a ^^^ b : Nat) : Int) := by
  have hx : a ^^^ b < 2 ^ 32 := Nat.xor_lt_two_pow (n := 32) (by omega) (by omega)
  simp only [bits, BitVec.ofInt_natCast, BitVec.toNat_xor, BitVec.toNat_ofNat]
  rw [show IntKind.u32.bits = 32 from rfl, Nat.mod_eq_of_lt (show a < 2 ^ 32 by omega), Nat.mod_eq_of_lt (show b < 2 ^ 32 by omega), IntKind.wrap_u32]
  omega
theorem wraps_u32 (n : Int) (h₀ : 0 ≤ n) (h₁ : n < 2 ^ 32) : IntKind.u32.wrap n = n := by rw [IntKind.wrap_u32]; omega
theorem low32 {x : Int} (h0 : 0 ≤ x) (h : x < 4294967296) : bits .and .u32 x 16777215 = x % 16777216 := bits_mask .u32 32 (by decide) wraps_u32 24 (by decide) x h0 (by omega)
theorem low8 {x : Int} (h0 : 0 ≤ x) (h : x < 256) : bits .and .u8 x 15 = x % 16 := bits_mask .u8 8 (by decide) wraps_u8 4 (by decide) x h0 (by omega)
theorem turns_lt : ∀ k, k < 16 → turnsR.getD k 0 < 16777216 := by decide
set_option maxRecDepth 100000 in
theorem prg_four (w : World) (s c : Nat) (hs : s < 16777216) (hc : c < 16) (hv : TnVar w) :
    Calls Tryz.prog 93 #[.int .u32 s, .int .u8 c] w fun e w' => e = .returned (.int .u32 (fourR s c)) ∧ w = w' := by
  have ht := turn_lt hs hc
  have hcell := hv _ ht
  have htl := turns_lt _ ht
  have HX := Lib.hid (show bits .xor .u32 ((s : Int) / 1048576) c = (((s / 1048576) ^^^ c : Nat) : Int) from by
    rw [show (s : Int) / 1048576 = ((s / 1048576 : Nat) : Int) by omega]; exact xor32 (by omega) (by omega))
  rw [fourR_eq hs hc]
  generalize (s / 1048576) ^^^ c = k at *
  generalize turnsR.getD k 0 = t at *
  have HL := Lib.hid (show bits .and .u32 ((s : Int) * 16) 16777215 = (s : Int) * 16 % 16777216 from low32 (by omega) (by omega))
  have HY := Lib.hid (show bits .xor .u32 ((s : Int) * 16 % 16777216) t = (((s * 16 % 16777216) ^^^ t : Nat) : Int) from by
    rw [show (s : Int) * 16 % 16777216 = ((s * 16 % 16777216 : Nat) : Int) by omega]; exact xor32 (by omega) (by omega))
  have hk1 : (k : Int) < 16 := by omega
  clear hv
  go_enter Tryz.func93, Tryz.ntmps93
  go_wp2_with (first | rw [HX.out] | rw [HL.out] | rw [HY.out] | fail)
  go_ret
  exact ⟨rfl, rfl⟩
theorem u8_at {l : List UInt8} {k : Nat} (h : k < l.length) {v : Value} (hv : (byteCells l)[k]? = some v) : v = .int .u8 (l[k].toNat : Nat) := by
  unfold byteCells at hv
  rw [List.getElem?_map, List.getElem?_eq_getElem h] at hv
  injection hv with hv
  exact hv.symm
theorem Sl.u8_at {w : World} {A : Option Addr} {n cap : Nat} {l : List UInt8} {k : Nat} (h : Sl w 1 A n cap (byteCells l)) (hk : k < n) (hn : n = l.length) : ∃ b off, A = some ⟨b, off, none⟩ ∧ b < w.heap.size ∧ w.cell? ⟨b, off + k, none⟩ = some (.int .u8 ((l[k]'(hn ▸ hk)).toNat : Nat)) := by
  obtain ⟨b, off, v, hA, hb, hv, hc⟩ := h.at_ hk
  rw [Go.Proofs.YtidhlfcmjpnhgaaGreatDoor.u8_at (hn ▸ hk) hv] at hc
  exact ⟨b, off, hA, hb, hc⟩
theorem more_take {l : List UInt8} {k s : Nat} (hk : k < l.length) : moreR s (l.take (k + 1)) = byteR (moreR s (l.take k)) l[k] := by rw [List.take_succ_eq_append_getElem hk, moreR_snoc]
set_option maxRecDepth 100000 in
set_option maxHeartbeats 4000000 in
theorem prg_More (w : World) (s : Nat) (hs : s < 16777216) (B : Option Addr) (d : Nat) (l : List UInt8) (hB : Sl w 1 B l.length d (byteCells l)) (hl : l.length ≤ 100000) (hv : TnVar w) :
    Calls Tryz.prog 74 #[.int .u32 s, .slice B l.length d] w fun e w' => e = .returned (.int .u32 (moreR s l)) ∧ w = w' := by
  have HB := Lib.hid hB
  have HF := Lib.hid (fun (t c : Nat) (h1 : t < 16777216) (h2 : c < 16) => prg_four w t c h1 h2 hv)
  have hle := hB.le
  have HL := Lib.hid (show bits .and .u32 (s : Int) 16777215 = (s : Int) from by rw [low32 (by omega) (by omega)]; omega)
  clear hB hv
  go_enter Tryz.func74, Tryz.ntmps74
  go_wp2_with (first | rw [HL.out] | fail)
  go_loopw [0, 11] (fun sv iv wr => ∃ (k t : Nat), k ≤ l.length ∧ iv = .int .i64 k ∧ Hid (moreR s (l.take k) = t) ∧ sv = .int .u32 t ∧ t < 16777216 ∧ wr = w) (fun _ iv _ => l.length - (RowKit.intOf iv).toNat)
  case atStart => exact ⟨0, s, Nat.zero_le _, rfl, Lib.hid rfl, rfl, hs, rfl⟩
  case round =>
    obtain ⟨k, t, hk, rfl, HT, rfl, ht, rfl⟩ := hrel
    by_cases hlt : k < l.length
    · have hK : (k : Int) < l.length := by omega
      have hK3 : 0 ≤ (k : Int) := by omega
      obtain ⟨g, off, rfl, hg, hc⟩ := HB.out.u8_at hlt rfl
      have HN := Lib.hid (more_take (s := s) hlt)
      rw [HT.out] at HN
      generalize l[k] = x at *
      have hx := x.toNat_lt
      have HX := Lib.hid (show bits .and .u8 (x.toNat : Int) 15 = (x.toNat : Int) % 16 from low8 (by omega) (by omega))
      have h1 := fourR_lt t (x.toNat / 16)
      have HC1 := Lib.hid (HF.out t (x.toNat / 16) ht (by omega))
      have HC2 := Lib.hid (HF.out _ (x.toNat % 16) h1 (by omega))
      rw [show ((x.toNat / 16 : Nat) : Int) = (x.toNat : Int) / 16 by omega] at HC1
      rw [show ((x.toNat % 16 : Nat) : Int) = (x.toNat : Int) % 16 by omega] at HC2
      clear HF
      have h2 := fourR_lt (fourR t (x.toNat / 16)) (x.toNat % 16)
      have HE := Lib.hid (show moreR s (l.take (k + 1)) = fourR (fourR t (x.toNat / 16)) (x.toNat % 16) from HN.out)
      clear HN
      generalize fourR (fourR t (x.toNat / 16)) (x.toNat % 16) = t2 at *
      generalize fourR t (x.toNat / 16) = t1 at *
      go_wp2_with (first | rw [HX.out] | ((go_at_call 93); (first | (with_reducible refine HC1.out.mono ?_) | (with_reducible refine HC2.out.mono ?_)); rintro e w1 ⟨rfl, rfl⟩) | fail)
      go_roundw
      case rel => exact ⟨k + 1, t2, by omega, by go_num, HE, rfl, h2, trivial⟩
      case measure => simp [RowKit.intOf]; omega
    · have hK : ¬ (k : Int) < l.length := by omega
      go_wp2_with fail
      go_ret
      rw [List.take_of_length_le (by omega)] at HT
      rw [HT.out]
      exact ⟨rfl, rfl⟩
theorem prg_Sum (w : World) (B : Option Addr) (d : Nat) (l : List UInt8) (hB : Sl w 1 B l.length d (byteCells l)) (hl : l.length ≤ 100000) (hv : TnVar w) :
    Calls Tryz.prog 53 #[.slice B l.length d] w fun e w' => e = .returned (.int .u32 (sumR l)) ∧ w = w' := by
  have HC := Lib.hid (prg_More w 0xB704CE (by decide) B d l hB hl hv)
  have HS := Lib.hid (show sumR l = moreR 0xB704CE l from rfl)
  rw [HS.out]
  clear hB hv HS
  generalize moreR 0xB704CE l = t at *
  go_enter Tryz.func53, Tryz.ntmps53
  go_wp2_with (first | ((go_at_call 74); (refine HC.out.mono ?_); rintro e w1 ⟨rfl, rfl⟩) | fail)
  go_ret
  exact ⟨rfl, rfl⟩
/-- A fresh row of bytes. -/
theorem Ap.made {w : World} {cs : Array Value} {l : List UInt8} (h : cs.toList = byteCells l) (hl : l.length ≤ 100000) : Ap w (w.alloc (.cells cs 5)) w.heap.size 5 (some ⟨w.heap.size, 0, none⟩) l.length l.length (byteCells l) := by
  have hs : cs.size = l.length := by rw [← Array.length_toList, h, byteCells_length]
  refine ⟨(Fr.refl _ _).alloc _, ⟨by rw [byteCells_length, Nat.mul_one], .inr ⟨w.heap.size, l.length, cs, rfl, Nat.le_refl _, heap_alloc_new w _, Nat.le_refl _, by unfold maxLen; omega, by rw [hs, Nat.mul_one], ?_⟩⟩, Nat.le_refl _, ((Fr.refl Nob w).alloc _).size⟩
  rw [h, Nat.mul_one, List.take_of_length_le (by rw [byteCells_length]; omega)]
theorem prg_CPut (w : World) (s : Nat) (hs : s < 16777216) : Calls Tryz.prog 52 #[.int .u32 s] w fun e w' => BsR w w' e (crcB s) := by
  have HA := Lib.hid (Ap.made (w := w) (cs := #[.int .u8 ((s : Int) / 65536), .int .u8 ((s : Int) / 256 % 256), .int .u8 ((s : Int) % 256)]) (l := crcB s) (by unfold crcB byteCells; simp; omega) (by unfold crcB; simp))
  go_enter Tryz.func52, Tryz.ntmps52
  go_wp2_with fail
  go_ret
  exact ⟨_, _, rfl, HA.out⟩
end Go.Proofs.YtidhlfcmjpnhgaaGreatDoor

/- Frames as bytes: the program. -/
namespace Go.Proofs.YtidhlfcmjpnhgaaGreatDoor
open Go.RowKit Go.Lib

theorem Ap.room {wB w w' : World} {b n : Nat} (hf : Fr Nob wB w) (hb : wB.heap.size ≤ b) (hown : w'.ownsRow b 5 1 (.slice (some ⟨w.heap.size, 0, none⟩) 0 n) 0 []) (hg : w.grownBy w' none) (h1 : b ≤ w.heap.size) : Ap wB w' b 5 (some ⟨w.heap.size, 0, none⟩) n 0 (byteCells []) :=
  ⟨hf.grown hg (fun k e => by cases e), hown, hb, Nat.le_trans h1 hg.size⟩
/-- What stands behind the first byte. -/
theorem Ap.behind {wB w : World} {b : Nat} {A : Option Addr} {c : Nat} {x : UInt8} {l : List UInt8} (h : Ap wB w b 5 A c (x :: l).length (byteCells (x :: l))) :
    ∃ A2 d2, (∀ W, (Instr.slice 32 (.slice A (x :: l).length c) (some (.int .i64 1)) none none).run Tryz.prog W = .ok (.slice A2 l.length d2) W) ∧ Sl w 1 A2 l.length d2 (byteCells l) :=
  ⟨_, _, fun W => run_cut elemU8 A (n := (x :: l).length) (cap := c) 1 (by simp) W, h.sl.cut (k := 1) (by simp)⟩
theorem bytes_one (l : List UInt8) : ∀ u ∈ byteCells l, u.oneCell' = true := by
  intro u hu
  obtain ⟨x, _, rfl⟩ := List.mem_map.1 hu
  rfl
theorem headF_len (kind : UInt8) (l : List UInt8) : (headF kind l).length = l.length + 3 := by unfold headF; simp
set_option maxRecDepth 100000 in
set_option maxHeartbeats 4000000 in
theorem prg_FPut (w : World) (kind : UInt8) (B : Option Addr) (d : Nat) (l : List UInt8) (hB : Sl w 1 B l.length d (byteCells l)) (hl : l.length ≤ 256) (hv : TnVar w) :
    Calls Tryz.prog 24 #[.int .u8 (kind.toNat : Nat), .slice B l.length d] w fun e w' => ∃ A c, e = .returned (.tuple #[.slice A (frameO kind l).length c, .int .i64 0]) ∧ Ap w w' w.heap.size 5 A c (frameO kind l).length (byteCells (frameO kind l)) := by
  have HB := Lib.hid hB
  have HV := Lib.hid hv
  have hle := hB.le
  have hlI : (l.length : Int) ≤ 256 := by omega
  have hk := kind.toNat_lt
  obtain ⟨i0, hi, hz0, hz1, hz2⟩ := info_parts (show (Tryz.prog.info? 5).map (fun i => (i.zero, i.size, i.bytes)) = some (some (.int .u8 0), 1, 1) by kernel_rfl)
  have HFO := Lib.hid (show byteCells [] ++ [Value.int .u8 165, .int .u8 (kind.toNat : Nat), .int .u8 ((l.length : Int) / 256), .int .u8 ((l.length : Int) % 256)] ++ byteCells l = byteCells (165 :: headF kind l) from by
    unfold headF byteCells; simp; omega)
  have HEND := Lib.hid (show 165 :: headF kind l ++ crcB (sumR (headF kind l)) = frameO kind l from by unfold frameO; simp)
  have hfl : (frameO kind l).length = l.length + 7 := by rw [← HEND.out]; simp [headF_len, crcB]
  rw [hfl]
  clear hB hv
  go_enter Tryz.func24, Tryz.ntmps24
  go_upto_region 4 with fail
  go_upto_region 7 with (first | (refine wpList_make_own _ rfl _ _ 32 rfl w.heap.size 5 i0 (.int .u8 0) 1 Tryz.underlying32 hi hz0 hz1 .i64 .i64 _ (l.length + 7) rfl rfl (by omega) (by rw [hz2]; omega) (by unfold maxLen; omega) (Nat.le_refl _) ?_; intro w1 hown hg; have HP := Lib.hid (Ap.room (Fr.refl Nob w) (Nat.le_refl _) hown hg (Nat.le_refl _)); clear hown hg) | (at_builtin; refine wpList_app rfl _ _ 32 rfl elemU8 (base := w.heap.size) (xs := byteCells []) (news := [.int .u8 165, .int .u8 (kind.toNat : Nat), .int .u8 ((l.length : Int) / 256), .int .u8 ((l.length : Int) % 256)]) rfl (HP.out.own_al _) rfl (Sl.new1 (Blk.new _ _ _) 1 4 rfl (by decide)) (by intro u hu; simp at hu; rcases hu with rfl | rfl | rfl | rfl <;> rfl) (by decide) (by decide) (by have := HP.out.hi; simp; omega) ?_; intro A2 c2 w2 hown hg _; have HP2 := Lib.hid ((HP.out.pure ((Fr.refl Nob _).alloc _)).app hown hg); clear hown hg) | (at_builtin; refine wpList_app rfl _ _ 32 rfl elemU8 (base := w.heap.size) (news := byteCells l) rfl HP2.out.own rfl (HB.out.pure HP2.out.fr) (bytes_one l) (by unfold maxLen; omega) (by omega) HP2.out.hi ?_; intro A3 c3 w3 hown hg _; have HP3 := Lib.hid (HP2.out.app hown hg); clear hown hg) | fail)
  rw [HFO.out] at HP3
  have HSL : Hid (∃ A4 d4, (∀ W, (Instr.slice 32 (.slice A3 (4 + l.length) c3) (some (.int .i64 1)) none none).run Tryz.prog W = .ok (.slice A4 (headF kind l).length d4) W) ∧ Sl w3 1 A4 (headF kind l).length d4 (byteCells (headF kind l))) := by
    have h := HP3.out
    have e : 0 + 4 + l.length = (165 :: headF kind l).length := by rw [List.length_cons, headF_len]; omega
    rw [e] at h
    have := h.behind
    rw [← e, Nat.zero_add] at this
    exact Lib.hid this
  obtain ⟨A4, d4, hsl, hs4⟩ := HSL.out
  clear HSL
  have HS4 := Lib.hid hs4
  clear hs4 HFO HP HP2
  go_wp2_with (first | ((go_at_call 53); (refine (prg_Sum _ _ _ _ HS4.out (by rw [headF_len]; omega) (HV.out.fr HP3.out.fr)).mono ?_); rintro e w5 ⟨rfl, rfl⟩) | ((go_at_call 52); (refine (prg_CPut _ _ (sumR_lt _)).mono ?_); rintro e w6 ⟨A6, c6, rfl, hp6⟩; have HP6 := Lib.hid hp6; clear hp6) | (at_builtin; refine wpList_app rfl _ _ 32 rfl elemU8 (base := w.heap.size) (news := byteCells (crcB (sumR (headF kind l)))) rfl (HP3.out.pure HP6.out.fr).own rfl HP6.out.sl (bytes_one _) (by unfold maxLen crcB; simp; omega) (by unfold crcB; simp; omega) (HP3.out.pure HP6.out.fr).hi ?_; intro A7 c7 w7 hown hg _; have HP7 := Lib.hid ((HP3.out.pure HP6.out.fr).app hown hg); clear hown hg) | fail)
  have HQ : 4 + l.length + (crcB (sumR (headF kind l))).length = l.length + 7 := by unfold crcB; simp; omega
  rw [← byteCells_append, HEND.out, HQ] at HP7
  rw [HQ]
  go_ret2
  exact ⟨A7, c7, rfl, HP7.out⟩
end Go.Proofs.YtidhlfcmjpnhgaaGreatDoor
