/- The step of a line whose words are right: the reference. -/
import Derived.Test.YtidhlfcmjpnhgaaGreatDoorSP
import Derived.Test.YtidhlfcmjpnhgaaGreatDoorSI
import Derived.Test.YtidhlfcmjpnhgaaGreatDoorSN
namespace Go.Proofs.YtidhlfcmjpnhgaaGreatDoor
open Go.RowKit Go.Lib

/-- What `made` answers. -/
def MdP (w : World) (z : Int × ZC) (e : Ending) (w' : World) : Prop := e = .returned (.tuple #[.agg (zV z.2), .int .i64 z.1]) ∧ Fr Nob w w'
abbrev zz0 : Array Value := #[.int .i64 0, .int .i64 0, .int .i64 0, .string ⟨#[]⟩]
set_option maxRecDepth 100000
set_option maxHeartbeats 4000000
theorem md_6 (w : World) (s b : ByteArray) (h : WordIs s 6) (NA PA : Option Addr) (nn nc pn pc : Nat) : Calls Tryz.prog 46 #[.string s, .slice NA nn nc, .string b, .slice PA pn pc] w (MdP w (0, ⟨3, 0, 0, []⟩)) := by
  obtain ⟨h0, h1, h2, h3, h4, h5, h6, h7, h8⟩ := wis_6 h
  clear h
  go_enter Tryz.func46, Tryz.ntmps46
  go_wp2_with fail
  refine bodyPost_ret (v := .tuple #[.agg #[.int .i64 3, .int .i64 0, .int .i64 0, .string ⟨#[]⟩], .int .i64 0]) (by simp [results, Tryz.results46, go_sem]) rfl ?_
  exact ⟨rfl, (Fr.refl _ _).alloc _⟩
theorem md_7 (w : World) (s b : ByteArray) (h : WordIs s 7) (NA PA : Option Addr) (nn nc pn pc : Nat) : Calls Tryz.prog 46 #[.string s, .slice NA nn nc, .string b, .slice PA pn pc] w (MdP w (0, ⟨4, 0, 0, []⟩)) := by
  obtain ⟨h0, h1, h2, h3, h4, h5, h6, h7, h8⟩ := wis_7 h
  clear h
  go_enter Tryz.func46, Tryz.ntmps46
  go_wp2_with fail
  refine bodyPost_ret (v := .tuple #[.agg #[.int .i64 4, .int .i64 0, .int .i64 0, .string ⟨#[]⟩], .int .i64 0]) (by simp [results, Tryz.results46, go_sem]) rfl ?_
  exact ⟨rfl, (Fr.refl _ _).alloc _⟩
theorem md_8 (w : World) (s b : ByteArray) (h : WordIs s 8) (NA PA : Option Addr) (nn nc pn pc : Nat) : Calls Tryz.prog 46 #[.string s, .slice NA nn nc, .string b, .slice PA pn pc] w (MdP w (0, ⟨5, 0, 0, []⟩)) := by
  obtain ⟨h0, h1, h2, h3, h4, h5, h6, h7, h8⟩ := wis_8 h
  clear h
  go_enter Tryz.func46, Tryz.ntmps46
  go_wp2_with fail
  refine bodyPost_ret (v := .tuple #[.agg #[.int .i64 5, .int .i64 0, .int .i64 0, .string ⟨#[]⟩], .int .i64 0]) (by simp [results, Tryz.results46, go_sem]) rfl ?_
  exact ⟨rfl, (Fr.refl _ _).alloc _⟩
theorem md_0 (w : World) (s b : ByteArray) (h : WordIs s 0) (NA PA : Option Addr) (nc pn pc a : Nat) (hn : Sl w 1 NA 1 nc (u64s [a])) (ha : a ≤ 9223372036854775807) : Calls Tryz.prog 46 #[.string s, .slice NA 1 nc, .string b, .slice PA pn pc] w (MdP w (0, ⟨1, 0, a, []⟩)) := by
  obtain ⟨h0, h1, h2, h3, h4, h5, h6, h7, h8⟩ := wis_0 h
  clear h
  obtain ⟨g, o, rfl, hg, hc⟩ := hn.u64_at (k := 0) (by simp)
  have hle := hn.le
  replace hc : w.cell? ⟨g, o, none⟩ = some (.int .u64 a) := hc
  have haI : (a : Int) < 9223372036854775808 := by omega
  clear hn
  go_enter Tryz.func46, Tryz.ntmps46
  go_wp2_with fail
  refine bodyPost_ret (v := .tuple #[.agg #[.int .i64 1, .int .i64 0, .int .i64 a, .string ⟨#[]⟩], .int .i64 0]) (by simp [results, Tryz.results46, go_sem]) rfl ?_
  exact ⟨rfl, (Fr.refl _ _).alloc _⟩
theorem md_1 (w : World) (s b : ByteArray) (h : WordIs s 1) (NA PA : Option Addr) (nc pn pc a : Nat) (hn : Sl w 1 NA 1 nc (u64s [a])) (ha : a ≤ 7) : Calls Tryz.prog 46 #[.string s, .slice NA 1 nc, .string b, .slice PA pn pc] w (MdP w (0, ⟨2, a, 0, b.data.toList⟩)) := by
  obtain ⟨h0, h1, h2, h3, h4, h5, h6, h7, h8⟩ := wis_1 h
  clear h
  obtain ⟨g, o, rfl, hg, hc⟩ := hn.u64_at (k := 0) (by simp)
  have hle := hn.le
  replace hc : w.cell? ⟨g, o, none⟩ = some (.int .u64 a) := hc
  have haI : (a : Int) < 9223372036854775808 := by omega
  clear hn
  go_enter Tryz.func46, Tryz.ntmps46
  go_wp2_with fail
  refine bodyPost_ret (v := .tuple #[.agg #[.int .i64 2, .int .i64 a, .int .i64 0, .string b], .int .i64 0]) (by simp [results, Tryz.results46, go_sem]) rfl ?_
  exact ⟨rfl, (Fr.refl _ _).alloc _⟩
/-- What the last region reads. -/
def MdS (W : World) (g o a x : Nat) (m : MC) (A : Option Addr) (c : Nat) : Prop :=
  W.cell? ⟨g, o, none⟩ = some (.int .u64 a) ∧ W.cell? ⟨x, 0, none⟩ = some (.int .u8 m.kind) ∧ W.cell? ⟨x, 1, none⟩ = some (.int .u64 m.seq) ∧ W.cell? ⟨x, 2, none⟩ = some (.int .i64 m.at_) ∧ W.cell? ⟨x, 3, none⟩ = some (.slice A m.props.length c)
theorem MdS.mk {w W : World} {g o a x z : Nat} {m : MC} {A : Option Addr} {c : Nat} (hc : w.cell? ⟨g, o, none⟩ = some (.int .u64 a)) (hx : Blk w x 122 (mV m A c)) (hf : Fr (Only z) w W) (h1 : g ≠ z) (h3 : x ≠ z) : MdS W g o a x m A c := by
  have hx' := hx.fr hf (fun e => h3 e)
  exact ⟨Fr.cell hf hc (fun e => h1 e), hx'.cell 0, hx'.cell 1, hx'.cell 2, hx'.cell 3⟩
/-- Where the last regions begin: the world, its boxes. -/
structure MdW (w W1 : World) (x : MC) (A2 : Option Addr) (c2 : Nat) : Prop where
  fr : Fr Nob w W1
  z : Blk W1 w.heap.size 61 #[.int .i64 0, .int .i64 0, .int .i64 0, .string ⟨#[]⟩]
  m : Blk W1 (w.heap.size + 1) 122 (mV x A2 c2)
  s : Sl W1 2 A2 x.props.length c2 (x.props.flatMap pcs)
theorem md_5 (w : World) (s b : ByteArray) (h : WordIs s 5) (NA PA : Option Addr) (nc pn pc a : Nat) (hn : Sl w 1 NA 1 nc (u64s [a])) (ha : a ≤ 7) : Calls Tryz.prog 46 #[.string s, .slice NA 1 nc, .string b, .slice PA pn pc] w (MdP w (if mayM ⟨4, 0, 0, []⟩ then (0, ⟨2, a, 0, frameM ⟨4, 0, 0, []⟩⟩) else (11, z0))) := by
  obtain ⟨h0, h1, h2, h3, h4, h5, h6, h7, h8⟩ := wis_5 h
  clear h
  obtain ⟨g, o, rfl, hg, hc⟩ := hn.u64_at (k := 0) (by simp)
  have hle := hn.le
  replace hc : w.cell? ⟨g, o, none⟩ = some (.int .u64 a) := hc
  have haI : (a : Int) < 9223372036854775808 := by omega
  have HWR := Lib.hid (show IntKind.i64.wrap (a : Int) = a from by rw [IntKind.wrap_i64]; omega)
  clear hn
  obtain ⟨x, hx⟩ : ∃ x : MC, x = ⟨4, 0, 0, []⟩ := ⟨_, rfl⟩
  obtain ⟨zr, HZR⟩ : ∃ zr, Hid (zr = (if mayM x then ((0 : Int), (⟨2, a, 0, frameM x⟩ : ZC)) else (11, z0))) := ⟨_, Lib.hid rfl⟩
  rw [← hx, ← HZR.out]
  go_enter Tryz.func46, Tryz.ntmps46
  go_upto_region 18 with fail
  obtain ⟨A2, c2, hA⟩ : ∃ (A2 : Option Addr) (c2 : Nat), A2 = none ∧ c2 = 0 := ⟨_, _, rfl, rfl⟩
  have HO := Lib.hid (show MOk x by rw [hx]; exact mok_of (ps := []) (by decide) (by decide) (by unfold I64; decide) (.inr rfl) (by decide) (by simp))
  obtain ⟨W1, hW1⟩ : ∃ W1, W1 = ((w.alloc (.cells #[.int .i64 0, .int .i64 0, .int .i64 0, .string ⟨#[]⟩] 61)).alloc (.cells #[.int .u8 4, .int .u64 0, .int .i64 0, .slice none 0 0] 122)) := ⟨_, rfl⟩
  have HW := Lib.hid (show MdW w W1 x A2 c2 by rw [hW1]; exact ⟨((Fr.refl _ _).alloc _).alloc _, (Blk.new _ _ _).alloc _, by rw [hx, hA.1, hA.2]; exact Blk.new_eq (by simp), by rw [hx, hA.1, hA.2]; exact Sl.none_ _ _⟩)
  rw [← hW1]
  clear hW1
  have HF1 := Lib.hid HW.out.fr
  have HBZ := Lib.hid HW.out.z
  have HBX := Lib.hid HW.out.m
  have HS1 := Lib.hid HW.out.s
  have hcW := Fr.cell HF1.out hc (fun e => e)
  clear HW
  clear hA hx
  have HRM := Lib.hid (rf_May W1 x A2 c2 HS1.out HO.out)
  have bx := HBX.out.cell
  have bz := HBZ.out.cell
  unfold mV at bx HRM
  cases hmay : mayM x with
  | false =>
    rw [hmay] at HRM HZR
    have HR := Lib.hid (show zr = (11, z0) by rw [HZR.out]; rfl)
    clear HZR hmay
    go_wp2_with (first | ((go_at_call 69); (with_reducible refine HRM.out.mono ?_); rintro e w3 ⟨rfl, hf3⟩; have HF3 := Lib.hid (HF1.out.call hf3 (fun _ e _ => e)); have HZ3 := Lib.hid (HBZ.out.fr hf3 (fun e => e)); have zc := HZ3.out.cell; have zf := HZ3.out.frozen; clear hf3) | fail)
    rw [HR.out]
    refine bodyPost_ret (v := .tuple #[.agg #[.int .i64 0, .int .i64 0, .int .i64 0, .string ⟨#[]⟩], .int .i64 11]) (by simp [results, Tryz.results46, go_sem, zc]) rfl ?_
    exact ⟨rfl, (HF3.out.mono (fun _ _ e => e.elim)).call (set4_fr _ _ _ _ _ _) (fun k (e : k = w.heap.size) hk => by omega)⟩
  | true =>
    rw [hmay] at HRM HZR
    have HR := Lib.hid (show zr = (0, ⟨2, a, 0, frameM x⟩) by rw [HZR.out]; rfl)
    clear HZR hmay
    go_upto_region 20 with (first | ((go_at_call 69); (with_reducible refine HRM.out.mono ?_); rintro e w3 ⟨rfl, hf3⟩; have HF3 := Lib.hid (HF1.out.call hf3 (fun _ e _ => e)); have HF13 := Lib.hid hf3; clear hf3) | fail)
    have HS3 := Lib.hid (HS1.out.pure HF13.out)
    have hc3 := Fr.cell HF13.out hcW (fun e => e)
    have HBX3 := Lib.hid (HBX.out.fr HF13.out (fun e => e))
    have HBZ3 := Lib.hid (HBZ.out.fr HF13.out (fun e => e))
    have hxl := HBX.out.lt
    have h13 := HF13.out.size
    have HD0 := Lib.hid (MdS.mk (z := w.heap.size) hc3 HBX3.out ((Fr.refl _ w3).drew) (by omega) (by omega))
    have HFD := Lib.hid (show Fr Nob w w3.drew from HF3.out.drew)
    have HCF := Lib.hid (rf_Frame w3.drew x A2 c2 HS3.out.drew HO.out)
    unfold mV at HCF
    unfold MdS at HD0
    clear bx bz HRM
    go_region_held3 (fun W => W.cell? ⟨g, o, none⟩ = some (.int .u64 a) ∧ W.cell? ⟨w.heap.size + 1, 0, none⟩ = some (.int .u8 x.kind) ∧ W.cell? ⟨w.heap.size + 1, 1, none⟩ = some (.int .u64 x.seq) ∧ W.cell? ⟨w.heap.size + 1, 2, none⟩ = some (.int .i64 x.at_) ∧ W.cell? ⟨w.heap.size + 1, 3, none⟩ = some (.slice A2 x.props.length c2))
      (first
        | with_reducible exact HD0.out
        | with_reducible exact HD4.out
        | with_reducible exact HD5.out)
      (first
        | ((go_at_call 70); (with_reducible refine HCF.out.mono ?_); rintro e w4 ⟨rfl, hf4⟩; have HG4 := Lib.hid ((Fr.refl Nob w3).drew.call hf4 (fun _ e _ => e)); have HD4 := Lib.hid (MdS.mk (z := w.heap.size) hc3 HBX3.out (HG4.out.mono (fun _ _ e => e.elim)) (by omega) (by omega)); have HZ4 := Lib.hid (HBZ3.out.fr HG4.out (fun e => e)); have zc := HZ4.out.cell; have zf := HZ4.out.frozen; have HD5 := Lib.hid (MdS.mk (z := w.heap.size) hc3 HBX3.out ((HG4.out.mono (fun _ _ e => e.elim)).call (set4_fr w4 w.heap.size (.int .i64 2) (.int .i64 (IntKind.i64.wrap a)) (.int .i64 0) (.string ⟨(frameM x).toArray⟩)) (fun _ e _ => e)) (by omega) (by omega)); unfold MdS at HD4 HD5; clear hf4)
        | fail)
    all_goals
      clear HD0 HD4 HD5
      rw [HWR.out]
      have hset := set4_fr w4 w.heap.size (.int .i64 2) (.int .i64 a) (.int .i64 0) (.string ⟨(frameM x).toArray⟩)
      have HF9 := Lib.hid ((HF3.out.mono (fun _ _ e => e.elim)).call ((HG4.out.mono (fun _ _ e => e.elim)).call hset (fun _ e _ => e)) (fun _ e _ => e))
      try go_wp2_with fail
      rw [HR.out]
      refine bodyPost_ret (v := .tuple #[.agg #[.int .i64 2, .int .i64 a, .int .i64 0, .string ⟨(frameM x).toArray⟩], .int .i64 0]) (by simp [results, Tryz.results46, go_sem, zc]) rfl ?_
      exact ⟨rfl, HF9.out.mono (fun k hk (e : k = w.heap.size) => by omega)⟩
theorem md_2 (w : World) (s b : ByteArray) (h : WordIs s 2) (NA PA : Option Addr) (nc pn pc a q : Nat) (hn : Sl w 1 NA 2 nc (u64s [a, q])) (ha : a ≤ 7) (hq : q < 18446744073709551616) : Calls Tryz.prog 46 #[.string s, .slice NA 2 nc, .string b, .slice PA pn pc] w (MdP w (if mayM ⟨1, q, 0, []⟩ then (0, ⟨2, a, 0, frameM ⟨1, q, 0, []⟩⟩) else (11, z0))) := by
  obtain ⟨h0, h1, h2, h3, h4, h5, h6, h7, h8⟩ := wis_2 h
  clear h
  obtain ⟨g, o, rfl, hg, hc⟩ := hn.u64_at (k := 0) (by simp)
  have hle := hn.le
  replace hc : w.cell? ⟨g, o, none⟩ = some (.int .u64 a) := hc
  have haI : (a : Int) < 9223372036854775808 := by omega
  have HWR := Lib.hid (show IntKind.i64.wrap (a : Int) = a from by rw [IntKind.wrap_i64]; omega)
  obtain ⟨g', o', he, -, hc1⟩ := hn.u64_at (k := 1) (by simp)
  obtain ⟨rfl, rfl⟩ : g = g' ∧ o = o' := by injection he with he; injection he with e1 e2; exact ⟨e1, e2⟩
  replace hc1 : w.cell? ⟨g, o + 1, none⟩ = some (.int .u64 q) := hc1
  clear he
  clear hn
  obtain ⟨x, hx⟩ : ∃ x : MC, x = ⟨1, q, 0, []⟩ := ⟨_, rfl⟩
  obtain ⟨zr, HZR⟩ : ∃ zr, Hid (zr = (if mayM x then ((0 : Int), (⟨2, a, 0, frameM x⟩ : ZC)) else (11, z0))) := ⟨_, Lib.hid rfl⟩
  rw [← hx, ← HZR.out]
  go_enter Tryz.func46, Tryz.ntmps46
  go_upto_region 18 with fail
  obtain ⟨A2, c2, hA⟩ : ∃ (A2 : Option Addr) (c2 : Nat), A2 = none ∧ c2 = 0 := ⟨_, _, rfl, rfl⟩
  have HO := Lib.hid (show MOk x by rw [hx]; exact mok_of (ps := []) (by simp) (by simp; omega) (by unfold I64; simp) (.inr rfl) (by decide) (by simp))
  obtain ⟨W1, hW1⟩ : ∃ W1, W1 = ((w.alloc (.cells #[.int .i64 0, .int .i64 0, .int .i64 0, .string ⟨#[]⟩] 61)).alloc (.cells #[.int .u8 1, .int .u64 q, .int .i64 0, .slice none 0 0] 122)) := ⟨_, rfl⟩
  have HW := Lib.hid (show MdW w W1 x A2 c2 by rw [hW1]; exact ⟨((Fr.refl _ _).alloc _).alloc _, (Blk.new _ _ _).alloc _, by rw [hx, hA.1, hA.2]; exact Blk.new_eq (by simp), by rw [hx, hA.1, hA.2]; exact Sl.none_ _ _⟩)
  rw [← hW1]
  clear hW1
  have HF1 := Lib.hid HW.out.fr
  have HBZ := Lib.hid HW.out.z
  have HBX := Lib.hid HW.out.m
  have HS1 := Lib.hid HW.out.s
  have hcW := Fr.cell HF1.out hc (fun e => e)
  clear HW
  clear hA hx hc1
  have HRM := Lib.hid (rf_May W1 x A2 c2 HS1.out HO.out)
  have bx := HBX.out.cell
  have bz := HBZ.out.cell
  unfold mV at bx HRM
  cases hmay : mayM x with
  | false =>
    rw [hmay] at HRM HZR
    have HR := Lib.hid (show zr = (11, z0) by rw [HZR.out]; rfl)
    clear HZR hmay
    go_wp2_with (first | ((go_at_call 69); (with_reducible refine HRM.out.mono ?_); rintro e w3 ⟨rfl, hf3⟩; have HF3 := Lib.hid (HF1.out.call hf3 (fun _ e _ => e)); have HZ3 := Lib.hid (HBZ.out.fr hf3 (fun e => e)); have zc := HZ3.out.cell; have zf := HZ3.out.frozen; clear hf3) | fail)
    rw [HR.out]
    refine bodyPost_ret (v := .tuple #[.agg #[.int .i64 0, .int .i64 0, .int .i64 0, .string ⟨#[]⟩], .int .i64 11]) (by simp [results, Tryz.results46, go_sem, zc]) rfl ?_
    exact ⟨rfl, (HF3.out.mono (fun _ _ e => e.elim)).call (set4_fr _ _ _ _ _ _) (fun k (e : k = w.heap.size) hk => by omega)⟩
  | true =>
    rw [hmay] at HRM HZR
    have HR := Lib.hid (show zr = (0, ⟨2, a, 0, frameM x⟩) by rw [HZR.out]; rfl)
    clear HZR hmay
    go_upto_region 20 with (first | ((go_at_call 69); (with_reducible refine HRM.out.mono ?_); rintro e w3 ⟨rfl, hf3⟩; have HF3 := Lib.hid (HF1.out.call hf3 (fun _ e _ => e)); have HF13 := Lib.hid hf3; clear hf3) | fail)
    have HS3 := Lib.hid (HS1.out.pure HF13.out)
    have hc3 := Fr.cell HF13.out hcW (fun e => e)
    have HBX3 := Lib.hid (HBX.out.fr HF13.out (fun e => e))
    have HBZ3 := Lib.hid (HBZ.out.fr HF13.out (fun e => e))
    have hxl := HBX.out.lt
    have h13 := HF13.out.size
    have HD0 := Lib.hid (MdS.mk (z := w.heap.size) hc3 HBX3.out ((Fr.refl _ w3).drew) (by omega) (by omega))
    have HFD := Lib.hid (show Fr Nob w w3.drew from HF3.out.drew)
    have HCF := Lib.hid (rf_Frame w3.drew x A2 c2 HS3.out.drew HO.out)
    unfold mV at HCF
    unfold MdS at HD0
    clear bx bz HRM
    go_region_held3 (fun W => W.cell? ⟨g, o, none⟩ = some (.int .u64 a) ∧ W.cell? ⟨w.heap.size + 1, 0, none⟩ = some (.int .u8 x.kind) ∧ W.cell? ⟨w.heap.size + 1, 1, none⟩ = some (.int .u64 x.seq) ∧ W.cell? ⟨w.heap.size + 1, 2, none⟩ = some (.int .i64 x.at_) ∧ W.cell? ⟨w.heap.size + 1, 3, none⟩ = some (.slice A2 x.props.length c2))
      (first
        | with_reducible exact HD0.out
        | with_reducible exact HD4.out
        | with_reducible exact HD5.out)
      (first
        | ((go_at_call 70); (with_reducible refine HCF.out.mono ?_); rintro e w4 ⟨rfl, hf4⟩; have HG4 := Lib.hid ((Fr.refl Nob w3).drew.call hf4 (fun _ e _ => e)); have HD4 := Lib.hid (MdS.mk (z := w.heap.size) hc3 HBX3.out (HG4.out.mono (fun _ _ e => e.elim)) (by omega) (by omega)); have HZ4 := Lib.hid (HBZ3.out.fr HG4.out (fun e => e)); have zc := HZ4.out.cell; have zf := HZ4.out.frozen; have HD5 := Lib.hid (MdS.mk (z := w.heap.size) hc3 HBX3.out ((HG4.out.mono (fun _ _ e => e.elim)).call (set4_fr w4 w.heap.size (.int .i64 2) (.int .i64 (IntKind.i64.wrap a)) (.int .i64 0) (.string ⟨(frameM x).toArray⟩)) (fun _ e _ => e)) (by omega) (by omega)); unfold MdS at HD4 HD5; clear hf4)
        | fail)
    all_goals
      clear HD0 HD4 HD5
      rw [HWR.out]
      have hset := set4_fr w4 w.heap.size (.int .i64 2) (.int .i64 a) (.int .i64 0) (.string ⟨(frameM x).toArray⟩)
      have HF9 := Lib.hid ((HF3.out.mono (fun _ _ e => e.elim)).call ((HG4.out.mono (fun _ _ e => e.elim)).call hset (fun _ e _ => e)) (fun _ e _ => e))
      try go_wp2_with fail
      rw [HR.out]
      refine bodyPost_ret (v := .tuple #[.agg #[.int .i64 2, .int .i64 a, .int .i64 0, .string ⟨(frameM x).toArray⟩], .int .i64 0]) (by simp [results, Tryz.results46, go_sem, zc]) rfl ?_
      exact ⟨rfl, HF9.out.mono (fun k hk (e : k = w.heap.size) => by omega)⟩
theorem md_4 (w : World) (s b : ByteArray) (h : WordIs s 4) (NA PA : Option Addr) (nc pn pc a q : Nat) (hn : Sl w 1 NA 2 nc (u64s [a, q])) (ha : a ≤ 7) (hq : q ≤ 9223372036854775807) : Calls Tryz.prog 46 #[.string s, .slice NA 2 nc, .string b, .slice PA pn pc] w (MdP w (if mayM ⟨3, 0, q, []⟩ then (0, ⟨2, a, 0, frameM ⟨3, 0, q, []⟩⟩) else (11, z0))) := by
  obtain ⟨h0, h1, h2, h3, h4, h5, h6, h7, h8⟩ := wis_4 h
  clear h
  obtain ⟨g, o, rfl, hg, hc⟩ := hn.u64_at (k := 0) (by simp)
  have hle := hn.le
  replace hc : w.cell? ⟨g, o, none⟩ = some (.int .u64 a) := hc
  have haI : (a : Int) < 9223372036854775808 := by omega
  have HWR := Lib.hid (show IntKind.i64.wrap (a : Int) = a from by rw [IntKind.wrap_i64]; omega)
  obtain ⟨g', o', he, -, hc1⟩ := hn.u64_at (k := 1) (by simp)
  obtain ⟨rfl, rfl⟩ : g = g' ∧ o = o' := by injection he with he; injection he with e1 e2; exact ⟨e1, e2⟩
  replace hc1 : w.cell? ⟨g, o + 1, none⟩ = some (.int .u64 q) := hc1
  clear he
  have hqI : (q : Int) < 9223372036854775808 := by omega
  clear hn
  obtain ⟨x, hx⟩ : ∃ x : MC, x = ⟨3, 0, q, []⟩ := ⟨_, rfl⟩
  obtain ⟨zr, HZR⟩ : ∃ zr, Hid (zr = (if mayM x then ((0 : Int), (⟨2, a, 0, frameM x⟩ : ZC)) else (11, z0))) := ⟨_, Lib.hid rfl⟩
  rw [← hx, ← HZR.out]
  go_enter Tryz.func46, Tryz.ntmps46
  go_upto_region 18 with fail
  obtain ⟨A2, c2, hA⟩ : ∃ (A2 : Option Addr) (c2 : Nat), A2 = none ∧ c2 = 0 := ⟨_, _, rfl, rfl⟩
  have HO := Lib.hid (show MOk x by rw [hx]; exact mok_of (ps := []) (by simp) (by simp) (by unfold I64; simp; omega) (.inr rfl) (by decide) (by simp))
  obtain ⟨W1, hW1⟩ : ∃ W1, W1 = ((w.alloc (.cells #[.int .i64 0, .int .i64 0, .int .i64 0, .string ⟨#[]⟩] 61)).alloc (.cells #[.int .u8 3, .int .u64 0, .int .i64 q, .slice none 0 0] 122)) := ⟨_, rfl⟩
  have HW := Lib.hid (show MdW w W1 x A2 c2 by rw [hW1]; exact ⟨((Fr.refl _ _).alloc _).alloc _, (Blk.new _ _ _).alloc _, by rw [hx, hA.1, hA.2]; exact Blk.new_eq (by simp), by rw [hx, hA.1, hA.2]; exact Sl.none_ _ _⟩)
  rw [← hW1]
  clear hW1
  have HF1 := Lib.hid HW.out.fr
  have HBZ := Lib.hid HW.out.z
  have HBX := Lib.hid HW.out.m
  have HS1 := Lib.hid HW.out.s
  have hcW := Fr.cell HF1.out hc (fun e => e)
  clear HW
  clear hA hx hc1
  have HRM := Lib.hid (rf_May W1 x A2 c2 HS1.out HO.out)
  have bx := HBX.out.cell
  have bz := HBZ.out.cell
  unfold mV at bx HRM
  cases hmay : mayM x with
  | false =>
    rw [hmay] at HRM HZR
    have HR := Lib.hid (show zr = (11, z0) by rw [HZR.out]; rfl)
    clear HZR hmay
    go_wp2_with (first | ((go_at_call 69); (with_reducible refine HRM.out.mono ?_); rintro e w3 ⟨rfl, hf3⟩; have HF3 := Lib.hid (HF1.out.call hf3 (fun _ e _ => e)); have HZ3 := Lib.hid (HBZ.out.fr hf3 (fun e => e)); have zc := HZ3.out.cell; have zf := HZ3.out.frozen; clear hf3) | fail)
    rw [HR.out]
    refine bodyPost_ret (v := .tuple #[.agg #[.int .i64 0, .int .i64 0, .int .i64 0, .string ⟨#[]⟩], .int .i64 11]) (by simp [results, Tryz.results46, go_sem, zc]) rfl ?_
    exact ⟨rfl, (HF3.out.mono (fun _ _ e => e.elim)).call (set4_fr _ _ _ _ _ _) (fun k (e : k = w.heap.size) hk => by omega)⟩
  | true =>
    rw [hmay] at HRM HZR
    have HR := Lib.hid (show zr = (0, ⟨2, a, 0, frameM x⟩) by rw [HZR.out]; rfl)
    clear HZR hmay
    go_upto_region 20 with (first | ((go_at_call 69); (with_reducible refine HRM.out.mono ?_); rintro e w3 ⟨rfl, hf3⟩; have HF3 := Lib.hid (HF1.out.call hf3 (fun _ e _ => e)); have HF13 := Lib.hid hf3; clear hf3) | fail)
    have HS3 := Lib.hid (HS1.out.pure HF13.out)
    have hc3 := Fr.cell HF13.out hcW (fun e => e)
    have HBX3 := Lib.hid (HBX.out.fr HF13.out (fun e => e))
    have HBZ3 := Lib.hid (HBZ.out.fr HF13.out (fun e => e))
    have hxl := HBX.out.lt
    have h13 := HF13.out.size
    have HD0 := Lib.hid (MdS.mk (z := w.heap.size) hc3 HBX3.out ((Fr.refl _ w3).drew) (by omega) (by omega))
    have HFD := Lib.hid (show Fr Nob w w3.drew from HF3.out.drew)
    have HCF := Lib.hid (rf_Frame w3.drew x A2 c2 HS3.out.drew HO.out)
    unfold mV at HCF
    unfold MdS at HD0
    clear bx bz HRM
    go_region_held3 (fun W => W.cell? ⟨g, o, none⟩ = some (.int .u64 a) ∧ W.cell? ⟨w.heap.size + 1, 0, none⟩ = some (.int .u8 x.kind) ∧ W.cell? ⟨w.heap.size + 1, 1, none⟩ = some (.int .u64 x.seq) ∧ W.cell? ⟨w.heap.size + 1, 2, none⟩ = some (.int .i64 x.at_) ∧ W.cell? ⟨w.heap.size + 1, 3, none⟩ = some (.slice A2 x.props.length c2))
      (first
        | with_reducible exact HD0.out
        | with_reducible exact HD4.out
        | with_reducible exact HD5.out)
      (first
        | ((go_at_call 70); (with_reducible refine HCF.out.mono ?_); rintro e w4 ⟨rfl, hf4⟩; have HG4 := Lib.hid ((Fr.refl Nob w3).drew.call hf4 (fun _ e _ => e)); have HD4 := Lib.hid (MdS.mk (z := w.heap.size) hc3 HBX3.out (HG4.out.mono (fun _ _ e => e.elim)) (by omega) (by omega)); have HZ4 := Lib.hid (HBZ3.out.fr HG4.out (fun e => e)); have zc := HZ4.out.cell; have zf := HZ4.out.frozen; have HD5 := Lib.hid (MdS.mk (z := w.heap.size) hc3 HBX3.out ((HG4.out.mono (fun _ _ e => e.elim)).call (set4_fr w4 w.heap.size (.int .i64 2) (.int .i64 (IntKind.i64.wrap a)) (.int .i64 0) (.string ⟨(frameM x).toArray⟩)) (fun _ e _ => e)) (by omega) (by omega)); unfold MdS at HD4 HD5; clear hf4)
        | fail)
    all_goals
      clear HD0 HD4 HD5
      rw [HWR.out]
      have hset := set4_fr w4 w.heap.size (.int .i64 2) (.int .i64 a) (.int .i64 0) (.string ⟨(frameM x).toArray⟩)
      have HF9 := Lib.hid ((HF3.out.mono (fun _ _ e => e.elim)).call ((HG4.out.mono (fun _ _ e => e.elim)).call hset (fun _ e _ => e)) (fun _ e _ => e))
      try go_wp2_with fail
      rw [HR.out]
      refine bodyPost_ret (v := .tuple #[.agg #[.int .i64 2, .int .i64 a, .int .i64 0, .string ⟨(frameM x).toArray⟩], .int .i64 0]) (by simp [results, Tryz.results46, go_sem, zc]) rfl ?_
      exact ⟨rfl, HF9.out.mono (fun k hk (e : k = w.heap.size) => by omega)⟩
theorem ref_OfL (w : World) (A : Option Addr) (c : Nat) (l : List PP) (hl : Sl w 2 A l.length c (l.flatMap pcs)) (h63 : l.length ≤ 9000) :
    Calls Tryz.prog 68 #[.slice A l.length c] w fun e w' => Made w w' e (lof l) := by
  have := ref_Of w A c l hl h63
  rw [zputAll_nil] at this
  exact this
/-- What an event's step reads. -/
def EvZ (W : World) (g o q t : Nat) : Prop := W.cell? ⟨g, o + 1, none⟩ = some (.int .u64 q) ∧ W.cell? ⟨g, o + 2, none⟩ = some (.int .u64 t)
theorem EvZ.mk {w W : World} {g o q t z : Nat} (h1 : w.cell? ⟨g, o + 1, none⟩ = some (.int .u64 q)) (h2 : w.cell? ⟨g, o + 2, none⟩ = some (.int .u64 t)) (hf : Fr (Only z) w W) (hz : g ≠ z) : EvZ W g o q t := ⟨Fr.cell hf h1 (fun e => hz e), Fr.cell hf h2 (fun e => hz e)⟩
theorem not_box {w : World} {z c : Nat} {A : Option Addr} {l : List PP} {k q t : Int} (zc : ∀ i : Nat, w.cell? ⟨z, i, none⟩ = (#[.int .u8 k, .int .u64 q, .int .i64 t, .slice none 0 0] : Array Value)[i]?) (hs : Sl w 2 A l.length c (l.flatMap pcs)) : ∀ g o, A = some ⟨g, o, none⟩ → 0 < l.length → g ≠ z := by
  rintro g o rfl hn rfl
  obtain ⟨b, off, he, -, hc⟩ := hs.cells hn
  injection he with he
  injection he with e1 e2
  subst e1 e2
  cases l with
  | nil => simp at hn
  | cons p r =>
    have h0 := hc 0 (.string p.name) (by simp [pcs])
    rw [Nat.add_zero, zc] at h0
    match o, h0 with
    | 0, h0 => simp at h0
    | 1, h0 => simp at h0
    | 2, h0 => simp at h0
    | 3, h0 => simp at h0
    | n + 4, h0 => simp at h0
theorem md_3 (w : World) (s b : ByteArray) (h : WordIs s 3) (NA PA : Option Addr) (nc pc a q t : Nat) (ps : List PP) (hn : Sl w 1 NA 3 nc (u64s [a, q, t])) (ha : a ≤ 7) (hq : q < 18446744073709551616) (ht : t ≤ 9223372036854775807) (hp : Sl w 2 PA ps.length pc (ps.flatMap pcs)) (hpl : ps.length ≤ 9000) (hpn : ∀ p ∈ ps, p.name.size ≤ 100000 ∧ I64 p.value) :
    Calls Tryz.prog 46 #[.string s, .slice NA 3 nc, .string b, .slice PA ps.length pc] w (MdP w (if mayM ⟨2, q, t, lof ps⟩ then (0, ⟨2, a, 0, frameM ⟨2, q, t, lof ps⟩⟩) else (11, z0))) := by
  obtain ⟨h0, h1, h2, h3, h4, h5, h6, h7, h8⟩ := wis_3 h
  clear h
  obtain ⟨g, o, rfl, hg, hc⟩ := hn.u64_at (k := 0) (by simp)
  have hle := hn.le
  replace hc : w.cell? ⟨g, o, none⟩ = some (.int .u64 a) := hc
  have haI : (a : Int) < 9223372036854775808 := by omega
  have HWR := Lib.hid (show IntKind.i64.wrap (a : Int) = a from by rw [IntKind.wrap_i64]; omega)
  obtain ⟨g', o', he, -, hc1⟩ := hn.u64_at (k := 1) (by simp)
  obtain ⟨rfl, rfl⟩ : g = g' ∧ o = o' := by injection he with he; injection he with e1 e2; exact ⟨e1, e2⟩
  replace hc1 : w.cell? ⟨g, o + 1, none⟩ = some (.int .u64 q) := hc1
  clear he
  obtain ⟨g', o', he, -, hc2⟩ := hn.u64_at (k := 2) (by simp)
  obtain ⟨rfl, rfl⟩ : g = g' ∧ o = o' := by injection he with he; injection he with e1 e2; exact ⟨e1, e2⟩
  replace hc2 : w.cell? ⟨g, o + 2, none⟩ = some (.int .u64 t) := hc2
  clear he
  have HOF := Lib.hid (fun W (hf : Fr Nob w W) => ref_OfL W PA pc ps (hp.pure hf) hpl)
  have HWT := Lib.hid (show IntKind.i64.wrap (t : Int) = t from by rw [IntKind.wrap_i64]; omega)
  have htI : (t : Int) < 9223372036854775808 := by omega
  clear hn
  obtain ⟨x, hx⟩ : ∃ x : MC, x = ⟨2, q, t, lof ps⟩ := ⟨_, rfl⟩
  obtain ⟨zr, HZR⟩ : ∃ zr, Hid (zr = (if mayM x then ((0 : Int), (⟨2, a, 0, frameM x⟩ : ZC)) else (11, z0))) := ⟨_, Lib.hid rfl⟩
  rw [← hx, ← HZR.out]
  have HO := Lib.hid (show MOk x by rw [hx]; exact mok_of (ps := ps) (by simp) (by simp; omega) (by unfold I64; simp; omega) (.inl rfl) (by omega) hpn)
  clear hpn hp
  go_enter Tryz.func46, Tryz.ntmps46
  go_upto_region 15 with fail
  obtain ⟨W0, hW0⟩ : ∃ W0, W0 = ((w.alloc (.cells #[.int .i64 0, .int .i64 0, .int .i64 0, .string ⟨#[]⟩] 61)).alloc (.cells #[.int .u8 4, .int .u64 0, .int .i64 0, .slice none 0 0] 122)) := ⟨_, rfl⟩
  have HF0 := Lib.hid (show Fr Nob w W0 by rw [hW0]; exact ((Fr.refl _ _).alloc _).alloc _)
  have HBA := Lib.hid (show Blk W0 w.heap.size 61 #[.int .i64 0, .int .i64 0, .int .i64 0, .string ⟨#[]⟩] by rw [hW0]; exact (Blk.new _ _ _).alloc _)
  have HBB := Lib.hid (show Blk W0 (w.heap.size + 1) 122 #[.int .u8 4, .int .u64 0, .int .i64 0, .slice none 0 0] by rw [hW0]; exact Blk.new_eq (by simp))
  rw [← hW0]
  clear hW0
  have HD0 := Lib.hid (EvZ.mk (z := w.heap.size + 1) hc1 hc2 ((HF0.out.mono (fun _ _ e => e.elim)).drew) (by omega))
  have HFD := Lib.hid (show Fr Nob w W0.drew from HF0.out.drew)
  unfold EvZ at HD0
  go_region_held3 (fun W => W.cell? ⟨g, o + 1, none⟩ = some (.int .u64 q) ∧ W.cell? ⟨g, o + 2, none⟩ = some (.int .u64 t))
    (first
      | with_reducible exact HD0.out
      | with_reducible exact HD2.out
      | with_reducible exact HD3.out)
    (first
      | ((go_at_call 68); (with_reducible refine (HOF.out _ HFD.out).mono ?_); rintro e w2 ⟨A2, c2, rfl, hs2, hf2⟩; have HS2 := Lib.hid hs2; have HG2 := Lib.hid ((Fr.refl Nob W0).drew.call hf2 (fun _ e _ => e)); have HH2 := Lib.hid (HF0.out.call HG2.out (fun _ e _ => e)); have HD2 := Lib.hid (EvZ.mk (z := w.heap.size + 1) hc1 hc2 (HH2.out.mono (fun _ _ e => e.elim)) (by omega)); have HZ2 := Lib.hid (HBB.out.fr HG2.out (fun e => e)); have zc := HZ2.out.cell; have zf := HZ2.out.frozen; have HD3 := Lib.hid (EvZ.mk (z := w.heap.size + 1) hc1 hc2 ((HH2.out.mono (fun _ _ e => e.elim)).call (set4_fr w2 (w.heap.size + 1) (.int .u8 2) (.int .u64 q) (.int .i64 (IntKind.i64.wrap t)) (.slice A2 (lof ps).length c2)) (fun _ e _ => e)) (by omega)); unfold EvZ at HD2 HD3; clear hs2 hf2)
      | fail)
  all_goals
    clear HD0 HD2 HD3
    rw [HWT.out]
    have hoff := not_box zc HS2.out
    have hset := set4_fr w2 (w.heap.size + 1) (.int .u8 2) (.int .u64 q) (.int .i64 t) (.slice A2 (lof ps).length c2)
    have hW1 := (HH2.out.mono (fun _ _ e => e.elim)).call hset (fun _ e _ => e)
    have HMW := Lib.hid (show MdW w ((((w2.setCell ⟨w.heap.size + 1, 0, none⟩ (.int .u8 2)).setCell ⟨w.heap.size + 1, 1, none⟩ (.int .u64 q)).setCell ⟨w.heap.size + 1, 2, none⟩ (.int .i64 t)).setCell ⟨w.heap.size + 1, 3, none⟩ (.slice A2 (lof ps).length c2)) x A2 c2 from
      ⟨hW1.mono (fun k hk (e : k = _) => by omega), (HBA.out.fr HG2.out (fun e => e)).fr hset (fun (e : w.heap.size = _) => by omega), by rw [hx]; exact (((HZ2.out.set 0 _).set 1 _).set 2 _).set 3 _, by rw [hx]; exact HS2.out.fr hset (fun g o e hn h => hoff g o e hn h)⟩)
    clear hset hW1 hoff zc zf HZ2
    obtain ⟨W1, hW1⟩ : ∃ W1, W1 = ((((w2.setCell ⟨w.heap.size + 1, 0, none⟩ (.int .u8 2)).setCell ⟨w.heap.size + 1, 1, none⟩ (.int .u64 q)).setCell ⟨w.heap.size + 1, 2, none⟩ (.int .i64 t)).setCell ⟨w.heap.size + 1, 3, none⟩ (.slice A2 (lof ps).length c2)) := ⟨_, rfl⟩
    have HW := Lib.hid (show MdW w W1 x A2 c2 by rw [hW1]; exact HMW.out)
    rw [← hW1]
    clear hW1
    have HF1 := Lib.hid HW.out.fr
    have HBZ := Lib.hid HW.out.z
    have HBX := Lib.hid HW.out.m
    have HS1 := Lib.hid HW.out.s
    have hcW := Fr.cell HF1.out hc (fun e => e)
    clear HW
    have hlen : (lof ps).length = x.props.length := by rw [hx]
    rw [hlen] at *
    go_upto_region 18 with fail
    clear hx hc1 hc2 HG2 HH2 HFD HBA HBB HF0 HMW HS2
    have HRM := Lib.hid (rf_May W1 x A2 c2 HS1.out HO.out)
    have bx := HBX.out.cell
    have bz := HBZ.out.cell
    unfold mV at bx HRM
    cases hmay : mayM x with
    | false =>
      rw [hmay] at HRM HZR
      have HR := Lib.hid (show zr = (11, z0) by rw [HZR.out]; rfl)
      clear HZR hmay
      go_wp2_with (first | ((go_at_call 69); (with_reducible refine HRM.out.mono ?_); rintro e w3 ⟨rfl, hf3⟩; have HF3 := Lib.hid (HF1.out.call hf3 (fun _ e _ => e)); have HZ3 := Lib.hid (HBZ.out.fr hf3 (fun e => e)); have zc := HZ3.out.cell; have zf := HZ3.out.frozen; clear hf3) | fail)
      rw [HR.out]
      refine bodyPost_ret (v := .tuple #[.agg #[.int .i64 0, .int .i64 0, .int .i64 0, .string ⟨#[]⟩], .int .i64 11]) (by simp [results, Tryz.results46, go_sem, zc]) rfl ?_
      exact ⟨rfl, (HF3.out.mono (fun _ _ e => e.elim)).call (set4_fr _ _ _ _ _ _) (fun k (e : k = w.heap.size) hk => by omega)⟩
    | true =>
      rw [hmay] at HRM HZR
      have HR := Lib.hid (show zr = (0, ⟨2, a, 0, frameM x⟩) by rw [HZR.out]; rfl)
      clear HZR hmay
      go_upto_region 20 with (first | ((go_at_call 69); (with_reducible refine HRM.out.mono ?_); rintro e w3 ⟨rfl, hf3⟩; have HF3 := Lib.hid (HF1.out.call hf3 (fun _ e _ => e)); have HF13 := Lib.hid hf3; clear hf3) | fail)
      have HS3 := Lib.hid (HS1.out.pure HF13.out)
      have hc3 := Fr.cell HF13.out hcW (fun e => e)
      have HBX3 := Lib.hid (HBX.out.fr HF13.out (fun e => e))
      have HBZ3 := Lib.hid (HBZ.out.fr HF13.out (fun e => e))
      have hxl := HBX.out.lt
      have h13 := HF13.out.size
      have HD0 := Lib.hid (MdS.mk (z := w.heap.size) hc3 HBX3.out ((Fr.refl _ w3).drew) (by omega) (by omega))
      have HFD := Lib.hid (show Fr Nob w w3.drew from HF3.out.drew)
      have HCF := Lib.hid (rf_Frame w3.drew x A2 c2 HS3.out.drew HO.out)
      unfold mV at HCF
      unfold MdS at HD0
      clear bx bz HRM
      go_region_held3 (fun W => W.cell? ⟨g, o, none⟩ = some (.int .u64 a) ∧ W.cell? ⟨w.heap.size + 1, 0, none⟩ = some (.int .u8 x.kind) ∧ W.cell? ⟨w.heap.size + 1, 1, none⟩ = some (.int .u64 x.seq) ∧ W.cell? ⟨w.heap.size + 1, 2, none⟩ = some (.int .i64 x.at_) ∧ W.cell? ⟨w.heap.size + 1, 3, none⟩ = some (.slice A2 x.props.length c2))
        (first
          | with_reducible exact HD0.out
          | with_reducible exact HD4.out
          | with_reducible exact HD5.out)
        (first
          | ((go_at_call 70); (with_reducible refine HCF.out.mono ?_); rintro e w4 ⟨rfl, hf4⟩; have HG4 := Lib.hid ((Fr.refl Nob w3).drew.call hf4 (fun _ e _ => e)); have HD4 := Lib.hid (MdS.mk (z := w.heap.size) hc3 HBX3.out (HG4.out.mono (fun _ _ e => e.elim)) (by omega) (by omega)); have HZ4 := Lib.hid (HBZ3.out.fr HG4.out (fun e => e)); have zc := HZ4.out.cell; have zf := HZ4.out.frozen; have HD5 := Lib.hid (MdS.mk (z := w.heap.size) hc3 HBX3.out ((HG4.out.mono (fun _ _ e => e.elim)).call (set4_fr w4 w.heap.size (.int .i64 2) (.int .i64 (IntKind.i64.wrap a)) (.int .i64 0) (.string ⟨(frameM x).toArray⟩)) (fun _ e _ => e)) (by omega) (by omega)); unfold MdS at HD4 HD5; clear hf4)
          | fail)
      all_goals
        clear HD0 HD4 HD5
        rw [HWR.out]
        have hset := set4_fr w4 w.heap.size (.int .i64 2) (.int .i64 a) (.int .i64 0) (.string ⟨(frameM x).toArray⟩)
        have HF9 := Lib.hid ((HF3.out.mono (fun _ _ e => e.elim)).call ((HG4.out.mono (fun _ _ e => e.elim)).call hset (fun _ e _ => e)) (fun _ e _ => e))
        try go_wp2_with fail
        rw [HR.out]
        refine bodyPost_ret (v := .tuple #[.agg #[.int .i64 2, .int .i64 a, .int .i64 0, .string ⟨(frameM x).toArray⟩], .int .i64 0]) (by simp [results, Tryz.results46, go_sem, zc]) rfl ?_
        exact ⟨rfl, HF9.out.mono (fun k hk (e : k = w.heap.size) => by omega)⟩
end Go.Proofs.YtidhlfcmjpnhgaaGreatDoor
