/- ScriptSays. -/
import Derived.Test.YtidhlfcmjpnhgaaGreatDoorQYawake
namespace Go.Proofs.YtidhlfcmjpnhgaaGreatDoor
open Go.RowKit Go.Lib Go.Shelf Go.Sort

theorem ysgr {f : FuncId} {args : Array Value} {W : World} {v : Value} (h : ∀ X, Fr Nob W X → Calls Tryz.prog f args X fun e w' => e = .returned v ∧ Fr Nob X w') (d : Nat) (os : Array Obj) :
    Calls Tryz.prog f args (grow (redrawn W d) os) fun e w'' => e = .returned v ∧ ∃ p : Regrown, w'' = grow (redrawn W p.d) p.os :=
  Calls.regrown_of ((h _ (Fr.of_below (below_regrown W d os))).mono fun _ _ ⟨h1, h2⟩ => ⟨h1, h2.below⟩)
theorem one_step {L : List StV} {x : ZC} (h : L.map StV.z = [x]) : ∃ B d, L = [⟨x, B, d⟩] := by
  match L, h with
  | [⟨x', B, d⟩], h =>
    simp only [List.map_cons, List.map_nil, List.cons.injEq, and_true] at h
    subst h
    exact ⟨B, d, rfl⟩
/-- What the last region reads. -/
def SaS (W : World) (g o x n d0 src q : Nat) (t : Int) (pl cap : Nat) (B0 A : Option Addr) (fm : ByteArray) : Prop :=
  W.cell? ⟨g, o, none⟩ = some (.int .i64 2) ∧ W.cell? ⟨g, o + 1, none⟩ = some (.int .i64 src) ∧ W.cell? ⟨g, o + 2, none⟩ = some (.int .i64 0) ∧ W.cell? ⟨g, o + 3, none⟩ = some (.slice B0 n d0) ∧ W.cell? ⟨x, 0, none⟩ = some (.int .u8 2) ∧ W.cell? ⟨x, 1, none⟩ = some (.int .u64 q) ∧ W.cell? ⟨x, 2, none⟩ = some (.int .i64 t) ∧ W.cell? ⟨x, 3, none⟩ = some (.slice A pl cap) ∧ (convert 32 9 (.slice B0 n d0)).run Tryz.prog W = .ok (.string fm) W
theorem SaS.mk {w W : World} {g o x d0 src q pl cap : Nat} {t : Int} {B0 A : Option Addr} {l : List UInt8} (h0 : w.cell? ⟨g, o, none⟩ = some (.int .i64 2)) (h1 : w.cell? ⟨g, o + 1, none⟩ = some (.int .i64 src)) (h2 : w.cell? ⟨g, o + 2, none⟩ = some (.int .i64 0)) (h3 : w.cell? ⟨g, o + 3, none⟩ = some (.slice B0 l.length d0)) (hx : Blk w x 39 #[.int .u8 2, .int .u64 q, .int .i64 t, .slice A pl cap]) (hs : Sl w 1 B0 l.length d0 (byteCells l)) (hf : Fr Nob w W) : SaS W g o x l.length d0 src q t pl cap B0 A ⟨l.toArray⟩ := by
  have hb := hx.fr hf (fun e => e)
  exact ⟨Fr.cell hf h0 (fun e => e), Fr.cell hf h1 (fun e => e), Fr.cell hf h2 (fun e => e), Fr.cell hf h3 (fun e => e), hb.cell 0, hb.cell 1, hb.cell 2, hb.cell 3, run_str (hs.pure hf)⟩
/-- An event's line, up to its propositions. -/
def sayH (src seq : Nat) (t : Int) : List UInt8 := [101, 118, 101, 110, 116, 32] ++ dg src ++ [32] ++ dg seq ++ [32] ++ digsI t
def sayP (p : PP) : List UInt8 := 32 :: propW p
theorem sayT_eq (m : MC) (src : Nat) : sayT m src = sayH src m.seq.toNat m.at_ ++ m.props.flatMap sayP := by
  unfold sayT sayW sayH
  rw [List.flatMap_append, List.flatMap_map]
  simp
  rfl
theorem ysapp (a b : List UInt8) : (⟨a.toArray⟩ : ByteArray) ++ ⟨b.toArray⟩ = ⟨(a ++ b).toArray⟩ := by apply ByteArray.ext; simp
theorem digsI_nat (n : Nat) : digsI (n : Int) = dg n := by unfold digsI; rw [if_neg (by omega)]; simp
theorem dg_two {u : Nat} (h : 10 ≤ u) : dg u = dg (u / 10) ++ dg (u % 10) := by
  rw [dg_big (by omega), dg_small (show u % 10 < 10 by omega)]
theorem sayP_len {p : PP} (h : p.name.size ≤ 40) (hv : I64 p.value) : (sayP p).length ≤ 70 := by
  unfold I64 at hv
  have h1 := dg_len p.value.natAbs 19 (by omega) (by omega)
  have h2 : (digsI p.value).length ≤ 20 := by
    unfold digsI
    split
    · rw [List.length_cons]; omega
    · omega
  unfold sayP propW
  rw [List.length_cons, List.length_append, List.length_cons, ba_len]
  omega
theorem sayH_len {src seq : Nat} {t : Int} (h1 : src ≤ 255) (h2 : seq < 18446744073709551616) (h3 : I64 t) : (sayH src seq t).length ≤ 100 := by
  unfold I64 at h3
  have a1 := dg_len src 20 (by omega) (by omega)
  have a2 := dg_len seq 20 (by omega) (by omega)
  have a3 := dg_len t.natAbs 19 (by omega) (by omega)
  have a4 : (digsI t).length ≤ 20 := by
    unfold digsI
    split
    · rw [List.length_cons]; omega
    · omega
  unfold sayH
  simp only [List.length_append, List.length_cons, List.length_nil]
  omega
set_option maxRecDepth 100000
set_option maxHeartbeats 8000000
theorem law_ScriptSays (w : World) (m : MC) (A : Option Addr) (cap : Nat) (src : Nat) (hs : Sl w 2 A m.props.length cap (m.props.flatMap pcs)) (hq : 0 ≤ m.seq ∧ m.seq < 18446744073709551616) (ht : I64 m.at_) (hpv : ∀ p ∈ m.props, I64 p.value) (hsr : src ≤ 255) (hv : SV w) :
    Calls Tryz.prog 5 #[.agg (mV m A cap), .int .u8 src] w fun e w' => e = .returned (.bool true) ∧ Fr Nob w w' := by
  have HV := Lib.hid hv
  have HL := Lib.hid hs
  have HPV := Lib.hid hpv
  have HAW := Lib.hid (fun W (hf : Fr Nob w W) => law27_awake W (hv.fr hf))
  have hle := hs.le
  have hmx := hs.max
  unfold maxLen at hmx
  obtain ⟨kind, seq, at_, props⟩ := m
  simp only at hq ht hle HPV HL
  clear hv hs hpv
  obtain ⟨q, rfl⟩ : ∃ q : Nat, seq = q := ⟨seq.toNat, by omega⟩
  have hq2 : q < 18446744073709551616 := by omega
  unfold mV
  simp only
  go_enter Tryz.func5, Tryz.ntmps5
  go_upto_region 1 with fail
  obtain ⟨W0, hW0⟩ : ∃ W0, W0 = w.alloc (.cells #[.int .u8 kind, .int .u64 q, .int .i64 at_, .slice A props.length cap] 39) := ⟨_, rfl⟩
  have HF0 := Lib.hid (show Fr Nob w W0 by rw [hW0]; exact (Fr.refl _ _).alloc _)
  have HB0 := Lib.hid (show Blk W0 w.heap.size 39 #[.int .u8 kind, .int .u64 q, .int .i64 at_, .slice A props.length cap] by rw [hW0]; exact Blk.new _ _ _)
  rw [← hW0]
  clear hW0
  go_upto_region 4 with (first
    | ((go_at_call 6); (with_reducible refine (HAW.out _ HF0.out).mono ?_); rintro e w1 ⟨rfl, hf1⟩; have HF1 := Lib.hid (HF0.out.call hf1 (fun _ e _ => e)); have HB1 := Lib.hid (HB0.out.fr hf1 (fun e => e)); clear hf1)
    | fail)
  have bc := HB1.out.cell
  have bf := HB1.out.frozen
  have HB2 := Lib.hid (show Blk (w1.setCell ⟨w.heap.size, 0, none⟩ (.int .u8 2)) w.heap.size 39 #[.int .u8 2, .int .u64 q, .int .i64 at_, .slice A props.length cap] from HB1.out.set 0 _)
  have HF2 := Lib.hid (show Fr Nob w (w1.setCell ⟨w.heap.size, 0, none⟩ (.int .u8 2)) from ((HF1.out.mono (fun _ _ e => e.elim)).setCell (S := Only w.heap.size) (p := ⟨w.heap.size, 0, none⟩) (fun _ => rfl) (.int .u8 2)).mono (fun k hk (e : k = w.heap.size) => by omega))
  go_upto_region 5 with fail
  generalize w1.setCell ⟨w.heap.size, 0, none⟩ (.int .u8 2) = W2 at *
  clear bc bf HB1 HB0 HF0 HF1 HAW
  have bx := HB2.out.cell
  by_cases h20 : (20 : Int) < props.length
  · go_wp2_with fail
    go_ret
    exact ⟨rfl, HF2.out⟩
  have hp20 : props.length ≤ 20 := by omega
  go_wp2_with fail
  go_loop [6] (fun iv => ∃ k : Nat, k ≤ props.length ∧ iv = .int .i64 k ∧ Hid (∀ p ∈ props.take k, p.name.size ≤ 40)) (fun iv => props.length - (RowKit.intOf iv).toNat)
  case atStart => exact ⟨0, Nat.zero_le _, rfl, Lib.hid (by simp)⟩
  case round =>
    obtain ⟨k, hk, rfl, hnm⟩ := hrel
    by_cases hlt : k < props.length
    · have hKI : (k : Int) < props.length := by omega
      have hK0 : (0 : Int) ≤ k := by omega
      obtain ⟨g, o, rfl, hg, c0, c1⟩ := pp_cells (HL.out.pure HF2.out) hlt
      by_cases h40 : (40 : Int) < (props[k].name.size : Nat)
      · generalize props[k] = p at *
        obtain ⟨pn, pv⟩ := p
        simp only at c0 c1 h40
        go_wp2_with fail
        go_ret
        exact ⟨rfl, HF2.out⟩
      · have HN2 := Lib.hid (show ∀ p ∈ props.take (k + 1), p.name.size ≤ 40 by
          rw [List.take_succ_eq_append_getElem hlt]
          intro p hp
          rcases List.mem_append.1 hp with hp | hp
          · exact hnm.out p hp
          · rw [List.mem_singleton] at hp; subst hp; omega)
        generalize props[k] = p at *
        obtain ⟨pn, pv⟩ := p
        simp only at c0 c1 h40
        go_wp2_with fail
        go_round
        case rel => exact ⟨k + 1, by omega, by go_num, HN2⟩
        case measure => simp [RowKit.intOf]; omega
    · obtain rfl : k = props.length := by omega
      have hKI : ¬ (props.length : Int) < props.length := by omega
      have hN40 : ∀ p ∈ props, p.name.size ≤ 40 := by have := hnm.out; rwa [List.take_of_length_le (Nat.le_refl _)] at this
      have HN40 := Lib.hid hN40
      have HO := Lib.hid (show MOk ⟨2, q, at_, props⟩ from ⟨by simp, by simp; omega, ht, by simp; omega, fun p hp => ⟨by have := hN40 p hp; omega, HPV.out p hp⟩⟩)
      have HS2 := Lib.hid (HL.out.pure HF2.out)
      have HMY := Lib.hid (prg_May W2 ⟨2, q, at_, props⟩ A cap HS2.out HO.out)
      unfold mV at HMY
      simp only at HMY
      clear hnm hN40 hk
      cases hmay : mayM ⟨2, q, at_, props⟩ with
      | false =>
        rw [hmay] at HMY
        clear hmay
        go_wp2_with (first
          | ((go_at_call 10); (with_reducible refine HMY.out.mono ?_); rintro e w3 ⟨rfl, hf3⟩; have HF3 := Lib.hid (HF2.out.call hf3 (fun _ e _ => e)); clear hf3)
          | fail)
        go_ret
        exact ⟨rfl, HF3.out⟩
      | true =>
        rw [hmay] at HMY
        have HM := Lib.hid hmay
        obtain ⟨u, hu⟩ : ∃ u, u = q / 10 := ⟨_, rfl⟩
        obtain ⟨v, hv⟩ : ∃ v, v = q % 10 := ⟨_, rfl⟩
        have hdiv : (q : Int) / 10 = (u : Int) := by omega
        have hmod : (q : Int) % 10 = (v : Int) := by omega
        have hu63 : (u : Int) < 9223372036854775808 := by omega
        have hv10 : (v : Int) < 10 := by omega
        have HU := Lib.hid hu
        have HVV := Lib.hid hv
        have HDIV := Lib.hid hdiv
        have HMOD := Lib.hid hmod
        clear hmay hu hv hdiv hmod
        go_upto_region 15 with (first
          | ((go_at_call 10); (with_reducible refine HMY.out.mono ?_); rintro e w3 ⟨rfl, hf3⟩; have HF3 := Lib.hid (HF2.out.call hf3 (fun _ e _ => e)); have HB3 := Lib.hid (HB2.out.fr hf3 (fun e => e)); have b3 := HB3.out.cell; clear hf3)
          | fail)
        rw [HDIV.out]
        have k1 := fun d os => cell_regrown (show w3.cell? ⟨w.heap.size, 1, none⟩ = some (.int .u64 q) from b3 1) d os
        have C1 := Lib.hid (ysgr (W := w3) fun W hf => ref_Digits W (u : Int) (by unfold I64; omega))
        have C2 := Lib.hid (ysgr (W := w3) fun W hf => ref_Digits W (v : Int) (by unfold I64; omega))
        rw [digsI_nat] at C1 C2
        have hmod := HMOD.out
        have z1 := ba_sz (dg u)
        have z2 := ba_sz (dg v)
        have l1 := dg_len u 20 (by omega) (by omega)
        have l2 := dg_len v 20 (by omega) (by omega)
        refine wp_region_quiet_below (by kernel_rfl) (by kernel_rfl) ?_
        repeat (go_big_quiet_step (first | with_reducible exact C1.out _ _ | with_reducible exact C2.out _ _))
        refine wpQuiet_nil ?_
        intro _ hw'
        obtain ⟨⟨dq, osq⟩, hw''⟩ := hw'
        subst hw''
        have HF4 := Lib.hid (show Fr Nob w (grow (redrawn w3 dq) osq) from HF3.out.call (Fr.of_below (S := Nob) (below_regrown _ dq osq)) (fun _ e _ => e))
        have HB4 := Lib.hid (HB3.out.fr (Fr.of_below (S := Nob) (below_regrown w3 dq osq)) (fun e => e))
        generalize grow (redrawn w3 dq) osq = W4 at *
        rw [ysapp]
        clear C1 C2 k1 b3 bx HMY HS2 hmod
        by_cases hu0 : u = 0
        · have hq10 : dg q = dg v := by have h1 := HU.out; have h2 := HVV.out; rw [show v = q by omega]
          have HQ10 := Lib.hid hq10
          have hmod := HMOD.out
          have HD := Lib.hid (fun W => ref_Digits W (v : Int) (by unfold I64; omega))
          rw [digsI_nat] at HD
          have b4 := HB4.out.cell
          clear hq10
          subst hu0
          go_upto_region 18 with (first
            | ((go_at_call 11); (with_reducible refine (HD.out _).mono ?_); rintro e W5 ⟨rfl, hf5⟩)
            | fail)
          rw [← HQ10.out]
          clear hmod HD b4 z1 z2 l1 l2 hu63 hv10
          have HF5 := Lib.hid (HF4.out.call hf5 (fun _ e _ => e))
          have HB5 := Lib.hid (HB4.out.fr hf5 (fun e => e))
          clear hf5 HB4 HF4 HB3 HF3
          have k1 := fun d os => cell_regrown (show W5.cell? ⟨w.heap.size, 2, none⟩ = some (.int .i64 at_) from HB5.out.cell 2) d os
          have C1 := Lib.hid (ysgr (W := W5) fun W hf => ref_Digits W (src : Int) (by unfold I64; omega))
          have C2 := Lib.hid (ysgr (W := W5) fun W hf => ref_Digits W at_ ht)
          rw [digsI_nat] at C1
          have z1 := ba_sz (dg src)
          have z2 := ba_sz (digsI at_)
          have z3 := ba_sz (dg q)
          have hsl := sayH_len (src := src) (seq := q) hsr hq2 ht
          have hsl2 : (dg src).length + (dg q).length + (digsI at_).length ≤ 100 := by
            unfold sayH at hsl
            simp only [List.length_append, List.length_cons, List.length_nil] at hsl
            omega
          refine wp_region_quiet_below (by kernel_rfl) (by kernel_rfl) ?_
          repeat (go_big_quiet_step (first | with_reducible exact C1.out _ _ | with_reducible exact C2.out _ _))
          refine wpQuiet_nil ?_
          intro _ hw'
          obtain ⟨⟨dq2, osq2⟩, hw''⟩ := hw'
          subst hw''
          have hln : (({ data := #[101, 118, 101, 110, 116, 32] } : ByteArray) ++ { data := (dg src).toArray } ++ { data := #[32] } ++ { data := (dg q).toArray } ++ { data := #[32] } ++ { data := (digsI at_).toArray }) = ⟨(sayH src q at_).toArray⟩ := by
            apply ByteArray.ext
            simp [sayH]
          rw [hln]
          have HF6 := Lib.hid (show Fr Nob w (grow (redrawn W5 dq2) osq2) from HF5.out.call (Fr.of_below (S := Nob) (below_regrown _ dq2 osq2)) (fun _ e _ => e))
          have HB6 := Lib.hid (HB5.out.fr (Fr.of_below (S := Nob) (below_regrown W5 dq2 osq2)) (fun e => e))
          generalize grow (redrawn W5 dq2) osq2 = W6 at *
          clear C1 C2 k1 z1 z2 z3 hln hsl2 HF5 HB5
          go_upto_region 19 with fail
          have b6 := HB6.out.cell
          go_wp2_with fail
          clear b6
          go_loopw [9, 10] (fun lv iv wr => ∃ k : Nat, k ≤ props.length ∧ iv = .int .i64 k ∧ lv = .string ⟨(sayH src q at_ ++ (props.take k).flatMap sayP).toArray⟩ ∧ Hid ((sayH src q at_ ++ (props.take k).flatMap sayP).length ≤ 100 + 70 * k) ∧ Hid (Fr Nob w wr) ∧ Hid (Blk wr w.heap.size 39 #[.int .u8 2, .int .u64 q, .int .i64 at_, .slice A props.length cap])) (fun _ iv _ => props.length - (RowKit.intOf iv).toNat)
          case atStart => exact ⟨0, Nat.zero_le _, rfl, by simp, Lib.hid (by simp; omega), HF6, HB6⟩
          case round =>
            clear HF6 HB6
            obtain ⟨k, hk, rfl, rfl, hll, hf, hbk⟩ := hrel
            have bx := hbk.out.cell
            by_cases hlt : k < props.length
            · have hKI : (k : Int) < props.length := by omega
              have hK0 : (0 : Int) ≤ k := by omega
              have HTK := Lib.hid (show sayH src q at_ ++ (props.take (k + 1)).flatMap sayP = (sayH src q at_ ++ (props.take k).flatMap sayP) ++ sayP props[k] by rw [List.take_succ_eq_append_getElem hlt, List.flatMap_append, List.append_assoc]; simp)
              obtain ⟨g, o, rfl, hg, d0, d1⟩ := pp_cells (HL.out.pure hf.out) hlt
              have hpn := HN40.out _ (List.getElem_mem hlt)
              have hpv := HPV.out _ (List.getElem_mem hlt)
              have hpl := sayP_len hpn hpv
              generalize props[k] = p at *
              obtain ⟨pn, pv⟩ := p
              simp only at d0 d1 hpn hpv
              generalize sayH src q at_ ++ (props.take k).flatMap sayP = H at *
              have hHl := hll.out
              have z1 := ba_sz H
              have z2 := ba_sz (digsI pv)
              have hdl : (digsI pv).length ≤ 70 := by
                unfold sayP propW at hpl
                simp only [List.length_append, List.length_cons] at hpl
                omega
              have e3 := fun d os => cell_regrown (show wr.cell? ⟨w.heap.size, 3, none⟩ = some (.slice (some ⟨g, o, none⟩) props.length cap) from bx 3) d os
              have e0 := fun d os => cell_regrown d0 d os
              have e1 := fun d os => cell_regrown d1 d os
              have C1 := Lib.hid (ysgr (W := wr) fun W hf => ref_Digits W pv hpv)
              go_upto_region 22 with fail
              refine wp_region_quiet_below (by kernel_rfl) (by kernel_rfl) ?_
              repeat (go_big_quiet_step (first | with_reducible exact C1.out _ _))
              refine wpQuiet_nil ?_
              intro _ hw'
              obtain ⟨⟨dq3, osq3⟩, hw''⟩ := hw'
              subst hw''
              have hst : (({ data := H.toArray } : ByteArray) ++ ({ data := #[32] } ++ pn ++ { data := #[61] } ++ { data := (digsI pv).toArray })) = ⟨(H ++ sayP ⟨pn, pv⟩).toArray⟩ := by
                apply ByteArray.ext
                simp [sayP, propW, ByteArray.data_append]
              rw [hst]
              have HF7 := Lib.hid (show Fr Nob w (grow (redrawn wr dq3) osq3) from hf.out.call (Fr.of_below (S := Nob) (below_regrown _ dq3 osq3)) (fun _ e _ => e))
              have HB7 := Lib.hid (hbk.out.fr (Fr.of_below (S := Nob) (below_regrown wr dq3 osq3)) (fun e => e))
              have HLN := Lib.hid (show (H ++ sayP ⟨pn, pv⟩).length ≤ 100 + 70 * (k + 1) by rw [List.length_append]; omega)
              clear hst z1 z2 C1 e0 e1 e3 hdl hpl
              generalize grow (redrawn wr dq3) osq3 = W7 at *
              go_wp2_with fail
              exact ⟨⟨k + 1, by omega, by go_num, by rw [HTK.out], Lib.hid (by rw [HTK.out]; exact HLN.out), HF7, HB7⟩, by simp [RowKit.intOf]; omega⟩
            · obtain rfl : k = props.length := by omega
              have hKI2 : ¬ (props.length : Int) < props.length := by omega
              have hT0 : sayH src q at_ ++ (props.take props.length).flatMap sayP = sayT ⟨2, q, at_, props⟩ src := by rw [sayT_eq, List.take_of_length_le (Nat.le_refl _)]; simp
              have hll2 := hll.out
              rw [hT0] at hll2 ⊢
              have hrs := read_say (m := ⟨2, q, at_, props⟩) rfl HM.out (src := src) (by omega) (by simp) (by simp; omega) (by unfold I64 at ht; exact ht.2) HPV.out
              generalize sayT ⟨2, q, at_, props⟩ src = T at *
              have hTT : (⟨T.toArray⟩ : ByteArray).data.toList = T := by simp
              have hTS : (⟨T.toArray⟩ : ByteArray).size ≤ 100000 := by rw [ba_sz T]; omega
              rw [← hTT] at hrs
              have HRS := Lib.hid hrs
              clear hrs hT0 hTT hll hll2
              by_cases h7 : src ≤ 7
              · have h7I : ¬ (7 : Int) < src := by omega
                have HWS := Lib.hid (show IntKind.i64.wrap (src : Int) = src by rw [IntKind.wrap_i64]; omega)
                have HRD := Lib.hid (fun (W : World) (h : SV W) => prg_SOf W ⟨T.toArray⟩ hTS h (HRS.out.trans (if_pos h7)))
                unfold SReadP at HRD
                simp only at HRD
                clear HRS h7
                go_upto_region 26 with (first
                  | ((go_at_call 7); (with_reducible refine (HRD.out _ (HV.out.fr hf.out)).mono ?_); rintro e w8 ⟨A8, c8, L8, rfl, hL8, hs8, hk8, hf8⟩; have HF8 := Lib.hid (hf.out.call hf8 (fun _ e _ => e)); have HB8 := Lib.hid (hbk.out.fr hf8 (fun e => e)); have HS8 := Lib.hid hs8; have HL8 := Lib.hid hL8; have HK8 := Lib.hid hk8; clear hL8 hs8 hk8 hf8)
                  | fail)
                obtain ⟨B8, d8, hL⟩ := one_step HL8.out
                subst hL
                have hst3 : Sl w8 4 A8 ([⟨⟨2, src, 0, frameM ⟨2, q, at_, props⟩⟩, B8, d8⟩] : List StV).length c8 (([⟨⟨2, src, 0, frameM ⟨2, q, at_, props⟩⟩, B8, d8⟩] : List StV).flatMap stc) := HS8.out
                obtain ⟨g, o, rfl, hg, a0, a1, a2, a3⟩ := stc_at hst3 (k := 0) (by simp)
                simp only [Nat.zero_mul, Nat.add_zero, List.getElem_cons_zero] at a0 a1 a2 a3
                have HST := Lib.hid (HK8.out _ (List.mem_cons_self))
                unfold StOk at HST
                simp only at HST
                have hle1 := HS8.out.le
                simp only [List.length_cons, List.length_nil] at hle1
                have HV8 := Lib.hid (HV.out.fr HF8.out)
                have HMK := Lib.hid (fun W (hf : Fr Nob w8 W) => SaS.mk a0 a1 a2 a3 HB8.out HST.out hf)
                have HCF := Lib.hid (prg_MFrame w8.drew ⟨2, q, at_, props⟩ A cap (HL.out.pure HF8.out.drew) HO.out (HV8.out.fr (Fr.refl Nob w8).drew).tn)
                unfold mV BsR at HCF
                simp only at HCF
                generalize frameM ⟨2, q, at_, props⟩ = fm at *
                unfold SaS at HMK
                have hxl := HB8.out.lt
                clear hst3 HS8 HL8 HK8 HST HRD a0 a1 a2 a3
                generalize w8 = W8 at *
                refine wp_region_held_drew (S := fun W => Fr Nob W8 W) (by kernel_rfl) ((Fr.refl Nob W8).drew) (fun hHeld => ?_)
                refine takeH (i := 0) (t := 115) (v := ?_) rfl (by rfl) (by kernel_rfl) (by kernel_rfl) (by kernel_rfl) (fun _ _ _ h => h) (Or.inl ⟨by rfl, ?_⟩) (by assumption) ?_
                rotate_left
                · (intro W hSw; go_simp)
                  all_goals with_reducible rfl
                simp only [List.setIfInBounds_toArray, List.set_cons_zero, List.set_cons_succ]
                refine takeH (i := 1) (t := 116) (v := ?_) rfl (by rfl) (by kernel_rfl) (by kernel_rfl) (by kernel_rfl) (fun _ _ _ h => h) (Or.inl ⟨by rfl, ?_⟩) (by assumption) ?_
                rotate_left
                · (intro W hSw; go_simp)
                  all_goals with_reducible rfl
                simp only [List.setIfInBounds_toArray, List.set_cons_zero, List.set_cons_succ]
                refine takeH (i := 2) (t := 117) (v := ?_) rfl (by rfl) (by kernel_rfl) (by kernel_rfl) (by kernel_rfl) (fun _ _ _ h => h) (Or.inl ⟨by rfl, ?_⟩) (by assumption) ?_
                rotate_left
                · (intro W hSw; go_simp)
                  all_goals with_reducible rfl
                simp only [List.setIfInBounds_toArray, List.set_cons_zero, List.set_cons_succ]
                refine takeH (i := 3) (t := 118) (v := ?_) rfl (by rfl) (by kernel_rfl) (by kernel_rfl) (by kernel_rfl) (fun _ _ _ h => h) (Or.inl ⟨by rfl, ?_⟩) (by assumption) ?_
                rotate_left
                · (intro W hSw; go_simp)
                  all_goals with_reducible rfl
                simp only [List.setIfInBounds_toArray, List.set_cons_zero, List.set_cons_succ]
                refine takeH (i := 4) (t := 119) (v := ?_) rfl (by rfl) (by kernel_rfl) (by kernel_rfl) (by kernel_rfl) (fun _ _ _ h => h) (Or.inl ⟨by rfl, ?_⟩) (by assumption) ?_
                rotate_left
                · (intro W hSw; go_simp)
                  all_goals with_reducible rfl
                simp only [List.setIfInBounds_toArray, List.set_cons_zero, List.set_cons_succ]
                refine takeH (i := 5) (t := 120) (v := ?_) rfl (by rfl) (by kernel_rfl) (by kernel_rfl) (by kernel_rfl) (fun _ _ _ h => h) (Or.inl ⟨by rfl, ?_⟩) (by assumption) ?_
                rotate_left
                · (intro W hSw; go_simp)
                  all_goals with_reducible rfl
                simp only [List.setIfInBounds_toArray, List.set_cons_zero, List.set_cons_succ]
                refine takeH (i := 6) (t := 121) (v := ?_) rfl (by rfl) (by kernel_rfl) (by kernel_rfl) (by kernel_rfl) (fun _ _ _ h => h) (Or.inl ⟨by rfl, ?_⟩) (by assumption) ?_
                rotate_left
                · (intro W hSw; go_simp)
                  all_goals with_reducible rfl
                simp only [List.setIfInBounds_toArray, List.set_cons_zero, List.set_cons_succ]
                refine takeH (i := 7) (t := 122) (v := ?_) rfl (by rfl) (by kernel_rfl) (by kernel_rfl) (by kernel_rfl) (fun _ _ _ h => h) (Or.inl ⟨by rfl, ?_⟩) (by assumption) ?_
                rotate_left
                · (intro W hSw; go_simp)
                  all_goals with_reducible rfl
                simp only [List.setIfInBounds_toArray, List.set_cons_zero, List.set_cons_succ]
                refine takeH (i := 8) (t := 123) (v := ?_) rfl (by rfl) (by kernel_rfl) (by kernel_rfl) (by kernel_rfl) (fun _ _ _ h => h) (Or.inl ⟨by rfl, ?_⟩) (by assumption) ?_
                rotate_left
                · (intro W hSw; go_simp)
                  all_goals with_reducible rfl
                simp only [List.setIfInBounds_toArray, List.set_cons_zero, List.set_cons_succ]
                refine takeH (i := 9) (t := 124) (v := ?_) rfl (by rfl) (by kernel_rfl) (by kernel_rfl) (by kernel_rfl) (fun _ _ _ h => h) (Or.inl ⟨by rfl, ?_⟩) (by assumption) ?_
                rotate_left
                · (intro W hSw; go_simp)
                  all_goals with_reducible rfl
                simp only [List.setIfInBounds_toArray, List.set_cons_zero, List.set_cons_succ]
                refine takeH (i := 10) (t := 125) (v := ?_) rfl (by rfl) (by kernel_rfl) (by kernel_rfl) (by kernel_rfl) (fun _ _ _ h => h) (Or.inl ⟨by rfl, ?_⟩) (by assumption) ?_
                rotate_left
                · (intro W hSw; go_simp)
                  all_goals with_reducible rfl
                simp only [List.setIfInBounds_toArray, List.set_cons_zero, List.set_cons_succ]
                refine takeH (i := 11) (t := 126) (v := ?_) rfl (by rfl) (by kernel_rfl) (by kernel_rfl) (by kernel_rfl) (fun _ _ _ h => h) (Or.inl ⟨by rfl, ?_⟩) (by assumption) ?_
                rotate_left
                · (intro W hSw; obtain ⟨m1, m2, m3, m4, m5, m6, m7, m8, m9⟩ := HMK.out W hSw; go_simp)
                  all_goals with_reducible rfl
                simp only [List.setIfInBounds_toArray, List.set_cons_zero, List.set_cons_succ]
                refine takeH (i := 12) (t := 127) (v := ?_) rfl (by rfl) (by kernel_rfl) (by kernel_rfl) (by kernel_rfl) (fun _ _ _ h => h) (Or.inl ⟨by rfl, ?_⟩) (by assumption) ?_
                rotate_left
                · (intro W hSw; go_simp)
                  all_goals with_reducible rfl
                simp only [List.setIfInBounds_toArray, List.set_cons_zero, List.set_cons_succ]
                refine takeH (i := 13) (t := 128) (v := ?_) rfl (by rfl) (by kernel_rfl) (by kernel_rfl) (by kernel_rfl) (fun _ _ _ h => h) (Or.inl ⟨by rfl, ?_⟩) (by assumption) ?_
                rotate_left
                · (intro W hSw; go_simp)
                  all_goals with_reducible rfl
                simp only [List.setIfInBounds_toArray, List.set_cons_zero, List.set_cons_succ]
                refine takeH (i := 14) (t := 129) (v := ?_) rfl (by rfl) (by kernel_rfl) (by kernel_rfl) (by kernel_rfl) (fun _ _ _ h => h) (Or.inl ⟨by rfl, ?_⟩) (by assumption) ?_
                rotate_left
                · (intro W hSw; go_simp)
                  all_goals with_reducible rfl
                simp only [List.setIfInBounds_toArray, List.set_cons_zero, List.set_cons_succ]
                refine takeH (i := 15) (t := 130) (v := ?_) rfl (by rfl) (by kernel_rfl) (by kernel_rfl) (by kernel_rfl) (fun _ _ _ h => h) (Or.inl ⟨by rfl, ?_⟩) (by assumption) ?_
                rotate_left
                · (intro W hSw; go_simp)
                  all_goals with_reducible rfl
                simp only [List.setIfInBounds_toArray, List.set_cons_zero, List.set_cons_succ]
                refine takeH (i := 16) (t := 131) (v := ?_) rfl (by rfl) (by kernel_rfl) (by kernel_rfl) (by kernel_rfl) (fun _ _ _ h => h) (Or.inl ⟨by rfl, ?_⟩) (by assumption) ?_
                rotate_left
                · (intro W hSw; go_simp)
                  all_goals with_reducible rfl
                simp only [List.setIfInBounds_toArray, List.set_cons_zero, List.set_cons_succ]
                refine takeH (i := 17) (t := 132) (v := ?_) rfl (by rfl) (by kernel_rfl) (by kernel_rfl) (by kernel_rfl) (fun _ _ _ h => h) (Or.inl ⟨by rfl, ?_⟩) (by assumption) ?_
                rotate_left
                · (intro W hSw; go_simp)
                  all_goals with_reducible rfl
                simp only [List.setIfInBounds_toArray, List.set_cons_zero, List.set_cons_succ]
                refine takeH (i := 18) (t := 133) (v := ?_) rfl (by rfl) (by kernel_rfl) (by kernel_rfl) (by kernel_rfl) (fun _ _ _ h => h) (Or.inl ⟨by rfl, ?_⟩) (by assumption) ?_
                rotate_left
                · (intro W hSw; obtain ⟨m1, m2, m3, m4, m5, m6, m7, m8, m9⟩ := HMK.out W hSw; go_simp)
                  all_goals with_reducible rfl
                simp only [List.setIfInBounds_toArray, List.set_cons_zero, List.set_cons_succ]
                refine takeH (i := 19) (t := 134) (v := ?_) rfl (by rfl) (by kernel_rfl) (by kernel_rfl) (by kernel_rfl) (fun _ _ _ h => h) (Or.inl ⟨by rfl, ?_⟩) (by assumption) ?_
                rotate_left
                · (intro W hSw; go_simp)
                  all_goals with_reducible rfl
                simp only [List.setIfInBounds_toArray, List.set_cons_zero, List.set_cons_succ]
                refine takeH (i := 20) (t := 135) (v := ?_) rfl (by rfl) (by kernel_rfl) (by kernel_rfl) (by kernel_rfl) (fun _ _ _ h => h) (Or.inl ⟨by rfl, ?_⟩) (by assumption) ?_
                rotate_left
                · (intro W hSw; obtain ⟨m1, m2, m3, m4, m5, m6, m7, m8, m9⟩ := HMK.out W hSw; go_simp)
                  all_goals with_reducible rfl
                simp only [List.setIfInBounds_toArray, List.set_cons_zero, List.set_cons_succ]
                rw [HWS.out]
                refine takeH (i := 21) (t := 136) (v := ?_) rfl (by rfl) (by kernel_rfl) (by kernel_rfl) (by kernel_rfl) (fun _ _ _ h => h) (Or.inl ⟨by rfl, ?_⟩) (by assumption) ?_
                rotate_left
                · (intro W hSw; go_simp)
                  all_goals with_reducible rfl
                simp only [List.setIfInBounds_toArray, List.set_cons_zero, List.set_cons_succ]
                refine takeH (i := 22) (t := 137) (v := ?_) rfl (by rfl) (by kernel_rfl) (by kernel_rfl) (by kernel_rfl) (fun _ _ _ h => h) (Or.inl ⟨by rfl, ?_⟩) (by assumption) ?_
                rotate_left
                · (intro W hSw; go_simp)
                  all_goals with_reducible rfl
                simp only [List.setIfInBounds_toArray, List.set_cons_zero, List.set_cons_succ]
                refine takeH (i := 23) (t := 138) (v := ?_) rfl (by rfl) (by kernel_rfl) (by kernel_rfl) (by kernel_rfl) (fun _ _ _ h => h) (Or.inl ⟨by rfl, ?_⟩) (by assumption) ?_
                rotate_left
                · (intro W hSw; go_simp)
                  all_goals with_reducible rfl
                simp only [List.setIfInBounds_toArray, List.set_cons_zero, List.set_cons_succ]
                refine takeH (i := 24) (t := 139) (v := ?_) rfl (by rfl) (by kernel_rfl) (by kernel_rfl) (by kernel_rfl) (fun _ _ _ h => h) (Or.inl ⟨by rfl, ?_⟩) (by assumption) ?_
                rotate_left
                · (intro W hSw; go_simp)
                  all_goals with_reducible rfl
                simp only [List.setIfInBounds_toArray, List.set_cons_zero, List.set_cons_succ]
                refine takeH (i := 25) (t := 140) (v := ?_) rfl (by rfl) (by kernel_rfl) (by kernel_rfl) (by kernel_rfl) (fun _ _ _ h => h) (Or.inl ⟨by rfl, ?_⟩) (by assumption) ?_
                rotate_left
                · (intro W hSw; go_simp)
                  all_goals with_reducible rfl
                simp only [List.setIfInBounds_toArray, List.set_cons_zero, List.set_cons_succ]
                refine takeH (i := 26) (t := 141) (v := ?_) rfl (by rfl) (by kernel_rfl) (by kernel_rfl) (by kernel_rfl) (fun _ _ _ h => h) (Or.inl ⟨by rfl, ?_⟩) (by assumption) ?_
                rotate_left
                · (intro W hSw; go_simp)
                  all_goals with_reducible rfl
                simp only [List.setIfInBounds_toArray, List.set_cons_zero, List.set_cons_succ]
                refine takeH (i := 27) (t := 142) (v := ?_) rfl (by rfl) (by kernel_rfl) (by kernel_rfl) (by kernel_rfl) (fun _ _ _ h => h) (Or.inl ⟨by rfl, ?_⟩) (by assumption) ?_
                rotate_left
                · (intro W hSw; obtain ⟨m1, m2, m3, m4, m5, m6, m7, m8, m9⟩ := HMK.out W hSw; go_simp)
                  all_goals with_reducible rfl
                simp only [List.setIfInBounds_toArray, List.set_cons_zero, List.set_cons_succ]
                refine takeH (i := 28) (t := 143) (v := ?_) rfl (by rfl) (by kernel_rfl) (by kernel_rfl) (by kernel_rfl) (fun _ _ _ h => h) (Or.inl ⟨by rfl, ?_⟩) (by assumption) ?_
                rotate_left
                · (intro W hSw; go_simp)
                  all_goals with_reducible rfl
                simp only [List.setIfInBounds_toArray, List.set_cons_zero, List.set_cons_succ]
                refine takeH (i := 29) (t := 144) (v := ?_) rfl (by rfl) (by kernel_rfl) (by kernel_rfl) (by kernel_rfl) (fun _ _ _ h => h) (Or.inl ⟨by rfl, ?_⟩) (by assumption) ?_
                rotate_left
                · (intro W hSw; go_simp)
                  all_goals with_reducible rfl
                simp only [List.setIfInBounds_toArray, List.set_cons_zero, List.set_cons_succ]
                refine takeH (i := 30) (t := 145) (v := ?_) rfl (by rfl) (by kernel_rfl) (by kernel_rfl) (by kernel_rfl) (fun _ _ _ h => h) (Or.inl ⟨by rfl, ?_⟩) (by assumption) ?_
                rotate_left
                · (intro W hSw; go_simp)
                  all_goals with_reducible rfl
                simp only [List.setIfInBounds_toArray, List.set_cons_zero, List.set_cons_succ]
                refine takeH (i := 31) (t := 146) (v := ?_) rfl (by rfl) (by kernel_rfl) (by kernel_rfl) (by kernel_rfl) (fun _ _ _ h => h) (Or.inl ⟨by rfl, ?_⟩) (by assumption) ?_
                rotate_left
                · (intro W hSw; go_simp)
                  all_goals with_reducible rfl
                simp only [List.setIfInBounds_toArray, List.set_cons_zero, List.set_cons_succ]
                refine takeH (i := 32) (t := 147) (v := ?_) rfl (by rfl) (by kernel_rfl) (by kernel_rfl) (by kernel_rfl) (fun _ _ _ h => h) (Or.inl ⟨by rfl, ?_⟩) (by assumption) ?_
                rotate_left
                · (intro W hSw; go_simp)
                  all_goals with_reducible rfl
                simp only [List.setIfInBounds_toArray, List.set_cons_zero, List.set_cons_succ]
                refine takeH (i := 33) (t := 148) (v := ?_) rfl (by rfl) (by kernel_rfl) (by kernel_rfl) (by kernel_rfl) (fun _ _ _ h => h) (Or.inl ⟨by rfl, ?_⟩) (by assumption) ?_
                rotate_left
                · (intro W hSw; go_simp)
                  all_goals with_reducible rfl
                simp only [List.setIfInBounds_toArray, List.set_cons_zero, List.set_cons_succ]
                refine takeH (i := 34) (t := 149) (v := ?_) rfl (by rfl) (by kernel_rfl) (by kernel_rfl) (by kernel_rfl) (fun _ _ _ h => h) (Or.inl ⟨by rfl, ?_⟩) (by assumption) ?_
                rotate_left
                · (intro W hSw; obtain ⟨m1, m2, m3, m4, m5, m6, m7, m8, m9⟩ := HMK.out W hSw; go_simp)
                  all_goals with_reducible rfl
                simp only [List.setIfInBounds_toArray, List.set_cons_zero, List.set_cons_succ]
                refine takeH (i := 35) (t := 150) (v := ?_) rfl (by rfl) (by kernel_rfl) (by kernel_rfl) (by kernel_rfl) (fun _ _ _ h => h) (Or.inl ⟨by rfl, ?_⟩) (by assumption) ?_
                rotate_left
                · (intro W hSw; obtain ⟨m1, m2, m3, m4, m5, m6, m7, m8, m9⟩ := HMK.out W hSw; go_simp)
                  all_goals with_reducible rfl
                simp only [List.setIfInBounds_toArray, List.set_cons_zero, List.set_cons_succ]
                refine takeH (i := 36) (t := 151) (v := ?_) rfl (by rfl) (by kernel_rfl) (by kernel_rfl) (by kernel_rfl) (fun _ _ _ h => h) (Or.inl ⟨by rfl, ?_⟩) (by assumption) ?_
                rotate_left
                · (intro W hSw; obtain ⟨m1, m2, m3, m4, m5, m6, m7, m8, m9⟩ := HMK.out W hSw; go_simp)
                  all_goals with_reducible rfl
                simp only [List.setIfInBounds_toArray, List.set_cons_zero, List.set_cons_succ]
                refine wpAnyH_ready (rs := [37]) (by kernel_rfl) (by simp) ?_
                refine AllReadyH.cons rfl (fun K hK => ?_) AllReadyH.nil
                go_simp
                (go_at_call 12)
                (with_reducible refine HCF.out.mono ?_)
                rintro e w9 ⟨A9, c9, rfl, hp9⟩
                have HG9 := Lib.hid ((Fr.refl Nob W8).drew.call hp9.fr (fun _ e _ => e))
                have hcv9 := run_str hp9.sl
                clear hp9
                go_simp
                refine hK.out _ _ ?_ (fun hHeld => ?_)
                · exact HG9.out
                clear hK K
                refine wpAnyH_ready (rs := [38]) (by kernel_rfl) (by simp) ?_
                refine AllReadyH.cons rfl (fun K hK => ?_) AllReadyH.nil
                go_simp
                refine hK.out _ _ ?_ (fun hHeld => ?_)
                · exact HG9.out
                clear hK K
                refine takeH (i := 39) (t := 154) (v := ?_) rfl (by rfl) (by kernel_rfl) (by kernel_rfl) (by kernel_rfl) (fun _ _ _ h => h) (Or.inl ⟨by rfl, ?_⟩) (by assumption) ?_
                rotate_left
                · (intro W hSw; go_simp)
                  all_goals with_reducible rfl
                simp only [List.setIfInBounds_toArray, List.set_cons_zero, List.set_cons_succ]
                refine takeH (i := 40) (t := 155) (v := ?_) rfl (by rfl) (by kernel_rfl) (by kernel_rfl) (by kernel_rfl) (fun _ _ _ h => h) (Or.inl ⟨by rfl, ?_⟩) (by assumption) ?_
                rotate_left
                · (intro W hSw; go_simp)
                  all_goals with_reducible rfl
                simp only [List.setIfInBounds_toArray, List.set_cons_zero, List.set_cons_succ]
                refine takeH (i := 41) (t := 4) (v := ?_) rfl (by rfl) (by kernel_rfl) (by kernel_rfl) (by kernel_rfl) (fun _ _ _ h => h) (Or.inl ⟨by rfl, ?_⟩) (by assumption) ?_
                rotate_left
                · (intro W hSw; go_simp)
                  all_goals with_reducible rfl
                simp only [List.setIfInBounds_toArray, List.set_cons_zero, List.set_cons_succ]
                refine wpAnyH_done (by kernel_rfl) ?_ _
                go_wp2_with fail
                go_ret
                exact ⟨by simp, HF8.out.call HG9.out (fun _ e _ => e)⟩
              · have h7I : (7 : Int) < src := by omega
                have HRD := Lib.hid (fun (W : World) (h : SV W) => prg_SOf W ⟨T.toArray⟩ hTS h (HRS.out.trans (if_neg h7)))
                unfold SReadP at HRD
                simp only [List.length_nil] at HRD
                clear HRS h7
                go_wp2_with (first
                  | ((go_at_call 7); (with_reducible refine (HRD.out _ (HV.out.fr hf.out)).mono ?_); rintro e w8 ⟨A8, c8, L8, rfl, -, -, -, hf8⟩; have HF8 := Lib.hid (hf.out.call hf8 (fun _ e _ => e)); clear hf8)
                  | fail)
                go_ret
                exact ⟨by simp, HF8.out⟩
        · have hq10 : dg q = dg u ++ dg v := by have h1 := HU.out; have h2 := HVV.out; rw [h1, h2]; exact dg_two (by omega)
          have HQ10 := Lib.hid hq10
          have huI : ((u : Int) == 0) = false := by rw [beq_eq_false_iff_ne]; omega
          have b4 := HB4.out.cell
          clear hq10
          go_upto_region 18 with fail
          rw [← HQ10.out]
          clear b4 z1 z2 l1 l2 hu63 hv10 huI
          have hf5 := Fr.refl Nob W4
          obtain ⟨W5, hE⟩ : ∃ X, X = W4 := ⟨_, rfl⟩
          have hf5 : Fr Nob W4 W5 := by rw [hE]; exact Fr.refl _ _
          rw [← hE]
          clear hE
          have HF5 := Lib.hid (HF4.out.call hf5 (fun _ e _ => e))
          have HB5 := Lib.hid (HB4.out.fr hf5 (fun e => e))
          clear hf5 HB4 HF4 HB3 HF3
          have k1 := fun d os => cell_regrown (show W5.cell? ⟨w.heap.size, 2, none⟩ = some (.int .i64 at_) from HB5.out.cell 2) d os
          have C1 := Lib.hid (ysgr (W := W5) fun W hf => ref_Digits W (src : Int) (by unfold I64; omega))
          have C2 := Lib.hid (ysgr (W := W5) fun W hf => ref_Digits W at_ ht)
          rw [digsI_nat] at C1
          have z1 := ba_sz (dg src)
          have z2 := ba_sz (digsI at_)
          have z3 := ba_sz (dg q)
          have hsl := sayH_len (src := src) (seq := q) hsr hq2 ht
          have hsl2 : (dg src).length + (dg q).length + (digsI at_).length ≤ 100 := by
            unfold sayH at hsl
            simp only [List.length_append, List.length_cons, List.length_nil] at hsl
            omega
          refine wp_region_quiet_below (by kernel_rfl) (by kernel_rfl) ?_
          repeat (go_big_quiet_step (first | with_reducible exact C1.out _ _ | with_reducible exact C2.out _ _))
          refine wpQuiet_nil ?_
          intro _ hw'
          obtain ⟨⟨dq2, osq2⟩, hw''⟩ := hw'
          subst hw''
          have hln : (({ data := #[101, 118, 101, 110, 116, 32] } : ByteArray) ++ { data := (dg src).toArray } ++ { data := #[32] } ++ { data := (dg q).toArray } ++ { data := #[32] } ++ { data := (digsI at_).toArray }) = ⟨(sayH src q at_).toArray⟩ := by
            apply ByteArray.ext
            simp [sayH]
          rw [hln]
          have HF6 := Lib.hid (show Fr Nob w (grow (redrawn W5 dq2) osq2) from HF5.out.call (Fr.of_below (S := Nob) (below_regrown _ dq2 osq2)) (fun _ e _ => e))
          have HB6 := Lib.hid (HB5.out.fr (Fr.of_below (S := Nob) (below_regrown W5 dq2 osq2)) (fun e => e))
          generalize grow (redrawn W5 dq2) osq2 = W6 at *
          clear C1 C2 k1 z1 z2 z3 hln hsl2 HF5 HB5
          go_upto_region 19 with fail
          have b6 := HB6.out.cell
          go_wp2_with fail
          clear b6
          go_loopw [9, 10] (fun lv iv wr => ∃ k : Nat, k ≤ props.length ∧ iv = .int .i64 k ∧ lv = .string ⟨(sayH src q at_ ++ (props.take k).flatMap sayP).toArray⟩ ∧ Hid ((sayH src q at_ ++ (props.take k).flatMap sayP).length ≤ 100 + 70 * k) ∧ Hid (Fr Nob w wr) ∧ Hid (Blk wr w.heap.size 39 #[.int .u8 2, .int .u64 q, .int .i64 at_, .slice A props.length cap])) (fun _ iv _ => props.length - (RowKit.intOf iv).toNat)
          case atStart => exact ⟨0, Nat.zero_le _, rfl, by simp, Lib.hid (by simp; omega), HF6, HB6⟩
          case round =>
            clear HF6 HB6
            obtain ⟨k, hk, rfl, rfl, hll, hf, hbk⟩ := hrel
            have bx := hbk.out.cell
            by_cases hlt : k < props.length
            · have hKI : (k : Int) < props.length := by omega
              have hK0 : (0 : Int) ≤ k := by omega
              have HTK := Lib.hid (show sayH src q at_ ++ (props.take (k + 1)).flatMap sayP = (sayH src q at_ ++ (props.take k).flatMap sayP) ++ sayP props[k] by rw [List.take_succ_eq_append_getElem hlt, List.flatMap_append, List.append_assoc]; simp)
              obtain ⟨g, o, rfl, hg, d0, d1⟩ := pp_cells (HL.out.pure hf.out) hlt
              have hpn := HN40.out _ (List.getElem_mem hlt)
              have hpv := HPV.out _ (List.getElem_mem hlt)
              have hpl := sayP_len hpn hpv
              generalize props[k] = p at *
              obtain ⟨pn, pv⟩ := p
              simp only at d0 d1 hpn hpv
              generalize sayH src q at_ ++ (props.take k).flatMap sayP = H at *
              have hHl := hll.out
              have z1 := ba_sz H
              have z2 := ba_sz (digsI pv)
              have hdl : (digsI pv).length ≤ 70 := by
                unfold sayP propW at hpl
                simp only [List.length_append, List.length_cons] at hpl
                omega
              have e3 := fun d os => cell_regrown (show wr.cell? ⟨w.heap.size, 3, none⟩ = some (.slice (some ⟨g, o, none⟩) props.length cap) from bx 3) d os
              have e0 := fun d os => cell_regrown d0 d os
              have e1 := fun d os => cell_regrown d1 d os
              have C1 := Lib.hid (ysgr (W := wr) fun W hf => ref_Digits W pv hpv)
              go_upto_region 22 with fail
              refine wp_region_quiet_below (by kernel_rfl) (by kernel_rfl) ?_
              repeat (go_big_quiet_step (first | with_reducible exact C1.out _ _))
              refine wpQuiet_nil ?_
              intro _ hw'
              obtain ⟨⟨dq3, osq3⟩, hw''⟩ := hw'
              subst hw''
              have hst : (({ data := H.toArray } : ByteArray) ++ ({ data := #[32] } ++ pn ++ { data := #[61] } ++ { data := (digsI pv).toArray })) = ⟨(H ++ sayP ⟨pn, pv⟩).toArray⟩ := by
                apply ByteArray.ext
                simp [sayP, propW, ByteArray.data_append]
              rw [hst]
              have HF7 := Lib.hid (show Fr Nob w (grow (redrawn wr dq3) osq3) from hf.out.call (Fr.of_below (S := Nob) (below_regrown _ dq3 osq3)) (fun _ e _ => e))
              have HB7 := Lib.hid (hbk.out.fr (Fr.of_below (S := Nob) (below_regrown wr dq3 osq3)) (fun e => e))
              have HLN := Lib.hid (show (H ++ sayP ⟨pn, pv⟩).length ≤ 100 + 70 * (k + 1) by rw [List.length_append]; omega)
              clear hst z1 z2 C1 e0 e1 e3 hdl hpl
              generalize grow (redrawn wr dq3) osq3 = W7 at *
              go_wp2_with fail
              exact ⟨⟨k + 1, by omega, by go_num, by rw [HTK.out], Lib.hid (by rw [HTK.out]; exact HLN.out), HF7, HB7⟩, by simp [RowKit.intOf]; omega⟩
            · obtain rfl : k = props.length := by omega
              have hKI2 : ¬ (props.length : Int) < props.length := by omega
              have hT0 : sayH src q at_ ++ (props.take props.length).flatMap sayP = sayT ⟨2, q, at_, props⟩ src := by rw [sayT_eq, List.take_of_length_le (Nat.le_refl _)]; simp
              have hll2 := hll.out
              rw [hT0] at hll2 ⊢
              have hrs := read_say (m := ⟨2, q, at_, props⟩) rfl HM.out (src := src) (by omega) (by simp) (by simp; omega) (by unfold I64 at ht; exact ht.2) HPV.out
              generalize sayT ⟨2, q, at_, props⟩ src = T at *
              have hTT : (⟨T.toArray⟩ : ByteArray).data.toList = T := by simp
              have hTS : (⟨T.toArray⟩ : ByteArray).size ≤ 100000 := by rw [ba_sz T]; omega
              rw [← hTT] at hrs
              have HRS := Lib.hid hrs
              clear hrs hT0 hTT hll hll2
              by_cases h7 : src ≤ 7
              · have h7I : ¬ (7 : Int) < src := by omega
                have HWS := Lib.hid (show IntKind.i64.wrap (src : Int) = src by rw [IntKind.wrap_i64]; omega)
                have HRD := Lib.hid (fun (W : World) (h : SV W) => prg_SOf W ⟨T.toArray⟩ hTS h (HRS.out.trans (if_pos h7)))
                unfold SReadP at HRD
                simp only at HRD
                clear HRS h7
                go_upto_region 26 with (first
                  | ((go_at_call 7); (with_reducible refine (HRD.out _ (HV.out.fr hf.out)).mono ?_); rintro e w8 ⟨A8, c8, L8, rfl, hL8, hs8, hk8, hf8⟩; have HF8 := Lib.hid (hf.out.call hf8 (fun _ e _ => e)); have HB8 := Lib.hid (hbk.out.fr hf8 (fun e => e)); have HS8 := Lib.hid hs8; have HL8 := Lib.hid hL8; have HK8 := Lib.hid hk8; clear hL8 hs8 hk8 hf8)
                  | fail)
                obtain ⟨B8, d8, hL⟩ := one_step HL8.out
                subst hL
                have hst3 : Sl w8 4 A8 ([⟨⟨2, src, 0, frameM ⟨2, q, at_, props⟩⟩, B8, d8⟩] : List StV).length c8 (([⟨⟨2, src, 0, frameM ⟨2, q, at_, props⟩⟩, B8, d8⟩] : List StV).flatMap stc) := HS8.out
                obtain ⟨g, o, rfl, hg, a0, a1, a2, a3⟩ := stc_at hst3 (k := 0) (by simp)
                simp only [Nat.zero_mul, Nat.add_zero, List.getElem_cons_zero] at a0 a1 a2 a3
                have HST := Lib.hid (HK8.out _ (List.mem_cons_self))
                unfold StOk at HST
                simp only at HST
                have hle1 := HS8.out.le
                simp only [List.length_cons, List.length_nil] at hle1
                have HV8 := Lib.hid (HV.out.fr HF8.out)
                have HMK := Lib.hid (fun W (hf : Fr Nob w8 W) => SaS.mk a0 a1 a2 a3 HB8.out HST.out hf)
                have HCF := Lib.hid (prg_MFrame w8.drew ⟨2, q, at_, props⟩ A cap (HL.out.pure HF8.out.drew) HO.out (HV8.out.fr (Fr.refl Nob w8).drew).tn)
                unfold mV BsR at HCF
                simp only at HCF
                generalize frameM ⟨2, q, at_, props⟩ = fm at *
                unfold SaS at HMK
                have hxl := HB8.out.lt
                clear hst3 HS8 HL8 HK8 HST HRD a0 a1 a2 a3
                generalize w8 = W8 at *
                refine wp_region_held_drew (S := fun W => Fr Nob W8 W) (by kernel_rfl) ((Fr.refl Nob W8).drew) (fun hHeld => ?_)
                refine takeH (i := 0) (t := 115) (v := ?_) rfl (by rfl) (by kernel_rfl) (by kernel_rfl) (by kernel_rfl) (fun _ _ _ h => h) (Or.inl ⟨by rfl, ?_⟩) (by assumption) ?_
                rotate_left
                · (intro W hSw; go_simp)
                  all_goals with_reducible rfl
                simp only [List.setIfInBounds_toArray, List.set_cons_zero, List.set_cons_succ]
                refine takeH (i := 1) (t := 116) (v := ?_) rfl (by rfl) (by kernel_rfl) (by kernel_rfl) (by kernel_rfl) (fun _ _ _ h => h) (Or.inl ⟨by rfl, ?_⟩) (by assumption) ?_
                rotate_left
                · (intro W hSw; go_simp)
                  all_goals with_reducible rfl
                simp only [List.setIfInBounds_toArray, List.set_cons_zero, List.set_cons_succ]
                refine takeH (i := 2) (t := 117) (v := ?_) rfl (by rfl) (by kernel_rfl) (by kernel_rfl) (by kernel_rfl) (fun _ _ _ h => h) (Or.inl ⟨by rfl, ?_⟩) (by assumption) ?_
                rotate_left
                · (intro W hSw; go_simp)
                  all_goals with_reducible rfl
                simp only [List.setIfInBounds_toArray, List.set_cons_zero, List.set_cons_succ]
                refine takeH (i := 3) (t := 118) (v := ?_) rfl (by rfl) (by kernel_rfl) (by kernel_rfl) (by kernel_rfl) (fun _ _ _ h => h) (Or.inl ⟨by rfl, ?_⟩) (by assumption) ?_
                rotate_left
                · (intro W hSw; go_simp)
                  all_goals with_reducible rfl
                simp only [List.setIfInBounds_toArray, List.set_cons_zero, List.set_cons_succ]
                refine takeH (i := 4) (t := 119) (v := ?_) rfl (by rfl) (by kernel_rfl) (by kernel_rfl) (by kernel_rfl) (fun _ _ _ h => h) (Or.inl ⟨by rfl, ?_⟩) (by assumption) ?_
                rotate_left
                · (intro W hSw; go_simp)
                  all_goals with_reducible rfl
                simp only [List.setIfInBounds_toArray, List.set_cons_zero, List.set_cons_succ]
                refine takeH (i := 5) (t := 120) (v := ?_) rfl (by rfl) (by kernel_rfl) (by kernel_rfl) (by kernel_rfl) (fun _ _ _ h => h) (Or.inl ⟨by rfl, ?_⟩) (by assumption) ?_
                rotate_left
                · (intro W hSw; go_simp)
                  all_goals with_reducible rfl
                simp only [List.setIfInBounds_toArray, List.set_cons_zero, List.set_cons_succ]
                refine takeH (i := 6) (t := 121) (v := ?_) rfl (by rfl) (by kernel_rfl) (by kernel_rfl) (by kernel_rfl) (fun _ _ _ h => h) (Or.inl ⟨by rfl, ?_⟩) (by assumption) ?_
                rotate_left
                · (intro W hSw; go_simp)
                  all_goals with_reducible rfl
                simp only [List.setIfInBounds_toArray, List.set_cons_zero, List.set_cons_succ]
                refine takeH (i := 7) (t := 122) (v := ?_) rfl (by rfl) (by kernel_rfl) (by kernel_rfl) (by kernel_rfl) (fun _ _ _ h => h) (Or.inl ⟨by rfl, ?_⟩) (by assumption) ?_
                rotate_left
                · (intro W hSw; go_simp)
                  all_goals with_reducible rfl
                simp only [List.setIfInBounds_toArray, List.set_cons_zero, List.set_cons_succ]
                refine takeH (i := 8) (t := 123) (v := ?_) rfl (by rfl) (by kernel_rfl) (by kernel_rfl) (by kernel_rfl) (fun _ _ _ h => h) (Or.inl ⟨by rfl, ?_⟩) (by assumption) ?_
                rotate_left
                · (intro W hSw; go_simp)
                  all_goals with_reducible rfl
                simp only [List.setIfInBounds_toArray, List.set_cons_zero, List.set_cons_succ]
                refine takeH (i := 9) (t := 124) (v := ?_) rfl (by rfl) (by kernel_rfl) (by kernel_rfl) (by kernel_rfl) (fun _ _ _ h => h) (Or.inl ⟨by rfl, ?_⟩) (by assumption) ?_
                rotate_left
                · (intro W hSw; go_simp)
                  all_goals with_reducible rfl
                simp only [List.setIfInBounds_toArray, List.set_cons_zero, List.set_cons_succ]
                refine takeH (i := 10) (t := 125) (v := ?_) rfl (by rfl) (by kernel_rfl) (by kernel_rfl) (by kernel_rfl) (fun _ _ _ h => h) (Or.inl ⟨by rfl, ?_⟩) (by assumption) ?_
                rotate_left
                · (intro W hSw; go_simp)
                  all_goals with_reducible rfl
                simp only [List.setIfInBounds_toArray, List.set_cons_zero, List.set_cons_succ]
                refine takeH (i := 11) (t := 126) (v := ?_) rfl (by rfl) (by kernel_rfl) (by kernel_rfl) (by kernel_rfl) (fun _ _ _ h => h) (Or.inl ⟨by rfl, ?_⟩) (by assumption) ?_
                rotate_left
                · (intro W hSw; obtain ⟨m1, m2, m3, m4, m5, m6, m7, m8, m9⟩ := HMK.out W hSw; go_simp)
                  all_goals with_reducible rfl
                simp only [List.setIfInBounds_toArray, List.set_cons_zero, List.set_cons_succ]
                refine takeH (i := 12) (t := 127) (v := ?_) rfl (by rfl) (by kernel_rfl) (by kernel_rfl) (by kernel_rfl) (fun _ _ _ h => h) (Or.inl ⟨by rfl, ?_⟩) (by assumption) ?_
                rotate_left
                · (intro W hSw; go_simp)
                  all_goals with_reducible rfl
                simp only [List.setIfInBounds_toArray, List.set_cons_zero, List.set_cons_succ]
                refine takeH (i := 13) (t := 128) (v := ?_) rfl (by rfl) (by kernel_rfl) (by kernel_rfl) (by kernel_rfl) (fun _ _ _ h => h) (Or.inl ⟨by rfl, ?_⟩) (by assumption) ?_
                rotate_left
                · (intro W hSw; go_simp)
                  all_goals with_reducible rfl
                simp only [List.setIfInBounds_toArray, List.set_cons_zero, List.set_cons_succ]
                refine takeH (i := 14) (t := 129) (v := ?_) rfl (by rfl) (by kernel_rfl) (by kernel_rfl) (by kernel_rfl) (fun _ _ _ h => h) (Or.inl ⟨by rfl, ?_⟩) (by assumption) ?_
                rotate_left
                · (intro W hSw; go_simp)
                  all_goals with_reducible rfl
                simp only [List.setIfInBounds_toArray, List.set_cons_zero, List.set_cons_succ]
                refine takeH (i := 15) (t := 130) (v := ?_) rfl (by rfl) (by kernel_rfl) (by kernel_rfl) (by kernel_rfl) (fun _ _ _ h => h) (Or.inl ⟨by rfl, ?_⟩) (by assumption) ?_
                rotate_left
                · (intro W hSw; go_simp)
                  all_goals with_reducible rfl
                simp only [List.setIfInBounds_toArray, List.set_cons_zero, List.set_cons_succ]
                refine takeH (i := 16) (t := 131) (v := ?_) rfl (by rfl) (by kernel_rfl) (by kernel_rfl) (by kernel_rfl) (fun _ _ _ h => h) (Or.inl ⟨by rfl, ?_⟩) (by assumption) ?_
                rotate_left
                · (intro W hSw; go_simp)
                  all_goals with_reducible rfl
                simp only [List.setIfInBounds_toArray, List.set_cons_zero, List.set_cons_succ]
                refine takeH (i := 17) (t := 132) (v := ?_) rfl (by rfl) (by kernel_rfl) (by kernel_rfl) (by kernel_rfl) (fun _ _ _ h => h) (Or.inl ⟨by rfl, ?_⟩) (by assumption) ?_
                rotate_left
                · (intro W hSw; go_simp)
                  all_goals with_reducible rfl
                simp only [List.setIfInBounds_toArray, List.set_cons_zero, List.set_cons_succ]
                refine takeH (i := 18) (t := 133) (v := ?_) rfl (by rfl) (by kernel_rfl) (by kernel_rfl) (by kernel_rfl) (fun _ _ _ h => h) (Or.inl ⟨by rfl, ?_⟩) (by assumption) ?_
                rotate_left
                · (intro W hSw; obtain ⟨m1, m2, m3, m4, m5, m6, m7, m8, m9⟩ := HMK.out W hSw; go_simp)
                  all_goals with_reducible rfl
                simp only [List.setIfInBounds_toArray, List.set_cons_zero, List.set_cons_succ]
                refine takeH (i := 19) (t := 134) (v := ?_) rfl (by rfl) (by kernel_rfl) (by kernel_rfl) (by kernel_rfl) (fun _ _ _ h => h) (Or.inl ⟨by rfl, ?_⟩) (by assumption) ?_
                rotate_left
                · (intro W hSw; go_simp)
                  all_goals with_reducible rfl
                simp only [List.setIfInBounds_toArray, List.set_cons_zero, List.set_cons_succ]
                refine takeH (i := 20) (t := 135) (v := ?_) rfl (by rfl) (by kernel_rfl) (by kernel_rfl) (by kernel_rfl) (fun _ _ _ h => h) (Or.inl ⟨by rfl, ?_⟩) (by assumption) ?_
                rotate_left
                · (intro W hSw; obtain ⟨m1, m2, m3, m4, m5, m6, m7, m8, m9⟩ := HMK.out W hSw; go_simp)
                  all_goals with_reducible rfl
                simp only [List.setIfInBounds_toArray, List.set_cons_zero, List.set_cons_succ]
                rw [HWS.out]
                refine takeH (i := 21) (t := 136) (v := ?_) rfl (by rfl) (by kernel_rfl) (by kernel_rfl) (by kernel_rfl) (fun _ _ _ h => h) (Or.inl ⟨by rfl, ?_⟩) (by assumption) ?_
                rotate_left
                · (intro W hSw; go_simp)
                  all_goals with_reducible rfl
                simp only [List.setIfInBounds_toArray, List.set_cons_zero, List.set_cons_succ]
                refine takeH (i := 22) (t := 137) (v := ?_) rfl (by rfl) (by kernel_rfl) (by kernel_rfl) (by kernel_rfl) (fun _ _ _ h => h) (Or.inl ⟨by rfl, ?_⟩) (by assumption) ?_
                rotate_left
                · (intro W hSw; go_simp)
                  all_goals with_reducible rfl
                simp only [List.setIfInBounds_toArray, List.set_cons_zero, List.set_cons_succ]
                refine takeH (i := 23) (t := 138) (v := ?_) rfl (by rfl) (by kernel_rfl) (by kernel_rfl) (by kernel_rfl) (fun _ _ _ h => h) (Or.inl ⟨by rfl, ?_⟩) (by assumption) ?_
                rotate_left
                · (intro W hSw; go_simp)
                  all_goals with_reducible rfl
                simp only [List.setIfInBounds_toArray, List.set_cons_zero, List.set_cons_succ]
                refine takeH (i := 24) (t := 139) (v := ?_) rfl (by rfl) (by kernel_rfl) (by kernel_rfl) (by kernel_rfl) (fun _ _ _ h => h) (Or.inl ⟨by rfl, ?_⟩) (by assumption) ?_
                rotate_left
                · (intro W hSw; go_simp)
                  all_goals with_reducible rfl
                simp only [List.setIfInBounds_toArray, List.set_cons_zero, List.set_cons_succ]
                refine takeH (i := 25) (t := 140) (v := ?_) rfl (by rfl) (by kernel_rfl) (by kernel_rfl) (by kernel_rfl) (fun _ _ _ h => h) (Or.inl ⟨by rfl, ?_⟩) (by assumption) ?_
                rotate_left
                · (intro W hSw; go_simp)
                  all_goals with_reducible rfl
                simp only [List.setIfInBounds_toArray, List.set_cons_zero, List.set_cons_succ]
                refine takeH (i := 26) (t := 141) (v := ?_) rfl (by rfl) (by kernel_rfl) (by kernel_rfl) (by kernel_rfl) (fun _ _ _ h => h) (Or.inl ⟨by rfl, ?_⟩) (by assumption) ?_
                rotate_left
                · (intro W hSw; go_simp)
                  all_goals with_reducible rfl
                simp only [List.setIfInBounds_toArray, List.set_cons_zero, List.set_cons_succ]
                refine takeH (i := 27) (t := 142) (v := ?_) rfl (by rfl) (by kernel_rfl) (by kernel_rfl) (by kernel_rfl) (fun _ _ _ h => h) (Or.inl ⟨by rfl, ?_⟩) (by assumption) ?_
                rotate_left
                · (intro W hSw; obtain ⟨m1, m2, m3, m4, m5, m6, m7, m8, m9⟩ := HMK.out W hSw; go_simp)
                  all_goals with_reducible rfl
                simp only [List.setIfInBounds_toArray, List.set_cons_zero, List.set_cons_succ]
                refine takeH (i := 28) (t := 143) (v := ?_) rfl (by rfl) (by kernel_rfl) (by kernel_rfl) (by kernel_rfl) (fun _ _ _ h => h) (Or.inl ⟨by rfl, ?_⟩) (by assumption) ?_
                rotate_left
                · (intro W hSw; go_simp)
                  all_goals with_reducible rfl
                simp only [List.setIfInBounds_toArray, List.set_cons_zero, List.set_cons_succ]
                refine takeH (i := 29) (t := 144) (v := ?_) rfl (by rfl) (by kernel_rfl) (by kernel_rfl) (by kernel_rfl) (fun _ _ _ h => h) (Or.inl ⟨by rfl, ?_⟩) (by assumption) ?_
                rotate_left
                · (intro W hSw; go_simp)
                  all_goals with_reducible rfl
                simp only [List.setIfInBounds_toArray, List.set_cons_zero, List.set_cons_succ]
                refine takeH (i := 30) (t := 145) (v := ?_) rfl (by rfl) (by kernel_rfl) (by kernel_rfl) (by kernel_rfl) (fun _ _ _ h => h) (Or.inl ⟨by rfl, ?_⟩) (by assumption) ?_
                rotate_left
                · (intro W hSw; go_simp)
                  all_goals with_reducible rfl
                simp only [List.setIfInBounds_toArray, List.set_cons_zero, List.set_cons_succ]
                refine takeH (i := 31) (t := 146) (v := ?_) rfl (by rfl) (by kernel_rfl) (by kernel_rfl) (by kernel_rfl) (fun _ _ _ h => h) (Or.inl ⟨by rfl, ?_⟩) (by assumption) ?_
                rotate_left
                · (intro W hSw; go_simp)
                  all_goals with_reducible rfl
                simp only [List.setIfInBounds_toArray, List.set_cons_zero, List.set_cons_succ]
                refine takeH (i := 32) (t := 147) (v := ?_) rfl (by rfl) (by kernel_rfl) (by kernel_rfl) (by kernel_rfl) (fun _ _ _ h => h) (Or.inl ⟨by rfl, ?_⟩) (by assumption) ?_
                rotate_left
                · (intro W hSw; go_simp)
                  all_goals with_reducible rfl
                simp only [List.setIfInBounds_toArray, List.set_cons_zero, List.set_cons_succ]
                refine takeH (i := 33) (t := 148) (v := ?_) rfl (by rfl) (by kernel_rfl) (by kernel_rfl) (by kernel_rfl) (fun _ _ _ h => h) (Or.inl ⟨by rfl, ?_⟩) (by assumption) ?_
                rotate_left
                · (intro W hSw; go_simp)
                  all_goals with_reducible rfl
                simp only [List.setIfInBounds_toArray, List.set_cons_zero, List.set_cons_succ]
                refine takeH (i := 34) (t := 149) (v := ?_) rfl (by rfl) (by kernel_rfl) (by kernel_rfl) (by kernel_rfl) (fun _ _ _ h => h) (Or.inl ⟨by rfl, ?_⟩) (by assumption) ?_
                rotate_left
                · (intro W hSw; obtain ⟨m1, m2, m3, m4, m5, m6, m7, m8, m9⟩ := HMK.out W hSw; go_simp)
                  all_goals with_reducible rfl
                simp only [List.setIfInBounds_toArray, List.set_cons_zero, List.set_cons_succ]
                refine takeH (i := 35) (t := 150) (v := ?_) rfl (by rfl) (by kernel_rfl) (by kernel_rfl) (by kernel_rfl) (fun _ _ _ h => h) (Or.inl ⟨by rfl, ?_⟩) (by assumption) ?_
                rotate_left
                · (intro W hSw; obtain ⟨m1, m2, m3, m4, m5, m6, m7, m8, m9⟩ := HMK.out W hSw; go_simp)
                  all_goals with_reducible rfl
                simp only [List.setIfInBounds_toArray, List.set_cons_zero, List.set_cons_succ]
                refine takeH (i := 36) (t := 151) (v := ?_) rfl (by rfl) (by kernel_rfl) (by kernel_rfl) (by kernel_rfl) (fun _ _ _ h => h) (Or.inl ⟨by rfl, ?_⟩) (by assumption) ?_
                rotate_left
                · (intro W hSw; obtain ⟨m1, m2, m3, m4, m5, m6, m7, m8, m9⟩ := HMK.out W hSw; go_simp)
                  all_goals with_reducible rfl
                simp only [List.setIfInBounds_toArray, List.set_cons_zero, List.set_cons_succ]
                refine wpAnyH_ready (rs := [37]) (by kernel_rfl) (by simp) ?_
                refine AllReadyH.cons rfl (fun K hK => ?_) AllReadyH.nil
                go_simp
                (go_at_call 12)
                (with_reducible refine HCF.out.mono ?_)
                rintro e w9 ⟨A9, c9, rfl, hp9⟩
                have HG9 := Lib.hid ((Fr.refl Nob W8).drew.call hp9.fr (fun _ e _ => e))
                have hcv9 := run_str hp9.sl
                clear hp9
                go_simp
                refine hK.out _ _ ?_ (fun hHeld => ?_)
                · exact HG9.out
                clear hK K
                refine wpAnyH_ready (rs := [38]) (by kernel_rfl) (by simp) ?_
                refine AllReadyH.cons rfl (fun K hK => ?_) AllReadyH.nil
                go_simp
                refine hK.out _ _ ?_ (fun hHeld => ?_)
                · exact HG9.out
                clear hK K
                refine takeH (i := 39) (t := 154) (v := ?_) rfl (by rfl) (by kernel_rfl) (by kernel_rfl) (by kernel_rfl) (fun _ _ _ h => h) (Or.inl ⟨by rfl, ?_⟩) (by assumption) ?_
                rotate_left
                · (intro W hSw; go_simp)
                  all_goals with_reducible rfl
                simp only [List.setIfInBounds_toArray, List.set_cons_zero, List.set_cons_succ]
                refine takeH (i := 40) (t := 155) (v := ?_) rfl (by rfl) (by kernel_rfl) (by kernel_rfl) (by kernel_rfl) (fun _ _ _ h => h) (Or.inl ⟨by rfl, ?_⟩) (by assumption) ?_
                rotate_left
                · (intro W hSw; go_simp)
                  all_goals with_reducible rfl
                simp only [List.setIfInBounds_toArray, List.set_cons_zero, List.set_cons_succ]
                refine takeH (i := 41) (t := 4) (v := ?_) rfl (by rfl) (by kernel_rfl) (by kernel_rfl) (by kernel_rfl) (fun _ _ _ h => h) (Or.inl ⟨by rfl, ?_⟩) (by assumption) ?_
                rotate_left
                · (intro W hSw; go_simp)
                  all_goals with_reducible rfl
                simp only [List.setIfInBounds_toArray, List.set_cons_zero, List.set_cons_succ]
                refine wpAnyH_done (by kernel_rfl) ?_ _
                go_wp2_with fail
                go_ret
                exact ⟨by simp, HF8.out.call HG9.out (fun _ e _ => e)⟩
              · have h7I : (7 : Int) < src := by omega
                have HRD := Lib.hid (fun (W : World) (h : SV W) => prg_SOf W ⟨T.toArray⟩ hTS h (HRS.out.trans (if_neg h7)))
                unfold SReadP at HRD
                simp only [List.length_nil] at HRD
                clear HRS h7
                go_wp2_with (first
                  | ((go_at_call 7); (with_reducible refine (HRD.out _ (HV.out.fr hf.out)).mono ?_); rintro e w8 ⟨A8, c8, L8, rfl, -, -, -, hf8⟩; have HF8 := Lib.hid (hf.out.call hf8 (fun _ e _ => e)); clear hf8)
                  | fail)
                go_ret
                exact ⟨by simp, HF8.out⟩
theorem law_ScriptSaysI (w : World) (m : MC) (A : Option Addr) (cap : Nat) (src : Int) (hs : Sl w 2 A m.props.length cap (m.props.flatMap pcs)) (hq : 0 ≤ m.seq ∧ m.seq < 18446744073709551616) (ht : I64 m.at_) (hpv : ∀ p ∈ m.props, I64 p.value) (hsr : 0 ≤ src ∧ src ≤ 255) (hv : SV w) :
    Calls Tryz.prog 5 #[.agg (mV m A cap), .int .u8 src] w fun e w' => e = .returned (.bool true) ∧ Fr Nob w w' := by
  obtain ⟨n, rfl⟩ : ∃ n : Nat, src = n := ⟨src.toNat, by omega⟩
  exact law_ScriptSays w m A cap n hs hq ht hpv (by omega) hv
end Go.Proofs.YtidhlfcmjpnhgaaGreatDoor
