/- formula.Show: what its stack says, in plain words. -/
import Derived.Test.YtdiapojppmoghaaDoorFparts
import Derived.Test.YtdiapojppmoghaaDoorBuild
import Derived.Test.YtdiapojppmoghaaDoorFsame2
namespace Go.Proofs.YtdiapojppmoghaaDoor
open Go.RowKit Go.Shelf

/-- A piece as it is known: bytes, and perhaps a node that lies somewhere. -/
structure Pc where
  t : ByteArray
  q : Option (Nd × Option Addr × Nat × Fo × Nat × Nat)
def Pc.addr (p : Pc) : Option Addr := p.q.map fun n => ⟨n.2.2.2.2.1, n.2.2.2.2.2, none⟩
def Pc.pt (p : Pc) : Pt := ⟨p.t, p.addr⟩
def Pc.ntext (p : Pc) : List UInt8 := match p.q with
  | none => []
  | some n => (textT n.1 n.2.2.2.1.tr).data.toList
def Pc.out (p : Pc) : List UInt8 := p.t.data.toList ++ p.ntext
def outL (l : List Pc) : List UInt8 := l.flatMap Pc.out
theorem outL_app (l m : List Pc) : outL (l ++ m) = outL l ++ outL m := by simp [outL]
/-- A stack's text: the last piece first. -/
def outS (st : List Pc) : List UInt8 := outL st.reverse
theorem outS_snoc (r : List Pc) (p : Pc) : outS (r ++ [p]) = p.out ++ outS r := by simp [outS, outL]
theorem outS_app (r m : List Pc) : outS (r ++ m) = outS m ++ outS r := by simp [outS, outL_app]
def Pc.wgt (p : Pc) : Nat := match p.q with
  | none => 1
  | some n => 6 * (n.2.2.2.1.tr.size + 1)
def wgtL (l : List Pc) : Nat := (l.map Pc.wgt).sum
theorem wgtL_app (l m : List Pc) : wgtL (l ++ m) = wgtL l + wgtL m := by simp [wgtL]
theorem wgtL_rev (l : List Pc) : wgtL l.reverse = wgtL l := by
  induction l with
  | nil => rfl
  | cons p l ih => rw [List.reverse_cons, wgtL_app, ih]; simp [wgtL]; omega
theorem Pc.wgt_pos (p : Pc) : 1 ≤ p.wgt := by unfold Pc.wgt; split <;> omega
theorem wgtL_len (l : List Pc) : l.length ≤ wgtL l := by
  induction l with
  | nil => exact Nat.zero_le _
  | cons p l ih => have := p.wgt_pos; simp only [wgtL, List.map_cons, List.sum_cons, List.length_cons] at ih ⊢; omega
/-- A node that lies below block N in a world. -/
structure NodeAt (N : Nat) (w : World) (x : Nd) (A : Option Addr) (c : Nat) (ks : Fo) (b off : Nat) : Prop where
  ok : TxOk x ks
  nd : NdAt w b off x A ks.len c
  sl : FoSl N w A c ks
  lt : b < N
def Pc.good (N : Nat) (w : World) (p : Pc) : Prop := ∀ n, p.q = some n → NodeAt N w n.1 n.2.1 n.2.2.1 n.2.2.2.1 n.2.2.2.2.1 n.2.2.2.2.2
/-- The pieces of a kid's text. -/
def kidC (p : Int) (y : Nd) (B : Option Addr) (d : Nat) (js : Fo) (kb ko : Nat) : List Pc := if placeN y.op < p then [⟨⟨#[40]⟩, some (y, B, d, js, kb, ko)⟩, ⟨⟨#[41]⟩, none⟩] else [⟨⟨#[]⟩, some (y, B, d, js, kb, ko)⟩]
theorem kidC_pt (p : Int) (y : Nd) (B : Option Addr) (d : Nat) (js : Fo) (kb ko : Nat) : (kidC p y B d js kb ko).map Pc.pt = kidP p y.op ⟨kb, ko, none⟩ := by
  unfold kidC kidP; split <;> rfl
theorem kidC_out (p : Int) (y : Nd) (B : Option Addr) (d : Nat) (js : Fo) (kb ko : Nat) : outL (kidC p y B d js kb ko) = (wrapT p (y.op, textT y js.tr)).data.toList := by
  unfold kidC wrapT
  by_cases h : placeN y.op < p
  · rw [if_pos h, if_pos h]; simp [outL, Pc.out, Pc.ntext, ByteArray.data_append]
  · rw [if_neg h, if_neg h]; simp [outL, Pc.out, Pc.ntext]
theorem kidC_wgt (p : Int) (y : Nd) (B : Option Addr) (d : Nat) (js : Fo) (kb ko : Nat) : wgtL (kidC p y B d js kb ko) ≤ 6 * (js.tr.size + 1) + 1 := by
  unfold kidC; split <;> simp [wgtL, Pc.wgt]
theorem kidC_good {N : Nat} {w : World} {p : Int} {y : Nd} {B : Option Addr} {d : Nat} {js : Fo} {kb ko : Nat} (h : NodeAt N w y B d js kb ko) : ∀ q ∈ kidC p y B d js kb ko, q.good N w := by
  intro q hq n hn
  unfold kidC at hq
  split at hq
  · simp only [List.mem_cons, List.not_mem_nil, or_false] at hq
    rcases hq with rfl | rfl
    · simp only [Option.some.injEq] at hn; subst hn; exact h
    · cases hn
  · simp only [List.mem_singleton] at hq
    subst hq
    simp only [Option.some.injEq] at hn; subst hn; exact h
/-- What the pieces of a node are: their text, how many, what they weigh. -/
structure PartsOf (N : Nat) (w : World) (x : Nd) (ks : Fo) (l : List Pc) : Prop where
  out : outL l = (textT x ks.tr).data.toList
  wgt : wgtL l < 6 * (ks.tr.size + 1)
  good : ∀ q ∈ l, q.good N w
  len : l.length ≤ 5
theorem PartsAt.pt {w w' : World} {e : Ending} {l : List Pc} {m : List Pt} (h : PartsAt w w' e m) (he : l.map Pc.pt = m) : PartsAt w w' e (l.map Pc.pt) := he ▸ h
theorem Calls.exist {P : Program} {f : Nat} {args : Array Value} {w : World} {α : Type} {q : α → Prop} {post : α → Ending → World → Prop} {a : α} (hq : q a) (h : Calls P f args w (post a)) : Calls P f args w fun e w' => ∃ a, q a ∧ post a e w' := h.mono fun _ _ hp => ⟨a, hq, hp⟩
theorem kid_size {f : Fo} {y z : Nd} {A D : Option Addr} {c d : Nat} {ks js r0 r1 : Fo} (h0 : f.get 0 = .cons y A c ks r0) (h1 : f.get 1 = .cons z D d js r1) : ks.tr.size + 1 + (js.tr.size + 1) ≤ f.tr.size := by
  have h2 := Fo.get_succ h0
  rw [h1] at h2
  have h3 := Fo.get_size h0
  rw [← h2] at h3
  simp only [Fo.tr, Tr.size] at h3
  omega
/-- formula.parts at a node that is good. -/
theorem prg_parts (N : Nat) (w : World) (hv : ShVar w) (ht : TbVar w) (b off : Nat) (x : Nd) (A : Option Addr) (c : Nat) (ks : Fo) (hn : NodeAt N w x A c ks b off) :
    Calls Tryd.prog 30 #[.pointer (some ⟨b, off, none⟩)] w fun e w' => ∃ l, PartsOf N w x ks l ∧ PartsAt w w' e (l.map Pc.pt) := by
  obtain ⟨hok, hnd, hsl, hlt⟩ := hn
  have hop := wrong_op hok.wr
  by_cases h0 : kidsN x.op = 0
  · refine Calls.exist (a := [⟨leafT x, none⟩]) (q := PartsOf N w x ks) (post := fun l e w' => PartsAt w w' e (l.map Pc.pt)) ?_ ((prg_parts0 w hv ht b off x A c ks hok hnd h0).mono fun _ _ h => h)
    exact ⟨by unfold textT nodeT; rw [if_pos h0]; simp [outL, Pc.out, Pc.ntext], by (simp [wgtL, Pc.wgt]; omega), (fun q hq n hn => by (simp only [List.mem_singleton] at hq; subst hq; cases hn)), by simp⟩
  obtain ⟨kb, ko, y, B, d, js, rs, K⟩ := hsl.kid (k := 0) (by omega)
  have hA := K.slice
  subst hA
  have hok0 := hok.kid K.get
  have hop0 := wrong_op hok0.wr
  have hnd0 := K.nd
  rw [Nat.zero_mul, Nat.add_zero] at hnd0
  have hN0 : NodeAt N w y B d js kb ko := ⟨hok0, hnd0, K.sl, K.bN⟩
  have hs0 := K.size
  by_cases h1 : kidsN x.op = 1
  · refine Calls.exist (a := [⟨signT x, none⟩] ++ kidC (pl0 x.op) y B d js kb ko) (q := PartsOf N w x ks) (post := fun l e w' => PartsAt w w' e (l.map Pc.pt)) ?_ ((prg_parts1 w hv ht b off x kb ko c ks hok hnd h1 y B js.len d hnd0 ⟨hop0.1, hop0.2.1⟩).mono fun _ _ h => h.pt (by simp [kidC_pt, Pc.pt, Pc.addr]))
    refine ⟨?_, ?_, ?_, ?_⟩
    · rw [textT_one h0 h1 (kid0_of K.get), outL_app, kidC_out]; simp [outL, Pc.out, Pc.ntext, ByteArray.data_append]
    · rw [wgtL_app]; have := kidC_wgt (pl0 x.op) y B d js kb ko; simp [wgtL, Pc.wgt] at *; omega
    · intro q hq
      rcases List.mem_append.1 hq with hq | hq
      · intro n hn; simp only [List.mem_singleton] at hq; subst hq; cases hn
      · exact kidC_good hN0 q hq
    · have := (kidP_len (pl0 x.op) y.op ⟨kb, ko, none⟩).2; rw [← kidC_pt (B := B) (d := d) (js := js), List.length_map] at this; simp; omega
  · have h2 := kidsN_two h0 h1
    obtain ⟨kb', ko', z, D, g, ls, rs', K'⟩ := hsl.kid (k := 1) (by omega)
    have hA' := K'.slice
    simp only [Option.some.injEq, Addr.mk.injEq, and_true] at hA'
    obtain ⟨rfl, rfl⟩ := hA'
    have hok1 := hok.kid K'.get
    have hop1 := wrong_op hok1.wr
    have hnd1 := K'.nd
    rw [Nat.one_mul] at hnd1
    have hN1 : NodeAt N w z D g ls kb (ko + 7) := ⟨hok1, hnd1, K'.sl, K'.bN⟩
    have hs1 := kid_size K.get K'.get
    refine Calls.exist (a := kidC (pl0 x.op) y B d js kb ko ++ [⟨⟨#[32]⟩ ++ signT x ++ ⟨#[32]⟩, none⟩] ++ kidC (pl1 x.op) z D g ls kb (ko + 7)) (q := PartsOf N w x ks) (post := fun l e w' => PartsAt w w' e (l.map Pc.pt)) ?_
      ((prg_parts2 w hv ht b off x kb ko c ks hok hnd h2 y B js.len d hnd0 ⟨hop0.1, hop0.2.1⟩ z D ls.len g hnd1 ⟨hop1.1, hop1.2.1⟩).mono fun _ _ h => h.pt (by simp [kidC_pt, Pc.pt, Pc.addr]))
    refine ⟨?_, ?_, ?_, ?_⟩
    · rw [textT_two h0 h1 (kid0_of K.get) (kid1_of K'.get), outL_app, outL_app, kidC_out, kidC_out]; simp [outL, Pc.out, Pc.ntext, ByteArray.data_append]
    · rw [wgtL_app, wgtL_app]; have := kidC_wgt (pl0 x.op) y B d js kb ko; have := kidC_wgt (pl1 x.op) z D g ls kb (ko + 7); simp [wgtL, Pc.wgt] at *; omega
    · intro q hq
      rcases List.mem_append.1 hq with hq | hq
      · rcases List.mem_append.1 hq with hq | hq
        · exact kidC_good hN0 q hq
        · intro n hn; simp only [List.mem_singleton] at hq; subst hq; cases hn
      · exact kidC_good hN1 q hq
    · have e1 := (kidP_len (pl0 x.op) y.op ⟨kb, ko, none⟩).2; rw [← kidC_pt (B := B) (d := d) (js := js), List.length_map] at e1
      have e2 := (kidP_len (pl1 x.op) z.op ⟨kb, ko + 7, none⟩).2; rw [← kidC_pt (B := D) (d := g) (js := ls), List.length_map] at e2
      simp; omega
end Go.Proofs.YtdiapojppmoghaaDoor
