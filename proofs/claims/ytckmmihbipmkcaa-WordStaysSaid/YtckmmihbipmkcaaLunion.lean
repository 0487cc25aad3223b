/- label.Union; the reference's lists in plain words; the document's example. -/
import Derived.Test.YtckmmihbipmkcaaLmerge
namespace Go.Proofs.Ytckmmihbipmkcaa
open Go.RowKit Go.Sort Go.Lib

theorem lof_len (l : List PP) : (lof l).length ≤ l.length := by have := dd_len (msort l); rw [msort_len] at this; exact this
theorem lof_lof (a b : List PP) : lof (lof a ++ lof b) = lof (a ++ b) := lof_eq (lof_asc _) fun x => by rw [lof_mem, List.mem_append, List.mem_append, lof_mem, lof_mem]

theorem putL_mem : ∀ (l : List PP) (p x : PP), x ∈ putL l p ↔ x ∈ l ∨ x = p
  | [], p, x => by simp [putL]
  | y :: r, p, x => by
    have ih := putL_mem r p x
    unfold putL
    split
    · simp only [List.mem_cons, ih, or_assoc]
    · split
      · rename_i h
        rw [ppeq_iff] at h
        subst h
        simp only [List.mem_cons]
        constructor
        · exact .inl
        · rintro (h | rfl)
          · exact h
          · exact .inl rfl
      · simp only [List.mem_cons]
        constructor
        · rintro (h | h)
          · exact .inr h
          · exact .inl h
        · rintro (h | h)
          · exact .inr h
          · exact .inl h
theorem putL_asc : ∀ {l : List PP} (p : PP), Asc l → Asc (putL l p)
  | [], p, _ => by simp [putL, Asc]
  | y :: r, p, h => by
    have h' := List.pairwise_cons.1 h
    unfold putL
    split
    · rename_i ha
      refine List.pairwise_cons.2 ⟨fun z hz => ?_, putL_asc p h'.2⟩
      rcases (putL_mem r p z).1 hz with hz | rfl
      · exact h'.1 z hz
      · exact (paheadB_iff _ _).1 ha
    · split
      · exact h
      · rename_i ha he
        have hlt : plt p y := by
          rcases plt_tri p y with h1 | h1 | h1
          · exact h1
          · exact absurd ((ppeq_iff _ _).2 h1.symm) he
          · exact absurd ((paheadB_iff _ _).2 h1) ha
        refine List.pairwise_cons.2 ⟨fun z hz => ?_, h⟩
        rcases List.mem_cons.1 hz with rfl | hz
        · exact hlt
        · exact plt_trans hlt (h'.1 z hz)
theorem putAll_asc : ∀ (l : List PP) {o : List PP}, Asc o → Asc (putAll o l)
  | [], _, h => h
  | x :: l, _, h => putAll_asc l (putL_asc x h)
theorem putAll_mem : ∀ (l o : List PP) (x : PP), x ∈ putAll o l ↔ x ∈ o ∨ x ∈ l
  | [], o, x => by simp [putAll]
  | y :: l, o, x => by
    show x ∈ putAll (putL o y) l ↔ _
    rw [putAll_mem l, putL_mem, List.mem_cons, or_assoc]
theorem putAll_nil (l : List PP) : putAll [] l = lof l := (lof_eq (putAll_asc l List.Pairwise.nil) fun x => by rw [putAll_mem]; simp).symm
theorem putAll_two (a b : List PP) : putAll (putAll [] a) b = lof (a ++ b) := (lof_eq (putAll_asc b (putAll_asc a List.Pairwise.nil)) fun x => by rw [putAll_mem, putAll_mem]; simp).symm

theorem lab_Of' (w : World) (A : Option Addr) (c : Nat) (l : List PP) (hl : Sl w 2 A l.length c (l.flatMap pcs)) (h63 : l.length ≤ 10000) :
    Calls Try.prog 24 #[.slice A l.length c] w fun e w' => Made w w' e (lof l) :=
  (lab_Of w A c l hl h63).mono fun _ _ ⟨A', c', he, hs, hf, _⟩ => ⟨A', c', he, hs, hf⟩

theorem lab_UnionN (w : World) (A : Option Addr) (c : Nat) (a : List PP) (B : Option Addr) (d : Nat) (b : List PP) (ha : Sl w 2 A a.length c (a.flatMap pcs)) (hb : Sl w 2 B b.length d (b.flatMap pcs)) (ha63 : a.length ≤ 10000) (hb63 : b.length ≤ 10000) :
    Calls Try.prog 23 #[.slice A a.length c, .slice B b.length d] w fun e w' => MadeP w w' e (lof (a ++ b)) := by
  have HA := Lib.hid ha
  have HB := Lib.hid hb
  clear ha hb
  go_enter Try.func23, Try.ntmps23
  go_wp2_with fail
  refine (lab_Of' _ A c a HA.out ha63).mono ?_
  rintro e w1 ⟨A1, c1, rfl, hs1, hf1⟩
  have HS1 := Lib.hid hs1
  have HF1 := Lib.hid hf1
  clear hs1 hf1
  go_wp2_with fail
  refine (lab_Of' _ B d b (HB.out.pure HF1.out) hb63).mono ?_
  rintro e w2 ⟨B1, d1, rfl, hs2, hf2⟩
  have HS2 := Lib.hid hs2
  have HF2 := Lib.hid hf2
  clear hs2 hf2
  go_wp2_with fail
  refine (lab_merge w2 A1 c1 (lof a) B1 d1 (lof b) (HS1.out.pure HF2.out) HS2.out (lof_asc a) (lof_asc b) (by have := lof_len a; omega) (by have := lof_len b; omega)).mono ?_
  rintro e w3 ⟨A3, c3, rfl, hs3, hf3, hn3⟩
  have HS3 := Lib.hid hs3
  have HF3 := Lib.hid hf3
  have HN3 := Lib.hid hn3
  clear hs3 hf3 hn3
  go_wp2_with fail
  go_ret
  rw [lof_lof a b] at HS3 ⊢
  exact ⟨A3, c3, rfl, HS3.out, (HF1.out.call HF2.out (fun _ h _ => h)).call HF3.out (fun _ h _ => h), fun g off e => by have h1 := (HN3.out g off e).1; have h2 := HF1.out.size; have h3 := HF2.out.size; exact ⟨by omega, (HN3.out g off e).2⟩⟩
theorem lab_Union (w : World) (A : Option Addr) (c : Nat) (a : List PP) (B : Option Addr) (d : Nat) (b : List PP) (ha : Sl w 2 A a.length c (a.flatMap pcs)) (hb : Sl w 2 B b.length d (b.flatMap pcs)) (ha63 : a.length ≤ 10000) (hb63 : b.length ≤ 10000) :
    Calls Try.prog 23 #[.slice A a.length c, .slice B b.length d] w fun e w' => Made w w' e (lof (a ++ b)) :=
  (lab_UnionN w A c a B d b ha hb ha63 hb63).mono fun _ _ ⟨A', c', he, hs, hf, _⟩ => ⟨A', c', he, hs, hf⟩

def sx (l : List UInt8) : ByteArray := ⟨l.toArray⟩
def awl : List PP := [⟨⟨#[97]⟩, 2⟩, ⟨⟨#[98]⟩, 1⟩, ⟨⟨#[97]⟩, 1⟩, ⟨⟨#[97]⟩, 2⟩]
def awo : List PP := [⟨⟨#[97]⟩, 1⟩, ⟨⟨#[97]⟩, 2⟩, ⟨⟨#[98]⟩, 1⟩]
theorem awo_eq : lof awl = awo := by
  refine lof_eq ?_ fun x => ?_
  · simp [Asc, awo, plt]
    decide
  · simp only [awl, awo, List.mem_cons, List.not_mem_nil, or_false]
    constructor
    · rintro (h | h | h)
      · exact .inr (.inr (.inl h))
      · exact .inl h
      · exact .inr (.inl h)
    · rintro (h | h | h | h)
      · exact .inr (.inl h)
      · exact .inr (.inr h)
      · exact .inl h
      · exact .inr (.inl h)
theorem awo_right : rightB awo = true := by
  refine rightB_true fun k hk => ?_
  have : k = 0 ∨ k = 1 ∨ k = 2 := by simp [awo] at hk; omega
  rcases this with rfl | rfl | rfl
  · show okAt awo 0 ⟨⟨#[97]⟩, 1⟩ = true; decide +kernel
  · rw [okAt_succ (by simp [awo]), (paheadB_iff _ _).2 (by simp [awo, plt])]; show (nmOk ⟨#[97]⟩ && true) = true; decide +kernel
  · rw [okAt_succ (by simp [awo]), (paheadB_iff _ _).2 (by simp [awo, plt]; decide)]; show (nmOk ⟨#[98]⟩ && true) = true; decide +kernel

end Go.Proofs.Ytckmmihbipmkcaa
