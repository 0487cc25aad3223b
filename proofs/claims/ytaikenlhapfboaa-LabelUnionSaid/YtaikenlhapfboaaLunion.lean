/- label.Union; the reference's lists in plain words; the document's example. -/
import Derived.Test.YtaikenlhapfboaaLmerge
namespace Go.Proofs.Ytaikenlhapfboaa
open Go.RowKit Go.Sort Go.Lib

theorem lof_len (l : List PP) : (lof l).length ≤ l.length := by have := dd_len (msort l); rw [msort_len] at this; exact this
theorem lof_lof (a b : List PP) : lof (lof a ++ lof b) = lof (a ++ b) := lof_eq (lof_asc _) fun x => by rw [lof_mem, List.mem_append, List.mem_append, lof_mem, lof_mem]

theorem putL_mem : ∀ (l : List PP) (p x : PP), x ∈ putL l p ↔ x ∈ l ∨ x = p
  | [], p, x => by simp [putL]
  | y :: r, p, x => by
    have ih := putL_mem r p x
    unfold putL
    split
    · simp only [List.mem_cons, ih, or_assoc]
    · split
      · rename_i h
        rw [ppeq_iff] at h
        subst h
        simp only [List.mem_cons]
        constructor
        · exact .inl
        · rintro (h | rfl)
          · exact h
          · exact .inl rfl
      · simp only [List.mem_cons]
        constructor
        · rintro (h | h)
          · exact .inr h
          · exact .inl h
        · rintro (h | h)
          · exact .inr h
          · exact .inl h
theorem putL_asc : ∀ {l : List PP} (p : PP), Asc l → Asc (putL l p)
  | [], p, _ => by simp [putL, Asc]
  | y :: r, p, h => by
    have h' := List.pairwise_cons.1 h
    unfold putL
    split
    · rename_i ha
      refine List.pairwise_cons.2 ⟨fun z hz => ?_, putL_asc p h'.2⟩
      rcases (putL_mem r p z).1 hz with hz | rfl
      · exact h'.1 z hz
      · exact (paheadB_iff _ _).1 ha
    · split
      · exact h
      · rename_i ha he
        have hlt : plt p y := by
          rcases plt_tri p y with h1 | h1 | h1
          · exact h1
          · exact absurd ((ppeq_iff _ _).2 h1.symm) he
          · exact absurd ((paheadB_iff _ _).2 h1) ha
        refine List.pairwise_cons.2 ⟨fun z hz => ?_, h⟩
        rcases List.mem_cons.1 hz with rfl | hz
        · exact hlt
        · exact plt_trans hlt (h'.1 z hz)
theorem putAll_asc : ∀ (l : List PP) {o : List PP}, Asc o → Asc (putAll o l)
  | [], _, h => h
  | x :: l, _, h => putAll_asc l (putL_asc x h)
theorem putAll_mem : ∀ (l o : List PP) (x : PP), x ∈ putAll o l ↔ x ∈ o ∨ x ∈ l
  | [], o, x => by simp [putAll]
  | y :: l, o, x => by
    show x ∈ putAll (putL o y) l ↔ _
    rw [putAll_mem l, putL_mem, List.mem_cons, or_assoc]
theorem putAll_nil (l : List PP) : putAll [] l = lof l := (lof_eq (putAll_asc l List.Pairwise.nil) fun x => by rw [putAll_mem]; simp).symm
theorem putAll_two (a b : List PP) : putAll (putAll [] a) b = lof (a ++ b) := (lof_eq (putAll_asc b (putAll_asc a List.Pairwise.nil)) fun x => by rw [putAll_mem, putAll_mem]; simp).symm

theorem lab_Of' (w : World) (A : Option Addr) (c : Nat) (l : List PP) (hl : Sl w 2 A l.length c (l.flatMap pcs)) (h63 : l.length ≤ 1000) :
    Calls Try.prog 16 #[.slice A l.length c] w fun e w' => Made w w' e (lof l) :=
  (lab_Of w A c l hl h63).mono fun _ _ ⟨A', c', he, hs, hf, _⟩ => ⟨A', c', he, hs, hf⟩

theorem lab_Union (w : World) (A : Option Addr) (c : Nat) (a : List PP) (B : Option Addr) (d : Nat) (b : List PP) (ha : Sl w 2 A a.length c (a.flatMap pcs)) (hb : Sl w 2 B b.length d (b.flatMap pcs)) (ha63 : a.length ≤ 1000) (hb63 : b.length ≤ 1000) :
    Calls Try.prog 18 #[.slice A a.length c, .slice B b.length d] w fun e w' => Made w w' e (lof (a ++ b)) := by
  have HA := Lib.hid ha
  have HB := Lib.hid hb
  clear ha hb
  go_enter Try.func18, Try.ntmps18
  go_wp2_with fail
  refine (lab_Of' _ A c a HA.out ha63).mono ?_
  rintro e w1 ⟨A1, c1, rfl, hs1, hf1⟩
  have HS1 := Lib.hid hs1
  have HF1 := Lib.hid hf1
  clear hs1 hf1
  go_wp2_with fail
  refine (lab_Of' _ B d b (HB.out.pure HF1.out) hb63).mono ?_
  rintro e w2 ⟨B1, d1, rfl, hs2, hf2⟩
  have HS2 := Lib.hid hs2
  have HF2 := Lib.hid hf2
  clear hs2 hf2
  go_wp2_with fail
  refine (lab_merge w2 A1 c1 (lof a) B1 d1 (lof b) (HS1.out.pure HF2.out) HS2.out (lof_asc a) (lof_asc b) (by have := lof_len a; omega) (by have := lof_len b; omega)).mono ?_
  rintro e w3 ⟨A3, c3, rfl, hs3, hf3⟩
  have HS3 := Lib.hid hs3
  have HF3 := Lib.hid hf3
  clear hs3 hf3
  go_wp2_with fail
  go_ret
  rw [lof_lof a b] at HS3 ⊢
  exact ⟨A3, c3, rfl, HS3.out, (HF1.out.call HF2.out (fun _ h _ => h)).call HF3.out (fun _ h _ => h)⟩

def sx (l : List UInt8) : ByteArray := ⟨l.toArray⟩
def awl : List PP := [⟨⟨#[97]⟩, 2⟩, ⟨⟨#[98]⟩, 1⟩, ⟨⟨#[97]⟩, 1⟩, ⟨⟨#[97]⟩, 2⟩]
def awo : List PP := [⟨⟨#[97]⟩, 1⟩, ⟨⟨#[97]⟩, 2⟩, ⟨⟨#[98]⟩, 1⟩]
theorem awo_eq : lof awl = awo := by
  refine lof_eq ?_ fun x => ?_
  · simp [Asc, awo, plt]
    decide
  · simp only [awl, awo, List.mem_cons, List.not_mem_nil, or_false]
    constructor
    · rintro (h | h | h)
      · exact .inr (.inr (.inl h))
      · exact .inl h
      · exact .inr (.inl h)
    · rintro (h | h | h | h)
      · exact .inr (.inl h)
      · exact .inr (.inr h)
      · exact .inl h
      · exact .inr (.inl h)
theorem awo_right : rightB awo = true := by
  refine rightB_true fun k hk => ?_
  have : k = 0 ∨ k = 1 ∨ k = 2 := by simp [awo] at hk; omega
  rcases this with rfl | rfl | rfl
  · show okAt awo 0 ⟨⟨#[97]⟩, 1⟩ = true; decide +kernel
  · rw [okAt_succ (by simp [awo]), (paheadB_iff _ _).2 (by simp [awo, plt])]; show (nmOk ⟨#[97]⟩ && true) = true; decide +kernel
  · rw [okAt_succ (by simp [awo]), (paheadB_iff _ _).2 (by simp [awo, plt]; decide)]; show (nmOk ⟨#[98]⟩ && true) = true; decide +kernel

set_option maxRecDepth 100000 in
set_option maxHeartbeats 4000000 in
theorem law_awake (w : World) : Calls Try.prog 9 #[] w fun e w' => e = .returned (.bool true) ∧ Fr Nob w w' := by
  have HO := Lib.hid (fun (W : World) (B : Blk W w.heap.size 32 #[.string ⟨#[97]⟩, .int .i64 2, .string ⟨#[98]⟩, .int .i64 1, .string ⟨#[97]⟩, .int .i64 1, .string ⟨#[97]⟩, .int .i64 2]) => lab_Of' W (some ⟨w.heap.size, 0, none⟩) 4 awl (Sl.new1 B 2 4 rfl (by decide)) (by decide))
  rw [awo_eq] at HO
  go_enter Try.func9, Try.ntmps9
  go_wp2_with fail
  refine (HO.out _ (Blk.new _ _ _)).mono ?_
  rintro e w1 ⟨A1, c1, rfl, hs1, hf1⟩
  obtain ⟨b, off, rfl, hb, hc⟩ := hs1.cells (by decide)
  have d0 := hc 0 _ rfl
  have d1 := hc 1 _ rfl
  have d4 := hc 4 _ rfl
  have HS := Lib.hid hs1
  have HF := Lib.hid (((Fr.refl Nob w).alloc _).call hf1 (fun _ h _ => h))
  have hlen : awo.length = 3 := rfl
  rw [hlen]
  have hle := hs1.le
  rw [hlen] at hle
  have hmx := hs1.max
  unfold maxLen at hmx
  rw [Nat.add_zero] at d0
  clear hs1 hf1 HO hc hlen
  have HSZ := Lib.hid (show ∀ p ∈ awo, p.name.size ≤ 9223372036854775807 by intro p hp; simp [awo] at hp; rcases hp with rfl | rfl | rfl <;> decide)
  have H1 := Lib.hid (show holdsB awo ⟨#[97]⟩ 5 1 = true by decide +kernel)
  have H2 := Lib.hid (show holdsB awo ⟨#[98]⟩ 2 1 = false by decide +kernel)
  have H3 := Lib.hid (show nmOk ⟨#[97, 95, 49]⟩ = true by decide +kernel)
  have H4 := Lib.hid (show nmOk ⟨#[116, 114, 117, 101]⟩ = false by decide +kernel)
  go_wp2_with fail
  refine (lab_Right w1 (some ⟨b, off, none⟩) c1 awo HS.out HSZ.out).mono ?_
  rw [awo_right]
  rintro e w2 ⟨rfl, hf2⟩
  have HF2 := Lib.hid hf2
  clear hf2
  go_wp2_with fail
  refine (lab_Holds w2 (some ⟨b, off, none⟩) c1 awo ⟨#[97]⟩ 5 1 (HS.out.pure HF2.out)).mono ?_
  rw [H1.out]
  rintro e w3 ⟨rfl, hf3⟩
  have HF3 := Lib.hid (HF2.out.call hf3 (fun _ h _ => h))
  clear hf3
  go_wp2_with fail
  refine (lab_Holds w3 (some ⟨b, off, none⟩) c1 awo ⟨#[98]⟩ 2 1 (HS.out.pure HF3.out)).mono ?_
  rw [H2.out]
  rintro e w4 ⟨rfl, hf4⟩
  have HF4 := Lib.hid (HF3.out.call hf4 (fun _ h _ => h))
  clear hf4
  go_wp2_with fail
  refine (lab_Name w4 ⟨#[97, 95, 49]⟩ (by decide)).mono ?_
  rw [H3.out]
  rintro e w5 ⟨rfl, rfl⟩
  go_wp2_with fail
  refine (lab_Name w4 ⟨#[116, 114, 117, 101]⟩ (by decide)).mono ?_
  rw [H4.out]
  rintro e w5 ⟨rfl, rfl⟩
  go_wp2_with fail
  go_ret
  exact ⟨rfl, HF.out.call HF4.out (fun _ h _ => h)⟩
end Go.Proofs.Ytaikenlhapfboaa
