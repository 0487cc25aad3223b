/- The program's policies and settings; the policies' search. -/
import Derived.Test.YtoegdmpmagbaiaaDoorV1
import Derived.Deep.QuietTactic
namespace Go.Proofs.YtoegdmpmagbaiaaDoor
open Go.RowKit Go.Lib

def strV (l : List UInt8) : Value := .string ⟨l.toArray⟩
def strs (ws : List (List UInt8)) : List Value := ws.map strV
def polA : Array Value := #[.string ⟨#[116, 97, 105, 108]⟩, .string ⟨#[111, 108, 100, 101, 115, 116]⟩]
theorem prg_policies (w : World) : Calls Tryd.prog 46 #[] w fun e w' => e = .returned (.slice (some ⟨w.heap.size, 0, none⟩) 2 2) ∧ w.alloc (.cells polA 9) = w' := by
  go_enter Tryd.func46, Tryd.ntmps46
  go_wp2
  go_ret
  exact ⟨rfl, rfl⟩
theorem prg_policy (w : World) (b : Bool) : Calls Tryd.prog 68 #[.bool b] w fun e w' => e = .returned (strV (if b then oldC else tailC)) ∧ w = w' := by
  cases b
  · go_enter Tryd.func68, Tryd.ntmps68
    go_wp2
    go_ret
    exact ⟨rfl, rfl⟩
  · go_enter Tryd.func68, Tryd.ntmps68
    go_wp2
    go_ret
    exact ⟨rfl, rfl⟩
def polI (x : List UInt8) : Int := if x = tailC then 0 else if x = oldC then 1 else -1
set_option maxHeartbeats 2000000 in
theorem prg_Index (w : World) (g : Nat) (hb : Blk w g 9 polA) (x : List UInt8) : Calls Tryd.prog 56 #[.slice (some ⟨g, 0, none⟩) 2 2, strV x] w fun e w' => e = .returned (.int .i64 (polI x)) ∧ w = w' := by
  have b0 := hb.cell 0
  have b1 := hb.cell 1
  have bl := hb.lt
  simp only [polA] at b0 b1
  clear hb
  unfold strV
  by_cases h1 : x = tailC
  · have HR := Lib.hid (show polI x = 0 by rw [polI, if_pos h1])
    have e1 : (x == [116, 97, 105, 108]) = true := by rw [h1]; rfl
    clear h1
    go_enter Tryd.func56, Tryd.ntmps56
    go_wp2
    go_rounds 1
    go_wp2
    go_ret
    exact ⟨by rw [HR.out]; rfl, rfl⟩
  · have e1 : (x == [116, 97, 105, 108]) = false := by rw [beq_eq_false_iff_ne]; exact h1
    by_cases h2 : x = oldC
    · have HR := Lib.hid (show polI x = 1 by rw [polI, if_neg h1, if_pos h2])
      have e2 : (x == [111, 108, 100, 101, 115, 116]) = true := by rw [h2]; rfl
      clear h1 h2
      go_enter Tryd.func56, Tryd.ntmps56
      go_wp2
      go_rounds 2
      go_wp2
      go_ret
      exact ⟨by rw [HR.out]; rfl, rfl⟩
    · have e2 : (x == [111, 108, 100, 101, 115, 116]) = false := by rw [beq_eq_false_iff_ne]; exact h2
      have HR := Lib.hid (show polI x = -1 by rw [polI, if_neg h1, if_neg h2])
      clear h1 h2
      go_enter Tryd.func56, Tryd.ntmps56
      go_wp2
      go_rounds 3
      go_wp2
      go_ret
      exact ⟨by rw [HR.out]; rfl, rfl⟩

/-- A setting's row: word, least, greatest, what it sets, what it tells. -/
def setA : Array Value := #[
  .string ⟨#[115, 111, 117, 114, 99, 101, 115]⟩, .int .i64 1, .int .i64 8, .func (.func 62) #[] #[], .func (.func 63) #[] #[],
  .string ⟨#[114, 111, 111, 109]⟩, .int .i64 1, .int .i64 64, .func (.func 64) #[] #[], .func (.func 65) #[] #[],
  .string ⟨#[112, 111, 108, 105, 99, 121]⟩, .int .i64 0, .int .i64 1, .func (.func 66) #[] #[], .func (.func 67) #[] #[],
  .string ⟨#[119, 101, 105, 103, 104, 116, 115]⟩, .int .i64 1, .int .i64 16, .func (.func 69) #[] #[], .func (.func 70) #[] #[],
  .string ⟨#[113, 117, 97, 110, 116, 117, 109]⟩, .int .i64 1, .int .i64 64, .func (.func 71) #[] #[], .func (.func 72) #[] #[],
  .string ⟨#[116, 105, 109, 101, 111, 117, 116]⟩, .int .i64 1, .int .i64 9223372036854775807, .func (.func 73) #[] #[], .func (.func 74) #[] #[],
  .string ⟨#[112, 97, 116, 105, 101, 110, 99, 101]⟩, .int .i64 0, .int .i64 9223372036854775807, .func (.func 75) #[] #[], .func (.func 76) #[] #[]]
theorem prg_settings (w : World) : Calls Tryd.prog 43 #[] w fun e w' => e = .returned (.slice (some ⟨w.heap.size, 0, none⟩) 7 7) ∧ w.alloc (.cells setA 90) = w' := by
  go_enter Tryd.func43, Tryd.ntmps43
  go_wp2
  go_ret
  exact ⟨rfl, rfl⟩
end Go.Proofs.YtoegdmpmagbaiaaDoor
