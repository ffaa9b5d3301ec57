/- A toxic's words and numbers (chapter 09): each function's contract. Conditions: a kind is one of the eight where the rules are asked. -/
import Derived.Test.YtehpliclknfmoaaToxA
namespace Go.Proofs.Ytehpliclknfmoaa.Toxic
open Go.RowKit Mem Tick Cargo
set_option maxRecDepth 100000
set_option linter.unusedVariables false
set_option linter.unusedSimpArgs false

def kindB (k : Int) : Bool := decide (1 ≤ k) && decide (k ≤ 7)
theorem word_any (k : Int) (w : World) :
    Calls Try.prog 41 #[.int .i64 k] w fun e w' => ∃ s : ByteArray, e = .returned (.string s) ∧ s.toList.isEmpty = !kindB k ∧ Below w.heap.size w w' := by
  by_cases h : k < 0 ∨ 7 < k
  · have hk : kindB k = false := by unfold kindB; rcases h with h | h <;> simp <;> omega
    have hk' := Lib.hid hk
    clear hk
    rcases h with h | h
    · go_enter Try.func41, Try.ntmps41
      go_wp2
      go_ret
      exact ⟨_, rfl, by rw [hk'.out]; exact empty_yes, Below.refl _ _⟩
    · have h2 : ¬ (k < 0) := by omega
      go_enter Try.func41, Try.ntmps41
      go_wp2
      go_ret
      exact ⟨_, rfl, by rw [hk'.out]; exact empty_yes, Below.refl _ _⟩
  · have h8 : k = 0 ∨ k = 1 ∨ k = 2 ∨ k = 3 ∨ k = 4 ∨ k = 5 ∨ k = 6 ∨ k = 7 := by omega
    clear h
    rcases h8 with rfl | rfl | rfl | rfl | rfl | rfl | rfl | rfl <;>
    · go_enter Try.func41, Try.ntmps41
      go_wp2_with (go_at_call 56; go_enter Try.func56, Try.ntmps56)
      go_ret
      refine ⟨_, rfl, ?_, (Below.refl _ _).alloc (Nat.le_refl _) _⟩
      first
        | exact empty_yes
        | exact isEmpty_false (by decide)
theorem numbers_any (k : Int) (w : World) (hk : kindB k = true) :
    Calls Try.prog 59 #[.int .i64 k] w fun e w' => e = .returned (.int .i64 (if k ≤ 3 then 2 else 1)) ∧ Below w.heap.size w w' := by
  have hw := word_any k w
  rw [hk] at hw
  have hw' := Lib.hid hw
  clear hw hk
  by_cases h : k ≤ 3
  · have e := Lib.hid (if_pos h : (if k ≤ 3 then (2 : Int) else 1) = 2)
    go_enter Try.func59, Try.ntmps59
    go_wp2_with fail
    refine hw'.out.mono ?_
    rintro e w1 ⟨s, rfl, hs, hB⟩
    have hB' := Lib.hid hB
    clear hB
    go_wp2
    go_ret
    exact ⟨rfl, hB'.out⟩
  · have e := Lib.hid (if_neg h : (if k ≤ 3 then (2 : Int) else 1) = 1)
    go_enter Try.func59, Try.ntmps59
    go_wp2_with fail
    refine hw'.out.mono ?_
    rintro e w1 ⟨s, rfl, hs, hB⟩
    have hB' := Lib.hid hB
    clear hB
    go_wp2
    go_ret
    exact ⟨rfl, hB'.out⟩
end Go.Proofs.Ytehpliclknfmoaa.Toxic
