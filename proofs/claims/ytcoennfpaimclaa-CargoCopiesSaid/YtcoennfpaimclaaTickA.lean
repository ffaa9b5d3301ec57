/- The nearest tick, and sums of ticks (chapter 01): each function's contract. Conditions: the numbers are of their kinds. -/
import Derived.Test.YtcoennfpaimclaaProg
import Derived.WalkKit
import Derived.KernelRfl
import Derived.RowKit3
import Derived.Deep.Draws
import Derived.Deep.QuietTactic
import Derived.BigQuiet
import Derived.Deep.LoopGhost
import Derived.Lib.Hide
namespace Go.Proofs.Ytcoennfpaimclaa.Tick
open Go.RowKit
set_option maxRecDepth 100000
set_option linter.unusedVariables false
set_option linter.unusedSimpArgs false

/-- the greatest number. -/
def T : Int := 1099511627776
/-- the nearest number that may be. -/
def nr (n : Int) : Int := if n < 0 then 0 else if 1099511627776 < n then 1099511627776 else n
theorem nr_bd (n : Int) : 0 ≤ nr n ∧ nr n ≤ 1099511627776 := by unfold nr; split <;> (try split) <;> omega
theorem nr_low {n : Int} (h : n < 0) : nr n = 0 := if_pos h
theorem nr_top {n : Int} (h : 1099511627776 < n) : nr n = 1099511627776 := by unfold nr; rw [if_neg (by omega), if_pos h]
theorem nr_in {n : Int} (h : 0 ≤ n) (h1 : n ≤ 1099511627776) : nr n = n := by unfold nr; rw [if_neg (by omega), if_neg (by omega)]

theorem near_any (n : Int) (w : World) :
    Calls Try.prog 34 #[.int .i64 n] w fun e w' => e = .returned (.int .i64 (nr n)) ∧ w = w' := by
  by_cases h1 : n < 0
  · have e := Lib.hid (nr_low h1)
    go_enter Try.func34, Try.ntmps34
    go_wp2
    go_ret
    exact ⟨by rw [e.out]; rfl, rfl⟩
  · by_cases h2 : 1099511627776 < n
    · have e := Lib.hid (nr_top h2)
      go_enter Try.func34, Try.ntmps34
      go_wp2
      go_ret
      exact ⟨by rw [e.out]; rfl, rfl⟩
    · have h3 : 0 ≤ n := by omega
      have h4 : n ≤ 1099511627776 := by omega
      have e := Lib.hid (nr_in h3 h4)
      clear h1 h2
      go_enter Try.func34, Try.ntmps34
      go_wp2
      go_ret
      exact ⟨by rw [e.out]; rfl, rfl⟩

def add (a b : Int) : Int := nr (nr a + nr b)
theorem add_any (a b : Int) (w : World) :
    Calls Try.prog 28 #[.int .i64 a, .int .i64 b] w fun e w' => e = .returned (.int .i64 (add a b)) ∧ w = w' := by
  have h1 := nr_bd a
  have h2 := nr_bd b
  go_enter Try.func28, Try.ntmps28
  go_wp2_with (go_at_call 34; (with_reducible refine (near_any _ _).mono ?_); rintro e w' ⟨rfl, rfl⟩)
  go_ret
  exact ⟨rfl, rfl⟩
end Go.Proofs.Ytcoennfpaimclaa.Tick
namespace Go.Proofs.Ytcoennfpaimclaa.Ref01
open Go.RowKit Tick
theorem top_any (w : World) : Calls Try.prog 37 #[] w fun e w' => e = .returned (.int .i64 1099511627776) ∧ w = w' := by
  go_enter Try.func37, Try.ntmps37
  go_wp2
  go_ret
  exact ⟨rfl, rfl⟩

theorem near_any (n : Int) (w : World) :
    Calls Try.prog 36 #[.int .i64 n] w fun e w' => e = .returned (.int .i64 (nr n)) ∧ w = w' := by
  by_cases h1 : n < 0
  · have e := Lib.hid (nr_low h1)
    go_enter Try.func36, Try.ntmps36
    go_wp2
    go_ret
    exact ⟨by rw [e.out]; rfl, rfl⟩
  · by_cases h2 : 1099511627776 < n
    · have e := Lib.hid (nr_top h2)
      go_enter Try.func36, Try.ntmps36
      go_wp2_with (go_at_call 37; (with_reducible refine (top_any _).mono ?_); rintro e w' ⟨rfl, rfl⟩)
      go_ret
      exact ⟨by rw [e.out]; rfl, rfl⟩
    · have h3 : 0 ≤ n := by omega
      have h4 : n ≤ 1099511627776 := by omega
      have e := Lib.hid (nr_in h3 h4)
      clear h1 h2
      go_enter Try.func36, Try.ntmps36
      go_wp2_with (go_at_call 37; (with_reducible refine (top_any _).mono ?_); rintro e w' ⟨rfl, rfl⟩)
      go_ret
      exact ⟨by rw [e.out]; rfl, rfl⟩
end Go.Proofs.Ytcoennfpaimclaa.Ref01
