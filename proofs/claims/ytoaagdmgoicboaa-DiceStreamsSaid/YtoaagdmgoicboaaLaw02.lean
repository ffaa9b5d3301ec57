/- The laws of dice: each law's function returns true. Conditions: the numbers are of their kinds. -/
import Derived.Test.YtoaagdmgoicboaaDice
import Derived.Test.YtoaagdmgoicboaaPDiceTakenx1
namespace Go.Proofs.Ytoaagdmgoicboaa.Law02
open Go.RowKit Mix Times Ref02 Dice
set_option maxRecDepth 100000
set_option linter.unusedVariables false
set_option linter.unusedSimpArgs false

theorem alive_true : PDiceTaken.chicanelaw02_alive.f 5 = some true := by kernel_rfl
theorem alive_any (w : World) : Calls Try.prog 11 #[] w fun e w' => e = .returned (.bool true) ∧ Below w.heap.size w w' :=
  PDiceTaken.chicanelaw02_alive.calls 5 true w alive_true

theorem nexts (s : Int) (w : World) (h0 : 0 ≤ s) (h1 : s < 18446744073709551616) :
    Calls Try.prog 3 #[.int .u64 s] w fun e w' => e = .returned (.bool true) ∧ Below w.heap.size w w' := by
  have b1 := stepI_bd s
  go_enter Try.func3, Try.ntmps3
  go_wp2_with fail
  refine (next_any s _).mono ?_
  rintro e w' ⟨rfl, rfl⟩
  go_wp2_with fail
  refine (alive_any _).mono ?_
  rintro e w1 ⟨rfl, hb1⟩
  go_wp2_with fail
  refine (value1_any s _ h0 h1).mono ?_
  rintro e w2 ⟨rfl, hb2⟩
  go_wp2_with fail
  refine (Ref02.step_any s _ h0 h1).mono ?_
  rintro e w' ⟨rfl, rfl⟩
  go_wp2_with fail
  refine (Dice.mix_any s _ h0 h1).mono ?_
  rintro e w' ⟨rfl, rfl⟩
  go_wp2_with fail
  refine (Ref02.mix_any s _ h0 h1).mono ?_
  rintro e w3 ⟨rfl, hb3⟩
  go_wp2
  go_ret
  exact ⟨by simp, hb1.trans ((hb2.trans (hb3.mono hb2.size)).mono hb1.size)⟩
theorem taken_less (s a b : Int) (w : World) (h0 : 0 ≤ s) (h1 : s < 18446744073709551616) (ha : a < 1) :
    Calls Try.prog 9 #[.int .u64 s, .int .i64 a, .int .i64 b] w fun e w' => e = .returned (.bool true) ∧ Below w.heap.size w w' := by
  go_enter Try.func9, Try.ntmps9
  go_wp2_with fail
  refine (Dice.below_none s a _ ha).mono ?_
  rintro e w' ⟨rfl, rfl⟩
  go_wp2_with fail
  refine (Ref02.below_none s a _ ha).mono ?_
  rintro e w1 ⟨rfl, hb1⟩
  go_wp2_with fail
  refine (Dice.range_any s a b _).mono ?_
  rintro e w' ⟨rfl, rfl⟩
  go_wp2_with fail
  refine (Ref02.range_any s a b _ h0 h1).mono ?_
  rintro e w2 ⟨rfl, hb2⟩
  go_wp2_with fail
  refine (Dice.percent_any s a _).mono ?_
  rintro e w' ⟨rfl, rfl⟩
  go_wp2_with fail
  refine (Ref02.percent_any s a _ h0 h1).mono ?_
  rintro e w3 ⟨rfl, hb3⟩
  go_wp2_with fail
  refine (alive_any _).mono ?_
  rintro e w4 ⟨rfl, hb4⟩
  have hb := hb1.trans ((hb2.trans ((hb3.trans (hb4.mono hb3.size)).mono hb2.size)).mono hb1.size)
  clear hb1 hb2 hb3 hb4
  go_wp2
  all_goals
    go_ret
    exact ⟨by simp, hb⟩

theorem taken_more (s a b : Int) (w : World) (h0 : 0 ≤ s) (h1 : s < 18446744073709551616) (ha : 1 ≤ a) (ha2 : a ≤ 9223372036854775807) :
    Calls Try.prog 9 #[.int .u64 s, .int .i64 a, .int .i64 b] w fun e w' => e = .returned (.bool true) ∧ Below w.heap.size w w' := by
  have hh := hiI_bd s a ha
  have hd := decide_eq_true hh.2
  go_enter Try.func9, Try.ntmps9
  go_wp2_with fail
  refine (Dice.below_some s a _ ha ha2).mono ?_
  rintro e w' ⟨rfl, rfl⟩
  go_wp2_with fail
  refine (Ref02.below_some s a _ h0 h1 ha ha2).mono ?_
  rintro e w1 ⟨rfl, hb1⟩
  go_wp2_with fail
  refine (Dice.range_any s a b _).mono ?_
  rintro e w' ⟨rfl, rfl⟩
  go_wp2_with fail
  refine (Ref02.range_any s a b _ h0 h1).mono ?_
  rintro e w2 ⟨rfl, hb2⟩
  go_wp2_with fail
  refine (Dice.percent_any s a _).mono ?_
  rintro e w' ⟨rfl, rfl⟩
  go_wp2_with fail
  refine (Ref02.percent_any s a _ h0 h1).mono ?_
  rintro e w3 ⟨rfl, hb3⟩
  go_wp2_with fail
  refine (alive_any _).mono ?_
  rintro e w4 ⟨rfl, hb4⟩
  have hb := hb1.trans ((hb2.trans ((hb3.trans (hb4.mono hb3.size)).mono hb2.size)).mono hb1.size)
  clear hb1 hb2 hb3 hb4
  go_wp2
  all_goals
    go_ret
    exact ⟨by simp, hb⟩

theorem range_out (s low long b : Int) (w : World) (hc : low < -1000000 ∨ low > 1000000 ∨ long < 0 ∨ long > 1000000 ∨ b < -1000000 ∨ b > 1000000) :
    Calls Try.prog 8 #[.int .u64 s, .agg #[.int .i64 low, .int .i64 long], .int .i64 b] w fun e w' => e = .returned (.bool true) ∧ Below w.heap.size w w' := by
  go_enter Try.func8, Try.ntmps8
  go_wp2_with fail
  go_quiet (fail)
  rcases hc with hc | hc | hc | hc | hc | hc
  all_goals
    go_wp2_with (go_at_call 11; (with_reducible refine (alive_any _).mono ?_); rintro e w1 ⟨rfl, hb1⟩)
    all_goals
      go_ret
      exact ⟨by simp, ((Below.refl _ _).alloc (Nat.le_refl _) _).trans ((below_drewN' (Below.refl _ _) nq).trans (hb1.mono (by simp)))⟩

theorem rangeN_in (s a b : Int) (h : a ≤ b) (h1 : -1099511627776 ≤ a) (h2 : a ≤ 1099511627776) (h3 : -1099511627776 ≤ b) (h4 : b ≤ 1099511627776) : rangeN s a b = a + hiI s (b - a + 1) := if_neg (by omega)
theorem rangeS_in (s a b : Int) (h : a ≤ b) (h1 : -1099511627776 ≤ a) (h2 : a ≤ 1099511627776) (h3 : -1099511627776 ≤ b) (h4 : b ≤ 1099511627776) : rangeS s a b = stepI s := if_neg (by omega)

theorem range_in (s low long b : Int) (w : World) (h0 : 0 ≤ s) (h1 : s < 18446744073709551616) (c1 : -1000000 ≤ low) (c2 : low ≤ 1000000) (c3 : 0 ≤ long) (c4 : long ≤ 1000000) (c5 : -1000000 ≤ b) (c6 : b ≤ 1000000) :
    Calls Try.prog 8 #[.int .u64 s, .agg #[.int .i64 low, .int .i64 long], .int .i64 b] w fun e w' => e = .returned (.bool true) ∧ Below w.heap.size w w' := by
  have e1 := Lib.hid (rangeN_in s low (low + long) (by omega) (by omega) (by omega) (by omega) (by omega))
  have e2 := Lib.hid (rangeS_in s low (low + long) (by omega) (by omega) (by omega) (by omega) (by omega))
  have e3 := Lib.hid (rangeN_in s (low + b) (low + b + long) (by omega) (by omega) (by omega) (by omega) (by omega))
  have e4 := Lib.hid (rangeS_in s (low + b) (low + b + long) (by omega) (by omega) (by omega) (by omega) (by omega))
  have q1 := Lib.hid (show low + long - low + 1 = long + 1 by omega)
  have q2 := Lib.hid (show low + b + long - (low + b) + 1 = long + 1 by omega)
  have hh := hiI_bd s (long + 1) (by omega)
  go_enter Try.func8, Try.ntmps8
  go_wp2_with fail
  go_quiet (fail)
  go_wp2_with fail
  refine (Dice.range_any s low (low + long) _).mono ?_
  rintro e w' ⟨rfl, rfl⟩
  rw [e1.out, e2.out, q1.out]
  go_wp2_with fail
  refine (Dice.range_any s (low + b) (low + b + long) _).mono ?_
  rintro e w' ⟨rfl, rfl⟩
  rw [e3.out, e4.out, q2.out]
  generalize hiI s (long + 1) = x at *
  have d1 : decide (low ≤ low + x) = true := decide_eq_true (by omega)
  have d2 : decide (low + x ≤ low + long) = true := decide_eq_true (by omega)
  have d3 : (low + b + x - b == low + x) = true := by simp; omega
  go_wp2_with fail
  refine (alive_any _).mono ?_
  rintro e w1 ⟨rfl, hb1⟩
  go_wp2_with fail
  refine (Ref02.step_any s _ h0 h1).mono ?_
  rintro e w' ⟨rfl, rfl⟩
  go_wp2
  go_ret
  exact ⟨by simp, ((Below.refl _ _).alloc (Nat.le_refl _) _).trans ((below_drewN' (Below.refl _ _) nq).trans (hb1.mono (by simp)))⟩

theorem taken (s a b : Int) (w : World) (h0 : 0 ≤ s) (h1 : s < 18446744073709551616) (ha : a ≤ 9223372036854775807) :
    Calls Try.prog 9 #[.int .u64 s, .int .i64 a, .int .i64 b] w fun e w' => e = .returned (.bool true) ∧ Below w.heap.size w w' := by
  by_cases h : a < 1
  · exact taken_less s a b w h0 h1 h
  · exact taken_more s a b w h0 h1 (by omega) ha
theorem range (s low long b : Int) (w : World) (h0 : 0 ≤ s) (h1 : s < 18446744073709551616) :
    Calls Try.prog 8 #[.int .u64 s, .agg #[.int .i64 low, .int .i64 long], .int .i64 b] w fun e w' => e = .returned (.bool true) ∧ Below w.heap.size w w' := by
  by_cases hc : low < -1000000 ∨ low > 1000000 ∨ long < 0 ∨ long > 1000000 ∨ b < -1000000 ∨ b > 1000000
  · exact range_out s low long b w hc
  · exact range_in s low long b w h0 h1 (by omega) (by omega) (by omega) (by omega) (by omega) (by omega)
end Go.Proofs.Ytoaagdmgoicboaa.Law02
