/- The reference's Sub and Up, and the law TickSums (chapter 01). Conditions: the numbers are of their kinds. -/
import Derived.Test.YtpmjjnnjkaennaaLaw01
import Derived.Test.YtpmjjnnjkaennaaRef01
namespace Go.Proofs.Ytpmjjnnjkaennaa.Ref01
open Go.RowKit Tick
set_option maxRecDepth 100000
set_option linter.unusedVariables false
set_option linter.unusedSimpArgs false

theorem sub_any (a b : Int) (w : World) :
    Calls Try.prog 22 #[.int .i64 a, .int .i64 b] w fun e w' => e = .returned (.int .i64 (sub a b)) ∧ w = w' := by
  have h1 := nr_bd a
  have h2 := nr_bd b
  go_enter Try.func22, Try.ntmps22
  go_wp2_with (go_at_call 13; (with_reducible refine (near_any _ _).mono ?_); rintro e w' ⟨rfl, rfl⟩)
  go_ret
  exact ⟨rfl, rfl⟩

theorem up_eq {x y : Int} (hx : 0 < x) (hy : 1 ≤ y) : (x + y - 1) / y = if x / y * y < x then x / y + 1 else x / y := by
  have h1 : x % y = x - y * (x / y) := Int.emod_def x y
  have h2 := Int.emod_nonneg x (show y ≠ 0 by omega)
  have h3 := Int.emod_lt_of_pos x (show 0 < y by omega)
  rw [Int.mul_comm] at h1
  generalize x / y = q at *
  generalize x % y = s at *
  by_cases hs : q * y < x
  · rw [if_pos hs, show x + y - 1 = (s - 1) + (q + 1) * y by rw [Int.add_mul]; omega, Int.add_mul_ediv_right _ _ (by omega), Int.ediv_eq_zero_of_lt (by omega) (by omega)]
    omega
  · rw [if_neg hs, show x + y - 1 = (y - 1) + q * y by omega, Int.add_mul_ediv_right _ _ (by omega), Int.ediv_eq_zero_of_lt (by omega) (by omega)]
    omega

theorem up_any (a b : Int) (w : World) :
    Calls Try.prog 26 #[.int .i64 a, .int .i64 b] w fun e w' => e = .returned (.int .i64 (up a b)) ∧ w = w' := by
  have h1 := nr_bd a
  have h2 := nr_bd b
  have hd := Lib.hid (show up a b = if nr a = 0 then 0 else if nr b = 0 then 1099511627776 else (nr a + nr b - 1) / nr b from rfl)
  by_cases ha : nr a = 0
  · have d := Lib.hid (hd.out.trans (if_pos ha))
    have hb : (nr a == 0) = true := by simpa using ha
    clear ha hd
    go_enter Try.func26, Try.ntmps26
    go_wp2_with (go_at_call 13; (with_reducible refine (near_any _ _).mono ?_); rintro e w' ⟨rfl, rfl⟩)
    go_ret
    exact ⟨by rw [d.out]; rfl, rfl⟩
  · have ha' : (nr a == 0) = false := by simpa using ha
    by_cases hb : nr b = 0
    · have d := Lib.hid ((hd.out.trans (if_neg ha)).trans (if_pos hb))
      have hb' : (nr b == 0) = true := by simpa using hb
      clear ha hb hd
      go_enter Try.func26, Try.ntmps26
      go_wp2_with (first
        | (go_at_call 13; (with_reducible refine (near_any _ _).mono ?_); rintro e w' ⟨rfl, rfl⟩)
        | (go_at_call 32; (with_reducible refine (top_any _).mono ?_); rintro e w' ⟨rfl, rfl⟩))
      go_ret
      exact ⟨by rw [d.out]; rfl, rfl⟩
    · have d := Lib.hid (((hd.out.trans (if_neg ha)).trans (if_neg hb)).trans (up_eq (by omega) (by omega)))
      have hb' : (nr b == 0) = false := by simpa using hb
      have hb1 : 1 ≤ nr b := by omega
      have ha1 : 1 ≤ nr a := by omega
      have hq : 0 ≤ nr a / nr b := Int.ediv_nonneg (by omega) (by omega)
      have hq2 : nr a / nr b ≤ nr a := Int.ediv_le_self _ (by omega)
      have hq3 : nr a / nr b * nr b ≤ nr a := Int.ediv_mul_le _ (by omega)
      have hq4 : 0 ≤ nr a / nr b * nr b := Int.mul_nonneg hq (by omega)
      have ht : (nr a).tdiv (nr b) = nr a / nr b := Int.tdiv_eq_ediv_of_nonneg (by omega)
      have ht' := Lib.hid ht
      clear ha hb hd ht
      by_cases hc : nr a / nr b * nr b < nr a
      · have d' := Lib.hid (d.out.trans (if_pos hc))
        have hc' : decide (nr a / nr b * nr b < nr a) = true := decide_eq_true hc
        go_enter Try.func26, Try.ntmps26
        go_wp2_with (go_at_call 13; (with_reducible refine (near_any _ _).mono ?_); rintro e w' ⟨rfl, rfl⟩)
        go_ret
        exact ⟨by rw [d'.out]; rfl, rfl⟩
      · have d' := Lib.hid (d.out.trans (if_neg hc))
        have hc' : decide (nr a / nr b * nr b < nr a) = false := decide_eq_false hc
        go_enter Try.func26, Try.ntmps26
        go_wp2_with (go_at_call 13; (with_reducible refine (near_any _ _).mono ?_); rintro e w' ⟨rfl, rfl⟩)
        go_ret
        exact ⟨by rw [d'.out]; rfl, rfl⟩
end Go.Proofs.Ytpmjjnnjkaennaa.Ref01
namespace Go.Proofs.Ytpmjjnnjkaennaa.Law01
open Go.RowKit Tick
theorem right_near (a : Int) : (rightB a == (a == nr a)) = true := by
  unfold rightB
  by_cases h : 0 ≤ a ∧ a ≤ 1099511627776
  · rw [nr_in h.1 h.2]; simp [h]
  · by_cases h1 : a < 0
    · rw [nr_low h1]
      have : ¬ (0 ≤ a) := by omega
      have h3 : a ≠ 0 := by omega
      simp [this, h3]
    · have h2 : 1099511627776 < a := by omega
      rw [nr_top h2]
      have : ¬ (a ≤ 1099511627776) := by omega
      have h3 : a ≠ 1099511627776 := by omega
      simp [this, h3]
theorem sums_any (a b : Int) (w : World) :
    Calls Try.prog 6 #[.int .i64 a, .int .i64 b] w fun e w' => e = .returned (.bool true) ∧ Below w.heap.size w w' := by
  have hr := right_near a
  go_enter Try.func6, Try.ntmps6
  go_wp2_with (first
    | (go_at_call 11; (with_reducible refine (alive_any _).mono ?_); rintro e w1 ⟨rfl, hb1⟩)
    | (go_at_call 19; (with_reducible refine (add_any a b _).mono ?_); rintro e wn ⟨rfl, rfl⟩)
    | (go_at_call 20; (with_reducible refine (Ref01.add_any a b _).mono ?_); rintro e wn ⟨rfl, rfl⟩)
    | (go_at_call 21; (with_reducible refine (sub_any a b _).mono ?_); rintro e wn ⟨rfl, rfl⟩)
    | (go_at_call 22; (with_reducible refine (Ref01.sub_any a b _).mono ?_); rintro e wn ⟨rfl, rfl⟩)
    | (go_at_call 23; (with_reducible refine (mul_any a b _).mono ?_); rintro e wn ⟨rfl, n1, rfl⟩)
    | (go_at_call 24; (with_reducible refine (Ref01.mul_any a b _).mono ?_); rintro e w2 ⟨rfl, hb2⟩)
    | (go_at_call 25; (with_reducible refine (up_any a b _).mono ?_); rintro e wn ⟨rfl, rfl⟩)
    | (go_at_call 26; (with_reducible refine (Ref01.up_any a b _).mono ?_); rintro e wn ⟨rfl, rfl⟩)
    | (go_at_call 27; (with_reducible refine (right_any a _).mono ?_); rintro e wn ⟨rfl, rfl⟩)
    | (go_at_call 13; (with_reducible refine (Ref01.near_any a _).mono ?_); rintro e wn ⟨rfl, rfl⟩))
  go_ret
  have hb3 := Cls.below_drewN' hb1 n1
  exact ⟨by simp, hb3.trans (hb2.mono hb3.size)⟩
end Go.Proofs.Ytpmjjnnjkaennaa.Law01
