/- The laws of ticks (chapter 01): TickUps, TickBack. Conditions: the numbers are of their kinds. -/
import Derived.Test.YtpmjjnnjkaennaaTickB
namespace Go.Proofs.Ytpmjjnnjkaennaa.Law01
open Go.RowKit Tick
set_option maxRecDepth 100000
set_option linter.unusedVariables false
set_option linter.unusedSimpArgs false

theorem right_of {n : Int} (h : rightB n = true) : 0 ≤ n ∧ n ≤ 1099511627776 := by
  unfold rightB at h; simpa using h

theorem up_div {a b : Int} (ha : 0 < a ∧ a ≤ 1099511627776) (hb : 1 ≤ b ∧ b ≤ 1099511627776) : up a b = (a + b - 1) / b := by
  unfold up
  rw [nr_in (by omega) ha.2, nr_in (by omega) hb.2, if_neg (by omega), if_neg (by omega)]
theorem up_le {a r d : Int} (ha : 0 < a ∧ a ≤ 1099511627776) (hr : 1 ≤ r ∧ r ≤ 1099511627776) : up a r ≤ d ↔ a ≤ r * d := by
  rw [up_div ha hr]
  constructor
  · intro h
    have h1 : (a + r - 1) / r < d + 1 := by omega
    have h2 := (Int.ediv_lt_iff_lt_mul (by omega : 0 < r)).1 h1
    rw [Int.add_mul, Int.one_mul, Int.mul_comm] at h2
    omega
  · intro h
    have h2 : (a + r - 1) / r < d + 1 := (Int.ediv_lt_iff_lt_mul (by omega : 0 < r)).2 (by
      rw [Int.add_mul, Int.one_mul, Int.mul_comm]; omega)
    omega
theorem mul_at {n b : Int} (hn : 0 ≤ n ∧ n ≤ 1099511627776) (hb : 0 ≤ b ∧ b ≤ 1099511627776) : mul n b = if 1099511627776 < b * n then 1099511627776 else b * n := by
  unfold mul
  rw [nr_in hn.1 hn.2, nr_in hb.1 hb.2, Int.mul_comm]

/-- through a number, rounded up, is the least that so many times is not less. -/
theorem ups_plain {a b : Int} (ha : 0 ≤ a ∧ a ≤ 1099511627776) (hb : 1 ≤ b ∧ b ≤ 1099511627776) :
    0 ≤ up a b ∧ up a b ≤ 1099511627776 ∧ a ≤ mul (up a b) b ∧ (up a b = 0 ∨ mul (up a b - 1) b < a) := by
  by_cases h0 : a = 0
  · subst h0
    have e : up 0 b = 0 := by unfold up; rw [if_pos (by decide)]
    rw [e]
    refine ⟨by omega, by omega, ?_, .inl rfl⟩
    rw [mul_at ⟨by omega, by omega⟩ ⟨by omega, hb.2⟩]
    simp
  · have hp : 0 < a ∧ a ≤ 1099511627776 := by omega
    have h1 : 0 ≤ up a b := by rw [up_div hp hb]; exact Int.ediv_nonneg (by omega) (by omega)
    have h2 : up a b ≤ a := (up_le hp hb).2 (by
      have := Int.mul_le_mul_of_nonneg_right hb.1 ha.1
      omega)
    have h3 := (up_le hp hb).1 (Int.le_refl (up a b))
    have h4 : ¬ a ≤ b * (up a b - 1) := fun h => by have := (up_le hp hb).2 h; omega
    refine ⟨h1, by omega, ?_, ?_⟩
    · rw [mul_at ⟨h1, by omega⟩ ⟨by omega, hb.2⟩]
      split <;> omega
    · by_cases h5 : up a b = 0
      · exact .inl h5
      · right
        rw [mul_at ⟨by omega, by omega⟩ ⟨by omega, hb.2⟩]
        split <;> omega

theorem ups_bad (a b : Int) (w : World) (h : rightB a = false ∨ (rightB a = true ∧ rightB b = false) ∨ (rightB a = true ∧ rightB b = true ∧ b = 0)) :
    Calls Try.prog 9 #[.int .i64 a, .int .i64 b] w fun e w' => e = .returned (.bool true) ∧ Below w.heap.size w w' := by
  rcases h with h | ⟨h, h2⟩ | ⟨h, h2, rfl⟩
  all_goals
    try have h2' := Lib.hid h2
    have h' := Lib.hid h
    clear h
    try clear h2
    go_enter Try.func9, Try.ntmps9
    go_wp2_with (first
      | (go_at_call 27; (with_reducible refine (right_any _ _).mono ?_); rintro e wn ⟨rfl, rfl⟩; (first | rw [h'.out] | rw [h2'.out]))
      | (go_at_call 11; (with_reducible refine (alive_any _).mono ?_); rintro e wn ⟨rfl, hbn⟩))
    go_ret
    exact ⟨rfl, hbn⟩

theorem ups_good (a b : Int) (w : World) (h : rightB a = true) (h2 : rightB b = true) (hb0 : (b == 0) = false) :
    Calls Try.prog 9 #[.int .i64 a, .int .i64 b] w fun e w' => e = .returned (.bool true) ∧ Below w.heap.size w w' := by
  have h' := Lib.hid h
  have h2' := Lib.hid h2
  have ba := right_of h
  have bb := right_of h2
  have hb1 : b ≠ 0 := by simpa using hb0
  obtain ⟨p1, p2, p3, p4⟩ := ups_plain ba (b := b) (by omega)
  have q3 : decide (a ≤ mul (up a b) b) = true := decide_eq_true p3
  have p4' := Lib.hid p4
  clear h h2 hb1 p3 p4
  by_cases hz : up a b = 0
  · have hz' : (up a b == 0) = true := by simpa using hz
    clear hz
    go_enter Try.func9, Try.ntmps9
    go_wp2_with (first
      | (go_at_call 27; (with_reducible refine (right_any _ _).mono ?_); rintro e wn ⟨rfl, rfl⟩; (first | rw [h'.out] | rw [h2'.out]))
      | (go_at_call 25; (with_reducible refine (up_any a b _).mono ?_); rintro e wn ⟨rfl, rfl⟩)
      | (go_at_call 23; (with_reducible refine (mul_any (up a b) b _).mono ?_); rintro e wn ⟨rfl, n1, rfl⟩)
      | (go_at_call 11; (with_reducible refine (alive_any _).mono ?_); rintro e wn ⟨rfl, hbn⟩))
    go_ret
    exact ⟨by simp, Cls.below_drewN' hbn _⟩
  · have hz' : (up a b == 0) = false := by simpa using hz
    have q4 : decide (mul (up a b - 1) b < a) = true := decide_eq_true (by rcases p4'.out with h | h; exact absurd h hz; exact h)
    clear hz
    generalize hn : up a b = n at *
    have hn' := Lib.hid hn
    clear hn
    go_enter Try.func9, Try.ntmps9
    go_wp2_with (first
      | (go_at_call 27; (with_reducible refine (right_any _ _).mono ?_); rintro e wn ⟨rfl, rfl⟩; (first | rw [h'.out] | rw [h2'.out]))
      | (go_at_call 25; (with_reducible refine (up_any a b _).mono ?_); rintro e wn ⟨rfl, rfl⟩; rw [hn'.out])
      | (go_at_call 23; (with_reducible refine (mul_any n b _).mono ?_); rintro e wn ⟨rfl, n1, rfl⟩)
      | (go_at_call 23; (with_reducible refine (mul_any (n - 1) b _).mono ?_); rintro e wn ⟨rfl, n2, rfl⟩)
      | (go_at_call 11; (with_reducible refine (alive_any _).mono ?_); rintro e wn ⟨rfl, hbn⟩))
    go_ret
    exact ⟨by simp, Cls.below_drewN' hbn _⟩
theorem ups_any (a b : Int) (w : World) :
    Calls Try.prog 9 #[.int .i64 a, .int .i64 b] w fun e w' => e = .returned (.bool true) ∧ Below w.heap.size w w' := by
  cases h : rightB a with
  | false => exact ups_bad a b w (.inl h)
  | true =>
    cases h2 : rightB b with
    | false => exact ups_bad a b w (.inr (.inl ⟨h, h2⟩))
    | true =>
      by_cases h3 : b = 0
      · exact ups_bad a b w (.inr (.inr ⟨h, h2, h3⟩))
      · exact ups_good a b w h h2 (by simpa using h3)
end Go.Proofs.Ytpmjjnnjkaennaa.Law01
