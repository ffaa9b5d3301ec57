/- The law TickBack (chapter 01). Conditions: the numbers are of their kinds. -/
import Derived.Test.YtpmjjnnjkaennaaLaw01
namespace Go.Proofs.Ytpmjjnnjkaennaa.Law01
open Go.RowKit Tick
set_option maxRecDepth 100000
set_option linter.unusedVariables false
set_option linter.unusedSimpArgs false

theorem back_bad (a b : Int) (w : World) (h : rightB a = false ∨ (rightB a = true ∧ rightB b = false)) :
    Calls Try.prog 8 #[.int .i64 a, .int .i64 b] w fun e w' => e = .returned (.bool true) ∧ Below w.heap.size w w' := by
  rcases h with h | ⟨h, h2⟩
  all_goals
    try have h2' := Lib.hid h2
    have h' := Lib.hid h
    clear h
    try clear h2
    go_enter Try.func8, Try.ntmps8
    go_wp2_with (first
      | (go_at_call 27; (with_reducible refine (right_any _ _).mono ?_); rintro e wn ⟨rfl, rfl⟩; (first | rw [h'.out] | rw [h2'.out]))
      | (go_at_call 11; (with_reducible refine (alive_any _).mono ?_); rintro e wn ⟨rfl, hbn⟩))
    go_ret
    exact ⟨rfl, hbn⟩

/-- what is added and taken away, multiplied and through the number again, is as it was, if there was room. -/
theorem back_plain {a b : Int} (ha : 0 ≤ a ∧ a ≤ 1099511627776) (hb : 0 ≤ b ∧ b ≤ 1099511627776) :
    (1099511627776 < a + b ∨ sub (add a b) b = a) ∧ (b = 0 ∨ mul a b = 1099511627776 ∨ (up (mul a b) b = a ∧ share (mul a b) 1 b = a)) ∧ (0 ≤ mul a b ∧ mul a b ≤ 1099511627776) := by
  have hp : 0 ≤ a * b := Int.mul_nonneg ha.1 hb.1
  have hm : mul a b = if 1099511627776 < a * b then 1099511627776 else a * b := by unfold mul; rw [nr_in ha.1 ha.2, nr_in hb.1 hb.2]
  refine ⟨?_, ?_, by rw [hm]; split <;> omega⟩
  · by_cases h : 1099511627776 < a + b
    · exact .inl h
    · right
      unfold sub add
      rw [nr_in ha.1 ha.2, nr_in hb.1 hb.2, nr_in (n := a + b) (by omega) (by omega), nr_in (n := a + b) (by omega) (by omega), nr_in (by omega) (by omega)]
      omega
  · by_cases h0 : b = 0
    · exact .inl h0
    · right
      by_cases h : 1099511627776 < a * b
      · left; rw [hm, if_pos h]
      · right
        rw [hm, if_neg h]
        have hd : a * b / b = a := Int.mul_ediv_cancel a h0
        refine ⟨?_, ?_⟩
        · unfold up
          rw [nr_in hp (by omega), nr_in hb.1 hb.2]
          by_cases hz : a * b = 0
          · rw [if_pos hz]
            rw [hz] at hd
            simpa using hd
          · rw [if_neg hz, if_neg h0, show a * b + b - 1 = (b - 1) + a * b by omega, Int.add_mul_ediv_right _ _ h0, Int.ediv_eq_zero_of_lt (by omega) (by omega)]
            omega
        · unfold share
          rw [nr_in hp (by omega), nr_in hb.1 hb.2, show nr 1 = 1 by decide, Int.mul_one, if_neg h0, hd]
          by_cases hz : a * b = 0
          · rw [if_pos hz]
            rw [hz] at hd
            simpa using hd
          · rw [if_neg hz, if_neg (by omega)]

theorem back_good (a b : Int) (w : World) (h : rightB a = true) (h2 : rightB b = true) :
    Calls Try.prog 8 #[.int .i64 a, .int .i64 b] w fun e w' => e = .returned (.bool true) ∧ Below w.heap.size w w' := by
  have h' := Lib.hid h
  have h2' := Lib.hid h2
  have ba := right_of h
  have bb := right_of h2
  obtain ⟨p1, p2, p3⟩ := back_plain ba bb
  have hlow : nr (mul a b) * nr 1 < 18446744073709551616 := by
    rw [nr_in p3.1 p3.2, show nr 1 = 1 by decide]; omega
  have g1 : (decide (1099511627776 < a + b) = true) ∨ (decide (1099511627776 < a + b) = false ∧ (sub (add a b) b == a) = true) := by
    by_cases h : 1099511627776 < a + b
    · exact .inl (decide_eq_true h)
    · exact .inr ⟨decide_eq_false h, by rcases p1 with h1 | h1; exact absurd h1 h; simpa using h1⟩
  have g2 : ((b == 0) = true) ∨ ((b == 0) = false ∧ (mul a b == 1099511627776) = true) ∨ ((b == 0) = false ∧ (mul a b == 1099511627776) = false ∧ (up (mul a b) b == a) = true ∧ (share (mul a b) 1 b == a) = true) := by
    by_cases h : b = 0
    · exact .inl (by simpa using h)
    · by_cases h5 : mul a b = 1099511627776
      · exact .inr (.inl ⟨by simpa using h, by simpa using h5⟩)
      · right; right
        rcases p2 with h1 | h1 | h1
        · exact absurd h1 h
        · exact absurd h1 h5
        · exact ⟨by simpa using h, by simpa using h5, by simpa using h1.1, by simpa using h1.2⟩
  clear h h2 p1 p2
  generalize hm : mul a b = m at *
  have hm' := Lib.hid hm
  generalize hs : add a b = s at *
  have hs' := Lib.hid hs
  have hl' := Lib.hid hlow
  clear hm hs hlow
  rcases g1 with g1 | ⟨g1, g3⟩ <;> rcases g2 with g2 | ⟨g2, g4⟩ | ⟨g2, g4, g5, g6⟩
  all_goals
    go_enter Try.func8, Try.ntmps8
    go_wp2_with (first
      | (go_at_call 27; (with_reducible refine (right_any _ _).mono ?_); rintro e wn ⟨rfl, rfl⟩; (first | rw [h'.out] | rw [h2'.out]))
      | (go_at_call 19; (with_reducible refine (add_any a b _).mono ?_); rintro e wn ⟨rfl, rfl⟩; rw [hs'.out])
      | (go_at_call 23; (with_reducible refine (mul_any a b _).mono ?_); rintro e wn ⟨rfl, n1, rfl⟩; rw [hm'.out])
      | (go_at_call 21; (with_reducible refine (sub_any s b _).mono ?_); rintro e wn ⟨rfl, rfl⟩)
      | (go_at_call 25; (with_reducible refine (up_any m b _).mono ?_); rintro e wn ⟨rfl, rfl⟩)
      | (go_at_call 10; (with_reducible refine (share_low m 1 b _ hl'.out).mono ?_); rintro e wn ⟨rfl, n2, rfl⟩)
      | (go_at_call 11; (with_reducible refine (alive_any _).mono ?_); rintro e wn ⟨rfl, hbn⟩))
    go_ret
    first
      | exact ⟨by simp, hbn⟩
      | exact ⟨by simp, Below.trans (Cls.below_drewN' (Below.refl _ _) _) hbn⟩
      | exact ⟨by simp, Cls.below_drewN' (Below.trans (Cls.below_drewN' (Below.refl _ _) _) hbn) _⟩
theorem back_any (a b : Int) (w : World) :
    Calls Try.prog 8 #[.int .i64 a, .int .i64 b] w fun e w' => e = .returned (.bool true) ∧ Below w.heap.size w w' := by
  cases h : rightB a with
  | false => exact back_bad a b w (.inl h)
  | true =>
    cases h2 : rightB b with
    | false => exact back_bad a b w (.inr ⟨h, h2⟩)
    | true => exact back_good a b w h h2
end Go.Proofs.Ytpmjjnnjkaennaa.Law01
