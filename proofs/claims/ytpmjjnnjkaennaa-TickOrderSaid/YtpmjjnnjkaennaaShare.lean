/- tick.Share in general, the reference's Share, and the laws TickShares, TickOrder (chapter 01). Conditions: the numbers are of their kinds. -/
import Derived.Test.YtpmjjnnjkaennaaDiv
import Derived.Test.YtpmjjnnjkaennaaLaw01C
namespace Go.Proofs.Ytpmjjnnjkaennaa.Tick
open Go.RowKit
set_option maxRecDepth 100000
set_option linter.unusedVariables false
set_option linter.unusedSimpArgs false

theorem wide_big (a b c : Int) (w : World) (hs : 18446744073709551616 ≤ nr a * nr b) (hc : nr a * nr b / 18446744073709551616 < nr c) :
    Calls Try.prog 28 #[.int .i64 a, .int .i64 b, .int .i64 c] w fun e w' => e = .returned (.int .i64 (share a b c)) ∧ ∃ n, w' = w.drewN n := by
  have h1 := nr_bd a
  have h2 := nr_bd b
  have h3 := nr_bd c
  have hpb := prod_bd a b
  have e := Lib.hid (show share a b c = if 1099511627776 < nr a * nr b / nr c then 1099511627776 else nr a * nr b / nr c by
    unfold share
    rw [if_neg (by omega), if_neg (by omega)])
  go_enter Try.func28, Try.ntmps28
  go_wp2_with (go_at_call 33; (with_reducible refine (near_any _ _).mono ?_); rintro e w' ⟨rfl, rfl⟩)
  refine (mul64_any (nr a) (nr b) _ h1.1 (by omega) h2.1 (by omega)).mono ?_
  rintro e w' ⟨rfl, rfl⟩
  generalize nr a * nr b = P at *
  have hq : 0 ≤ P / nr c := Int.ediv_nonneg (by omega) (by omega)
  have hq2 : P / nr c < 18446744073709551616 := (Int.ediv_lt_iff_lt_mul (by omega)).2 (by omega)
  have hPe := Lib.hid (show P / 18446744073709551616 * 18446744073709551616 + P % 18446744073709551616 = P by omega)
  have b1 : 1 ≤ P / 18446744073709551616 := by omega
  have b2 : 0 ≤ P % 18446744073709551616 ∧ P % 18446744073709551616 < 18446744073709551616 := by omega
  have hh : (P / 18446744073709551616 == 0) = false := by simp; omega
  have hd := Lib.hid (fun W => Div.div64_any (P / 18446744073709551616) (P % 18446744073709551616) (nr c) W b1 hc h3.2 b2.1 b2.2)
  have hb3 : P / 18446744073709551616 < 18446744073709551616 := by omega
  generalize P / 18446744073709551616 = hi at *
  generalize P % 18446744073709551616 = lo at *
  clear hs hpb
  go_wp2_with (go_at_call 33; (with_reducible refine (near_any _ _).mono ?_); rintro e w' ⟨rfl, rfl⟩)
  refine (hd.out _).mono ?_
  rintro e w' ⟨⟨rem, rfl⟩, nd, rfl⟩
  rw [hPe.out]
  clear hd hPe
  generalize P / nr c = q at *
  by_cases h : 1099511627776 < q
  · rw [if_pos h] at e
    go_wp2
    go_ret
    exact ⟨by rw [e.out]; rfl, nd, rfl⟩
  · rw [if_neg h] at e
    have h' : q ≤ 1099511627776 := by omega
    go_wp2
    go_ret
    exact ⟨by rw [e.out]; rfl, nd, rfl⟩

theorem share_any (a b c : Int) (w : World) :
    Calls Try.prog 10 #[.int .i64 a, .int .i64 b, .int .i64 c] w fun e w' => e = .returned (.int .i64 (share a b c)) ∧ ∃ n, w' = w.drewN n := by
  have hpb := prod_bd a b
  have h3 := nr_bd c
  have key : ∀ W : World, Calls Try.prog 28 #[.int .i64 a, .int .i64 b, .int .i64 c] W fun e w' => e = .returned (.int .i64 (share a b c)) ∧ ∃ n, w' = W.drewN n := fun W => by
    by_cases h1 : nr a * nr b = 0
    · exact wide_nil a b c W h1
    · by_cases h2 : nr c ≤ nr a * nr b / 18446744073709551616
      · exact wide_top a b c W h1 h2
      · by_cases hs : nr a * nr b < 18446744073709551616
        · exact wide_small a b c W h1 hs (by omega)
        · exact wide_big a b c W (by omega) (by omega)
  have key' := Lib.hid key
  clear hpb key h3
  go_enter Try.func10, Try.ntmps10
  go_wp2_with fail
  refine (key'.out _).mono ?_
  rintro e w' ⟨rfl, nd, rfl⟩
  go_wp2
  go_ret
  exact ⟨rfl, nd, rfl⟩
theorem nr_mono {a c : Int} (h : a ≤ c) : nr a ≤ nr c := by
  unfold nr; split <;> split <;> (try split) <;> (try split) <;> omega
theorem share7 (a c : Int) : share a c 7 = if 1099511627776 < nr a * nr c / 7 then 1099511627776 else nr a * nr c / 7 := by
  have : nr 7 = 7 := by decide
  unfold share
  rw [this, if_neg (show ¬ (7 : Int) = 0 by decide)]
  by_cases h : nr a * nr c = 0
  · rw [if_pos h, h]; rfl
  · rw [if_neg h]
theorem share_part {a b c : Int} (h : nr b ≤ nr c) (hc : nr c ≠ 0) : share a b c ≤ nr a := by
  have h1 := nr_bd a
  have h2 := nr_bd b
  have h3 := nr_bd c
  unfold share
  split
  · omega
  · try rw [if_neg hc]
    have hm := Int.mul_le_mul_of_nonneg_left h h1.1
    have hd : nr a * nr b / nr c ≤ nr a := by
      have := Int.ediv_le_ediv (show 0 < nr c by omega) hm
      rwa [Int.mul_ediv_cancel _ hc] at this
    split <;> omega
end Go.Proofs.Ytpmjjnnjkaennaa.Tick

namespace Go.Proofs.Ytpmjjnnjkaennaa.Ref01
open Go.RowKit Tick
theorem H_prod (a b : Int) : H (C (dig (nr a)) (dig (nr b)) 5) 6 = nr a * nr b := by
  have h1 := nr_bd a
  have h2 := nr_bd b
  have k := (V_carry (dig (nr a)) (dig (nr b))).trans (V_prod _ _ _ _ (dig_sum (nr a) h1.1 h1.2) (dig_sum (nr b) h2.1 h2.2))
  rw [← k]
  generalize C (dig (nr a)) (dig (nr b)) 5 = c
  have : H c 6 = (((((0 * 1048576 + c 5) * 1048576 + c 4) * 1048576 + c 3) * 1048576 + c 2) * 1048576 + c 1) * 1048576 + c 0 := rfl
  rw [this]; unfold V6; omega
theorem thr_share (a b c : Int) (h : nr a * nr b ≠ 0) : thr (C (dig (nr a)) (dig (nr b)) 5) (nr c) = share a b c := by
  unfold thr share
  rw [H_prod, if_neg h]
set_option maxHeartbeats 1000000 in
theorem share_any (a b c : Int) (w : World) :
    Calls Try.prog 12 #[.int .i64 a, .int .i64 b, .int .i64 c] w fun e w' => e = .returned (.int .i64 (share a b c)) ∧ Below w.heap.size w w' := by
  have h1 := nr_bd a
  have h2 := nr_bd b
  have h3 := nr_bd c
  by_cases ha : nr a = 0
  · have e := Lib.hid (show share a b c = 0 from if_pos (by rw [ha, Int.zero_mul]))
    have ha' : (nr a == 0) = true := by simpa using ha
    clear ha
    go_enter Try.func12, Try.ntmps12
    go_wp2_with (go_at_call 13; (with_reducible refine (near_any _ _).mono ?_); rintro e w' ⟨rfl, rfl⟩)
    go_ret
    exact ⟨by rw [e.out]; rfl, Below.refl _ _⟩
  · have ha' : (nr a == 0) = false := by simpa using ha
    by_cases hb : nr b = 0
    · have e := Lib.hid (show share a b c = 0 from if_pos (by rw [hb, Int.mul_zero]))
      have hb' : (nr b == 0) = true := by simpa using hb
      clear ha hb
      go_enter Try.func12, Try.ntmps12
      go_wp2_with (go_at_call 13; (with_reducible refine (near_any _ _).mono ?_); rintro e w' ⟨rfl, rfl⟩)
      go_ret
      exact ⟨by rw [e.out]; rfl, Below.refl _ _⟩
    · have hb' : (nr b == 0) = false := by simpa using hb
      have x1 := dig_bd (nr a) h1.1 h1.2
      have x2 := dig_bd (nr b) h2.1 h2.2
      have hc := C_bd5 (dig (nr a)) (dig (nr b)) x1 x2
      have he := Lib.hid (thr_share a b c (Int.mul_ne_zero ha hb))
      have key : ∀ W, Calls Try.prog 29 #[.agg #[.int .i64 (C (dig (nr a)) (dig (nr b)) 5 0), .int .i64 (C (dig (nr a)) (dig (nr b)) 5 1), .int .i64 (C (dig (nr a)) (dig (nr b)) 5 2), .int .i64 (C (dig (nr a)) (dig (nr b)) 5 3), .int .i64 (C (dig (nr a)) (dig (nr b)) 5 4), .int .i64 (C (dig (nr a)) (dig (nr b)) 5 5)], .int .i64 (nr c)] W fun e w' => e = .returned (.int .i64 (thr (C (dig (nr a)) (dig (nr b)) 5) (nr c))) ∧ Below W.heap.size W w' := fun W => by
        by_cases h0 : nr c = 0
        · rw [h0]; exact through_zero _ W
        · exact through_some _ (nr c) W (fun j => hc 5 j (by omega)) (by omega) h3.2
      have key' := Lib.hid key
      clear key ha hb
      go_enter Try.func12, Try.ntmps12
      go_wp2_with (first
        | (go_at_call 13; (with_reducible refine (near_any _ _).mono ?_); rintro e w' ⟨rfl, rfl⟩)
        | (go_at_call 31; (with_reducible refine (of_any (nr a) _ h1.1 h1.2).mono ?_); rintro e w1 ⟨rfl, hb1⟩))
      refine (of_any (nr b) _ h2.1 h2.2).mono ?_
      rintro e w2 ⟨rfl, hb2⟩
      go_wp2_with fail
      refine (times_any (dig (nr a)) (dig (nr b)) _ x1 x2).mono ?_
      rintro e w3 ⟨rfl, hb3⟩
      go_wp2_with (go_at_call 13; (with_reducible refine (near_any _ _).mono ?_); rintro e w' ⟨rfl, rfl⟩)
      refine (key'.out _).mono ?_
      rintro e w4 ⟨rfl, hb4⟩
      rw [he.out]
      have hb := hb1.trans ((hb2.trans ((hb3.trans (hb4.mono hb3.size)).mono hb2.size)).mono hb1.size)
      go_wp2
      go_ret
      exact ⟨rfl, hb⟩
end Go.Proofs.Ytpmjjnnjkaennaa.Ref01

namespace Go.Proofs.Ytpmjjnnjkaennaa.Law01
open Go.RowKit Tick
theorem shares_any (a b c : Int) (w : World) :
    Calls Try.prog 3 #[.int .i64 a, .int .i64 b, .int .i64 c] w fun e w' => e = .returned (.bool true) ∧ Below w.heap.size w w' := by
  have g : (decide (nr c < nr b) = true) ∨ (decide (nr c < nr b) = false ∧ (nr c == 0) = true) ∨ (decide (nr c < nr b) = false ∧ (nr c == 0) = false ∧ decide (share a b c ≤ nr a) = true) := by
    by_cases h : nr c < nr b
    · exact .inl (decide_eq_true h)
    · by_cases h0 : nr c = 0
      · exact .inr (.inl ⟨decide_eq_false h, by simpa using h0⟩)
      · exact .inr (.inr ⟨decide_eq_false h, by simpa using h0, decide_eq_true (share_part (by omega) h0)⟩)
  rcases g with g1 | ⟨g1, g2⟩ | ⟨g1, g2, g3⟩
  all_goals
    go_enter Try.func3, Try.ntmps3
    go_wp2_with (first
      | (go_at_call 10; (with_reducible refine (share_any a b c _).mono ?_); rintro e wn ⟨rfl, n1, rfl⟩)
      | (go_at_call 11; (with_reducible refine (alive_any _).mono ?_); rintro e w1 ⟨rfl, hb1⟩)
      | (go_at_call 12; (with_reducible refine (Ref01.share_any a b c _).mono ?_); rintro e w2 ⟨rfl, hb2⟩)
      | (go_at_call 13; (with_reducible refine (Ref01.near_any _ _).mono ?_); rintro e wn ⟨rfl, rfl⟩))
    go_ret
    have hb := Below.trans (Cls.below_drewN' (Below.refl _ _) _) (hb1.trans (hb2.mono hb1.size))
    exact ⟨by simp, hb⟩

theorem order_no (a b c : Int) (w : World) (h : decide (b < a) = true) :
    Calls Try.prog 7 #[.int .i64 a, .int .i64 b, .int .i64 c] w fun e w' => e = .returned (.bool true) ∧ Below w.heap.size w w' := by
  go_enter Try.func7, Try.ntmps7
  go_wp2_with (go_at_call 11; (with_reducible refine (alive_any _).mono ?_); rintro e w1 ⟨rfl, hb1⟩)
  go_ret
  exact ⟨by simp, hb1⟩
theorem order_yes (a b c : Int) (w : World) (h : decide (b < a) = false) :
    Calls Try.prog 7 #[.int .i64 a, .int .i64 b, .int .i64 c] w fun e w' => e = .returned (.bool true) ∧ Below w.heap.size w w' := by
  have hab := nr_mono (show a ≤ b from Int.not_lt.1 (of_decide_eq_false h))
  have h1 := nr_bd a
  have h2 := nr_bd b
  have h3 := nr_bd c
  have hm := Int.mul_le_mul_of_nonneg_right hab h3.1
  have k1 : decide (add a c ≤ add b c) = true := decide_eq_true (nr_mono (by omega))
  have k2 : decide (mul a c ≤ mul b c) = true := decide_eq_true (by unfold mul; split <;> split <;> omega)
  have k3 : decide (share a c 7 ≤ share b c 7) = true := decide_eq_true (by rw [share7, share7]; split <;> split <;> omega)
  have k4 : decide (sub a c ≤ sub b c) = true := decide_eq_true (nr_mono (by omega))
  have k5 : decide (sub c b ≤ sub c a) = true := decide_eq_true (nr_mono (by omega))
  have k6 : (add a b == add b a) = true := by unfold add; rw [Int.add_comm]; simp
  have k7 : (mul a b == mul b a) = true := by unfold mul; rw [Int.mul_comm]; simp
  clear hm hab
  go_enter Try.func7, Try.ntmps7
  go_wp2_with (first
    | (go_at_call 11; (with_reducible refine (alive_any _).mono ?_); rintro e w1 ⟨rfl, hb1⟩)
    | (go_at_call 19; (with_reducible refine (add_any _ _ _).mono ?_); rintro e wn ⟨rfl, rfl⟩)
    | (go_at_call 21; (with_reducible refine (sub_any _ _ _).mono ?_); rintro e wn ⟨rfl, rfl⟩)
    | (go_at_call 23; (with_reducible refine (mul_any _ _ _).mono ?_); rintro e wn ⟨rfl, nm, rfl⟩)
    | (go_at_call 10; (with_reducible refine (share_any _ _ _ _).mono ?_); rintro e wn ⟨rfl, ns, rfl⟩))
  go_ret
  exact ⟨by simp, Cls.below_drewN' hb1 _⟩
theorem order_any (a b c : Int) (w : World) :
    Calls Try.prog 7 #[.int .i64 a, .int .i64 b, .int .i64 c] w fun e w' => e = .returned (.bool true) ∧ Below w.heap.size w w' := by
  cases h : decide (b < a) with
  | true => exact order_no a b c w h
  | false => exact order_yes a b c w h
end Go.Proofs.Ytpmjjnnjkaennaa.Law01
