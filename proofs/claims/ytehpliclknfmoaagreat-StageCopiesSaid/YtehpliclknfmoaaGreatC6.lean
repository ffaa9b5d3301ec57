/- The program's ticks (chapter 01) but for texts: each function's contract. Conditions: the numbers are of their kinds. -/
import Derived.Test.YtehpliclknfmoaaGreatProg
import Derived.WalkKit
import Derived.KernelRfl
import Derived.RowKit3
import Derived.Deep.Draws
import Derived.Deep.QuietTactic
import Derived.BigQuiet
import Derived.Deep.LoopGhost
import Derived.Lib.Hide
import Derived.Test.YtehpliclknfmoaaGreatC2
import Derived.Test.YtehpliclknfmoaaGreatC1
import Derived.BigRegion
namespace Go.Proofs.YtehpliclknfmoaaGreat.Tick
open Go.RowKit
set_option maxRecDepth 100000
set_option linter.unusedVariables false
set_option linter.unusedSimpArgs false

def nr (n : Int) : Int := if n < 0 then 0 else if 1099511627776 < n then 1099511627776 else n
theorem nr_bd (n : Int) : 0 ≤ nr n ∧ nr n ≤ 1099511627776 := by unfold nr; split <;> (try split) <;> omega
theorem nr_low {n : Int} (h : n < 0) : nr n = 0 := if_pos h
theorem nr_top {n : Int} (h : 1099511627776 < n) : nr n = 1099511627776 := by unfold nr; rw [if_neg (by omega), if_pos h]
theorem nr_in {n : Int} (h : 0 ≤ n) (h1 : n ≤ 1099511627776) : nr n = n := by unfold nr; rw [if_neg (by omega), if_neg (by omega)]

theorem near_any (n : Int) (w : World) :
    Calls Tryz.prog 39 #[.int .i64 n] w fun e w' => e = .returned (.int .i64 (nr n)) ∧ w = w' := by
  by_cases h1 : n < 0
  · have e := Lib.hid (nr_low h1)
    go_enter Tryz.func39, Tryz.ntmps39
    go_wp2
    go_ret
    exact ⟨by rw [e.out]; rfl, rfl⟩
  · by_cases h2 : 1099511627776 < n
    · have e := Lib.hid (nr_top h2)
      go_enter Tryz.func39, Tryz.ntmps39
      go_wp2
      go_ret
      exact ⟨by rw [e.out]; rfl, rfl⟩
    · have h3 : 0 ≤ n := by omega
      have h4 : n ≤ 1099511627776 := by omega
      have e := Lib.hid (nr_in h3 h4)
      clear h1 h2
      go_enter Tryz.func39, Tryz.ntmps39
      go_wp2
      go_ret
      exact ⟨by rw [e.out]; rfl, rfl⟩

def rightB (n : Int) : Bool := decide (0 ≤ n ∧ n ≤ 1099511627776)
theorem right_any (n : Int) (w : World) :
    Calls Tryz.prog 64 #[.int .i64 n] w fun e w' => e = .returned (.bool (rightB n)) ∧ w = w' := by
  by_cases h0 : 0 ≤ n
  · have d := Lib.hid (show rightB n = decide (n ≤ 1099511627776) by simp [rightB, h0])
    go_enter Tryz.func64, Tryz.ntmps64
    go_wp2
    go_ret
    exact ⟨by rw [d.out]; rfl, rfl⟩
  · have d := Lib.hid (show rightB n = false by simp [rightB, h0])
    have h1 : decide (0 ≤ n) = false := decide_eq_false h0
    go_enter Tryz.func64, Tryz.ntmps64
    go_wp2
    all_goals
      go_ret
      exact ⟨by rw [d.out]; rfl, rfl⟩

def add (a b : Int) : Int := nr (nr a + nr b)
theorem add_any (a b : Int) (w : World) :
    Calls Tryz.prog 14 #[.int .i64 a, .int .i64 b] w fun e w' => e = .returned (.int .i64 (add a b)) ∧ w = w' := by
  have h1 := nr_bd a
  have h2 := nr_bd b
  go_enter Tryz.func14, Tryz.ntmps14
  go_wp2_with (go_at_call 39; (with_reducible refine (near_any _ _).mono ?_); rintro e w' ⟨rfl, rfl⟩)
  go_ret
  exact ⟨rfl, rfl⟩


theorem prod_bd (a b : Int) : 0 ≤ nr a * nr b ∧ nr a * nr b ≤ 1208925819614629174706176 := by
  have h1 := nr_bd a
  have h2 := nr_bd b
  refine ⟨Int.mul_nonneg h1.1 h2.1, ?_⟩
  have : nr a * nr b ≤ 1099511627776 * 1099511627776 := Int.mul_le_mul h1.2 h2.2 h2.1 (by decide)
  omega

set_option maxHeartbeats 1000000 in
theorem mul64_any (a b : Int) (w : World) (h0 : 0 ≤ a) (h1 : a < 18446744073709551616) (g0 : 0 ≤ b) (g1 : b < 18446744073709551616) :
    Calls Tryz.prog 95 #[.int .u64 a, .int .u64 b] w fun e w' => e = .returned (.tuple #[.int .u64 (a * b / 18446744073709551616), .int .u64 (a * b % 18446744073709551616)]) ∧ w = w' := by
  have hm := Lib.hid (Mix.mul_model a b h0 h1 g0 g1)
  have hw := Lib.hid (IntKind.wrap_u64 (a * b))
  go_enter Tryz.func95, Tryz.ntmps95
  go_wp2
  go_ret2
  exact ⟨by rw [← hm.out, ← hw.out]; rfl, rfl⟩

theorem div64_zero (lo y : Int) (w : World) (h0 : 0 ≤ lo) (h1 : lo < 18446744073709551616) (g0 : 1 ≤ y) (g1 : y < 18446744073709551616) :
    Calls Tryz.prog 103 #[.int .u64 0, .int .u64 lo, .int .u64 y] w fun e w' => e = .returned (.tuple #[.int .u64 (lo / y), .int .u64 (lo % y)]) ∧ ∃ n, w' = w.drewN n := by
  have hy : (y == 0) = false := by simp; omega
  go_enter Tryz.func103, Tryz.ntmps103
  go_wp2
  go_quiet (fail)
  go_wp2
  go_ret2
  exact ⟨rfl, nq, rfl⟩

def share (a b c : Int) : Int := if nr a * nr b = 0 then 0 else if nr c = 0 then 1099511627776 else if 1099511627776 < nr a * nr b / nr c then 1099511627776 else nr a * nr b / nr c

theorem wide_nil (a b c : Int) (w : World) (hp : nr a * nr b = 0) :
    Calls Tryz.prog 102 #[.int .i64 a, .int .i64 b, .int .i64 c] w fun e w' => e = .returned (.int .i64 (share a b c)) ∧ ∃ n, w' = w.drewN n := by
  have h1 := nr_bd a
  have h2 := nr_bd b
  have h3 := nr_bd c
  have e := Lib.hid (show share a b c = 0 from if_pos hp)
  have hp' := Lib.hid hp
  clear hp
  go_enter Tryz.func102, Tryz.ntmps102
  go_wp2_with (go_at_call 39; (with_reducible refine (near_any _ _).mono ?_); rintro e w' ⟨rfl, rfl⟩)
  refine (mul64_any (nr a) (nr b) _ h1.1 (by omega) h2.1 (by omega)).mono ?_
  rintro e w' ⟨rfl, rfl⟩
  rw [hp'.out]
  go_wp2_with (go_at_call 39; (with_reducible refine (near_any _ _).mono ?_); rintro e w' ⟨rfl, rfl⟩)
  go_ret
  exact ⟨by rw [e.out]; rfl, 0, rfl⟩

theorem wide_top (a b c : Int) (w : World) (hp : nr a * nr b ≠ 0) (hc : nr c ≤ nr a * nr b / 18446744073709551616) :
    Calls Tryz.prog 102 #[.int .i64 a, .int .i64 b, .int .i64 c] w fun e w' => e = .returned (.int .i64 (share a b c)) ∧ ∃ n, w' = w.drewN n := by
  have h1 := nr_bd a
  have h2 := nr_bd b
  have h3 := nr_bd c
  have hpb := prod_bd a b
  have e := Lib.hid (show share a b c = 1099511627776 by
    unfold share
    rw [if_neg hp]
    by_cases h0 : nr c = 0
    · rw [if_pos h0]
    · rw [if_neg h0, if_pos]
      have hm : 18446744073709551616 * nr c ≤ nr a * nr b := by omega
      have : 18446744073709551616 ≤ nr a * nr b / nr c := (Int.le_ediv_iff_mul_le (by omega)).2 hm
      omega)
  go_enter Tryz.func102, Tryz.ntmps102
  go_wp2_with (go_at_call 39; (with_reducible refine (near_any _ _).mono ?_); rintro e w' ⟨rfl, rfl⟩)
  refine (mul64_any (nr a) (nr b) _ h1.1 (by omega) h2.1 (by omega)).mono ?_
  rintro e w' ⟨rfl, rfl⟩
  generalize nr a * nr b = P at *
  by_cases hz : (P / 18446744073709551616 == 0) = true
  · have hz2 : P / 18446744073709551616 = 0 := by simpa using hz
    have hl : (P % 18446744073709551616 == 0) = false := by simp; omega
    have hz3 : nr c ≤ 0 := by omega
    clear hz2 hp
    go_wp2_with (go_at_call 39; (with_reducible refine (near_any _ _).mono ?_); rintro e w' ⟨rfl, rfl⟩)
    go_ret
    exact ⟨by rw [e.out]; rfl, 0, rfl⟩
  · have hz1 : (P / 18446744073709551616 == 0) = false := by simpa using hz
    clear hz hp
    go_wp2_with (go_at_call 39; (with_reducible refine (near_any _ _).mono ?_); rintro e w' ⟨rfl, rfl⟩)
    go_ret
    exact ⟨by rw [e.out]; rfl, 0, rfl⟩

theorem wide_small (a b c : Int) (w : World) (hp : nr a * nr b ≠ 0) (hs : nr a * nr b < 18446744073709551616) (hc : 1 ≤ nr c) :
    Calls Tryz.prog 102 #[.int .i64 a, .int .i64 b, .int .i64 c] w fun e w' => e = .returned (.int .i64 (share a b c)) ∧ ∃ n, w' = w.drewN n := by
  have h1 := nr_bd a
  have h2 := nr_bd b
  have h3 := nr_bd c
  have hpb := prod_bd a b
  have e := Lib.hid (show share a b c = if 1099511627776 < nr a * nr b / nr c then 1099511627776 else nr a * nr b / nr c by
    unfold share
    rw [if_neg hp, if_neg (by omega)])
  go_enter Tryz.func102, Tryz.ntmps102
  go_wp2_with (go_at_call 39; (with_reducible refine (near_any _ _).mono ?_); rintro e w' ⟨rfl, rfl⟩)
  refine (mul64_any (nr a) (nr b) _ h1.1 (by omega) h2.1 (by omega)).mono ?_
  rintro e w' ⟨rfl, rfl⟩
  generalize nr a * nr b = P at *
  rw [show P / 18446744073709551616 = 0 by omega, show P % 18446744073709551616 = P by omega]
  have hl : (P == 0) = false := by simp; omega
  have hq : 0 ≤ P / nr c := Int.ediv_nonneg (by omega) (by omega)
  have hq2 : P / nr c ≤ P := Int.ediv_le_self _ (by omega)
  clear hp
  go_wp2_with (go_at_call 39; (with_reducible refine (near_any _ _).mono ?_); rintro e w' ⟨rfl, rfl⟩)
  refine (div64_zero P (nr c) _ (by omega) (by omega) hc (by omega)).mono ?_
  rintro e w' ⟨rfl, nd, rfl⟩
  generalize P / nr c = q at *
  by_cases h : 1099511627776 < q
  · rw [if_pos h] at e
    go_wp2
    go_ret
    exact ⟨by rw [e.out]; rfl, nd, rfl⟩
  · rw [if_neg h] at e
    have h' : q ≤ 1099511627776 := by omega
    go_wp2
    go_ret
    exact ⟨by rw [e.out]; rfl, nd, rfl⟩

def mul (a b : Int) : Int := if 1099511627776 < nr a * nr b then 1099511627776 else nr a * nr b
theorem share_one (a b : Int) : share a b 1 = mul a b := by
  have : nr 1 = 1 := by decide
  unfold share mul
  rw [this, Int.ediv_one]
  by_cases h : nr a * nr b = 0
  · rw [if_pos h, if_neg (by omega), h]
  · rw [if_neg h, if_neg (by omega)]

theorem mul_any (a b : Int) (w : World) :
    Calls Tryz.prog 97 #[.int .i64 a, .int .i64 b] w fun e w' => e = .returned (.int .i64 (mul a b)) ∧ ∃ n, w' = w.drewN n := by
  have hn : nr 1 = 1 := by decide
  have hpb := prod_bd a b
  have key : ∀ W : World, Calls Tryz.prog 102 #[.int .i64 a, .int .i64 b, .int .i64 1] W fun e w' => e = .returned (.int .i64 (share a b 1)) ∧ ∃ n, w' = W.drewN n := fun W => by
    by_cases h1 : nr a * nr b = 0
    · exact wide_nil a b 1 W h1
    · by_cases h2 : nr a * nr b < 18446744073709551616
      · exact wide_small a b 1 W h1 h2 (by omega)
      · exact wide_top a b 1 W h1 (by omega)
  have key' := Lib.hid key
  have e1 := Lib.hid (share_one a b)
  clear hpb hn key
  go_enter Tryz.func97, Tryz.ntmps97
  go_wp2_with fail
  refine (key'.out _).mono ?_
  rintro e w' ⟨rfl, nd, rfl⟩
  rw [e1.out]
  go_wp2
  go_ret
  exact ⟨rfl, nd, rfl⟩

end Go.Proofs.YtehpliclknfmoaaGreat.Tick
namespace Go.Proofs.YtehpliclknfmoaaGreat.Ref01
open Go.RowKit Tick
set_option maxRecDepth 100000
set_option linter.unusedVariables false
set_option linter.unusedSimpArgs false

theorem top_any (w : World) : Calls Tryz.prog 43 #[] w fun e w' => e = .returned (.int .i64 1099511627776) ∧ w = w' := by
  go_enter Tryz.func43, Tryz.ntmps43
  go_wp2
  go_ret
  exact ⟨rfl, rfl⟩

theorem near_any (n : Int) (w : World) :
    Calls Tryz.prog 19 #[.int .i64 n] w fun e w' => e = .returned (.int .i64 (nr n)) ∧ w = w' := by
  by_cases h1 : n < 0
  · have e := Lib.hid (nr_low h1)
    go_enter Tryz.func19, Tryz.ntmps19
    go_wp2
    go_ret
    exact ⟨by rw [e.out]; rfl, rfl⟩
  · by_cases h2 : 1099511627776 < n
    · have e := Lib.hid (nr_top h2)
      go_enter Tryz.func19, Tryz.ntmps19
      go_wp2_with (go_at_call 43; (with_reducible refine (top_any _).mono ?_); rintro e w' ⟨rfl, rfl⟩)
      go_ret
      exact ⟨by rw [e.out]; rfl, rfl⟩
    · have h3 : 0 ≤ n := by omega
      have h4 : n ≤ 1099511627776 := by omega
      have e := Lib.hid (nr_in h3 h4)
      clear h1 h2
      go_enter Tryz.func19, Tryz.ntmps19
      go_wp2_with (go_at_call 43; (with_reducible refine (top_any _).mono ?_); rintro e w' ⟨rfl, rfl⟩)
      go_ret
      exact ⟨by rw [e.out]; rfl, rfl⟩

theorem add_any (a b : Int) (w : World) :
    Calls Tryz.prog 53 #[.int .i64 a, .int .i64 b] w fun e w' => e = .returned (.int .i64 (add a b)) ∧ w = w' := by
  have h1 := nr_bd a
  have h2 := nr_bd b
  go_enter Tryz.func53, Tryz.ntmps53
  go_wp2_with (go_at_call 19; (with_reducible refine (near_any _ _).mono ?_); rintro e w' ⟨rfl, rfl⟩)
  go_ret
  exact ⟨rfl, rfl⟩

def dig (n : Int) : Nat → Int
  | 0 => n % 1048576
  | 1 => n / 1048576 % 1048576
  | 2 => n / 1099511627776
  | _ => 0
theorem dig_bd (n : Int) (h0 : 0 ≤ n) (h1 : n ≤ 1099511627776) (j : Nat) : 0 ≤ dig n j ∧ dig n j ≤ 1048575 := by
  unfold dig; split <;> omega
theorem dig_sum (n : Int) (h0 : 0 ≤ n) (h1 : n ≤ 1099511627776) : dig n 0 + dig n 1 * 1048576 + dig n 2 * 1099511627776 = n := by
  simp only [dig]; omega

theorem of_any (n : Int) (w : World) (h0 : 0 ≤ n) (h1 : n ≤ 1099511627776) :
    Calls Tryz.prog 100 #[.int .i64 n] w fun e w' => e = .returned (.agg #[.int .i64 (dig n 0), .int .i64 (dig n 1), .int .i64 (dig n 2), .int .i64 (dig n 3)]) ∧ Below w.heap.size w w' := by
  go_enter Tryz.func100, Tryz.ntmps100
  go_wp2
  refine bodyPost_ret (v := .agg #[.int .i64 (n % 1048576), .int .i64 (n / 1048576 % 1048576), .int .i64 (n / 1099511627776), .int .i64 0]) (by simp [results, Tryz.results100, go_sem]) rfl ⟨rfl, (Below.refl _ _).alloc (Nat.le_refl _) _⟩

def O (x y : Nat → Int) : Nat → Nat → Int
  | 0, _ => 0
  | n + 1, j => if j = n / 3 + n % 3 then O x y n j + x (n / 3) * y (n % 3) else O x y n j
def C (x y : Nat → Int) : Nat → Nat → Int
  | 0, j => O x y 9 j
  | n + 1, j => if j = n then C x y n n % 1048576 else if j = n + 1 then C x y n (n + 1) + C x y n n / 1048576 else C x y n j
theorem mul_bd {x y : Int} (a : 0 ≤ x ∧ x ≤ 1048575) (b : 0 ≤ y ∧ y ≤ 1048575) : 0 ≤ x * y ∧ x * y ≤ 1099509530625 := by
  refine ⟨Int.mul_nonneg a.1 b.1, ?_⟩
  have : x * y ≤ 1048575 * 1048575 := Int.mul_le_mul a.2 b.2 b.1 (by decide)
  omega
theorem O_bd (x y : Nat → Int) (hx : ∀ j, 0 ≤ x j ∧ x j ≤ 1048575) (hy : ∀ j, 0 ≤ y j ∧ y j ≤ 1048575) : ∀ n j, 0 ≤ O x y n j ∧ O x y n j ≤ (n : Int) * 1099509530625
  | 0, _ => by simp [O]
  | n + 1, j => by
    have ih := O_bd x y hx hy n j
    have hm := mul_bd (hx (n / 3)) (hy (n % 3))
    unfold O
    split <;> omega
theorem O_bd9 (x y : Nat → Int) (hx : ∀ j, 0 ≤ x j ∧ x j ≤ 1048575) (hy : ∀ j, 0 ≤ y j ∧ y j ≤ 1048575) (n j : Nat) (h : n ≤ 9) : 0 ≤ O x y n j ∧ O x y n j ≤ 9895585775625 := by
  have := O_bd x y hx hy n j
  omega
theorem C_bd (x y : Nat → Int) (hx : ∀ j, 0 ≤ x j ∧ x j ≤ 1048575) (hy : ∀ j, 0 ≤ y j ∧ y j ≤ 1048575) : ∀ n, n ≤ 5 → ∀ j, 0 ≤ C x y n j ∧ C x y n j ≤ 9895585775625 + (n : Int) * 10000000
  | 0, _, j => by have := O_bd9 x y hx hy 9 j (by omega); unfold C; omega
  | n + 1, hn, j => by
    have ih := C_bd x y hx hy n (by omega)
    have h1 := ih j
    have h2 := ih n
    have h3 := ih (n + 1)
    unfold C
    split
    · omega
    · split
      · omega
      · omega
theorem C_bd5 (x y : Nat → Int) (hx : ∀ j, 0 ≤ x j ∧ x j ≤ 1048575) (hy : ∀ j, 0 ≤ y j ∧ y j ≤ 1048575) (n j : Nat) (hn : n ≤ 5) : 0 ≤ C x y n j ∧ C x y n j ≤ 9895635775625 := by
  have := C_bd x y hx hy n hn j
  omega
def V6 (d : Nat → Int) : Int := d 0 + d 1 * 1048576 + d 2 * 1099511627776 + d 3 * 1152921504606846976 + d 4 * 1208925819614629174706176 + d 5 * 1267650600228229401496703205376
theorem V_carry (x y : Nat → Int) : V6 (C x y 5) = V6 (O x y 9) := by
  have s1 : V6 (C x y 1) = V6 (C x y 0) := by
    have h : V6 (C x y 1) = (C x y 0 0 % 1048576) + (C x y 0 1 + C x y 0 0 / 1048576) * 1048576 + C x y 0 2 * 1099511627776 + C x y 0 3 * 1152921504606846976 + C x y 0 4 * 1208925819614629174706176 + C x y 0 5 * 1267650600228229401496703205376 := rfl
    rw [h]; unfold V6; omega
  have s2 : V6 (C x y 2) = V6 (C x y 1) := by
    have h : V6 (C x y 2) = C x y 1 0 + (C x y 1 1 % 1048576) * 1048576 + (C x y 1 2 + C x y 1 1 / 1048576) * 1099511627776 + C x y 1 3 * 1152921504606846976 + C x y 1 4 * 1208925819614629174706176 + C x y 1 5 * 1267650600228229401496703205376 := rfl
    rw [h]; unfold V6; omega
  have s3 : V6 (C x y 3) = V6 (C x y 2) := by
    have h : V6 (C x y 3) = C x y 2 0 + C x y 2 1 * 1048576 + (C x y 2 2 % 1048576) * 1099511627776 + (C x y 2 3 + C x y 2 2 / 1048576) * 1152921504606846976 + C x y 2 4 * 1208925819614629174706176 + C x y 2 5 * 1267650600228229401496703205376 := rfl
    rw [h]; unfold V6; omega
  have s4 : V6 (C x y 4) = V6 (C x y 3) := by
    have h : V6 (C x y 4) = C x y 3 0 + C x y 3 1 * 1048576 + C x y 3 2 * 1099511627776 + (C x y 3 3 % 1048576) * 1152921504606846976 + (C x y 3 4 + C x y 3 3 / 1048576) * 1208925819614629174706176 + C x y 3 5 * 1267650600228229401496703205376 := rfl
    rw [h]; unfold V6; omega
  have s5 : V6 (C x y 5) = V6 (C x y 4) := by
    have h : V6 (C x y 5) = C x y 4 0 + C x y 4 1 * 1048576 + C x y 4 2 * 1099511627776 + C x y 4 3 * 1152921504606846976 + (C x y 4 4 % 1048576) * 1208925819614629174706176 + (C x y 4 5 + C x y 4 4 / 1048576) * 1267650600228229401496703205376 := rfl
    rw [h]; unfold V6; omega
  have s0 : V6 (C x y 0) = V6 (O x y 9) := rfl
  rw [s5, s4, s3, s2, s1, s0]
theorem V_prod (x y : Nat → Int) (X Y : Int) (hX : x 0 + x 1 * 1048576 + x 2 * 1099511627776 = X) (hY : y 0 + y 1 * 1048576 + y 2 * 1099511627776 = Y) : V6 (O x y 9) = X * Y := by
  have r : ∀ c : Int, c * (y 0 + y 1 * 1048576 + y 2 * 1099511627776) = c * y 0 + c * y 1 * 1048576 + c * y 2 * 1099511627776 := fun c => by
    simp only [Int.mul_add, ← Int.mul_assoc]
  have q : ∀ Z : Int, (x 0 + x 1 * 1048576 + x 2 * 1099511627776) * Z = x 0 * Z + x 1 * Z * 1048576 + x 2 * Z * 1099511627776 := fun Z => by
    rw [Int.add_mul, Int.add_mul, Int.mul_right_comm (x 1), Int.mul_right_comm (x 2)]
  rw [← hX, ← hY, q, r, r, r]
  have e0 : O x y 9 0 = 0 + x 0 * y 0 := rfl
  have e1 : O x y 9 1 = 0 + x 0 * y 1 + x 1 * y 0 := rfl
  have e2 : O x y 9 2 = 0 + x 0 * y 2 + x 1 * y 1 + x 2 * y 0 := rfl
  have e3 : O x y 9 3 = 0 + x 1 * y 2 + x 2 * y 1 := rfl
  have e4 : O x y 9 4 = 0 + x 2 * y 2 := rfl
  have e5 : O x y 9 5 = 0 := rfl
  simp only [V6, e0, e1, e2, e3, e4, e5]
  generalize x 0 * y 0 = p00; generalize x 0 * y 1 = p01; generalize x 0 * y 2 = p02
  generalize x 1 * y 0 = p10; generalize x 1 * y 1 = p11; generalize x 1 * y 2 = p12
  generalize x 2 * y 0 = p20; generalize x 2 * y 1 = p21; generalize x 2 * y 2 = p22
  omega

set_option maxHeartbeats 1000000 in
theorem times_any (x y : Nat → Int) (w : World) (hx : ∀ j, 0 ≤ x j ∧ x j ≤ 1048575) (hy : ∀ j, 0 ≤ y j ∧ y j ≤ 1048575) :
    Calls Tryz.prog 99 #[.agg #[.int .i64 (x 0), .int .i64 (x 1), .int .i64 (x 2), .int .i64 (x 3)], .agg #[.int .i64 (y 0), .int .i64 (y 1), .int .i64 (y 2), .int .i64 (y 3)]] w fun e w' => e = .returned (.agg #[.int .i64 (C x y 5 0), .int .i64 (C x y 5 1), .int .i64 (C x y 5 2), .int .i64 (C x y 5 3), .int .i64 (C x y 5 4), .int .i64 (C x y 5 5)]) ∧ Below w.heap.size w w' := by
  have hO := O_bd9 x y hx hy
  have hC := C_bd5 x y hx hy
  go_enter Tryz.func99, Tryz.ntmps99
  go_wp2
  obtain ⟨W3, hW3⟩ : ∃ W, (((w.alloc (.cells #[.int .i64 (x 0), .int .i64 (x 1), .int .i64 (x 2), .int .i64 (x 3)] 129)).alloc (.cells #[.int .i64 (y 0), .int .i64 (y 1), .int .i64 (y 2), .int .i64 (y 3)] 129)).alloc (.cells #[.int .i64 0, .int .i64 0, .int .i64 0, .int .i64 0, .int .i64 0, .int .i64 0] 127)) = W := ⟨_, rfl⟩
  have hB3 : Below w.heap.size w W3 := by rw [← hW3]; exact (((Below.refl _ _).alloc (Nat.le_refl _) _).alloc (by simp) _).alloc (by simp; omega) _
  have hs3 : w.heap.size + 1 + 1 + 1 = W3.heap.size := by rw [← hW3]; simp
  have hx0 : W3.cell? ⟨w.heap.size, 0, none⟩ = some (.int .i64 (x 0)) := by rw [← hW3]; simp [go_sem]
  have hx1 : W3.cell? ⟨w.heap.size, 1, none⟩ = some (.int .i64 (x 1)) := by rw [← hW3]; simp [go_sem]
  have hx2 : W3.cell? ⟨w.heap.size, 2, none⟩ = some (.int .i64 (x 2)) := by rw [← hW3]; simp [go_sem]
  have hx3 : W3.cell? ⟨w.heap.size, 3, none⟩ = some (.int .i64 (x 3)) := by rw [← hW3]; simp [go_sem]
  have hy0 : W3.cell? ⟨w.heap.size + 1, 0, none⟩ = some (.int .i64 (y 0)) := by rw [← hW3]; simp [go_sem]
  have hy1 : W3.cell? ⟨w.heap.size + 1, 1, none⟩ = some (.int .i64 (y 1)) := by rw [← hW3]; simp [go_sem]
  have hy2 : W3.cell? ⟨w.heap.size + 1, 2, none⟩ = some (.int .i64 (y 2)) := by rw [← hW3]; simp [go_sem]
  have hy3 : W3.cell? ⟨w.heap.size + 1, 3, none⟩ = some (.int .i64 (y 3)) := by rw [← hW3]; simp [go_sem]
  rw [hs3, hW3]
  have hl1 : w.heap.size < W3.heap.size := by omega
  have hl2 : w.heap.size + 1 < W3.heap.size := by omega
  have hl3 : w.heap.size + 1 + 1 < W3.heap.size := by omega
  have H3 := Lib.hid hW3
  have Hs3 := Lib.hid hs3
  clear hW3 hs3
  go_loopw [6, 7] (fun i _ wr => ∃ (i' : Nat) (nd : Nat), i = .int .i64 i' ∧ i' ≤ 3 ∧ wr = ((W3.alloc (.cells #[.int .i64 (O x y (3 * i') 0), .int .i64 (O x y (3 * i') 1), .int .i64 (O x y (3 * i') 2), .int .i64 (O x y (3 * i') 3), .int .i64 (O x y (3 * i') 4), .int .i64 (O x y (3 * i') 5)] 127)).drewN nd)) (fun i _ _ => 3 - (intOf i).toNat)
  case atStart => exact ⟨0, 0, rfl, by omega, rfl⟩
  case round =>
    obtain ⟨i, nd, rfl, hi, rfl⟩ := hrel
    by_cases hlt : i < 3
    · have hc : i = 0 ∨ i = 1 ∨ i = 2 := by omega
      clear hi hlt
      rcases hc with rfl | rfl | rfl
      · go_wp2
        go_loopw [7] (fun k wr => ∃ (k' : Nat) (nd : Nat), k = .int .i64 k' ∧ k' ≤ 3 ∧ wr = ((W3.alloc (.cells #[.int .i64 (O x y (0 + k') 0), .int .i64 (O x y (0 + k') 1), .int .i64 (O x y (0 + k') 2), .int .i64 (O x y (0 + k') 3), .int .i64 (O x y (0 + k') 4), .int .i64 (O x y (0 + k') 5)] 127)).drewN nd)) (fun k _ => 3 - (intOf k).toNat)
        case atStart => exact ⟨0, nd, rfl, by omega, rfl⟩
        case round =>
          clear nd
          obtain ⟨k, nd, rfl, hk, rfl⟩ := hrel
          by_cases hlt : k < 3
          · have hc : k = 0 ∨ k = 1 ∨ k = 2 := by omega
            clear hk hlt
            rcases hc with rfl | rfl | rfl
            · have hm := mul_bd (hx 0) (hy 0)
              have hb := hO 0 0 (by omega)
              go_wp2
              go_region
              go_wp2
              go_roundw
              case rel => exact ⟨1, _, rfl, by omega, by rw [Cls.set_own]; rfl⟩
              case measure => simp [intOf]
            · have hm := mul_bd (hx 0) (hy 1)
              have hb := hO 1 1 (by omega)
              go_wp2
              go_region
              go_wp2
              go_roundw
              case rel => exact ⟨2, _, rfl, by omega, by rw [Cls.set_own]; rfl⟩
              case measure => simp [intOf]
            · have hm := mul_bd (hx 0) (hy 2)
              have hb := hO 2 2 (by omega)
              go_wp2
              go_region
              go_wp2
              go_roundw
              case rel => exact ⟨3, _, rfl, by omega, by rw [Cls.set_own]; rfl⟩
              case measure => simp [intOf]
          · obtain rfl : k = 3 := by omega
            go_wp2
            go_roundw
            case rel => exact ⟨1, _, rfl, by omega, rfl⟩
            case measure => simp [intOf]
      · go_wp2
        go_loopw [7] (fun k wr => ∃ (k' : Nat) (nd : Nat), k = .int .i64 k' ∧ k' ≤ 3 ∧ wr = ((W3.alloc (.cells #[.int .i64 (O x y (3 + k') 0), .int .i64 (O x y (3 + k') 1), .int .i64 (O x y (3 + k') 2), .int .i64 (O x y (3 + k') 3), .int .i64 (O x y (3 + k') 4), .int .i64 (O x y (3 + k') 5)] 127)).drewN nd)) (fun k _ => 3 - (intOf k).toNat)
        case atStart => exact ⟨0, nd, rfl, by omega, rfl⟩
        case round =>
          clear nd
          obtain ⟨k, nd, rfl, hk, rfl⟩ := hrel
          by_cases hlt : k < 3
          · have hc : k = 0 ∨ k = 1 ∨ k = 2 := by omega
            clear hk hlt
            rcases hc with rfl | rfl | rfl
            · have hm := mul_bd (hx 1) (hy 0)
              have hb := hO 3 1 (by omega)
              go_wp2
              go_region
              go_wp2
              go_roundw
              case rel => exact ⟨1, _, rfl, by omega, by rw [Cls.set_own]; rfl⟩
              case measure => simp [intOf]
            · have hm := mul_bd (hx 1) (hy 1)
              have hb := hO 4 2 (by omega)
              go_wp2
              go_region
              go_wp2
              go_roundw
              case rel => exact ⟨2, _, rfl, by omega, by rw [Cls.set_own]; rfl⟩
              case measure => simp [intOf]
            · have hm := mul_bd (hx 1) (hy 2)
              have hb := hO 5 3 (by omega)
              go_wp2
              go_region
              go_wp2
              go_roundw
              case rel => exact ⟨3, _, rfl, by omega, by rw [Cls.set_own]; rfl⟩
              case measure => simp [intOf]
          · obtain rfl : k = 3 := by omega
            go_wp2
            go_roundw
            case rel => exact ⟨2, _, rfl, by omega, rfl⟩
            case measure => simp [intOf]
      · go_wp2
        go_loopw [7] (fun k wr => ∃ (k' : Nat) (nd : Nat), k = .int .i64 k' ∧ k' ≤ 3 ∧ wr = ((W3.alloc (.cells #[.int .i64 (O x y (6 + k') 0), .int .i64 (O x y (6 + k') 1), .int .i64 (O x y (6 + k') 2), .int .i64 (O x y (6 + k') 3), .int .i64 (O x y (6 + k') 4), .int .i64 (O x y (6 + k') 5)] 127)).drewN nd)) (fun k _ => 3 - (intOf k).toNat)
        case atStart => exact ⟨0, nd, rfl, by omega, rfl⟩
        case round =>
          clear nd
          obtain ⟨k, nd, rfl, hk, rfl⟩ := hrel
          by_cases hlt : k < 3
          · have hc : k = 0 ∨ k = 1 ∨ k = 2 := by omega
            clear hk hlt
            rcases hc with rfl | rfl | rfl
            · have hm := mul_bd (hx 2) (hy 0)
              have hb := hO 6 2 (by omega)
              go_wp2
              go_region
              go_wp2
              go_roundw
              case rel => exact ⟨1, _, rfl, by omega, by rw [Cls.set_own]; rfl⟩
              case measure => simp [intOf]
            · have hm := mul_bd (hx 2) (hy 1)
              have hb := hO 7 3 (by omega)
              go_wp2
              go_region
              go_wp2
              go_roundw
              case rel => exact ⟨2, _, rfl, by omega, by rw [Cls.set_own]; rfl⟩
              case measure => simp [intOf]
            · have hm := mul_bd (hx 2) (hy 2)
              have hb := hO 8 4 (by omega)
              go_wp2
              go_region
              go_wp2
              go_roundw
              case rel => exact ⟨3, _, rfl, by omega, by rw [Cls.set_own]; rfl⟩
              case measure => simp [intOf]
          · obtain rfl : k = 3 := by omega
            go_wp2
            go_roundw
            case rel => exact ⟨3, _, rfl, by omega, rfl⟩
            case measure => simp [intOf]
    · obtain rfl : i = 3 := by omega
      clear hi hlt
      go_wp2
      go_loopw [8] (fun i wr => ∃ (i' : Nat) (nd : Nat), i = .int .i64 i' ∧ i' ≤ 5 ∧ wr = ((W3.alloc (.cells #[.int .i64 (C x y i' 0), .int .i64 (C x y i' 1), .int .i64 (C x y i' 2), .int .i64 (C x y i' 3), .int .i64 (C x y i' 4), .int .i64 (C x y i' 5)] 127)).drewN nd)) (fun i _ => 5 - (intOf i).toNat)
      case atStart => exact ⟨0, nd, rfl, by omega, rfl⟩
      case round =>
        clear nd
        obtain ⟨i, nd, rfl, hi, rfl⟩ := hrel
        by_cases hlt : i < 5
        · have hc : i = 0 ∨ i = 1 ∨ i = 2 ∨ i = 3 ∨ i = 4 := by omega
          clear hi hlt
          rcases hc with rfl | rfl | rfl | rfl | rfl
          · have hb0 := hC 0 0 (by omega)
            have hb1 := hC 0 1 (by omega)
            go_wp2
            go_region
            rw [Cls.set_own]
            simp only [List.setIfInBounds_toArray, List.set_cons_zero, List.set_cons_succ]
            go_wp2
            go_roundw
            case rel => exact ⟨1, _, rfl, by omega, by rw [Cls.set_own]; rfl⟩
            case measure => simp [intOf]
          · have hb0 := hC 1 1 (by omega)
            have hb1 := hC 1 2 (by omega)
            go_wp2
            go_region
            rw [Cls.set_own]
            simp only [List.setIfInBounds_toArray, List.set_cons_zero, List.set_cons_succ]
            go_wp2
            go_roundw
            case rel => exact ⟨2, _, rfl, by omega, by rw [Cls.set_own]; rfl⟩
            case measure => simp [intOf]
          · have hb0 := hC 2 2 (by omega)
            have hb1 := hC 2 3 (by omega)
            go_wp2
            go_region
            rw [Cls.set_own]
            simp only [List.setIfInBounds_toArray, List.set_cons_zero, List.set_cons_succ]
            go_wp2
            go_roundw
            case rel => exact ⟨3, _, rfl, by omega, by rw [Cls.set_own]; rfl⟩
            case measure => simp [intOf]
          · have hb0 := hC 3 3 (by omega)
            have hb1 := hC 3 4 (by omega)
            go_wp2
            go_region
            rw [Cls.set_own]
            simp only [List.setIfInBounds_toArray, List.set_cons_zero, List.set_cons_succ]
            go_wp2
            go_roundw
            case rel => exact ⟨4, _, rfl, by omega, by rw [Cls.set_own]; rfl⟩
            case measure => simp [intOf]
          · have hb0 := hC 4 4 (by omega)
            have hb1 := hC 4 5 (by omega)
            go_wp2
            go_region
            rw [Cls.set_own]
            simp only [List.setIfInBounds_toArray, List.set_cons_zero, List.set_cons_succ]
            go_wp2
            go_roundw
            case rel => exact ⟨5, _, rfl, by omega, by rw [Cls.set_own]; rfl⟩
            case measure => simp [intOf]
        · obtain rfl : i = 5 := by omega
          have hW3 := H3.out
          have hs3 := Hs3.out
          rw [← hs3]
          rw [← hW3]
          clear hW3 H3 hx0 hx1 hx2 hx3 hy0 hy1 hy2 hy3 hi hlt hs3 Hs3
          go_wp2
          refine bodyPost_ret (v := .agg #[.int .i64 (C x y 5 0), .int .i64 (C x y 5 1), .int .i64 (C x y 5 2), .int .i64 (C x y 5 3), .int .i64 (C x y 5 4), .int .i64 (C x y 5 5)]) (by simp [results, Tryz.results99, go_sem]) rfl ⟨rfl, ?_⟩
          exact (((((((Cls.below_drewN' (((((Below.refl _ _).alloc (Nat.le_refl _) _).alloc (by simp) _).alloc (by simp; omega) _).alloc (by simp; omega) _) nd).setCell (p := ⟨w.heap.size + 1 + 1, 0, none⟩) (by show w.heap.size ≤ w.heap.size + 1 + 1; omega) _).setCell (p := ⟨w.heap.size + 1 + 1, 1, none⟩) (by show w.heap.size ≤ w.heap.size + 1 + 1; omega) _).setCell (p := ⟨w.heap.size + 1 + 1, 2, none⟩) (by show w.heap.size ≤ w.heap.size + 1 + 1; omega) _).setCell (p := ⟨w.heap.size + 1 + 1, 3, none⟩) (by show w.heap.size ≤ w.heap.size + 1 + 1; omega) _).setCell (p := ⟨w.heap.size + 1 + 1, 4, none⟩) (by show w.heap.size ≤ w.heap.size + 1 + 1; omega) _).setCell (p := ⟨w.heap.size + 1 + 1, 5, none⟩) (by show w.heap.size ≤ w.heap.size + 1 + 1; omega) _)


def H (d : Nat → Int) : Nat → Int
  | 0 => 0
  | n + 1 => H d n * 1048576 + d (5 - n)
theorem H_nonneg (d : Nat → Int) (hd : ∀ j, 0 ≤ d j ∧ d j ≤ 9895635775625) : ∀ n, 0 ≤ H d n
  | 0 => by simp [H]
  | n + 1 => by have := H_nonneg d hd n; have := hd (5 - n); unfold H; omega
theorem H_mono (d : Nat → Int) (hd : ∀ j, 0 ≤ d j ∧ d j ≤ 9895635775625) (n : Nat) : H d n ≤ H d (n + 1) := by
  have := H_nonneg d hd n; have := hd (5 - n); rw [H]; omega
theorem H_le (d : Nat → Int) (hd : ∀ j, 0 ≤ d j ∧ d j ≤ 9895635775625) (n : Nat) : ∀ k, H d n ≤ H d (n + k)
  | 0 => Int.le_refl _
  | k + 1 => Int.le_trans (H_le d hd n k) (H_mono d hd (n + k))
theorem div_step (X b e : Int) (hb : 0 < b) (he : 0 ≤ e) (hX : 0 ≤ X) : X / b * 1048576 + (X % b * 1048576 + e) / b = (X * 1048576 + e) / b ∧ (X % b * 1048576 + e) % b = (X * 1048576 + e) % b := by
  have h : X * 1048576 + e = X % b * 1048576 + e + b * (X / b * 1048576) := by
    have := Int.emod_add_mul_ediv X b
    have h2 : b * (X / b * 1048576) = b * (X / b) * 1048576 := by rw [Int.mul_assoc]
    rw [h2]
    generalize b * (X / b) = q at *
    omega
  rw [h, Int.add_mul_ediv_left _ _ (by omega), Int.add_mul_emod_self_left]
  exact ⟨by omega, rfl⟩
def thr (d : Nat → Int) (b : Int) : Int := if b = 0 then 1099511627776 else if 1099511627776 < H d 6 / b then 1099511627776 else H d 6 / b

theorem thr_early (d : Nat → Int) (hd : ∀ j, 0 ≤ d j ∧ d j ≤ 9895635775625) (b : Int) (hb : 0 < b) (n : Nat) (hn : n ≤ 6) (h : 1099511627776 < H d n / b) : thr d b = 1099511627776 := by
  unfold thr
  rw [if_neg (by omega)]
  by_cases h2 : 1099511627776 < H d 6 / b
  · rw [if_pos h2]
  · exfalso
    have h3 := H_le d hd n (6 - n)
    rw [show n + (6 - n) = 6 by omega] at h3
    have := Int.ediv_le_ediv hb h3
    omega
theorem thr_end (d : Nat → Int) (b : Int) (hb : 0 < b) (h : H d 6 / b ≤ 1099511627776) : thr d b = H d 6 / b := by
  unfold thr
  rw [if_neg (by omega), if_neg (by omega)]

set_option maxHeartbeats 2000000 in
theorem through_some (d : Nat → Int) (b : Int) (w : World) (hd : ∀ j, 0 ≤ d j ∧ d j ≤ 9895635775625) (hb : 1 ≤ b) (hb2 : b ≤ 1099511627776) :
    Calls Tryz.prog 98 #[.agg #[.int .i64 (d 0), .int .i64 (d 1), .int .i64 (d 2), .int .i64 (d 3), .int .i64 (d 4), .int .i64 (d 5)], .int .i64 b] w fun e w' => e = .returned (.int .i64 (thr d b)) ∧ Below w.heap.size w w' := by
  have hz : (b == 0) = false := by simp; omega
  go_enter Tryz.func98, Tryz.ntmps98
  go_wp2
  have hB1 : Below w.heap.size w (w.alloc (.cells #[.int .i64 (d 0), .int .i64 (d 1), .int .i64 (d 2), .int .i64 (d 3), .int .i64 (d 4), .int .i64 (d 5)] 127)) := (Below.refl _ _).alloc (Nat.le_refl _) _
  obtain ⟨W1, hW1⟩ : ∃ W, w.alloc (.cells #[.int .i64 (d 0), .int .i64 (d 1), .int .i64 (d 2), .int .i64 (d 3), .int .i64 (d 4), .int .i64 (d 5)] 127) = W := ⟨_, rfl⟩

  have hc0 : W1.cell? ⟨w.heap.size, 0, none⟩ = some (.int .i64 (d 0)) := by rw [← hW1]; simp [go_sem]
  have hc1 : W1.cell? ⟨w.heap.size, 1, none⟩ = some (.int .i64 (d 1)) := by rw [← hW1]; simp [go_sem]
  have hc2 : W1.cell? ⟨w.heap.size, 2, none⟩ = some (.int .i64 (d 2)) := by rw [← hW1]; simp [go_sem]
  have hc3 : W1.cell? ⟨w.heap.size, 3, none⟩ = some (.int .i64 (d 3)) := by rw [← hW1]; simp [go_sem]
  have hc4 : W1.cell? ⟨w.heap.size, 4, none⟩ = some (.int .i64 (d 4)) := by rw [← hW1]; simp [go_sem]
  have hc5 : W1.cell? ⟨w.heap.size, 5, none⟩ = some (.int .i64 (d 5)) := by rw [← hW1]; simp [go_sem]
  rw [hW1] at hB1 ⊢
  clear hW1
  go_loopw [5, 6, 7] (fun out rest i wr => ∃ n : Nat, n ≤ 6 ∧ i = .int .i64 (5 - (n : Int)) ∧ out = .int .i64 (H d n / b) ∧ rest = .int .i64 (H d n % b) ∧ H d n / b ≤ 1099511627776 ∧ wr = W1) (fun _ _ i _ => (intOf i + 1).toNat)
  case atStart => exact ⟨0, by omega, rfl, by simp [H], by simp [H], by simp [H], rfl⟩
  case round =>
    obtain ⟨n, hn, rfl, rfl, rfl, hq, rfl⟩ := hrel
    by_cases hlt : n < 6
    · have hc : n = 0 ∨ n = 1 ∨ n = 2 ∨ n = 3 ∨ n = 4 ∨ n = 5 := by omega
      clear hn hlt
      rcases hc with rfl | rfl | rfl | rfl | rfl | rfl
      · have hs := div_step (H d 0) b (d 5) (by omega) (hd 5).1 (H_nonneg d hd 0)
        have h1 : H d 1 = H d 0 * 1048576 + d 5 := rfl
        rw [← h1] at hs
        have hs1 := Lib.hid hs.1
        have hs2 := Lib.hid hs.2
        have hd0 := hd 5
        have hm0 : 0 ≤ H d 0 % b := Int.emod_nonneg _ (by omega)
        have hm1 : H d 0 % b < b := Int.emod_lt_of_pos _ (by omega)
        have hq0 : 0 ≤ H d 0 / b := Int.ediv_nonneg (H_nonneg d hd 0) (by omega)
        have hr0 : 0 ≤ (H d 0 % b * 1048576 + d 5) / b := Int.ediv_nonneg (by omega) (by omega)
        have hr1 : (H d 0 % b * 1048576 + d 5) / b ≤ H d 0 % b * 1048576 + d 5 := Int.ediv_le_self _ (by omega)
        have hE := Lib.hid (thr_early d hd b (by omega) 1 (by omega))
        clear hs h1
        by_cases ht : 1099511627776 < H d 1 / b
        · go_wp2_with fail
          rw [hs1.out, hs2.out]
          refine (top_any _).mono ?_
          rintro e w' ⟨rfl, rfl⟩
          go_wp2_with fail
          refine (top_any _).mono ?_
          rintro e w' ⟨rfl, rfl⟩
          go_wp2
          go_ret
          exact ⟨by rw [hE.out ht]; rfl, hB1⟩
        · have ht' : H d 1 / b ≤ 1099511627776 := by omega
          clear hE
          go_wp2_with fail
          rw [hs1.out, hs2.out]
          refine (top_any _).mono ?_
          rintro e w' ⟨rfl, rfl⟩
          go_wp2
          go_roundw
          case rel => exact ⟨1, by omega, rfl, rfl, rfl, ht', trivial⟩
          case measure => simp [intOf]
      · have hs := div_step (H d 1) b (d 4) (by omega) (hd 4).1 (H_nonneg d hd 1)
        have h1 : H d 2 = H d 1 * 1048576 + d 4 := rfl
        rw [← h1] at hs
        have hs1 := Lib.hid hs.1
        have hs2 := Lib.hid hs.2
        have hd0 := hd 4
        have hm0 : 0 ≤ H d 1 % b := Int.emod_nonneg _ (by omega)
        have hm1 : H d 1 % b < b := Int.emod_lt_of_pos _ (by omega)
        have hq0 : 0 ≤ H d 1 / b := Int.ediv_nonneg (H_nonneg d hd 1) (by omega)
        have hr0 : 0 ≤ (H d 1 % b * 1048576 + d 4) / b := Int.ediv_nonneg (by omega) (by omega)
        have hr1 : (H d 1 % b * 1048576 + d 4) / b ≤ H d 1 % b * 1048576 + d 4 := Int.ediv_le_self _ (by omega)
        have hE := Lib.hid (thr_early d hd b (by omega) 2 (by omega))
        clear hs h1
        by_cases ht : 1099511627776 < H d 2 / b
        · go_wp2_with fail
          rw [hs1.out, hs2.out]
          refine (top_any _).mono ?_
          rintro e w' ⟨rfl, rfl⟩
          go_wp2_with fail
          refine (top_any _).mono ?_
          rintro e w' ⟨rfl, rfl⟩
          go_wp2
          go_ret
          exact ⟨by rw [hE.out ht]; rfl, hB1⟩
        · have ht' : H d 2 / b ≤ 1099511627776 := by omega
          clear hE
          go_wp2_with fail
          rw [hs1.out, hs2.out]
          refine (top_any _).mono ?_
          rintro e w' ⟨rfl, rfl⟩
          go_wp2
          go_roundw
          case rel => exact ⟨2, by omega, rfl, rfl, rfl, ht', trivial⟩
          case measure => simp [intOf]
      · have hs := div_step (H d 2) b (d 3) (by omega) (hd 3).1 (H_nonneg d hd 2)
        have h1 : H d 3 = H d 2 * 1048576 + d 3 := rfl
        rw [← h1] at hs
        have hs1 := Lib.hid hs.1
        have hs2 := Lib.hid hs.2
        have hd0 := hd 3
        have hm0 : 0 ≤ H d 2 % b := Int.emod_nonneg _ (by omega)
        have hm1 : H d 2 % b < b := Int.emod_lt_of_pos _ (by omega)
        have hq0 : 0 ≤ H d 2 / b := Int.ediv_nonneg (H_nonneg d hd 2) (by omega)
        have hr0 : 0 ≤ (H d 2 % b * 1048576 + d 3) / b := Int.ediv_nonneg (by omega) (by omega)
        have hr1 : (H d 2 % b * 1048576 + d 3) / b ≤ H d 2 % b * 1048576 + d 3 := Int.ediv_le_self _ (by omega)
        have hE := Lib.hid (thr_early d hd b (by omega) 3 (by omega))
        clear hs h1
        by_cases ht : 1099511627776 < H d 3 / b
        · go_wp2_with fail
          rw [hs1.out, hs2.out]
          refine (top_any _).mono ?_
          rintro e w' ⟨rfl, rfl⟩
          go_wp2_with fail
          refine (top_any _).mono ?_
          rintro e w' ⟨rfl, rfl⟩
          go_wp2
          go_ret
          exact ⟨by rw [hE.out ht]; rfl, hB1⟩
        · have ht' : H d 3 / b ≤ 1099511627776 := by omega
          clear hE
          go_wp2_with fail
          rw [hs1.out, hs2.out]
          refine (top_any _).mono ?_
          rintro e w' ⟨rfl, rfl⟩
          go_wp2
          go_roundw
          case rel => exact ⟨3, by omega, rfl, rfl, rfl, ht', trivial⟩
          case measure => simp [intOf]
      · have hs := div_step (H d 3) b (d 2) (by omega) (hd 2).1 (H_nonneg d hd 3)
        have h1 : H d 4 = H d 3 * 1048576 + d 2 := rfl
        rw [← h1] at hs
        have hs1 := Lib.hid hs.1
        have hs2 := Lib.hid hs.2
        have hd0 := hd 2
        have hm0 : 0 ≤ H d 3 % b := Int.emod_nonneg _ (by omega)
        have hm1 : H d 3 % b < b := Int.emod_lt_of_pos _ (by omega)
        have hq0 : 0 ≤ H d 3 / b := Int.ediv_nonneg (H_nonneg d hd 3) (by omega)
        have hr0 : 0 ≤ (H d 3 % b * 1048576 + d 2) / b := Int.ediv_nonneg (by omega) (by omega)
        have hr1 : (H d 3 % b * 1048576 + d 2) / b ≤ H d 3 % b * 1048576 + d 2 := Int.ediv_le_self _ (by omega)
        have hE := Lib.hid (thr_early d hd b (by omega) 4 (by omega))
        clear hs h1
        by_cases ht : 1099511627776 < H d 4 / b
        · go_wp2_with fail
          rw [hs1.out, hs2.out]
          refine (top_any _).mono ?_
          rintro e w' ⟨rfl, rfl⟩
          go_wp2_with fail
          refine (top_any _).mono ?_
          rintro e w' ⟨rfl, rfl⟩
          go_wp2
          go_ret
          exact ⟨by rw [hE.out ht]; rfl, hB1⟩
        · have ht' : H d 4 / b ≤ 1099511627776 := by omega
          clear hE
          go_wp2_with fail
          rw [hs1.out, hs2.out]
          refine (top_any _).mono ?_
          rintro e w' ⟨rfl, rfl⟩
          go_wp2
          go_roundw
          case rel => exact ⟨4, by omega, rfl, rfl, rfl, ht', trivial⟩
          case measure => simp [intOf]
      · have hs := div_step (H d 4) b (d 1) (by omega) (hd 1).1 (H_nonneg d hd 4)
        have h1 : H d 5 = H d 4 * 1048576 + d 1 := rfl
        rw [← h1] at hs
        have hs1 := Lib.hid hs.1
        have hs2 := Lib.hid hs.2
        have hd0 := hd 1
        have hm0 : 0 ≤ H d 4 % b := Int.emod_nonneg _ (by omega)
        have hm1 : H d 4 % b < b := Int.emod_lt_of_pos _ (by omega)
        have hq0 : 0 ≤ H d 4 / b := Int.ediv_nonneg (H_nonneg d hd 4) (by omega)
        have hr0 : 0 ≤ (H d 4 % b * 1048576 + d 1) / b := Int.ediv_nonneg (by omega) (by omega)
        have hr1 : (H d 4 % b * 1048576 + d 1) / b ≤ H d 4 % b * 1048576 + d 1 := Int.ediv_le_self _ (by omega)
        have hE := Lib.hid (thr_early d hd b (by omega) 5 (by omega))
        clear hs h1
        by_cases ht : 1099511627776 < H d 5 / b
        · go_wp2_with fail
          rw [hs1.out, hs2.out]
          refine (top_any _).mono ?_
          rintro e w' ⟨rfl, rfl⟩
          go_wp2_with fail
          refine (top_any _).mono ?_
          rintro e w' ⟨rfl, rfl⟩
          go_wp2
          go_ret
          exact ⟨by rw [hE.out ht]; rfl, hB1⟩
        · have ht' : H d 5 / b ≤ 1099511627776 := by omega
          clear hE
          go_wp2_with fail
          rw [hs1.out, hs2.out]
          refine (top_any _).mono ?_
          rintro e w' ⟨rfl, rfl⟩
          go_wp2
          go_roundw
          case rel => exact ⟨5, by omega, rfl, rfl, rfl, ht', trivial⟩
          case measure => simp [intOf]
      · have hs := div_step (H d 5) b (d 0) (by omega) (hd 0).1 (H_nonneg d hd 5)
        have h1 : H d 6 = H d 5 * 1048576 + d 0 := rfl
        rw [← h1] at hs
        have hs1 := Lib.hid hs.1
        have hs2 := Lib.hid hs.2
        have hd0 := hd 0
        have hm0 : 0 ≤ H d 5 % b := Int.emod_nonneg _ (by omega)
        have hm1 : H d 5 % b < b := Int.emod_lt_of_pos _ (by omega)
        have hq0 : 0 ≤ H d 5 / b := Int.ediv_nonneg (H_nonneg d hd 5) (by omega)
        have hr0 : 0 ≤ (H d 5 % b * 1048576 + d 0) / b := Int.ediv_nonneg (by omega) (by omega)
        have hr1 : (H d 5 % b * 1048576 + d 0) / b ≤ H d 5 % b * 1048576 + d 0 := Int.ediv_le_self _ (by omega)
        have hE := Lib.hid (thr_early d hd b (by omega) 6 (by omega))
        clear hs h1
        by_cases ht : 1099511627776 < H d 6 / b
        · go_wp2_with fail
          rw [hs1.out, hs2.out]
          refine (top_any _).mono ?_
          rintro e w' ⟨rfl, rfl⟩
          go_wp2_with fail
          refine (top_any _).mono ?_
          rintro e w' ⟨rfl, rfl⟩
          go_wp2
          go_ret
          exact ⟨by rw [hE.out ht]; rfl, hB1⟩
        · have ht' : H d 6 / b ≤ 1099511627776 := by omega
          clear hE
          go_wp2_with fail
          rw [hs1.out, hs2.out]
          refine (top_any _).mono ?_
          rintro e w' ⟨rfl, rfl⟩
          go_wp2
          go_roundw
          case rel => exact ⟨6, by omega, rfl, rfl, rfl, ht', trivial⟩
          case measure => simp [intOf]
    · obtain rfl : n = 6 := by omega
      have hE := Lib.hid (thr_end d b (by omega) hq)
      clear hn hlt
      go_wp2
      go_ret
      exact ⟨by rw [hE.out]; rfl, hB1⟩

theorem thr_mul (a b : Int) : thr (C (dig (nr a)) (dig (nr b)) 5) 1 = mul a b := by
  have e1 : H (C (dig (nr a)) (dig (nr b)) 5) 6 = nr a * nr b := by
    have h1 := nr_bd a
    have h2 := nr_bd b
    have k := (V_carry (dig (nr a)) (dig (nr b))).trans (V_prod _ _ _ _ (dig_sum (nr a) h1.1 h1.2) (dig_sum (nr b) h2.1 h2.2))
    rw [← k]
    generalize C (dig (nr a)) (dig (nr b)) 5 = c
    have : H c 6 = (((((0 * 1048576 + c 5) * 1048576 + c 4) * 1048576 + c 3) * 1048576 + c 2) * 1048576 + c 1) * 1048576 + c 0 := rfl
    rw [this]; unfold V6; omega
  unfold thr mul
  rw [e1, if_neg (by omega), Int.ediv_one]

theorem mul_any (a b : Int) (w : World) :
    Calls Tryz.prog 89 #[.int .i64 a, .int .i64 b] w fun e w' => e = .returned (.int .i64 (mul a b)) ∧ Below w.heap.size w w' := by
  have h1 := nr_bd a
  have h2 := nr_bd b
  have x1 := dig_bd (nr a) h1.1 h1.2
  have x2 := dig_bd (nr b) h2.1 h2.2
  have hc := C_bd5 (dig (nr a)) (dig (nr b)) x1 x2
  have he := Lib.hid (thr_mul a b)
  go_enter Tryz.func89, Tryz.ntmps89
  go_wp2_with fail
  refine (near_any a _).mono ?_
  rintro e w' ⟨rfl, rfl⟩
  go_wp2_with fail
  refine (of_any (nr a) _ h1.1 h1.2).mono ?_
  rintro e w1 ⟨rfl, hb1⟩
  go_wp2_with fail
  refine (near_any b _).mono ?_
  rintro e w' ⟨rfl, rfl⟩
  go_wp2_with fail
  refine (of_any (nr b) _ h2.1 h2.2).mono ?_
  rintro e w2 ⟨rfl, hb2⟩
  go_wp2_with fail
  refine (times_any (dig (nr a)) (dig (nr b)) _ x1 x2).mono ?_
  rintro e w3 ⟨rfl, hb3⟩
  go_wp2_with fail
  refine (through_some (C (dig (nr a)) (dig (nr b)) 5) 1 _ (fun j => hc 5 j (by omega)) (by omega) (by omega)).mono ?_
  rintro e w4 ⟨rfl, hb4⟩
  rw [he.out]
  have hb := hb1.trans ((hb2.trans ((hb3.trans (hb4.mono hb3.size)).mono hb2.size)).mono hb1.size)
  go_wp2
  go_ret
  exact ⟨rfl, hb⟩

end Go.Proofs.YtehpliclknfmoaaGreat.Ref01
namespace Go.Proofs.YtehpliclknfmoaaGreat.Times
open Go.RowKit
set_option maxRecDepth 100000
set_option linter.unusedVariables false
set_option linter.unusedSimpArgs false

def dig (a : Int) : Nat → Int
  | 0 => a % 65536
  | 1 => a / 65536 % 65536
  | 2 => a / 4294967296 % 65536
  | 3 => a / 281474976710656
  | _ => 0
theorem dig_bd (a : Int) (h0 : 0 ≤ a) (h1 : a < 18446744073709551616) (j : Nat) : 0 ≤ dig a j ∧ dig a j < 65536 := by
  unfold dig; split <;> omega
theorem dig_sum (a : Int) (h0 : 0 ≤ a) (h1 : a < 18446744073709551616) : dig a 0 + dig a 1 * 65536 + dig a 2 * 4294967296 + dig a 3 * 281474976710656 = a := by
  simp only [dig]; omega

theorem of_any (n : Int) (w : World) (h0 : 0 ≤ n) (h1 : n < 18446744073709551616) :
    Calls Tryz.prog 90 #[.int .u64 n] w fun e w' => e = .returned (.agg #[.int .u64 (dig n 0), .int .u64 (dig n 1), .int .u64 (dig n 2), .int .u64 (dig n 3)]) ∧ w' = w.alloc (.cells #[.int .u64 (dig n 0), .int .u64 (dig n 1), .int .u64 (dig n 2), .int .u64 (dig n 3)] 120) := by
  go_enter Tryz.func90, Tryz.ntmps90
  go_wp2
  refine bodyPost_ret (v := .agg #[.int .u64 (n % 65536), .int .u64 (n / 65536 % 65536), .int .u64 (n / 4294967296 % 65536), .int .u64 (n / 281474976710656)]) (by simp [results, Tryz.results90, go_sem]) rfl ⟨rfl, rfl⟩
theorem to_any (a b c d : Int) (w : World) (h0 : 0 ≤ a) (h1 : a < 65536) (h2 : 0 ≤ b) (h3 : b < 65536) (h4 : 0 ≤ c) (h5 : c < 65536) (h6 : 0 ≤ d) (h7 : d < 65536) :
    Calls Tryz.prog 91 #[.agg #[.int .u64 a, .int .u64 b, .int .u64 c, .int .u64 d]] w fun e w' => e = .returned (.int .u64 (a + b * 65536 + c * 4294967296 + d * 281474976710656)) ∧ Below w.heap.size w w' := by
  go_enter Tryz.func91, Tryz.ntmps91
  go_wp2
  go_ret
  exact ⟨rfl, (Below.refl _ _).alloc (Nat.le_refl _) _⟩

theorem set_own (W : World) (cs : Array Value) (t : TypeId) (n j : Nat) (v : Value) : ((W.alloc (.cells cs t)).drewN n).setCell ⟨W.heap.size, j, none⟩ v = (W.alloc (.cells (cs.setIfInBounds j v) t)).drewN n := by
  simp only [World.setCell, World.alloc, World.drewN]
  congr 1
  apply Array.ext
  · simp
  · intro i h1 h2
    simp only [Array.getElem_modify, Array.getElem_push]
    by_cases e : W.heap.size = i
    · subst e; simp
    · have : i < W.heap.size := by simp at h2; omega
      simp [e, this]
theorem below_drewN' {B : Nat} {a w : World} (h : Below B a w) (n : Nat) : Below B a (w.drewN n) := ⟨h.os, h.tape, h.output, h.size, h.block⟩
def V (d : Nat → Int) : Int := d 0 + d 1 * 65536 + d 2 * 4294967296 + d 3 * 281474976710656 + d 4 * 18446744073709551616 + d 5 * 1208925819614629174706176 + d 6 * 79228162514264337593543950336 + d 7 * 5192296858534827628530496329220096 + d 8 * 340282366920938463463374607431768211456
def p16 : Nat → Int
  | 0 => 1 | 1 => 65536 | 2 => 4294967296 | 3 => 281474976710656 | 4 => 18446744073709551616 | 5 => 1208925819614629174706176 | 6 => 79228162514264337593543950336 | 7 => 5192296858534827628530496329220096 | _ => 340282366920938463463374607431768211456
def T (x y : Nat → Int) : Nat → Int
  | 0 => 0
  | n + 1 => T x y n + x (n / 4) * y (n % 4) * p16 (n / 4 + n % 4)
def S (x y : Nat → Int) (i k : Nat) : Int := T x y (4 * i + k)
structure DInv (x y : Nat → Int) (i : Nat) (d : Nat → Int) : Prop where
  b : ∀ j, 0 ≤ d j ∧ d j < 65536
  v : V d = S x y i 0
  z : ∀ j, i + 4 ≤ j → d j = 0
structure RInv (x y : Nat → Int) (i k : Nat) (d : Nat → Int) (over : Int) : Prop where
  b : ∀ j, 0 ≤ d j ∧ d j < 65536
  o : 0 ≤ over ∧ over < 65536
  v : V d + over * p16 (i + k) = S x y i k
  z : ∀ j, i + 4 ≤ j → d j = 0
theorem DInv.start (x y : Nat → Int) : DInv x y 0 (fun _ => 0) := ⟨by simp, by simp [V, S, T], by simp⟩
theorem DInv.row {x y d : Nat → Int} {i : Nat} (h : DInv x y i d) : RInv x y i 0 d 0 := ⟨h.b, by omega, by rw [h.v]; omega, h.z⟩
theorem mul_bd (x y : Int) (a : 0 ≤ x ∧ x < 65536) (b : 0 ≤ y ∧ y < 65536) : 0 ≤ x * y ∧ x * y ≤ 4294836225 := by
  refine ⟨Int.mul_nonneg a.1 b.1, ?_⟩
  have : x * y ≤ 65535 * 65535 := Int.mul_le_mul (by omega) (by omega) b.1 (by decide)
  omega

theorem RInv.step00 {x y d : Nat → Int} {over : Int} (h : RInv x y 0 0 d over) (hx : ∀ j, 0 ≤ x j ∧ x j < 65536) (hy : ∀ j, 0 ≤ y j ∧ y j < 65536) : RInv x y 0 1 (fun j => if j = 0 then (d 0 + x 0 * y 0 + over) % 65536 else d j) ((d 0 + x 0 * y 0 + over) / 65536) := by
  have hb := h.b; have ho := h.o; have hv := h.v; have hz := h.z
  have hm := mul_bd (x 0) (y 0) (hx 0) (hy 0)
  have h0 := hb 0
  have hS : S x y 0 1 = S x y 0 0 + x 0 * y 0 * p16 0 := rfl
  generalize x 0 * y 0 = p at *
  refine ⟨fun j => ?_, by omega, ?_, fun j hj => ?_⟩
  · have := hb j; split <;> omega
  · rw [hS, ← hv]; simp only [V, p16]; simp; omega
  · have := hz j hj; rw [if_neg (by omega)]; exact this

theorem RInv.step01 {x y d : Nat → Int} {over : Int} (h : RInv x y 0 1 d over) (hx : ∀ j, 0 ≤ x j ∧ x j < 65536) (hy : ∀ j, 0 ≤ y j ∧ y j < 65536) : RInv x y 0 2 (fun j => if j = 1 then (d 1 + x 0 * y 1 + over) % 65536 else d j) ((d 1 + x 0 * y 1 + over) / 65536) := by
  have hb := h.b; have ho := h.o; have hv := h.v; have hz := h.z
  have hm := mul_bd (x 0) (y 1) (hx 0) (hy 1)
  have h0 := hb 1
  have hS : S x y 0 2 = S x y 0 1 + x 0 * y 1 * p16 1 := rfl
  generalize x 0 * y 1 = p at *
  refine ⟨fun j => ?_, by omega, ?_, fun j hj => ?_⟩
  · have := hb j; split <;> omega
  · rw [hS, ← hv]; simp only [V, p16]; simp; omega
  · have := hz j hj; rw [if_neg (by omega)]; exact this

theorem RInv.step02 {x y d : Nat → Int} {over : Int} (h : RInv x y 0 2 d over) (hx : ∀ j, 0 ≤ x j ∧ x j < 65536) (hy : ∀ j, 0 ≤ y j ∧ y j < 65536) : RInv x y 0 3 (fun j => if j = 2 then (d 2 + x 0 * y 2 + over) % 65536 else d j) ((d 2 + x 0 * y 2 + over) / 65536) := by
  have hb := h.b; have ho := h.o; have hv := h.v; have hz := h.z
  have hm := mul_bd (x 0) (y 2) (hx 0) (hy 2)
  have h0 := hb 2
  have hS : S x y 0 3 = S x y 0 2 + x 0 * y 2 * p16 2 := rfl
  generalize x 0 * y 2 = p at *
  refine ⟨fun j => ?_, by omega, ?_, fun j hj => ?_⟩
  · have := hb j; split <;> omega
  · rw [hS, ← hv]; simp only [V, p16]; simp; omega
  · have := hz j hj; rw [if_neg (by omega)]; exact this

theorem RInv.step03 {x y d : Nat → Int} {over : Int} (h : RInv x y 0 3 d over) (hx : ∀ j, 0 ≤ x j ∧ x j < 65536) (hy : ∀ j, 0 ≤ y j ∧ y j < 65536) : RInv x y 0 4 (fun j => if j = 3 then (d 3 + x 0 * y 3 + over) % 65536 else d j) ((d 3 + x 0 * y 3 + over) / 65536) := by
  have hb := h.b; have ho := h.o; have hv := h.v; have hz := h.z
  have hm := mul_bd (x 0) (y 3) (hx 0) (hy 3)
  have h0 := hb 3
  have hS : S x y 0 4 = S x y 0 3 + x 0 * y 3 * p16 3 := rfl
  generalize x 0 * y 3 = p at *
  refine ⟨fun j => ?_, by omega, ?_, fun j hj => ?_⟩
  · have := hb j; split <;> omega
  · rw [hS, ← hv]; simp only [V, p16]; simp; omega
  · have := hz j hj; rw [if_neg (by omega)]; exact this

theorem RInv.fin0 {x y d : Nat → Int} {over : Int} (h : RInv x y 0 4 d over) : DInv x y 1 (fun j => if j = 4 then d 4 + over else d j) := by
  have hb := h.b; have ho := h.o; have hv := h.v; have hz := h.z
  have h0 := hz 4 (by omega)
  have hS : S x y 1 0 = S x y 0 4 := rfl
  refine ⟨fun j => ?_, ?_, fun j hj => ?_⟩
  · have := hb j; split <;> omega
  · rw [hS, ← hv]; simp only [V, p16]; simp; omega
  · have := hz j (by omega); rw [if_neg (by omega)]; exact this

theorem RInv.step10 {x y d : Nat → Int} {over : Int} (h : RInv x y 1 0 d over) (hx : ∀ j, 0 ≤ x j ∧ x j < 65536) (hy : ∀ j, 0 ≤ y j ∧ y j < 65536) : RInv x y 1 1 (fun j => if j = 1 then (d 1 + x 1 * y 0 + over) % 65536 else d j) ((d 1 + x 1 * y 0 + over) / 65536) := by
  have hb := h.b; have ho := h.o; have hv := h.v; have hz := h.z
  have hm := mul_bd (x 1) (y 0) (hx 1) (hy 0)
  have h0 := hb 1
  have hS : S x y 1 1 = S x y 1 0 + x 1 * y 0 * p16 1 := rfl
  generalize x 1 * y 0 = p at *
  refine ⟨fun j => ?_, by omega, ?_, fun j hj => ?_⟩
  · have := hb j; split <;> omega
  · rw [hS, ← hv]; simp only [V, p16]; simp; omega
  · have := hz j hj; rw [if_neg (by omega)]; exact this

theorem RInv.step11 {x y d : Nat → Int} {over : Int} (h : RInv x y 1 1 d over) (hx : ∀ j, 0 ≤ x j ∧ x j < 65536) (hy : ∀ j, 0 ≤ y j ∧ y j < 65536) : RInv x y 1 2 (fun j => if j = 2 then (d 2 + x 1 * y 1 + over) % 65536 else d j) ((d 2 + x 1 * y 1 + over) / 65536) := by
  have hb := h.b; have ho := h.o; have hv := h.v; have hz := h.z
  have hm := mul_bd (x 1) (y 1) (hx 1) (hy 1)
  have h0 := hb 2
  have hS : S x y 1 2 = S x y 1 1 + x 1 * y 1 * p16 2 := rfl
  generalize x 1 * y 1 = p at *
  refine ⟨fun j => ?_, by omega, ?_, fun j hj => ?_⟩
  · have := hb j; split <;> omega
  · rw [hS, ← hv]; simp only [V, p16]; simp; omega
  · have := hz j hj; rw [if_neg (by omega)]; exact this

theorem RInv.step12 {x y d : Nat → Int} {over : Int} (h : RInv x y 1 2 d over) (hx : ∀ j, 0 ≤ x j ∧ x j < 65536) (hy : ∀ j, 0 ≤ y j ∧ y j < 65536) : RInv x y 1 3 (fun j => if j = 3 then (d 3 + x 1 * y 2 + over) % 65536 else d j) ((d 3 + x 1 * y 2 + over) / 65536) := by
  have hb := h.b; have ho := h.o; have hv := h.v; have hz := h.z
  have hm := mul_bd (x 1) (y 2) (hx 1) (hy 2)
  have h0 := hb 3
  have hS : S x y 1 3 = S x y 1 2 + x 1 * y 2 * p16 3 := rfl
  generalize x 1 * y 2 = p at *
  refine ⟨fun j => ?_, by omega, ?_, fun j hj => ?_⟩
  · have := hb j; split <;> omega
  · rw [hS, ← hv]; simp only [V, p16]; simp; omega
  · have := hz j hj; rw [if_neg (by omega)]; exact this

theorem RInv.step13 {x y d : Nat → Int} {over : Int} (h : RInv x y 1 3 d over) (hx : ∀ j, 0 ≤ x j ∧ x j < 65536) (hy : ∀ j, 0 ≤ y j ∧ y j < 65536) : RInv x y 1 4 (fun j => if j = 4 then (d 4 + x 1 * y 3 + over) % 65536 else d j) ((d 4 + x 1 * y 3 + over) / 65536) := by
  have hb := h.b; have ho := h.o; have hv := h.v; have hz := h.z
  have hm := mul_bd (x 1) (y 3) (hx 1) (hy 3)
  have h0 := hb 4
  have hS : S x y 1 4 = S x y 1 3 + x 1 * y 3 * p16 4 := rfl
  generalize x 1 * y 3 = p at *
  refine ⟨fun j => ?_, by omega, ?_, fun j hj => ?_⟩
  · have := hb j; split <;> omega
  · rw [hS, ← hv]; simp only [V, p16]; simp; omega
  · have := hz j hj; rw [if_neg (by omega)]; exact this

theorem RInv.fin1 {x y d : Nat → Int} {over : Int} (h : RInv x y 1 4 d over) : DInv x y 2 (fun j => if j = 5 then d 5 + over else d j) := by
  have hb := h.b; have ho := h.o; have hv := h.v; have hz := h.z
  have h0 := hz 5 (by omega)
  have hS : S x y 2 0 = S x y 1 4 := rfl
  refine ⟨fun j => ?_, ?_, fun j hj => ?_⟩
  · have := hb j; split <;> omega
  · rw [hS, ← hv]; simp only [V, p16]; simp; omega
  · have := hz j (by omega); rw [if_neg (by omega)]; exact this

theorem RInv.step20 {x y d : Nat → Int} {over : Int} (h : RInv x y 2 0 d over) (hx : ∀ j, 0 ≤ x j ∧ x j < 65536) (hy : ∀ j, 0 ≤ y j ∧ y j < 65536) : RInv x y 2 1 (fun j => if j = 2 then (d 2 + x 2 * y 0 + over) % 65536 else d j) ((d 2 + x 2 * y 0 + over) / 65536) := by
  have hb := h.b; have ho := h.o; have hv := h.v; have hz := h.z
  have hm := mul_bd (x 2) (y 0) (hx 2) (hy 0)
  have h0 := hb 2
  have hS : S x y 2 1 = S x y 2 0 + x 2 * y 0 * p16 2 := rfl
  generalize x 2 * y 0 = p at *
  refine ⟨fun j => ?_, by omega, ?_, fun j hj => ?_⟩
  · have := hb j; split <;> omega
  · rw [hS, ← hv]; simp only [V, p16]; simp; omega
  · have := hz j hj; rw [if_neg (by omega)]; exact this

theorem RInv.step21 {x y d : Nat → Int} {over : Int} (h : RInv x y 2 1 d over) (hx : ∀ j, 0 ≤ x j ∧ x j < 65536) (hy : ∀ j, 0 ≤ y j ∧ y j < 65536) : RInv x y 2 2 (fun j => if j = 3 then (d 3 + x 2 * y 1 + over) % 65536 else d j) ((d 3 + x 2 * y 1 + over) / 65536) := by
  have hb := h.b; have ho := h.o; have hv := h.v; have hz := h.z
  have hm := mul_bd (x 2) (y 1) (hx 2) (hy 1)
  have h0 := hb 3
  have hS : S x y 2 2 = S x y 2 1 + x 2 * y 1 * p16 3 := rfl
  generalize x 2 * y 1 = p at *
  refine ⟨fun j => ?_, by omega, ?_, fun j hj => ?_⟩
  · have := hb j; split <;> omega
  · rw [hS, ← hv]; simp only [V, p16]; simp; omega
  · have := hz j hj; rw [if_neg (by omega)]; exact this

theorem RInv.step22 {x y d : Nat → Int} {over : Int} (h : RInv x y 2 2 d over) (hx : ∀ j, 0 ≤ x j ∧ x j < 65536) (hy : ∀ j, 0 ≤ y j ∧ y j < 65536) : RInv x y 2 3 (fun j => if j = 4 then (d 4 + x 2 * y 2 + over) % 65536 else d j) ((d 4 + x 2 * y 2 + over) / 65536) := by
  have hb := h.b; have ho := h.o; have hv := h.v; have hz := h.z
  have hm := mul_bd (x 2) (y 2) (hx 2) (hy 2)
  have h0 := hb 4
  have hS : S x y 2 3 = S x y 2 2 + x 2 * y 2 * p16 4 := rfl
  generalize x 2 * y 2 = p at *
  refine ⟨fun j => ?_, by omega, ?_, fun j hj => ?_⟩
  · have := hb j; split <;> omega
  · rw [hS, ← hv]; simp only [V, p16]; simp; omega
  · have := hz j hj; rw [if_neg (by omega)]; exact this

theorem RInv.step23 {x y d : Nat → Int} {over : Int} (h : RInv x y 2 3 d over) (hx : ∀ j, 0 ≤ x j ∧ x j < 65536) (hy : ∀ j, 0 ≤ y j ∧ y j < 65536) : RInv x y 2 4 (fun j => if j = 5 then (d 5 + x 2 * y 3 + over) % 65536 else d j) ((d 5 + x 2 * y 3 + over) / 65536) := by
  have hb := h.b; have ho := h.o; have hv := h.v; have hz := h.z
  have hm := mul_bd (x 2) (y 3) (hx 2) (hy 3)
  have h0 := hb 5
  have hS : S x y 2 4 = S x y 2 3 + x 2 * y 3 * p16 5 := rfl
  generalize x 2 * y 3 = p at *
  refine ⟨fun j => ?_, by omega, ?_, fun j hj => ?_⟩
  · have := hb j; split <;> omega
  · rw [hS, ← hv]; simp only [V, p16]; simp; omega
  · have := hz j hj; rw [if_neg (by omega)]; exact this

theorem RInv.fin2 {x y d : Nat → Int} {over : Int} (h : RInv x y 2 4 d over) : DInv x y 3 (fun j => if j = 6 then d 6 + over else d j) := by
  have hb := h.b; have ho := h.o; have hv := h.v; have hz := h.z
  have h0 := hz 6 (by omega)
  have hS : S x y 3 0 = S x y 2 4 := rfl
  refine ⟨fun j => ?_, ?_, fun j hj => ?_⟩
  · have := hb j; split <;> omega
  · rw [hS, ← hv]; simp only [V, p16]; simp; omega
  · have := hz j (by omega); rw [if_neg (by omega)]; exact this

theorem RInv.step30 {x y d : Nat → Int} {over : Int} (h : RInv x y 3 0 d over) (hx : ∀ j, 0 ≤ x j ∧ x j < 65536) (hy : ∀ j, 0 ≤ y j ∧ y j < 65536) : RInv x y 3 1 (fun j => if j = 3 then (d 3 + x 3 * y 0 + over) % 65536 else d j) ((d 3 + x 3 * y 0 + over) / 65536) := by
  have hb := h.b; have ho := h.o; have hv := h.v; have hz := h.z
  have hm := mul_bd (x 3) (y 0) (hx 3) (hy 0)
  have h0 := hb 3
  have hS : S x y 3 1 = S x y 3 0 + x 3 * y 0 * p16 3 := rfl
  generalize x 3 * y 0 = p at *
  refine ⟨fun j => ?_, by omega, ?_, fun j hj => ?_⟩
  · have := hb j; split <;> omega
  · rw [hS, ← hv]; simp only [V, p16]; simp; omega
  · have := hz j hj; rw [if_neg (by omega)]; exact this

theorem RInv.step31 {x y d : Nat → Int} {over : Int} (h : RInv x y 3 1 d over) (hx : ∀ j, 0 ≤ x j ∧ x j < 65536) (hy : ∀ j, 0 ≤ y j ∧ y j < 65536) : RInv x y 3 2 (fun j => if j = 4 then (d 4 + x 3 * y 1 + over) % 65536 else d j) ((d 4 + x 3 * y 1 + over) / 65536) := by
  have hb := h.b; have ho := h.o; have hv := h.v; have hz := h.z
  have hm := mul_bd (x 3) (y 1) (hx 3) (hy 1)
  have h0 := hb 4
  have hS : S x y 3 2 = S x y 3 1 + x 3 * y 1 * p16 4 := rfl
  generalize x 3 * y 1 = p at *
  refine ⟨fun j => ?_, by omega, ?_, fun j hj => ?_⟩
  · have := hb j; split <;> omega
  · rw [hS, ← hv]; simp only [V, p16]; simp; omega
  · have := hz j hj; rw [if_neg (by omega)]; exact this

theorem RInv.step32 {x y d : Nat → Int} {over : Int} (h : RInv x y 3 2 d over) (hx : ∀ j, 0 ≤ x j ∧ x j < 65536) (hy : ∀ j, 0 ≤ y j ∧ y j < 65536) : RInv x y 3 3 (fun j => if j = 5 then (d 5 + x 3 * y 2 + over) % 65536 else d j) ((d 5 + x 3 * y 2 + over) / 65536) := by
  have hb := h.b; have ho := h.o; have hv := h.v; have hz := h.z
  have hm := mul_bd (x 3) (y 2) (hx 3) (hy 2)
  have h0 := hb 5
  have hS : S x y 3 3 = S x y 3 2 + x 3 * y 2 * p16 5 := rfl
  generalize x 3 * y 2 = p at *
  refine ⟨fun j => ?_, by omega, ?_, fun j hj => ?_⟩
  · have := hb j; split <;> omega
  · rw [hS, ← hv]; simp only [V, p16]; simp; omega
  · have := hz j hj; rw [if_neg (by omega)]; exact this

theorem RInv.step33 {x y d : Nat → Int} {over : Int} (h : RInv x y 3 3 d over) (hx : ∀ j, 0 ≤ x j ∧ x j < 65536) (hy : ∀ j, 0 ≤ y j ∧ y j < 65536) : RInv x y 3 4 (fun j => if j = 6 then (d 6 + x 3 * y 3 + over) % 65536 else d j) ((d 6 + x 3 * y 3 + over) / 65536) := by
  have hb := h.b; have ho := h.o; have hv := h.v; have hz := h.z
  have hm := mul_bd (x 3) (y 3) (hx 3) (hy 3)
  have h0 := hb 6
  have hS : S x y 3 4 = S x y 3 3 + x 3 * y 3 * p16 6 := rfl
  generalize x 3 * y 3 = p at *
  refine ⟨fun j => ?_, by omega, ?_, fun j hj => ?_⟩
  · have := hb j; split <;> omega
  · rw [hS, ← hv]; simp only [V, p16]; simp; omega
  · have := hz j hj; rw [if_neg (by omega)]; exact this

theorem RInv.fin3 {x y d : Nat → Int} {over : Int} (h : RInv x y 3 4 d over) : DInv x y 4 (fun j => if j = 7 then d 7 + over else d j) := by
  have hb := h.b; have ho := h.o; have hv := h.v; have hz := h.z
  have h0 := hz 7 (by omega)
  have hS : S x y 4 0 = S x y 3 4 := rfl
  refine ⟨fun j => ?_, ?_, fun j hj => ?_⟩
  · have := hb j; split <;> omega
  · rw [hS, ← hv]; simp only [V, p16]; simp; omega
  · have := hz j (by omega); rw [if_neg (by omega)]; exact this

theorem DInv.fin {x y d : Nat → Int} (h : DInv x y 4 d) (X Y : Int) (hX : x 0 + x 1 * 65536 + x 2 * 4294967296 + x 3 * 281474976710656 = X) (hY : y 0 + y 1 * 65536 + y 2 * 4294967296 + y 3 * 281474976710656 = Y) (lX : 0 ≤ X) (uX : X < 18446744073709551616) (lY : 0 ≤ Y) (uY : Y < 18446744073709551616) :
    d 0 + d 1 * 65536 + d 2 * 4294967296 + d 3 * 281474976710656 = X * Y % 18446744073709551616 ∧ d 4 + d 5 * 65536 + d 6 * 4294967296 + d 7 * 281474976710656 = X * Y / 18446744073709551616 := by
  have hb := h.b; have hv := h.v; have hz := h.z 8 (by omega)
  have e : S x y 4 0 = X * Y := by
    have r : ∀ c : Int, c * (y 0 + y 1 * 65536 + y 2 * 4294967296 + y 3 * 281474976710656) = c * y 0 + c * y 1 * 65536 + c * y 2 * 4294967296 + c * y 3 * 281474976710656 := fun c => by
      simp only [Int.mul_add, ← Int.mul_assoc]
    have q : ∀ Z : Int, (x 0 + x 1 * 65536 + x 2 * 4294967296 + x 3 * 281474976710656) * Z = x 0 * Z + x 1 * Z * 65536 + x 2 * Z * 4294967296 + x 3 * Z * 281474976710656 := fun Z => by
      rw [Int.add_mul, Int.add_mul, Int.add_mul, Int.mul_right_comm (x 1), Int.mul_right_comm (x 2), Int.mul_right_comm (x 3)]
    rw [← hX, ← hY, q, r, r, r, r]
    have u : S x y 4 0 = 0 + x 0 * y 0 * 1 + x 0 * y 1 * 65536 + x 0 * y 2 * 4294967296 + x 0 * y 3 * 281474976710656 + x 1 * y 0 * 65536 + x 1 * y 1 * 4294967296 + x 1 * y 2 * 281474976710656 + x 1 * y 3 * 18446744073709551616 + x 2 * y 0 * 4294967296 + x 2 * y 1 * 281474976710656 + x 2 * y 2 * 18446744073709551616 + x 2 * y 3 * 1208925819614629174706176 + x 3 * y 0 * 281474976710656 + x 3 * y 1 * 18446744073709551616 + x 3 * y 2 * 1208925819614629174706176 + x 3 * y 3 * 79228162514264337593543950336 := rfl
    rw [u]
    generalize x 0 * y 0 = p00; generalize x 0 * y 1 = p01; generalize x 0 * y 2 = p02; generalize x 0 * y 3 = p03
    generalize x 1 * y 0 = p10; generalize x 1 * y 1 = p11; generalize x 1 * y 2 = p12; generalize x 1 * y 3 = p13
    generalize x 2 * y 0 = p20; generalize x 2 * y 1 = p21; generalize x 2 * y 2 = p22; generalize x 2 * y 3 = p23
    generalize x 3 * y 0 = p30; generalize x 3 * y 1 = p31; generalize x 3 * y 2 = p32; generalize x 3 * y 3 = p33
    omega
  rw [e] at hv
  generalize X * Y = z at *
  have h0 := hb 0; have h1 := hb 1; have h2 := hb 2; have h3 := hb 3; have h4 := hb 4; have h5 := hb 5; have h6 := hb 6; have h7 := hb 7
  simp only [V] at hv
  constructor <;> omega

set_option maxHeartbeats 1000000 in
theorem times_any (a b : Int) (w : World) (h0 : 0 ≤ a) (h1 : a < 18446744073709551616) (g0 : 0 ≤ b) (g1 : b < 18446744073709551616) :
    Calls Tryz.prog 76 #[.int .u64 a, .int .u64 b] w fun e w' => e = .returned (.tuple #[.int .u64 (a * b % 18446744073709551616), .int .u64 (a * b / 18446744073709551616)]) ∧ Below w.heap.size w w' := by
  have hxd := dig_bd a h0 h1
  have hyd := dig_bd b g0 g1
  have hxs := Lib.hid (dig_sum a h0 h1)
  have hys := Lib.hid (dig_sum b g0 g1)
  go_enter Tryz.func76, Tryz.ntmps76
  go_wp2_with (go_at_call 90; (with_reducible refine (of_any _ _ (by omega) (by omega)).mono ?_); rintro e w' ⟨rfl, rfl⟩)
  have hB4 : Below w.heap.size w ((((w.alloc (.cells #[.int .u64 (dig a 0), .int .u64 (dig a 1), .int .u64 (dig a 2), .int .u64 (dig a 3)] 120)).alloc (.cells #[.int .u64 (dig a 0), .int .u64 (dig a 1), .int .u64 (dig a 2), .int .u64 (dig a 3)] 120)).alloc (.cells #[.int .u64 (dig b 0), .int .u64 (dig b 1), .int .u64 (dig b 2), .int .u64 (dig b 3)] 120)).alloc (.cells #[.int .u64 (dig b 0), .int .u64 (dig b 1), .int .u64 (dig b 2), .int .u64 (dig b 3)] 120)) := ((((Below.refl _ _).alloc (Nat.le_refl _) _).alloc (by simp) _).alloc (by simp; omega) _).alloc (by simp; omega) _

  obtain ⟨W4, hW4⟩ : ∃ W, ((((w.alloc (.cells #[.int .u64 (dig a 0), .int .u64 (dig a 1), .int .u64 (dig a 2), .int .u64 (dig a 3)] 120)).alloc (.cells #[.int .u64 (dig a 0), .int .u64 (dig a 1), .int .u64 (dig a 2), .int .u64 (dig a 3)] 120)).alloc (.cells #[.int .u64 (dig b 0), .int .u64 (dig b 1), .int .u64 (dig b 2), .int .u64 (dig b 3)] 120)).alloc (.cells #[.int .u64 (dig b 0), .int .u64 (dig b 1), .int .u64 (dig b 2), .int .u64 (dig b 3)] 120)) = W := ⟨_, rfl⟩
  have hs4 : w.heap.size + 1 + 1 + 1 + 1 = W4.heap.size := by rw [← hW4]; simp

  have hx0 : W4.cell? ⟨w.heap.size + 1, 0, none⟩ = some (.int .u64 (dig a 0)) := by rw [← hW4]; simp [go_sem]
  have hx1 : W4.cell? ⟨w.heap.size + 1, 1, none⟩ = some (.int .u64 (dig a 1)) := by rw [← hW4]; simp [go_sem]
  have hx2 : W4.cell? ⟨w.heap.size + 1, 2, none⟩ = some (.int .u64 (dig a 2)) := by rw [← hW4]; simp [go_sem]
  have hx3 : W4.cell? ⟨w.heap.size + 1, 3, none⟩ = some (.int .u64 (dig a 3)) := by rw [← hW4]; simp [go_sem]
  have hy0 : W4.cell? ⟨w.heap.size + 1 + 1 + 1, 0, none⟩ = some (.int .u64 (dig b 0)) := by rw [← hW4]; simp [go_sem]
  have hy1 : W4.cell? ⟨w.heap.size + 1 + 1 + 1, 1, none⟩ = some (.int .u64 (dig b 1)) := by rw [← hW4]; simp [go_sem]
  have hy2 : W4.cell? ⟨w.heap.size + 1 + 1 + 1, 2, none⟩ = some (.int .u64 (dig b 2)) := by rw [← hW4]; simp [go_sem]
  have hy3 : W4.cell? ⟨w.heap.size + 1 + 1 + 1, 3, none⟩ = some (.int .u64 (dig b 3)) := by rw [← hW4]; simp [go_sem]
  rw [hs4]
  rw [hW4] at hB4 ⊢
  have hl1 : w.heap.size + 1 < W4.heap.size := by omega
  have hl2 : w.heap.size + 1 + 1 + 1 < W4.heap.size := by omega
  clear hW4 hs4
  go_loopw [9, 10, 11, 12] (fun i _ _ _ wr => ∃ (i' : Nat) (d : Nat → Int) (nd : Nat), i = .int .i64 i' ∧ i' ≤ 4 ∧ Hid (DInv (dig a) (dig b) i' d) ∧ wr = ((W4.alloc (.cells #[.int .u64 (d 0), .int .u64 (d 1), .int .u64 (d 2), .int .u64 (d 3), .int .u64 (d 4), .int .u64 (d 5), .int .u64 (d 6), .int .u64 (d 7), .int .u64 (d 8)] 122)).drewN nd)) (fun i _ _ _ _ => 4 - (intOf i).toNat)
  case atStart => exact ⟨0, fun _ => 0, 0, rfl, by omega, Lib.hid (DInv.start _ _), rfl⟩
  case round =>
    obtain ⟨i, d, nd, rfl, hi, hd, rfl⟩ := hrel
    by_cases hlt : i < 4
    · have hc : i = 0 ∨ i = 1 ∨ i = 2 ∨ i = 3 := by omega
      clear hi hlt
      rcases hc with rfl | rfl | rfl | rfl
      · go_wp2
        go_loopw [10, 11, 12] (fun over k _ wr => ∃ (k' : Nat) (d : Nat → Int) (ov : Int) (nd : Nat), k = .int .i64 k' ∧ k' ≤ 4 ∧ over = .int .u64 ov ∧ Hid (RInv (dig a) (dig b) 0 k' d ov) ∧ wr = ((W4.alloc (.cells #[.int .u64 (d 0), .int .u64 (d 1), .int .u64 (d 2), .int .u64 (d 3), .int .u64 (d 4), .int .u64 (d 5), .int .u64 (d 6), .int .u64 (d 7), .int .u64 (d 8)] 122)).drewN nd)) (fun _ k _ _ => 4 - (intOf k).toNat)
        case atStart => exact ⟨0, d, 0, nd, rfl, by omega, rfl, Lib.hid hd.out.row, rfl⟩
        case round =>
          clear hd d nd
          obtain ⟨k, d, ov, nd, rfl, hk, rfl, hd, rfl⟩ := hrel
          by_cases hlt : k < 4
          · have hc : k = 0 ∨ k = 1 ∨ k = 2 ∨ k = 3 := by omega
            clear hk hlt
            have ho := hd.out.o
            rcases hc with rfl | rfl | rfl | rfl
            · have hm := mul_bd (dig a 0) (dig b 0) (hxd 0) (hyd 0)
              have hdj := hd.out.b 0
              have hst := Lib.hid (hd.out.step00 hxd hyd)
              clear hd
              go_wp2
              go_quiet (fail)
              go_wp2
              go_roundw
              case rel => exact ⟨1, _, (d 0 + dig a 0 * dig b 0 + ov) / 65536, _, rfl, by omega, rfl, hst, by rw [set_own]; rfl⟩
              case measure => simp [intOf]
            · have hm := mul_bd (dig a 0) (dig b 1) (hxd 0) (hyd 1)
              have hdj := hd.out.b 1
              have hst := Lib.hid (hd.out.step01 hxd hyd)
              clear hd
              go_wp2
              go_quiet (fail)
              go_wp2
              go_roundw
              case rel => exact ⟨2, _, (d 1 + dig a 0 * dig b 1 + ov) / 65536, _, rfl, by omega, rfl, hst, by rw [set_own]; rfl⟩
              case measure => simp [intOf]
            · have hm := mul_bd (dig a 0) (dig b 2) (hxd 0) (hyd 2)
              have hdj := hd.out.b 2
              have hst := Lib.hid (hd.out.step02 hxd hyd)
              clear hd
              go_wp2
              go_quiet (fail)
              go_wp2
              go_roundw
              case rel => exact ⟨3, _, (d 2 + dig a 0 * dig b 2 + ov) / 65536, _, rfl, by omega, rfl, hst, by rw [set_own]; rfl⟩
              case measure => simp [intOf]
            · have hm := mul_bd (dig a 0) (dig b 3) (hxd 0) (hyd 3)
              have hdj := hd.out.b 3
              have hst := Lib.hid (hd.out.step03 hxd hyd)
              clear hd
              go_wp2
              go_quiet (fail)
              go_wp2
              go_roundw
              case rel => exact ⟨4, _, (d 3 + dig a 0 * dig b 3 + ov) / 65536, _, rfl, by omega, rfl, hst, by rw [set_own]; rfl⟩
              case measure => simp [intOf]
          · obtain rfl : k = 4 := by omega
            have hst := Lib.hid hd.out.fin0
            have hdj := hd.out.b 4
            have ho := hd.out.o
            have hz := Lib.hid (hd.out.z 4 (by omega))
            clear hd
            go_wp2
            go_roundw
            case rel => exact ⟨1, _, _, rfl, by omega, hst, by rw [set_own]; rfl⟩
            case measure => simp [intOf]
      · go_wp2
        go_loopw [10, 11, 12] (fun over k _ wr => ∃ (k' : Nat) (d : Nat → Int) (ov : Int) (nd : Nat), k = .int .i64 k' ∧ k' ≤ 4 ∧ over = .int .u64 ov ∧ Hid (RInv (dig a) (dig b) 1 k' d ov) ∧ wr = ((W4.alloc (.cells #[.int .u64 (d 0), .int .u64 (d 1), .int .u64 (d 2), .int .u64 (d 3), .int .u64 (d 4), .int .u64 (d 5), .int .u64 (d 6), .int .u64 (d 7), .int .u64 (d 8)] 122)).drewN nd)) (fun _ k _ _ => 4 - (intOf k).toNat)
        case atStart => exact ⟨0, d, 0, nd, rfl, by omega, rfl, Lib.hid hd.out.row, rfl⟩
        case round =>
          clear hd d nd
          obtain ⟨k, d, ov, nd, rfl, hk, rfl, hd, rfl⟩ := hrel
          by_cases hlt : k < 4
          · have hc : k = 0 ∨ k = 1 ∨ k = 2 ∨ k = 3 := by omega
            clear hk hlt
            have ho := hd.out.o
            rcases hc with rfl | rfl | rfl | rfl
            · have hm := mul_bd (dig a 1) (dig b 0) (hxd 1) (hyd 0)
              have hdj := hd.out.b 1
              have hst := Lib.hid (hd.out.step10 hxd hyd)
              clear hd
              go_wp2
              go_quiet (fail)
              go_wp2
              go_roundw
              case rel => exact ⟨1, _, (d 1 + dig a 1 * dig b 0 + ov) / 65536, _, rfl, by omega, rfl, hst, by rw [set_own]; rfl⟩
              case measure => simp [intOf]
            · have hm := mul_bd (dig a 1) (dig b 1) (hxd 1) (hyd 1)
              have hdj := hd.out.b 2
              have hst := Lib.hid (hd.out.step11 hxd hyd)
              clear hd
              go_wp2
              go_quiet (fail)
              go_wp2
              go_roundw
              case rel => exact ⟨2, _, (d 2 + dig a 1 * dig b 1 + ov) / 65536, _, rfl, by omega, rfl, hst, by rw [set_own]; rfl⟩
              case measure => simp [intOf]
            · have hm := mul_bd (dig a 1) (dig b 2) (hxd 1) (hyd 2)
              have hdj := hd.out.b 3
              have hst := Lib.hid (hd.out.step12 hxd hyd)
              clear hd
              go_wp2
              go_quiet (fail)
              go_wp2
              go_roundw
              case rel => exact ⟨3, _, (d 3 + dig a 1 * dig b 2 + ov) / 65536, _, rfl, by omega, rfl, hst, by rw [set_own]; rfl⟩
              case measure => simp [intOf]
            · have hm := mul_bd (dig a 1) (dig b 3) (hxd 1) (hyd 3)
              have hdj := hd.out.b 4
              have hst := Lib.hid (hd.out.step13 hxd hyd)
              clear hd
              go_wp2
              go_quiet (fail)
              go_wp2
              go_roundw
              case rel => exact ⟨4, _, (d 4 + dig a 1 * dig b 3 + ov) / 65536, _, rfl, by omega, rfl, hst, by rw [set_own]; rfl⟩
              case measure => simp [intOf]
          · obtain rfl : k = 4 := by omega
            have hst := Lib.hid hd.out.fin1
            have hdj := hd.out.b 5
            have ho := hd.out.o
            have hz := Lib.hid (hd.out.z 5 (by omega))
            clear hd
            go_wp2
            go_roundw
            case rel => exact ⟨2, _, _, rfl, by omega, hst, by rw [set_own]; rfl⟩
            case measure => simp [intOf]
      · go_wp2
        go_loopw [10, 11, 12] (fun over k _ wr => ∃ (k' : Nat) (d : Nat → Int) (ov : Int) (nd : Nat), k = .int .i64 k' ∧ k' ≤ 4 ∧ over = .int .u64 ov ∧ Hid (RInv (dig a) (dig b) 2 k' d ov) ∧ wr = ((W4.alloc (.cells #[.int .u64 (d 0), .int .u64 (d 1), .int .u64 (d 2), .int .u64 (d 3), .int .u64 (d 4), .int .u64 (d 5), .int .u64 (d 6), .int .u64 (d 7), .int .u64 (d 8)] 122)).drewN nd)) (fun _ k _ _ => 4 - (intOf k).toNat)
        case atStart => exact ⟨0, d, 0, nd, rfl, by omega, rfl, Lib.hid hd.out.row, rfl⟩
        case round =>
          clear hd d nd
          obtain ⟨k, d, ov, nd, rfl, hk, rfl, hd, rfl⟩ := hrel
          by_cases hlt : k < 4
          · have hc : k = 0 ∨ k = 1 ∨ k = 2 ∨ k = 3 := by omega
            clear hk hlt
            have ho := hd.out.o
            rcases hc with rfl | rfl | rfl | rfl
            · have hm := mul_bd (dig a 2) (dig b 0) (hxd 2) (hyd 0)
              have hdj := hd.out.b 2
              have hst := Lib.hid (hd.out.step20 hxd hyd)
              clear hd
              go_wp2
              go_quiet (fail)
              go_wp2
              go_roundw
              case rel => exact ⟨1, _, (d 2 + dig a 2 * dig b 0 + ov) / 65536, _, rfl, by omega, rfl, hst, by rw [set_own]; rfl⟩
              case measure => simp [intOf]
            · have hm := mul_bd (dig a 2) (dig b 1) (hxd 2) (hyd 1)
              have hdj := hd.out.b 3
              have hst := Lib.hid (hd.out.step21 hxd hyd)
              clear hd
              go_wp2
              go_quiet (fail)
              go_wp2
              go_roundw
              case rel => exact ⟨2, _, (d 3 + dig a 2 * dig b 1 + ov) / 65536, _, rfl, by omega, rfl, hst, by rw [set_own]; rfl⟩
              case measure => simp [intOf]
            · have hm := mul_bd (dig a 2) (dig b 2) (hxd 2) (hyd 2)
              have hdj := hd.out.b 4
              have hst := Lib.hid (hd.out.step22 hxd hyd)
              clear hd
              go_wp2
              go_quiet (fail)
              go_wp2
              go_roundw
              case rel => exact ⟨3, _, (d 4 + dig a 2 * dig b 2 + ov) / 65536, _, rfl, by omega, rfl, hst, by rw [set_own]; rfl⟩
              case measure => simp [intOf]
            · have hm := mul_bd (dig a 2) (dig b 3) (hxd 2) (hyd 3)
              have hdj := hd.out.b 5
              have hst := Lib.hid (hd.out.step23 hxd hyd)
              clear hd
              go_wp2
              go_quiet (fail)
              go_wp2
              go_roundw
              case rel => exact ⟨4, _, (d 5 + dig a 2 * dig b 3 + ov) / 65536, _, rfl, by omega, rfl, hst, by rw [set_own]; rfl⟩
              case measure => simp [intOf]
          · obtain rfl : k = 4 := by omega
            have hst := Lib.hid hd.out.fin2
            have hdj := hd.out.b 6
            have ho := hd.out.o
            have hz := Lib.hid (hd.out.z 6 (by omega))
            clear hd
            go_wp2
            go_roundw
            case rel => exact ⟨3, _, _, rfl, by omega, hst, by rw [set_own]; rfl⟩
            case measure => simp [intOf]
      · go_wp2
        go_loopw [10, 11, 12] (fun over k _ wr => ∃ (k' : Nat) (d : Nat → Int) (ov : Int) (nd : Nat), k = .int .i64 k' ∧ k' ≤ 4 ∧ over = .int .u64 ov ∧ Hid (RInv (dig a) (dig b) 3 k' d ov) ∧ wr = ((W4.alloc (.cells #[.int .u64 (d 0), .int .u64 (d 1), .int .u64 (d 2), .int .u64 (d 3), .int .u64 (d 4), .int .u64 (d 5), .int .u64 (d 6), .int .u64 (d 7), .int .u64 (d 8)] 122)).drewN nd)) (fun _ k _ _ => 4 - (intOf k).toNat)
        case atStart => exact ⟨0, d, 0, nd, rfl, by omega, rfl, Lib.hid hd.out.row, rfl⟩
        case round =>
          clear hd d nd
          obtain ⟨k, d, ov, nd, rfl, hk, rfl, hd, rfl⟩ := hrel
          by_cases hlt : k < 4
          · have hc : k = 0 ∨ k = 1 ∨ k = 2 ∨ k = 3 := by omega
            clear hk hlt
            have ho := hd.out.o
            rcases hc with rfl | rfl | rfl | rfl
            · have hm := mul_bd (dig a 3) (dig b 0) (hxd 3) (hyd 0)
              have hdj := hd.out.b 3
              have hst := Lib.hid (hd.out.step30 hxd hyd)
              clear hd
              go_wp2
              go_quiet (fail)
              go_wp2
              go_roundw
              case rel => exact ⟨1, _, (d 3 + dig a 3 * dig b 0 + ov) / 65536, _, rfl, by omega, rfl, hst, by rw [set_own]; rfl⟩
              case measure => simp [intOf]
            · have hm := mul_bd (dig a 3) (dig b 1) (hxd 3) (hyd 1)
              have hdj := hd.out.b 4
              have hst := Lib.hid (hd.out.step31 hxd hyd)
              clear hd
              go_wp2
              go_quiet (fail)
              go_wp2
              go_roundw
              case rel => exact ⟨2, _, (d 4 + dig a 3 * dig b 1 + ov) / 65536, _, rfl, by omega, rfl, hst, by rw [set_own]; rfl⟩
              case measure => simp [intOf]
            · have hm := mul_bd (dig a 3) (dig b 2) (hxd 3) (hyd 2)
              have hdj := hd.out.b 5
              have hst := Lib.hid (hd.out.step32 hxd hyd)
              clear hd
              go_wp2
              go_quiet (fail)
              go_wp2
              go_roundw
              case rel => exact ⟨3, _, (d 5 + dig a 3 * dig b 2 + ov) / 65536, _, rfl, by omega, rfl, hst, by rw [set_own]; rfl⟩
              case measure => simp [intOf]
            · have hm := mul_bd (dig a 3) (dig b 3) (hxd 3) (hyd 3)
              have hdj := hd.out.b 6
              have hst := Lib.hid (hd.out.step33 hxd hyd)
              clear hd
              go_wp2
              go_quiet (fail)
              go_wp2
              go_roundw
              case rel => exact ⟨4, _, (d 6 + dig a 3 * dig b 3 + ov) / 65536, _, rfl, by omega, rfl, hst, by rw [set_own]; rfl⟩
              case measure => simp [intOf]
          · obtain rfl : k = 4 := by omega
            have hst := Lib.hid hd.out.fin3
            have hdj := hd.out.b 7
            have ho := hd.out.o
            have hz := Lib.hid (hd.out.z 7 (by omega))
            clear hd
            go_wp2
            go_roundw
            case rel => exact ⟨4, _, _, rfl, by omega, hst, by rw [set_own]; rfl⟩
            case measure => simp [intOf]
    · obtain rfl : i = 4 := by omega
      have hfin := hd.out.fin a b hxs.out hys.out h0 h1 g0 g1
      have hdb := hd.out.b
      clear hd hi hlt
      obtain ⟨W5, hW5⟩ : ∃ W, ((W4.alloc (.cells #[.int .u64 (d 0), .int .u64 (d 1), .int .u64 (d 2), .int .u64 (d 3), .int .u64 (d 4), .int .u64 (d 5), .int .u64 (d 6), .int .u64 (d 7), .int .u64 (d 8)] 122)).drewN nd) = W := ⟨_, rfl⟩
      have hB5 : Below w.heap.size w W5 := by rw [← hW5]; exact below_drewN' (hB4.alloc hB4.size _) nd
      have hc0 : W5.cell? ⟨W4.heap.size, 0, none⟩ = some (.int .u64 (d 0)) := by rw [← hW5]; simp [go_sem]
      have hc1 : W5.cell? ⟨W4.heap.size, 1, none⟩ = some (.int .u64 (d 1)) := by rw [← hW5]; simp [go_sem]
      have hc2 : W5.cell? ⟨W4.heap.size, 2, none⟩ = some (.int .u64 (d 2)) := by rw [← hW5]; simp [go_sem]
      have hc3 : W5.cell? ⟨W4.heap.size, 3, none⟩ = some (.int .u64 (d 3)) := by rw [← hW5]; simp [go_sem]
      have hc4 : W5.cell? ⟨W4.heap.size, 4, none⟩ = some (.int .u64 (d 4)) := by rw [← hW5]; simp [go_sem]
      have hc5 : W5.cell? ⟨W4.heap.size, 5, none⟩ = some (.int .u64 (d 5)) := by rw [← hW5]; simp [go_sem]
      have hc6 : W5.cell? ⟨W4.heap.size, 6, none⟩ = some (.int .u64 (d 6)) := by rw [← hW5]; simp [go_sem]
      have hc7 : W5.cell? ⟨W4.heap.size, 7, none⟩ = some (.int .u64 (d 7)) := by rw [← hW5]; simp [go_sem]
      have hlt5 : W4.heap.size < W5.heap.size := by rw [← hW5]; simp
      rw [hW5]
      clear hW5 hx0 hx1 hx2 hx3 hy0 hy1 hy2 hy3 hl1 hl2
      go_wp2
      refine Cls.region (fun w' => Below W5.heap.size W5 w') (by kernel_rfl) (by kernel_rfl) (Below.refl _ _).drew ?_
      refine Cls.value ?_ rfl (fun w' hw' => ?_) ?_
      rotate_left
      · go_simp; rfl
      refine Cls.value ?_ rfl (fun w' hw' => ?_) ?_
      rotate_left
      · have hc := (hw'.cell (p := ⟨W4.heap.size, 0, none⟩) hlt5).trans hc0
        go_simp; rfl
      refine Cls.value ?_ rfl (fun w' hw' => ?_) ?_
      rotate_left
      · go_simp; rfl
      refine Cls.value ?_ rfl (fun w' hw' => ?_) ?_
      rotate_left
      · have hc := (hw'.cell (p := ⟨W4.heap.size, 1, none⟩) hlt5).trans hc1
        go_simp; rfl
      refine Cls.value ?_ rfl (fun w' hw' => ?_) ?_
      rotate_left
      · go_simp; rfl
      refine Cls.value ?_ rfl (fun w' hw' => ?_) ?_
      rotate_left
      · have hc := (hw'.cell (p := ⟨W4.heap.size, 2, none⟩) hlt5).trans hc2
        go_simp; rfl
      refine Cls.value ?_ rfl (fun w' hw' => ?_) ?_
      rotate_left
      · go_simp; rfl
      refine Cls.value ?_ rfl (fun w' hw' => ?_) ?_
      rotate_left
      · have hc := (hw'.cell (p := ⟨W4.heap.size, 3, none⟩) hlt5).trans hc3
        go_simp; rfl
      refine Cls.value ?_ rfl (fun w' hw' => ?_) ?_
      rotate_left
      · go_simp; rfl
      refine Cls.call 91 #[.agg #[.int .u64 (d 0), .int .u64 (d 1), .int .u64 (d 2), .int .u64 (d 3)]] (.int .u64 (d 0 + d 1 * 65536 + d 2 * 4294967296 + d 3 * 281474976710656)) rfl (fun w' => ?_) (fun w' hw' => (to_any _ _ _ _ w' (hdb _).1 (hdb _).2 (hdb _).1 (hdb _).2 (hdb _).1 (hdb _).2 (hdb _).1 (hdb _).2).mono ?_) ?_
      · go_simp
      · rintro e w'' ⟨rfl, hb⟩; exact ⟨rfl, hw'.trans (hb.mono hw'.size)⟩
      refine Cls.value ?_ rfl (fun w' hw' => ?_) ?_
      rotate_left
      · go_simp; rfl
      refine Cls.value ?_ rfl (fun w' hw' => ?_) ?_
      rotate_left
      · have hc := (hw'.cell (p := ⟨W4.heap.size, 4, none⟩) hlt5).trans hc4
        go_simp; rfl
      refine Cls.value ?_ rfl (fun w' hw' => ?_) ?_
      rotate_left
      · go_simp; rfl
      refine Cls.value ?_ rfl (fun w' hw' => ?_) ?_
      rotate_left
      · have hc := (hw'.cell (p := ⟨W4.heap.size, 5, none⟩) hlt5).trans hc5
        go_simp; rfl
      refine Cls.value ?_ rfl (fun w' hw' => ?_) ?_
      rotate_left
      · go_simp; rfl
      refine Cls.value ?_ rfl (fun w' hw' => ?_) ?_
      rotate_left
      · have hc := (hw'.cell (p := ⟨W4.heap.size, 6, none⟩) hlt5).trans hc6
        go_simp; rfl
      refine Cls.value ?_ rfl (fun w' hw' => ?_) ?_
      rotate_left
      · go_simp; rfl
      refine Cls.value ?_ rfl (fun w' hw' => ?_) ?_
      rotate_left
      · have hc := (hw'.cell (p := ⟨W4.heap.size, 7, none⟩) hlt5).trans hc7
        go_simp; rfl
      refine Cls.value ?_ rfl (fun w' hw' => ?_) ?_
      rotate_left
      · go_simp; rfl
      refine Cls.call 91 #[.agg #[.int .u64 (d 4), .int .u64 (d 5), .int .u64 (d 6), .int .u64 (d 7)]] (.int .u64 (d 4 + d 5 * 65536 + d 6 * 4294967296 + d 7 * 281474976710656)) rfl (fun w' => ?_) (fun w' hw' => (to_any _ _ _ _ w' (hdb _).1 (hdb _).2 (hdb _).1 (hdb _).2 (hdb _).1 (hdb _).2 (hdb _).1 (hdb _).2).mono ?_) ?_
      · go_simp
      · rintro e w'' ⟨rfl, hb⟩; exact ⟨rfl, hw'.trans (hb.mono hw'.size)⟩
      refine Cls.value ?_ rfl (fun w' hw' => ?_) ?_
      rotate_left
      · go_simp; rfl
      refine Cls.value ?_ rfl (fun w' hw' => ?_) ?_
      rotate_left
      · go_simp; rfl
      refine Cls.done (fun w' hw' => ?_)
      simp only [Act.put, List.setIfInBounds_toArray, List.set_cons_zero, List.set_cons_succ]
      go_wp2
      go_ret2
      refine ⟨?_, hB5.trans (hw'.mono hB5.size)⟩
      rw [hfin.1, hfin.2]
      rfl
end Go.Proofs.YtehpliclknfmoaaGreat.Times
