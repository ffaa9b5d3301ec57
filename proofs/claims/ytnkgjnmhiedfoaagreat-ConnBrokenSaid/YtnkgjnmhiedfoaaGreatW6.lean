/- The program's ticks (chapter 01) but for texts: each function's contract. Conditions: the numbers are of their kinds. -/
import Derived.Test.YtnkgjnmhiedfoaaGreatProg
import Derived.WalkKit
import Derived.KernelRfl
import Derived.RowKit3
import Derived.Deep.Draws
import Derived.Deep.QuietTactic
import Derived.BigQuiet
import Derived.Deep.LoopGhost
import Derived.Lib.Hide
import Derived.Test.YtnkgjnmhiedfoaaGreatW2
import Derived.Test.YtnkgjnmhiedfoaaGreatW1
import Derived.BigRegion
namespace Go.Proofs.YtnkgjnmhiedfoaaGreat.Tick
open Go.RowKit
set_option maxRecDepth 100000
set_option linter.unusedVariables false
set_option linter.unusedSimpArgs false

def nr (n : Int) : Int := if n < 0 then 0 else if 1099511627776 < n then 1099511627776 else n
theorem nr_bd (n : Int) : 0 ≤ nr n ∧ nr n ≤ 1099511627776 := by unfold nr; split <;> (try split) <;> omega
theorem nr_low {n : Int} (h : n < 0) : nr n = 0 := if_pos h
theorem nr_top {n : Int} (h : 1099511627776 < n) : nr n = 1099511627776 := by unfold nr; rw [if_neg (by omega), if_pos h]
theorem nr_in {n : Int} (h : 0 ≤ n) (h1 : n ≤ 1099511627776) : nr n = n := by unfold nr; rw [if_neg (by omega), if_neg (by omega)]

theorem near_any (n : Int) (w : World) :
    Calls Tryz.prog 101 #[.int .i64 n] w fun e w' => e = .returned (.int .i64 (nr n)) ∧ w = w' := by
  by_cases h1 : n < 0
  · have e := Lib.hid (nr_low h1)
    go_enter Tryz.func101, Tryz.ntmps101
    go_wp2
    go_ret
    exact ⟨by rw [e.out]; rfl, rfl⟩
  · by_cases h2 : 1099511627776 < n
    · have e := Lib.hid (nr_top h2)
      go_enter Tryz.func101, Tryz.ntmps101
      go_wp2
      go_ret
      exact ⟨by rw [e.out]; rfl, rfl⟩
    · have h3 : 0 ≤ n := by omega
      have h4 : n ≤ 1099511627776 := by omega
      have e := Lib.hid (nr_in h3 h4)
      clear h1 h2
      go_enter Tryz.func101, Tryz.ntmps101
      go_wp2
      go_ret
      exact ⟨by rw [e.out]; rfl, rfl⟩

def rightB (n : Int) : Bool := decide (0 ≤ n ∧ n ≤ 1099511627776)
theorem right_any (n : Int) (w : World) :
    Calls Tryz.prog 61 #[.int .i64 n] w fun e w' => e = .returned (.bool (rightB n)) ∧ w = w' := by
  by_cases h0 : 0 ≤ n
  · have d := Lib.hid (show rightB n = decide (n ≤ 1099511627776) by simp [rightB, h0])
    go_enter Tryz.func61, Tryz.ntmps61
    go_wp2
    go_ret
    exact ⟨by rw [d.out]; rfl, rfl⟩
  · have d := Lib.hid (show rightB n = false by simp [rightB, h0])
    have h1 : decide (0 ≤ n) = false := decide_eq_false h0
    go_enter Tryz.func61, Tryz.ntmps61
    go_wp2
    all_goals
      go_ret
      exact ⟨by rw [d.out]; rfl, rfl⟩

def add (a b : Int) : Int := nr (nr a + nr b)
theorem add_any (a b : Int) (w : World) :
    Calls Tryz.prog 76 #[.int .i64 a, .int .i64 b] w fun e w' => e = .returned (.int .i64 (add a b)) ∧ w = w' := by
  have h1 := nr_bd a
  have h2 := nr_bd b
  go_enter Tryz.func76, Tryz.ntmps76
  go_wp2_with (go_at_call 101; (with_reducible refine (near_any _ _).mono ?_); rintro e w' ⟨rfl, rfl⟩)
  go_ret
  exact ⟨rfl, rfl⟩


theorem prod_bd (a b : Int) : 0 ≤ nr a * nr b ∧ nr a * nr b ≤ 1208925819614629174706176 := by
  have h1 := nr_bd a
  have h2 := nr_bd b
  refine ⟨Int.mul_nonneg h1.1 h2.1, ?_⟩
  have : nr a * nr b ≤ 1099511627776 * 1099511627776 := Int.mul_le_mul h1.2 h2.2 h2.1 (by decide)
  omega

set_option maxHeartbeats 1000000 in
theorem mul64_any (a b : Int) (w : World) (h0 : 0 ≤ a) (h1 : a < 18446744073709551616) (g0 : 0 ≤ b) (g1 : b < 18446744073709551616) :
    Calls Tryz.prog 92 #[.int .u64 a, .int .u64 b] w fun e w' => e = .returned (.tuple #[.int .u64 (a * b / 18446744073709551616), .int .u64 (a * b % 18446744073709551616)]) ∧ w = w' := by
  have hm := Lib.hid (Mix.mul_model a b h0 h1 g0 g1)
  have hw := Lib.hid (IntKind.wrap_u64 (a * b))
  go_enter Tryz.func92, Tryz.ntmps92
  go_wp2
  go_ret2
  exact ⟨by rw [← hm.out, ← hw.out]; rfl, rfl⟩

theorem div64_zero (lo y : Int) (w : World) (h0 : 0 ≤ lo) (h1 : lo < 18446744073709551616) (g0 : 1 ≤ y) (g1 : y < 18446744073709551616) :
    Calls Tryz.prog 124 #[.int .u64 0, .int .u64 lo, .int .u64 y] w fun e w' => e = .returned (.tuple #[.int .u64 (lo / y), .int .u64 (lo % y)]) ∧ ∃ n, w' = w.drewN n := by
  have hy : (y == 0) = false := by simp; omega
  go_enter Tryz.func124, Tryz.ntmps124
  go_wp2
  go_quiet (fail)
  go_wp2
  go_ret2
  exact ⟨rfl, nq, rfl⟩

def share (a b c : Int) : Int := if nr a * nr b = 0 then 0 else if nr c = 0 then 1099511627776 else if 1099511627776 < nr a * nr b / nr c then 1099511627776 else nr a * nr b / nr c

theorem wide_nil (a b c : Int) (w : World) (hp : nr a * nr b = 0) :
    Calls Tryz.prog 123 #[.int .i64 a, .int .i64 b, .int .i64 c] w fun e w' => e = .returned (.int .i64 (share a b c)) ∧ ∃ n, w' = w.drewN n := by
  have h1 := nr_bd a
  have h2 := nr_bd b
  have h3 := nr_bd c
  have e := Lib.hid (show share a b c = 0 from if_pos hp)
  have hp' := Lib.hid hp
  clear hp
  go_enter Tryz.func123, Tryz.ntmps123
  go_wp2_with (go_at_call 101; (with_reducible refine (near_any _ _).mono ?_); rintro e w' ⟨rfl, rfl⟩)
  refine (mul64_any (nr a) (nr b) _ h1.1 (by omega) h2.1 (by omega)).mono ?_
  rintro e w' ⟨rfl, rfl⟩
  rw [hp'.out]
  go_wp2_with (go_at_call 101; (with_reducible refine (near_any _ _).mono ?_); rintro e w' ⟨rfl, rfl⟩)
  go_ret
  exact ⟨by rw [e.out]; rfl, 0, rfl⟩

theorem wide_top (a b c : Int) (w : World) (hp : nr a * nr b ≠ 0) (hc : nr c ≤ nr a * nr b / 18446744073709551616) :
    Calls Tryz.prog 123 #[.int .i64 a, .int .i64 b, .int .i64 c] w fun e w' => e = .returned (.int .i64 (share a b c)) ∧ ∃ n, w' = w.drewN n := by
  have h1 := nr_bd a
  have h2 := nr_bd b
  have h3 := nr_bd c
  have hpb := prod_bd a b
  have e := Lib.hid (show share a b c = 1099511627776 by
    unfold share
    rw [if_neg hp]
    by_cases h0 : nr c = 0
    · rw [if_pos h0]
    · rw [if_neg h0, if_pos]
      have hm : 18446744073709551616 * nr c ≤ nr a * nr b := by omega
      have : 18446744073709551616 ≤ nr a * nr b / nr c := (Int.le_ediv_iff_mul_le (by omega)).2 hm
      omega)
  go_enter Tryz.func123, Tryz.ntmps123
  go_wp2_with (go_at_call 101; (with_reducible refine (near_any _ _).mono ?_); rintro e w' ⟨rfl, rfl⟩)
  refine (mul64_any (nr a) (nr b) _ h1.1 (by omega) h2.1 (by omega)).mono ?_
  rintro e w' ⟨rfl, rfl⟩
  generalize nr a * nr b = P at *
  by_cases hz : (P / 18446744073709551616 == 0) = true
  · have hz2 : P / 18446744073709551616 = 0 := by simpa using hz
    have hl : (P % 18446744073709551616 == 0) = false := by simp; omega
    have hz3 : nr c ≤ 0 := by omega
    clear hz2 hp
    go_wp2_with (go_at_call 101; (with_reducible refine (near_any _ _).mono ?_); rintro e w' ⟨rfl, rfl⟩)
    go_ret
    exact ⟨by rw [e.out]; rfl, 0, rfl⟩
  · have hz1 : (P / 18446744073709551616 == 0) = false := by simpa using hz
    clear hz hp
    go_wp2_with (go_at_call 101; (with_reducible refine (near_any _ _).mono ?_); rintro e w' ⟨rfl, rfl⟩)
    go_ret
    exact ⟨by rw [e.out]; rfl, 0, rfl⟩

theorem wide_small (a b c : Int) (w : World) (hp : nr a * nr b ≠ 0) (hs : nr a * nr b < 18446744073709551616) (hc : 1 ≤ nr c) :
    Calls Tryz.prog 123 #[.int .i64 a, .int .i64 b, .int .i64 c] w fun e w' => e = .returned (.int .i64 (share a b c)) ∧ ∃ n, w' = w.drewN n := by
  have h1 := nr_bd a
  have h2 := nr_bd b
  have h3 := nr_bd c
  have hpb := prod_bd a b
  have e := Lib.hid (show share a b c = if 1099511627776 < nr a * nr b / nr c then 1099511627776 else nr a * nr b / nr c by
    unfold share
    rw [if_neg hp, if_neg (by omega)])
  go_enter Tryz.func123, Tryz.ntmps123
  go_wp2_with (go_at_call 101; (with_reducible refine (near_any _ _).mono ?_); rintro e w' ⟨rfl, rfl⟩)
  refine (mul64_any (nr a) (nr b) _ h1.1 (by omega) h2.1 (by omega)).mono ?_
  rintro e w' ⟨rfl, rfl⟩
  generalize nr a * nr b = P at *
  rw [show P / 18446744073709551616 = 0 by omega, show P % 18446744073709551616 = P by omega]
  have hl : (P == 0) = false := by simp; omega
  have hq : 0 ≤ P / nr c := Int.ediv_nonneg (by omega) (by omega)
  have hq2 : P / nr c ≤ P := Int.ediv_le_self _ (by omega)
  clear hp
  go_wp2_with (go_at_call 101; (with_reducible refine (near_any _ _).mono ?_); rintro e w' ⟨rfl, rfl⟩)
  refine (div64_zero P (nr c) _ (by omega) (by omega) hc (by omega)).mono ?_
  rintro e w' ⟨rfl, nd, rfl⟩
  generalize P / nr c = q at *
  by_cases h : 1099511627776 < q
  · rw [if_pos h] at e
    go_wp2
    go_ret
    exact ⟨by rw [e.out]; rfl, nd, rfl⟩
  · rw [if_neg h] at e
    have h' : q ≤ 1099511627776 := by omega
    go_wp2
    go_ret
    exact ⟨by rw [e.out]; rfl, nd, rfl⟩

def mul (a b : Int) : Int := if 1099511627776 < nr a * nr b then 1099511627776 else nr a * nr b
theorem share_one (a b : Int) : share a b 1 = mul a b := by
  have : nr 1 = 1 := by decide
  unfold share mul
  rw [this, Int.ediv_one]
  by_cases h : nr a * nr b = 0
  · rw [if_pos h, if_neg (by omega), h]
  · rw [if_neg h, if_neg (by omega)]

theorem mul_any (a b : Int) (w : World) :
    Calls Tryz.prog 122 #[.int .i64 a, .int .i64 b] w fun e w' => e = .returned (.int .i64 (mul a b)) ∧ ∃ n, w' = w.drewN n := by
  have hn : nr 1 = 1 := by decide
  have hpb := prod_bd a b
  have key : ∀ W : World, Calls Tryz.prog 123 #[.int .i64 a, .int .i64 b, .int .i64 1] W fun e w' => e = .returned (.int .i64 (share a b 1)) ∧ ∃ n, w' = W.drewN n := fun W => by
    by_cases h1 : nr a * nr b = 0
    · exact wide_nil a b 1 W h1
    · by_cases h2 : nr a * nr b < 18446744073709551616
      · exact wide_small a b 1 W h1 h2 (by omega)
      · exact wide_top a b 1 W h1 (by omega)
  have key' := Lib.hid key
  have e1 := Lib.hid (share_one a b)
  clear hpb hn key
  go_enter Tryz.func122, Tryz.ntmps122
  go_wp2_with fail
  refine (key'.out _).mono ?_
  rintro e w' ⟨rfl, nd, rfl⟩
  rw [e1.out]
  go_wp2
  go_ret
  exact ⟨rfl, nd, rfl⟩

end Go.Proofs.YtnkgjnmhiedfoaaGreat.Tick
namespace Go.Proofs.YtnkgjnmhiedfoaaGreat.Times
open Go.RowKit
set_option maxRecDepth 100000
set_option linter.unusedVariables false
set_option linter.unusedSimpArgs false

def V (d : Nat → Int) : Int := d 0 + d 1 * 65536 + d 2 * 4294967296 + d 3 * 281474976710656 + d 4 * 18446744073709551616 + d 5 * 1208925819614629174706176 + d 6 * 79228162514264337593543950336 + d 7 * 5192296858534827628530496329220096 + d 8 * 340282366920938463463374607431768211456
def p16 : Nat → Int
  | 0 => 1 | 1 => 65536 | 2 => 4294967296 | 3 => 281474976710656 | 4 => 18446744073709551616 | 5 => 1208925819614629174706176 | 6 => 79228162514264337593543950336 | 7 => 5192296858534827628530496329220096 | _ => 340282366920938463463374607431768211456
def T (x y : Nat → Int) : Nat → Int
  | 0 => 0
  | n + 1 => T x y n + x (n / 4) * y (n % 4) * p16 (n / 4 + n % 4)
def S (x y : Nat → Int) (i k : Nat) : Int := T x y (4 * i + k)
structure DInv (x y : Nat → Int) (i : Nat) (d : Nat → Int) : Prop where
  b : ∀ j, 0 ≤ d j ∧ d j < 65536
  v : V d = S x y i 0
  z : ∀ j, i + 4 ≤ j → d j = 0
structure RInv (x y : Nat → Int) (i k : Nat) (d : Nat → Int) (over : Int) : Prop where
  b : ∀ j, 0 ≤ d j ∧ d j < 65536
  o : 0 ≤ over ∧ over < 65536
  v : V d + over * p16 (i + k) = S x y i k
  z : ∀ j, i + 4 ≤ j → d j = 0
theorem DInv.row {x y d : Nat → Int} {i : Nat} (h : DInv x y i d) : RInv x y i 0 d 0 := ⟨h.b, by omega, by rw [h.v]; omega, h.z⟩
theorem DInv.fin {x y d : Nat → Int} (h : DInv x y 4 d) (X Y : Int) (hX : x 0 + x 1 * 65536 + x 2 * 4294967296 + x 3 * 281474976710656 = X) (hY : y 0 + y 1 * 65536 + y 2 * 4294967296 + y 3 * 281474976710656 = Y) (lX : 0 ≤ X) (uX : X < 18446744073709551616) (lY : 0 ≤ Y) (uY : Y < 18446744073709551616) :
    d 0 + d 1 * 65536 + d 2 * 4294967296 + d 3 * 281474976710656 = X * Y % 18446744073709551616 ∧ d 4 + d 5 * 65536 + d 6 * 4294967296 + d 7 * 281474976710656 = X * Y / 18446744073709551616 := by
  have hb := h.b; have hv := h.v; have hz := h.z 8 (by omega)
  have e : S x y 4 0 = X * Y := by
    have r : ∀ c : Int, c * (y 0 + y 1 * 65536 + y 2 * 4294967296 + y 3 * 281474976710656) = c * y 0 + c * y 1 * 65536 + c * y 2 * 4294967296 + c * y 3 * 281474976710656 := fun c => by
      simp only [Int.mul_add, ← Int.mul_assoc]
    have q : ∀ Z : Int, (x 0 + x 1 * 65536 + x 2 * 4294967296 + x 3 * 281474976710656) * Z = x 0 * Z + x 1 * Z * 65536 + x 2 * Z * 4294967296 + x 3 * Z * 281474976710656 := fun Z => by
      rw [Int.add_mul, Int.add_mul, Int.add_mul, Int.mul_right_comm (x 1), Int.mul_right_comm (x 2), Int.mul_right_comm (x 3)]
    rw [← hX, ← hY, q, r, r, r, r]
    have u : S x y 4 0 = 0 + x 0 * y 0 * 1 + x 0 * y 1 * 65536 + x 0 * y 2 * 4294967296 + x 0 * y 3 * 281474976710656 + x 1 * y 0 * 65536 + x 1 * y 1 * 4294967296 + x 1 * y 2 * 281474976710656 + x 1 * y 3 * 18446744073709551616 + x 2 * y 0 * 4294967296 + x 2 * y 1 * 281474976710656 + x 2 * y 2 * 18446744073709551616 + x 2 * y 3 * 1208925819614629174706176 + x 3 * y 0 * 281474976710656 + x 3 * y 1 * 18446744073709551616 + x 3 * y 2 * 1208925819614629174706176 + x 3 * y 3 * 79228162514264337593543950336 := rfl
    rw [u]
    generalize x 0 * y 0 = p00; generalize x 0 * y 1 = p01; generalize x 0 * y 2 = p02; generalize x 0 * y 3 = p03
    generalize x 1 * y 0 = p10; generalize x 1 * y 1 = p11; generalize x 1 * y 2 = p12; generalize x 1 * y 3 = p13
    generalize x 2 * y 0 = p20; generalize x 2 * y 1 = p21; generalize x 2 * y 2 = p22; generalize x 2 * y 3 = p23
    generalize x 3 * y 0 = p30; generalize x 3 * y 1 = p31; generalize x 3 * y 2 = p32; generalize x 3 * y 3 = p33
    omega
  rw [e] at hv
  generalize X * Y = z at *
  have h0 := hb 0; have h1 := hb 1; have h2 := hb 2; have h3 := hb 3; have h4 := hb 4; have h5 := hb 5; have h6 := hb 6; have h7 := hb 7
  simp only [V] at hv
  constructor <;> omega

end Go.Proofs.YtnkgjnmhiedfoaaGreat.Times
