/- The reference's answers for dice (chapter 02): each function's contract. Conditions: the numbers are of their kinds. -/
import Derived.Test.YtehpliclknfmoaaGreatC6
import Derived.Test.YtehpliclknfmoaaGreatC1
import Derived.OpenShut
namespace Go.Proofs.YtehpliclknfmoaaGreat.Ref02
open Go.RowKit Mix Times
set_option maxRecDepth 100000
set_option linter.unusedVariables false
set_option linter.unusedSimpArgs false

def mixI (a : Int) : Int := ((mix a.toNat : Nat) : Int)
def stepI (a : Int) : Int := (a + 11400714819323198485) % 18446744073709551616
theorem mixI_bd (a : Int) : 0 ≤ mixI a ∧ mixI a < 18446744073709551616 := by
  have := mix_lt a.toNat
  unfold m64 at this
  unfold mixI
  omega
theorem stepI_bd (a : Int) : 0 ≤ stepI a ∧ stepI a < 18446744073709551616 := by unfold stepI; omega
theorem fold_model (n : Int) (s : Nat) (h0 : 0 ≤ n) (h1 : n < 18446744073709551616) : Go.bits .xor .u64 n (n / (s : Int)) = ((fold n.toNat s : Nat) : Int) := by
  obtain ⟨m, rfl⟩ := Int.eq_ofNat_of_zero_le h0
  rw [Int.toNat_natCast]
  exact xorShift_u64 m s (by omega)

theorem fold_any (n : Int) (s : Nat) (w : World) (h0 : 0 ≤ n) (h1 : n < 18446744073709551616) (hs : 0 < s) :
    Calls Tryz.prog 93 #[.int .u64 n, .int .u64 (s : Int)] w fun e w' => e = .returned (.int .u64 ((fold n.toNat s : Nat) : Int)) ∧ w = w' := by
  have hm := Lib.hid (fold_model n s h0 h1)
  have hz : ((s : Int) == 0) = false := by simp; omega
  go_enter Tryz.func93, Tryz.ntmps93
  go_wp2
  go_ret
  exact ⟨by rw [hm.out]; rfl, rfl⟩

theorem low_any (a b : Int) (w : World) (h0 : 0 ≤ a) (h1 : a < 18446744073709551616) (g0 : 0 ≤ b) (g1 : b < 18446744073709551616) :
    Calls Tryz.prog 92 #[.int .u64 a, .int .u64 b] w fun e w' => e = .returned (.int .u64 (a * b % 18446744073709551616)) ∧ Below w.heap.size w w' := by
  go_enter Tryz.func92, Tryz.ntmps92
  go_wp2_with (go_at_call 76; (with_reducible refine (times_any _ _ _ h0 h1 g0 g1).mono ?_); rintro e w' ⟨rfl, hb⟩)
  go_ret
  exact ⟨rfl, hb⟩

theorem mixI_eq (n : Int) (h0 : 0 ≤ n) : ((fold ((((fold ((((fold n.toNat 1073741824 : Nat) : Int) * 13787848793156543929 % 18446744073709551616).toNat) 134217728 : Nat) : Int) * 10723151780598845931 % 18446744073709551616).toNat) 2147483648 : Nat) : Int) = mixI n := by
  unfold mixI mix m64
  have e : ∀ x c : Nat, (((x : Int) * (c : Int)) % 18446744073709551616).toNat = x * c % 18446744073709551616 := fun x c => by omega
  have e1 := e (fold n.toNat 1073741824) 13787848793156543929
  rw [show ((13787848793156543929 : Nat) : Int) = 13787848793156543929 from rfl] at e1
  rw [e1]
  have e2 := e (fold (fold n.toNat 1073741824 * 13787848793156543929 % 18446744073709551616) 134217728) 10723151780598845931
  rw [show ((10723151780598845931 : Nat) : Int) = 10723151780598845931 from rfl] at e2
  rw [e2]

theorem fold_bd (n s : Nat) (h : n < 18446744073709551616) : 0 ≤ ((fold n s : Nat) : Int) ∧ ((fold n s : Nat) : Int) < 18446744073709551616 := by
  have := fold_lt n s h
  unfold m64 at this
  omega

theorem mix_any (n : Int) (w : World) (h0 : 0 ≤ n) (h1 : n < 18446744073709551616) :
    Calls Tryz.prog 77 #[.int .u64 n] w fun e w' => e = .returned (.int .u64 (mixI n)) ∧ Below w.heap.size w w' := by
  have hq := Lib.hid (mixI_eq n h0)
  have b1 := fold_bd n.toNat 1073741824 (by omega)
  go_enter Tryz.func77, Tryz.ntmps77
  go_wp2_with fail
  refine (fold_any n 1073741824 _ h0 h1 (by decide)).mono ?_
  rintro e w' ⟨rfl, rfl⟩
  generalize ((fold n.toNat 1073741824 : Nat) : Int) = x at *
  go_wp2_with fail
  refine (low_any x 13787848793156543929 _ b1.1 b1.2 (by decide) (by decide)).mono ?_
  rintro e w1 ⟨rfl, hb1⟩
  have c1 : 0 ≤ x * 13787848793156543929 % 18446744073709551616 ∧ x * 13787848793156543929 % 18446744073709551616 < 18446744073709551616 := by omega
  generalize x * 13787848793156543929 % 18446744073709551616 = y at *
  have b2 := fold_bd y.toNat 134217728 (by omega)
  go_wp2_with fail
  refine (fold_any y 134217728 _ c1.1 c1.2 (by decide)).mono ?_
  rintro e w' ⟨rfl, rfl⟩
  generalize ((fold y.toNat 134217728 : Nat) : Int) = z at *
  go_wp2_with fail
  refine (low_any z 10723151780598845931 _ b2.1 b2.2 (by decide) (by decide)).mono ?_
  rintro e w2 ⟨rfl, hb2⟩
  have c2 : 0 ≤ z * 10723151780598845931 % 18446744073709551616 ∧ z * 10723151780598845931 % 18446744073709551616 < 18446744073709551616 := by omega
  generalize z * 10723151780598845931 % 18446744073709551616 = u at *
  go_wp2_with fail
  refine (fold_any u 2147483648 _ c2.1 c2.2 (by decide)).mono ?_
  rintro e w' ⟨rfl, rfl⟩
  have hb := hb1.trans (hb2.mono hb1.size)
  clear hb1 hb2
  rw [hq.out]
  go_wp2
  go_ret
  exact ⟨rfl, hb⟩

theorem step_any (n : Int) (w : World) (h0 : 0 ≤ n) (h1 : n < 18446744073709551616) :
    Calls Tryz.prog 78 #[.int .u64 n] w fun e w' => e = .returned (.int .u64 (stepI n)) ∧ w = w' := by
  go_enter Tryz.func78, Tryz.ntmps78
  go_wp2
  go_ret
  exact ⟨by unfold stepI; rfl, rfl⟩

def hiI (s n : Int) : Int := mixI (stepI s) * n / 18446744073709551616
theorem hiI_bd (s n : Int) (h0 : 1 ≤ n) : 0 ≤ hiI s n ∧ hiI s n < n := by
  have := mixI_bd (stepI s)
  unfold hiI
  generalize mixI (stepI s) = v at *
  have a : 0 ≤ v * n := Int.mul_nonneg this.1 (by omega)
  have b : v * n < 18446744073709551616 * n := Int.mul_lt_mul_of_pos_right this.2 (by omega)
  constructor <;> omega

theorem below_some (s n : Int) (w : World) (h0 : 0 ≤ s) (h1 : s < 18446744073709551616) (hn : 1 ≤ n) (hn2 : n ≤ 9223372036854775807) :
    Calls Tryz.prog 56 #[.int .u64 s, .int .i64 n] w fun e w' => e = .returned (.tuple #[.int .i64 (hiI s n), .int .u64 (stepI s)]) ∧ Below w.heap.size w w' := by
  have hh := hiI_bd s n hn
  have hdef := Lib.hid (show hiI s n = mixI (stepI s) * n / 18446744073709551616 from rfl)
  have b1 := stepI_bd s
  have b2 := mixI_bd (stepI s)
  go_enter Tryz.func56, Tryz.ntmps56
  go_wp2_with fail
  refine (step_any s _ h0 h1).mono ?_
  rintro e w' ⟨rfl, rfl⟩
  go_wp2_with fail
  refine (mix_any (stepI s) _ b1.1 b1.2).mono ?_
  rintro e w1 ⟨rfl, hb1⟩
  go_wp2_with fail
  refine (times_any (mixI (stepI s)) n _ b2.1 b2.2 (by omega) (by omega)).mono ?_
  rintro e w2 ⟨rfl, hb2⟩
  rw [← hdef.out]
  have hb := hb1.trans (hb2.mono hb1.size)
  clear hb1 hb2
  go_wp2_with fail
  refine (step_any s _ h0 h1).mono ?_
  rintro e w' ⟨rfl, rfl⟩
  go_wp2
  go_ret2
  exact ⟨rfl, hb⟩

def rangeN (s a b : Int) : Int := if a > b ∨ a < -1099511627776 ∨ a > 1099511627776 ∨ b < -1099511627776 ∨ b > 1099511627776 then a else a + hiI s (b - a + 1)
def rangeS (s a b : Int) : Int := if a > b ∨ a < -1099511627776 ∨ a > 1099511627776 ∨ b < -1099511627776 ∨ b > 1099511627776 then s else stepI s

theorem range_any (s a b : Int) (w : World) (h0 : 0 ≤ s) (h1 : s < 18446744073709551616) :
    Calls Tryz.prog 72 #[.int .u64 s, .int .i64 a, .int .i64 b] w fun e w' => e = .returned (.tuple #[.int .i64 (rangeN s a b), .int .u64 (rangeS s a b)]) ∧ Below w.heap.size w w' := by
  by_cases hc : a > b ∨ a < -1099511627776 ∨ a > 1099511627776 ∨ b < -1099511627776 ∨ b > 1099511627776
  · have e1 := Lib.hid (show rangeN s a b = a from if_pos hc)
    have e2 := Lib.hid (show rangeS s a b = s from if_pos hc)
    go_enter Tryz.func72, Tryz.ntmps72
    rcases hc with hc | hc | hc | hc | hc
    all_goals
      go_wp2
      all_goals
        go_ret2
        exact ⟨by rw [e1.out, e2.out]; rfl, Below.refl _ _⟩
  · have e1 := Lib.hid (show rangeN s a b = a + hiI s (b - a + 1) from if_neg hc)
    have e2 := Lib.hid (show rangeS s a b = stepI s from if_neg hc)
    have c1 : a ≤ b := by omega
    have c2 : -1099511627776 ≤ a := by omega
    have c3 : a ≤ 1099511627776 := by omega
    have c4 : -1099511627776 ≤ b := by omega
    have c5 : b ≤ 1099511627776 := by omega
    clear hc
    have hh := hiI_bd s (b - a + 1) (by omega)
    go_enter Tryz.func72, Tryz.ntmps72
    go_wp2_with fail
    refine (below_some s (b - a + 1) _ h0 h1 (by omega) (by omega)).mono ?_
    rintro e w1 ⟨rfl, hb1⟩
    go_wp2
    go_ret2
    exact ⟨by rw [e1.out, e2.out]; rfl, hb1⟩

end Go.Proofs.YtehpliclknfmoaaGreat.Ref02
namespace Go.Proofs.YtehpliclknfmoaaGreat.Dice
open Go.RowKit Mix Times Ref02
set_option maxRecDepth 100000
set_option linter.unusedVariables false
set_option linter.unusedSimpArgs false

theorem mix_modelI (a : Int) (h0 : 0 ≤ a) (h1 : a < 18446744073709551616) :
    Go.bits .xor .u64 (IntKind.u64.wrap ((Go.bits .xor .u64 (IntKind.u64.wrap ((Go.bits .xor .u64 a (a / 1073741824)) * 13787848793156543929)) ((IntKind.u64.wrap ((Go.bits .xor .u64 a (a / 1073741824)) * 13787848793156543929)) / 134217728)) * 10723151780598845931)) ((IntKind.u64.wrap ((Go.bits .xor .u64 (IntKind.u64.wrap ((Go.bits .xor .u64 a (a / 1073741824)) * 13787848793156543929)) ((IntKind.u64.wrap ((Go.bits .xor .u64 a (a / 1073741824)) * 13787848793156543929)) / 134217728)) * 10723151780598845931)) / 2147483648) = mixI a := by
  obtain ⟨n, rfl⟩ := Int.eq_ofNat_of_zero_le h0
  have := mix_model n (by unfold m64; omega)
  rw [this]; rfl

set_option maxHeartbeats 1000000 in
theorem mix_any (n : Int) (w : World) (h0 : 0 ≤ n) (h1 : n < 18446744073709551616) :
    Calls Tryz.prog 101 #[.int .u64 n] w fun e w' => e = .returned (.int .u64 (mixI n)) ∧ w = w' := by
  have hm := Lib.hid (mix_modelI n h0 h1)
  go_enter Tryz.func101, Tryz.ntmps101
  go_wp2
  go_ret
  exact ⟨by rw [← hm.out]; rfl, rfl⟩

theorem next_any (n : Int) (w : World) :
    Calls Tryz.prog 94 #[.int .u64 n] w fun e w' => e = .returned (.tuple #[.int .u64 (mixI (stepI n)), .int .u64 (stepI n)]) ∧ w = w' := by
  have b1 := stepI_bd n
  have hs := Lib.hid (show IntKind.u64.wrap (n + 11400714819323198485) = stepI n by rw [IntKind.wrap_u64]; rfl)
  go_enter Tryz.func94, Tryz.ntmps94
  go_wp2_with fail
  rw [hs.out]
  refine (mix_any (stepI n) _ b1.1 b1.2).mono ?_
  rintro e w' ⟨rfl, rfl⟩
  go_wp2
  go_ret2
  exact ⟨rfl, rfl⟩

set_option maxHeartbeats 1000000 in
theorem mul64_any (a b : Int) (w : World) (h0 : 0 ≤ a) (h1 : a < 18446744073709551616) (g0 : 0 ≤ b) (g1 : b < 18446744073709551616) :
    Calls Tryz.prog 95 #[.int .u64 a, .int .u64 b] w fun e w' => e = .returned (.tuple #[.int .u64 (a * b / 18446744073709551616), .int .u64 (a * b % 18446744073709551616)]) ∧ w = w' := by
  have hm := Lib.hid (mul_model a b h0 h1 g0 g1)
  have hw := Lib.hid (IntKind.wrap_u64 (a * b))
  go_enter Tryz.func95, Tryz.ntmps95
  go_wp2
  go_ret2
  exact ⟨by rw [← hm.out, ← hw.out]; rfl, rfl⟩

theorem below_some (s n : Int) (w : World) (hn : 1 ≤ n) (hn2 : n ≤ 9223372036854775807) :
    Calls Tryz.prog 80 #[.int .u64 s, .int .i64 n] w fun e w' => e = .returned (.tuple #[.int .i64 (hiI s n), .int .u64 (stepI s)]) ∧ w = w' := by
  have hh := hiI_bd s n hn
  have hdef := Lib.hid (show hiI s n = mixI (stepI s) * n / 18446744073709551616 from rfl)
  have b2 := mixI_bd (stepI s)
  go_enter Tryz.func80, Tryz.ntmps80
  go_wp2_with fail
  refine (next_any s _).mono ?_
  rintro e w' ⟨rfl, rfl⟩
  go_wp2_with fail
  refine (mul64_any (mixI (stepI s)) n _ b2.1 b2.2 (by omega) (by omega)).mono ?_
  rintro e w' ⟨rfl, rfl⟩
  rw [← hdef.out]
  go_wp2
  go_ret2
  exact ⟨rfl, rfl⟩

theorem near_yes (n : Int) (w : World) (h0 : -1099511627776 ≤ n) (h1 : n ≤ 1099511627776) :
    Calls Tryz.prog 79 #[.int .i64 n] w fun e w' => e = .returned (.bool true) ∧ w = w' := by
  have d1 : decide (n ≤ 1099511627776) = true := decide_eq_true h1
  go_enter Tryz.func79, Tryz.ntmps79
  go_wp2
  go_ret
  exact ⟨by first | rfl | (simp; omega), rfl⟩

theorem near_no (n : Int) (w : World) (h0 : n < -1099511627776 ∨ 1099511627776 < n) :
    Calls Tryz.prog 79 #[.int .i64 n] w fun e w' => e = .returned (.bool false) ∧ w = w' := by
  rcases h0 with h0 | h0
  · have d1 : decide (-1099511627776 ≤ n) = false := decide_eq_false (by omega)
    go_enter Tryz.func79, Tryz.ntmps79
    go_wp2
    all_goals
      go_ret
      exact ⟨by first | rfl | (simp; omega), rfl⟩
  · have d1 : decide (n ≤ 1099511627776) = false := decide_eq_false (by omega)
    have d2 : decide (-1099511627776 ≤ n) = true := decide_eq_true (by omega)
    go_enter Tryz.func79, Tryz.ntmps79
    go_wp2
    all_goals
      go_ret
      exact ⟨by first | rfl | (simp; omega), rfl⟩

theorem range_any (s a b : Int) (w : World) :
    Calls Tryz.prog 58 #[.int .u64 s, .int .i64 a, .int .i64 b] w fun e w' => e = .returned (.tuple #[.int .i64 (rangeN s a b), .int .u64 (rangeS s a b)]) ∧ w = w' := by
  by_cases hc : a > b ∨ a < -1099511627776 ∨ a > 1099511627776 ∨ b < -1099511627776 ∨ b > 1099511627776
  · have e1 := Lib.hid (show rangeN s a b = a from if_pos hc)
    have e2 := Lib.hid (show rangeS s a b = s from if_pos hc)
    go_enter Tryz.func58, Tryz.ntmps58
    by_cases h1 : b < a
    · clear hc
      go_wp2
      go_ret2
      exact ⟨by rw [e1.out, e2.out]; rfl, rfl⟩
    · by_cases h2 : a < -1099511627776 ∨ 1099511627776 < a
      · clear hc
        have h3 : a ≤ b := by omega
        clear h1
        go_wp2_with fail
        refine (near_no a _ h2).mono ?_
        rintro e w' ⟨rfl, rfl⟩
        clear h2
        go_wp2
        go_ret2
        exact ⟨by rw [e1.out, e2.out]; rfl, rfl⟩
      · have c2 : -1099511627776 ≤ a := by omega
        have c3 : a ≤ 1099511627776 := by omega
        have c4 : b < -1099511627776 ∨ 1099511627776 < b := by omega
        have h3 : a ≤ b := by omega
        clear hc h1 h2
        go_wp2_with fail
        refine (near_yes a _ c2 c3).mono ?_
        rintro e w' ⟨rfl, rfl⟩
        go_wp2_with fail
        refine (near_no b _ c4).mono ?_
        rintro e w' ⟨rfl, rfl⟩
        clear c4
        go_wp2
        go_ret2
        exact ⟨by rw [e1.out, e2.out]; rfl, rfl⟩
  · have e1 := Lib.hid (show rangeN s a b = a + hiI s (b - a + 1) from if_neg hc)
    have e2 := Lib.hid (show rangeS s a b = stepI s from if_neg hc)
    have c1 : a ≤ b := by omega
    have c2 : -1099511627776 ≤ a := by omega
    have c3 : a ≤ 1099511627776 := by omega
    have c4 : -1099511627776 ≤ b := by omega
    have c5 : b ≤ 1099511627776 := by omega
    clear hc
    have hh := hiI_bd s (b - a + 1) (by omega)
    go_enter Tryz.func58, Tryz.ntmps58
    go_wp2_with fail
    refine (near_yes a _ c2 c3).mono ?_
    rintro e w' ⟨rfl, rfl⟩
    go_wp2_with fail
    refine (near_yes b _ c4 c5).mono ?_
    rintro e w' ⟨rfl, rfl⟩
    go_wp2_with fail
    refine (below_some s (b - a + 1) _ (by omega) (by omega)).mono ?_
    rintro e w1 ⟨rfl, rfl⟩
    go_wp2
    go_ret2
    exact ⟨by rw [e1.out, e2.out]; rfl, rfl⟩

end Go.Proofs.YtehpliclknfmoaaGreat.Dice
