/- The reference's answers for dice (chapter 02): each function's contract. Conditions: the numbers are of their kinds. -/
import Derived.Test.YtnkgjnmhiedfoaaGreatA6
import Derived.Test.YtnkgjnmhiedfoaaGreatA1
import Derived.OpenShut
namespace Go.Proofs.YtnkgjnmhiedfoaaGreat.Ref02
open Go.RowKit Mix Times
set_option maxRecDepth 100000
set_option linter.unusedVariables false
set_option linter.unusedSimpArgs false

def mixI (a : Int) : Int := ((mix a.toNat : Nat) : Int)
def stepI (a : Int) : Int := (a + 11400714819323198485) % 18446744073709551616
theorem mixI_bd (a : Int) : 0 ≤ mixI a ∧ mixI a < 18446744073709551616 := by
  have := mix_lt a.toNat
  unfold m64 at this
  unfold mixI
  omega
theorem stepI_bd (a : Int) : 0 ≤ stepI a ∧ stepI a < 18446744073709551616 := by unfold stepI; omega
def hiI (s n : Int) : Int := mixI (stepI s) * n / 18446744073709551616
theorem hiI_bd (s n : Int) (h0 : 1 ≤ n) : 0 ≤ hiI s n ∧ hiI s n < n := by
  have := mixI_bd (stepI s)
  unfold hiI
  generalize mixI (stepI s) = v at *
  have a : 0 ≤ v * n := Int.mul_nonneg this.1 (by omega)
  have b : v * n < 18446744073709551616 * n := Int.mul_lt_mul_of_pos_right this.2 (by omega)
  constructor <;> omega

def rangeN (s a b : Int) : Int := if a > b ∨ a < -1099511627776 ∨ a > 1099511627776 ∨ b < -1099511627776 ∨ b > 1099511627776 then a else a + hiI s (b - a + 1)
def rangeS (s a b : Int) : Int := if a > b ∨ a < -1099511627776 ∨ a > 1099511627776 ∨ b < -1099511627776 ∨ b > 1099511627776 then s else stepI s

def streamI : Int → List Int → Int
  | s, [] => s
  | s, x :: l => streamI (mixI (((s.toNat ^^^ (mixI (stepI x)).toNat : Nat) : Int))) l
theorem streamI_snoc (l : List Int) (x : Int) : ∀ s, streamI s (l ++ [x]) = mixI ((((streamI s l).toNat ^^^ (mixI (stepI x)).toNat : Nat) : Int)) := by
  induction l with
  | nil => intro s; rfl
  | cons y l ih => intro s; exact ih _

def Nums (k : IntKind) (w : World) (v : Value) (xs : List Int) : Prop :=
  ∃ a len cap, v = .slice a len cap ∧ len = xs.length ∧ xs.length ≤ 9223372036854775807 ∧ (∀ x ∈ xs, (Lit.int k x).wf = true) ∧ (xs ≠ [] → ∃ b off, a = some ⟨b, off, none⟩ ∧ ∀ j x, xs[j]? = some x → w.cell? ⟨b, off + j, none⟩ = some (.int k x)) ∧ (a = none → cap = 0)
theorem Nums.below {k : IntKind} {w w' : World} {v : Value} {xs : List Int} (h : Nums k w v xs) (hb : Below w.heap.size w w') : Nums k w' v xs := by
  obtain ⟨a, len, cap, h1, h2, h3, h4, h5, h6⟩ := h
  refine ⟨a, len, cap, h1, h2, h3, h4, fun h => ?_, h6⟩
  obtain ⟨b, off, e, hc⟩ := h5 h
  refine ⟨b, off, e, fun j x hx => ?_⟩
  have := hc j x hx
  exact (hb.cell (p := ⟨b, off + j, none⟩) (World.block_lt_of_cell? w _ this)).trans this

theorem xor_model (a b : Int) (h0 : 0 ≤ a) (h1 : a < 18446744073709551616) (g0 : 0 ≤ b) (g1 : b < 18446744073709551616) :
    Go.bits .xor .u64 a b = ((a.toNat ^^^ b.toNat : Nat) : Int) ∧ 0 ≤ ((a.toNat ^^^ b.toNat : Nat) : Int) ∧ ((a.toNat ^^^ b.toNat : Nat) : Int) < 18446744073709551616 := by
  obtain ⟨m, rfl⟩ := Int.eq_ofNat_of_zero_le h0
  obtain ⟨n, rfl⟩ := Int.eq_ofNat_of_zero_le g0
  simp only [Int.toNat_natCast]
  refine ⟨bits_xor_u64_nat m n (by omega) (by omega), by omega, ?_⟩
  have : m ^^^ n < 2 ^ 64 := Nat.xor_lt_two_pow (by omega) (by omega)
  omega

theorem streamI_bd (l : List Int) (s : Int) (h : 0 ≤ s ∧ s < 18446744073709551616) : 0 ≤ streamI s l ∧ streamI s l < 18446744073709551616 := by
  induction l generalizing s with
  | nil => exact h
  | cons x l ih => exact ih _ (mixI_bd _)

end Go.Proofs.YtnkgjnmhiedfoaaGreat.Ref02
namespace Go.Proofs.YtnkgjnmhiedfoaaGreat.Dice
open Go.RowKit Mix Times Ref02
set_option maxRecDepth 100000
set_option linter.unusedVariables false
set_option linter.unusedSimpArgs false

theorem mix_modelI (a : Int) (h0 : 0 ≤ a) (h1 : a < 18446744073709551616) :
    Go.bits .xor .u64 (IntKind.u64.wrap ((Go.bits .xor .u64 (IntKind.u64.wrap ((Go.bits .xor .u64 a (a / 1073741824)) * 13787848793156543929)) ((IntKind.u64.wrap ((Go.bits .xor .u64 a (a / 1073741824)) * 13787848793156543929)) / 134217728)) * 10723151780598845931)) ((IntKind.u64.wrap ((Go.bits .xor .u64 (IntKind.u64.wrap ((Go.bits .xor .u64 a (a / 1073741824)) * 13787848793156543929)) ((IntKind.u64.wrap ((Go.bits .xor .u64 a (a / 1073741824)) * 13787848793156543929)) / 134217728)) * 10723151780598845931)) / 2147483648) = mixI a := by
  obtain ⟨n, rfl⟩ := Int.eq_ofNat_of_zero_le h0
  have := mix_model n (by unfold m64; omega)
  rw [this]; rfl

set_option maxHeartbeats 1000000 in
theorem mix_any (n : Int) (w : World) (h0 : 0 ≤ n) (h1 : n < 18446744073709551616) :
    Calls Tryz.prog 37 #[.int .u64 n] w fun e w' => e = .returned (.int .u64 (mixI n)) ∧ w = w' := by
  have hm := Lib.hid (mix_modelI n h0 h1)
  go_enter Tryz.func37, Tryz.ntmps37
  go_wp2
  go_ret
  exact ⟨by rw [← hm.out]; rfl, rfl⟩

theorem next_any (n : Int) (w : World) :
    Calls Tryz.prog 91 #[.int .u64 n] w fun e w' => e = .returned (.tuple #[.int .u64 (mixI (stepI n)), .int .u64 (stepI n)]) ∧ w = w' := by
  have b1 := stepI_bd n
  have hs := Lib.hid (show IntKind.u64.wrap (n + 11400714819323198485) = stepI n by rw [IntKind.wrap_u64]; rfl)
  go_enter Tryz.func91, Tryz.ntmps91
  go_wp2_with fail
  rw [hs.out]
  refine (mix_any (stepI n) _ b1.1 b1.2).mono ?_
  rintro e w' ⟨rfl, rfl⟩
  go_wp2
  go_ret2
  exact ⟨rfl, rfl⟩

set_option maxHeartbeats 1000000 in
theorem mul64_any (a b : Int) (w : World) (h0 : 0 ≤ a) (h1 : a < 18446744073709551616) (g0 : 0 ≤ b) (g1 : b < 18446744073709551616) :
    Calls Tryz.prog 92 #[.int .u64 a, .int .u64 b] w fun e w' => e = .returned (.tuple #[.int .u64 (a * b / 18446744073709551616), .int .u64 (a * b % 18446744073709551616)]) ∧ w = w' := by
  have hm := Lib.hid (mul_model a b h0 h1 g0 g1)
  have hw := Lib.hid (IntKind.wrap_u64 (a * b))
  go_enter Tryz.func92, Tryz.ntmps92
  go_wp2
  go_ret2
  exact ⟨by rw [← hm.out, ← hw.out]; rfl, rfl⟩

theorem below_some (s n : Int) (w : World) (hn : 1 ≤ n) (hn2 : n ≤ 9223372036854775807) :
    Calls Tryz.prog 63 #[.int .u64 s, .int .i64 n] w fun e w' => e = .returned (.tuple #[.int .i64 (hiI s n), .int .u64 (stepI s)]) ∧ w = w' := by
  have hh := hiI_bd s n hn
  have hdef := Lib.hid (show hiI s n = mixI (stepI s) * n / 18446744073709551616 from rfl)
  have b2 := mixI_bd (stepI s)
  go_enter Tryz.func63, Tryz.ntmps63
  go_wp2_with fail
  refine (next_any s _).mono ?_
  rintro e w' ⟨rfl, rfl⟩
  go_wp2_with fail
  refine (mul64_any (mixI (stepI s)) n _ b2.1 b2.2 (by omega) (by omega)).mono ?_
  rintro e w' ⟨rfl, rfl⟩
  rw [← hdef.out]
  go_wp2
  go_ret2
  exact ⟨rfl, rfl⟩

theorem near_yes (n : Int) (w : World) (h0 : -1099511627776 ≤ n) (h1 : n ≤ 1099511627776) :
    Calls Tryz.prog 110 #[.int .i64 n] w fun e w' => e = .returned (.bool true) ∧ w = w' := by
  have d1 : decide (n ≤ 1099511627776) = true := decide_eq_true h1
  go_enter Tryz.func110, Tryz.ntmps110
  go_wp2
  go_ret
  exact ⟨by first | rfl | (simp; omega), rfl⟩

theorem near_no (n : Int) (w : World) (h0 : n < -1099511627776 ∨ 1099511627776 < n) :
    Calls Tryz.prog 110 #[.int .i64 n] w fun e w' => e = .returned (.bool false) ∧ w = w' := by
  rcases h0 with h0 | h0
  · have d1 : decide (-1099511627776 ≤ n) = false := decide_eq_false (by omega)
    go_enter Tryz.func110, Tryz.ntmps110
    go_wp2
    all_goals
      go_ret
      exact ⟨by first | rfl | (simp; omega), rfl⟩
  · have d1 : decide (n ≤ 1099511627776) = false := decide_eq_false (by omega)
    have d2 : decide (-1099511627776 ≤ n) = true := decide_eq_true (by omega)
    go_enter Tryz.func110, Tryz.ntmps110
    go_wp2
    all_goals
      go_ret
      exact ⟨by first | rfl | (simp; omega), rfl⟩

theorem range_any (s a b : Int) (w : World) :
    Calls Tryz.prog 97 #[.int .u64 s, .int .i64 a, .int .i64 b] w fun e w' => e = .returned (.tuple #[.int .i64 (rangeN s a b), .int .u64 (rangeS s a b)]) ∧ w = w' := by
  by_cases hc : a > b ∨ a < -1099511627776 ∨ a > 1099511627776 ∨ b < -1099511627776 ∨ b > 1099511627776
  · have e1 := Lib.hid (show rangeN s a b = a from if_pos hc)
    have e2 := Lib.hid (show rangeS s a b = s from if_pos hc)
    go_enter Tryz.func97, Tryz.ntmps97
    by_cases h1 : b < a
    · clear hc
      go_wp2
      go_ret2
      exact ⟨by rw [e1.out, e2.out]; rfl, rfl⟩
    · by_cases h2 : a < -1099511627776 ∨ 1099511627776 < a
      · clear hc
        have h3 : a ≤ b := by omega
        clear h1
        go_wp2_with fail
        refine (near_no a _ h2).mono ?_
        rintro e w' ⟨rfl, rfl⟩
        clear h2
        go_wp2
        go_ret2
        exact ⟨by rw [e1.out, e2.out]; rfl, rfl⟩
      · have c2 : -1099511627776 ≤ a := by omega
        have c3 : a ≤ 1099511627776 := by omega
        have c4 : b < -1099511627776 ∨ 1099511627776 < b := by omega
        have h3 : a ≤ b := by omega
        clear hc h1 h2
        go_wp2_with fail
        refine (near_yes a _ c2 c3).mono ?_
        rintro e w' ⟨rfl, rfl⟩
        go_wp2_with fail
        refine (near_no b _ c4).mono ?_
        rintro e w' ⟨rfl, rfl⟩
        clear c4
        go_wp2
        go_ret2
        exact ⟨by rw [e1.out, e2.out]; rfl, rfl⟩
  · have e1 := Lib.hid (show rangeN s a b = a + hiI s (b - a + 1) from if_neg hc)
    have e2 := Lib.hid (show rangeS s a b = stepI s from if_neg hc)
    have c1 : a ≤ b := by omega
    have c2 : -1099511627776 ≤ a := by omega
    have c3 : a ≤ 1099511627776 := by omega
    have c4 : -1099511627776 ≤ b := by omega
    have c5 : b ≤ 1099511627776 := by omega
    clear hc
    have hh := hiI_bd s (b - a + 1) (by omega)
    go_enter Tryz.func97, Tryz.ntmps97
    go_wp2_with fail
    refine (near_yes a _ c2 c3).mono ?_
    rintro e w' ⟨rfl, rfl⟩
    go_wp2_with fail
    refine (near_yes b _ c4 c5).mono ?_
    rintro e w' ⟨rfl, rfl⟩
    go_wp2_with fail
    refine (below_some s (b - a + 1) _ (by omega) (by omega)).mono ?_
    rintro e w1 ⟨rfl, rfl⟩
    go_wp2
    go_ret2
    exact ⟨by rw [e1.out, e2.out]; rfl, rfl⟩

theorem percent_any (s p : Int) (w : World) :
    Calls Tryz.prog 44 #[.int .u64 s, .int .i64 p] w fun e w' => e = .returned (.tuple #[.bool (decide (hiI s 100 < p)), .int .u64 (stepI s)]) ∧ w = w' := by
  go_enter Tryz.func44, Tryz.ntmps44
  go_wp2_with fail
  refine (below_some s 100 _ (by omega) (by omega)).mono ?_
  rintro e w1 ⟨rfl, rfl⟩
  go_wp2
  go_ret2
  exact ⟨rfl, rfl⟩

theorem stream_any (s : Int) (v : Value) (xs : List Int) (w : World) (h0 : 0 ≤ s) (h1 : s < 18446744073709551616) (hv : Nums .u64 w v xs) :
    Calls Tryz.prog 17 #[.int .u64 s, v] w fun e w' => e = .returned (.int .u64 (streamI (mixI (stepI s)) xs)) ∧ Below w.heap.size w w' := by
  obtain ⟨a, len, cap, rfl, rfl, hlen, hwf, hc, hcap⟩ := hv
  clear hcap
  have b1 := stepI_bd s
  have hs := Lib.hid (show IntKind.u64.wrap (s + 11400714819323198485) = stepI s by rw [IntKind.wrap_u64]; rfl)
  go_enter Tryz.func17, Tryz.ntmps17
  go_wp2_with fail
  rw [hs.out]
  refine (mix_any (stepI s) _ b1.1 b1.2).mono ?_
  rintro e w1 ⟨rfl, rfl⟩
  have hS := Lib.hid (mixI_bd (stepI s))
  generalize he : mixI (stepI s) = s1 at *
  have He := Lib.hid he
  clear he
  go_wp2
  go_loopw [5, 7, 13] (fun v _ i wr => ∃ k : Nat, k ≤ xs.length ∧ i = .int .i64 k ∧ v = .int .u64 (streamI s1 (xs.take k)) ∧ wr = w) (fun _ _ i _ => xs.length - (intOf i).toNat)
  case atStart => exact ⟨0, by omega, rfl, rfl, rfl⟩
  case round =>
    obtain ⟨k, hk, rfl, rfl, rfl⟩ := hrel
    have hb := streamI_bd (xs.take k) s1 hS.out
    by_cases hlt : k < xs.length
    · obtain ⟨b, off, rfl, hcell⟩ := hc (by intro h; subst h; simp at hlt)
      have hx : xs[k]? = some xs[k] := List.getElem?_eq_getElem hlt
      have hck := hcell k _ hx
      have hxb := bounds_u64 (hwf _ (List.getElem_mem hlt))
      have htake : xs.take (k + 1) = xs.take k ++ [xs[k]] := by rw [List.take_succ_eq_append_getElem hlt]
      have hst := Lib.hid (show streamI s1 (xs.take (k + 1)) = _ by rw [htake, streamI_snoc])
      clear hcell hc htake hx
      have b2 := stepI_bd xs[k]
      have b3 := mixI_bd (stepI xs[k])
      generalize xs[k] = x at *
      generalize streamI s1 (xs.take k) = s2 at *
      have hxs := Lib.hid (show IntKind.u64.wrap (x + 11400714819323198485) = stepI x by rw [IntKind.wrap_u64]; rfl)
      have hxor := xor_model s2 (mixI (stepI x)) hb.1 hb.2 b3.1 b3.2
      have hxe := Lib.hid hxor.1
      have hx2 := hxor.2
      clear hxor
      go_wp2_with fail
      rw [hxs.out]
      refine (mix_any (stepI x) _ b2.1 b2.2).mono ?_
      rintro e w3 ⟨rfl, rfl⟩
      go_wp2_with fail
      rw [hxe.out]
      refine (mix_any _ _ hx2.1 hx2.2).mono ?_
      rintro e w4 ⟨rfl, rfl⟩
      go_wp2
      go_roundw
      case rel => exact ⟨k + 1, by omega, by go_num, by rw [hst.out], trivial⟩
      case measure => simp [intOf]; omega
    · obtain rfl : k = xs.length := by omega
      go_wp2
      go_ret
      exact ⟨by rw [List.take_length, He.out]; rfl, Below.refl _ _⟩

end Go.Proofs.YtnkgjnmhiedfoaaGreat.Dice
