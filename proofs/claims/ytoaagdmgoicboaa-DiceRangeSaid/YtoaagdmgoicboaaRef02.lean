/- The reference's answers for dice (chapter 02): each function's contract. Conditions: the numbers are of their kinds. -/
import Derived.Test.YtoaagdmgoicboaaTimes
import Derived.Test.YtoaagdmgoicboaaMix
import Derived.OpenShut
namespace Go.Proofs.Ytoaagdmgoicboaa.Ref02
open Go.RowKit Mix Times
set_option maxRecDepth 100000
set_option linter.unusedVariables false
set_option linter.unusedSimpArgs false

def M : Int := 18446744073709551616
def mixI (a : Int) : Int := ((mix a.toNat : Nat) : Int)
def stepI (a : Int) : Int := (a + 11400714819323198485) % 18446744073709551616
theorem mixI_bd (a : Int) : 0 ≤ mixI a ∧ mixI a < 18446744073709551616 := by
  have := mix_lt a.toNat
  unfold m64 at this
  unfold mixI
  omega
theorem stepI_bd (a : Int) : 0 ≤ stepI a ∧ stepI a < 18446744073709551616 := by unfold stepI; omega
theorem fold_model (n : Int) (s : Nat) (h0 : 0 ≤ n) (h1 : n < 18446744073709551616) : Go.bits .xor .u64 n (n / (s : Int)) = ((fold n.toNat s : Nat) : Int) := by
  obtain ⟨m, rfl⟩ := Int.eq_ofNat_of_zero_le h0
  rw [Int.toNat_natCast]
  exact xorShift_u64 m s (by omega)

theorem fold_any (n : Int) (s : Nat) (w : World) (h0 : 0 ≤ n) (h1 : n < 18446744073709551616) (hs : 0 < s) :
    Calls Try.prog 26 #[.int .u64 n, .int .u64 (s : Int)] w fun e w' => e = .returned (.int .u64 ((fold n.toNat s : Nat) : Int)) ∧ w = w' := by
  have hm := Lib.hid (fold_model n s h0 h1)
  have hz : ((s : Int) == 0) = false := by simp; omega
  go_enter Try.func26, Try.ntmps26
  go_wp2
  go_ret
  exact ⟨by rw [hm.out]; rfl, rfl⟩

theorem low_any (a b : Int) (w : World) (h0 : 0 ≤ a) (h1 : a < 18446744073709551616) (g0 : 0 ≤ b) (g1 : b < 18446744073709551616) :
    Calls Try.prog 25 #[.int .u64 a, .int .u64 b] w fun e w' => e = .returned (.int .u64 (a * b % 18446744073709551616)) ∧ Below w.heap.size w w' := by
  go_enter Try.func25, Try.ntmps25
  go_wp2_with (go_at_call 29; (with_reducible refine (times_any _ _ _ h0 h1 g0 g1).mono ?_); rintro e w' ⟨rfl, hb⟩)
  go_ret
  exact ⟨rfl, hb⟩

theorem mixI_eq (n : Int) (h0 : 0 ≤ n) : ((fold ((((fold ((((fold n.toNat 1073741824 : Nat) : Int) * 13787848793156543929 % 18446744073709551616).toNat) 134217728 : Nat) : Int) * 10723151780598845931 % 18446744073709551616).toNat) 2147483648 : Nat) : Int) = mixI n := by
  unfold mixI mix m64
  have e : ∀ x c : Nat, (((x : Int) * (c : Int)) % 18446744073709551616).toNat = x * c % 18446744073709551616 := fun x c => by omega
  have e1 := e (fold n.toNat 1073741824) 13787848793156543929
  rw [show ((13787848793156543929 : Nat) : Int) = 13787848793156543929 from rfl] at e1
  rw [e1]
  have e2 := e (fold (fold n.toNat 1073741824 * 13787848793156543929 % 18446744073709551616) 134217728) 10723151780598845931
  rw [show ((10723151780598845931 : Nat) : Int) = 10723151780598845931 from rfl] at e2
  rw [e2]

theorem fold_bd (n s : Nat) (h : n < 18446744073709551616) : 0 ≤ ((fold n s : Nat) : Int) ∧ ((fold n s : Nat) : Int) < 18446744073709551616 := by
  have := fold_lt n s h
  unfold m64 at this
  omega

theorem mix_any (n : Int) (w : World) (h0 : 0 ≤ n) (h1 : n < 18446744073709551616) :
    Calls Try.prog 15 #[.int .u64 n] w fun e w' => e = .returned (.int .u64 (mixI n)) ∧ Below w.heap.size w w' := by
  have hq := Lib.hid (mixI_eq n h0)
  have b1 := fold_bd n.toNat 1073741824 (by omega)
  go_enter Try.func15, Try.ntmps15
  go_wp2_with fail
  refine (fold_any n 1073741824 _ h0 h1 (by decide)).mono ?_
  rintro e w' ⟨rfl, rfl⟩
  generalize ((fold n.toNat 1073741824 : Nat) : Int) = x at *
  go_wp2_with fail
  refine (low_any x 13787848793156543929 _ b1.1 b1.2 (by decide) (by decide)).mono ?_
  rintro e w1 ⟨rfl, hb1⟩
  have c1 : 0 ≤ x * 13787848793156543929 % 18446744073709551616 ∧ x * 13787848793156543929 % 18446744073709551616 < 18446744073709551616 := by omega
  generalize x * 13787848793156543929 % 18446744073709551616 = y at *
  have b2 := fold_bd y.toNat 134217728 (by omega)
  go_wp2_with fail
  refine (fold_any y 134217728 _ c1.1 c1.2 (by decide)).mono ?_
  rintro e w' ⟨rfl, rfl⟩
  generalize ((fold y.toNat 134217728 : Nat) : Int) = z at *
  go_wp2_with fail
  refine (low_any z 10723151780598845931 _ b2.1 b2.2 (by decide) (by decide)).mono ?_
  rintro e w2 ⟨rfl, hb2⟩
  have c2 : 0 ≤ z * 10723151780598845931 % 18446744073709551616 ∧ z * 10723151780598845931 % 18446744073709551616 < 18446744073709551616 := by omega
  generalize z * 10723151780598845931 % 18446744073709551616 = u at *
  go_wp2_with fail
  refine (fold_any u 2147483648 _ c2.1 c2.2 (by decide)).mono ?_
  rintro e w' ⟨rfl, rfl⟩
  have hb := hb1.trans (hb2.mono hb1.size)
  clear hb1 hb2
  rw [hq.out]
  go_wp2
  go_ret
  exact ⟨rfl, hb⟩

theorem step_any (n : Int) (w : World) (h0 : 0 ≤ n) (h1 : n < 18446744073709551616) :
    Calls Try.prog 13 #[.int .u64 n] w fun e w' => e = .returned (.int .u64 (stepI n)) ∧ w = w' := by
  go_enter Try.func13, Try.ntmps13
  go_wp2
  go_ret
  exact ⟨by unfold stepI; rfl, rfl⟩

/-- so many steps. -/
def steps : Nat → Int → Int
  | 0, s => s
  | n + 1, s => stepI (steps n s)
theorem steps_bd (n : Nat) (s : Int) (h : 0 ≤ s ∧ s < 18446744073709551616) : 0 ≤ steps n s ∧ steps n s < 18446744073709551616 := by
  cases n with
  | zero => exact h
  | succ n => exact stepI_bd _

theorem value1_any (s : Int) (w : World) (h0 : 0 ≤ s) (h1 : s < 18446744073709551616) :
    Calls Try.prog 12 #[.int .u64 s, .int .i64 1] w fun e w' => e = .returned (.int .u64 (mixI (stepI s))) ∧ Below w.heap.size w w' := by
  go_enter Try.func12, Try.ntmps12
  go_wp2
  go_loopw [0, 5] (fun v i wr => ∃ k : Nat, k ≤ 1 ∧ i = .int .i64 k ∧ v = .int .u64 (steps k s) ∧ w = wr) (fun _ i _ => 1 - (intOf i).toNat)
  case atStart => exact ⟨0, by omega, rfl, rfl, rfl⟩
  case round =>
    obtain ⟨k, hk, rfl, rfl, rfl⟩ := hrel
    have hb := steps_bd k s ⟨h0, h1⟩
    by_cases hlt : k < 1
    · obtain rfl : k = 0 := by omega
      go_wp2_with fail
      refine (step_any s _ h0 h1).mono ?_
      rintro e w' ⟨rfl, rfl⟩
      go_wp2
      go_roundw
      case rel => exact ⟨1, by omega, rfl, rfl, trivial⟩
      case measure => simp [intOf]
    · obtain rfl : k = 1 := by omega
      clear hb
      have hb := stepI_bd s
      go_wp2_with fail
      refine (mix_any (stepI s) _ hb.1 hb.2).mono ?_
      rintro e w1 ⟨rfl, hb1⟩
      go_wp2
      go_ret
      exact ⟨rfl, hb1⟩

theorem below_none (s n : Int) (w : World) (hn : n < 1) :
    Calls Try.prog 22 #[.int .u64 s, .int .i64 n] w fun e w' => e = .returned (.tuple #[.int .i64 0, .int .u64 s]) ∧ Below w.heap.size w w' := by
  go_enter Try.func22, Try.ntmps22
  go_wp2
  go_ret2
  exact ⟨rfl, Below.refl _ _⟩

def hiI (s n : Int) : Int := mixI (stepI s) * n / 18446744073709551616
theorem hiI_bd (s n : Int) (h0 : 1 ≤ n) : 0 ≤ hiI s n ∧ hiI s n < n := by
  have := mixI_bd (stepI s)
  unfold hiI
  generalize mixI (stepI s) = v at *
  have a : 0 ≤ v * n := Int.mul_nonneg this.1 (by omega)
  have b : v * n < 18446744073709551616 * n := Int.mul_lt_mul_of_pos_right this.2 (by omega)
  constructor <;> omega

theorem below_some (s n : Int) (w : World) (h0 : 0 ≤ s) (h1 : s < 18446744073709551616) (hn : 1 ≤ n) (hn2 : n ≤ 9223372036854775807) :
    Calls Try.prog 22 #[.int .u64 s, .int .i64 n] w fun e w' => e = .returned (.tuple #[.int .i64 (hiI s n), .int .u64 (stepI s)]) ∧ Below w.heap.size w w' := by
  have hh := hiI_bd s n hn
  have hdef := Lib.hid (show hiI s n = mixI (stepI s) * n / 18446744073709551616 from rfl)
  have b1 := stepI_bd s
  have b2 := mixI_bd (stepI s)
  go_enter Try.func22, Try.ntmps22
  go_wp2_with fail
  refine (step_any s _ h0 h1).mono ?_
  rintro e w' ⟨rfl, rfl⟩
  go_wp2_with fail
  refine (mix_any (stepI s) _ b1.1 b1.2).mono ?_
  rintro e w1 ⟨rfl, hb1⟩
  go_wp2_with fail
  refine (times_any (mixI (stepI s)) n _ b2.1 b2.2 (by omega) (by omega)).mono ?_
  rintro e w2 ⟨rfl, hb2⟩
  rw [← hdef.out]
  have hb := hb1.trans (hb2.mono hb1.size)
  clear hb1 hb2
  go_wp2_with fail
  refine (step_any s _ h0 h1).mono ?_
  rintro e w' ⟨rfl, rfl⟩
  go_wp2
  go_ret2
  exact ⟨rfl, hb⟩

/-- what is taken in a range. -/
def rangeN (s a b : Int) : Int := if a > b ∨ a < -1099511627776 ∨ a > 1099511627776 ∨ b < -1099511627776 ∨ b > 1099511627776 then a else a + hiI s (b - a + 1)
def rangeS (s a b : Int) : Int := if a > b ∨ a < -1099511627776 ∨ a > 1099511627776 ∨ b < -1099511627776 ∨ b > 1099511627776 then s else stepI s

theorem range_any (s a b : Int) (w : World) (h0 : 0 ≤ s) (h1 : s < 18446744073709551616) :
    Calls Try.prog 23 #[.int .u64 s, .int .i64 a, .int .i64 b] w fun e w' => e = .returned (.tuple #[.int .i64 (rangeN s a b), .int .u64 (rangeS s a b)]) ∧ Below w.heap.size w w' := by
  by_cases hc : a > b ∨ a < -1099511627776 ∨ a > 1099511627776 ∨ b < -1099511627776 ∨ b > 1099511627776
  · have e1 := Lib.hid (show rangeN s a b = a from if_pos hc)
    have e2 := Lib.hid (show rangeS s a b = s from if_pos hc)
    go_enter Try.func23, Try.ntmps23
    rcases hc with hc | hc | hc | hc | hc
    all_goals
      go_wp2
      all_goals
        go_ret2
        exact ⟨by rw [e1.out, e2.out]; rfl, Below.refl _ _⟩
  · have e1 := Lib.hid (show rangeN s a b = a + hiI s (b - a + 1) from if_neg hc)
    have e2 := Lib.hid (show rangeS s a b = stepI s from if_neg hc)
    have c1 : a ≤ b := by omega
    have c2 : -1099511627776 ≤ a := by omega
    have c3 : a ≤ 1099511627776 := by omega
    have c4 : -1099511627776 ≤ b := by omega
    have c5 : b ≤ 1099511627776 := by omega
    clear hc
    have hh := hiI_bd s (b - a + 1) (by omega)
    go_enter Try.func23, Try.ntmps23
    go_wp2_with fail
    refine (below_some s (b - a + 1) _ h0 h1 (by omega) (by omega)).mono ?_
    rintro e w1 ⟨rfl, hb1⟩
    go_wp2
    go_ret2
    exact ⟨by rw [e1.out, e2.out]; rfl, hb1⟩

theorem percent_any (s p : Int) (w : World) (h0 : 0 ≤ s) (h1 : s < 18446744073709551616) :
    Calls Try.prog 24 #[.int .u64 s, .int .i64 p] w fun e w' => e = .returned (.tuple #[.bool (decide (hiI s 100 < p)), .int .u64 (stepI s)]) ∧ Below w.heap.size w w' := by
  go_enter Try.func24, Try.ntmps24
  go_wp2_with fail
  refine (below_some s 100 _ h0 h1 (by omega) (by omega)).mono ?_
  rintro e w1 ⟨rfl, hb1⟩
  go_wp2
  go_ret2
  exact ⟨rfl, hb1⟩

/-- the state of a seed and some numbers. -/
def streamI : Int → List Int → Int
  | s, [] => s
  | s, x :: l => streamI (mixI (((s.toNat ^^^ (mixI (stepI x)).toNat : Nat) : Int))) l
theorem streamI_snoc (l : List Int) (x : Int) : ∀ s, streamI s (l ++ [x]) = mixI ((((streamI s l).toNat ^^^ (mixI (stepI x)).toNat : Nat) : Int)) := by
  induction l with
  | nil => intro s; rfl
  | cons y l ih => intro s; exact ih _

/-- a slice of whole numbers of one kind that may be read. -/
def Nums (k : IntKind) (w : World) (v : Value) (xs : List Int) : Prop :=
  ∃ a len cap, v = .slice a len cap ∧ len = xs.length ∧ xs.length ≤ 9223372036854775807 ∧ (∀ x ∈ xs, (Lit.int k x).wf = true) ∧ (xs ≠ [] → ∃ b off, a = some ⟨b, off, none⟩ ∧ ∀ j x, xs[j]? = some x → w.cell? ⟨b, off + j, none⟩ = some (.int k x)) ∧ (a = none → cap = 0)
theorem Nums.below {k : IntKind} {w w' : World} {v : Value} {xs : List Int} (h : Nums k w v xs) (hb : Below w.heap.size w w') : Nums k w' v xs := by
  obtain ⟨a, len, cap, h1, h2, h3, h4, h5, h6⟩ := h
  refine ⟨a, len, cap, h1, h2, h3, h4, fun h => ?_, h6⟩
  obtain ⟨b, off, e, hc⟩ := h5 h
  refine ⟨b, off, e, fun j x hx => ?_⟩
  have := hc j x hx
  exact (hb.cell (p := ⟨b, off + j, none⟩) (World.block_lt_of_cell? w _ this)).trans this

theorem xor_model (a b : Int) (h0 : 0 ≤ a) (h1 : a < 18446744073709551616) (g0 : 0 ≤ b) (g1 : b < 18446744073709551616) :
    Go.bits .xor .u64 a b = ((a.toNat ^^^ b.toNat : Nat) : Int) ∧ 0 ≤ ((a.toNat ^^^ b.toNat : Nat) : Int) ∧ ((a.toNat ^^^ b.toNat : Nat) : Int) < 18446744073709551616 := by
  obtain ⟨m, rfl⟩ := Int.eq_ofNat_of_zero_le h0
  obtain ⟨n, rfl⟩ := Int.eq_ofNat_of_zero_le g0
  simp only [Int.toNat_natCast]
  refine ⟨bits_xor_u64_nat m n (by omega) (by omega), by omega, ?_⟩
  have : m ^^^ n < 2 ^ 64 := Nat.xor_lt_two_pow (by omega) (by omega)
  omega

theorem streamI_bd (l : List Int) (s : Int) (h : 0 ≤ s ∧ s < 18446744073709551616) : 0 ≤ streamI s l ∧ streamI s l < 18446744073709551616 := by
  induction l generalizing s with
  | nil => exact h
  | cons x l ih => exact ih _ (mixI_bd _)

theorem stream_any (s : Int) (v : Value) (xs : List Int) (w : World) (h0 : 0 ≤ s) (h1 : s < 18446744073709551616) (hv : Nums .u64 w v xs) :
    Calls Try.prog 18 #[.int .u64 s, v] w fun e w' => e = .returned (.int .u64 (streamI (mixI (stepI s)) xs)) ∧ Below w.heap.size w w' := by
  obtain ⟨a, len, cap, rfl, rfl, hlen, hwf, hc, hcap⟩ := hv
  clear hcap
  have b1 := stepI_bd s
  go_enter Try.func18, Try.ntmps18
  go_wp2_with fail
  refine (step_any s _ h0 h1).mono ?_
  rintro e w' ⟨rfl, rfl⟩
  go_wp2_with fail
  refine (mix_any (stepI s) _ b1.1 b1.2).mono ?_
  rintro e w1 ⟨rfl, hb1⟩
  go_wp2
  have hS := Lib.hid (mixI_bd (stepI s))
  generalize he : mixI (stepI s) = s1 at *
  have He := Lib.hid he
  clear he
  go_loopw [5, 6] (fun v i wr => ∃ k : Nat, k ≤ xs.length ∧ i = .int .i64 k ∧ v = .int .u64 (streamI s1 (xs.take k)) ∧ Below w.heap.size w wr) (fun _ i _ => xs.length - (intOf i).toNat)
  case atStart => exact ⟨0, by omega, rfl, rfl, hb1⟩
  case round =>
    obtain ⟨k, hk, rfl, rfl, hbr⟩ := hrel
    have hb := streamI_bd (xs.take k) s1 hS.out
    by_cases hlt : k < xs.length
    · obtain ⟨b, off, rfl, hcell⟩ := hc (by intro h; subst h; simp at hlt)
      have hx : xs[k]? = some xs[k] := List.getElem?_eq_getElem hlt
      have hck := hcell k _ hx
      have hbl : b < w.heap.size := World.block_lt_of_cell? w _ hck
      have hcr : wr.cell? ⟨b, off + k, none⟩ = some (.int .u64 xs[k]) := (hbr.cell (p := ⟨b, off + k, none⟩) hbl).trans hck
      have hxb := bounds_u64 (hwf _ (List.getElem_mem hlt))
      have htake : xs.take (k + 1) = xs.take k ++ [xs[k]] := by rw [List.take_succ_eq_append_getElem hlt]
      have hst := Lib.hid (show streamI s1 (xs.take (k + 1)) = _ by rw [htake, streamI_snoc])
      clear hcell hc hck htake hx
      have b2 := stepI_bd xs[k]
      have b3 := mixI_bd (stepI xs[k])
      generalize xs[k] = x at *
      generalize streamI s1 (xs.take k) = s2 at *
      have hxor := xor_model s2 (mixI (stepI x)) hb.1 hb.2 b3.1 b3.2
      have hxe := Lib.hid hxor.1
      have hx2 := hxor.2
      clear hxor
      go_wp2_with fail
      refine (step_any x _ (by omega) (by omega)).mono ?_
      rintro e w' ⟨rfl, rfl⟩
      go_wp2_with fail
      refine (mix_any (stepI x) _ b2.1 b2.2).mono ?_
      rintro e w3 ⟨rfl, hb3⟩
      go_wp2_with fail
      rw [hxe.out]
      refine (mix_any _ _ hx2.1 hx2.2).mono ?_
      rintro e w4 ⟨rfl, hb4⟩
      go_wp2
      go_roundw
      case rel => exact ⟨k + 1, by omega, by go_num, by rw [hst.out], hbr.trans ((hb3.trans (hb4.mono hb3.size)).mono hbr.size)⟩
      case measure => simp [intOf]; omega
    · obtain rfl : k = xs.length := by omega
      go_wp2
      go_ret
      exact ⟨by rw [List.take_length, He.out]; rfl, hbr⟩

end Go.Proofs.Ytoaagdmgoicboaa.Ref02
