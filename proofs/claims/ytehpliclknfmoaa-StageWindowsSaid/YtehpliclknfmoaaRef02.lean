/- The reference's answers for dice (chapter 02): each function's contract. Conditions: the numbers are of their kinds. -/
import Derived.Test.YtehpliclknfmoaaTimes
import Derived.Test.YtehpliclknfmoaaMix
import Derived.OpenShut
namespace Go.Proofs.Ytehpliclknfmoaa.Ref02
open Go.RowKit Mix Times
set_option maxRecDepth 100000
set_option linter.unusedVariables false
set_option linter.unusedSimpArgs false

def M : Int := 18446744073709551616
def mixI (a : Int) : Int := ((mix a.toNat : Nat) : Int)
def stepI (a : Int) : Int := (a + 11400714819323198485) % 18446744073709551616
theorem mixI_bd (a : Int) : 0 ≤ mixI a ∧ mixI a < 18446744073709551616 := by
  have := mix_lt a.toNat
  unfold m64 at this
  unfold mixI
  omega
theorem stepI_bd (a : Int) : 0 ≤ stepI a ∧ stepI a < 18446744073709551616 := by unfold stepI; omega
theorem fold_model (n : Int) (s : Nat) (h0 : 0 ≤ n) (h1 : n < 18446744073709551616) : Go.bits .xor .u64 n (n / (s : Int)) = ((fold n.toNat s : Nat) : Int) := by
  obtain ⟨m, rfl⟩ := Int.eq_ofNat_of_zero_le h0
  rw [Int.toNat_natCast]
  exact xorShift_u64 m s (by omega)

theorem mixI_eq (n : Int) (h0 : 0 ≤ n) : ((fold ((((fold ((((fold n.toNat 1073741824 : Nat) : Int) * 13787848793156543929 % 18446744073709551616).toNat) 134217728 : Nat) : Int) * 10723151780598845931 % 18446744073709551616).toNat) 2147483648 : Nat) : Int) = mixI n := by
  unfold mixI mix m64
  have e : ∀ x c : Nat, (((x : Int) * (c : Int)) % 18446744073709551616).toNat = x * c % 18446744073709551616 := fun x c => by omega
  have e1 := e (fold n.toNat 1073741824) 13787848793156543929
  rw [show ((13787848793156543929 : Nat) : Int) = 13787848793156543929 from rfl] at e1
  rw [e1]
  have e2 := e (fold (fold n.toNat 1073741824 * 13787848793156543929 % 18446744073709551616) 134217728) 10723151780598845931
  rw [show ((10723151780598845931 : Nat) : Int) = 10723151780598845931 from rfl] at e2
  rw [e2]

theorem fold_bd (n s : Nat) (h : n < 18446744073709551616) : 0 ≤ ((fold n s : Nat) : Int) ∧ ((fold n s : Nat) : Int) < 18446744073709551616 := by
  have := fold_lt n s h
  unfold m64 at this
  omega

/-- so many steps. -/
def steps : Nat → Int → Int
  | 0, s => s
  | n + 1, s => stepI (steps n s)
theorem steps_bd (n : Nat) (s : Int) (h : 0 ≤ s ∧ s < 18446744073709551616) : 0 ≤ steps n s ∧ steps n s < 18446744073709551616 := by
  cases n with
  | zero => exact h
  | succ n => exact stepI_bd _

def hiI (s n : Int) : Int := mixI (stepI s) * n / 18446744073709551616
theorem hiI_bd (s n : Int) (h0 : 1 ≤ n) : 0 ≤ hiI s n ∧ hiI s n < n := by
  have := mixI_bd (stepI s)
  unfold hiI
  generalize mixI (stepI s) = v at *
  have a : 0 ≤ v * n := Int.mul_nonneg this.1 (by omega)
  have b : v * n < 18446744073709551616 * n := Int.mul_lt_mul_of_pos_right this.2 (by omega)
  constructor <;> omega

/-- what is taken in a range. -/
def rangeN (s a b : Int) : Int := if a > b ∨ a < -1099511627776 ∨ a > 1099511627776 ∨ b < -1099511627776 ∨ b > 1099511627776 then a else a + hiI s (b - a + 1)
def rangeS (s a b : Int) : Int := if a > b ∨ a < -1099511627776 ∨ a > 1099511627776 ∨ b < -1099511627776 ∨ b > 1099511627776 then s else stepI s

/-- the state of a seed and some numbers. -/
def streamI : Int → List Int → Int
  | s, [] => s
  | s, x :: l => streamI (mixI (((s.toNat ^^^ (mixI (stepI x)).toNat : Nat) : Int))) l
theorem streamI_snoc (l : List Int) (x : Int) : ∀ s, streamI s (l ++ [x]) = mixI ((((streamI s l).toNat ^^^ (mixI (stepI x)).toNat : Nat) : Int)) := by
  induction l with
  | nil => intro s; rfl
  | cons y l ih => intro s; exact ih _

/-- a slice of whole numbers of one kind that may be read. -/
def Nums (k : IntKind) (w : World) (v : Value) (xs : List Int) : Prop :=
  ∃ a len cap, v = .slice a len cap ∧ len = xs.length ∧ xs.length ≤ 9223372036854775807 ∧ (∀ x ∈ xs, (Lit.int k x).wf = true) ∧ (xs ≠ [] → ∃ b off, a = some ⟨b, off, none⟩ ∧ ∀ j x, xs[j]? = some x → w.cell? ⟨b, off + j, none⟩ = some (.int k x)) ∧ (a = none → cap = 0)
theorem Nums.below {k : IntKind} {w w' : World} {v : Value} {xs : List Int} (h : Nums k w v xs) (hb : Below w.heap.size w w') : Nums k w' v xs := by
  obtain ⟨a, len, cap, h1, h2, h3, h4, h5, h6⟩ := h
  refine ⟨a, len, cap, h1, h2, h3, h4, fun h => ?_, h6⟩
  obtain ⟨b, off, e, hc⟩ := h5 h
  refine ⟨b, off, e, fun j x hx => ?_⟩
  have := hc j x hx
  exact (hb.cell (p := ⟨b, off + j, none⟩) (World.block_lt_of_cell? w _ this)).trans this

theorem xor_model (a b : Int) (h0 : 0 ≤ a) (h1 : a < 18446744073709551616) (g0 : 0 ≤ b) (g1 : b < 18446744073709551616) :
    Go.bits .xor .u64 a b = ((a.toNat ^^^ b.toNat : Nat) : Int) ∧ 0 ≤ ((a.toNat ^^^ b.toNat : Nat) : Int) ∧ ((a.toNat ^^^ b.toNat : Nat) : Int) < 18446744073709551616 := by
  obtain ⟨m, rfl⟩ := Int.eq_ofNat_of_zero_le h0
  obtain ⟨n, rfl⟩ := Int.eq_ofNat_of_zero_le g0
  simp only [Int.toNat_natCast]
  refine ⟨bits_xor_u64_nat m n (by omega) (by omega), by omega, ?_⟩
  have : m ^^^ n < 2 ^ 64 := Nat.xor_lt_two_pow (by omega) (by omega)
  omega

theorem streamI_bd (l : List Int) (s : Int) (h : 0 ≤ s ∧ s < 18446744073709551616) : 0 ≤ streamI s l ∧ streamI s l < 18446744073709551616 := by
  induction l generalizing s with
  | nil => exact h
  | cons x l ih => exact ih _ (mixI_bd _)

end Go.Proofs.Ytehpliclknfmoaa.Ref02
