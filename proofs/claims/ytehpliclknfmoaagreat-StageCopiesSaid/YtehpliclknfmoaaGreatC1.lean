/- Plain law: the mixing of 64-bit numbers over the natural numbers. No condition. -/
import Derived.Laws.Bits64
import Derived.Laws.BitsLemmas
namespace Go.Proofs.YtehpliclknfmoaaGreat.Mix

def m64 : Nat := 18446744073709551616
def fold (n s : Nat) : Nat := n ^^^ n / s
def mix (n : Nat) : Nat := fold (fold (fold n 1073741824 * 13787848793156543929 % m64) 134217728 * 10723151780598845931 % m64) 2147483648
theorem fold_lt (n s : Nat) (h : n < m64) : fold n s < m64 := by
  unfold fold m64 at *
  exact Nat.xor_lt_two_pow (n := 64) h (Nat.lt_of_le_of_lt (Nat.div_le_self _ _) h)

theorem mix_lt (n : Nat) : mix n < m64 := by
  unfold mix
  exact fold_lt _ _ (Nat.mod_lt _ (by decide))

theorem mix_core2 (A : Int) (c : Nat) (hA : A = (c : Int)) (hc : c < m64) :
    Go.bits .xor .u64 A (A / 2147483648) = ((fold c 2147483648 : Nat) : Int) := by
  subst hA
  exact xorShift_u64 c 2147483648 hc

theorem mix_core1 (A : Int) (b : Nat) (hA : A = (b : Int)) (hb : b < m64) :
    Go.bits .xor .u64 (IntKind.u64.wrap ((Go.bits .xor .u64 A (A / 134217728)) * 10723151780598845931)) ((IntKind.u64.wrap ((Go.bits .xor .u64 A (A / 134217728)) * 10723151780598845931)) / 2147483648) = ((fold (fold b 134217728 * 10723151780598845931 % m64) 2147483648 : Nat) : Int) := by
  subst hA
  exact mix_core2 _ _ (mixStep_u64 b 134217728 10723151780598845931 hb) (Nat.mod_lt _ (by decide))

theorem mix_model (a : Nat) (ha : a < m64) :
    Go.bits .xor .u64 (IntKind.u64.wrap ((Go.bits .xor .u64 (IntKind.u64.wrap ((Go.bits .xor .u64 (a : Int) ((a : Int) / 1073741824)) * 13787848793156543929)) ((IntKind.u64.wrap ((Go.bits .xor .u64 (a : Int) ((a : Int) / 1073741824)) * 13787848793156543929)) / 134217728)) * 10723151780598845931)) ((IntKind.u64.wrap ((Go.bits .xor .u64 (IntKind.u64.wrap ((Go.bits .xor .u64 (a : Int) ((a : Int) / 1073741824)) * 13787848793156543929)) ((IntKind.u64.wrap ((Go.bits .xor .u64 (a : Int) ((a : Int) / 1073741824)) * 13787848793156543929)) / 134217728)) * 10723151780598845931)) / 2147483648) = ((mix a : Nat) : Int) :=
  mix_core1 _ _ (mixStep_u64 a 1073741824 13787848793156543929 ha) (Nat.mod_lt _ (by decide))

theorem mul_model (a b : Int) (ha : 0 ≤ a) (ha' : a < 18446744073709551616) (hb : 0 ≤ b) (hb' : b < 18446744073709551616) :
    IntKind.u64.wrap ((IntKind.u64.wrap ((IntKind.u64.wrap ((a / 4294967296) * (b / 4294967296))) + ((IntKind.u64.wrap ((IntKind.u64.wrap ((a / 4294967296) * (Go.bits .and .u64 b 4294967295))) + ((IntKind.u64.wrap ((Go.bits .and .u64 a 4294967295) * (Go.bits .and .u64 b 4294967295))) / 4294967296))) / 4294967296))) + ((IntKind.u64.wrap ((Go.bits .and .u64 (IntKind.u64.wrap ((IntKind.u64.wrap ((a / 4294967296) * (Go.bits .and .u64 b 4294967295))) + ((IntKind.u64.wrap ((Go.bits .and .u64 a 4294967295) * (Go.bits .and .u64 b 4294967295))) / 4294967296))) 4294967295) + (IntKind.u64.wrap ((Go.bits .and .u64 a 4294967295) * (b / 4294967296))))) / 4294967296)) = a * b / 18446744073709551616 := by
  have hk : ∀ n : Int, 0 ≤ n → n < 2 ^ 64 → IntKind.u64.wrap n = n := by
    intro n h0 h1
    rw [IntKind.wrap_u64]
    omega
  have mk : ∀ x : Int, 0 ≤ x → x < 18446744073709551616 → Go.bits .and .u64 x 4294967295 = x % 4294967296 := by
    intro x h0 h1
    exact bits_mask .u64 64 (by decide) hk 32 (by decide) x h0 h1
  rw [mk a ha ha', mk b hb hb']
  have bd : ∀ x y : Int, 0 ≤ x → x < 4294967296 → 0 ≤ y → y < 4294967296 → 0 ≤ x * y ∧ x * y ≤ 18446744065119617025 := by
    intro x y h0 h1 h2 h3
    refine ⟨Int.mul_nonneg h0 h2, ?_⟩
    have : x * y ≤ 4294967295 * 4294967295 := Int.mul_le_mul (by omega) (by omega) h2 (by decide)
    omega
  have e : a * b = (a / 4294967296) * (b / 4294967296) * 18446744073709551616 + ((a / 4294967296) * (b % 4294967296) + (a % 4294967296) * (b / 4294967296)) * 4294967296 + (a % 4294967296) * (b % 4294967296) := by
    have h1 : a = (a / 4294967296) * 4294967296 + a % 4294967296 := by omega
    have h2 : b = (b / 4294967296) * 4294967296 + b % 4294967296 := by omega
    generalize a / 4294967296 = p at *
    generalize a % 4294967296 = q at *
    generalize b / 4294967296 = r at *
    generalize b % 4294967296 = s at *
    subst h1 h2
    simp only [Int.add_mul, Int.mul_add]
    have k1 : p * 4294967296 * (r * 4294967296) = p * r * 18446744073709551616 := by
      rw [show (18446744073709551616 : Int) = 4294967296 * 4294967296 from rfl]; ac_rfl
    have k2 : p * 4294967296 * s = p * s * 4294967296 := by ac_rfl
    have k3 : q * (r * 4294967296) = q * r * 4294967296 := by ac_rfl
    rw [k1, k2, k3]
    omega
  rw [e]
  have b11 := bd (a / 4294967296) (b / 4294967296) (by omega) (by omega) (by omega) (by omega)
  have b10 := bd (a / 4294967296) (b % 4294967296) (by omega) (by omega) (by omega) (by omega)
  have b01 := bd (a % 4294967296) (b / 4294967296) (by omega) (by omega) (by omega) (by omega)
  have b00 := bd (a % 4294967296) (b % 4294967296) (by omega) (by omega) (by omega) (by omega)
  generalize a / 4294967296 * (b / 4294967296) = p11 at *
  generalize a / 4294967296 * (b % 4294967296) = p10 at *
  generalize a % 4294967296 * (b / 4294967296) = p01 at *
  generalize a % 4294967296 * (b % 4294967296) = p00 at *
  simp only [IntKind.wrap_u64]
  rw [Int.emod_eq_of_lt (a := p11) (by omega) (by omega), Int.emod_eq_of_lt (a := p10) (by omega) (by omega), Int.emod_eq_of_lt (a := p01) (by omega) (by omega), Int.emod_eq_of_lt (a := p00) (by omega) (by omega)]
  have t0 : 0 ≤ p10 + p00 / 4294967296 := by omega
  have t1 : p10 + p00 / 4294967296 < 18446744073709551616 := by omega
  rw [Int.emod_eq_of_lt t0 t1, mk _ t0 t1]
  omega

end Go.Proofs.YtehpliclknfmoaaGreat.Mix
