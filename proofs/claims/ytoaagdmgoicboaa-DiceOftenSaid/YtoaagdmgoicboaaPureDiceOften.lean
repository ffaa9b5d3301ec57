/- What is proved: what is true so often in a hundred is true more often, too; never of nothing, always of a hundred. Conditions: none. -/
import Derived.Test.YtoaagdmgoicboaaPDiceOftenx1
import Derived.Test.YtoaagdmgoicboaaMix
import Derived.KernelRfl
import Derived.OpenShut
namespace Go.Proofs.Ytoaagdmgoicboaa.Pure
open Go.RowKit Go.Proofs.Ytoaagdmgoicboaa.PDiceOften Go.Proofs.YtoaagdmgoicboaaW.PrintWords Go.Proofs.YtoaagdmgoicboaaW.PrintLast

/-- YOURS: ∀ (a0 : Int) (a1 : Int) (a2 : Int), (Lit.int .u64 a0).wf = true → (Lit.int .i64 a1).wf = true → (Lit.int .i64 a2).wf = true → ∃ k, chicanelaw02_DiceOften.f k a0 a1 a2 = some true
What it reaches (each with k first where it has rounds; `.mono`: more rounds tell the same; `.l0`, ..: its loops, with `.mono_l`): dice_Mix.f, dice_Next.f, dice_Many.f, dice_Stream.f, bits_Mul64.f, dice_Below.f, chicanelaw02_alive.f, dice_Percent.f, chicanelaw02_DiceOften.f -/
theorem alive_true : chicanelaw02_alive.f 5 = some true := by kernel_rfl

theorem mix_some (a : Nat) (ha : a < Mix.m64) : dice_Mix.f (a : Int) = some ((Mix.mix a : Nat) : Int) := by
  unfold dice_Mix.f
  rw [Mix.mix_model a ha]

theorem nat_of (a : Int) (h : (Lit.int .u64 a).wf = true) : ∃ n : Nat, a = (n : Int) ∧ n < Mix.m64 := by
  have h2 := bounds_u64 h
  obtain ⟨n, rfl⟩ := Int.eq_ofNat_of_zero_le h2.1
  refine ⟨n, rfl, ?_⟩
  unfold Mix.m64
  omega

theorem step_nat (a : Nat) : IntKind.u64.wrap ((a : Int) + 11400714819323198485) = ((Mix.step a : Nat) : Int) := by
  rw [IntKind.wrap_u64]; unfold Mix.step Mix.m64; omega

theorem mul_some (a b : Int) (ha : 0 ≤ a) (ha' : a < 18446744073709551616) (hb : 0 ≤ b) (hb' : b < 18446744073709551616) :
    ∃ x, bits_Mul64.f a b = some (a * b / 18446744073709551616, x) := by
  unfold bits_Mul64.f
  rw [Mix.mul_model a b ha ha' hb hb']
  exact ⟨_, rfl⟩

theorem below_some (a : Nat) : ∃ t, dice_Below.f (a : Int) 100 = some (((Mix.mix (Mix.step a) : Nat) : Int) * 100 / 18446744073709551616, t) := by
  unfold dice_Below.f dice_Next.f
  rw [if_neg (by omega), step_nat, mix_some (Mix.step a) (Nat.mod_lt _ (by decide))]
  simp only [Option.bind_some]
  have hm := Mix.mix_lt (Mix.step a)
  unfold Mix.m64 at hm
  have hw : IntKind.u64.wrap (100 : Int) = 100 := by rw [IntKind.wrap_u64]; rfl
  obtain ⟨x, hx⟩ := mul_some ((Mix.mix (Mix.step a) : Nat) : Int) 100 (by omega) (by omega) (by omega) (by omega)
  rw [hw, hx]
  simp only [Option.bind_some]
  have h64 : wrap64 (((Mix.mix (Mix.step a) : Nat) : Int) * 100 / 18446744073709551616) = ((Mix.mix (Mix.step a) : Nat) : Int) * 100 / 18446744073709551616 := by
    unfold wrap64; omega
  rw [h64]
  exact ⟨_, rfl⟩

theorem DiceOften : chicanelaw02_DiceOften.Pure := by
  intro s p q hs hp hq
  obtain ⟨n, rfl, hn⟩ := nat_of s hs
  refine ⟨5, ?_⟩
  unfold chicanelaw02_DiceOften.f dice_Percent.f
  by_cases h : q < p
  · rw [if_pos h, alive_true]; rfl
  · obtain ⟨t, ht⟩ := below_some n
    rw [if_neg h, ht, alive_true]
    simp only [Option.bind_some, if_true]
    have hm := Mix.mix_lt (Mix.step n)
    unfold Mix.m64 at hm
    generalize Mix.mix (Mix.step n) = v at hm ⊢
    have h1 : decide ((v : Int) * 100 / 18446744073709551616 < 0) = false := decide_eq_false (by omega)
    have h2 : decide ((v : Int) * 100 / 18446744073709551616 < 100) = true := decide_eq_true (by omega)
    rw [h1, h2]
    by_cases a : (v : Int) * 100 / 18446744073709551616 < p
    · have b : (v : Int) * 100 / 18446744073709551616 < q := by omega
      simp [a, b]
    · simp [a]

end Go.Proofs.Ytoaagdmgoicboaa.Pure
