/- What is proved: no two 64-bit numbers are mixed to one value (and the law's fixed examples hold). Conditions: none. -/
import Derived.Test.YtoaagdmgoicboaaPDiceMixedx1
import Derived.Test.YtoaagdmgoicboaaMix
import Derived.KernelRfl
import Derived.OpenShut
namespace Go.Proofs.Ytoaagdmgoicboaa.Pure
open Go.RowKit Go.Proofs.Ytoaagdmgoicboaa.PDiceMixed Go.Proofs.YtoaagdmgoicboaaW.PrintWords Go.Proofs.YtoaagdmgoicboaaW.PrintLast

/-- YOURS: ∀ (a0 : Int) (a1 : Int), (Lit.int .u64 a0).wf = true → (Lit.int .u64 a1).wf = true → ∃ k, chicanelaw02_DiceMixed.f k a0 a1 = some true
What it reaches (each with k first where it has rounds; `.mono`: more rounds tell the same; `.l0`, ..: its loops, with `.mono_l`): dice_Mix.f, dice_Next.f, dice_Many.f, dice_Stream.f, bits_Mul64.f, dice_Below.f, chicanelaw02_alive.f, chicanelaw02_DiceMixed.f -/
theorem alive_true : chicanelaw02_alive.f 5 = some true := by kernel_rfl

theorem mix_some (a : Nat) (ha : a < Mix.m64) : dice_Mix.f (a : Int) = some ((Mix.mix a : Nat) : Int) := by
  unfold dice_Mix.f
  rw [Mix.mix_model a ha]

theorem nat_of (a : Int) (h : (Lit.int .u64 a).wf = true) : ∃ n : Nat, a = (n : Int) ∧ n < Mix.m64 := by
  have h2 := bounds_u64 h
  obtain ⟨n, rfl⟩ := Int.eq_ofNat_of_zero_le h2.1
  refine ⟨n, rfl, ?_⟩
  unfold Mix.m64
  omega

theorem DiceMixed : chicanelaw02_DiceMixed.Pure := by
  intro a b ha hb
  obtain ⟨m, rfl, hm⟩ := nat_of a ha
  obtain ⟨n, rfl, hn⟩ := nat_of b hb
  refine ⟨5, ?_⟩
  unfold chicanelaw02_DiceMixed.f
  rw [alive_true, mix_some m hm, mix_some n hn]
  simp only [Option.bind_some, if_true, Option.some.injEq]
  by_cases e : m = n
  · subst e; simp
  · have h1 : ((m : Int) == (n : Int)) = false := by simp; omega
    have h2 : (((Mix.mix m : Nat) : Int) == ((Mix.mix n : Nat) : Int)) = false := by
      rw [beq_eq_false_iff_ne]
      intro h
      exact e (Mix.mix_inj m n hm hn (by exact_mod_cast h))
    rw [h1, h2]; rfl

end Go.Proofs.Ytoaagdmgoicboaa.Pure
