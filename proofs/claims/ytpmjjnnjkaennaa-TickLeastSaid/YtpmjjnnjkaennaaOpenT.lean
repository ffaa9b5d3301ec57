/- How a row's arguments are opened: slices of numbers. Lemmas alone; no condition. -/
import Derived.WalkKit
import Derived.ProofKit
import Derived.OpenShut
import Derived.Lib.SmallJoins
import Derived.SizedLaws
import Derived.Test.YtpmjjnnjkaennaaTickB
namespace Go.Proofs.Ytpmjjnnjkaennaa.Open
open Go Go.ChangeShapes Go.WideShapes Go.ChangeAt Go.RowKit

variable {H : Type} {enc : TypeId × Value → H} {P : Program} {w : World} {base : Nat} {spare : Nat → Bool} {held : Bool}

theorem nums {r : Reach} {b0 : Nat} {t e : TypeId} {v : Value} {d : DataW H} {p : List MemPlace} (ht : P.underlying t = some (.slice e)) (he : P.underlying e = some (.int .i64)) (hc : P.cellsOf e = 1)
    (hv : Value.okWide P w r b0 t v) (h : DataW.Trod enc P w 0 spare held t v d p) : ∃ xs, Tick.Nums w v xs := by
  obtain ⟨a, len, cap, rfl⟩ := okWide_slice ht hv
  obtain ⟨fuel, hf⟩ := h
  rcases DataW.trod_slice ht hf with ⟨hcs, _⟩ | ⟨ad, l, c, elems, rest, m, _, hcs, _, _, hle, hcap, hel, hx, _⟩
  · simp [Value.cells] at hcs
    obtain ⟨rfl, rfl, rfl⟩ := hcs
    exact ⟨[], none, 0, 0, rfl, rfl, by simp, by simp, fun h => absurd rfl h, fun _ => rfl⟩
  · simp [Value.cells] at hcs
    obtain ⟨rfl, rfl, rfl⟩ := hcs
    unfold maxLen at hcap
    have key : ∀ i, i < len → ∃ x, w.cell? (ad.add i) = some (.int .i64 x) ∧ (Lit.int .i64 x).wf = true := by
      intro i hi
      have h1 := hx i hi
      rw [hc] at h1
      obtain ⟨y, hy⟩ : ∃ y, elems[i]? = some y := ⟨_, List.getElem?_eq_getElem (by omega)⟩
      rw [hy, Nat.mul_one] at h1
      obtain ⟨cs, h2, h3⟩ := Option.bind_eq_some_iff.1 h1
      obtain ⟨x, rfl, _, hw⟩ := DataW.trod_int he h3
      refine ⟨x, ?_, hw⟩
      have z : (ad.add i).add 0 = ad.add i := rfl
      cases hq : w.cell? (ad.add i) with
      | none => simp [World.cells?, z, hq] at h2
      | some u => simp [World.cells?, z, hq] at h2; rw [h2]
    refine ⟨(List.range len).map fun i => match w.cell? (ad.add i) with | some (.int _ x) => x | _ => 0, some ad, len, cap, rfl, by simp, by simp; omega, ?_, ?_, fun h => by cases h⟩
    · intro x hx
      obtain ⟨i, hi, rfl⟩ := List.mem_map.1 hx
      obtain ⟨y, h1, h2⟩ := key i (List.mem_range.1 hi)
      rw [h1]
      exact h2
    · intro hne
      have hlen : 0 < len := by
        rcases Nat.eq_zero_or_pos len with h | h
        · subst h; exact absurd rfl hne
        · exact h
      have hsp : ad = ⟨ad.block, ad.off, none⟩ := by
        obtain ⟨x, h1, _⟩ := key 0 hlen
        obtain ⟨b, o, sp⟩ := ad
        cases sp with
        | none => rfl
        | some z =>
          simp [Addr.add, World.cell?] at h1
          split at h1 <;> simp_all
      refine ⟨ad.block, ad.off, by rw [← hsp], fun j x hj => ?_⟩
      rw [List.getElem?_map] at hj
      have hjl : j < len := by
        rcases Nat.lt_or_ge j len with h | h
        · exact h
        · rw [List.getElem?_eq_none (by simpa using h)] at hj; cases hj
      rw [List.getElem?_range hjl] at hj
      simp only [Option.map_some, Option.some.injEq] at hj
      obtain ⟨y, h1, _⟩ := key j hjl
      rw [h1] at hj
      simp only at hj
      subst hj
      rw [← h1, hsp]
      congr 1
      by_cases e : j = 0
      · subst e; rfl
      · simp [Addr.add, e]
end Go.Proofs.Ytpmjjnnjkaennaa.Open
