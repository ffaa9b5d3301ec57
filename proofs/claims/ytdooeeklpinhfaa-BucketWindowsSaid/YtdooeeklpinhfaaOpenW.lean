/- How a row's arguments are opened: slices of pairs of numbers. Lemmas alone; no condition. -/
import Derived.WalkKit
import Derived.ProofKit
import Derived.OpenShut
import Derived.Lib.SmallJoins
import Derived.SizedLaws
import Derived.Test.YtdooeeklpinhfaaWinB
namespace Go.Proofs.Ytdooeeklpinhfaa.Open
open Go Go.ChangeShapes Go.WideShapes Go.ChangeAt Go.RowKit

variable {H : Type} {enc : TypeId × Value → H} {P : Program} {w : World} {base : Nat} {spare : Nat → Bool} {held : Bool}

theorem pairs {r : Reach} {b0 : Nat} {t s e : TypeId} {n0 n1 : Field} {v : Value} {d : DataW H} {p : List MemPlace} (ht : P.underlying t = some (.slice s)) (hs : P.underlying s = some (.struct #[n0, n1])) (he : P.underlying e = some (.int .i64)) (hc : P.cellsOf e = 1) (hC : P.cellsOf s = 2)
    (h0 : n0.type = e) (h1 : n1.type = e) (z0 : n0.offset = 0) (z1 : n1.offset = 1)
    (hv : Value.okWide P w r b0 t v) (h : DataW.Trod enc P w 0 spare held t v d p) : ∃ xs, Win.Pairs w v xs := by
  obtain ⟨a, len, cap, rfl⟩ := okWide_slice ht hv
  obtain ⟨fuel, hf⟩ := h
  rcases DataW.trod_slice ht hf with ⟨hcs, _⟩ | ⟨ad, l, c, elems, rest, m, _, hcs, _, _, hle, hcap, hel, hx, _⟩
  · simp [Value.cells] at hcs
    obtain ⟨rfl, rfl, rfl⟩ := hcs
    exact ⟨[], none, 0, 0, rfl, rfl, by simp, by simp, fun h => absurd rfl h, fun _ => rfl⟩
  · simp [Value.cells] at hcs
    obtain ⟨rfl, rfl, rfl⟩ := hcs
    unfold maxLen at hcap
    have key : ∀ i, i < len → ∃ x y, w.cell? (ad.add (i * 2)) = some (.int .i64 x) ∧ w.cell? ((ad.add (i * 2)).add 1) = some (.int .i64 y) ∧ (Lit.int .i64 x).wf = true ∧ (Lit.int .i64 y).wf = true := by
      intro i hi
      have g1 := hx i hi
      rw [hC] at g1
      obtain ⟨y, hy⟩ : ∃ y, elems[i]? = some y := ⟨_, List.getElem?_eq_getElem (by omega)⟩
      rw [hy] at g1
      obtain ⟨cs, g2, g3⟩ := Option.bind_eq_some_iff.1 g1
      obtain ⟨c0, c1, rfl, k0, k1⟩ : ∃ c0 c1, cs = [c0, c1] ∧ w.cell? (ad.add (i * 2)) = some c0 ∧ w.cell? ((ad.add (i * 2)).add 1) = some c1 := by
        have z : (ad.add (i * 2)).add 0 = ad.add (i * 2) := rfl
        cases q0 : w.cell? (ad.add (i * 2)) with
        | none => simp [World.cells?, z, q0, List.range_succ] at g2
        | some u0 =>
          cases q1 : w.cell? ((ad.add (i * 2)).add 1) with
          | none => simp [World.cells?, z, q0, q1, List.range_succ] at g2
          | some u1 =>
            simp [World.cells?, z, q0, q1, List.range_succ] at g2
            exact ⟨u0, u1, g2.symm, rfl, rfl⟩
      obtain ⟨xs, n, _, _, _, hl, hfs⟩ := DataW.trod_struct hs g3
      have f0 := hfs 0 n0 rfl
      have f1 := hfs 1 n1 rfl
      rw [h0, hc, z0] at f0
      rw [h1, hc, z1] at f1
      have hl2 : xs.length = 2 := hl
      obtain ⟨x0, e0⟩ : ∃ x, xs[0]? = some x := ⟨_, List.getElem?_eq_getElem (by omega)⟩
      obtain ⟨x1, e1⟩ : ∃ x, xs[1]? = some x := ⟨_, List.getElem?_eq_getElem (by omega)⟩
      rw [e0] at f0
      rw [e1] at f1
      obtain ⟨a0, ha, _, wa⟩ := DataW.trod_int he f0
      obtain ⟨a1, hb, _, wb⟩ := DataW.trod_int he f1
      simp at ha hb
      subst ha hb
      exact ⟨a0, a1, k0, k1, wa, wb⟩
    refine ⟨(List.range len).map fun i => (match w.cell? (ad.add (i * 2)) with | some (.int _ x) => x | _ => 0, match w.cell? ((ad.add (i * 2)).add 1) with | some (.int _ x) => x | _ => 0), some ad, len, cap, rfl, by simp, by simp; omega, ?_, ?_, fun h => by cases h⟩
    · intro x hx
      obtain ⟨i, hi, rfl⟩ := List.mem_map.1 hx
      obtain ⟨y, z, g1, g2, g3, g4⟩ := key i (List.mem_range.1 hi)
      simp only [g1, g2]
      exact ⟨g3, g4⟩
    · intro hne
      have hlen : 0 < len := by
        rcases Nat.eq_zero_or_pos len with h | h
        · subst h; exact absurd rfl hne
        · exact h
      have hsp : ad = ⟨ad.block, ad.off, none⟩ := by
        obtain ⟨x, _, g1, _⟩ := key 0 hlen
        obtain ⟨b, o, sp⟩ := ad
        cases sp with
        | none => rfl
        | some z =>
          simp [Addr.add, World.cell?] at g1
          split at g1 <;> simp_all
      refine ⟨ad.block, ad.off, by rw [← hsp], fun j x hx => ?_⟩
      obtain ⟨hj, hx2⟩ := List.getElem?_eq_some_iff.1 hx
      have hj2 : j < len := by simpa using hj
      obtain ⟨y, z, g1, g2, _, _⟩ := key j hj2
      simp at hx2
      rw [hsp] at g1 g2
      have e1 : x.1 = y := by rw [← hx2, hsp, g1]
      have e2 : x.2 = z := by rw [← hx2, hsp, g2]
      rw [e1, e2]
      have hadd : ∀ o k : Nat, (⟨ad.block, o, none⟩ : Addr).add k = ⟨ad.block, o + k, none⟩ := by
        intro o k
        unfold Addr.add
        split
        · rename_i h; first | (subst h; rfl) | (rw [h]; rfl) | (cases h; rfl)
        · rfl
      rw [hadd] at g1 g2
      rw [hadd] at g2
      exact ⟨g1, g2⟩
end Go.Proofs.Ytdooeeklpinhfaa.Open
