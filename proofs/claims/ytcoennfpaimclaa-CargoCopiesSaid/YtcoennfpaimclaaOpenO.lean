/- How a row's arguments are opened: slices of calls (three numbers and a text). Lemmas alone; no condition. -/
import Derived.WalkKit
import Derived.ProofKit
import Derived.OpenShut
import Derived.Lib.SmallJoins
import Derived.SizedLaws
import Derived.Test.YtcoennfpaimclaaScript
namespace Go.Proofs.Ytcoennfpaimclaa.Open
open Go Go.ChangeShapes Go.WideShapes Go.ChangeAt Go.RowKit Cargo

variable {H : Type} {enc : TypeId × Value → H} {P : Program} {w : World} {base : Nat} {spare : Nat → Bool} {held : Bool}

theorem weights_all {e : TypeId} : ∀ {l : List (DataW H)} {i : Nat} {d : DataW H}, l[i]? = some d → ∀ n ∈ d.weights P e, n ∈ DataW.weightsAll P e l
  | x :: l, 0, d, h, n, hn => by
    simp at h
    subst h
    simp only [DataW.weightsAll, List.mem_append]
    exact .inl hn
  | x :: l, i + 1, d, h, n, hn => by
    simp only [DataW.weightsAll, List.mem_append]
    exact .inr (weights_all (by simpa using h) n hn)
  | [], i, d, h, n, hn => by simp at h

theorem ops {r : Reach} {b0 : Nat} {t s e u : TypeId} {n0 n1 n2 n3 : Field} {v : Value} {d : DataW H} {p : List MemPlace} (ht : P.underlying t = some (.slice s)) (hs : P.underlying s = some (.struct #[n0, n1, n2, n3])) (he : P.underlying e = some (.int .i64)) (hu : P.underlying u = some .string)
    (hc : P.cellsOf e = 1) (hcu : P.cellsOf u = 1) (hC : P.cellsOf s = 4) (h0 : n0.type = e) (h1 : n1.type = e) (h2 : n2.type = e) (h3 : n3.type = u) (z0 : n0.offset = 0) (z1 : n1.offset = 1) (z2 : n2.offset = 2) (z3 : n3.offset = 3)
    (hv : Value.okWide P w r b0 t v) (h : DataW.Trod enc P w 0 spare held t v d p) (hw : ∀ n ∈ d.weights P t, n ≤ reachBytes) : ∃ xs, Script w v xs := by
  obtain ⟨a, len, cap, rfl⟩ := okWide_slice ht hv
  obtain ⟨fuel, hf⟩ := h
  rcases DataW.trod_slice ht hf with ⟨hcs, _⟩ | ⟨ad, l, c, elems, rest, m, _, hcs, hd, _, hle, hcap, hel, hx, _⟩
  · simp [Value.cells] at hcs
    obtain ⟨rfl, rfl, rfl⟩ := hcs
    exact ⟨[], none, 0, rfl, by simp, by simp, fun h => absurd rfl h⟩
  · simp [Value.cells] at hcs
    obtain ⟨rfl, rfl, rfl⟩ := hcs
    unfold maxLen at hcap
    obtain ⟨hd, _⟩ := Prod.mk.inj hd
    subst hd
    have hadd : ∀ (ad : Addr) (o k : Nat), (⟨ad.block, o, none⟩ : Addr).add k = ⟨ad.block, o + k, none⟩ := by
      intro ad o k
      unfold Addr.add
      split
      · rename_i h; first | (subst h; rfl) | (rw [h]; rfl) | (cases h; rfl)
      · rfl
    have key : ∀ i, i < len → ∃ x : Op4, w.cell? (ad.add (i * 4)) = some (.int .i64 x.1) ∧ w.cell? ((ad.add (i * 4)).add 1) = some (.int .i64 x.2.1) ∧ w.cell? ((ad.add (i * 4)).add 2) = some (.int .i64 x.2.2.1) ∧ w.cell? ((ad.add (i * 4)).add 3) = some (.string x.2.2.2) ∧ x.2.2.2.size ≤ 140737488351232 := by
      intro i hi
      have g1 := hx i hi
      rw [hC] at g1
      obtain ⟨y, hy⟩ : ∃ y, elems[i]? = some y := ⟨_, List.getElem?_eq_getElem (by omega)⟩
      rw [hy] at g1
      obtain ⟨cs, g2, g3⟩ := Option.bind_eq_some_iff.1 g1
      obtain ⟨_, hl4, hat⟩ := World.cells?_some g2
      obtain ⟨xs, n, _, hyx, _, hl, hfs⟩ := DataW.trod_struct hs g3
      have f0 := hfs 0 n0 rfl
      have f1 := hfs 1 n1 rfl
      have f2 := hfs 2 n2 rfl
      have f3 := hfs 3 n3 rfl
      rw [h0, hc, z0] at f0
      rw [h1, hc, z1] at f1
      rw [h2, hc, z2] at f2
      rw [h3, hcu, z3] at f3
      have hl4' : xs.length = 4 := hl
      obtain ⟨c0, c1, c2, c3, rfl⟩ : ∃ c0 c1 c2 c3, cs = [c0, c1, c2, c3] := by
        match cs, hl4 with
        | [c0, c1, c2, c3], _ => exact ⟨c0, c1, c2, c3, rfl⟩
      obtain ⟨x0, x1, x2, x3, rfl⟩ : ∃ x0 x1 x2 x3, xs = [x0, x1, x2, x3] := by
        match xs, hl4' with
        | [c0, c1, c2, c3], _ => exact ⟨c0, c1, c2, c3, rfl⟩
      obtain ⟨a0, ha, _, wa⟩ := DataW.trod_int he f0
      obtain ⟨a1, hb, _, wb⟩ := DataW.trod_int he f1
      obtain ⟨a2, hc2, _, wc⟩ := DataW.trod_int he f2
      obtain ⟨a3, hd3, hx3, wd⟩ := DataW.trod_string hu f3
      simp at ha hb hc2 hd3
      subst ha hb hc2 hd3
      have k0 := hat 0 (by omega)
      have k1 := hat 1 (by omega)
      have k2 := hat 2 (by omega)
      have k3 := hat 3 (by omega)
      have hz : (ad.add (i * 4)).add 0 = ad.add (i * 4) := rfl
      rw [hz] at k0
      refine ⟨(a0, a1, a2, a3), k0, k1, k2, k3, ?_⟩
      have hwi := hw a3.size (by
        simp only [DataW.weights, ht, List.mem_cons, List.mem_append]
        refine .inr (.inl (weights_all (i := i) (d := y.1) (by rw [List.getElem?_map, hy]; rfl) _ ?_))
        rw [hyx]
        simp only [DataW.weights, hs]
        refine DataW.weights_mem_each (j := 3) (t := n3.type) (d := x3.1) rfl rfl _ ?_
        have : x3.1 = .lit (.string a3.data.toList) := by rw [hx3]
        rw [this]
        simp [DataW.weights])
      exact hwi
    refine ⟨(List.range len).map fun i => if hi : i < len then (key i hi).choose else default, some ad, cap, by simp, by simp; omega, ?_, ?_⟩
    · intro x hx'
      obtain ⟨i, hi, rfl⟩ := List.mem_map.1 hx'
      have hi' := List.mem_range.1 hi
      rw [dif_pos hi']
      exact (key i hi').choose_spec.2.2.2.2
    · intro hne
      have hlen : 0 < len := by
        rcases Nat.eq_zero_or_pos len with h | h
        · subst h; exact absurd rfl hne
        · exact h
      have hsp : ad = ⟨ad.block, ad.off, none⟩ := by
        obtain ⟨x, g1, _⟩ := key 0 hlen
        obtain ⟨b, o, sp⟩ := ad
        cases sp with
        | none => rfl
        | some z =>
          simp [Addr.add, World.cell?] at g1
          split at g1 <;> simp_all
      refine ⟨ad.block, ad.off, by rw [← hsp], fun j x hx' => ?_⟩
      obtain ⟨hj, hx2⟩ := List.getElem?_eq_some_iff.1 hx'
      have hj2 : j < len := by simpa using hj
      simp only [List.getElem_map, List.getElem_range, dif_pos hj2] at hx2
      have hk := (key j hj2).choose_spec
      rw [hx2] at hk
      obtain ⟨g0, g1, g2, g3, _⟩ := hk
      rw [hsp, hadd ad] at g0 g1 g2 g3
      rw [hadd ad] at g1 g2 g3
      exact ⟨g0, g1, g2, g3⟩
end Go.Proofs.Ytcoennfpaimclaa.Open
