/- How chapter 10's rows of Put's are opened. Lemmas alone; no condition. -/
import Derived.Test.YtehpliclknfmoaaOpenF
import Derived.Test.YtehpliclknfmoaaOpenA
import Derived.Test.YtehpliclknfmoaaStageS
namespace Go.Proofs.Ytehpliclknfmoaa.Open
open Go Go.ChangeShapes Go.WideShapes Go.ChangeAt Go.RowKit Flat Stage
set_option maxRecDepth 100000
variable {H : Type} {enc : TypeId × Value → H} {w : World} {spare : Nat → Bool} {held : Bool}
instance : Inhabited Pt := ⟨⟨0, false, 0⟩⟩
theorem puts {r : Reach} {b0 : Nat} {v : Value} {d : DataW H} {p : List MemPlace} (hv : Value.okWide Try.prog w r b0 24 v) (h : DataW.Trod enc Try.prog w 0 spare held 24 v d p)
    (hw : ∀ n ∈ d.weights Try.prog 24, n ≤ reachBytes) : ∃ xs, Puts w v xs := by
  obtain ⟨a, len, cap, rfl⟩ := okWide_slice Try.underlying24 hv
  obtain ⟨fuel, hf⟩ := h
  obtain ⟨v', n, hv', hR⟩ := rows reachBytes (k := 4) (m := 3) (ls := [.int .i64, .bool, .int .i64]) Try.underlying24 (by kernel_rfl) (by kernel_rfl) (by decide) hf hw
  simp [Value.cells] at hv'
  rw [hv']
  obtain ⟨xs, a', cap', he, hl, hb, hc⟩ := hR.list (α := Pt) (fun x => [.int .i64 x.later, .bool x.take, .int .i64 x.n]) (by
    intro cs hk
    obtain ⟨x0, r0, rfl, z0, hk0⟩ := hk.int
    obtain ⟨x1, r1, rfl, hk1⟩ := hk0.bool
    obtain ⟨x2, r2, rfl, z2, hk2⟩ := hk1.int
    obtain rfl := hk2.nil
    exact ⟨⟨x0, x1, x2⟩, rfl⟩)
  refine ⟨xs, a', cap', he, hl, fun hne => ?_⟩
  obtain ⟨b, o, ha, hk⟩ := hc hne
  exact ⟨b, o, ha, fun j x hx => ⟨hk j x hx 0 _ rfl, hk j x hx 1 _ rfl, hk j x hx 2 _ rfl⟩⟩
end Go.Proofs.Ytehpliclknfmoaa.Open
