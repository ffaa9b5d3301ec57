/- How chapter 11's arguments are opened. Lemmas alone; no condition. -/
import Derived.Test.YtigimpkjfmfkhaaQ18
import Derived.Test.YtigimpkjfmfkhaaQ24
namespace Go.Proofs.Ytigimpkjfmfkhaa.Open
open Go Go.ChangeShapes Go.WideShapes Go.ChangeAt Go.RowKit Flat Chain
set_option maxRecDepth 100000
variable {H : Type} {enc : TypeId × Value → H} {w : World} {spare : Nat → Bool} {held : Bool}
theorem agg_cells {P : Program} {r : Reach} {b0 : Nat} {t : TypeId} {v : Value} {fs : Array Field} (ht : P.underlying t = some (.struct fs)) (hv : Value.okWide P w r b0 t v) : v = .agg v.cells := by
  obtain ⟨cs, rfl, _⟩ := okWide_struct ht hv
  rfl
instance : Inhabited Chain.Op := ⟨⟨0, 0, 0, ⟨#[]⟩, ⟨⟨#[]⟩, 0, false, 0, 0, 0⟩, 0⟩⟩
theorem ops {r : Reach} {b0 : Nat} {v : Value} {d : DataW H} {p : List MemPlace} (hv : Value.okWide Try.prog w r b0 35 v) (h : DataW.Trod enc Try.prog w 0 spare held 35 v d p)
    (hw : ∀ n ∈ d.weights Try.prog 35, n ≤ reachBytes) : ∃ xs, Script w v xs := by
  obtain ⟨a, len, cap, rfl⟩ := okWide_slice Try.underlying35 hv
  obtain ⟨fuel, hf⟩ := h
  obtain ⟨v', n, hv', hR⟩ := rows reachBytes (k := 4) (m := 11) (ls := [.int .i64, .int .i64, .int .i64, .str, .str, .int .i64, .bool, .int .i64, .int .i64, .int .i64, .int .u64]) Try.underlying35 (by kernel_rfl) (by kernel_rfl) (by decide) hf hw
  simp [Value.cells] at hv'
  rw [hv']
  obtain ⟨xs, a', cap', he, hl, hb, hc⟩ := hR.list (α := Chain.Op) (fun x => [.int .i64 x.kind, .int .i64 x.now, .int .i64 x.n, .string x.s, .string x.t.name, .int .i64 x.t.kind, .bool x.t.up, .int .i64 x.t.often, .int .i64 x.t.a, .int .i64 x.t.b, .int .u64 x.seed]) (by
    intro cs hk
    obtain ⟨x0, r0, rfl, z0, hk0⟩ := hk.int
    obtain ⟨x1, r1, rfl, z1, hk1⟩ := hk0.int
    obtain ⟨x2, r2, rfl, z2, hk2⟩ := hk1.int
    obtain ⟨x3, r3, rfl, z3, hk3⟩ := hk2.str
    obtain ⟨x4, r4, rfl, z4, hk4⟩ := hk3.str
    obtain ⟨x5, r5, rfl, z5, hk5⟩ := hk4.int
    obtain ⟨x6, r6, rfl, hk6⟩ := hk5.bool
    obtain ⟨x7, r7, rfl, z7, hk7⟩ := hk6.int
    obtain ⟨x8, r8, rfl, z8, hk8⟩ := hk7.int
    obtain ⟨x9, r9, rfl, z9, hk9⟩ := hk8.int
    obtain ⟨x10, r10, rfl, z10, hk10⟩ := hk9.int
    obtain rfl := hk10.nil
    exact ⟨⟨x0, x1, x2, x3, ⟨x4, x5, x6, x7, x8, x9⟩, x10⟩, rfl⟩)
  refine ⟨xs, a', cap', he, hl, fun x hx => ?_, fun hne => ?_⟩
  · have h1 := hb x hx
    obtain ⟨_, _, _, ⟨s, hs, hs2⟩, ⟨s', hs', hs2'⟩, _⟩ := h1
    injection hs with hs
    injection hs' with hs'
    rw [hs, hs']
    exact ⟨hs2, hs2'⟩
  · obtain ⟨b, o, ha, hk⟩ := hc hne
    exact ⟨b, o, ha, fun j x hx => ⟨hk j x hx 0 _ rfl, hk j x hx 1 _ rfl, hk j x hx 2 _ rfl, hk j x hx 3 _ rfl, hk j x hx 4 _ rfl, hk j x hx 5 _ rfl, hk j x hx 6 _ rfl, hk j x hx 7 _ rfl, hk j x hx 8 _ rfl, hk j x hx 9 _ rfl, hk j x hx 10 _ rfl⟩⟩
instance : Inhabited ByteArray := ⟨⟨#[]⟩⟩
theorem strs {r : Reach} {b0 : Nat} {v : Value} {d : DataW H} {p : List MemPlace} (hv : Value.okWide Try.prog w r b0 22 v) (h : DataW.Trod enc Try.prog w 0 spare held 22 v d p)
    (hw : ∀ n ∈ d.weights Try.prog 22, n ≤ reachBytes) : ∃ xs, Strs w v xs := by
  obtain ⟨a, len, cap, rfl⟩ := okWide_slice Try.underlying22 hv
  obtain ⟨fuel, hf⟩ := h
  obtain ⟨v', n, hv', hR⟩ := rows reachBytes (k := 4) (m := 1) (ls := [.str]) Try.underlying22 (by kernel_rfl) (by kernel_rfl) (by decide) hf hw
  simp [Value.cells] at hv'
  rw [hv']
  obtain ⟨xs, a', cap', he, hl, hb, hc⟩ := hR.list (α := ByteArray) (fun x => [.string x]) (by
    intro cs hk
    obtain ⟨x0, r0, rfl, z0, hk0⟩ := hk.str
    obtain rfl := hk0.nil
    exact ⟨x0, rfl⟩)
  refine ⟨xs, a', cap', he, hl, fun x hx => ?_, fun hne => ?_⟩
  · have h1 := hb x hx
    obtain ⟨⟨s, hs, hs2⟩, _⟩ := h1
    injection hs with hs
    rw [hs]
    exact hs2
  · obtain ⟨b, o, ha, hk⟩ := hc hne
    exact ⟨b, o, ha, fun j x hx => by have := hk j x hx 0 _ rfl; rw [Nat.mul_one] at this; exact this⟩
end Go.Proofs.Ytigimpkjfmfkhaa.Open
