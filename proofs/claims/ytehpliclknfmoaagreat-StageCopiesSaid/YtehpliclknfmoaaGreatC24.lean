/- How chapter 10's arguments are opened. Lemmas alone; no condition. -/
import Derived.Test.YtehpliclknfmoaaGreatC18
import Derived.Test.YtehpliclknfmoaaGreatC22
namespace Go.Proofs.YtehpliclknfmoaaGreat.Open
open Go Go.ChangeShapes Go.WideShapes Go.ChangeAt Go.RowKit Flat Stage
set_option maxRecDepth 100000
variable {H : Type} {enc : TypeId × Value → H} {w : World} {spare : Nat → Bool} {held : Bool}
theorem agg_cells {P : Program} {r : Reach} {b0 : Nat} {t : TypeId} {v : Value} {fs : Array Field} (ht : P.underlying t = some (.struct fs)) (hv : Value.okWide P w r b0 t v) : v = .agg v.cells := by
  obtain ⟨cs, rfl, _⟩ := okWide_struct ht hv
  rfl
instance : Inhabited Stage.Op := ⟨⟨0, 0, 0, ⟨#[]⟩, ⟨⟨#[]⟩, 0, false, 0, 0, 0⟩⟩⟩
theorem ops {r : Reach} {b0 : Nat} {v : Value} {d : DataW H} {p : List MemPlace} (hv : Value.okWide Tryz.prog w r b0 27 v) (h : DataW.Trod enc Tryz.prog w 0 spare held 27 v d p)
    (hw : ∀ n ∈ d.weights Tryz.prog 27, n ≤ reachBytes) : ∃ xs, Script w v xs := by
  obtain ⟨a, len, cap, rfl⟩ := okWide_slice Tryz.underlying27 hv
  obtain ⟨fuel, hf⟩ := h
  obtain ⟨v', n, hv', hR⟩ := rows reachBytes (k := 4) (m := 10) (ls := [.int .i64, .int .i64, .int .i64, .str, .str, .int .i64, .bool, .int .i64, .int .i64, .int .i64]) Tryz.underlying27 (by kernel_rfl) (by kernel_rfl) (by decide) hf hw
  simp [Value.cells] at hv'
  rw [hv']
  obtain ⟨xs, a', cap', he, hl, hb, hc⟩ := hR.list (α := Stage.Op) (fun x => [.int .i64 x.kind, .int .i64 x.now, .int .i64 x.n, .string x.s, .string x.t.name, .int .i64 x.t.kind, .bool x.t.up, .int .i64 x.t.often, .int .i64 x.t.a, .int .i64 x.t.b]) (by
    intro cs hk
    obtain ⟨x0, r0, rfl, z0, hk0⟩ := hk.int
    obtain ⟨x1, r1, rfl, z1, hk1⟩ := hk0.int
    obtain ⟨x2, r2, rfl, z2, hk2⟩ := hk1.int
    obtain ⟨x3, r3, rfl, z3, hk3⟩ := hk2.str
    obtain ⟨x4, r4, rfl, z4, hk4⟩ := hk3.str
    obtain ⟨x5, r5, rfl, z5, hk5⟩ := hk4.int
    obtain ⟨x6, r6, rfl, hk6⟩ := hk5.bool
    obtain ⟨x7, r7, rfl, z7, hk7⟩ := hk6.int
    obtain ⟨x8, r8, rfl, z8, hk8⟩ := hk7.int
    obtain ⟨x9, r9, rfl, z9, hk9⟩ := hk8.int
    obtain rfl := hk9.nil
    exact ⟨⟨x0, x1, x2, x3, ⟨x4, x5, x6, x7, x8, x9⟩⟩, rfl⟩)
  refine ⟨xs, a', cap', he, hl, fun x hx => ?_, fun hne => ?_⟩
  · have h1 := hb x hx
    obtain ⟨_, _, _, ⟨s, hs, hs2⟩, ⟨s', hs', hs2'⟩, _⟩ := h1
    injection hs with hs
    injection hs' with hs'
    rw [hs, hs']
    exact ⟨hs2, hs2'⟩
  · obtain ⟨b, o, ha, hk⟩ := hc hne
    exact ⟨b, o, ha, fun j x hx => ⟨hk j x hx 0 _ rfl, hk j x hx 1 _ rfl, hk j x hx 2 _ rfl, hk j x hx 3 _ rfl, hk j x hx 4 _ rfl, hk j x hx 5 _ rfl, hk j x hx 6 _ rfl, hk j x hx 7 _ rfl, hk j x hx 8 _ rfl, hk j x hx 9 _ rfl⟩⟩
end Go.Proofs.YtehpliclknfmoaaGreat.Open
namespace Go.Proofs.YtehpliclknfmoaaGreat.Open
open Go Go.ChangeShapes Go.WideShapes Go.ChangeAt Go.RowKit Flat Stage
set_option maxRecDepth 100000
variable {H : Type} {enc : TypeId × Value → H} {w : World} {spare : Nat → Bool} {held : Bool}
theorem seatD {r : Reach} {b0 : Nat} {v : Value} {d : DataW H} {p : List MemPlace} (hv : Value.okWide Tryz.prog w r b0 26 v) (h : DataW.Trod enc Tryz.prog w 0 spare held 26 v d p)
    (hw : ∀ n ∈ d.weights Tryz.prog 26, n ≤ reachBytes) : ∃ x : Toxic.Tox × Int × Int × Int, v = .agg #[.string x.1.name, .int .i64 x.1.kind, .bool x.1.up, .int .i64 x.1.often, .int .i64 x.1.a, .int .i64 x.1.b, .int .u64 x.2.1, .int .i64 x.2.2.1, .int .i64 x.2.2.2] ∧ x.1.name.size ≤ 140737488351232 ∧ 0 ≤ x.2.1 ∧ x.2.1 < 18446744073709551616 := by
  have e := agg_cells Tryz.underlying26 hv
  obtain ⟨fuel, hf⟩ := h
  have hk := flat reachBytes 4 26 [.str, .int .i64, .bool, .int .i64, .int .i64, .int .i64, .int .u64, .int .i64, .int .i64] (by kernel_rfl) _ _ _ hf hw
  rw [e]
  generalize v.cells = cs at *
  obtain ⟨l⟩ := cs
  dsimp only at hk
  obtain ⟨x0, r0, rfl, z0, hk0⟩ := hk.str
  obtain ⟨x1, r1, rfl, z1, hk1⟩ := hk0.int
  obtain ⟨x2, r2, rfl, hk2⟩ := hk1.bool
  obtain ⟨x3, r3, rfl, z3, hk3⟩ := hk2.int
  obtain ⟨x4, r4, rfl, z4, hk4⟩ := hk3.int
  obtain ⟨x5, r5, rfl, z5, hk5⟩ := hk4.int
  obtain ⟨x6, r6, rfl, z6, hk6⟩ := hk5.int
  obtain ⟨x7, r7, rfl, z7, hk7⟩ := hk6.int
  obtain ⟨x8, r8, rfl, z8, hk8⟩ := hk7.int
  obtain rfl := hk8.nil
  have hz : 0 ≤ x6 ∧ x6 < 18446744073709551616 := by
    simp [Lit.wf, IntKind.min, IntKind.max, IntKind.signed, IntKind.bits] at z6
    omega
  exact ⟨(⟨x0, x1, x2, x3, x4, x5⟩, x6, x7, x8), rfl, z0, hz.1, hz.2⟩
end Go.Proofs.YtehpliclknfmoaaGreat.Open
