/- How chapter 12's arguments are opened. Lemmas alone; no condition. -/
import Derived.Test.YtnkgjnmhiedfoaaGreatK19
import Derived.Test.YtnkgjnmhiedfoaaGreatK26
import Derived.Lib.SmallJoins
import Derived.Test.YtnkgjnmhiedfoaaGreatK27
namespace Go.Proofs.YtnkgjnmhiedfoaaGreat.Open
open Go Go.ChangeShapes Go.WideShapes Go.ChangeAt Go.RowKit Flat Link Toxic
set_option maxRecDepth 100000
variable {H : Type} {enc : TypeId × Value → H} {w : World} {spare : Nat → Bool} {held : Bool}
instance : Inhabited Link.Op := ⟨⟨0, 0, 0, ⟨#[]⟩, ⟨⟨#[]⟩, 0, false, 0, 0, 0⟩⟩⟩
instance : Inhabited Tox := ⟨⟨⟨#[]⟩, 0, false, 0, 0, 0⟩⟩
theorem toxs_of {v : Value} {fuel : Nat} {x : DataW H × List MemPlace} (hf : DataW.trod enc Tryz.prog w 0 spare held fuel 22 [v] = some x) (hw : ∀ q ∈ x.1.weights Tryz.prog 22, q ≤ reachBytes) : ∃ L : List Tox, ∃ a cap, v = .slice a L.length cap ∧ Toxs w v L := by
  obtain ⟨v', n, hv', hR⟩ := rows reachBytes (k := 4) (m := 6) (ls := [.str, .int .i64, .bool, .int .i64, .int .i64, .int .i64]) Tryz.underlying22 (by kernel_rfl) (by kernel_rfl) (by decide) hf hw
  injection hv' with hv'
  subst hv'
  obtain ⟨xs, a', cap', he, hl, hb, hc⟩ := hR.list (α := Tox) (fun t => [.string t.name, .int .i64 t.kind, .bool t.up, .int .i64 t.often, .int .i64 t.a, .int .i64 t.b]) (by
    intro cs hk
    obtain ⟨x4, r4, rfl, z4, hk4⟩ := hk.str
    obtain ⟨x5, r5, rfl, z5, hk5⟩ := hk4.int
    obtain ⟨x6, r6, rfl, hk6⟩ := hk5.bool
    obtain ⟨x7, r7, rfl, z7, hk7⟩ := hk6.int
    obtain ⟨x8, r8, rfl, z8, hk8⟩ := hk7.int
    obtain ⟨x9, r9, rfl, z9, hk9⟩ := hk8.int
    obtain rfl := hk9.nil
    exact ⟨⟨x4, x5, x6, x7, x8, x9⟩, rfl⟩)
  subst he
  have hcap : xs.length ≤ cap' := by
    rcases DataW.trod_slice Tryz.underlying22 hf with ⟨e, _⟩ | ⟨ad, len, cap, elems, rest, q, _, e, _, _, hle, _⟩
    · injection e with e _; injection e with _ e2 e3; omega
    · injection e with e _; injection e with _ e2 e3; omega
  refine ⟨xs, a', cap', rfl, a', cap', rfl, hl, hcap, fun hne => ?_⟩
  obtain ⟨b, o, ha, hk⟩ := hc hne
  exact ⟨b, o, ha, fun j x hx => ⟨hk j x hx 0 _ rfl, hk j x hx 1 _ rfl, hk j x hx 2 _ rfl, hk j x hx 3 _ rfl, hk j x hx 4 _ rfl, hk j x hx 5 _ rfl⟩⟩
end Go.Proofs.YtnkgjnmhiedfoaaGreat.Open
namespace Go.Proofs.YtnkgjnmhiedfoaaGreat.Open
open Go Go.ChangeShapes Go.WideShapes Go.ChangeAt Go.RowKit Flat Toxic
set_option maxRecDepth 100000
variable {H : Type} {enc : TypeId × Value → H} {w : World} {spare : Nat → Bool} {held : Bool}
instance : Inhabited Conn.Op := ⟨⟨0, 0, 0, 0, 0, ⟨#[]⟩, ⟨⟨#[]⟩, 0, false, 0, 0, 0⟩⟩⟩
theorem opsN {r : Reach} {b0 : Nat} {v : Value} {d : DataW H} {p : List MemPlace} (hv : Value.okWide Tryz.prog w r b0 39 v) (h : DataW.Trod enc Tryz.prog w 0 spare held 39 v d p)
    (hw : ∀ n ∈ d.weights Tryz.prog 39, n ≤ reachBytes) : ∃ xs, Conn.Script w v xs := by
  obtain ⟨a, len, cap, rfl⟩ := okWide_slice Tryz.underlying39 hv
  obtain ⟨fuel, hf⟩ := h
  obtain ⟨v', n, hv', hR⟩ := rows reachBytes (k := 4) (m := 12) (ls := [.int .i64, .int .i64, .int .i64, .int .i64, .int .i64, .str, .str, .int .i64, .bool, .int .i64, .int .i64, .int .i64]) Tryz.underlying39 (by kernel_rfl) (by kernel_rfl) (by decide) hf hw
  simp [Value.cells] at hv'
  rw [hv']
  obtain ⟨xs, a', cap', he, hl, hb, hc⟩ := hR.list (α := Conn.Op) (fun x => [.int .i64 x.kind, .int .i64 x.way, .int .i64 x.now, .int .i64 x.m0, .int .i64 x.m1, .string x.s, .string x.t.name, .int .i64 x.t.kind, .bool x.t.up, .int .i64 x.t.often, .int .i64 x.t.a, .int .i64 x.t.b]) (by
    intro cs hk
    obtain ⟨x0, r0, rfl, z0, hk0⟩ := hk.int
    obtain ⟨x1, r1, rfl, z1, hk1⟩ := hk0.int
    obtain ⟨x2, r2, rfl, z2, hk2⟩ := hk1.int
    obtain ⟨x3, r3, rfl, z3, hk3⟩ := hk2.int
    obtain ⟨x4, r4, rfl, z4, hk4⟩ := hk3.int
    obtain ⟨x5, r5, rfl, z5, hk5⟩ := hk4.str
    obtain ⟨x6, r6, rfl, z6, hk6⟩ := hk5.str
    obtain ⟨x7, r7, rfl, z7, hk7⟩ := hk6.int
    obtain ⟨x8, r8, rfl, hk8⟩ := hk7.bool
    obtain ⟨x9, r9, rfl, z9, hk9⟩ := hk8.int
    obtain ⟨x10, r10, rfl, z10, hk10⟩ := hk9.int
    obtain ⟨x11, r11, rfl, z11, hk11⟩ := hk10.int
    obtain rfl := hk11.nil
    exact ⟨⟨x0, x1, x2, x3, x4, x5, ⟨x6, x7, x8, x9, x10, x11⟩⟩, rfl⟩)
  refine ⟨xs, a', cap', he, hl, fun x hx => ?_, fun hne => ?_⟩
  · have h1 := hb x hx
    obtain ⟨_, _, _, _, _, ⟨s, hs, hs2⟩, ⟨s', hs', hs2'⟩, _⟩ := h1
    injection hs with hs
    injection hs' with hs'
    rw [hs, hs']
    exact ⟨hs2, hs2'⟩
  · obtain ⟨b, o, ha, hk⟩ := hc hne
    exact ⟨b, o, ha, fun j x hx => ⟨hk j x hx 0 _ rfl, hk j x hx 1 _ rfl, hk j x hx 2 _ rfl, hk j x hx 3 _ rfl, hk j x hx 4 _ rfl, hk j x hx 5 _ rfl, hk j x hx 6 _ rfl, hk j x hx 7 _ rfl, hk j x hx 8 _ rfl, hk j x hx 9 _ rfl, hk j x hx 10 _ rfl, hk j x hx 11 _ rfl⟩⟩
theorem seatN {r : Reach} {b0 : Nat} {v : Value} {d : DataW H} {p : List MemPlace} (hv : Value.okWide Tryz.prog w r b0 25 v) (h : DataW.Trod enc Tryz.prog w 0 spare held 25 v d p)
    (hw : ∀ n ∈ d.weights Tryz.prog 25, n ≤ reachBytes) : ∃ x : List Tox × Int × Int × Int, Conn.Seats w v x.1 x.2.1 x.2.2.1 x.2.2.2 := by
  obtain ⟨v0, v1, v2, v3, y0, y1, y2, y3, n, rfl, rfl, rfl, h0, h1, h2, h3⟩ := Go.Joins.open_agg4 Tryz.underlying25 (by kernel_rfl) (by kernel_rfl) hv h
  obtain ⟨L, a, cap, rfl, hT⟩ := toxs_of h0 (fun q hq => hw q (by
    simp only [DataW.weights, Tryz.underlying25]
    exact DataW.weights_mem_each (j := 0) (t := 22) (d := y0.1) rfl rfl q hq))
  obtain ⟨seed, e1, _, wf⟩ := DataW.trod_int Tryz.underlying23 h1
  obtain ⟨room, e2, _⟩ := DataW.trod_int Tryz.underlying3 h2
  obtain ⟨now, e3, _⟩ := DataW.trod_int Tryz.underlying3 h3
  injection e1 with e1
  injection e2 with e2
  injection e3 with e3
  subst e1 e2 e3
  have hwf : 0 ≤ seed ∧ seed < 18446744073709551616 := by simp [Lit.wf, IntKind.min, IntKind.max, IntKind.signed, IntKind.bits] at wf; omega
  exact ⟨(L, seed, room, now), a, cap, rfl, hT, hwf.1, hwf.2⟩
end Go.Proofs.YtnkgjnmhiedfoaaGreat.Open
