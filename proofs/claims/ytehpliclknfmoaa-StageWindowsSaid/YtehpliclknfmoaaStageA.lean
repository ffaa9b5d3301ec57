/- A stage (chapter 10): what it is in memory; its small functions. Conditions: the bytes are fewer than 2^45. -/
import Derived.Test.YtehpliclknfmoaaToxD
import Derived.Test.YtehpliclknfmoaaDice
import Derived.Test.YtehpliclknfmoaaBucketB
import Derived.Test.YtehpliclknfmoaaWLast
namespace Go.Proofs.Ytehpliclknfmoaa.Stage
open Go.RowKit Mem Tick Cargo Toxic
open Go.Proofs.YtehpliclknfmoaaW.PrintLast
set_option maxRecDepth 100000
set_option linter.unusedVariables false
set_option linter.unusedSimpArgs false
structure Sg where
  t : Tox
  dice : Int
  b0 : Int
  b1 : Int
  b2 : Int
  b3 : Int
  c : St
  room : Int
  began : Int
  clock : Int
  pause : Int
  passed : Int
  closed : Bool
  at_ : Int
  state : Int
def scells (k : Nat) (s : Sg) : Array Value := #[.pointer (some ⟨k, 0, none⟩), .string s.t.name, .int .i64 s.t.kind, .bool s.t.up, .int .i64 s.t.often, .int .i64 s.t.a, .int .i64 s.t.b, .int .u64 s.dice, .int .i64 s.b0, .int .i64 s.b1, .int .i64 s.b2, .int .i64 s.b3,
  .int .i64 s.room, .int .i64 s.began, .int .i64 s.clock, .int .i64 s.pause, .int .i64 s.passed, .bool s.closed, .int .i64 s.at_, .int .i64 s.state]
/-- block b is a stage; its cargo is block k; all is F's. -/
def SG (w : World) (F : Nat → Prop) (b k : Nat) (s : Sg) : Prop :=
  ∃ G, Blk w b 61 (scells k s) ∧ CG w G k s.c.1 s.c.2 ∧ ∀ j, F j ↔ (j = b ∨ G j)
variable {w w' : World} {F : Nat → Prop} {b k : Nat} {s : Sg}
theorem SG.blk (h : SG w F b k s) : Blk w b 61 (scells k s) := by obtain ⟨G, h, _⟩ := h; exact h
theorem SG.typed (h : SG w F b k s) : Typed w F [61, 78, 80] := by
  obtain ⟨G, hb, hc, hF⟩ := h
  intro j hj
  rcases (hF j).1 hj with rfl | hg
  · exact ⟨_, by simp, _, hb⟩
  · obtain ⟨t, ht, cs, hb⟩ := hc.typed j hg
    exact ⟨t, List.mem_cons_of_mem _ ht, cs, hb⟩
theorem SG.lt (h : SG w F b k s) {j : Nat} (hj : F j) : j < w.heap.size := h.typed.lt hj
theorem SG.mine (h : SG w F b k s) : F b := by obtain ⟨G, _, _, hF⟩ := h; exact (hF b).2 (.inl rfl)
theorem SG.kept (h : SG w F b k s) (hk : ∀ j, F j → w'.heap[j]? = w.heap[j]?) : SG w' F b k s := by
  obtain ⟨G, hb, hc, hF⟩ := h
  exact ⟨G, (hk b ((hF b).2 (.inl rfl))).trans hb, hc.kept fun j hj => hk j ((hF j).2 (.inr hj)), hF⟩
theorem SG.below (h : SG w F b k s) (hb : Below w.heap.size w w') : SG w' F b k s := h.kept fun j hj => hb.block j (h.lt hj)
theorem SG.drew (h : SG w F b k s) : SG w.drew F b k s := h.kept fun _ _ => rfl
/-- a cell of the stage's own is set. -/
theorem SG.set (h : SG w F b k s) (i : Nat) (u : Value) (s' : Sg) (hs : (scells k s).setIfInBounds i u = scells k s') (hc : s'.c = s.c) : SG (w.setCell ⟨b, i, none⟩ u) F b k s' := by
  obtain ⟨G, hb, hg, hF⟩ := h
  have hb2 := hb.set_ i u
  rw [hs] at hb2
  refine ⟨G, hb2, ?_, hF⟩
  rw [hc]
  refine hg.kept fun j hj => Below.heap_setCell _ _ _ j ?_
  rintro rfl
  exact hg.typed.out hb (by decide) hj
/-- its cargo has turned. -/
theorem SG.cargo {G : Nat → Prop} {w' : World} {s' : Sg} (hb : Blk w b 61 (scells k s)) (hc : CG w G k s.c.1 s.c.2) (hF : ∀ j, F j ↔ (j = b ∨ G j)) {G' : Nat → Prop} (hc' : CG w' G' k s'.c.1 s'.c.2) (hd : Did G w w') (hs : Stem G G' w)
    (he : scells k s = scells k s') : SG w' (fun j => j = b ∨ G' j) b k s' ∧ Did F w w' ∧ Stem F (fun j => j = b ∨ G' j) w := by
  refine ⟨⟨G', ?_, hc', fun j => Iff.rfl⟩, hd.more fun j hj => .inl ((hF j).2 (.inr hj)), fun j hj => ?_⟩
  · rw [← he]; exact hb.did hd (hc.typed.out hb (by decide))
  · rcases hj with rfl | hj
    · exact .inl ((hF j).2 (.inl rfl))
    · exact (hs j hj).imp (fun h => (hF j).2 (.inr h)) id
def held (s : Sg) : Nat := tot s.c.1
theorem held_any (h : SG w F b k s) (ht : held s ≤ 1000000000000) :
    Calls Try.prog 13 #[.pointer (some ⟨b, 0, none⟩)] w fun e w' => e = .returned (.int .i64 (held s)) ∧ Below w.heap.size w w' := by
  obtain ⟨G, hb, hc, hF⟩ := h
  have c0 : w.cell? ⟨b, 0, none⟩ = some (.pointer (some ⟨k, 0, none⟩)) := (hb.cell 0).trans rfl
  have hC := Lib.hid hc
  unfold held at ht ⊢
  clear hb hF hc
  go_enter Try.func13, Try.ntmps13
  go_wp2_with fail
  refine (len_any hC.out (by omega)).mono ?_
  rintro e w1 ⟨rfl, hB⟩
  have hB' := Lib.hid hB
  clear hB
  go_wp2
  go_ret
  exact ⟨rfl, hB'.out⟩
theorem passed_any (h : SG w F b k s) :
    Calls Try.prog 21 #[.pointer (some ⟨b, 0, none⟩)] w fun e w' => e = .returned (.int .i64 s.passed) ∧ w = w' := by
  have c0 : w.cell? ⟨b, 16, none⟩ = some (.int .i64 s.passed) := (h.blk.cell 16).trans rfl
  clear h
  go_enter Try.func21, Try.ntmps21
  go_wp2
  go_ret
  exact ⟨rfl, rfl⟩
end Go.Proofs.Ytehpliclknfmoaa.Stage
