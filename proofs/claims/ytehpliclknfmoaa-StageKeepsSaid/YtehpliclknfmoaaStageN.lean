/- A stage of the call's own (chapter 10): each function's contract, told of what lives. Conditions: the bytes are fewer than 2^29. -/
import Derived.Test.YtehpliclknfmoaaStageM
namespace Go.Proofs.Ytehpliclknfmoaa.Stage
open Go.RowKit Mem Tick Cargo Toxic
set_option linter.unusedVariables false
set_option linter.unusedSimpArgs false
/-- since w: block b is stage s, all of it new. -/
def LiveS (w wr : World) (b k : Nat) (s : Sg) : Prop := ∃ F, SG wr F b k s ∧ (∀ j, F j → w.heap.size ≤ j) ∧ Below w.heap.size w wr ∧ Ok s
/-- blocks of other types are as they were. -/
def KeepS (wr w2 : World) : Prop := ∀ g t cs, Blk wr g t cs → t ∉ [61, 78, 80] → Blk w2 g t cs
variable {w wr w1 w2 : World} {F F' : Nat → Prop} {b k : Nat} {s s' : Sg}
theorem KeepS.below (h : Below wr.heap.size wr w2) : KeepS wr w2 := fun _ _ _ hb _ => hb.below h
theorem KeepS.trans (h : KeepS wr w1) (g : KeepS w1 w2) : KeepS wr w2 := fun k t cs hb ht => g k t cs (h k t cs hb ht) ht
theorem SG.keep (h : SG wr F b k s) (hd : Did F wr w2) : KeepS wr w2 := fun g t cs hb ht => hb.did hd (h.off hb ht)
theorem LiveS.old (h : LiveS w wr b k s) : Below w.heap.size w wr := by obtain ⟨F, _, _, hb, _⟩ := h; exact hb
theorem LiveS.ok (h : LiveS w wr b k s) : Ok s := by obtain ⟨F, _, _, _, hg⟩ := h; exact hg
theorem LiveS.below (h : LiveS w wr b k s) (hb : Below wr.heap.size wr w2) : LiveS w w2 b k s := by
  obtain ⟨F, hC, hF, hB, hG⟩ := h
  exact ⟨F, hC.below hb, hF, hB.trans (hb.mono hB.size), hG⟩
theorem LiveS.cell (h : LiveS w wr b k s) : wr.cell? ⟨b, 0, none⟩ = some (.pointer (some ⟨k, 0, none⟩)) := by
  obtain ⟨F, hC, _⟩ := h
  exact (hC.blk.cell 0).trans rfl
theorem LiveS.step (hC : SG wr F b k s) (hF : ∀ j, F j → w.heap.size ≤ j) (hB : Below w.heap.size w wr) (hG : Ok s') (hC2 : SG w2 F' b k s') (hd : Did F wr w2) (hs : Stem F F' wr) : LiveS w w2 b k s' ∧ KeepS wr w2 :=
  ⟨⟨F', hC2, fun j hj => (hs j hj).elim (hF j) (fun h => Nat.le_trans hB.size h), hB.trans (hd.below hB.size hF), hG⟩, hC.keep hd⟩
theorem live_new (t : Tox) (seed room now : Int) (h : newE t room = 0) (hB : Below w.heap.size w wr) :
    Calls Try.prog 8 #[t.v, .int .u64 seed, .int .i64 room, .int .i64 now] wr fun e w2 => ∃ b k, e = .returned (.tuple #[.pointer (some ⟨b, 0, none⟩), .int .i64 0]) ∧ LiveS w w2 b k (newS t seed room now) ∧ Below wr.heap.size wr w2 :=
  (new_any t seed room now wr).mono fun e w2 ⟨h1, _⟩ => by
    obtain ⟨b, k, F, he, hC, hF, hb⟩ := h1 h
    exact ⟨b, k, he, ⟨F, hC, fun j hj => Nat.le_trans hB.size (hF j hj), hB.trans (hb.mono hB.size), Ok.new h⟩, hb⟩
theorem live_none (t : Tox) (seed room now : Int) (h : newE t room ≠ 0) :
    Calls Try.prog 8 #[t.v, .int .u64 seed, .int .i64 room, .int .i64 now] wr fun e w2 => e = .returned (.tuple #[.pointer none, .int .i64 (newE t room)]) ∧ Below wr.heap.size wr w2 :=
  (new_any t seed room now wr).mono fun e w2 ⟨_, h2⟩ => h2 h
theorem Ok.doesS (h : Ok s) (o : Op) : Ok (doesS s o) := by
  unfold Stage.doesS
  split
  · exact h.put _ _
  split
  · exact h.force _ _
  split
  · exact h.take _ _
  split
  · exact h.close _
  split
  · exact h.look _
  split
  · exact h.upd _ _
  split
  · exact h.drain
  · exact h
theorem live_does (h : LiveS w wr b k s) (o : Op) (hp : s.passed ≤ 1000000000) (ht : held s + o.s.size ≤ 1000000000) :
    Calls Try.prog 18 #[.pointer (some ⟨b, 0, none⟩), o.v] wr fun e w2 => e = .returned (Ans.v (doesA s o)) ∧ LiveS w w2 b k (doesS s o) ∧ KeepS wr w2 := by
  obtain ⟨F, hC, hF, hB, hG⟩ := h
  exact (does_any hC hG hp o ht).mono fun e w2 ⟨he, F', hC2, hd, hs⟩ => ⟨he, LiveS.step hC hF hB (hG.doesS o) hC2 hd hs⟩
theorem live_state (h : LiveS w wr b k s) (n : Int) (ht : held s ≤ 1000000000) :
    Calls Try.prog 17 #[.pointer (some ⟨b, 0, none⟩), .int .i64 n] wr fun e w2 => e = .returned (.int .i64 (lookP s n).state) ∧ LiveS w w2 b k (lookP s n) ∧ KeepS wr w2 := by
  obtain ⟨F, hC, hF, hB, hG⟩ := h
  exact (state_any hC (by omega) n).mono fun e w2 ⟨he, hC2, hd⟩ => ⟨he, LiveS.step hC hF hB (hG.look n) hC2 hd (Stem.refl _ _)⟩
theorem live_close (h : LiveS w wr b k s) (n : Int) :
    Calls Try.prog 26 #[.pointer (some ⟨b, 0, none⟩), .int .i64 n] wr fun e w2 => e = .returned (.tuple #[]) ∧ LiveS w w2 b k (closeP s n) ∧ KeepS wr w2 := by
  obtain ⟨F, hC, hF, hB, hG⟩ := h
  exact (close_any hC n).mono fun e w2 ⟨he, hC2, hd⟩ => ⟨he, LiveS.step hC hF hB (hG.close n) hC2 hd (Stem.refl _ _)⟩
theorem live_take (h : LiveS w wr b k s) (n most : Int) (hp : s.passed ≤ 1000000000) (ht : held s ≤ 1000000000) :
    Calls Try.prog 12 #[.pointer (some ⟨b, 0, none⟩), .int .i64 n, .int .i64 most] wr fun e w2 =>
      ∃ A cap, e = .returned (.slice A (takeB s n most).size cap) ∧ BS w2 A (takeB s n most) ∧ Newly wr A ∧ LiveS w w2 b k (takeS s n most) ∧ KeepS wr w2 := by
  obtain ⟨F, hC, hF, hB, hG⟩ := h
  exact (take_any hC hG.good.1 (hG.fit hp) ht n most).mono fun e w2 ⟨A, cap, he, hb, hC2, hd, hN⟩ => ⟨A, cap, he, hb, hN, LiveS.step hC hF hB (hG.take n most) hC2 hd (Stem.refl _ _)⟩
/-- bytes of a block that is not a stage's stay. -/
theorem BS_keepS {A : Option Addr} {x : ByteArray} (h : BS wr A x) (hN : Newly wr A ∨ ∀ g o, A = some ⟨g, o, none⟩ → ∃ cs fr, wr.heap[g]? = some (.cells cs 5 fr)) (hC : SG wr F b k s) (hd : Did F wr w2) : BS w2 A x := by
  refine h.kept fun g ⟨o, e⟩ hg => hd.block g hg fun hF => ?_
  rcases hN with hN | hN
  · have := hC.lt hF
    have := hN g o e
    omega
  · obtain ⟨cs, fr, hh⟩ := hN g o e
    obtain ⟨t, ht, cs', hb⟩ := hC.typed g hF
    unfold Blk at hb
    rw [hh] at hb
    injection hb with hb
    injection hb with _ e2 _
    subst e2
    simp at ht
theorem live_put (h : LiveS w wr b k s) (hb1 : Below wr.heap.size wr w1) (n : Int) (A : Option Addr) (cap : Nat) (x : ByteArray) (hc : x.size ≤ cap) (hb : BS w1 A x) (hN : Newly wr A) (ht : held s + x.size ≤ 1000000000) :
    Calls Try.prog 11 #[.pointer (some ⟨b, 0, none⟩), .int .i64 n, .slice A x.size cap] w1 fun e w2 => e = .returned (.int .i64 (putN s n x)) ∧ LiveS w w2 b k (putS s n x) ∧ KeepS w1 w2 := by
  obtain ⟨F, hC, hF, hB, hG⟩ := h
  have h0 := hG.r0
  have h1 := hG.r1
  exact (put_any (hC.below hb1) hG.good.1 n A cap x hc hb (fun g o e hf => by have := hC.lt hf; have := hN g o e; omega) ht (by omega) (by omega)).mono fun e w2 ⟨he, F', hC2, hd, hs⟩ =>
    ⟨he, LiveS.step (hC.below hb1) hF (hB.trans (hb1.mono hB.size)) (hG.put n x) hC2 hd hs⟩
theorem live_held (h : LiveS w wr b k s) (ht : held s ≤ 1000000000) :
    Calls Try.prog 13 #[.pointer (some ⟨b, 0, none⟩)] wr fun e w2 => e = .returned (.int .i64 (held s)) ∧ LiveS w w2 b k s ∧ Below wr.heap.size wr w2 := by
  have h' := h
  obtain ⟨F, hC, _⟩ := h
  exact (held_any hC (by omega)).mono fun e w2 ⟨he, hb⟩ => ⟨he, h'.below hb, hb⟩
theorem live_passed (h : LiveS w wr b k s) :
    Calls Try.prog 21 #[.pointer (some ⟨b, 0, none⟩)] wr fun e w2 => e = .returned (.int .i64 s.passed) ∧ wr = w2 := by
  obtain ⟨F, hC, _⟩ := h
  exact passed_any hC
theorem live_drain (h : LiveS w wr b k s) (ht : held s ≤ 1000000000) :
    Calls Try.prog 19 #[.pointer (some ⟨k, 0, none⟩)] wr fun e w2 => ∃ A cap, e = .returned (.slice A (cat s.c.1).size cap) ∧ BS w2 A (cat s.c.1) ∧ Newly wr A ∧ LiveS w w2 b k (drainP s) ∧ KeepS wr w2 := by
  obtain ⟨F, hC, hF, hB, hG⟩ := h
  exact (drain_any hC ht).mono fun e w2 ⟨A, cap, he, hb, hN, F', hC2, hd, hs⟩ => ⟨A, cap, he, hb, hN, LiveS.step hC hF hB hG.drain hC2 hd hs⟩
end Go.Proofs.Ytehpliclknfmoaa.Stage
