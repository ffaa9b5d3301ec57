/- One cargo of the call's own (chapter 07): each function's contract, told of what lives. Conditions: the bytes are fewer than 2^45. -/
import Derived.Test.YtehpliclknfmoaaCargoQ
namespace Go.Proofs.Ytehpliclknfmoaa.Cargo
open Go.RowKit Mem Tick
set_option linter.unusedVariables false
set_option linter.unusedSimpArgs false
/-- since w: block b is cargo x, all of it new. -/
def Live (w wr : World) (b : Nat) (x : St) : Prop := ∃ F, CG wr F b x.1 x.2 ∧ (∀ k, F k → w.heap.size ≤ k) ∧ Below w.heap.size w wr ∧ Good x
/-- blocks of other types are as they were. -/
def Keep (wr w2 : World) : Prop := ∀ k t cs, Blk wr k t cs → t ≠ 78 → t ≠ 80 → Blk w2 k t cs
theorem Keep.below {wr w2 : World} (h : Below wr.heap.size wr w2) : Keep wr w2 := fun k t cs hb _ _ => hb.below h
theorem Keep.trans {a b c : World} (h : Keep a b) (g : Keep b c) : Keep a c := fun k t cs hb h1 h2 => g k t cs (h k t cs hb h1 h2) h1 h2
theorem CG.keep {wr w2 : World} {F : Nat → Prop} {b : Nat} {ps : List Pc} {last : Int} (h : CG wr F b ps last) (hd : Did F wr w2) : Keep wr w2 := fun k t cs hb h1 h2 =>
  hb.did hd (h.typed.out hb (by simp only [List.mem_cons, List.not_mem_nil, or_false]; rintro (e | e) <;> contradiction))
theorem Live.old {w wr : World} {b : Nat} {x : St} (h : Live w wr b x) : Below w.heap.size w wr := by obtain ⟨F, _, _, hb, _⟩ := h; exact hb
theorem Live.good {w wr : World} {b : Nat} {x : St} (h : Live w wr b x) : Good x := by obtain ⟨F, _, _, _, hg⟩ := h; exact hg
theorem Live.below {w wr w2 : World} {b : Nat} {x : St} (h : Live w wr b x) (hb : Below wr.heap.size wr w2) : Live w w2 b x := by
  obtain ⟨F, hC, hF, hB, hG⟩ := h
  exact ⟨F, hC.below hb, hF, hB.trans (hb.mono hB.size), hG⟩
theorem Live.step {w wr w2 : World} {b : Nat} {x y : St} {F F' : Nat → Prop} (hC : CG wr F b x.1 x.2) (hF : ∀ k, F k → w.heap.size ≤ k) (hB : Below w.heap.size w wr) (hG : Good y) (hC2 : CG w2 F' b y.1 y.2) (hd : Did F wr w2) (hs : Stem F F' wr) : Live w w2 b y ∧ Keep wr w2 :=
  ⟨⟨F', hC2, fun k hk => (hs k hk).elim (hF k) (fun h => Nat.le_trans hB.size h), hB.trans (hd.below hB.size hF), hG⟩, hC.keep hd⟩
theorem live_new (w wr : World) (hB : Below w.heap.size w wr) :
    Calls Try.prog 24 #[] wr fun e w2 => ∃ b, e = .returned (.pointer (some ⟨b, 0, none⟩)) ∧ Live w w2 b ([], 0) ∧ Below wr.heap.size wr w2 :=
  (new_any wr).mono fun e w2 ⟨b, F, he, hC, hF, hb⟩ => ⟨b, he, ⟨F, hC, fun k hk => Nat.le_trans hB.size (hF k hk), hB.trans (hb.mono hB.size), Good.nil 0⟩, hb⟩
section
variable {w wr : World} {b : Nat} {x : St}
theorem live_len (h : Live w wr b x) (ht : tot x.1 ≤ 1000000000000) :
    Calls Try.prog 32 #[.pointer (some ⟨b, 0, none⟩)] wr fun e w2 => e = .returned (.int .i64 (tot x.1)) ∧ Live w w2 b x ∧ Below wr.heap.size wr w2 := by
  have h' := h
  obtain ⟨F, hC, _⟩ := h
  exact (len_any hC (by omega)).mono fun e w2 ⟨he, hb⟩ => ⟨he, h'.below hb, hb⟩
theorem live_ready (now : Int) (h : Live w wr b x) (ht : tot x.1 ≤ 1000000000000) :
    Calls Try.prog 29 #[.pointer (some ⟨b, 0, none⟩), .int .i64 now] wr fun e w2 => e = .returned (.int .i64 (rdy now x.1)) ∧ Live w w2 b x ∧ Below wr.heap.size wr w2 := by
  have h' := h
  obtain ⟨F, hC, _⟩ := h
  exact (ready_any now hC (by omega)).mono fun e w2 ⟨he, hb⟩ => ⟨he, h'.below hb, hb⟩
theorem live_take (now most : Int) (h : Live w wr b x) (ht : tot x.1 ≤ 1000000000000) :
    Calls Try.prog 30 #[.pointer (some ⟨b, 0, none⟩), .int .i64 now, .int .i64 most] wr fun e w2 =>
      ∃ A cap, e = .returned (.slice A (takeP (takeN now most x.1) x.1).1.size cap) ∧ BS w2 A (takeP (takeN now most x.1) x.1).1 ∧ Live w w2 b ((takeP (takeN now most x.1) x.1).2, x.2) ∧ Keep wr w2 := by
  obtain ⟨F, hC, hF, hB, hG⟩ := h
  have hG2 : Good ((takeP (takeN now most x.1) x.1).2, x.2) := hG.stp (1, now, most, ⟨#[]⟩)
  exact (take_any now most hC hG.1 (by omega)).mono fun e w2 ⟨A, cap, he, hS, hC2, hd⟩ => ⟨A, cap, he, hS, Live.step hC hF hB hG2 hC2 hd (Stem.refl _ _)⟩
theorem live_put (at_ : Int) (A : Option Addr) (cap : Nat) (s : ByteArray) (h : Live w wr b x) (hb : BS wr A s) (ht : tot x.1 + s.size ≤ 70368744177664) (hn : tot x.1 ≤ 1000000000000) :
    Calls Try.prog 46 #[.pointer (some ⟨b, 0, none⟩), .int .i64 at_, .slice A s.size cap] wr fun e w2 => e = .returned (.int .i64 (putAt x.2 at_)) ∧ Live w w2 b (addP x.1 (putAt x.2 at_) s, putLast x.2 at_ s) ∧ Keep wr w2 := by
  obtain ⟨F, hC, hF, hB, hG⟩ := h
  have hl := len_tot hG.1
  have hG2 : Good (addP x.1 (putAt x.2 at_) s, putLast x.2 at_ s) := hG.stp (0, at_, 0, s)
  exact (put_any at_ A cap s hC hb (by omega) (by omega)).mono fun e w2 ⟨he, F', hC2, hd, hs⟩ => ⟨he, Live.step hC hF hB hG2 hC2 hd hs⟩
theorem live_drain (h : Live w wr b x) (ht : tot x.1 ≤ 1000000000000) :
    Calls Try.prog 19 #[.pointer (some ⟨b, 0, none⟩)] wr fun e w2 => ∃ A cap, e = .returned (.slice A (cat x.1).size cap) ∧ BS w2 A (cat x.1) ∧ Live w w2 b ([], x.2) ∧ Keep wr w2 := by
  obtain ⟨F, hC, hF, hB, hG⟩ := h
  have hm := hC.mine
  exact (drain_any hC (by omega)).mono fun e w2 ⟨A, cap, he, hS, hC2, hd⟩ => ⟨A, cap, he, hS, Live.step hC hF hB (Good.nil _) hC2 hd (fun k hk => .inl (by subst hk; exact hm))⟩
end
end Go.Proofs.Ytehpliclknfmoaa.Cargo
