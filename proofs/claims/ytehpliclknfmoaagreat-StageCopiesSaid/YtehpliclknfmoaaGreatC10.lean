/- Memory: a call that writes to blocks of its own alone, and blocks told by their elements' type. Lemmas alone; no condition. -/
import Derived.Test.YtehpliclknfmoaaGreatC9
import Derived.Below
import Derived.Laws.Rows
import Derived.Lib.Hide
namespace Go.Proofs.YtehpliclknfmoaaGreat.Mem
open Go Go.RowKit
open Go.Proofs.YtehpliclknfmoaaGreatW.PrintWords (QRow q_slice q_cells q_max q_append q_drop q_move q_typed q_lt q_of_own add_at)
set_option linter.unusedVariables false

structure Did (F : Nat → Prop) (w w' : World) : Prop where
  os : w'.os = w.os
  tape : w'.tape = w.tape
  output : w'.output = w.output
  size : w.heap.size ≤ w'.heap.size
  block : ∀ k, k < w.heap.size → ¬ F k → w'.heap[k]? = w.heap[k]?
def Stem (F F' : Nat → Prop) (w : World) : Prop := ∀ k, F' k → F k ∨ w.heap.size ≤ k
variable {F G F' F'' : Nat → Prop} {w w' w1 w2 a b : World}
theorem Did.refl (F : Nat → Prop) (w : World) : Did F w w := ⟨rfl, rfl, rfl, Nat.le_refl _, fun _ _ _ => rfl⟩
theorem Did.more (h : Did F w w') (hg : ∀ k, F k → G k ∨ w.heap.size ≤ k) : Did G w w' :=
  ⟨h.os, h.tape, h.output, h.size, fun k hk hn => h.block k hk fun c => (hg k c).elim hn (fun d => by omega)⟩
theorem Did.trans (h : Did F w w1) (hs : Stem F F' w) (k : Did F' w1 w2) : Did F w w2 :=
  ⟨k.os.trans h.os, k.tape.trans h.tape, k.output.trans h.output, Nat.le_trans h.size k.size,
    fun i hi hn => (k.block i (Nat.lt_of_lt_of_le hi h.size) fun c => (hs i c).elim hn (fun d => by omega)).trans (h.block i hi hn)⟩
theorem Stem.refl (F : Nat → Prop) (w : World) : Stem F F w := fun _ h => .inl h
theorem Stem.trans (hs : Stem F F' w) (h : w.heap.size ≤ w1.heap.size) (k : Stem F' F'' w1) : Stem F F'' w :=
  fun i hi => (k i hi).elim (hs i) (fun d => .inr (by omega))
theorem Did.of_below (h : Below w.heap.size w w') : Did F w w' := ⟨h.os, h.tape, h.output, h.size, fun k hk _ => h.block k hk⟩
theorem Did.below (h : Did F w w') {B : Nat} (hB : B ≤ w.heap.size) (hF : ∀ k, F k → B ≤ k) : Below B w w' :=
  ⟨h.os, h.tape, h.output, h.size, fun k hk => h.block k (by omega) fun c => by have := hF k c; omega⟩
theorem Did.of_grown {row : Option Nat} (h : w.grownBy w' row) (hr : ∀ k, row = some k → F k ∨ w.heap.size ≤ k) : Did F w w' :=
  ⟨h.os, h.tape, h.output, h.size, fun k hk hn => h.block k hk fun e => (hr k e.symm).elim hn (fun d => by omega)⟩
theorem Did.drew (h : Did F a w) : Did F a w.drew := ⟨h.os, h.tape, h.output, h.size, h.block⟩
theorem Did.drewN (h : Did F a w) (n : Nat) : Did F a (w.drewN n) := ⟨h.os, h.tape, h.output, h.size, h.block⟩
theorem Did.alloc (h : Did F a w) (o : Obj) : Did F a (w.alloc o) :=
  ⟨h.os, h.tape, h.output, Nat.le_trans h.size (by simp), fun k hk hn => (Below.heap_alloc w o k (Nat.lt_of_lt_of_le hk h.size)).trans (h.block k hk hn)⟩
theorem Did.setCell (h : Did F a w) {p : Addr} (hp : F p.block ∨ a.heap.size ≤ p.block) (u : Value) : Did F a (w.setCell p u) :=
  ⟨h.os, h.tape, h.output, by simpa [World.setCell] using h.size, fun k hk hn => (Below.heap_setCell w p u k (by
    rintro rfl
    exact hp.elim hn (fun d => by omega))).trans (h.block k hk hn)⟩

def Blk (w : World) (k : Nat) (t : TypeId) (cs : Array Value) : Prop := w.heap[k]? = some (.cells cs t (0, 0))
theorem Blk.lt {k : Nat} {t : TypeId} {cs : Array Value} (h : Blk w k t cs) : k < w.heap.size := (Array.getElem?_eq_some_iff.1 h).1
theorem Blk.cell {k : Nat} {t : TypeId} {cs : Array Value} (h : Blk w k t cs) (i : Nat) : w.cell? ⟨k, i, none⟩ = cs[i]? := cell_of_row w k i cs t (0, 0) h
theorem Blk.free {k : Nat} {t : TypeId} {cs : Array Value} (h : Blk w k t cs) (i : Nat) : w.frozen? ⟨k, i, none⟩ = false := by
  unfold Blk at h
  simp [World.frozen?, h]
theorem Blk.new (w : World) (t : TypeId) (cs : Array Value) : Blk (w.alloc (.cells cs t)) w.heap.size t cs := heap_alloc_new w _
theorem Blk.below {k : Nat} {t : TypeId} {cs : Array Value} (h : Blk w k t cs) (hb : Below w.heap.size w w') : Blk w' k t cs := (hb.block k h.lt).trans h
theorem Blk.did {k : Nat} {t : TypeId} {cs : Array Value} (h : Blk w k t cs) (hd : Did F w w') (hk : ¬ F k) : Blk w' k t cs := (hd.block k h.lt hk).trans h
theorem Blk.set_ {k : Nat} {t : TypeId} {cs : Array Value} (h : Blk w k t cs) (i : Nat) (u : Value) : Blk (w.setCell ⟨k, i, none⟩ u) k t (cs.setIfInBounds i u) := by
  unfold Blk at h ⊢
  simp [World.setCell, Array.getElem?_modify, h]
theorem Blk.far {k : Nat} {t : TypeId} {cs : Array Value} (h : Blk w k t cs) {p : Addr} (hp : k ≠ p.block) (u : Value) : Blk (w.setCell p u) k t cs := (Below.heap_setCell w p u k hp).trans h
theorem Blk.ty {k : Nat} {t t' : TypeId} {cs cs' : Array Value} (h : Blk w k t cs) (h' : Blk w k t' cs') : t = t' := by
  unfold Blk at h h'
  rw [h] at h'
  injection h' with h'
  injection h' with _ e
theorem Blk.ne {k k' : Nat} {t t' : TypeId} {cs cs' : Array Value} (h : Blk w k t cs) (h' : Blk w k' t' cs') (hne : t ≠ t') : k ≠ k' := by
  rintro rfl
  exact hne (h.ty h')
def Typed (w : World) (F : Nat → Prop) (ts : List TypeId) : Prop := ∀ k, F k → ∃ t ∈ ts, ∃ cs, Blk w k t cs
theorem Typed.out {ts : List TypeId} (h : Typed w F ts) {k : Nat} {t : TypeId} {cs : Array Value} (hb : Blk w k t cs) (hn : t ∉ ts) : ¬ F k := by
  intro c
  obtain ⟨t', ht, cs', hb'⟩ := h k c
  exact hn (hb.ty hb' ▸ ht)
theorem Typed.lt {ts : List TypeId} (h : Typed w F ts) {k : Nat} (hk : F k) : k < w.heap.size := by
  obtain ⟨_, _, _, hb⟩ := h k hk
  exact hb.lt

end Go.Proofs.YtehpliclknfmoaaGreat.Mem
