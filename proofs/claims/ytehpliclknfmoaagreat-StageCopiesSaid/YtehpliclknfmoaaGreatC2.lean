/- Regions whose order is drawn: the worlds are told by a class that every operation keeps. Lemmas alone; no condition. -/
import Derived.Deep.Quiet
import Derived.Deep.Draws
import Derived.Below
import Derived.Laws.Rows
namespace Go.Proofs.YtehpliclknfmoaaGreat.Cls
open Go Go.RowKit

variable {P : Program} {ops : Array Oper} {C : World → Prop} {Q : Act → Prop} {a : Act} {rest : List Oper} {o : Oper}

theorem region {id : Nat} {l : List Oper} {Q : Exit → Act → World → Prop} {w : World} (C : World → Prop) (hm : P.follows .mixedOrders = true) (hB : Region.lexB .any l.toArray = true)
    (hC : C w.drew) (h : wpQuiet P l.toArray C (fun a' => ∀ w', C w' → Q .normal a' w') l a) : (Code.region id l.toArray true).wp P Q a w :=
  wp_region_quiet (C := C) hm hB hC (by simpa using h)

theorem value (v : Value) (hg : o.guard = none) (h : ∀ w, C w → (execOp a.eval o).run P w = .ok (.value v) w) (hk : wpQuiet P ops C Q rest (a.put o.dst v)) :
    wpQuiet P ops C Q (o :: rest) a := by
  unfold wpQuiet
  rw [if_pos (by simp [Region.wanted, hg])]
  refine ⟨v, fun w hw => ?_, hk⟩
  unfold Oper.quietAt
  rw [h w hw]
  exact ⟨rfl, rfl⟩

theorem out (hg : Region.wanted o (yielded ops a.tmps) = false) (hk : wpQuiet P ops C Q rest (a.put o.dst undef)) : wpQuiet P ops C Q (o :: rest) a := by
  unfold wpQuiet
  rw [if_neg (by simp [hg])]
  exact hk

theorem call (f : FuncId) (args : Array Value) (v : Value) (hg : o.guard = none) (he : ∀ w, (execOp a.eval o).run P w = .ok (.enter f args) w)
    (h : ∀ w, C w → Calls P f args w (fun e w' => e = .returned v ∧ C w')) (hk : wpQuiet P ops C Q rest (a.put o.dst v)) :
    wpQuiet P ops C Q (o :: rest) a := by
  unfold wpQuiet
  rw [if_pos (by simp [Region.wanted, hg])]
  refine ⟨v, fun w hw => ?_, hk⟩
  unfold Oper.quietAt
  rw [he w]
  exact ⟨rfl, h w hw⟩

theorem done (h : Q a) : wpQuiet P ops C Q [] a := h

theorem set_own (W : World) (cs : Array Value) (t : TypeId) (n j : Nat) (v : Value) : ((W.alloc (.cells cs t)).drewN n).setCell ⟨W.heap.size, j, none⟩ v = (W.alloc (.cells (cs.setIfInBounds j v) t)).drewN n := by
  simp only [World.setCell, World.alloc, World.drewN]
  congr 1
  apply Array.ext
  · simp
  · intro i h1 h2
    simp only [Array.getElem_modify, Array.getElem_push]
    by_cases e : W.heap.size = i
    · subst e; simp
    · have : i < W.heap.size := by simp at h2; omega
      simp [e, this]
theorem below_drewN' {B : Nat} {a w : World} (h : Below B a w) (n : Nat) : Below B a (w.drewN n) := ⟨h.os, h.tape, h.output, h.size, h.block⟩
theorem bcell {W w1 : World} (hb : Below W.heap.size W w1) : (∀ b o, b < W.heap.size → w1.cell? ⟨b, o, none⟩ = W.cell? ⟨b, o, none⟩) ∧ (∀ b o, b < W.heap.size → w1.frozen? ⟨b, o, none⟩ = W.frozen? ⟨b, o, none⟩) :=
  ⟨fun b o h => hb.cell (p := ⟨b, o, none⟩) h, fun b o h => hb.frozen (p := ⟨b, o, none⟩) h⟩

def Box4 (w : World) (k : Nat) (a b c d : Value) : Prop :=
  w.cell? ⟨k, 0, none⟩ = some a ∧ w.cell? ⟨k, 1, none⟩ = some b ∧ w.cell? ⟨k, 2, none⟩ = some c ∧ w.cell? ⟨k, 3, none⟩ = some d ∧
  w.frozen? ⟨k, 0, none⟩ = false ∧ w.frozen? ⟨k, 1, none⟩ = false ∧ w.frozen? ⟨k, 2, none⟩ = false ∧ w.frozen? ⟨k, 3, none⟩ = false ∧ k < w.heap.size
theorem Box4.below {w w' : World} {k : Nat} {a b c d : Value} (h : Box4 w k a b c d) (hb : Below w.heap.size w w') : Box4 w' k a b c d := by
  obtain ⟨h0, h1, h2, h3, f0, f1, f2, f3, hk⟩ := h
  exact ⟨(hb.cell (p := ⟨k, 0, none⟩) hk).trans h0, (hb.cell (p := ⟨k, 1, none⟩) hk).trans h1, (hb.cell (p := ⟨k, 2, none⟩) hk).trans h2, (hb.cell (p := ⟨k, 3, none⟩) hk).trans h3,
    (hb.frozen (p := ⟨k, 0, none⟩) hk).trans f0, (hb.frozen (p := ⟨k, 1, none⟩) hk).trans f1, (hb.frozen (p := ⟨k, 2, none⟩) hk).trans f2, (hb.frozen (p := ⟨k, 3, none⟩) hk).trans f3, Nat.lt_of_lt_of_le hk hb.size⟩
theorem Box4.of_block {w : World} {k : Nat} {a b c d : Value} {t : TypeId} (h : w.heap[k]? = some (.cells #[a, b, c, d] t (0, 0))) : Box4 w k a b c d := by
  have hk : k < w.heap.size := (Array.getElem?_eq_some_iff.1 h).1
  refine ⟨?_, ?_, ?_, ?_, ?_, ?_, ?_, ?_, hk⟩ <;> simp [World.cell?, World.frozen?, h]
theorem Box4.new (w : World) (a b c d : Value) (t : TypeId) : Box4 (w.alloc (.cells #[a, b, c, d] t)) w.heap.size a b c d := Box4.of_block (heap_alloc_new w _)
theorem Box4.old {w : World} {k : Nat} {a b c d : Value} (h : Box4 w k a b c d) (o : Obj) : Box4 (w.alloc o) k a b c d := h.below ((Below.refl _ _).alloc (Nat.le_refl _) o)
theorem set_cell {w : World} {k i : Nat} {u v : Value} (h : w.cell? ⟨k, i, none⟩ = some u) : (w.setCell ⟨k, i, none⟩ v).cell? ⟨k, i, none⟩ = some v := World.cell?_setCell_same' _ _ _ (by rw [h]; rfl)
theorem set_cell_ne {w : World} {k i k' j : Nat} {v : Value} (h : k ≠ k' ∨ i ≠ j) : (w.setCell ⟨k, i, none⟩ v).cell? ⟨k', j, none⟩ = w.cell? ⟨k', j, none⟩ := by
  simp only [World.cell?, World.setCell, Array.getElem?_modify]
  by_cases e : k = k'
  · subst e
    have hij : i ≠ j := by omega
    cases hh : w.heap[k]? with
    | none => simp
    | some o =>
      cases o <;> simp [hij]
  · simp [e]
theorem Box4.set0 {w : World} {k : Nat} {a b c d : Value} (h : Box4 w k a b c d) (v : Value) : Box4 (w.setCell ⟨k, 0, none⟩ v) k v b c d := by
  obtain ⟨h0, h1, h2, h3, f0, f1, f2, f3, hk⟩ := h
  exact ⟨set_cell h0, (set_cell_ne (by omega)).trans h1, (set_cell_ne (by omega)).trans h2, (set_cell_ne (by omega)).trans h3, by rw [World.frozen?_setCell]; exact f0, by rw [World.frozen?_setCell]; exact f1, by rw [World.frozen?_setCell]; exact f2, by rw [World.frozen?_setCell]; exact f3, by rw [World.size_setCell]; exact hk⟩
theorem Box4.set1 {w : World} {k : Nat} {a b c d : Value} (h : Box4 w k a b c d) (v : Value) : Box4 (w.setCell ⟨k, 1, none⟩ v) k a v c d := by
  obtain ⟨h0, h1, h2, h3, f0, f1, f2, f3, hk⟩ := h
  exact ⟨(set_cell_ne (by omega)).trans h0, set_cell h1, (set_cell_ne (by omega)).trans h2, (set_cell_ne (by omega)).trans h3, by rw [World.frozen?_setCell]; exact f0, by rw [World.frozen?_setCell]; exact f1, by rw [World.frozen?_setCell]; exact f2, by rw [World.frozen?_setCell]; exact f3, by rw [World.size_setCell]; exact hk⟩
theorem Box4.set2 {w : World} {k : Nat} {a b c d : Value} (h : Box4 w k a b c d) (v : Value) : Box4 (w.setCell ⟨k, 2, none⟩ v) k a b v d := by
  obtain ⟨h0, h1, h2, h3, f0, f1, f2, f3, hk⟩ := h
  exact ⟨(set_cell_ne (by omega)).trans h0, (set_cell_ne (by omega)).trans h1, set_cell h2, (set_cell_ne (by omega)).trans h3, by rw [World.frozen?_setCell]; exact f0, by rw [World.frozen?_setCell]; exact f1, by rw [World.frozen?_setCell]; exact f2, by rw [World.frozen?_setCell]; exact f3, by rw [World.size_setCell]; exact hk⟩
theorem Box4.set3 {w : World} {k : Nat} {a b c d : Value} (h : Box4 w k a b c d) (v : Value) : Box4 (w.setCell ⟨k, 3, none⟩ v) k a b c v := by
  obtain ⟨h0, h1, h2, h3, f0, f1, f2, f3, hk⟩ := h
  exact ⟨(set_cell_ne (by omega)).trans h0, (set_cell_ne (by omega)).trans h1, (set_cell_ne (by omega)).trans h2, set_cell h3, by rw [World.frozen?_setCell]; exact f0, by rw [World.frozen?_setCell]; exact f1, by rw [World.frozen?_setCell]; exact f2, by rw [World.frozen?_setCell]; exact f3, by rw [World.size_setCell]; exact hk⟩
theorem Box4.far {w : World} {k k' i : Nat} {a b c d : Value} (h : Box4 w k a b c d) (hne : k' ≠ k) (v : Value) : Box4 (w.setCell ⟨k', i, none⟩ v) k a b c d := by
  obtain ⟨h0, h1, h2, h3, f0, f1, f2, f3, hk⟩ := h
  exact ⟨(set_cell_ne (.inl hne)).trans h0, (set_cell_ne (.inl hne)).trans h1, (set_cell_ne (.inl hne)).trans h2, (set_cell_ne (.inl hne)).trans h3, by rw [World.frozen?_setCell]; exact f0, by rw [World.frozen?_setCell]; exact f1, by rw [World.frozen?_setCell]; exact f2, by rw [World.frozen?_setCell]; exact f3, by rw [World.size_setCell]; exact hk⟩
def put4 (w : World) (k : Nat) (a b c d : Value) : World := (((w.setCell ⟨k, 0, none⟩ a).setCell ⟨k, 1, none⟩ b).setCell ⟨k, 2, none⟩ c).setCell ⟨k, 3, none⟩ d
theorem Box4.put {w : World} {k : Nat} {a b c d : Value} (h : Box4 w k a b c d) (a' b' c' d' : Value) : Box4 (put4 w k a' b' c' d') k a' b' c' d' := (((h.set0 a').set1 b').set2 c').set3 d'
theorem Box4.far4 {w : World} {k k' : Nat} {a b c d : Value} (h : Box4 w k a b c d) (hne : k' ≠ k) (a' b' c' d' : Value) : Box4 (put4 w k' a' b' c' d') k a b c d := (((h.far hne a').far hne b').far hne c').far hne d'
theorem below_put4 {B : Nat} {x w : World} {k : Nat} (h : Below B x w) (hk : B ≤ k) (a b c d : Value) : Below B x (put4 w k a b c d) := (((h.setCell (p := ⟨k, 0, none⟩) hk a).setCell (p := ⟨k, 1, none⟩) hk b).setCell (p := ⟨k, 2, none⟩) hk c).setCell (p := ⟨k, 3, none⟩) hk d
end Go.Proofs.YtehpliclknfmoaaGreat.Cls
