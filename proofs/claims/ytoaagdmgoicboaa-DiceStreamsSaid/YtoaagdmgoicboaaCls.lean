/- Regions whose order is drawn: the worlds are told by a class that every operation keeps. Lemmas alone; no condition. -/
import Derived.Deep.Quiet
import Derived.Deep.Draws
import Derived.Below
namespace Go.Proofs.Ytoaagdmgoicboaa.Cls
open Go Go.RowKit

variable {P : Program} {ops : Array Oper} {C : World → Prop} {Q : Act → Prop} {a : Act} {rest : List Oper} {o : Oper}

theorem region {id : Nat} {l : List Oper} {Q : Exit → Act → World → Prop} {w : World} (C : World → Prop) (hm : P.follows .mixedOrders = true) (hB : Region.lexB .any l.toArray = true)
    (hC : C w.drew) (h : wpQuiet P l.toArray C (fun a' => ∀ w', C w' → Q .normal a' w') l a) : (Code.region id l.toArray true).wp P Q a w :=
  wp_region_quiet (C := C) hm hB hC (by simpa using h)

/-- an operation that yields one value in every world of the class. -/
theorem value (v : Value) (hg : o.guard = none) (h : ∀ w, C w → (execOp a.eval o).run P w = .ok (.value v) w) (hk : wpQuiet P ops C Q rest (a.put o.dst v)) :
    wpQuiet P ops C Q (o :: rest) a := by
  unfold wpQuiet
  rw [if_pos (by simp [Region.wanted, hg])]
  refine ⟨v, fun w hw => ?_, hk⟩
  unfold Oper.quietAt
  rw [h w hw]
  exact ⟨rfl, rfl⟩

/-- the same where a guard lets it run. -/
theorem valueG (v : Value) (hg : Region.wanted o (yielded ops a.tmps) = true) (h : ∀ w, C w → (execOp a.eval o).run P w = .ok (.value v) w) (hk : wpQuiet P ops C Q rest (a.put o.dst v)) :
    wpQuiet P ops C Q (o :: rest) a := by
  unfold wpQuiet
  rw [if_pos hg]
  refine ⟨v, fun w hw => ?_, hk⟩
  unfold Oper.quietAt
  rw [h w hw]
  exact ⟨rfl, rfl⟩

/-- an operation whose guard shuts it out. -/
theorem out (hg : Region.wanted o (yielded ops a.tmps) = false) (hk : wpQuiet P ops C Q rest (a.put o.dst undef)) : wpQuiet P ops C Q (o :: rest) a := by
  unfold wpQuiet
  rw [if_neg (by simp [hg])]
  exact hk

/-- a call that hands back one value from every world of the class, and leaves a world of the class. -/
theorem call (f : FuncId) (args : Array Value) (v : Value) (hg : o.guard = none) (he : ∀ w, (execOp a.eval o).run P w = .ok (.enter f args) w)
    (h : ∀ w, C w → Calls P f args w (fun e w' => e = .returned v ∧ C w')) (hk : wpQuiet P ops C Q rest (a.put o.dst v)) :
    wpQuiet P ops C Q (o :: rest) a := by
  unfold wpQuiet
  rw [if_pos (by simp [Region.wanted, hg])]
  refine ⟨v, fun w hw => ?_, hk⟩
  unfold Oper.quietAt
  rw [he w]
  exact ⟨rfl, h w hw⟩

theorem callG (f : FuncId) (args : Array Value) (v : Value) (hg : Region.wanted o (yielded ops a.tmps) = true) (he : ∀ w, (execOp a.eval o).run P w = .ok (.enter f args) w)
    (h : ∀ w, C w → Calls P f args w (fun e w' => e = .returned v ∧ C w')) (hk : wpQuiet P ops C Q rest (a.put o.dst v)) :
    wpQuiet P ops C Q (o :: rest) a := by
  unfold wpQuiet
  rw [if_pos hg]
  refine ⟨v, fun w hw => ?_, hk⟩
  unfold Oper.quietAt
  rw [he w]
  exact ⟨rfl, h w hw⟩

theorem done (h : Q a) : wpQuiet P ops C Q [] a := h

end Go.Proofs.Ytoaagdmgoicboaa.Cls
