/- A script of cargo's calls (chapter 07): how it lies in memory, and whether it is short. Conditions: each text is shorter than 2^47 bytes. -/
import Derived.Test.YtehpliclknfmoaaCargoK
namespace Go.Proofs.Ytehpliclknfmoaa.Cargo
open Go.RowKit Mem Tick
set_option maxRecDepth 100000
set_option linter.unusedVariables false
set_option linter.unusedSimpArgs false
/-- kind, tick, number, text. -/
abbrev Op4 := Int × Int × Int × ByteArray
def opV (x : Op4) : Value := .agg #[.int .i64 x.1, .int .i64 x.2.1, .int .i64 x.2.2.1, .string x.2.2.2]
def Script (w : World) (v : Value) (l : List Op4) : Prop :=
  ∃ a cap, v = .slice a l.length cap ∧ l.length ≤ 9223372036854775807 ∧ (∀ x ∈ l, x.2.2.2.size ≤ 140737488351232) ∧
    (l ≠ [] → ∃ b o, a = some ⟨b, o, none⟩ ∧ ∀ j x, l[j]? = some x → w.cell? ⟨b, o + j * 4, none⟩ = some (.int .i64 x.1) ∧ w.cell? ⟨b, o + j * 4 + 1, none⟩ = some (.int .i64 x.2.1) ∧ w.cell? ⟨b, o + j * 4 + 2, none⟩ = some (.int .i64 x.2.2.1) ∧ w.cell? ⟨b, o + j * 4 + 3, none⟩ = some (.string x.2.2.2))
theorem Script.below {w w' : World} {v : Value} {l : List Op4} (h : Script w v l) (hb : Below w.heap.size w w') : Script w' v l := by
  obtain ⟨a, cap, h1, h2, h3, h4⟩ := h
  refine ⟨a, cap, h1, h2, h3, fun hn => ?_⟩
  obtain ⟨b, o, e, hc⟩ := h4 hn
  refine ⟨b, o, e, fun j x hx => ?_⟩
  obtain ⟨c0, c1, c2, c3⟩ := hc j x hx
  exact ⟨bcells hb c0, bcells hb c1, bcells hb c2, bcells hb c3⟩
def bytesOf : List Op4 → Nat
  | [] => 0
  | x :: r => x.2.2.2.size + bytesOf r
theorem bytesOf_append (a b : List Op4) : bytesOf (a ++ b) = bytesOf a + bytesOf b := by induction a with | nil => simp [bytesOf] | cons p r ih => simp [bytesOf, ih]; omega
theorem bytesOf_take (l : List Op4) (k : Nat) (x : Op4) (h : l[k]? = some x) : bytesOf (l.take (k + 1)) = bytesOf (l.take k) + x.2.2.2.size := by
  rw [List.take_add_one, h, bytesOf_append]; simp [bytesOf]
theorem bytesOf_le (l : List Op4) (k : Nat) : bytesOf (l.take k) ≤ bytesOf l := by
  have := bytesOf_append (l.take k) (l.drop k)
  rw [List.take_append_drop] at this; omega
theorem bytesOf_max (l : List Op4) (h : ∀ x ∈ l, x.2.2.2.size ≤ 140737488351232) : bytesOf l ≤ l.length * 140737488351232 := by
  induction l with
  | nil => simp [bytesOf]
  | cons x r ih =>
    have h1 := h x (List.mem_cons_self ..)
    have h2 := ih fun y hy => h y (List.mem_cons_of_mem _ hy)
    simp only [bytesOf, List.length_cons]; omega
def fewB (l : List Op4) : Bool := decide (l.length ≤ 200) && decide (bytesOf l ≤ 5000)
end Go.Proofs.Ytehpliclknfmoaa.Cargo
