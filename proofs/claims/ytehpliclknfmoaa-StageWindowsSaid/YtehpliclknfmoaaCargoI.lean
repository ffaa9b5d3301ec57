/- Cargo (chapter 07): Hurry. Conditions: the bytes are fewer than 2^46. -/
import Derived.Test.YtehpliclknfmoaaCargoH
namespace Go.Proofs.Ytehpliclknfmoaa.Cargo
open Go.RowKit Mem Tick
open Go.Proofs.YtehpliclknfmoaaW.PrintWords (QRow q_slice q_cells q_max q_append q_drop q_move q_typed q_lt q_of_own add_at)
set_option maxRecDepth 100000
set_option linter.unusedVariables false
set_option linter.unusedSimpArgs false
theorem tot_joinP : ∀ (ps : List Pc) (s : ByteArray), ps ≠ [] → tot (joinP ps s) = tot ps + s.size
  | [], s, h => absurd rfl h
  | [p], s, _ => by simp [joinP, tot, ByteArray.size_append]
  | p :: q :: r, s, _ => by
    have := tot_joinP (q :: r) s (by simp)
    simp only [joinP, tot] at this ⊢
    omega
theorem len_joinP : ∀ (ps : List Pc) (s : ByteArray), (joinP ps s).length = ps.length
  | [], s => rfl
  | [p], s => rfl
  | p :: q :: r, s => by
    have := len_joinP (q :: r) s
    simp only [joinP, List.length_cons] at this ⊢
    omega
theorem tot_addP (ps : List Pc) (t : Int) (s : ByteArray) : tot (addP ps t s) = tot ps + s.size := by
  unfold addP
  rw [isEmpty_size]
  by_cases h : s.size = 0
  · rw [if_pos (decide_eq_true h), h]; rfl
  · rw [if_neg (by simp [h])]
    by_cases hj : joinedB ps t = true
    · rw [if_pos hj]
      refine tot_joinP ps s ?_
      rintro rfl
      simp [joinedB] at hj
    · rw [if_neg hj, tot_append]; simp [tot]
theorem len_addP (ps : List Pc) (t : Int) (s : ByteArray) : (addP ps t s).length ≤ ps.length + 1 := by
  unfold addP
  split
  · omega
  · split
    · rw [len_joinP]; omega
    · simp
def hurF (at_ : Int) (acc : List Pc) (p : Pc) : List Pc := addP acc (min p.1 at_) p.2
def hur (at_ : Int) (ps : List Pc) : List Pc := ps.foldl (hurF at_) []
theorem hur_take (at_ : Int) (ps : List Pc) (k : Nat) (p : Pc) (h : ps[k]? = some p) : hur at_ (ps.take (k + 1)) = addP (hur at_ (ps.take k)) (min p.1 at_) p.2 := by
  unfold hur
  rw [List.take_add_one, h, List.foldl_append]
  rfl
theorem tot_hur (at_ : Int) (ps : List Pc) : tot (hur at_ ps) = tot ps := by
  have key : ∀ (ps acc : List Pc), tot (ps.foldl (hurF at_) acc) = tot acc + tot ps := by
    intro ps
    induction ps with
    | nil => intro acc; rfl
    | cons p r ih => intro acc; rw [List.foldl_cons, ih, hurF, tot_addP, tot]; omega
  have := key ps []
  unfold hur
  simpa [tot] using this
theorem len_hur (at_ : Int) (ps : List Pc) : (hur at_ ps).length ≤ ps.length := by
  have key : ∀ (ps acc : List Pc), (ps.foldl (hurF at_) acc).length ≤ acc.length + ps.length := by
    intro ps
    induction ps with
    | nil => intro acc; simp
    | cons p r ih => intro acc; rw [List.foldl_cons]; have := ih (hurF at_ acc p); have := len_addP acc (min p.1 at_) p.2; unfold hurF at *; simp only [List.length_cons]; omega
  have := key ps []
  unfold hur
  simpa using this
theorem dcells {F : Nat → Prop} {w w' : World} (hd : Did F w w') {g o : Nat} {v : Value} (h : w.cell? ⟨g, o, none⟩ = some v) (hg : ¬ F g) : w'.cell? ⟨g, o, none⟩ = some v :=
  (World.cell?_of_block (a := ⟨g, o, none⟩) (hd.block g (World.block_lt_of_cell? w _ h) hg)).trans h
end Go.Proofs.Ytehpliclknfmoaa.Cargo
