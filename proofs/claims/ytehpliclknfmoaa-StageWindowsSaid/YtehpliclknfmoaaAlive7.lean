/- alive (chapter 07). Conditions: none. -/
import Derived.Test.YtehpliclknfmoaaScript
import Derived.Lib.SlBytesConst
namespace Go.Proofs.Ytehpliclknfmoaa.Cargo
open Go.RowKit Mem Tick
open Go.Proofs.YtehpliclknfmoaaW.PrintWords (QRow q_slice q_cells q_max q_append q_drop q_move q_typed q_lt q_of_own add_at cut_from)
set_option maxRecDepth 100000
set_option linter.unusedVariables false
set_option linter.unusedSimpArgs false
theorem bs_const (w : World) (C : Array Value) (fr : Nat × Nat) (s : ByteArray) (hC : ∀ i (h : i < s.size), C[i]? = some (.int .u8 (s[i].toNat : Int))) : BS (w.alloc (.cells C 5 fr)) (some ⟨w.heap.size, 0, none⟩) s := by
  intro hs
  refine ⟨_, 0, rfl, fun i hi => ?_⟩
  have hb : (w.alloc (.cells C 5 fr)).heap[w.heap.size]? = some (.cells C 5 fr) := heap_alloc_new w _
  rw [cell_of_row _ _ _ _ _ _ hb, Nat.zero_add]
  exact hC i hi
def sAB : ByteArray := ⟨#[97, 98]⟩
def sC : ByteArray := ⟨#[99]⟩
def sABC : ByteArray := ⟨#[97, 98, 99]⟩
theorem alive_e1 : putAt 0 5 = 5 ∧ putAt 5 3 = 5 := by decide
theorem alive_e2 : addP [] 5 sAB = [(5, sAB)] ∧ addP [(5, sAB)] 5 sC = [(5, sABC)] := by
  have h1 : sAB.toList.isEmpty = false := isEmpty_false (by decide)
  have h2 : sC.toList.isEmpty = false := isEmpty_false (by decide)
  constructor
  · unfold addP; rw [if_neg (by rw [h1]; decide)]; rfl
  · unfold addP; rw [if_neg (by rw [h2]; decide)]; rfl
theorem alive_e3 : takeN 4 9 [(5, sABC)] = 0 ∧ takeN 5 2 [(5, sABC)] = 2 := by decide
theorem alive_e4 : takeP 2 [(5, sABC)] = (sAB, [(5, sC)]) := by rfl
theorem alive_e5 : putLast 0 5 sAB = 5 ∧ putLast 5 3 sC = 5 := by
  have h1 : sAB.toList.isEmpty = false := isEmpty_false (by decide)
  have h2 : sC.toList.isEmpty = false := isEmpty_false (by decide)
  constructor
  · unfold putLast; rw [h1]; rfl
  · unfold putLast; rw [h2]; rfl
theorem sAB_of (w : World) : BS (w.alloc (.cells #[.int .u8 97, .int .u8 98] 5 (2, 3))) (some ⟨w.heap.size, 0, none⟩) sAB :=
  bs_const w _ _ _ fun i hi => by
    match i, hi with
    | 0, _ => rfl
    | 1, _ => rfl
theorem sC_of (w : World) : BS (w.alloc (.cells #[.int .u8 99] 5 (1, 2))) (some ⟨w.heap.size, 0, none⟩) sC :=
  bs_const w _ _ _ fun i hi => by
    match i, hi with
    | 0, _ => rfl
theorem full_abc : Full [(5, sABC)] := by
  intro p hp
  simp at hp
  subst hp
  decide
theorem row_view {w : World} {v : Value} {ps : List Pc} (hq : QRow w 0 80 2 v ps.length (cells ps)) :
    ∃ A cap, v = .slice A ps.length cap ∧ ps.length ≤ cap ∧ ps.length ≤ 9223372036854775807 ∧
      (ps ≠ [] → ∃ g o, A = some ⟨g, o, none⟩ ∧ ∀ j p, ps[j]? = some p → w.cell? ⟨g, o + j * 2, none⟩ = some (.int .i64 p.1) ∧ w.cell? ⟨g, o + j * 2 + 1, none⟩ = some (.string p.2)) := by
  obtain ⟨A, c, rfl, hc⟩ := q_slice hq
  refine ⟨A, c, rfl, hc, q_max hq, fun hne => ?_⟩
  have hn : 0 < ps.length := List.length_pos_iff.2 hne
  rcases hq.2 with ⟨h0, _⟩ | ⟨g, off, cap, cur, he, hg, hh, hnc, hm, hcs, ht⟩
  · omega
  · injection he with ha _ hc'
    obtain ⟨ad, hA, hat⟩ := q_cells hq hn
    rw [ha] at hA
    injection hA with hA
    refine ⟨g, off * 2, ha, fun j p hj => ?_⟩
    obtain ⟨c0, c1⟩ := cells_at ps j p hj
    have h0 := hat _ _ c0
    have h1 := hat _ _ c1
    rw [← hA, add_at] at h0 h1
    exact ⟨h0, h1⟩
end Go.Proofs.Ytehpliclknfmoaa.Cargo
