/- alive (chapter 07). Conditions: none. -/
import Derived.Test.YtcoennfpaimclaaScript
import Derived.Lib.SlBytesConst
namespace Go.Proofs.Ytcoennfpaimclaa.Cargo
open Go.RowKit Mem Tick
open Go.Proofs.YtcoennfpaimclaaW.PrintWords (QRow q_slice q_cells q_max q_append q_drop q_move q_typed q_lt q_of_own add_at cut_from)
set_option maxRecDepth 100000
set_option linter.unusedVariables false
set_option linter.unusedSimpArgs false
theorem bs_const (w : World) (C : Array Value) (fr : Nat × Nat) (s : ByteArray) (hC : ∀ i (h : i < s.size), C[i]? = some (.int .u8 (s[i].toNat : Int))) : BS (w.alloc (.cells C 5 fr)) (some ⟨w.heap.size, 0, none⟩) s := by
  intro hs
  refine ⟨_, 0, rfl, fun i hi => ?_⟩
  have hb : (w.alloc (.cells C 5 fr)).heap[w.heap.size]? = some (.cells C 5 fr) := heap_alloc_new w _
  rw [cell_of_row _ _ _ _ _ _ hb, Nat.zero_add]
  exact hC i hi
def sAB : ByteArray := ⟨#[97, 98]⟩
def sC : ByteArray := ⟨#[99]⟩
def sABC : ByteArray := ⟨#[97, 98, 99]⟩
theorem alive_e1 : putAt 0 5 = 5 ∧ putAt 5 3 = 5 := by decide
theorem alive_e2 : addP [] 5 sAB = [(5, sAB)] ∧ addP [(5, sAB)] 5 sC = [(5, sABC)] := by
  have h1 : sAB.toList.isEmpty = false := isEmpty_false (by decide)
  have h2 : sC.toList.isEmpty = false := isEmpty_false (by decide)
  constructor
  · unfold addP; rw [if_neg (by rw [h1]; decide)]; rfl
  · unfold addP; rw [if_neg (by rw [h2]; decide)]; rfl
theorem alive_e3 : takeN 4 9 [(5, sABC)] = 0 ∧ takeN 5 2 [(5, sABC)] = 2 := by decide
theorem alive_e4 : takeP 2 [(5, sABC)] = (sAB, [(5, sC)]) := by rfl
theorem alive_e5 : putLast 0 5 sAB = 5 ∧ putLast 5 3 sC = 5 := by
  have h1 : sAB.toList.isEmpty = false := isEmpty_false (by decide)
  have h2 : sC.toList.isEmpty = false := isEmpty_false (by decide)
  constructor
  · unfold putLast; rw [h1]; rfl
  · unfold putLast; rw [h2]; rfl
theorem sAB_of (w : World) : BS (w.alloc (.cells #[.int .u8 97, .int .u8 98] 5 (2, 3))) (some ⟨w.heap.size, 0, none⟩) sAB :=
  bs_const w _ _ _ fun i hi => by
    match i, hi with
    | 0, _ => rfl
    | 1, _ => rfl
theorem sC_of (w : World) : BS (w.alloc (.cells #[.int .u8 99] 5 (1, 2))) (some ⟨w.heap.size, 0, none⟩) sC :=
  bs_const w _ _ _ fun i hi => by
    match i, hi with
    | 0, _ => rfl
theorem full_abc : Full [(5, sABC)] := by
  intro p hp
  simp at hp
  subst hp
  decide
theorem row_view {w : World} {v : Value} {ps : List Pc} (hq : QRow w 0 37 2 v ps.length (cells ps)) :
    ∃ A cap, v = .slice A ps.length cap ∧ ps.length ≤ cap ∧ ps.length ≤ 9223372036854775807 ∧
      (ps ≠ [] → ∃ g o, A = some ⟨g, o, none⟩ ∧ ∀ j p, ps[j]? = some p → w.cell? ⟨g, o + j * 2, none⟩ = some (.int .i64 p.1) ∧ w.cell? ⟨g, o + j * 2 + 1, none⟩ = some (.string p.2)) := by
  obtain ⟨A, c, rfl, hc⟩ := q_slice hq
  refine ⟨A, c, rfl, hc, q_max hq, fun hne => ?_⟩
  have hn : 0 < ps.length := List.length_pos_iff.2 hne
  rcases hq.2 with ⟨h0, _⟩ | ⟨g, off, cap, cur, he, hg, hh, hnc, hm, hcs, ht⟩
  · omega
  · injection he with ha _ hc'
    obtain ⟨ad, hA, hat⟩ := q_cells hq hn
    rw [ha] at hA
    injection hA with hA
    refine ⟨g, off * 2, ha, fun j p hj => ?_⟩
    obtain ⟨c0, c1⟩ := cells_at ps j p hj
    have h0 := hat _ _ c0
    have h1 := hat _ _ c1
    rw [← hA, add_at] at h0 h1
    exact ⟨h0, h1⟩
theorem alive_any (w : World) : Calls Try.prog 12 #[] w fun e w' => e = .returned (.bool true) ∧ Below w.heap.size w w' := by
  go_enter Try.func12, Try.ntmps12
  go_wp2_with fail
  refine (new_any _).mono ?_
  rintro e w0 ⟨b, F, rfl, hC, hF, hB⟩
  have hH := Lib.hid (show CG w0 F b [] 0 ∧ (∀ k, F k → w.heap.size ≤ k) ∧ Below w.heap.size w w0 from ⟨hC, hF, hB⟩)
  clear hC hF hB
  have k1 := Lib.run_convert_bytes_const (P := Try.prog) w0 31 5 #[.int .u8 97, .int .u8 98] 2 2 Try.underlying31 Try.underlying5
  go_wp2_with fail
  refine (put_any 5 _ 2 sAB (hH.out.1.below ((Below.refl w0.heap.size w0).alloc (Nat.le_refl _) _)) (sAB_of w0) (by decide) (by decide)).mono ?_
  rintro e w1 ⟨rfl, F1, hC, hD, hS⟩
  rw [alive_e1.1, alive_e2.1, alive_e5.1] at hC
  rw [alive_e1.1]
  have hH1 := Lib.hid (show CG w1 F1 b [(5, sAB)] 5 ∧ (∀ k, F1 k → w.heap.size ≤ k) ∧ Below w.heap.size w w1 from ⟨hC, fun k hk => by
      have := hH.out.2.2.size
      rcases hS k hk with h | h
      · exact hH.out.2.1 k h
      · simp at h; omega, hH.out.2.2.trans (((Did.of_below (F := F) ((Below.refl w0.heap.size w0).alloc (Nat.le_refl _) _)).trans (Stem.refl _ _) hD).below hH.out.2.2.size hH.out.2.1)⟩)
  clear hC hD hS k1 hH
  have k2 := Lib.run_convert_bytes_const (P := Try.prog) w1 31 5 #[.int .u8 99] 1 1 Try.underlying31 Try.underlying5
  go_wp2_with fail
  refine (put_any 3 _ 1 sC (hH1.out.1.below ((Below.refl w1.heap.size w1).alloc (Nat.le_refl _) _)) (sC_of w1) (by decide) (by decide)).mono ?_
  rintro e w2 ⟨rfl, F2, hC, hD, hS⟩
  rw [alive_e1.2, alive_e2.2, alive_e5.2] at hC
  rw [alive_e1.2]
  have hH2 := Lib.hid (show CG w2 F2 b [(5, sABC)] 5 ∧ (∀ k, F2 k → w.heap.size ≤ k) ∧ Below w.heap.size w w2 from ⟨hC, fun k hk => by
      have := hH1.out.2.2.size
      rcases hS k hk with h | h
      · exact hH1.out.2.1 k h
      · simp at h; omega, hH1.out.2.2.trans (((Did.of_below (F := F1) ((Below.refl w1.heap.size w1).alloc (Nat.le_refl _) _)).trans (Stem.refl _ _) hD).below hH1.out.2.2.size hH1.out.2.1)⟩)
  clear hC hD hS k2 hH1
  go_wp2_with fail
  refine (take_any 4 9 hH2.out.1 full_abc (by decide)).mono ?_
  rintro e w3 ⟨A3, c3, rfl, -, hC, hD⟩
  rw [alive_e3.1, takeP_zero] at hC ⊢
  have hH3 := Lib.hid (show CG w3 F2 b [(5, sABC)] 5 ∧ (∀ k, F2 k → w.heap.size ≤ k) ∧ Below w.heap.size w w3 from ⟨hC, hH2.out.2.1, hH2.out.2.2.trans (hD.below hH2.out.2.2.size hH2.out.2.1)⟩)
  clear hC hD hH2
  go_wp2_with fail
  refine (take_any 5 2 hH3.out.1 full_abc (by decide)).mono ?_
  rintro e w4 ⟨A4, c4, rfl, hS4, hC, hD⟩
  rw [alive_e3.2, alive_e4] at hC hS4 ⊢
  have hH4 := Lib.hid (show CG w4 F2 b [(5, sC)] 5 ∧ (∀ k, F2 k → w.heap.size ≤ k) ∧ Below w.heap.size w w4 ∧ BS w4 A4 sAB from ⟨hC, hH3.out.2.1, hH3.out.2.2.trans (hD.below hH3.out.2.2.size hH3.out.2.1), hS4⟩)
  clear hC hD hS4 hH3
  go_wp2_with fail
  refine (list_any hH4.out.1 (by decide)).mono ?_
  rintro e w5 ⟨v5, rfl, hF5⟩
  obtain ⟨A5, c5, rfl, _, _, hA5⟩ := row_view hF5.1
  obtain ⟨g5, o5, rfl, hc5⟩ := hA5 (by simp)
  obtain ⟨d0, d1⟩ := hc5 0 (5, sC) rfl
  rw [Nat.zero_mul, Nat.add_zero] at d0 d1
  have hcv : (convert 31 9 (.slice A4 sAB.size c4)).run Try.prog w5 = .ok (.string ⟨#[97, 98]⟩) w5 := conv_bytes c4 (hH4.out.2.2.2.below hF5.2.2)
  have hH5 := Lib.hid (show CG w5 F2 b [(5, sC)] 5 ∧ Below w.heap.size w w5 from ⟨hH4.out.1.below hF5.2.2, hH4.out.2.2.1.trans (hF5.2.2.mono hH4.out.2.2.1.size)⟩)
  clear hF5 hA5 hc5 hH4
  have he := fun W => eql_piece W 5 5 sC ⟨#[99]⟩
  have hg := eqguard_piece
  unfold sC at d1 he
  go_wp2_with (first
    | (go_at_call 15; (with_reducible refine (len_any hH5.out.1 (by decide)).mono ?_); rintro e w6 ⟨rfl, hB6⟩; have hC6 := Lib.hid (hH5.out.1.below hB6); have hB6' := Lib.hid hB6; clear hB6)
    | (go_at_call 17; (with_reducible refine (last_any hC6.out).mono ?_); rintro e w7 ⟨rfl, rfl⟩))
  go_ret
  exact ⟨by simp, hH5.out.2.trans (hB6'.out.mono hH5.out.2.size)⟩
end Go.Proofs.Ytcoennfpaimclaa.Cargo
