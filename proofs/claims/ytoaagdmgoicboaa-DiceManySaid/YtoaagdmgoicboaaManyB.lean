/- The program's dice.Many: its contract; the law DiceMany. Conditions: the numbers are of their kinds. -/
import Derived.Test.YtoaagdmgoicboaaLaw02
import Derived.Maps.AppendAt
import Derived.OwnWalk
import Derived.Laws.OwnMore
namespace Go.Proofs.Ytoaagdmgoicboaa.Many
open Go.RowKit Mix Times Ref02 Dice Law02
set_option maxRecDepth 100000
set_option linter.unusedVariables false
set_option linter.unusedSimpArgs false

def vals (s : Int) : Nat → List Int
  | 0 => []
  | n + 1 => vals s n ++ [mixI (steps (n + 1) s)]
theorem vals_length (s : Int) (n : Nat) : (vals s n).length = n := by
  induction n with
  | zero => rfl
  | succ n ih => simp [vals, ih]
theorem vals_get (s : Int) (n j : Nat) (h : j < n) : (vals s n)[j]? = some (mixI (steps (j + 1) s)) := by
  induction n with
  | zero => omega
  | succ n ih =>
    by_cases e : j < n
    · rw [vals, List.getElem?_append_left (by rw [vals_length]; exact e)]; exact ih e
    · obtain rfl : j = n := by omega
      rw [vals, List.getElem?_append_right (by rw [vals_length]; omega), vals_length]; simp

theorem info22 : (Try.prog.info? 22).map (fun i => (i.zero, i.size, i.bytes)) = some (some (.int .u64 0), 1, 8) := by kernel_rfl

def cnt (n : Int) : Nat := (min (max n 0) 1000).toNat

theorem ownsRow_block_le {w : World} {base e sz n b : Nat} {v : Value} {xs : List Value} (h : w.ownsRow base e sz v n xs) (hb : some b = v.ownBlock ∨ v.ownBlock = some b) : base ≤ b := by
  obtain ⟨_, ⟨rfl, _⟩ | ⟨g, cap, cur, rfl, hg, _⟩⟩ := h
  · simp [Value.ownBlock] at hb
  · simp [Value.ownBlock] at hb
    omega

theorem many_low (s n : Int) (w : World) (hn : n < 0) :
    Calls Try.prog 16 #[.int .u64 s, .int .i64 n] w fun e w' => ∃ v, e = .returned (.tuple #[v, .int .u64 (steps 0 s)]) ∧ w'.ownsRow w.heap.size 22 1 v 0 ((vals s 0).map (Value.int .u64)) ∧ Below w.heap.size w w' := by
  obtain ⟨i0, hi, hz0, hz1, hz2⟩ := info_parts info22
  go_enter Try.func16, Try.ntmps16
  go_wp2
  go_loopw [0, 6, 7, 8, 12] (fun s' v _ _ i wr => ∃ k : Nat, k ≤ 0 ∧ i = .int .i64 k ∧ s' = .int .u64 (steps k s) ∧ wr.ownsRow w.heap.size 22 1 v k ((vals s k).map (Value.int .u64)) ∧ Below w.heap.size w wr) (fun _ _ _ _ i _ => 0 - (intOf i).toNat)
  case atStart => exact ⟨0, by omega, rfl, rfl, World.ownsRow_nil _ _ _ _, Below.refl _ _⟩
  case round =>
    obtain ⟨k, hk, rfl, rfl, hrow, hB⟩ := hrel
    by_cases hlt : k < 0
    · omega
    · obtain rfl : k = 0 := by omega
      go_wp2
      go_ret2
      exact ⟨_, rfl, hrow, hB⟩

theorem many_mid (s n : Int) (w : World) (c : Nat) (hn : c ≤ 1000) :
    Calls Try.prog 16 #[.int .u64 s, .int .i64 c] w fun e w' => ∃ v, e = .returned (.tuple #[v, .int .u64 (steps c s)]) ∧ w'.ownsRow w.heap.size 22 1 v c ((vals s c).map (Value.int .u64)) ∧ Below w.heap.size w w' := by
  obtain ⟨i0, hi, hz0, hz1, hz2⟩ := info_parts info22
  go_enter Try.func16, Try.ntmps16
  go_wp2
  go_loopw [0, 6, 7, 8, 12] (fun s' v _ _ i wr => ∃ k : Nat, k ≤ c ∧ i = .int .i64 k ∧ s' = .int .u64 (steps k s) ∧ wr.ownsRow w.heap.size 22 1 v k ((vals s k).map (Value.int .u64)) ∧ Below w.heap.size w wr) (fun _ _ _ _ i _ => c - (intOf i).toNat)
  case atStart => exact ⟨0, by omega, rfl, rfl, World.ownsRow_nil _ _ _ _, Below.refl _ _⟩
  case round =>
    obtain ⟨k, hk, rfl, rfl, hrow, hB⟩ := hrel
    by_cases hlt : k < c
    · go_wp2_with fail
      refine (next_any _ _).mono ?_
      rintro e w' ⟨rfl, rfl⟩
      go_wp2_with (at_builtin; refine wpList_append_own _ rfl _ _ 29 rfl w.heap.size 22 i0 (.int .u64 0) 1 8 Try.underlying29 hi hz0 hz1 hz2 rfl (by decide) _ _ _ rfl (hrow.alloc _) ⟨wr.heap.size, 0, none⟩ 1 1 [.int .u64 (mixI (stepI (steps k s)))] rfl rfl (cell_one_new _ _ _) (by simp [Value.oneCell']) (by unfold maxLen; omega) (by omega) (by have := hB.size; simp; omega) ?_; intro v' w1 hown' hgrow _)
      have hB1 := (hB.alloc hB.size (.cells #[.int .u64 (mixI (stepI (steps k s)))] 22)).grown hgrow (by have := hB.size; simp; omega) (fun b e => ownsRow_block_le hrow (.inr e))
      go_roundw
      case rel => exact ⟨k + 1, by omega, by go_num, rfl, by rw [vals, List.map_append]; exact hown', hB1⟩
      case measure => simp [intOf]; omega
    · obtain rfl : k = c := by omega
      go_wp2
      go_ret2
      exact ⟨_, rfl, hrow, hB⟩

theorem many_top (s n : Int) (w : World) (hn : 1000 < n) :
    Calls Try.prog 16 #[.int .u64 s, .int .i64 n] w fun e w' => ∃ v, e = .returned (.tuple #[v, .int .u64 (steps 1000 s)]) ∧ w'.ownsRow w.heap.size 22 1 v 1000 ((vals s 1000).map (Value.int .u64)) ∧ Below w.heap.size w w' := by
  obtain ⟨i0, hi, hz0, hz1, hz2⟩ := info_parts info22
  go_enter Try.func16, Try.ntmps16
  go_wp2
  go_loopw [0, 6, 7, 8, 12] (fun s' v _ _ i wr => ∃ k : Nat, k ≤ 1000 ∧ i = .int .i64 k ∧ s' = .int .u64 (steps k s) ∧ wr.ownsRow w.heap.size 22 1 v k ((vals s k).map (Value.int .u64)) ∧ Below w.heap.size w wr) (fun _ _ _ _ i _ => 1000 - (intOf i).toNat)
  case atStart => exact ⟨0, by omega, rfl, rfl, World.ownsRow_nil _ _ _ _, Below.refl _ _⟩
  case round =>
    obtain ⟨k, hk, rfl, rfl, hrow, hB⟩ := hrel
    by_cases hlt : k < 1000
    · go_wp2_with fail
      refine (next_any _ _).mono ?_
      rintro e w' ⟨rfl, rfl⟩
      go_wp2_with (at_builtin; refine wpList_append_own _ rfl _ _ 29 rfl w.heap.size 22 i0 (.int .u64 0) 1 8 Try.underlying29 hi hz0 hz1 hz2 rfl (by decide) _ _ _ rfl (hrow.alloc _) ⟨wr.heap.size, 0, none⟩ 1 1 [.int .u64 (mixI (stepI (steps k s)))] rfl rfl (cell_one_new _ _ _) (by simp [Value.oneCell']) (by unfold maxLen; omega) (by omega) (by have := hB.size; simp; omega) ?_; intro v' w1 hown' hgrow _)
      have hB1 := (hB.alloc hB.size (.cells #[.int .u64 (mixI (stepI (steps k s)))] 22)).grown hgrow (by have := hB.size; simp; omega) (fun b e => ownsRow_block_le hrow (.inr e))
      go_roundw
      case rel => exact ⟨k + 1, by omega, by go_num, rfl, by rw [vals, List.map_append]; exact hown', hB1⟩
      case measure => simp [intOf]; omega
    · obtain rfl : k = 1000 := by omega
      go_wp2
      go_ret2
      exact ⟨_, rfl, hrow, hB⟩

theorem many_any (s n : Int) (w : World) :
    Calls Try.prog 16 #[.int .u64 s, .int .i64 n] w fun e w' => ∃ v, e = .returned (.tuple #[v, .int .u64 (steps (cnt n) s)]) ∧ w'.ownsRow w.heap.size 22 1 v (cnt n) ((vals s (cnt n)).map (Value.int .u64)) ∧ Below w.heap.size w w' := by
  by_cases h1 : n < 0
  · have : cnt n = 0 := by unfold cnt; omega
    rw [this]; exact many_low s n w h1
  · by_cases h2 : 1000 < n
    · have : cnt n = 1000 := by unfold cnt; omega
      rw [this]; exact many_top s n w h2
    · obtain ⟨c, rfl⟩ := Int.eq_ofNat_of_zero_le (by omega : 0 ≤ n)
      have : cnt (c : Int) = c := by unfold cnt; omega
      rw [this]; exact many_mid s 0 w c (by omega)
end Go.Proofs.Ytoaagdmgoicboaa.Many
