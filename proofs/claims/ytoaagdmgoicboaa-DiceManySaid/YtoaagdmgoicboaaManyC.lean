/- The law DiceMany returns true. Conditions: the numbers are of their kinds. -/
import Derived.Test.YtoaagdmgoicboaaManyB
namespace Go.Proofs.Ytoaagdmgoicboaa.Many
open Go.RowKit Mix Times Ref02 Dice Law02
set_option maxRecDepth 100000
set_option linter.unusedVariables false
set_option linter.unusedSimpArgs false

theorem law_low (s n : Int) (w : World) (h0 : 0 ≤ s) (h1 : s < 18446744073709551616) (hn : n < 0) :
    Calls Try.prog 4 #[.int .u64 s, .int .i64 n] w fun e w' => e = .returned (.bool true) ∧ Below w.heap.size w w' := by
  have hget := vals_get s 0
  go_enter Try.func4, Try.ntmps4
  go_wp2_with fail
  refine (many_low s n _ hn).mono ?_
  rintro e w1 ⟨v, rfl, hrow, hB⟩
  obtain ⟨hl1, hform⟩ := hrow
  have hform2 : ∃ a cap, v = .slice a 0 cap ∧ (0 < 0 → ∃ g, a = some ⟨g, 0, none⟩ ∧ ∀ j, j < 0 → w1.cell? ⟨g, j, none⟩ = some (.int .u64 (mixI (steps (j + 1) s)))) := by
    rcases hform with ⟨rfl, h0⟩ | ⟨g, cap, cur, rfl, hg, hh, hn, hcap, hsz, htake⟩
    · exact ⟨none, 0, by first | rfl | (rw [h0]), fun h => absurd h (by omega)⟩
    · refine ⟨_, cap, rfl, fun _ => ⟨g, rfl, fun j hj => ?_⟩⟩
      have e1 : (cur.toList.take (0 * 1))[j]? = some (.int .u64 (mixI (steps (j + 1) s))) := by
        rw [htake, List.getElem?_map, hget j hj]; rfl
      rw [List.getElem?_take, if_pos (by omega)] at e1
      simp only [World.cell?, hh]
      simp at e1; exact e1
  clear hform hl1 hget
  obtain ⟨a, cap, rfl, hcell⟩ := hform2
  go_wp2
  go_loopw [0, 8, 9, 25] (fun s' _ _ i wr => ∃ k : Nat, k ≤ 0 ∧ i = .int .i64 k ∧ s' = .int .u64 (steps k s) ∧ Below w.heap.size w wr ∧ Below w1.heap.size w1 wr) (fun _ _ _ i _ => 0 - (intOf i).toNat)
  case atStart => exact ⟨0, by omega, rfl, rfl, hB, Below.refl _ _⟩
  case round =>
    obtain ⟨k, hk, rfl, rfl, hB0, hB1⟩ := hrel
    by_cases hlt : k < 0
    · omega
    · obtain rfl : k = 0 := by omega
      go_wp2_with fail
      refine (alive_any _).mono ?_
      rintro e w2 ⟨rfl, hb2⟩
      go_wp2
      go_ret
      exact ⟨by simp, hB0.trans (hb2.mono hB0.size)⟩
theorem law_mid (s n : Int) (w : World) (h0 : 0 ≤ s) (h1 : s < 18446744073709551616) (c : Nat) (hn : c ≤ 1000) :
    Calls Try.prog 4 #[.int .u64 s, .int .i64 c] w fun e w' => e = .returned (.bool true) ∧ Below w.heap.size w w' := by
  have hget := vals_get s c
  go_enter Try.func4, Try.ntmps4
  go_wp2_with fail
  refine (many_mid s n _ c hn).mono ?_
  rintro e w1 ⟨v, rfl, hrow, hB⟩
  obtain ⟨hl1, hform⟩ := hrow
  have hform2 : ∃ a cap, v = .slice a c cap ∧ (0 < c → ∃ g, a = some ⟨g, 0, none⟩ ∧ ∀ j, j < c → w1.cell? ⟨g, j, none⟩ = some (.int .u64 (mixI (steps (j + 1) s)))) := by
    rcases hform with ⟨rfl, h0⟩ | ⟨g, cap, cur, rfl, hg, hh, hn, hcap, hsz, htake⟩
    · exact ⟨none, 0, by first | rfl | (rw [h0]), fun h => absurd h (by omega)⟩
    · refine ⟨_, cap, rfl, fun _ => ⟨g, rfl, fun j hj => ?_⟩⟩
      have e1 : (cur.toList.take (c * 1))[j]? = some (.int .u64 (mixI (steps (j + 1) s))) := by
        rw [htake, List.getElem?_map, hget j hj]; rfl
      rw [List.getElem?_take, if_pos (by omega)] at e1
      simp only [World.cell?, hh]
      simp at e1; exact e1
  clear hform hl1 hget
  obtain ⟨a, cap, rfl, hcell⟩ := hform2
  go_wp2
  go_loopw [0, 8, 9, 25] (fun s' _ _ i wr => ∃ k : Nat, k ≤ c ∧ i = .int .i64 k ∧ s' = .int .u64 (steps k s) ∧ Below w.heap.size w wr ∧ Below w1.heap.size w1 wr) (fun _ _ _ i _ => c - (intOf i).toNat)
  case atStart => exact ⟨0, by omega, rfl, rfl, hB, Below.refl _ _⟩
  case round =>
    obtain ⟨k, hk, rfl, rfl, hB0, hB1⟩ := hrel
    by_cases hlt : k < c
    · obtain ⟨g, rfl, hc⟩ := hcell (by omega)
      have hck := hc k hlt
      have hgl : g < w1.heap.size := World.block_lt_of_cell? w1 _ hck
      have hcr : wr.cell? ⟨g, k, none⟩ = some (.int .u64 (mixI (steps (k + 1) s))) := (hB1.cell (p := ⟨g, k, none⟩) hgl).trans hck
      clear hc hcell hck
      have b1 := steps_bd k s ⟨h0, h1⟩
      have b2 := steps_bd (k + 1) s ⟨h0, h1⟩
      have hst := Lib.hid (show stepI (steps k s) = steps (k + 1) s from rfl)
      go_wp2_with fail
      refine (Ref02.step_any _ _ b1.1 b1.2).mono ?_
      rintro e w' ⟨rfl, rfl⟩
      rw [hst.out]
      go_wp2_with fail
      refine (Ref02.mix_any _ _ b2.1 b2.2).mono ?_
      rintro e w2 ⟨rfl, hb2⟩
      go_wp2
      go_roundw
      case rel => exact ⟨k + 1, by omega, by go_num, rfl, hB0.trans (hb2.mono hB0.size), hB1.trans (hb2.mono hB1.size)⟩
      case measure => simp [intOf]; omega
    · obtain rfl : k = c := by omega
      go_wp2_with fail
      refine (alive_any _).mono ?_
      rintro e w2 ⟨rfl, hb2⟩
      go_wp2
      go_ret
      exact ⟨by simp, hB0.trans (hb2.mono hB0.size)⟩
theorem law_top (s n : Int) (w : World) (h0 : 0 ≤ s) (h1 : s < 18446744073709551616) (hn : 1000 < n) :
    Calls Try.prog 4 #[.int .u64 s, .int .i64 n] w fun e w' => e = .returned (.bool true) ∧ Below w.heap.size w w' := by
  have hget := vals_get s 1000
  go_enter Try.func4, Try.ntmps4
  go_wp2_with fail
  refine (many_top s n _ hn).mono ?_
  rintro e w1 ⟨v, rfl, hrow, hB⟩
  obtain ⟨hl1, hform⟩ := hrow
  have hform2 : ∃ a cap, v = .slice a 1000 cap ∧ (0 < 1000 → ∃ g, a = some ⟨g, 0, none⟩ ∧ ∀ j, j < 1000 → w1.cell? ⟨g, j, none⟩ = some (.int .u64 (mixI (steps (j + 1) s)))) := by
    rcases hform with ⟨rfl, h0⟩ | ⟨g, cap, cur, rfl, hg, hh, hn, hcap, hsz, htake⟩
    · exact ⟨none, 0, by first | rfl | (rw [h0]), fun h => absurd h (by omega)⟩
    · refine ⟨_, cap, rfl, fun _ => ⟨g, rfl, fun j hj => ?_⟩⟩
      have e1 : (cur.toList.take (1000 * 1))[j]? = some (.int .u64 (mixI (steps (j + 1) s))) := by
        rw [htake, List.getElem?_map, hget j hj]; rfl
      rw [List.getElem?_take, if_pos (by omega)] at e1
      simp only [World.cell?, hh]
      simp at e1; exact e1
  clear hform hl1 hget
  obtain ⟨a, cap, rfl, hcell⟩ := hform2
  go_wp2
  go_loopw [0, 8, 9, 25] (fun s' _ _ i wr => ∃ k : Nat, k ≤ 1000 ∧ i = .int .i64 k ∧ s' = .int .u64 (steps k s) ∧ Below w.heap.size w wr ∧ Below w1.heap.size w1 wr) (fun _ _ _ i _ => 1000 - (intOf i).toNat)
  case atStart => exact ⟨0, by omega, rfl, rfl, hB, Below.refl _ _⟩
  case round =>
    obtain ⟨k, hk, rfl, rfl, hB0, hB1⟩ := hrel
    by_cases hlt : k < 1000
    · obtain ⟨g, rfl, hc⟩ := hcell (by omega)
      have hck := hc k hlt
      have hgl : g < w1.heap.size := World.block_lt_of_cell? w1 _ hck
      have hcr : wr.cell? ⟨g, k, none⟩ = some (.int .u64 (mixI (steps (k + 1) s))) := (hB1.cell (p := ⟨g, k, none⟩) hgl).trans hck
      clear hc hcell hck
      have b1 := steps_bd k s ⟨h0, h1⟩
      have b2 := steps_bd (k + 1) s ⟨h0, h1⟩
      have hst := Lib.hid (show stepI (steps k s) = steps (k + 1) s from rfl)
      go_wp2_with fail
      refine (Ref02.step_any _ _ b1.1 b1.2).mono ?_
      rintro e w' ⟨rfl, rfl⟩
      rw [hst.out]
      go_wp2_with fail
      refine (Ref02.mix_any _ _ b2.1 b2.2).mono ?_
      rintro e w2 ⟨rfl, hb2⟩
      go_wp2
      go_roundw
      case rel => exact ⟨k + 1, by omega, by go_num, rfl, hB0.trans (hb2.mono hB0.size), hB1.trans (hb2.mono hB1.size)⟩
      case measure => simp [intOf]; omega
    · obtain rfl : k = 1000 := by omega
      go_wp2_with fail
      refine (alive_any _).mono ?_
      rintro e w2 ⟨rfl, hb2⟩
      go_wp2
      go_ret
      exact ⟨by simp, hB0.trans (hb2.mono hB0.size)⟩
theorem law_any (s n : Int) (w : World) (h0 : 0 ≤ s) (h1 : s < 18446744073709551616) :
    Calls Try.prog 4 #[.int .u64 s, .int .i64 n] w fun e w' => e = .returned (.bool true) ∧ Below w.heap.size w w' := by
  by_cases hl : n < 0
  · exact law_low s n w h0 h1 hl
  · by_cases h2 : 1000 < n
    · exact law_top s n w h0 h1 h2
    · obtain ⟨c, rfl⟩ := Int.eq_ofNat_of_zero_le (by omega : 0 ≤ n)
      exact law_mid s 0 w h0 h1 c (by omega)
end Go.Proofs.Ytoaagdmgoicboaa.Many
