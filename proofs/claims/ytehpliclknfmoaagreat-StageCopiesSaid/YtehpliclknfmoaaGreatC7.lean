/- The program's buckets (chapter 08): each function's contract. Conditions: the numbers are of their kinds. -/
import Derived.Test.YtehpliclknfmoaaGreatC6
import Derived.Test.YtehpliclknfmoaaGreatC3
namespace Go.Proofs.YtehpliclknfmoaaGreat.Bucket
open Go.RowKit Tick
set_option maxRecDepth 100000
set_option linter.unusedVariables false
set_option linter.unusedSimpArgs false

def Ok (r b l t : Int) : Prop := (0 ≤ r ∧ r ≤ 1099511627776) ∧ (0 ≤ b ∧ b ≤ 1099511627776) ∧ (0 ≤ l ∧ l ≤ 1099511627776) ∧ (0 ≤ t ∧ t ≤ 1099511627776) ∧ 0 < b ∧ l ≤ b
instance (r b l t : Int) : Decidable (Ok r b l t) := by unfold Ok; infer_instance
def okB (r b l t : Int) : Bool := decide (Ok r b l t)
def el (r b l t : Int) : Nat → Int | 0 => r | 1 => b | 2 => l | _ => t
theorem ok_el {r b l t : Int} (h : Ok r b l t) (j : Nat) : rightB (el r b l t j) = true := by
  obtain ⟨h1, h2, h3, h4, _⟩ := h
  unfold el rightB
  split <;> exact decide_eq_true (by assumption)


theorem right_yes (r b l t : Int) (w : World) (h1 : 0 < b) (h2 : l ≤ b) :
    Calls Tryz.prog 40 #[.agg #[.int .i64 r, .int .i64 b, .int .i64 l, .int .i64 t]] w fun e w' => e = .returned (.bool (okB r b l t)) ∧ Below w.heap.size w w' := by
  have hb0 : ¬ b = 0 := by omega
  go_enter Tryz.func40, Tryz.ntmps40
  go_wp2
  go_step3
  go_wp2
  go_step3
  go_wp2
  have hB1 : Below w.heap.size w (w.alloc (.cells #[.int .i64 r, .int .i64 b, .int .i64 l, .int .i64 t] 57)) := (Below.refl _ _).alloc (Nat.le_refl _) _
  go_loopw [3, 5, 25] (fun g _ i wr => ∃ k : Nat, k ≤ 4 ∧ i = .int .i64 k ∧ g = .bool true ∧ Hid (∀ j, j < k → rightB (el r b l t j) = true) ∧ wr = w.alloc (.cells #[.int .i64 r, .int .i64 b, .int .i64 l, .int .i64 t] 57)) (fun _ _ i _ => 4 - (intOf i).toNat)
  case atStart => exact ⟨0, by omega, rfl, rfl, Lib.hid (fun j hj => absurd hj (by omega)), rfl⟩
  case round =>
    obtain ⟨k, hk, rfl, rfl, hr, rfl⟩ := hrel
    by_cases hlt : k < 4
    · have hc : k = 0 ∨ k = 1 ∨ k = 2 ∨ k = 3 := by omega
      clear hk hlt
      rcases hc with rfl | rfl | rfl | rfl
      · have i0 : ∀ W : World, (Instr.index 106 (.agg #[.int .i64 r, .int .i64 b, .int .i64 l, .int .i64 t]) (.int .i64 0)).run Tryz.prog W = .ok (.int .i64 r) W := fun _ => by kernel_rfl
        cases hv : rightB r with
        | true =>
          have hr' := Lib.hid (show ∀ j, j < 1 → rightB (el r b l t j) = true from fun j hj => by
            by_cases e : j < 0
            · exact hr.out j e
            · obtain rfl : j = 0 := by omega
              exact hv)
          clear hr
          go_wp2_with fail
          refine (right_any r _).mono ?_
          rintro e w' ⟨rfl, rfl⟩
          rw [hv]
          clear hv
          go_wp2
          go_roundw
          case rel => exact ⟨1, by omega, rfl, rfl, hr', trivial⟩
          case measure => simp [intOf]
        | false =>
          have hd := Lib.hid (show okB r b l t = false from decide_eq_false fun h => by have := ok_el h 0; simp only [el] at this; rw [hv] at this; cases this)
          clear hr
          go_wp2_with fail
          refine (right_any r _).mono ?_
          rintro e w' ⟨rfl, rfl⟩
          rw [hv]
          clear hv
          go_wp2
          rw [Exit.noGoto_ret]
          go_ret
          exact ⟨by rw [hd.out]; rfl, hB1⟩
      · have i0 : ∀ W : World, (Instr.index 106 (.agg #[.int .i64 r, .int .i64 b, .int .i64 l, .int .i64 t]) (.int .i64 1)).run Tryz.prog W = .ok (.int .i64 b) W := fun _ => by kernel_rfl
        cases hv : rightB b with
        | true =>
          have hr' := Lib.hid (show ∀ j, j < 2 → rightB (el r b l t j) = true from fun j hj => by
            by_cases e : j < 1
            · exact hr.out j e
            · obtain rfl : j = 1 := by omega
              exact hv)
          clear hr
          go_wp2_with fail
          refine (right_any b _).mono ?_
          rintro e w' ⟨rfl, rfl⟩
          rw [hv]
          clear hv
          go_wp2
          go_roundw
          case rel => exact ⟨2, by omega, rfl, rfl, hr', trivial⟩
          case measure => simp [intOf]
        | false =>
          have hd := Lib.hid (show okB r b l t = false from decide_eq_false fun h => by have := ok_el h 1; simp only [el] at this; rw [hv] at this; cases this)
          clear hr
          go_wp2_with fail
          refine (right_any b _).mono ?_
          rintro e w' ⟨rfl, rfl⟩
          rw [hv]
          clear hv
          go_wp2
          rw [Exit.noGoto_ret]
          go_ret
          exact ⟨by rw [hd.out]; rfl, hB1⟩
      · have i0 : ∀ W : World, (Instr.index 106 (.agg #[.int .i64 r, .int .i64 b, .int .i64 l, .int .i64 t]) (.int .i64 2)).run Tryz.prog W = .ok (.int .i64 l) W := fun _ => by kernel_rfl
        cases hv : rightB l with
        | true =>
          have hr' := Lib.hid (show ∀ j, j < 3 → rightB (el r b l t j) = true from fun j hj => by
            by_cases e : j < 2
            · exact hr.out j e
            · obtain rfl : j = 2 := by omega
              exact hv)
          clear hr
          go_wp2_with fail
          refine (right_any l _).mono ?_
          rintro e w' ⟨rfl, rfl⟩
          rw [hv]
          clear hv
          go_wp2
          go_roundw
          case rel => exact ⟨3, by omega, rfl, rfl, hr', trivial⟩
          case measure => simp [intOf]
        | false =>
          have hd := Lib.hid (show okB r b l t = false from decide_eq_false fun h => by have := ok_el h 2; simp only [el] at this; rw [hv] at this; cases this)
          clear hr
          go_wp2_with fail
          refine (right_any l _).mono ?_
          rintro e w' ⟨rfl, rfl⟩
          rw [hv]
          clear hv
          go_wp2
          rw [Exit.noGoto_ret]
          go_ret
          exact ⟨by rw [hd.out]; rfl, hB1⟩
      · have i0 : ∀ W : World, (Instr.index 106 (.agg #[.int .i64 r, .int .i64 b, .int .i64 l, .int .i64 t]) (.int .i64 3)).run Tryz.prog W = .ok (.int .i64 t) W := fun _ => by kernel_rfl
        cases hv : rightB t with
        | true =>
          have hr' := Lib.hid (show ∀ j, j < 4 → rightB (el r b l t j) = true from fun j hj => by
            by_cases e : j < 3
            · exact hr.out j e
            · obtain rfl : j = 3 := by omega
              exact hv)
          clear hr
          go_wp2_with fail
          refine (right_any t _).mono ?_
          rintro e w' ⟨rfl, rfl⟩
          rw [hv]
          clear hv
          go_wp2
          go_roundw
          case rel => exact ⟨4, by omega, rfl, rfl, hr', trivial⟩
          case measure => simp [intOf]
        | false =>
          have hd := Lib.hid (show okB r b l t = false from decide_eq_false fun h => by have := ok_el h 3; simp only [el] at this; rw [hv] at this; cases this)
          clear hr
          go_wp2_with fail
          refine (right_any t _).mono ?_
          rintro e w' ⟨rfl, rfl⟩
          rw [hv]
          clear hv
          go_wp2
          rw [Exit.noGoto_ret]
          go_ret
          exact ⟨by rw [hd.out]; rfl, hB1⟩
    · obtain rfl : k = 4 := by omega
      have hd := Lib.hid (show okB r b l t = true from decide_eq_true (by
        have a0 := hr.out 0 (by omega)
        have a1 := hr.out 1 (by omega)
        have a2 := hr.out 2 (by omega)
        have a3 := hr.out 3 (by omega)
        simp only [el, rightB, decide_eq_true_eq] at a0 a1 a2 a3
        exact ⟨a0, a1, a2, a3, h1, h2⟩))
      clear hr
      go_wp2
      rw [Exit.noGoto_ret]
      go_ret
      exact ⟨by rw [hd.out]; rfl, hB1⟩


theorem right_nil (r b l t : Int) (w : World) (h : b ≤ 0) :
    Calls Tryz.prog 40 #[.agg #[.int .i64 r, .int .i64 b, .int .i64 l, .int .i64 t]] w fun e w' => e = .returned (.bool (okB r b l t)) ∧ Below w.heap.size w w' := by
  go_enter Tryz.func40, Tryz.ntmps40
  go_wp2
  go_step3
  go_wp2
  go_step3
  go_wp2
  have hB1 : Below w.heap.size w (w.alloc (.cells #[.int .i64 r, .int .i64 b, .int .i64 l, .int .i64 t] 57)) := (Below.refl _ _).alloc (Nat.le_refl _) _
  go_loopw [3, 5, 25] (fun g _ i wr => ∃ k : Nat, k ≤ 4 ∧ i = .int .i64 k ∧ g = .bool false ∧ Hid (∀ j, j < k → rightB (el r b l t j) = true) ∧ wr = w.alloc (.cells #[.int .i64 r, .int .i64 b, .int .i64 l, .int .i64 t] 57)) (fun _ _ i _ => 4 - (intOf i).toNat)
  case atStart => exact ⟨0, by omega, rfl, rfl, Lib.hid (fun j hj => absurd hj (by omega)), rfl⟩
  case round =>
    obtain ⟨k, hk, rfl, rfl, hr, rfl⟩ := hrel
    by_cases hlt : k < 4
    · have hc : k = 0 ∨ k = 1 ∨ k = 2 ∨ k = 3 := by omega
      clear hk hlt
      rcases hc with rfl | rfl | rfl | rfl
      · have i0 : ∀ W : World, (Instr.index 106 (.agg #[.int .i64 r, .int .i64 b, .int .i64 l, .int .i64 t]) (.int .i64 0)).run Tryz.prog W = .ok (.int .i64 r) W := fun _ => by kernel_rfl
        cases hv : rightB r with
        | true =>
          have hr' := Lib.hid (show ∀ j, j < 1 → rightB (el r b l t j) = true from fun j hj => by
            by_cases e : j < 0
            · exact hr.out j e
            · obtain rfl : j = 0 := by omega
              exact hv)
          clear hr
          go_wp2_with fail
          refine (right_any r _).mono ?_
          rintro e w' ⟨rfl, rfl⟩
          rw [hv]
          clear hv
          go_wp2
          go_roundw
          case rel => exact ⟨1, by omega, rfl, rfl, hr', trivial⟩
          case measure => simp [intOf]
        | false =>
          have hd := Lib.hid (show okB r b l t = false from decide_eq_false fun h => by have := ok_el h 0; simp only [el] at this; rw [hv] at this; cases this)
          clear hr
          go_wp2_with fail
          refine (right_any r _).mono ?_
          rintro e w' ⟨rfl, rfl⟩
          rw [hv]
          clear hv
          go_wp2
          rw [Exit.noGoto_ret]
          go_ret
          exact ⟨by rw [hd.out]; rfl, hB1⟩
      · have i0 : ∀ W : World, (Instr.index 106 (.agg #[.int .i64 r, .int .i64 b, .int .i64 l, .int .i64 t]) (.int .i64 1)).run Tryz.prog W = .ok (.int .i64 b) W := fun _ => by kernel_rfl
        cases hv : rightB b with
        | true =>
          have hr' := Lib.hid (show ∀ j, j < 2 → rightB (el r b l t j) = true from fun j hj => by
            by_cases e : j < 1
            · exact hr.out j e
            · obtain rfl : j = 1 := by omega
              exact hv)
          clear hr
          go_wp2_with fail
          refine (right_any b _).mono ?_
          rintro e w' ⟨rfl, rfl⟩
          rw [hv]
          clear hv
          go_wp2
          go_roundw
          case rel => exact ⟨2, by omega, rfl, rfl, hr', trivial⟩
          case measure => simp [intOf]
        | false =>
          have hd := Lib.hid (show okB r b l t = false from decide_eq_false fun h => by have := ok_el h 1; simp only [el] at this; rw [hv] at this; cases this)
          clear hr
          go_wp2_with fail
          refine (right_any b _).mono ?_
          rintro e w' ⟨rfl, rfl⟩
          rw [hv]
          clear hv
          go_wp2
          rw [Exit.noGoto_ret]
          go_ret
          exact ⟨by rw [hd.out]; rfl, hB1⟩
      · have i0 : ∀ W : World, (Instr.index 106 (.agg #[.int .i64 r, .int .i64 b, .int .i64 l, .int .i64 t]) (.int .i64 2)).run Tryz.prog W = .ok (.int .i64 l) W := fun _ => by kernel_rfl
        cases hv : rightB l with
        | true =>
          have hr' := Lib.hid (show ∀ j, j < 3 → rightB (el r b l t j) = true from fun j hj => by
            by_cases e : j < 2
            · exact hr.out j e
            · obtain rfl : j = 2 := by omega
              exact hv)
          clear hr
          go_wp2_with fail
          refine (right_any l _).mono ?_
          rintro e w' ⟨rfl, rfl⟩
          rw [hv]
          clear hv
          go_wp2
          go_roundw
          case rel => exact ⟨3, by omega, rfl, rfl, hr', trivial⟩
          case measure => simp [intOf]
        | false =>
          have hd := Lib.hid (show okB r b l t = false from decide_eq_false fun h => by have := ok_el h 2; simp only [el] at this; rw [hv] at this; cases this)
          clear hr
          go_wp2_with fail
          refine (right_any l _).mono ?_
          rintro e w' ⟨rfl, rfl⟩
          rw [hv]
          clear hv
          go_wp2
          rw [Exit.noGoto_ret]
          go_ret
          exact ⟨by rw [hd.out]; rfl, hB1⟩
      · have i0 : ∀ W : World, (Instr.index 106 (.agg #[.int .i64 r, .int .i64 b, .int .i64 l, .int .i64 t]) (.int .i64 3)).run Tryz.prog W = .ok (.int .i64 t) W := fun _ => by kernel_rfl
        cases hv : rightB t with
        | true =>
          have hr' := Lib.hid (show ∀ j, j < 4 → rightB (el r b l t j) = true from fun j hj => by
            by_cases e : j < 3
            · exact hr.out j e
            · obtain rfl : j = 3 := by omega
              exact hv)
          clear hr
          go_wp2_with fail
          refine (right_any t _).mono ?_
          rintro e w' ⟨rfl, rfl⟩
          rw [hv]
          clear hv
          go_wp2
          go_roundw
          case rel => exact ⟨4, by omega, rfl, rfl, hr', trivial⟩
          case measure => simp [intOf]
        | false =>
          have hd := Lib.hid (show okB r b l t = false from decide_eq_false fun h => by have := ok_el h 3; simp only [el] at this; rw [hv] at this; cases this)
          clear hr
          go_wp2_with fail
          refine (right_any t _).mono ?_
          rintro e w' ⟨rfl, rfl⟩
          rw [hv]
          clear hv
          go_wp2
          rw [Exit.noGoto_ret]
          go_ret
          exact ⟨by rw [hd.out]; rfl, hB1⟩
    · obtain rfl : k = 4 := by omega
      have hd := Lib.hid (show okB r b l t = false from decide_eq_false (fun h' => by
        obtain ⟨_, _, _, _, a, b'⟩ := h'
        omega))
      clear hr
      go_wp2
      rw [Exit.noGoto_ret]
      go_ret
      exact ⟨by rw [hd.out]; rfl, hB1⟩


theorem right_over (r b l t : Int) (w : World) (h0 : 0 < b) (h : b < l) :
    Calls Tryz.prog 40 #[.agg #[.int .i64 r, .int .i64 b, .int .i64 l, .int .i64 t]] w fun e w' => e = .returned (.bool (okB r b l t)) ∧ Below w.heap.size w w' := by
  have hd0 : decide (l ≤ b) = false := decide_eq_false (by omega)
  go_enter Tryz.func40, Tryz.ntmps40
  go_wp2
  go_step3
  go_wp2
  go_step3
  go_wp2
  have hB1 : Below w.heap.size w (w.alloc (.cells #[.int .i64 r, .int .i64 b, .int .i64 l, .int .i64 t] 57)) := (Below.refl _ _).alloc (Nat.le_refl _) _
  go_loopw [3, 5, 25] (fun g _ i wr => ∃ k : Nat, k ≤ 4 ∧ i = .int .i64 k ∧ g = .bool false ∧ Hid (∀ j, j < k → rightB (el r b l t j) = true) ∧ wr = w.alloc (.cells #[.int .i64 r, .int .i64 b, .int .i64 l, .int .i64 t] 57)) (fun _ _ i _ => 4 - (intOf i).toNat)
  case atStart => exact ⟨0, by omega, rfl, rfl, Lib.hid (fun j hj => absurd hj (by omega)), rfl⟩
  case round =>
    obtain ⟨k, hk, rfl, rfl, hr, rfl⟩ := hrel
    by_cases hlt : k < 4
    · have hc : k = 0 ∨ k = 1 ∨ k = 2 ∨ k = 3 := by omega
      clear hk hlt
      rcases hc with rfl | rfl | rfl | rfl
      · have i0 : ∀ W : World, (Instr.index 106 (.agg #[.int .i64 r, .int .i64 b, .int .i64 l, .int .i64 t]) (.int .i64 0)).run Tryz.prog W = .ok (.int .i64 r) W := fun _ => by kernel_rfl
        cases hv : rightB r with
        | true =>
          have hr' := Lib.hid (show ∀ j, j < 1 → rightB (el r b l t j) = true from fun j hj => by
            by_cases e : j < 0
            · exact hr.out j e
            · obtain rfl : j = 0 := by omega
              exact hv)
          clear hr
          go_wp2_with fail
          refine (right_any r _).mono ?_
          rintro e w' ⟨rfl, rfl⟩
          rw [hv]
          clear hv
          go_wp2
          go_roundw
          case rel => exact ⟨1, by omega, rfl, rfl, hr', trivial⟩
          case measure => simp [intOf]
        | false =>
          have hd := Lib.hid (show okB r b l t = false from decide_eq_false fun h => by have := ok_el h 0; simp only [el] at this; rw [hv] at this; cases this)
          clear hr
          go_wp2_with fail
          refine (right_any r _).mono ?_
          rintro e w' ⟨rfl, rfl⟩
          rw [hv]
          clear hv
          go_wp2
          rw [Exit.noGoto_ret]
          go_ret
          exact ⟨by rw [hd.out]; rfl, hB1⟩
      · have i0 : ∀ W : World, (Instr.index 106 (.agg #[.int .i64 r, .int .i64 b, .int .i64 l, .int .i64 t]) (.int .i64 1)).run Tryz.prog W = .ok (.int .i64 b) W := fun _ => by kernel_rfl
        cases hv : rightB b with
        | true =>
          have hr' := Lib.hid (show ∀ j, j < 2 → rightB (el r b l t j) = true from fun j hj => by
            by_cases e : j < 1
            · exact hr.out j e
            · obtain rfl : j = 1 := by omega
              exact hv)
          clear hr
          go_wp2_with fail
          refine (right_any b _).mono ?_
          rintro e w' ⟨rfl, rfl⟩
          rw [hv]
          clear hv
          go_wp2
          go_roundw
          case rel => exact ⟨2, by omega, rfl, rfl, hr', trivial⟩
          case measure => simp [intOf]
        | false =>
          have hd := Lib.hid (show okB r b l t = false from decide_eq_false fun h => by have := ok_el h 1; simp only [el] at this; rw [hv] at this; cases this)
          clear hr
          go_wp2_with fail
          refine (right_any b _).mono ?_
          rintro e w' ⟨rfl, rfl⟩
          rw [hv]
          clear hv
          go_wp2
          rw [Exit.noGoto_ret]
          go_ret
          exact ⟨by rw [hd.out]; rfl, hB1⟩
      · have i0 : ∀ W : World, (Instr.index 106 (.agg #[.int .i64 r, .int .i64 b, .int .i64 l, .int .i64 t]) (.int .i64 2)).run Tryz.prog W = .ok (.int .i64 l) W := fun _ => by kernel_rfl
        cases hv : rightB l with
        | true =>
          have hr' := Lib.hid (show ∀ j, j < 3 → rightB (el r b l t j) = true from fun j hj => by
            by_cases e : j < 2
            · exact hr.out j e
            · obtain rfl : j = 2 := by omega
              exact hv)
          clear hr
          go_wp2_with fail
          refine (right_any l _).mono ?_
          rintro e w' ⟨rfl, rfl⟩
          rw [hv]
          clear hv
          go_wp2
          go_roundw
          case rel => exact ⟨3, by omega, rfl, rfl, hr', trivial⟩
          case measure => simp [intOf]
        | false =>
          have hd := Lib.hid (show okB r b l t = false from decide_eq_false fun h => by have := ok_el h 2; simp only [el] at this; rw [hv] at this; cases this)
          clear hr
          go_wp2_with fail
          refine (right_any l _).mono ?_
          rintro e w' ⟨rfl, rfl⟩
          rw [hv]
          clear hv
          go_wp2
          rw [Exit.noGoto_ret]
          go_ret
          exact ⟨by rw [hd.out]; rfl, hB1⟩
      · have i0 : ∀ W : World, (Instr.index 106 (.agg #[.int .i64 r, .int .i64 b, .int .i64 l, .int .i64 t]) (.int .i64 3)).run Tryz.prog W = .ok (.int .i64 t) W := fun _ => by kernel_rfl
        cases hv : rightB t with
        | true =>
          have hr' := Lib.hid (show ∀ j, j < 4 → rightB (el r b l t j) = true from fun j hj => by
            by_cases e : j < 3
            · exact hr.out j e
            · obtain rfl : j = 3 := by omega
              exact hv)
          clear hr
          go_wp2_with fail
          refine (right_any t _).mono ?_
          rintro e w' ⟨rfl, rfl⟩
          rw [hv]
          clear hv
          go_wp2
          go_roundw
          case rel => exact ⟨4, by omega, rfl, rfl, hr', trivial⟩
          case measure => simp [intOf]
        | false =>
          have hd := Lib.hid (show okB r b l t = false from decide_eq_false fun h => by have := ok_el h 3; simp only [el] at this; rw [hv] at this; cases this)
          clear hr
          go_wp2_with fail
          refine (right_any t _).mono ?_
          rintro e w' ⟨rfl, rfl⟩
          rw [hv]
          clear hv
          go_wp2
          rw [Exit.noGoto_ret]
          go_ret
          exact ⟨by rw [hd.out]; rfl, hB1⟩
    · obtain rfl : k = 4 := by omega
      have hd := Lib.hid (show okB r b l t = false from decide_eq_false (fun h' => by
        obtain ⟨_, _, _, _, a, b'⟩ := h'
        omega))
      clear hr
      go_wp2
      rw [Exit.noGoto_ret]
      go_ret
      exact ⟨by rw [hd.out]; rfl, hB1⟩


theorem right_any (r b l t : Int) (w : World) :
    Calls Tryz.prog 40 #[.agg #[.int .i64 r, .int .i64 b, .int .i64 l, .int .i64 t]] w fun e w' => e = .returned (.bool (okB r b l t)) ∧ Below w.heap.size w w' := by
  by_cases h1 : b ≤ 0
  · exact right_nil r b l t w h1
  · by_cases h2 : b < l
    · exact right_over r b l t w (by omega) h2
    · exact right_yes r b l t w (by omega) (by omega)

def fillL (r b l t now : Int) : Int := if okB r b l t = true ∧ t < nr now then (if add l (mul r (nr now - t)) < b then add l (mul r (nr now - t)) else b) else l
def fillT (r b l t now : Int) : Int := if okB r b l t = true ∧ t < nr now then nr now else t
theorem fillL_no {r b l t now : Int} (h : ¬ (okB r b l t = true ∧ t < nr now)) : fillL r b l t now = l := if_neg h
theorem fillT_no {r b l t now : Int} (h : ¬ (okB r b l t = true ∧ t < nr now)) : fillT r b l t now = t := if_neg h

theorem fill_no (r b l t now : Int) (w : World) (h : ¬ (okB r b l t = true ∧ t < nr now)) :
    Calls Tryz.prog 82 #[.agg #[.int .i64 r, .int .i64 b, .int .i64 l, .int .i64 t], .int .i64 now] w fun e w' => e = .returned (.agg #[.int .i64 r, .int .i64 b, .int .i64 (fillL r b l t now), .int .i64 (fillT r b l t now)]) ∧ Below w.heap.size w w' := by
  have e1 := Lib.hid (fillL_no h)
  have e2 := Lib.hid (fillT_no h)
  have hn0 : nr 0 = 0 := by decide
  have ha := Lib.hid (show add now 0 = nr now by unfold add; rw [hn0]; have := nr_bd now; rw [nr_in (by omega) (by omega)]; omega)
  have hnb := nr_bd now
  clear hn0
  go_enter Tryz.func82, Tryz.ntmps82
  go_wp2_with fail
  refine (add_any now 0 _).mono ?_
  rintro e w' ⟨rfl, rfl⟩
  rw [ha.out]
  go_wp2_with fail
  refine (right_any r b l t _).mono ?_
  rintro e w1 ⟨rfl, hb1⟩
  obtain ⟨hc1, hf1⟩ := Cls.bcell hb1
  have hz1 : w.heap.size + 1 < w1.heap.size := by have := hb1.size; simp at this; omega
  have hz0 : w.heap.size < w1.heap.size := by omega
  have hB0 := (((Below.refl w.heap.size w).alloc (Nat.le_refl _) (.cells #[.int .i64 r, .int .i64 b, .int .i64 l, .int .i64 t] 57)).alloc (by simp) (.cells #[.int .i64 0, .int .i64 0, .int .i64 0, .int .i64 0] 57))
  have hB1 := hB0.trans (hb1.mono (by simp; omega))
  clear hB0 hb1
  have c0 : w1.cell? ⟨w.heap.size, 0, none⟩ = some (.int .i64 r) := by rw [hc1 _ _ (by simp; omega)]; simp [go_sem]
  have f0 : w1.frozen? ⟨w.heap.size, 0, none⟩ = false := by rw [hf1 _ _ (by simp; omega)]; simp [go_sem]
  have z0 : w1.cell? ⟨w.heap.size + 1, 0, none⟩ = some (.int .i64 0) := by rw [hc1 _ _ (by simp)]; simp [go_sem]
  have y0 : w1.frozen? ⟨w.heap.size + 1, 0, none⟩ = false := by rw [hf1 _ _ (by simp)]; simp [go_sem]
  have c1 : w1.cell? ⟨w.heap.size, 1, none⟩ = some (.int .i64 b) := by rw [hc1 _ _ (by simp; omega)]; simp [go_sem]
  have f1 : w1.frozen? ⟨w.heap.size, 1, none⟩ = false := by rw [hf1 _ _ (by simp; omega)]; simp [go_sem]
  have z1 : w1.cell? ⟨w.heap.size + 1, 1, none⟩ = some (.int .i64 0) := by rw [hc1 _ _ (by simp)]; simp [go_sem]
  have y1 : w1.frozen? ⟨w.heap.size + 1, 1, none⟩ = false := by rw [hf1 _ _ (by simp)]; simp [go_sem]
  have c2 : w1.cell? ⟨w.heap.size, 2, none⟩ = some (.int .i64 l) := by rw [hc1 _ _ (by simp; omega)]; simp [go_sem]
  have f2 : w1.frozen? ⟨w.heap.size, 2, none⟩ = false := by rw [hf1 _ _ (by simp; omega)]; simp [go_sem]
  have z2 : w1.cell? ⟨w.heap.size + 1, 2, none⟩ = some (.int .i64 0) := by rw [hc1 _ _ (by simp)]; simp [go_sem]
  have y2 : w1.frozen? ⟨w.heap.size + 1, 2, none⟩ = false := by rw [hf1 _ _ (by simp)]; simp [go_sem]
  have c3 : w1.cell? ⟨w.heap.size, 3, none⟩ = some (.int .i64 t) := by rw [hc1 _ _ (by simp; omega)]; simp [go_sem]
  have f3 : w1.frozen? ⟨w.heap.size, 3, none⟩ = false := by rw [hf1 _ _ (by simp; omega)]; simp [go_sem]
  have z3 : w1.cell? ⟨w.heap.size + 1, 3, none⟩ = some (.int .i64 0) := by rw [hc1 _ _ (by simp)]; simp [go_sem]
  have y3 : w1.frozen? ⟨w.heap.size + 1, 3, none⟩ = false := by rw [hf1 _ _ (by simp)]; simp [go_sem]
  clear hc1 hf1
  cases hk : okB r b l t with
  | false =>
    clear hk h
    go_wp2
    exact bodyPost_ret (v := .agg #[.int .i64 r, .int .i64 b, .int .i64 l, .int .i64 t]) (by simp [results, Tryz.results82, go_sem, c0, c1, c2, c3, z0, z1, z2, z3, hz1]) rfl ⟨by rw [e1.out, e2.out], ((((hB1.setCell (p := ⟨w.heap.size + 1, 0, none⟩) (by show w.heap.size ≤ w.heap.size + 1; omega) _).setCell (p := ⟨w.heap.size + 1, 1, none⟩) (by show w.heap.size ≤ w.heap.size + 1; omega) _).setCell (p := ⟨w.heap.size + 1, 2, none⟩) (by show w.heap.size ≤ w.heap.size + 1; omega) _).setCell (p := ⟨w.heap.size + 1, 3, none⟩) (by show w.heap.size ≤ w.heap.size + 1; omega) _)⟩
  | true =>
    have h' : nr now ≤ t := by
      rcases Int.lt_or_le t (nr now) with h2 | h2
      · exact absurd ⟨hk, h2⟩ h
      · exact h2
    clear hk h
    go_wp2
    exact bodyPost_ret (v := .agg #[.int .i64 r, .int .i64 b, .int .i64 l, .int .i64 t]) (by simp [results, Tryz.results82, go_sem, c0, c1, c2, c3, z0, z1, z2, z3, hz1]) rfl ⟨by rw [e1.out, e2.out], ((((hB1.setCell (p := ⟨w.heap.size + 1, 0, none⟩) (by show w.heap.size ≤ w.heap.size + 1; omega) _).setCell (p := ⟨w.heap.size + 1, 1, none⟩) (by show w.heap.size ≤ w.heap.size + 1; omega) _).setCell (p := ⟨w.heap.size + 1, 2, none⟩) (by show w.heap.size ≤ w.heap.size + 1; omega) _).setCell (p := ⟨w.heap.size + 1, 3, none⟩) (by show w.heap.size ≤ w.heap.size + 1; omega) _)⟩

theorem fill_yes (r b l t now : Int) (w : World) (hk : okB r b l t = true) (ht : t < nr now) :
    Calls Tryz.prog 82 #[.agg #[.int .i64 r, .int .i64 b, .int .i64 l, .int .i64 t], .int .i64 now] w fun e w' => e = .returned (.agg #[.int .i64 r, .int .i64 b, .int .i64 (fillL r b l t now), .int .i64 (fillT r b l t now)]) ∧ Below w.heap.size w w' := by
  have e1 := Lib.hid (show fillL r b l t now = _ from if_pos ⟨hk, ht⟩)
  have e2 := Lib.hid (show fillT r b l t now = nr now from if_pos ⟨hk, ht⟩)
  have hn0 : nr 0 = 0 := by decide
  have ha := Lib.hid (show add now 0 = nr now by unfold add; rw [hn0]; have := nr_bd now; rw [nr_in (by omega) (by omega)]; omega)
  have hnb := nr_bd now
  have hok := of_decide_eq_true hk
  have hk' := Lib.hid hk
  obtain ⟨o1, o2, o3, o4, o5, o6⟩ := hok
  clear hn0 hk
  go_enter Tryz.func82, Tryz.ntmps82
  go_wp2_with fail
  refine (add_any now 0 _).mono ?_
  rintro e w' ⟨rfl, rfl⟩
  rw [ha.out]
  go_wp2_with fail
  refine (right_any r b l t _).mono ?_
  rintro e w1 ⟨rfl, hb1⟩
  rw [hk'.out]
  obtain ⟨hc1, hf1⟩ := Cls.bcell hb1
  have hz1 : w.heap.size + 1 < w1.heap.size := by have := hb1.size; simp at this; omega
  have hz0 : w.heap.size < w1.heap.size := by omega
  have hB0 := (((Below.refl w.heap.size w).alloc (Nat.le_refl _) (.cells #[.int .i64 r, .int .i64 b, .int .i64 l, .int .i64 t] 57)).alloc (by simp) (.cells #[.int .i64 0, .int .i64 0, .int .i64 0, .int .i64 0] 57))
  have hB1 := hB0.trans (hb1.mono (by simp; omega))
  clear hB0 hb1
  have c0 : w1.cell? ⟨w.heap.size, 0, none⟩ = some (.int .i64 r) := by rw [hc1 _ _ (by simp; omega)]; simp [go_sem]
  have f0 : w1.frozen? ⟨w.heap.size, 0, none⟩ = false := by rw [hf1 _ _ (by simp; omega)]; simp [go_sem]
  have z0 : w1.cell? ⟨w.heap.size + 1, 0, none⟩ = some (.int .i64 0) := by rw [hc1 _ _ (by simp)]; simp [go_sem]
  have y0 : w1.frozen? ⟨w.heap.size + 1, 0, none⟩ = false := by rw [hf1 _ _ (by simp)]; simp [go_sem]
  have c1 : w1.cell? ⟨w.heap.size, 1, none⟩ = some (.int .i64 b) := by rw [hc1 _ _ (by simp; omega)]; simp [go_sem]
  have f1 : w1.frozen? ⟨w.heap.size, 1, none⟩ = false := by rw [hf1 _ _ (by simp; omega)]; simp [go_sem]
  have z1 : w1.cell? ⟨w.heap.size + 1, 1, none⟩ = some (.int .i64 0) := by rw [hc1 _ _ (by simp)]; simp [go_sem]
  have y1 : w1.frozen? ⟨w.heap.size + 1, 1, none⟩ = false := by rw [hf1 _ _ (by simp)]; simp [go_sem]
  have c2 : w1.cell? ⟨w.heap.size, 2, none⟩ = some (.int .i64 l) := by rw [hc1 _ _ (by simp; omega)]; simp [go_sem]
  have f2 : w1.frozen? ⟨w.heap.size, 2, none⟩ = false := by rw [hf1 _ _ (by simp; omega)]; simp [go_sem]
  have z2 : w1.cell? ⟨w.heap.size + 1, 2, none⟩ = some (.int .i64 0) := by rw [hc1 _ _ (by simp)]; simp [go_sem]
  have y2 : w1.frozen? ⟨w.heap.size + 1, 2, none⟩ = false := by rw [hf1 _ _ (by simp)]; simp [go_sem]
  have c3 : w1.cell? ⟨w.heap.size, 3, none⟩ = some (.int .i64 t) := by rw [hc1 _ _ (by simp; omega)]; simp [go_sem]
  have f3 : w1.frozen? ⟨w.heap.size, 3, none⟩ = false := by rw [hf1 _ _ (by simp; omega)]; simp [go_sem]
  have z3 : w1.cell? ⟨w.heap.size + 1, 3, none⟩ = some (.int .i64 0) := by rw [hc1 _ _ (by simp)]; simp [go_sem]
  have y3 : w1.frozen? ⟨w.heap.size + 1, 3, none⟩ = false := by rw [hf1 _ _ (by simp)]; simp [go_sem]
  clear hc1 hf1
  have hsub : IntKind.i64.wrap (nr now - t) = nr now - t := by rw [IntKind.wrap_i64]; omega
  go_wp2
  have e3 := Lib.hid e1.out.symm
  all_goals
    refine Tail.region 14 (fun w' => Below w1.heap.size w1 w') (by kernel_rfl) (by kernel_rfl) (Below.refl _ _).drew ?_
    simp only [List.take_succ_cons, List.take_zero, List.drop_succ_cons, List.drop_zero]
    refine Cls.value ?_ rfl (fun w' hw' => ?_) ?_
    rotate_left
    · go_simp; rfl
    refine Cls.value ?_ rfl (fun w' hw' => ?_) ?_
    rotate_left
    · have q := (hw'.cell (p := ⟨w.heap.size, 1, none⟩) hz0).trans c1
      go_simp; rfl
    refine Cls.value ?_ rfl (fun w' hw' => ?_) ?_
    rotate_left
    · go_simp; rfl
    refine Cls.value ?_ rfl (fun w' hw' => ?_) ?_
    rotate_left
    · have q := (hw'.cell (p := ⟨w.heap.size, 2, none⟩) hz0).trans c2
      go_simp; rfl
    refine Cls.value ?_ rfl (fun w' hw' => ?_) ?_
    rotate_left
    · go_simp; rfl
    refine Cls.value ?_ rfl (fun w' hw' => ?_) ?_
    rotate_left
    · have q := (hw'.cell (p := ⟨w.heap.size, 0, none⟩) hz0).trans c0
      go_simp; rfl
    refine Cls.value ?_ rfl (fun w' hw' => ?_) ?_
    rotate_left
    · go_simp; rfl
    refine Cls.value ?_ rfl (fun w' hw' => ?_) ?_
    rotate_left
    · go_simp; rfl
    refine Cls.value ?_ rfl (fun w' hw' => ?_) ?_
    rotate_left
    · have q := (hw'.cell (p := ⟨w.heap.size, 3, none⟩) hz0).trans c3
      go_simp; rfl
    refine Cls.value ?_ rfl (fun w' hw' => ?_) ?_
    rotate_left
    · go_simp; rfl
    refine Cls.call 97 #[.int .i64 r, .int .i64 (nr now - t)] (.int .i64 (mul r (nr now - t))) rfl (fun w' => ?_) (fun w' hw' => (mul_any _ _ w').mono ?_) ?_
    · go_simp
    · rintro e w'' ⟨rfl, nd, rfl⟩; exact ⟨rfl, Cls.below_drewN' hw' nd⟩
    refine Cls.call 14 #[.int .i64 l, .int .i64 (mul r (nr now - t))] (.int .i64 (add l (mul r (nr now - t)))) rfl (fun w' => ?_) (fun w' hw' => (add_any _ _ w').mono ?_) ?_
    · go_simp
    · rintro e w'' ⟨rfl, rfl⟩; exact ⟨rfl, hw'⟩
    refine Cls.value (.int .i64 (fillL r b l t now)) rfl (fun w' hw' => ?_) ?_
    · go_simp
      exact e3.out
    refine Cls.value ?_ rfl (fun w' hw' => ?_) ?_
    rotate_left
    · go_simp; rfl
    refine Cls.done (fun w' hw' => ?_)
    simp only [Act.put, List.setIfInBounds_toArray, List.set_cons_zero, List.set_cons_succ]
    clear hsub e1 e3
    have hB2 := hB1.trans (hw'.mono hB1.size)
    have hz2 : w.heap.size < w'.heap.size := Nat.lt_of_lt_of_le hz0 hw'.size
    have hz3 : w.heap.size + 1 < w'.heap.size := Nat.lt_of_lt_of_le hz1 hw'.size
    have C0 := (hw'.cell (p := ⟨w.heap.size, 0, none⟩) hz0).trans c0
    have F0 := (hw'.frozen (p := ⟨w.heap.size, 0, none⟩) hz0).trans f0
    have Z0 := (hw'.cell (p := ⟨w.heap.size + 1, 0, none⟩) hz1).trans z0
    have Y0 := (hw'.frozen (p := ⟨w.heap.size + 1, 0, none⟩) hz1).trans y0
    have C1 := (hw'.cell (p := ⟨w.heap.size, 1, none⟩) hz0).trans c1
    have F1 := (hw'.frozen (p := ⟨w.heap.size, 1, none⟩) hz0).trans f1
    have Z1 := (hw'.cell (p := ⟨w.heap.size + 1, 1, none⟩) hz1).trans z1
    have Y1 := (hw'.frozen (p := ⟨w.heap.size + 1, 1, none⟩) hz1).trans y1
    have C2 := (hw'.cell (p := ⟨w.heap.size, 2, none⟩) hz0).trans c2
    have F2 := (hw'.frozen (p := ⟨w.heap.size, 2, none⟩) hz0).trans f2
    have Z2 := (hw'.cell (p := ⟨w.heap.size + 1, 2, none⟩) hz1).trans z2
    have Y2 := (hw'.frozen (p := ⟨w.heap.size + 1, 2, none⟩) hz1).trans y2
    have C3 := (hw'.cell (p := ⟨w.heap.size, 3, none⟩) hz0).trans c3
    have F3 := (hw'.frozen (p := ⟨w.heap.size, 3, none⟩) hz0).trans f3
    have Z3 := (hw'.cell (p := ⟨w.heap.size + 1, 3, none⟩) hz1).trans z3
    have Y3 := (hw'.frozen (p := ⟨w.heap.size + 1, 3, none⟩) hz1).trans y3
    clear c0 c1 c2 c3 f0 f1 f2 f3 z0 z1 z2 z3 y0 y1 y2 y3 hw' hz0 hz1
    go_wp2
    exact bodyPost_ret (v := .agg #[.int .i64 r, .int .i64 b, .int .i64 (fillL r b l t now), .int .i64 (nr now)]) (by simp [results, Tryz.results82, go_sem, C0, C1, C2, C3, Z0, Z1, Z2, Z3, hz2, hz3]) rfl ⟨by rw [e2.out], ((((((hB2.setCell (p := ⟨w.heap.size, 2, none⟩) (by show w.heap.size ≤ w.heap.size; omega) _).setCell (p := ⟨w.heap.size, 3, none⟩) (by show w.heap.size ≤ w.heap.size; omega) _).setCell (p := ⟨w.heap.size + 1, 0, none⟩) (by show w.heap.size ≤ w.heap.size + 1; omega) _).setCell (p := ⟨w.heap.size + 1, 1, none⟩) (by show w.heap.size ≤ w.heap.size + 1; omega) _).setCell (p := ⟨w.heap.size + 1, 2, none⟩) (by show w.heap.size ≤ w.heap.size + 1; omega) _).setCell (p := ⟨w.heap.size + 1, 3, none⟩) (by show w.heap.size ≤ w.heap.size + 1; omega) _)⟩

theorem fill_any (r b l t now : Int) (w : World) :
    Calls Tryz.prog 82 #[.agg #[.int .i64 r, .int .i64 b, .int .i64 l, .int .i64 t], .int .i64 now] w fun e w' => e = .returned (.agg #[.int .i64 r, .int .i64 b, .int .i64 (fillL r b l t now), .int .i64 (fillT r b l t now)]) ∧ Below w.heap.size w w' := by
  by_cases h : okB r b l t = true ∧ t < nr now
  · exact fill_yes r b l t now w h.1 h.2
  · exact fill_no r b l t now w h

end Go.Proofs.YtehpliclknfmoaaGreat.Bucket
