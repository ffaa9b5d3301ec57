/- A toxic's numbers (chapter 09). Conditions: its kind is one to seven. -/
import Derived.Test.YtehpliclknfmoaaToxB
import Derived.Test.YtehpliclknfmoaaWLast
namespace Go.Proofs.Ytehpliclknfmoaa.Toxic
open Go.RowKit Mem Tick Cargo
open Go.Proofs.YtehpliclknfmoaaW.PrintLast
set_option maxRecDepth 100000
set_option linter.unusedVariables false
set_option linter.unusedSimpArgs false
def roomB (n : Int) : Bool := decide (1 ≤ n ∧ n ≤ 4096)
theorem room_any (n : Int) (w : World) :
    Calls Try.prog 66 #[.int .i64 n] w fun e w' => e = .returned (.bool (roomB n)) ∧ w = w' := by
  by_cases h : 1 ≤ n
  · have d := Lib.hid (show (roomB n) = decide (n ≤ 4096) by simp [roomB, h])
    go_enter Try.func66, Try.ntmps66
    go_wp2
    go_ret
    exact ⟨by rw [d.out]; rfl, rfl⟩
  · have d := Lib.hid (show (roomB n) = false by simp [roomB]; omega)
    have h1 : decide (1 ≤ n) = false := decide_eq_false h
    go_enter Try.func66, Try.ntmps66
    go_wp2
    all_goals
      go_ret
      exact ⟨by rw [d.out]; rfl, rfl⟩
theorem rule1_any (a b : Int) (w : World) :
    Calls Try.prog 67 #[.int .i64 a, .int .i64 b] w fun e w' => e = .returned (.bool (decide (b ≤ a))) ∧ w = w' := by
  go_enter Try.func67, Try.ntmps67
  go_wp2
  go_ret
  exact ⟨rfl, rfl⟩
theorem rule4_any (a b : Int) (w : World) :
    Calls Try.prog 65 #[.int .i64 a, .int .i64 b] w fun e w' => e = .returned (.bool (decide (0 < a))) ∧ w = w' := by
  go_enter Try.func65, Try.ntmps65
  go_wp2
  go_ret
  exact ⟨rfl, rfl⟩
theorem rule2_any {w : World} {g : Nat} (a b : Int) (h : Blk w g 72 #[.func (.func 66) #[] #[]]) :
    Calls Try.prog 68 #[.int .i64 a, .int .i64 b, .pointer (some ⟨g, 0, none⟩)] w fun e w' => e = .returned (.bool (roomB b)) ∧ w = w' := by
  have c0 : w.cell? ⟨g, 0, none⟩ = some (.func (.func 66) #[] #[]) := (h.cell 0).trans rfl
  clear h
  go_enter Try.func68, Try.ntmps68
  go_wp2_with fail
  refine (room_any b _).mono ?_
  rintro e w1 ⟨rfl, rfl⟩
  go_wp2
  go_ret
  exact ⟨rfl, rfl⟩
theorem rule3_any {w : World} {g : Nat} (a b : Int) (h : Blk w g 72 #[.func (.func 66) #[] #[]]) :
    Calls Try.prog 69 #[.int .i64 a, .int .i64 b, .pointer (some ⟨g, 0, none⟩)] w fun e w' => e = .returned (.bool (roomB a)) ∧ w = w' := by
  have c0 : w.cell? ⟨g, 0, none⟩ = some (.func (.func 66) #[] #[]) := (h.cell 0).trans rfl
  clear h
  go_enter Try.func69, Try.ntmps69
  go_wp2_with fail
  refine (room_any a _).mono ?_
  rintro e w1 ⟨rfl, rfl⟩
  go_wp2
  go_ret
  exact ⟨rfl, rfl⟩
/-- may a toxic's numbers be? -/
def ruleB (k a b : Int) : Bool := if k = 1 then decide (b ≤ a) else if k = 2 then roomB b else if k = 3 then roomB a else if k = 4 ∨ k = 5 then decide (0 < a) else true
def numB (k a b : Int) : Bool := rightB a && rightB b && (decide (b = 0) || decide (k ≤ 3)) && ruleB k a b
def fV (g : Nat) (k : Int) : Value := if k = 1 then f1 else if k = 2 then f2 g else if k = 3 then f3 g else if k = 4 then f4 else if k = 5 then f4 else .nilFunc
theorem look_any {w : World} {b n g : Nat} (h : Owns w b n (rules g)) (k : Int) (h1 : 1 ≤ k) (h7 : k ≤ 7) : (Instr.lookup 97 (.map (some b)) (.int .i64 k) false).run Try.prog w = .ok (fV g k) w := by
  have hr := rules_is g
  have h8 : k = 1 ∨ k = 2 ∨ k = 3 ∨ k = 4 ∨ k = 5 ∨ k = 6 ∨ k = 7 := by omega
  rcases h8 with rfl | rfl | rfl | rfl | rfl | rfl | rfl
  · exact look_own h 1 (by decide) _ hr.1
  · exact look_own h 2 (by decide) _ hr.2.1
  · exact look_own h 3 (by decide) _ hr.2.2.1
  · exact look_own h 4 (by decide) _ hr.2.2.2.1
  · exact look_own h 5 (by decide) _ hr.2.2.2.2
  · exact look_own h 6 (by decide) _ (rules_at g 6 (by decide) (by decide) (by decide) (by decide) (by decide))
  · exact look_own h 7 (by decide) _ (rules_at g 7 (by decide) (by decide) (by decide) (by decide) (by decide))
theorem numbers_1 (s : ByteArray) (u : Bool) (o a b : Int) (w : World) :
    Calls Try.prog 42 #[.agg #[.string s, .int .i64 1, .bool u, .int .i64 o, .int .i64 a, .int .i64 b]] w fun e w' => e = .returned (.bool (numB 1 a b)) ∧ Below w.heap.size w w' := by
  have hr : numB 1 a b = (rightB a && rightB b && (decide (b = 0) || decide ((1 : Int) ≤ 3)) && decide (b ≤ a)) := rfl
  have hx1 := Blk.new w 30 #[.string s, .int .i64 1, .bool u, .int .i64 o, .int .i64 a, .int .i64 b]
  have hbw : Below w.heap.size w (w.alloc (.cells #[.string s, .int .i64 1, .bool u, .int .i64 o, .int .i64 a, .int .i64 b] 30)) := (Below.refl _ _).alloc (Nat.le_refl _) _
  have c1 : (w.alloc (.cells #[.string s, .int .i64 1, .bool u, .int .i64 o, .int .i64 a, .int .i64 b] 30)).cell? ⟨w.heap.size, 1, none⟩ = some (.int .i64 1) := (hx1.cell 1).trans rfl
  have hX1 := Lib.hid hx1
  have hbw' := Lib.hid hbw
  have hbd := Lib.hid hr
  clear hx1 hbw hr
  go_enter Try.func42, Try.ntmps42
  go_wp2
  generalize w.alloc (.cells #[.string s, .int .i64 1, .bool u, .int .i64 o, .int .i64 a, .int .i64 b] 30) = w1 at *
  refine start_ (n := 5) (S := fun w' => w'.cell? ⟨w.heap.size, 1, none⟩ = some (.int .i64 1)) (ds := []) #[false, false, false, false, false] (by kernel_rfl) rfl rfl (c1) (fun hHeld => ?_)
  refine pure_ (i := 1) (N := some 5) (v := ?_) (a' := ?_) #[false, true, false, false, false] rfl rfl (by kernel_rfl) (fun _ _ _ h => h) (Or.inl ⟨by rfl, ?_⟩) ?_ ?_
  rotate_left
  · intro w'
    go_simp
    with_reducible rfl
  rotate_left
  · simp only [Act.put, List.setIfInBounds_toArray, List.set_cons_zero, List.set_cons_succ, i64_w, i32_w]
    rfl
  refine take_ (i := 2) (N := some 6) (v := ?_) (a' := ?_) #[false, true, true, false, false] rfl rfl (by kernel_rfl) (fun _ _ _ h => h) (Or.inl ⟨by rfl, ?_⟩) hHeld ?_ ?_
  rotate_left
  · intro w' s0
    go_simp
    with_reducible rfl
  rotate_left
  · simp only [Act.put, List.setIfInBounds_toArray, List.set_cons_zero, List.set_cons_succ, i64_w, i32_w]
    rfl
  refine one_ (i := 0) (N := some 4) #[true, true, true, false, false] rfl rfl (by kernel_rfl) (by decide) (fun K hK => ?_)
  refine goes_ Try.func57 (by kernel_rfl) rfl #[] (by rfl) rfl rfl (by simp) ?_
  with_reducible refine (rules_any (w := w1.drew)).mono ?_
  rintro e w2 ⟨bm, g, rfl, hO, hG, hB⟩
  have hB2 : Below w1.heap.size w1 w2 := ⟨hB.os, hB.tape, hB.output, hB.size, hB.block⟩
  have h1 := bcells hB2 c1
  have hlk := look_any hO 1 (by decide) (by decide)
  rw [show fV g 1 = f1 from rfl] at hlk
  unfold f1 at hlk
  have hG' := Lib.hid hG
  have hX := Lib.hid (hX1.out.below hB2)
  have hB' := Lib.hid hB2
  clear hO hG hB hB2
  refine ⟨_, rfl, ?_⟩
  refine hK.out _ _ (h1) (fun hHeld => ?_)
  clear hK K
  refine norm_ (a' := ?_) ?_ ?_
  rotate_left
  · show Act.put _ (some 4) _ = _
    simp only [Act.put, List.setIfInBounds_toArray, List.set_cons_zero, List.set_cons_succ, i64_w, i32_w]
    rfl
  refine one_ (i := 3) (N := some 7) #[true, true, true, true, false] rfl rfl (by kernel_rfl) (by decide) (fun K hK => ?_)
  refine value_ (w1 := ?_) (v := ?_) (by rfl) rfl ?_ ?_
  rotate_left 2
  · go_simp
    constructor
    · rfl
    · rfl
  refine hK.out _ _ (h1) (fun hHeld => ?_)
  clear hK K
  refine norm_ (a' := ?_) ?_ ?_
  rotate_left
  · show Act.put _ (some 7) _ = _
    simp only [Act.put, List.setIfInBounds_toArray, List.set_cons_zero, List.set_cons_succ, i64_w, i32_w]
    rfl
  refine pure_ (i := 4) (N := some 3) (v := ?_) (a' := ?_) #[true, true, true, true, true] rfl rfl (by kernel_rfl) (fun _ _ _ h => h) (Or.inl ⟨by rfl, ?_⟩) ?_ ?_
  rotate_left
  · intro w'
    go_simp
    with_reducible rfl
  rotate_left
  · simp only [Act.put, List.setIfInBounds_toArray, List.set_cons_zero, List.set_cons_succ, i64_w, i32_w]
    rfl
  refine done_ (by kernel_rfl) ?_
  have hq : ∀ W : World, (binOp BinOp.eql 74 (.func (.func 67) #[] #[]) .nilFunc).run Try.prog W = .ok (.bool false) W := fun W => by kernel_rfl
  clear c1 h1 hHeld
  have x1 : w2.cell? ⟨w.heap.size, 1, none⟩ = some (.int .i64 1) := (hX.out.cell 1).trans rfl
  have x4 : w2.cell? ⟨w.heap.size, 4, none⟩ = some (.int .i64 a) := (hX.out.cell 4).trans rfl
  have x5 : w2.cell? ⟨w.heap.size, 5, none⟩ = some (.int .i64 b) := (hX.out.cell 5).trans rfl
  have hBB := Lib.hid (hbw'.out.trans (hB'.out.mono hbw'.out.size))
  clear hlk
  cases hA : rightB a with
  | false =>
    have hA' := Lib.hid hA
    clear hA
    go_wp2_with fail
    refine (right_any a _).mono ?_
    rintro e w3 ⟨rfl, rfl⟩
    rw [hA'.out]
    go_wp2
    go_ret
    exact ⟨by rw [hbd.out]; rw [hA'.out]; first | done | rfl, hBB.out⟩
  | true =>
    have hA' := Lib.hid hA
    clear hA
    go_wp2_with fail
    refine (right_any a _).mono ?_
    rintro e w3 ⟨rfl, rfl⟩
    rw [hA'.out]
    cases hC : rightB b with
    | false =>
      have hC' := Lib.hid hC
      clear hC
      go_wp2_with fail
      refine (right_any b _).mono ?_
      rintro e w4 ⟨rfl, rfl⟩
      rw [hC'.out]
      go_wp2
      go_ret
      exact ⟨by rw [hbd.out]; rw [hA'.out, hC'.out]; rfl, hBB.out⟩
    | true =>
      have hC' := Lib.hid hC
      clear hC
      go_wp2_with fail
      refine (right_any b _).mono ?_
      rintro e w4 ⟨rfl, rfl⟩
      rw [hC'.out]
      by_cases h0 : b = 0
      · have hz : (b == 0) = true := by simpa using h0
        have hz' := Lib.hid (decide_eq_true h0)
        clear h0
        go_wp2_with fail
        refine (rule1_any a b _).mono ?_
        rintro e w5 ⟨rfl, rfl⟩
        go_wp2
        go_ret
        exact ⟨by rw [hbd.out, hA'.out, hC'.out, hz'.out]; simp [go_sem], hBB.out⟩
      · have hz : (b == 0) = false := by simpa using h0
        have hz' := Lib.hid (decide_eq_false h0)
        clear h0
        go_wp2_with fail
        refine (numbers_any 1 _ (by decide)).mono ?_
        rintro e w5 ⟨rfl, hB5⟩
        have hB6 := Lib.hid (hBB.out.trans (hB5.mono hBB.out.size))
        have hG2 := Lib.hid (hG'.out.below hB5)
        have x4' := bcells hB5 x4
        have x5' := bcells hB5 x5
        clear hB5
        rw [show (if (1 : Int) ≤ 3 then (2 : Int) else 1) = 2 from rfl]
        go_wp2_with fail
        refine (rule1_any a b _).mono ?_
        rintro e w5 ⟨rfl, rfl⟩
        go_wp2
        go_ret
        exact ⟨by rw [hbd.out, hA'.out, hC'.out, hz'.out]; simp [go_sem], hB6.out⟩
theorem numbers_2 (s : ByteArray) (u : Bool) (o a b : Int) (w : World) :
    Calls Try.prog 42 #[.agg #[.string s, .int .i64 2, .bool u, .int .i64 o, .int .i64 a, .int .i64 b]] w fun e w' => e = .returned (.bool (numB 2 a b)) ∧ Below w.heap.size w w' := by
  have hr : numB 2 a b = (rightB a && rightB b && (decide (b = 0) || decide ((2 : Int) ≤ 3)) && roomB b) := rfl
  have hx1 := Blk.new w 30 #[.string s, .int .i64 2, .bool u, .int .i64 o, .int .i64 a, .int .i64 b]
  have hbw : Below w.heap.size w (w.alloc (.cells #[.string s, .int .i64 2, .bool u, .int .i64 o, .int .i64 a, .int .i64 b] 30)) := (Below.refl _ _).alloc (Nat.le_refl _) _
  have c1 : (w.alloc (.cells #[.string s, .int .i64 2, .bool u, .int .i64 o, .int .i64 a, .int .i64 b] 30)).cell? ⟨w.heap.size, 1, none⟩ = some (.int .i64 2) := (hx1.cell 1).trans rfl
  have hX1 := Lib.hid hx1
  have hbw' := Lib.hid hbw
  have hbd := Lib.hid hr
  clear hx1 hbw hr
  go_enter Try.func42, Try.ntmps42
  go_wp2
  generalize w.alloc (.cells #[.string s, .int .i64 2, .bool u, .int .i64 o, .int .i64 a, .int .i64 b] 30) = w1 at *
  refine start_ (n := 5) (S := fun w' => w'.cell? ⟨w.heap.size, 1, none⟩ = some (.int .i64 2)) (ds := []) #[false, false, false, false, false] (by kernel_rfl) rfl rfl (c1) (fun hHeld => ?_)
  refine pure_ (i := 1) (N := some 5) (v := ?_) (a' := ?_) #[false, true, false, false, false] rfl rfl (by kernel_rfl) (fun _ _ _ h => h) (Or.inl ⟨by rfl, ?_⟩) ?_ ?_
  rotate_left
  · intro w'
    go_simp
    with_reducible rfl
  rotate_left
  · simp only [Act.put, List.setIfInBounds_toArray, List.set_cons_zero, List.set_cons_succ, i64_w, i32_w]
    rfl
  refine take_ (i := 2) (N := some 6) (v := ?_) (a' := ?_) #[false, true, true, false, false] rfl rfl (by kernel_rfl) (fun _ _ _ h => h) (Or.inl ⟨by rfl, ?_⟩) hHeld ?_ ?_
  rotate_left
  · intro w' s0
    go_simp
    with_reducible rfl
  rotate_left
  · simp only [Act.put, List.setIfInBounds_toArray, List.set_cons_zero, List.set_cons_succ, i64_w, i32_w]
    rfl
  refine one_ (i := 0) (N := some 4) #[true, true, true, false, false] rfl rfl (by kernel_rfl) (by decide) (fun K hK => ?_)
  refine goes_ Try.func57 (by kernel_rfl) rfl #[] (by rfl) rfl rfl (by simp) ?_
  with_reducible refine (rules_any (w := w1.drew)).mono ?_
  rintro e w2 ⟨bm, g, rfl, hO, hG, hB⟩
  have hB2 : Below w1.heap.size w1 w2 := ⟨hB.os, hB.tape, hB.output, hB.size, hB.block⟩
  have h1 := bcells hB2 c1
  have hlk := look_any hO 2 (by decide) (by decide)
  rw [show fV g 2 = (f2 g) from rfl] at hlk
  unfold f2 at hlk
  have hG' := Lib.hid hG
  have hX := Lib.hid (hX1.out.below hB2)
  have hB' := Lib.hid hB2
  clear hO hG hB hB2
  refine ⟨_, rfl, ?_⟩
  refine hK.out _ _ (h1) (fun hHeld => ?_)
  clear hK K
  refine norm_ (a' := ?_) ?_ ?_
  rotate_left
  · show Act.put _ (some 4) _ = _
    simp only [Act.put, List.setIfInBounds_toArray, List.set_cons_zero, List.set_cons_succ, i64_w, i32_w]
    rfl
  refine one_ (i := 3) (N := some 7) #[true, true, true, true, false] rfl rfl (by kernel_rfl) (by decide) (fun K hK => ?_)
  refine value_ (w1 := ?_) (v := ?_) (by rfl) rfl ?_ ?_
  rotate_left 2
  · go_simp
    constructor
    · rfl
    · rfl
  refine hK.out _ _ (h1) (fun hHeld => ?_)
  clear hK K
  refine norm_ (a' := ?_) ?_ ?_
  rotate_left
  · show Act.put _ (some 7) _ = _
    simp only [Act.put, List.setIfInBounds_toArray, List.set_cons_zero, List.set_cons_succ, i64_w, i32_w]
    rfl
  refine pure_ (i := 4) (N := some 3) (v := ?_) (a' := ?_) #[true, true, true, true, true] rfl rfl (by kernel_rfl) (fun _ _ _ h => h) (Or.inl ⟨by rfl, ?_⟩) ?_ ?_
  rotate_left
  · intro w'
    go_simp
    with_reducible rfl
  rotate_left
  · simp only [Act.put, List.setIfInBounds_toArray, List.set_cons_zero, List.set_cons_succ, i64_w, i32_w]
    rfl
  refine done_ (by kernel_rfl) ?_
  have hq : ∀ W : World, (binOp BinOp.eql 74 (.func (.func 68) #[] #[.pointer (some ⟨g, 0, none⟩)]) .nilFunc).run Try.prog W = .ok (.bool false) W := fun W => by kernel_rfl
  clear c1 h1 hHeld
  have x1 : w2.cell? ⟨w.heap.size, 1, none⟩ = some (.int .i64 2) := (hX.out.cell 1).trans rfl
  have x4 : w2.cell? ⟨w.heap.size, 4, none⟩ = some (.int .i64 a) := (hX.out.cell 4).trans rfl
  have x5 : w2.cell? ⟨w.heap.size, 5, none⟩ = some (.int .i64 b) := (hX.out.cell 5).trans rfl
  have hBB := Lib.hid (hbw'.out.trans (hB'.out.mono hbw'.out.size))
  clear hlk
  cases hA : rightB a with
  | false =>
    have hA' := Lib.hid hA
    clear hA
    go_wp2_with fail
    refine (right_any a _).mono ?_
    rintro e w3 ⟨rfl, rfl⟩
    rw [hA'.out]
    go_wp2
    go_ret
    exact ⟨by rw [hbd.out]; rw [hA'.out]; first | done | rfl, hBB.out⟩
  | true =>
    have hA' := Lib.hid hA
    clear hA
    go_wp2_with fail
    refine (right_any a _).mono ?_
    rintro e w3 ⟨rfl, rfl⟩
    rw [hA'.out]
    cases hC : rightB b with
    | false =>
      have hC' := Lib.hid hC
      clear hC
      go_wp2_with fail
      refine (right_any b _).mono ?_
      rintro e w4 ⟨rfl, rfl⟩
      rw [hC'.out]
      go_wp2
      go_ret
      exact ⟨by rw [hbd.out]; rw [hA'.out, hC'.out]; rfl, hBB.out⟩
    | true =>
      have hC' := Lib.hid hC
      clear hC
      go_wp2_with fail
      refine (right_any b _).mono ?_
      rintro e w4 ⟨rfl, rfl⟩
      rw [hC'.out]
      by_cases h0 : b = 0
      · have hz : (b == 0) = true := by simpa using h0
        have hz' := Lib.hid (decide_eq_true h0)
        clear h0
        go_wp2_with fail
        refine (rule2_any a b hG'.out).mono ?_
        rintro e w5 ⟨rfl, rfl⟩
        go_wp2
        go_ret
        exact ⟨by rw [hbd.out, hA'.out, hC'.out, hz'.out]; simp [go_sem], hBB.out⟩
      · have hz : (b == 0) = false := by simpa using h0
        have hz' := Lib.hid (decide_eq_false h0)
        clear h0
        go_wp2_with fail
        refine (numbers_any 2 _ (by decide)).mono ?_
        rintro e w5 ⟨rfl, hB5⟩
        have hB6 := Lib.hid (hBB.out.trans (hB5.mono hBB.out.size))
        have hG2 := Lib.hid (hG'.out.below hB5)
        have x4' := bcells hB5 x4
        have x5' := bcells hB5 x5
        clear hB5
        rw [show (if (2 : Int) ≤ 3 then (2 : Int) else 1) = 2 from rfl]
        go_wp2_with fail
        refine (rule2_any a b hG2.out).mono ?_
        rintro e w5 ⟨rfl, rfl⟩
        go_wp2
        go_ret
        exact ⟨by rw [hbd.out, hA'.out, hC'.out, hz'.out]; simp [go_sem], hB6.out⟩
theorem numbers_3 (s : ByteArray) (u : Bool) (o a b : Int) (w : World) :
    Calls Try.prog 42 #[.agg #[.string s, .int .i64 3, .bool u, .int .i64 o, .int .i64 a, .int .i64 b]] w fun e w' => e = .returned (.bool (numB 3 a b)) ∧ Below w.heap.size w w' := by
  have hr : numB 3 a b = (rightB a && rightB b && (decide (b = 0) || decide ((3 : Int) ≤ 3)) && roomB a) := rfl
  have hx1 := Blk.new w 30 #[.string s, .int .i64 3, .bool u, .int .i64 o, .int .i64 a, .int .i64 b]
  have hbw : Below w.heap.size w (w.alloc (.cells #[.string s, .int .i64 3, .bool u, .int .i64 o, .int .i64 a, .int .i64 b] 30)) := (Below.refl _ _).alloc (Nat.le_refl _) _
  have c1 : (w.alloc (.cells #[.string s, .int .i64 3, .bool u, .int .i64 o, .int .i64 a, .int .i64 b] 30)).cell? ⟨w.heap.size, 1, none⟩ = some (.int .i64 3) := (hx1.cell 1).trans rfl
  have hX1 := Lib.hid hx1
  have hbw' := Lib.hid hbw
  have hbd := Lib.hid hr
  clear hx1 hbw hr
  go_enter Try.func42, Try.ntmps42
  go_wp2
  generalize w.alloc (.cells #[.string s, .int .i64 3, .bool u, .int .i64 o, .int .i64 a, .int .i64 b] 30) = w1 at *
  refine start_ (n := 5) (S := fun w' => w'.cell? ⟨w.heap.size, 1, none⟩ = some (.int .i64 3)) (ds := []) #[false, false, false, false, false] (by kernel_rfl) rfl rfl (c1) (fun hHeld => ?_)
  refine pure_ (i := 1) (N := some 5) (v := ?_) (a' := ?_) #[false, true, false, false, false] rfl rfl (by kernel_rfl) (fun _ _ _ h => h) (Or.inl ⟨by rfl, ?_⟩) ?_ ?_
  rotate_left
  · intro w'
    go_simp
    with_reducible rfl
  rotate_left
  · simp only [Act.put, List.setIfInBounds_toArray, List.set_cons_zero, List.set_cons_succ, i64_w, i32_w]
    rfl
  refine take_ (i := 2) (N := some 6) (v := ?_) (a' := ?_) #[false, true, true, false, false] rfl rfl (by kernel_rfl) (fun _ _ _ h => h) (Or.inl ⟨by rfl, ?_⟩) hHeld ?_ ?_
  rotate_left
  · intro w' s0
    go_simp
    with_reducible rfl
  rotate_left
  · simp only [Act.put, List.setIfInBounds_toArray, List.set_cons_zero, List.set_cons_succ, i64_w, i32_w]
    rfl
  refine one_ (i := 0) (N := some 4) #[true, true, true, false, false] rfl rfl (by kernel_rfl) (by decide) (fun K hK => ?_)
  refine goes_ Try.func57 (by kernel_rfl) rfl #[] (by rfl) rfl rfl (by simp) ?_
  with_reducible refine (rules_any (w := w1.drew)).mono ?_
  rintro e w2 ⟨bm, g, rfl, hO, hG, hB⟩
  have hB2 : Below w1.heap.size w1 w2 := ⟨hB.os, hB.tape, hB.output, hB.size, hB.block⟩
  have h1 := bcells hB2 c1
  have hlk := look_any hO 3 (by decide) (by decide)
  rw [show fV g 3 = (f3 g) from rfl] at hlk
  unfold f3 at hlk
  have hG' := Lib.hid hG
  have hX := Lib.hid (hX1.out.below hB2)
  have hB' := Lib.hid hB2
  clear hO hG hB hB2
  refine ⟨_, rfl, ?_⟩
  refine hK.out _ _ (h1) (fun hHeld => ?_)
  clear hK K
  refine norm_ (a' := ?_) ?_ ?_
  rotate_left
  · show Act.put _ (some 4) _ = _
    simp only [Act.put, List.setIfInBounds_toArray, List.set_cons_zero, List.set_cons_succ, i64_w, i32_w]
    rfl
  refine one_ (i := 3) (N := some 7) #[true, true, true, true, false] rfl rfl (by kernel_rfl) (by decide) (fun K hK => ?_)
  refine value_ (w1 := ?_) (v := ?_) (by rfl) rfl ?_ ?_
  rotate_left 2
  · go_simp
    constructor
    · rfl
    · rfl
  refine hK.out _ _ (h1) (fun hHeld => ?_)
  clear hK K
  refine norm_ (a' := ?_) ?_ ?_
  rotate_left
  · show Act.put _ (some 7) _ = _
    simp only [Act.put, List.setIfInBounds_toArray, List.set_cons_zero, List.set_cons_succ, i64_w, i32_w]
    rfl
  refine pure_ (i := 4) (N := some 3) (v := ?_) (a' := ?_) #[true, true, true, true, true] rfl rfl (by kernel_rfl) (fun _ _ _ h => h) (Or.inl ⟨by rfl, ?_⟩) ?_ ?_
  rotate_left
  · intro w'
    go_simp
    with_reducible rfl
  rotate_left
  · simp only [Act.put, List.setIfInBounds_toArray, List.set_cons_zero, List.set_cons_succ, i64_w, i32_w]
    rfl
  refine done_ (by kernel_rfl) ?_
  have hq : ∀ W : World, (binOp BinOp.eql 74 (.func (.func 69) #[] #[.pointer (some ⟨g, 0, none⟩)]) .nilFunc).run Try.prog W = .ok (.bool false) W := fun W => by kernel_rfl
  clear c1 h1 hHeld
  have x1 : w2.cell? ⟨w.heap.size, 1, none⟩ = some (.int .i64 3) := (hX.out.cell 1).trans rfl
  have x4 : w2.cell? ⟨w.heap.size, 4, none⟩ = some (.int .i64 a) := (hX.out.cell 4).trans rfl
  have x5 : w2.cell? ⟨w.heap.size, 5, none⟩ = some (.int .i64 b) := (hX.out.cell 5).trans rfl
  have hBB := Lib.hid (hbw'.out.trans (hB'.out.mono hbw'.out.size))
  clear hlk
  cases hA : rightB a with
  | false =>
    have hA' := Lib.hid hA
    clear hA
    go_wp2_with fail
    refine (right_any a _).mono ?_
    rintro e w3 ⟨rfl, rfl⟩
    rw [hA'.out]
    go_wp2
    go_ret
    exact ⟨by rw [hbd.out]; rw [hA'.out]; first | done | rfl, hBB.out⟩
  | true =>
    have hA' := Lib.hid hA
    clear hA
    go_wp2_with fail
    refine (right_any a _).mono ?_
    rintro e w3 ⟨rfl, rfl⟩
    rw [hA'.out]
    cases hC : rightB b with
    | false =>
      have hC' := Lib.hid hC
      clear hC
      go_wp2_with fail
      refine (right_any b _).mono ?_
      rintro e w4 ⟨rfl, rfl⟩
      rw [hC'.out]
      go_wp2
      go_ret
      exact ⟨by rw [hbd.out]; rw [hA'.out, hC'.out]; rfl, hBB.out⟩
    | true =>
      have hC' := Lib.hid hC
      clear hC
      go_wp2_with fail
      refine (right_any b _).mono ?_
      rintro e w4 ⟨rfl, rfl⟩
      rw [hC'.out]
      by_cases h0 : b = 0
      · have hz : (b == 0) = true := by simpa using h0
        have hz' := Lib.hid (decide_eq_true h0)
        clear h0
        go_wp2_with fail
        refine (rule3_any a b hG'.out).mono ?_
        rintro e w5 ⟨rfl, rfl⟩
        go_wp2
        go_ret
        exact ⟨by rw [hbd.out, hA'.out, hC'.out, hz'.out]; simp [go_sem], hBB.out⟩
      · have hz : (b == 0) = false := by simpa using h0
        have hz' := Lib.hid (decide_eq_false h0)
        clear h0
        go_wp2_with fail
        refine (numbers_any 3 _ (by decide)).mono ?_
        rintro e w5 ⟨rfl, hB5⟩
        have hB6 := Lib.hid (hBB.out.trans (hB5.mono hBB.out.size))
        have hG2 := Lib.hid (hG'.out.below hB5)
        have x4' := bcells hB5 x4
        have x5' := bcells hB5 x5
        clear hB5
        rw [show (if (3 : Int) ≤ 3 then (2 : Int) else 1) = 2 from rfl]
        go_wp2_with fail
        refine (rule3_any a b hG2.out).mono ?_
        rintro e w5 ⟨rfl, rfl⟩
        go_wp2
        go_ret
        exact ⟨by rw [hbd.out, hA'.out, hC'.out, hz'.out]; simp [go_sem], hB6.out⟩
theorem numbers_4 (s : ByteArray) (u : Bool) (o a b : Int) (w : World) :
    Calls Try.prog 42 #[.agg #[.string s, .int .i64 4, .bool u, .int .i64 o, .int .i64 a, .int .i64 b]] w fun e w' => e = .returned (.bool (numB 4 a b)) ∧ Below w.heap.size w w' := by
  have hr : numB 4 a b = (rightB a && rightB b && (decide (b = 0) || decide ((4 : Int) ≤ 3)) && decide (0 < a)) := rfl
  have hx1 := Blk.new w 30 #[.string s, .int .i64 4, .bool u, .int .i64 o, .int .i64 a, .int .i64 b]
  have hbw : Below w.heap.size w (w.alloc (.cells #[.string s, .int .i64 4, .bool u, .int .i64 o, .int .i64 a, .int .i64 b] 30)) := (Below.refl _ _).alloc (Nat.le_refl _) _
  have c1 : (w.alloc (.cells #[.string s, .int .i64 4, .bool u, .int .i64 o, .int .i64 a, .int .i64 b] 30)).cell? ⟨w.heap.size, 1, none⟩ = some (.int .i64 4) := (hx1.cell 1).trans rfl
  have hX1 := Lib.hid hx1
  have hbw' := Lib.hid hbw
  have hbd := Lib.hid hr
  clear hx1 hbw hr
  go_enter Try.func42, Try.ntmps42
  go_wp2
  generalize w.alloc (.cells #[.string s, .int .i64 4, .bool u, .int .i64 o, .int .i64 a, .int .i64 b] 30) = w1 at *
  refine start_ (n := 5) (S := fun w' => w'.cell? ⟨w.heap.size, 1, none⟩ = some (.int .i64 4)) (ds := []) #[false, false, false, false, false] (by kernel_rfl) rfl rfl (c1) (fun hHeld => ?_)
  refine pure_ (i := 1) (N := some 5) (v := ?_) (a' := ?_) #[false, true, false, false, false] rfl rfl (by kernel_rfl) (fun _ _ _ h => h) (Or.inl ⟨by rfl, ?_⟩) ?_ ?_
  rotate_left
  · intro w'
    go_simp
    with_reducible rfl
  rotate_left
  · simp only [Act.put, List.setIfInBounds_toArray, List.set_cons_zero, List.set_cons_succ, i64_w, i32_w]
    rfl
  refine take_ (i := 2) (N := some 6) (v := ?_) (a' := ?_) #[false, true, true, false, false] rfl rfl (by kernel_rfl) (fun _ _ _ h => h) (Or.inl ⟨by rfl, ?_⟩) hHeld ?_ ?_
  rotate_left
  · intro w' s0
    go_simp
    with_reducible rfl
  rotate_left
  · simp only [Act.put, List.setIfInBounds_toArray, List.set_cons_zero, List.set_cons_succ, i64_w, i32_w]
    rfl
  refine one_ (i := 0) (N := some 4) #[true, true, true, false, false] rfl rfl (by kernel_rfl) (by decide) (fun K hK => ?_)
  refine goes_ Try.func57 (by kernel_rfl) rfl #[] (by rfl) rfl rfl (by simp) ?_
  with_reducible refine (rules_any (w := w1.drew)).mono ?_
  rintro e w2 ⟨bm, g, rfl, hO, hG, hB⟩
  have hB2 : Below w1.heap.size w1 w2 := ⟨hB.os, hB.tape, hB.output, hB.size, hB.block⟩
  have h1 := bcells hB2 c1
  have hlk := look_any hO 4 (by decide) (by decide)
  rw [show fV g 4 = f4 from rfl] at hlk
  unfold f4 at hlk
  have hG' := Lib.hid hG
  have hX := Lib.hid (hX1.out.below hB2)
  have hB' := Lib.hid hB2
  clear hO hG hB hB2
  refine ⟨_, rfl, ?_⟩
  refine hK.out _ _ (h1) (fun hHeld => ?_)
  clear hK K
  refine norm_ (a' := ?_) ?_ ?_
  rotate_left
  · show Act.put _ (some 4) _ = _
    simp only [Act.put, List.setIfInBounds_toArray, List.set_cons_zero, List.set_cons_succ, i64_w, i32_w]
    rfl
  refine one_ (i := 3) (N := some 7) #[true, true, true, true, false] rfl rfl (by kernel_rfl) (by decide) (fun K hK => ?_)
  refine value_ (w1 := ?_) (v := ?_) (by rfl) rfl ?_ ?_
  rotate_left 2
  · go_simp
    constructor
    · rfl
    · rfl
  refine hK.out _ _ (h1) (fun hHeld => ?_)
  clear hK K
  refine norm_ (a' := ?_) ?_ ?_
  rotate_left
  · show Act.put _ (some 7) _ = _
    simp only [Act.put, List.setIfInBounds_toArray, List.set_cons_zero, List.set_cons_succ, i64_w, i32_w]
    rfl
  refine pure_ (i := 4) (N := some 3) (v := ?_) (a' := ?_) #[true, true, true, true, true] rfl rfl (by kernel_rfl) (fun _ _ _ h => h) (Or.inl ⟨by rfl, ?_⟩) ?_ ?_
  rotate_left
  · intro w'
    go_simp
    with_reducible rfl
  rotate_left
  · simp only [Act.put, List.setIfInBounds_toArray, List.set_cons_zero, List.set_cons_succ, i64_w, i32_w]
    rfl
  refine done_ (by kernel_rfl) ?_
  have hq : ∀ W : World, (binOp BinOp.eql 74 (.func (.func 65) #[] #[]) .nilFunc).run Try.prog W = .ok (.bool false) W := fun W => by kernel_rfl
  clear c1 h1 hHeld
  have x1 : w2.cell? ⟨w.heap.size, 1, none⟩ = some (.int .i64 4) := (hX.out.cell 1).trans rfl
  have x4 : w2.cell? ⟨w.heap.size, 4, none⟩ = some (.int .i64 a) := (hX.out.cell 4).trans rfl
  have x5 : w2.cell? ⟨w.heap.size, 5, none⟩ = some (.int .i64 b) := (hX.out.cell 5).trans rfl
  have hBB := Lib.hid (hbw'.out.trans (hB'.out.mono hbw'.out.size))
  clear hlk
  cases hA : rightB a with
  | false =>
    have hA' := Lib.hid hA
    clear hA
    go_wp2_with fail
    refine (right_any a _).mono ?_
    rintro e w3 ⟨rfl, rfl⟩
    rw [hA'.out]
    go_wp2
    go_ret
    exact ⟨by rw [hbd.out]; rw [hA'.out]; first | done | rfl, hBB.out⟩
  | true =>
    have hA' := Lib.hid hA
    clear hA
    go_wp2_with fail
    refine (right_any a _).mono ?_
    rintro e w3 ⟨rfl, rfl⟩
    rw [hA'.out]
    cases hC : rightB b with
    | false =>
      have hC' := Lib.hid hC
      clear hC
      go_wp2_with fail
      refine (right_any b _).mono ?_
      rintro e w4 ⟨rfl, rfl⟩
      rw [hC'.out]
      go_wp2
      go_ret
      exact ⟨by rw [hbd.out]; rw [hA'.out, hC'.out]; rfl, hBB.out⟩
    | true =>
      have hC' := Lib.hid hC
      clear hC
      go_wp2_with fail
      refine (right_any b _).mono ?_
      rintro e w4 ⟨rfl, rfl⟩
      rw [hC'.out]
      by_cases h0 : b = 0
      · have hz : (b == 0) = true := by simpa using h0
        have hz' := Lib.hid (decide_eq_true h0)
        clear h0
        go_wp2_with fail
        refine (rule4_any a b _).mono ?_
        rintro e w5 ⟨rfl, rfl⟩
        go_wp2
        go_ret
        exact ⟨by rw [hbd.out, hA'.out, hC'.out, hz'.out]; simp [go_sem], hBB.out⟩
      · have hz : (b == 0) = false := by simpa using h0
        have hz' := Lib.hid (decide_eq_false h0)
        clear h0
        go_wp2_with fail
        refine (numbers_any 4 _ (by decide)).mono ?_
        rintro e w5 ⟨rfl, hB5⟩
        have hB6 := Lib.hid (hBB.out.trans (hB5.mono hBB.out.size))
        have hG2 := Lib.hid (hG'.out.below hB5)
        have x4' := bcells hB5 x4
        have x5' := bcells hB5 x5
        clear hB5
        rw [show (if (4 : Int) ≤ 3 then (2 : Int) else 1) = 1 from rfl]
        go_wp2
        go_ret
        exact ⟨by rw [hbd.out]; rw [hA'.out, hC'.out, hz'.out]; simp, hB6.out⟩
theorem numbers_5 (s : ByteArray) (u : Bool) (o a b : Int) (w : World) :
    Calls Try.prog 42 #[.agg #[.string s, .int .i64 5, .bool u, .int .i64 o, .int .i64 a, .int .i64 b]] w fun e w' => e = .returned (.bool (numB 5 a b)) ∧ Below w.heap.size w w' := by
  have hr : numB 5 a b = (rightB a && rightB b && (decide (b = 0) || decide ((5 : Int) ≤ 3)) && decide (0 < a)) := rfl
  have hx1 := Blk.new w 30 #[.string s, .int .i64 5, .bool u, .int .i64 o, .int .i64 a, .int .i64 b]
  have hbw : Below w.heap.size w (w.alloc (.cells #[.string s, .int .i64 5, .bool u, .int .i64 o, .int .i64 a, .int .i64 b] 30)) := (Below.refl _ _).alloc (Nat.le_refl _) _
  have c1 : (w.alloc (.cells #[.string s, .int .i64 5, .bool u, .int .i64 o, .int .i64 a, .int .i64 b] 30)).cell? ⟨w.heap.size, 1, none⟩ = some (.int .i64 5) := (hx1.cell 1).trans rfl
  have hX1 := Lib.hid hx1
  have hbw' := Lib.hid hbw
  have hbd := Lib.hid hr
  clear hx1 hbw hr
  go_enter Try.func42, Try.ntmps42
  go_wp2
  generalize w.alloc (.cells #[.string s, .int .i64 5, .bool u, .int .i64 o, .int .i64 a, .int .i64 b] 30) = w1 at *
  refine start_ (n := 5) (S := fun w' => w'.cell? ⟨w.heap.size, 1, none⟩ = some (.int .i64 5)) (ds := []) #[false, false, false, false, false] (by kernel_rfl) rfl rfl (c1) (fun hHeld => ?_)
  refine pure_ (i := 1) (N := some 5) (v := ?_) (a' := ?_) #[false, true, false, false, false] rfl rfl (by kernel_rfl) (fun _ _ _ h => h) (Or.inl ⟨by rfl, ?_⟩) ?_ ?_
  rotate_left
  · intro w'
    go_simp
    with_reducible rfl
  rotate_left
  · simp only [Act.put, List.setIfInBounds_toArray, List.set_cons_zero, List.set_cons_succ, i64_w, i32_w]
    rfl
  refine take_ (i := 2) (N := some 6) (v := ?_) (a' := ?_) #[false, true, true, false, false] rfl rfl (by kernel_rfl) (fun _ _ _ h => h) (Or.inl ⟨by rfl, ?_⟩) hHeld ?_ ?_
  rotate_left
  · intro w' s0
    go_simp
    with_reducible rfl
  rotate_left
  · simp only [Act.put, List.setIfInBounds_toArray, List.set_cons_zero, List.set_cons_succ, i64_w, i32_w]
    rfl
  refine one_ (i := 0) (N := some 4) #[true, true, true, false, false] rfl rfl (by kernel_rfl) (by decide) (fun K hK => ?_)
  refine goes_ Try.func57 (by kernel_rfl) rfl #[] (by rfl) rfl rfl (by simp) ?_
  with_reducible refine (rules_any (w := w1.drew)).mono ?_
  rintro e w2 ⟨bm, g, rfl, hO, hG, hB⟩
  have hB2 : Below w1.heap.size w1 w2 := ⟨hB.os, hB.tape, hB.output, hB.size, hB.block⟩
  have h1 := bcells hB2 c1
  have hlk := look_any hO 5 (by decide) (by decide)
  rw [show fV g 5 = f4 from rfl] at hlk
  unfold f4 at hlk
  have hG' := Lib.hid hG
  have hX := Lib.hid (hX1.out.below hB2)
  have hB' := Lib.hid hB2
  clear hO hG hB hB2
  refine ⟨_, rfl, ?_⟩
  refine hK.out _ _ (h1) (fun hHeld => ?_)
  clear hK K
  refine norm_ (a' := ?_) ?_ ?_
  rotate_left
  · show Act.put _ (some 4) _ = _
    simp only [Act.put, List.setIfInBounds_toArray, List.set_cons_zero, List.set_cons_succ, i64_w, i32_w]
    rfl
  refine one_ (i := 3) (N := some 7) #[true, true, true, true, false] rfl rfl (by kernel_rfl) (by decide) (fun K hK => ?_)
  refine value_ (w1 := ?_) (v := ?_) (by rfl) rfl ?_ ?_
  rotate_left 2
  · go_simp
    constructor
    · rfl
    · rfl
  refine hK.out _ _ (h1) (fun hHeld => ?_)
  clear hK K
  refine norm_ (a' := ?_) ?_ ?_
  rotate_left
  · show Act.put _ (some 7) _ = _
    simp only [Act.put, List.setIfInBounds_toArray, List.set_cons_zero, List.set_cons_succ, i64_w, i32_w]
    rfl
  refine pure_ (i := 4) (N := some 3) (v := ?_) (a' := ?_) #[true, true, true, true, true] rfl rfl (by kernel_rfl) (fun _ _ _ h => h) (Or.inl ⟨by rfl, ?_⟩) ?_ ?_
  rotate_left
  · intro w'
    go_simp
    with_reducible rfl
  rotate_left
  · simp only [Act.put, List.setIfInBounds_toArray, List.set_cons_zero, List.set_cons_succ, i64_w, i32_w]
    rfl
  refine done_ (by kernel_rfl) ?_
  have hq : ∀ W : World, (binOp BinOp.eql 74 (.func (.func 65) #[] #[]) .nilFunc).run Try.prog W = .ok (.bool false) W := fun W => by kernel_rfl
  clear c1 h1 hHeld
  have x1 : w2.cell? ⟨w.heap.size, 1, none⟩ = some (.int .i64 5) := (hX.out.cell 1).trans rfl
  have x4 : w2.cell? ⟨w.heap.size, 4, none⟩ = some (.int .i64 a) := (hX.out.cell 4).trans rfl
  have x5 : w2.cell? ⟨w.heap.size, 5, none⟩ = some (.int .i64 b) := (hX.out.cell 5).trans rfl
  have hBB := Lib.hid (hbw'.out.trans (hB'.out.mono hbw'.out.size))
  clear hlk
  cases hA : rightB a with
  | false =>
    have hA' := Lib.hid hA
    clear hA
    go_wp2_with fail
    refine (right_any a _).mono ?_
    rintro e w3 ⟨rfl, rfl⟩
    rw [hA'.out]
    go_wp2
    go_ret
    exact ⟨by rw [hbd.out]; rw [hA'.out]; first | done | rfl, hBB.out⟩
  | true =>
    have hA' := Lib.hid hA
    clear hA
    go_wp2_with fail
    refine (right_any a _).mono ?_
    rintro e w3 ⟨rfl, rfl⟩
    rw [hA'.out]
    cases hC : rightB b with
    | false =>
      have hC' := Lib.hid hC
      clear hC
      go_wp2_with fail
      refine (right_any b _).mono ?_
      rintro e w4 ⟨rfl, rfl⟩
      rw [hC'.out]
      go_wp2
      go_ret
      exact ⟨by rw [hbd.out]; rw [hA'.out, hC'.out]; rfl, hBB.out⟩
    | true =>
      have hC' := Lib.hid hC
      clear hC
      go_wp2_with fail
      refine (right_any b _).mono ?_
      rintro e w4 ⟨rfl, rfl⟩
      rw [hC'.out]
      by_cases h0 : b = 0
      · have hz : (b == 0) = true := by simpa using h0
        have hz' := Lib.hid (decide_eq_true h0)
        clear h0
        go_wp2_with fail
        refine (rule4_any a b _).mono ?_
        rintro e w5 ⟨rfl, rfl⟩
        go_wp2
        go_ret
        exact ⟨by rw [hbd.out, hA'.out, hC'.out, hz'.out]; simp [go_sem], hBB.out⟩
      · have hz : (b == 0) = false := by simpa using h0
        have hz' := Lib.hid (decide_eq_false h0)
        clear h0
        go_wp2_with fail
        refine (numbers_any 5 _ (by decide)).mono ?_
        rintro e w5 ⟨rfl, hB5⟩
        have hB6 := Lib.hid (hBB.out.trans (hB5.mono hBB.out.size))
        have hG2 := Lib.hid (hG'.out.below hB5)
        have x4' := bcells hB5 x4
        have x5' := bcells hB5 x5
        clear hB5
        rw [show (if (5 : Int) ≤ 3 then (2 : Int) else 1) = 1 from rfl]
        go_wp2
        go_ret
        exact ⟨by rw [hbd.out]; rw [hA'.out, hC'.out, hz'.out]; simp, hB6.out⟩
theorem numbers_6 (s : ByteArray) (u : Bool) (o a b : Int) (w : World) :
    Calls Try.prog 42 #[.agg #[.string s, .int .i64 6, .bool u, .int .i64 o, .int .i64 a, .int .i64 b]] w fun e w' => e = .returned (.bool (numB 6 a b)) ∧ Below w.heap.size w w' := by
  have hr : numB 6 a b = (rightB a && rightB b && (decide (b = 0) || decide ((6 : Int) ≤ 3)) && true) := rfl
  have hx1 := Blk.new w 30 #[.string s, .int .i64 6, .bool u, .int .i64 o, .int .i64 a, .int .i64 b]
  have hbw : Below w.heap.size w (w.alloc (.cells #[.string s, .int .i64 6, .bool u, .int .i64 o, .int .i64 a, .int .i64 b] 30)) := (Below.refl _ _).alloc (Nat.le_refl _) _
  have c1 : (w.alloc (.cells #[.string s, .int .i64 6, .bool u, .int .i64 o, .int .i64 a, .int .i64 b] 30)).cell? ⟨w.heap.size, 1, none⟩ = some (.int .i64 6) := (hx1.cell 1).trans rfl
  have hX1 := Lib.hid hx1
  have hbw' := Lib.hid hbw
  have hbd := Lib.hid hr
  clear hx1 hbw hr
  go_enter Try.func42, Try.ntmps42
  go_wp2
  generalize w.alloc (.cells #[.string s, .int .i64 6, .bool u, .int .i64 o, .int .i64 a, .int .i64 b] 30) = w1 at *
  refine start_ (n := 5) (S := fun w' => w'.cell? ⟨w.heap.size, 1, none⟩ = some (.int .i64 6)) (ds := []) #[false, false, false, false, false] (by kernel_rfl) rfl rfl (c1) (fun hHeld => ?_)
  refine pure_ (i := 1) (N := some 5) (v := ?_) (a' := ?_) #[false, true, false, false, false] rfl rfl (by kernel_rfl) (fun _ _ _ h => h) (Or.inl ⟨by rfl, ?_⟩) ?_ ?_
  rotate_left
  · intro w'
    go_simp
    with_reducible rfl
  rotate_left
  · simp only [Act.put, List.setIfInBounds_toArray, List.set_cons_zero, List.set_cons_succ, i64_w, i32_w]
    rfl
  refine take_ (i := 2) (N := some 6) (v := ?_) (a' := ?_) #[false, true, true, false, false] rfl rfl (by kernel_rfl) (fun _ _ _ h => h) (Or.inl ⟨by rfl, ?_⟩) hHeld ?_ ?_
  rotate_left
  · intro w' s0
    go_simp
    with_reducible rfl
  rotate_left
  · simp only [Act.put, List.setIfInBounds_toArray, List.set_cons_zero, List.set_cons_succ, i64_w, i32_w]
    rfl
  refine one_ (i := 0) (N := some 4) #[true, true, true, false, false] rfl rfl (by kernel_rfl) (by decide) (fun K hK => ?_)
  refine goes_ Try.func57 (by kernel_rfl) rfl #[] (by rfl) rfl rfl (by simp) ?_
  with_reducible refine (rules_any (w := w1.drew)).mono ?_
  rintro e w2 ⟨bm, g, rfl, hO, hG, hB⟩
  have hB2 : Below w1.heap.size w1 w2 := ⟨hB.os, hB.tape, hB.output, hB.size, hB.block⟩
  have h1 := bcells hB2 c1
  have hlk := look_any hO 6 (by decide) (by decide)
  rw [show fV g 6 = .nilFunc from rfl] at hlk
  have hG' := Lib.hid hG
  have hX := Lib.hid (hX1.out.below hB2)
  have hB' := Lib.hid hB2
  clear hO hG hB hB2
  refine ⟨_, rfl, ?_⟩
  refine hK.out _ _ (h1) (fun hHeld => ?_)
  clear hK K
  refine norm_ (a' := ?_) ?_ ?_
  rotate_left
  · show Act.put _ (some 4) _ = _
    simp only [Act.put, List.setIfInBounds_toArray, List.set_cons_zero, List.set_cons_succ, i64_w, i32_w]
    rfl
  refine one_ (i := 3) (N := some 7) #[true, true, true, true, false] rfl rfl (by kernel_rfl) (by decide) (fun K hK => ?_)
  refine value_ (w1 := ?_) (v := ?_) (by rfl) rfl ?_ ?_
  rotate_left 2
  · go_simp
    constructor
    · rfl
    · rfl
  refine hK.out _ _ (h1) (fun hHeld => ?_)
  clear hK K
  refine norm_ (a' := ?_) ?_ ?_
  rotate_left
  · show Act.put _ (some 7) _ = _
    simp only [Act.put, List.setIfInBounds_toArray, List.set_cons_zero, List.set_cons_succ, i64_w, i32_w]
    rfl
  refine pure_ (i := 4) (N := some 3) (v := ?_) (a' := ?_) #[true, true, true, true, true] rfl rfl (by kernel_rfl) (fun _ _ _ h => h) (Or.inl ⟨by rfl, ?_⟩) ?_ ?_
  rotate_left
  · intro w'
    go_simp
    with_reducible rfl
  rotate_left
  · simp only [Act.put, List.setIfInBounds_toArray, List.set_cons_zero, List.set_cons_succ, i64_w, i32_w]
    rfl
  refine done_ (by kernel_rfl) ?_
  have hq : ∀ W : World, (binOp BinOp.eql 74 .nilFunc .nilFunc).run Try.prog W = .ok (.bool true) W := fun W => by kernel_rfl
  clear c1 h1 hHeld
  have x1 : w2.cell? ⟨w.heap.size, 1, none⟩ = some (.int .i64 6) := (hX.out.cell 1).trans rfl
  have x4 : w2.cell? ⟨w.heap.size, 4, none⟩ = some (.int .i64 a) := (hX.out.cell 4).trans rfl
  have x5 : w2.cell? ⟨w.heap.size, 5, none⟩ = some (.int .i64 b) := (hX.out.cell 5).trans rfl
  have hBB := Lib.hid (hbw'.out.trans (hB'.out.mono hbw'.out.size))
  clear hlk
  cases hA : rightB a with
  | false =>
    have hA' := Lib.hid hA
    clear hA
    go_wp2_with fail
    refine (right_any a _).mono ?_
    rintro e w3 ⟨rfl, rfl⟩
    rw [hA'.out]
    go_wp2
    go_ret
    exact ⟨by rw [hbd.out]; rw [hA'.out]; first | done | rfl, hBB.out⟩
  | true =>
    have hA' := Lib.hid hA
    clear hA
    go_wp2_with fail
    refine (right_any a _).mono ?_
    rintro e w3 ⟨rfl, rfl⟩
    rw [hA'.out]
    cases hC : rightB b with
    | false =>
      have hC' := Lib.hid hC
      clear hC
      go_wp2_with fail
      refine (right_any b _).mono ?_
      rintro e w4 ⟨rfl, rfl⟩
      rw [hC'.out]
      go_wp2
      go_ret
      exact ⟨by rw [hbd.out]; rw [hA'.out, hC'.out]; rfl, hBB.out⟩
    | true =>
      have hC' := Lib.hid hC
      clear hC
      go_wp2_with fail
      refine (right_any b _).mono ?_
      rintro e w4 ⟨rfl, rfl⟩
      rw [hC'.out]
      by_cases h0 : b = 0
      · have hz : (b == 0) = true := by simpa using h0
        have hz' := Lib.hid (decide_eq_true h0)
        clear h0
        go_wp2
        go_ret
        exact ⟨by rw [hbd.out, hA'.out, hC'.out, hz'.out]; simp [go_sem], hBB.out⟩
      · have hz : (b == 0) = false := by simpa using h0
        have hz' := Lib.hid (decide_eq_false h0)
        clear h0
        go_wp2_with fail
        refine (numbers_any 6 _ (by decide)).mono ?_
        rintro e w5 ⟨rfl, hB5⟩
        have hB6 := Lib.hid (hBB.out.trans (hB5.mono hBB.out.size))
        have hG2 := Lib.hid (hG'.out.below hB5)
        have x4' := bcells hB5 x4
        have x5' := bcells hB5 x5
        clear hB5
        rw [show (if (6 : Int) ≤ 3 then (2 : Int) else 1) = 1 from rfl]
        go_wp2
        go_ret
        exact ⟨by rw [hbd.out]; rw [hA'.out, hC'.out, hz'.out]; simp, hB6.out⟩
theorem numbers_7 (s : ByteArray) (u : Bool) (o a b : Int) (w : World) :
    Calls Try.prog 42 #[.agg #[.string s, .int .i64 7, .bool u, .int .i64 o, .int .i64 a, .int .i64 b]] w fun e w' => e = .returned (.bool (numB 7 a b)) ∧ Below w.heap.size w w' := by
  have hr : numB 7 a b = (rightB a && rightB b && (decide (b = 0) || decide ((7 : Int) ≤ 3)) && true) := rfl
  have hx1 := Blk.new w 30 #[.string s, .int .i64 7, .bool u, .int .i64 o, .int .i64 a, .int .i64 b]
  have hbw : Below w.heap.size w (w.alloc (.cells #[.string s, .int .i64 7, .bool u, .int .i64 o, .int .i64 a, .int .i64 b] 30)) := (Below.refl _ _).alloc (Nat.le_refl _) _
  have c1 : (w.alloc (.cells #[.string s, .int .i64 7, .bool u, .int .i64 o, .int .i64 a, .int .i64 b] 30)).cell? ⟨w.heap.size, 1, none⟩ = some (.int .i64 7) := (hx1.cell 1).trans rfl
  have hX1 := Lib.hid hx1
  have hbw' := Lib.hid hbw
  have hbd := Lib.hid hr
  clear hx1 hbw hr
  go_enter Try.func42, Try.ntmps42
  go_wp2
  generalize w.alloc (.cells #[.string s, .int .i64 7, .bool u, .int .i64 o, .int .i64 a, .int .i64 b] 30) = w1 at *
  refine start_ (n := 5) (S := fun w' => w'.cell? ⟨w.heap.size, 1, none⟩ = some (.int .i64 7)) (ds := []) #[false, false, false, false, false] (by kernel_rfl) rfl rfl (c1) (fun hHeld => ?_)
  refine pure_ (i := 1) (N := some 5) (v := ?_) (a' := ?_) #[false, true, false, false, false] rfl rfl (by kernel_rfl) (fun _ _ _ h => h) (Or.inl ⟨by rfl, ?_⟩) ?_ ?_
  rotate_left
  · intro w'
    go_simp
    with_reducible rfl
  rotate_left
  · simp only [Act.put, List.setIfInBounds_toArray, List.set_cons_zero, List.set_cons_succ, i64_w, i32_w]
    rfl
  refine take_ (i := 2) (N := some 6) (v := ?_) (a' := ?_) #[false, true, true, false, false] rfl rfl (by kernel_rfl) (fun _ _ _ h => h) (Or.inl ⟨by rfl, ?_⟩) hHeld ?_ ?_
  rotate_left
  · intro w' s0
    go_simp
    with_reducible rfl
  rotate_left
  · simp only [Act.put, List.setIfInBounds_toArray, List.set_cons_zero, List.set_cons_succ, i64_w, i32_w]
    rfl
  refine one_ (i := 0) (N := some 4) #[true, true, true, false, false] rfl rfl (by kernel_rfl) (by decide) (fun K hK => ?_)
  refine goes_ Try.func57 (by kernel_rfl) rfl #[] (by rfl) rfl rfl (by simp) ?_
  with_reducible refine (rules_any (w := w1.drew)).mono ?_
  rintro e w2 ⟨bm, g, rfl, hO, hG, hB⟩
  have hB2 : Below w1.heap.size w1 w2 := ⟨hB.os, hB.tape, hB.output, hB.size, hB.block⟩
  have h1 := bcells hB2 c1
  have hlk := look_any hO 7 (by decide) (by decide)
  rw [show fV g 7 = .nilFunc from rfl] at hlk
  have hG' := Lib.hid hG
  have hX := Lib.hid (hX1.out.below hB2)
  have hB' := Lib.hid hB2
  clear hO hG hB hB2
  refine ⟨_, rfl, ?_⟩
  refine hK.out _ _ (h1) (fun hHeld => ?_)
  clear hK K
  refine norm_ (a' := ?_) ?_ ?_
  rotate_left
  · show Act.put _ (some 4) _ = _
    simp only [Act.put, List.setIfInBounds_toArray, List.set_cons_zero, List.set_cons_succ, i64_w, i32_w]
    rfl
  refine one_ (i := 3) (N := some 7) #[true, true, true, true, false] rfl rfl (by kernel_rfl) (by decide) (fun K hK => ?_)
  refine value_ (w1 := ?_) (v := ?_) (by rfl) rfl ?_ ?_
  rotate_left 2
  · go_simp
    constructor
    · rfl
    · rfl
  refine hK.out _ _ (h1) (fun hHeld => ?_)
  clear hK K
  refine norm_ (a' := ?_) ?_ ?_
  rotate_left
  · show Act.put _ (some 7) _ = _
    simp only [Act.put, List.setIfInBounds_toArray, List.set_cons_zero, List.set_cons_succ, i64_w, i32_w]
    rfl
  refine pure_ (i := 4) (N := some 3) (v := ?_) (a' := ?_) #[true, true, true, true, true] rfl rfl (by kernel_rfl) (fun _ _ _ h => h) (Or.inl ⟨by rfl, ?_⟩) ?_ ?_
  rotate_left
  · intro w'
    go_simp
    with_reducible rfl
  rotate_left
  · simp only [Act.put, List.setIfInBounds_toArray, List.set_cons_zero, List.set_cons_succ, i64_w, i32_w]
    rfl
  refine done_ (by kernel_rfl) ?_
  have hq : ∀ W : World, (binOp BinOp.eql 74 .nilFunc .nilFunc).run Try.prog W = .ok (.bool true) W := fun W => by kernel_rfl
  clear c1 h1 hHeld
  have x1 : w2.cell? ⟨w.heap.size, 1, none⟩ = some (.int .i64 7) := (hX.out.cell 1).trans rfl
  have x4 : w2.cell? ⟨w.heap.size, 4, none⟩ = some (.int .i64 a) := (hX.out.cell 4).trans rfl
  have x5 : w2.cell? ⟨w.heap.size, 5, none⟩ = some (.int .i64 b) := (hX.out.cell 5).trans rfl
  have hBB := Lib.hid (hbw'.out.trans (hB'.out.mono hbw'.out.size))
  clear hlk
  cases hA : rightB a with
  | false =>
    have hA' := Lib.hid hA
    clear hA
    go_wp2_with fail
    refine (right_any a _).mono ?_
    rintro e w3 ⟨rfl, rfl⟩
    rw [hA'.out]
    go_wp2
    go_ret
    exact ⟨by rw [hbd.out]; rw [hA'.out]; first | done | rfl, hBB.out⟩
  | true =>
    have hA' := Lib.hid hA
    clear hA
    go_wp2_with fail
    refine (right_any a _).mono ?_
    rintro e w3 ⟨rfl, rfl⟩
    rw [hA'.out]
    cases hC : rightB b with
    | false =>
      have hC' := Lib.hid hC
      clear hC
      go_wp2_with fail
      refine (right_any b _).mono ?_
      rintro e w4 ⟨rfl, rfl⟩
      rw [hC'.out]
      go_wp2
      go_ret
      exact ⟨by rw [hbd.out]; rw [hA'.out, hC'.out]; rfl, hBB.out⟩
    | true =>
      have hC' := Lib.hid hC
      clear hC
      go_wp2_with fail
      refine (right_any b _).mono ?_
      rintro e w4 ⟨rfl, rfl⟩
      rw [hC'.out]
      by_cases h0 : b = 0
      · have hz : (b == 0) = true := by simpa using h0
        have hz' := Lib.hid (decide_eq_true h0)
        clear h0
        go_wp2
        go_ret
        exact ⟨by rw [hbd.out, hA'.out, hC'.out, hz'.out]; simp [go_sem], hBB.out⟩
      · have hz : (b == 0) = false := by simpa using h0
        have hz' := Lib.hid (decide_eq_false h0)
        clear h0
        go_wp2_with fail
        refine (numbers_any 7 _ (by decide)).mono ?_
        rintro e w5 ⟨rfl, hB5⟩
        have hB6 := Lib.hid (hBB.out.trans (hB5.mono hBB.out.size))
        have hG2 := Lib.hid (hG'.out.below hB5)
        have x4' := bcells hB5 x4
        have x5' := bcells hB5 x5
        clear hB5
        rw [show (if (7 : Int) ≤ 3 then (2 : Int) else 1) = 1 from rfl]
        go_wp2
        go_ret
        exact ⟨by rw [hbd.out]; rw [hA'.out, hC'.out, hz'.out]; simp, hB6.out⟩
theorem numbers_all (s : ByteArray) (k : Int) (u : Bool) (o a b : Int) (w : World) (h : kindB k = true) :
    Calls Try.prog 42 #[.agg #[.string s, .int .i64 k, .bool u, .int .i64 o, .int .i64 a, .int .i64 b]] w fun e w' => e = .returned (.bool (numB k a b)) ∧ Below w.heap.size w w' := by
  have h8 : k = 1 ∨ k = 2 ∨ k = 3 ∨ k = 4 ∨ k = 5 ∨ k = 6 ∨ k = 7 := by simp [kindB] at h; omega
  rcases h8 with rfl | rfl | rfl | rfl | rfl | rfl | rfl
  · exact numbers_1 s u o a b w
  · exact numbers_2 s u o a b w
  · exact numbers_3 s u o a b w
  · exact numbers_4 s u o a b w
  · exact numbers_5 s u o a b w
  · exact numbers_6 s u o a b w
  · exact numbers_7 s u o a b w
end Go.Proofs.Ytehpliclknfmoaa.Toxic
