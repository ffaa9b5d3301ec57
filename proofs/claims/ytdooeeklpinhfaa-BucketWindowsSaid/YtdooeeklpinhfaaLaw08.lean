/- The laws of buckets (chapter 08): each law's function returns true. Conditions: the numbers are of their kinds. -/
import Derived.Test.YtdooeeklpinhfaaRef08B
import Derived.Deep.DeepCutAuto
import Derived.Deep.CutBlock
namespace Go.Proofs.Ytdooeeklpinhfaa.Law08
open Go.RowKit Tick Bucket
set_option maxRecDepth 100000
set_option linter.unusedVariables false
set_option linter.unusedSimpArgs false

theorem new_yes (r b now : Int) (w : World) (h : okB r b b now = true) :
    Calls Try.prog 20 #[.int .i64 r, .int .i64 b, .int .i64 now] w fun e w' => e = .returned (.tuple #[.agg #[.int .i64 r, .int .i64 b, .int .i64 b, .int .i64 now], .int .i64 0]) ∧ Below w.heap.size w w' := by
  have hk := Lib.hid h
  clear h
  go_enter Try.func20, Try.ntmps20
  have hB0 := ((Below.refl w.heap.size w).alloc (Nat.le_refl _) (.cells #[.int .i64 0, .int .i64 0, .int .i64 0, .int .i64 0] 24)).alloc (by simp) (.cells #[.int .i64 r, .int .i64 b, .int .i64 b, .int .i64 now] 24)
  have hrs := Lib.hid ((Cls.Box4.new w (.int .i64 0) (.int .i64 0) (.int .i64 0) (.int .i64 0) 24).old (.cells #[.int .i64 r, .int .i64 b, .int .i64 b, .int .i64 now] 24))
  have hbx := Lib.hid (Cls.Box4.new (w.alloc (.cells #[.int .i64 0, .int .i64 0, .int .i64 0, .int .i64 0] 24)) (.int .i64 r) (.int .i64 b) (.int .i64 b) (.int .i64 now) 24)
  go_wp2_with fail
  refine (right_any r b b now _).mono ?_
  rintro e w1 ⟨rfl, hb1⟩
  rw [hk.out]
  obtain ⟨c0, c1, c2, c3, f0, f1, f2, f3, hz⟩ := hbx.out.below hb1
  rw [World.size_alloc] at c0 c1 c2 c3 f0 f1 f2 f3 hz
  obtain ⟨z0, z1, z2, z3, y0, y1, y2, y3, hy⟩ := hrs.out.below hb1
  have hB1 := hB0.trans (hb1.mono (by simp; omega))
  clear hB0 hb1 hbx hrs f0 f1 f2 f3
  go_wp2
  exact bodyPost_ret (v := .tuple #[.agg #[.int .i64 r, .int .i64 b, .int .i64 b, .int .i64 now], .int .i64 0]) (by simp [results, Try.results20, go_sem, z0, z1, z2, z3, hy]) rfl ⟨rfl, ((((hB1.setCell (p := ⟨w.heap.size, 0, none⟩) (by show w.heap.size ≤ w.heap.size; omega) _).setCell (p := ⟨w.heap.size, 1, none⟩) (by show w.heap.size ≤ w.heap.size; omega) _).setCell (p := ⟨w.heap.size, 2, none⟩) (by show w.heap.size ≤ w.heap.size; omega) _).setCell (p := ⟨w.heap.size, 3, none⟩) (by show w.heap.size ≤ w.heap.size; omega) _)⟩

theorem new_no (r b now : Int) (w : World) (h : okB r b b now = false) :
    Calls Try.prog 20 #[.int .i64 r, .int .i64 b, .int .i64 now] w fun e w' => e = .returned (.tuple #[.agg #[.int .i64 0, .int .i64 0, .int .i64 0, .int .i64 0], .int .i64 1]) ∧ Below w.heap.size w w' := by
  have hk := Lib.hid h
  clear h
  go_enter Try.func20, Try.ntmps20
  have hB0 := ((Below.refl w.heap.size w).alloc (Nat.le_refl _) (.cells #[.int .i64 0, .int .i64 0, .int .i64 0, .int .i64 0] 24)).alloc (by simp) (.cells #[.int .i64 r, .int .i64 b, .int .i64 b, .int .i64 now] 24)
  have hrs := Lib.hid ((Cls.Box4.new w (.int .i64 0) (.int .i64 0) (.int .i64 0) (.int .i64 0) 24).old (.cells #[.int .i64 r, .int .i64 b, .int .i64 b, .int .i64 now] 24))
  go_wp2_with fail
  refine (right_any r b b now _).mono ?_
  rintro e w1 ⟨rfl, hb1⟩
  rw [hk.out]
  obtain ⟨z0, z1, z2, z3, y0, y1, y2, y3, hy⟩ := hrs.out.below hb1
  have hB1 := hB0.trans (hb1.mono (by simp; omega))
  clear hB0 hb1 hrs
  go_wp2
  exact bodyPost_ret (v := .tuple #[.agg #[.int .i64 0, .int .i64 0, .int .i64 0, .int .i64 0], .int .i64 1]) (by simp [results, Try.results20, go_sem, z0, z1, z2, z3, hy]) rfl ⟨rfl, ((((hB1.setCell (p := ⟨w.heap.size, 0, none⟩) (by show w.heap.size ≤ w.heap.size; omega) _).setCell (p := ⟨w.heap.size, 1, none⟩) (by show w.heap.size ≤ w.heap.size; omega) _).setCell (p := ⟨w.heap.size, 2, none⟩) (by show w.heap.size ≤ w.heap.size; omega) _).setCell (p := ⟨w.heap.size, 3, none⟩) (by show w.heap.size ≤ w.heap.size; omega) _)⟩

theorem alive_any (w : World) : Calls Try.prog 13 #[] w fun e w' => e = .returned (.bool true) ∧ Below w.heap.size w w' := by
  go_enter Try.func13, Try.ntmps13
  go_wp2_with fail
  refine (new_yes 3 10 0 _ (by kernel_rfl)).mono ?_
  rintro e w1 ⟨rfl, hb1⟩
  have hB1 := hb1
  have hx := Lib.hid (Cls.Box4.new w1 (.int .i64 3) (.int .i64 10) (.int .i64 10) (.int .i64 0) 24)
  have hB2 := hB1.alloc hB1.size (.cells #[.int .i64 3, .int .i64 10, .int .i64 10, .int .i64 0] 24)
  have hle : w.heap.size ≤ w1.heap.size := hb1.size
  have v1 := Lib.hid (show takeL 3 10 10 0 0 12 = 0 by kernel_rfl)
  have v2 := Lib.hid (show takeT 3 10 10 0 0 12 = 0 by kernel_rfl)
  have v3 := Lib.hid (show takeK 3 10 10 0 0 12 = 10 by kernel_rfl)
  have v4 := Lib.hid (show takeL 3 10 0 0 2 9 = 0 by kernel_rfl)
  have v5 := Lib.hid (show takeT 3 10 0 0 2 9 = 2 by kernel_rfl)
  have v6 := Lib.hid (show takeK 3 10 0 0 2 9 = 6 by kernel_rfl)
  have v7 := Lib.hid (show whenT 3 10 0 2 10 = 6 by kernel_rfl)
  have v8 := Lib.hid (show whenB 3 10 0 2 10 = true by kernel_rfl)
  have v9 := Lib.hid (show okB 3 10 0 2 = true by kernel_rfl)
  have v10 := Lib.hid (show mostN 3 10 0 2 2 = 16 by kernel_rfl)
  go_wp2_with fail
  refine (take_any 3 10 10 0 0 12 _).mono ?_
  rintro e w2 ⟨rfl, hb2⟩
  rw [v1.out, v2.out, v3.out]
  have hx2 := hx.out.below hb2
  have hB3 := Cls.below_put4 (hB2.trans (hb2.mono hB2.size)) hle (.int .i64 3) (.int .i64 10) (.int .i64 0) (.int .i64 0)
  have hx3 := Lib.hid (hx2.put (.int .i64 3) (.int .i64 10) (.int .i64 0) (.int .i64 0))
  obtain ⟨c0, c1, c2, c3, f0, f1, f2, f3, hz⟩ := hx2
  clear hB2 hb2 hx
  dsimp only
  go_upto_region 5 with (fail)
  change Code.wp _ _ _ _ (Cls.put4 w2 w1.heap.size (.int .i64 3) (.int .i64 10) (.int .i64 0) (.int .i64 0))
  generalize Cls.put4 w2 w1.heap.size (.int .i64 3) (.int .i64 10) (.int .i64 0) (.int .i64 0) = w3 at *
  clear c0 c1 c2 c3 f0 f1 f2 f3 hz
  obtain ⟨c0, c1, c2, c3, f0, f1, f2, f3, hz⟩ := hx3.out
  go_wp2_with fail
  refine (take_any 3 10 0 0 2 9 _).mono ?_
  rintro e w4 ⟨rfl, hb4⟩
  rw [v4.out, v5.out, v6.out]
  have hx4 := hx3.out.below hb4
  have hB5 := Cls.below_put4 (hB3.trans (hb4.mono hB3.size)) hle (.int .i64 3) (.int .i64 10) (.int .i64 0) (.int .i64 2)
  have hx5 := Lib.hid (hx4.put (.int .i64 3) (.int .i64 10) (.int .i64 0) (.int .i64 2))
  clear c0 c1 c2 c3 f0 f1 f2 f3 hz
  obtain ⟨c0, c1, c2, c3, f0, f1, f2, f3, hz⟩ := hx4
  clear hB3 hb4 hx3
  dsimp only
  go_upto_region 6 with (fail)
  change Code.wp _ _ _ _ (Cls.put4 w4 w1.heap.size (.int .i64 3) (.int .i64 10) (.int .i64 0) (.int .i64 2))
  generalize Cls.put4 w4 w1.heap.size (.int .i64 3) (.int .i64 10) (.int .i64 0) (.int .i64 2) = w5 at *
  clear c0 c1 c2 c3 f0 f1 f2 f3 hz
  obtain ⟨c0, c1, c2, c3, f0, f1, f2, f3, hz⟩ := hx5.out
  clear f0 f1 f2 f3
  go_wp2_with fail
  refine (when_any 3 10 0 2 10 _).mono ?_
  rintro e w6 ⟨rfl, hb6⟩
  rw [v7.out, v8.out]
  have hB6 := hB5.trans (hb6.mono hB5.size)
  have hx6 := Lib.hid (hx5.out.below hb6)
  clear c0 c1 c2 c3 hz
  obtain ⟨c0, c1, c2, c3, f0, f1, f2, f3, hz⟩ := hx6.out
  clear f0 f1 f2 f3 hb6 hx5 hB5
  go_wp2_with fail
  refine (right_any 3 10 0 2 _).mono ?_
  rintro e w7 ⟨rfl, hb7⟩
  rw [v9.out]
  have hB7 := hB6.trans (hb7.mono hB6.size)
  have hx7 := hx6.out.below hb7
  clear c0 c1 c2 c3 hz
  obtain ⟨c0, c1, c2, c3, f0, f1, f2, f3, hz⟩ := hx7
  clear f0 f1 f2 f3 hb7 hx6 hB6
  go_wp2_with fail
  refine (most_any 3 10 0 2 2 _).mono ?_
  rintro e w8 ⟨rfl, hb8⟩
  rw [v10.out]
  go_wp2
  go_ret
  exact ⟨rfl, hB7.trans (hb8.mono hB7.size)⟩


set_option maxHeartbeats 4000000 in
theorem all (r b l t now n : Int) (w : World) :
    Calls Try.prog 3 #[.agg #[.int .i64 r, .int .i64 b, .int .i64 l, .int .i64 t], .int .i64 now, .int .i64 n] w fun e w' => e = .returned (.bool true) ∧ Below w.heap.size w w' := by
  go_enter Try.func3, Try.ntmps3
  have hB := ((Below.refl w.heap.size w).alloc (Nat.le_refl _) (.cells #[.int .i64 r, .int .i64 b, .int .i64 l, .int .i64 t] 23)).alloc (by simp) (.cells #[.int .i64 r, .int .i64 b, .int .i64 l, .int .i64 t] 24)
  have X0 := Lib.hid ((Cls.Box4.new w (.int .i64 r) (.int .i64 b) (.int .i64 l) (.int .i64 t) 23).old (.cells #[.int .i64 r, .int .i64 b, .int .i64 l, .int .i64 t] 24))
  have X1 := Lib.hid (Cls.Box4.new (w.alloc (.cells #[.int .i64 r, .int .i64 b, .int .i64 l, .int .i64 t] 23)) (.int .i64 r) (.int .i64 b) (.int .i64 l) (.int .i64 t) 24)
  go_wp2_with fail
  refine (take_any r b l t now n _).mono ?_
  rintro e w1 ⟨rfl, hb1⟩
  have hB1 := hB.trans (hb1.mono (by simp; omega))
  have X0a := Lib.hid (X0.out.below hb1)
  have X1a := Lib.hid (X1.out.below hb1)
  have X8 := Lib.hid (Cls.Box4.new w1 (.int .i64 r) (.int .i64 b) (.int .i64 (takeL r b l t now n)) (.int .i64 (takeT r b l t now n)) 24)
  clear X0 X1 hB hb1
  obtain ⟨c0, c1, c2, c3, _, _, _, _, hz⟩ := X0a.out
  go_wp2_with fail
  refine (Ref08.take_any r b l t now n _).mono ?_
  rintro e w2 ⟨rfl, hb2⟩
  have hB2 := (hB1.alloc hB1.size (.cells #[.int .i64 r, .int .i64 b, .int .i64 (takeL r b l t now n), .int .i64 (takeT r b l t now n)] 24)).trans (hb2.mono (by have := hB1.size; simp; omega))
  have X0 := Lib.hid ((X0a.out.old (.cells #[.int .i64 r, .int .i64 b, .int .i64 (takeL r b l t now n), .int .i64 (takeT r b l t now n)] 24)).below hb2)
  have X1 := Lib.hid ((X1a.out.old (.cells #[.int .i64 r, .int .i64 b, .int .i64 (takeL r b l t now n), .int .i64 (takeT r b l t now n)] 24)).below hb2)
  have X8a := Lib.hid (X8.out.below hb2)
  have X10 := Lib.hid (Cls.Box4.new w2 (.int .i64 r) (.int .i64 b) (.int .i64 (takeL r b l t now n)) (.int .i64 (takeT r b l t now n)) 23)
  clear X0a X1a X8 hB1 hb2 c0 c1 c2 c3 hz
  obtain ⟨c0, c1, c2, c3, _, _, _, _, hz⟩ := X1.out
  rw [World.size_alloc] at c0 c1 c2 c3 hz
  go_wp2_with fail
  refine (when_any r b l t n _).mono ?_
  rintro e w3 ⟨rfl, hb3⟩
  have hB3 := (hB2.alloc hB2.size (.cells #[.int .i64 r, .int .i64 b, .int .i64 (takeL r b l t now n), .int .i64 (takeT r b l t now n)] 23)).trans (hb3.mono (by have := hB2.size; simp; omega))
  have X0a := Lib.hid ((X0.out.old (.cells #[.int .i64 r, .int .i64 b, .int .i64 (takeL r b l t now n), .int .i64 (takeT r b l t now n)] 23)).below hb3)
  have X1a := Lib.hid ((X1.out.old (.cells #[.int .i64 r, .int .i64 b, .int .i64 (takeL r b l t now n), .int .i64 (takeT r b l t now n)] 23)).below hb3)
  have X8 := Lib.hid ((X8a.out.old (.cells #[.int .i64 r, .int .i64 b, .int .i64 (takeL r b l t now n), .int .i64 (takeT r b l t now n)] 23)).below hb3)
  have X10a := Lib.hid (X10.out.below hb3)
  clear X0 X1 X8a X10 hB2 hb3 c0 c1 c2 c3 hz
  obtain ⟨c0, c1, c2, c3, _, _, _, _, hz⟩ := X0a.out
  go_wp2_with fail
  refine (Ref08.when_any r b l t n _).mono ?_
  rintro e w4 ⟨rfl, hb4⟩
  have hB4 := hB3.trans (hb4.mono hB3.size)
  have X0 := Lib.hid (X0a.out.below hb4)
  have X1 := Lib.hid (X1a.out.below hb4)
  have X8a := Lib.hid (X8.out.below hb4)
  have X10 := Lib.hid (X10a.out.below hb4)
  clear X0a X1a X8 X10a hB3 hb4 c0 c1 c2 c3 hz
  rw [World.size_alloc] at X1
  have X8 := X8a
  go_wp2
  refine Cls.region (fun w' => Below w4.heap.size w4 w') (by kernel_rfl) (by kernel_rfl) (Below.refl _ _).drew ?_
  refine Cls.call 13 #[] ((.bool true)) rfl (fun w' => ?_) (fun w' hw' => (alive_any w').mono ?_) ?_
  · go_simp
  · rintro e w'' ⟨rfl, hb⟩; exact ⟨rfl, hw'.trans (hb.mono hw'.size)⟩
  simp only [Act.put, List.setIfInBounds_toArray, List.set_cons_zero, List.set_cons_succ]
  refine Cls.value ?_ rfl (fun w' hw' => ?_) ?_
  rotate_left
  · go_simp; rfl
  simp only [Act.put, List.setIfInBounds_toArray, List.set_cons_zero, List.set_cons_succ]
  refine Cls.valueG ?_ (by go_simp) (fun w' hw' => ?_) ?_
  rotate_left
  · obtain ⟨q0, q1, q2, q3, _, _, _, _, qz⟩ := X1.out.below hw'; go_simp; rfl
  simp only [Act.put, List.setIfInBounds_toArray, List.set_cons_zero, List.set_cons_succ]
  refine Cls.callG 14 #[.agg #[.int .i64 r, .int .i64 b, .int .i64 l, .int .i64 t]] ((.bool (okB r b l t))) (by go_simp) (fun w' => ?_) (fun w' hw' => (right_any r b l t w').mono ?_) ?_
  · go_simp
  · rintro e w'' ⟨rfl, hb⟩; exact ⟨rfl, hw'.trans (hb.mono hw'.size)⟩
  simp only [Act.put, List.setIfInBounds_toArray, List.set_cons_zero, List.set_cons_succ]
  refine Cls.valueG ?_ (by go_simp) (fun w' hw' => ?_) ?_
  rotate_left
  · obtain ⟨q0, q1, q2, q3, _, _, _, _, qz⟩ := X0.out.below hw'; go_simp; rfl
  simp only [Act.put, List.setIfInBounds_toArray, List.set_cons_zero, List.set_cons_succ]
  refine Cls.callG 15 #[.agg #[.int .i64 r, .int .i64 b, .int .i64 l, .int .i64 t]] ((.bool (okB r b l t))) (by go_simp) (fun w' => ?_) (fun w' hw' => (Ref08.right_any r b l t w').mono ?_) ?_
  · go_simp
  · rintro e w'' ⟨rfl, hb⟩; exact ⟨rfl, hw'.trans (hb.mono hw'.size)⟩
  simp only [Act.put, List.setIfInBounds_toArray, List.set_cons_zero, List.set_cons_succ]
  refine Cls.valueG ?_ (by go_simp) (fun w' hw' => ?_) ?_
  rotate_left
  · go_simp; rfl
  simp only [Act.put, List.setIfInBounds_toArray, List.set_cons_zero, List.set_cons_succ]
  refine Cls.value ?_ rfl (fun w' hw' => ?_) ?_
  rotate_left
  · go_simp; rfl
  simp only [Act.put, List.setIfInBounds_toArray, List.set_cons_zero, List.set_cons_succ]
  refine Cls.value ?_ rfl (fun w' hw' => ?_) ?_
  rotate_left
  · go_simp; rfl
  simp only [Act.put, List.setIfInBounds_toArray, List.set_cons_zero, List.set_cons_succ]
  refine Cls.valueG ?_ (by go_simp) (fun w' hw' => ?_) ?_
  rotate_left
  · obtain ⟨q0, q1, q2, q3, _, _, _, _, qz⟩ := X1.out.below hw'; go_simp; rfl
  simp only [Act.put, List.setIfInBounds_toArray, List.set_cons_zero, List.set_cons_succ]
  refine Cls.valueG ?_ (by go_simp) (fun w' hw' => ?_) ?_
  rotate_left
  · go_simp; rfl
  simp only [Act.put, List.setIfInBounds_toArray, List.set_cons_zero, List.set_cons_succ]
  refine Cls.callG 16 #[.agg #[.int .i64 r, .int .i64 b, .int .i64 l, .int .i64 t], .int .i64 now] ((.agg #[.int .i64 r, .int .i64 b, .int .i64 (fillL r b l t now), .int .i64 (fillT r b l t now)])) (by go_simp) (fun w' => ?_) (fun w' hw' => (fill_any r b l t now w').mono ?_) ?_
  · go_simp
  · rintro e w'' ⟨rfl, hb⟩; exact ⟨rfl, hw'.trans (hb.mono hw'.size)⟩
  simp only [Act.put, List.setIfInBounds_toArray, List.set_cons_zero, List.set_cons_succ]
  refine Cls.valueG ?_ (by go_simp) (fun w' hw' => ?_) ?_
  rotate_left
  · obtain ⟨q0, q1, q2, q3, _, _, _, _, qz⟩ := X0.out.below hw'; go_simp; rfl
  simp only [Act.put, List.setIfInBounds_toArray, List.set_cons_zero, List.set_cons_succ]
  refine Cls.valueG ?_ (by go_simp) (fun w' hw' => ?_) ?_
  rotate_left
  · go_simp; rfl
  simp only [Act.put, List.setIfInBounds_toArray, List.set_cons_zero, List.set_cons_succ]
  refine Cls.callG 17 #[.agg #[.int .i64 r, .int .i64 b, .int .i64 l, .int .i64 t], .int .i64 now] ((.agg #[.int .i64 r, .int .i64 b, .int .i64 (fillL r b l t now), .int .i64 (fillT r b l t now)])) (by go_simp) (fun w' => ?_) (fun w' hw' => (Ref08.fill_any r b l t now w').mono ?_) ?_
  · go_simp
  · rintro e w'' ⟨rfl, hb⟩; exact ⟨rfl, hw'.trans (hb.mono hw'.size)⟩
  simp only [Act.put, List.setIfInBounds_toArray, List.set_cons_zero, List.set_cons_succ]
  refine Cls.valueG ?_ (by go_simp) (fun w' hw' => ?_) ?_
  rotate_left
  · go_simp; rfl
  simp only [Act.put, List.setIfInBounds_toArray, List.set_cons_zero, List.set_cons_succ]
  refine Cls.value ?_ rfl (fun w' hw' => ?_) ?_
  rotate_left
  · go_simp; rfl
  simp only [Act.put, List.setIfInBounds_toArray, List.set_cons_zero, List.set_cons_succ]
  refine Cls.value ?_ rfl (fun w' hw' => ?_) ?_
  rotate_left
  · go_simp; rfl
  simp only [Act.put, List.setIfInBounds_toArray, List.set_cons_zero, List.set_cons_succ]
  refine Cls.valueG ?_ (by go_simp) (fun w' hw' => ?_) ?_
  rotate_left
  · obtain ⟨q0, q1, q2, q3, _, _, _, _, qz⟩ := X8.out.below hw'; go_simp; rfl
  simp only [Act.put, List.setIfInBounds_toArray, List.set_cons_zero, List.set_cons_succ]
  refine Cls.valueG ?_ (by go_simp) (fun w' hw' => ?_) ?_
  rotate_left
  · obtain ⟨q0, q1, q2, q3, _, _, _, _, qz⟩ := X10.out.below hw'; go_simp; rfl
  simp only [Act.put, List.setIfInBounds_toArray, List.set_cons_zero, List.set_cons_succ]
  refine Cls.valueG ?_ (by go_simp) (fun w' hw' => ?_) ?_
  rotate_left
  · go_simp; rfl
  simp only [Act.put, List.setIfInBounds_toArray, List.set_cons_zero, List.set_cons_succ]
  refine Cls.value ?_ rfl (fun w' hw' => ?_) ?_
  rotate_left
  · go_simp; rfl
  simp only [Act.put, List.setIfInBounds_toArray, List.set_cons_zero, List.set_cons_succ]
  refine Cls.value ?_ rfl (fun w' hw' => ?_) ?_
  rotate_left
  · go_simp; rfl
  simp only [Act.put, List.setIfInBounds_toArray, List.set_cons_zero, List.set_cons_succ]
  refine Cls.valueG ?_ (by go_simp) (fun w' hw' => ?_) ?_
  rotate_left
  · go_simp; rfl
  simp only [Act.put, List.setIfInBounds_toArray, List.set_cons_zero, List.set_cons_succ]
  refine Cls.valueG ?_ (by go_simp) (fun w' hw' => ?_) ?_
  rotate_left
  · go_simp; rfl
  simp only [Act.put, List.setIfInBounds_toArray, List.set_cons_zero, List.set_cons_succ]
  refine Cls.valueG ?_ (by go_simp) (fun w' hw' => ?_) ?_
  rotate_left
  · go_simp; rfl
  simp only [Act.put, List.setIfInBounds_toArray, List.set_cons_zero, List.set_cons_succ]
  refine Cls.value ?_ rfl (fun w' hw' => ?_) ?_
  rotate_left
  · go_simp; rfl
  simp only [Act.put, List.setIfInBounds_toArray, List.set_cons_zero, List.set_cons_succ]
  refine Cls.value ?_ rfl (fun w' hw' => ?_) ?_
  rotate_left
  · go_simp; rfl
  simp only [Act.put, List.setIfInBounds_toArray, List.set_cons_zero, List.set_cons_succ]
  refine Cls.valueG ?_ (by go_simp) (fun w' hw' => ?_) ?_
  rotate_left
  · go_simp; rfl
  simp only [Act.put, List.setIfInBounds_toArray, List.set_cons_zero, List.set_cons_succ]
  refine Cls.valueG ?_ (by go_simp) (fun w' hw' => ?_) ?_
  rotate_left
  · go_simp; rfl
  simp only [Act.put, List.setIfInBounds_toArray, List.set_cons_zero, List.set_cons_succ]
  refine Cls.valueG ?_ (by go_simp) (fun w' hw' => ?_) ?_
  rotate_left
  · go_simp; rfl
  simp only [Act.put, List.setIfInBounds_toArray, List.set_cons_zero, List.set_cons_succ]
  refine Cls.value ?_ rfl (fun w' hw' => ?_) ?_
  rotate_left
  · go_simp; rfl
  simp only [Act.put, List.setIfInBounds_toArray, List.set_cons_zero, List.set_cons_succ]
  refine Cls.value ?_ rfl (fun w' hw' => ?_) ?_
  rotate_left
  · go_simp; rfl
  simp only [Act.put, List.setIfInBounds_toArray, List.set_cons_zero, List.set_cons_succ]
  refine Cls.valueG ?_ (by go_simp) (fun w' hw' => ?_) ?_
  rotate_left
  · go_simp; rfl
  simp only [Act.put, List.setIfInBounds_toArray, List.set_cons_zero, List.set_cons_succ]
  refine Cls.valueG ?_ (by go_simp) (fun w' hw' => ?_) ?_
  rotate_left
  · go_simp; rfl
  simp only [Act.put, List.setIfInBounds_toArray, List.set_cons_zero, List.set_cons_succ]
  refine Cls.valueG ?_ (by go_simp) (fun w' hw' => ?_) ?_
  rotate_left
  · go_simp; rfl
  simp only [Act.put, List.setIfInBounds_toArray, List.set_cons_zero, List.set_cons_succ]
  refine Cls.value ?_ rfl (fun w' hw' => ?_) ?_
  rotate_left
  · go_simp; rfl
  simp only [Act.put, List.setIfInBounds_toArray, List.set_cons_zero, List.set_cons_succ]
  refine Cls.value ?_ rfl (fun w' hw' => ?_) ?_
  rotate_left
  · go_simp; rfl
  simp only [Act.put, List.setIfInBounds_toArray, List.set_cons_zero, List.set_cons_succ]
  refine Cls.valueG ?_ (by go_simp) (fun w' hw' => ?_) ?_
  rotate_left
  · obtain ⟨q0, q1, q2, q3, _, _, _, _, qz⟩ := X1.out.below hw'; go_simp; rfl
  simp only [Act.put, List.setIfInBounds_toArray, List.set_cons_zero, List.set_cons_succ]
  refine Cls.valueG ?_ (by go_simp) (fun w' hw' => ?_) ?_
  rotate_left
  · go_simp; rfl
  simp only [Act.put, List.setIfInBounds_toArray, List.set_cons_zero, List.set_cons_succ]
  refine Cls.callG 18 #[.agg #[.int .i64 r, .int .i64 b, .int .i64 l, .int .i64 t], .int .i64 n] ((.int .i64 (mostN r b l t n))) (by go_simp) (fun w' => ?_) (fun w' hw' => (most_any r b l t n w').mono ?_) ?_
  · go_simp
  · rintro e w'' ⟨rfl, hb⟩; exact ⟨rfl, hw'.trans (hb.mono hw'.size)⟩
  simp only [Act.put, List.setIfInBounds_toArray, List.set_cons_zero, List.set_cons_succ]
  refine Cls.valueG ?_ (by go_simp) (fun w' hw' => ?_) ?_
  rotate_left
  · obtain ⟨q0, q1, q2, q3, _, _, _, _, qz⟩ := X0.out.below hw'; go_simp; rfl
  simp only [Act.put, List.setIfInBounds_toArray, List.set_cons_zero, List.set_cons_succ]
  refine Cls.valueG ?_ (by go_simp) (fun w' hw' => ?_) ?_
  rotate_left
  · go_simp; rfl
  simp only [Act.put, List.setIfInBounds_toArray, List.set_cons_zero, List.set_cons_succ]
  refine Cls.callG 19 #[.agg #[.int .i64 r, .int .i64 b, .int .i64 l, .int .i64 t], .int .i64 n] ((.int .i64 (mostN r b l t n))) (by go_simp) (fun w' => ?_) (fun w' hw' => (Ref08.most_any r b l t n w').mono ?_) ?_
  · go_simp
  · rintro e w'' ⟨rfl, hb⟩; exact ⟨rfl, hw'.trans (hb.mono hw'.size)⟩
  simp only [Act.put, List.setIfInBounds_toArray, List.set_cons_zero, List.set_cons_succ]
  refine Cls.valueG ?_ (by go_simp) (fun w' hw' => ?_) ?_
  rotate_left
  · go_simp; rfl
  simp only [Act.put, List.setIfInBounds_toArray, List.set_cons_zero, List.set_cons_succ]
  refine Cls.value ?_ rfl (fun w' hw' => ?_) ?_
  rotate_left
  · go_simp; rfl
  simp only [Act.put, List.setIfInBounds_toArray, List.set_cons_zero, List.set_cons_succ]
  refine Cls.value ?_ rfl (fun w' hw' => ?_) ?_
  rotate_left
  · go_simp; rfl
  simp only [Act.put, List.setIfInBounds_toArray, List.set_cons_zero, List.set_cons_succ]
  refine Cls.done (fun w' hw' => ?_)
  go_wp2
  go_ret
  exact ⟨by simp, hB4.trans (hw'.mono hB4.size)⟩

end Go.Proofs.Ytdooeeklpinhfaa.Law08
