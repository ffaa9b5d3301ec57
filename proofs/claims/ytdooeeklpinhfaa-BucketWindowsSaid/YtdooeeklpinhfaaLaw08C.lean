/- The law BucketSteps (chapter 08). Conditions: the numbers are of their kinds. -/
import Derived.Test.YtdooeeklpinhfaaLaw08
namespace Go.Proofs.Ytdooeeklpinhfaa.Law08
open Go.RowKit Tick Bucket
set_option maxRecDepth 100000
set_option linter.unusedVariables false
set_option linter.unusedSimpArgs false

theorem okB_fill {r b l t m : Int} (h : okB r b l t = true) : okB r b (fillL r b l t m) (fillT r b l t m) = true := by
  have h1 := fillL_bd (now := m) h
  have h2 := fillT_bd (now := m) h
  obtain ⟨o1, o2, o3, o4, o5, o6⟩ := of_decide_eq_true h
  exact decide_eq_true ⟨o1, o2, by omega, by omega, o5, by omega⟩
theorem nr_mono {a c : Int} (h : a ≤ c) : nr a ≤ nr c := by
  unfold nr; split <;> split <;> (try split) <;> (try split) <;> omega
theorem fill_fill {r b l t m now : Int} (h : okB r b l t = true) (hm : m ≤ now) :
    fillL r b (fillL r b l t m) (fillT r b l t m) now = fillL r b l t now ∧ fillT r b (fillL r b l t m) (fillT r b l t m) now = fillT r b l t now := by
  have hk := okB_fill (m := m) h
  obtain ⟨o1, o2, o3, o4, o5, o6⟩ := of_decide_eq_true h
  have hmn := nr_mono hm
  have b1 := nr_bd m
  have b2 := nr_bd now
  by_cases e : t < nr m
  · have hT : fillT r b l t m = nr m := by unfold fillT; rw [if_pos ⟨h, e⟩]
    rw [hT] at hk ⊢
    have hL : fillL r b l t m = fillL r b l t (nr m) := by
      unfold fillL; rw [nr_in b1.1 b1.2]
    have hN : ∀ (l t : Int), fillL r b l t now = fillL r b l t (nr now) := by
      intro l t; unfold fillL; rw [nr_in b2.1 b2.2]
    refine ⟨?_, ?_⟩
    · rw [hN, hN, fillL_min hk hmn b2.2, hL, fillL_min h (by omega) b1.2, fillL_min h (by omega) b2.2]
      have hp : 0 ≤ r * (nr m - t) := Int.mul_nonneg o1.1 (by omega)
      have hq : 0 ≤ r * (nr now - nr m) := Int.mul_nonneg o1.1 (by omega)
      have hs : r * (nr now - t) = r * (nr m - t) + r * (nr now - nr m) := by rw [← Int.mul_add]; congr 1; omega
      rw [hs]
      generalize r * (nr m - t) = p at *
      generalize r * (nr now - nr m) = q at *
      split <;> split <;> omega
    · unfold fillT
      by_cases g : nr m < nr now
      · rw [if_pos ⟨hk, g⟩, if_pos ⟨h, by omega⟩]
      · rw [if_neg (fun c => g c.2), if_pos ⟨h, by omega⟩]; omega
  · rw [fillL_no (now := m) (by omega), fillT_no (now := m) (by omega)]
    exact ⟨rfl, rfl⟩
theorem fill_back {r b l t m now : Int} (h : okB r b l t = true) (hm : m ≤ now) :
    fillL r b (fillL r b l t now) (fillT r b l t now) m = fillL r b l t now ∧ fillT r b (fillL r b l t now) (fillT r b l t now) m = fillT r b l t now := by
  have hmn := nr_mono hm
  have hT : nr m ≤ fillT r b l t now := by
    unfold fillT
    by_cases e : t < nr now
    · rw [if_pos ⟨h, e⟩]; omega
    · rw [if_neg (fun c => e c.2)]; omega
  exact ⟨fillL_no (by omega), fillT_no (by omega)⟩


theorem steps_bad (r b l t mid now : Int) (w : World) (h : okB r b l t = false) :
    Calls Try.prog 5 #[.agg #[.int .i64 r, .int .i64 b, .int .i64 l, .int .i64 t], .int .i64 mid, .int .i64 now] w fun e w' => e = .returned (.bool true) ∧ Below w.heap.size w w' := by
  have hok := Lib.hid h
  clear h
  go_enter Try.func5, Try.ntmps5
  have hB := ((Below.refl w.heap.size w).alloc (Nat.le_refl _) (.cells #[.int .i64 r, .int .i64 b, .int .i64 l, .int .i64 t] 23)).alloc (by simp) (.cells #[.int .i64 r, .int .i64 b, .int .i64 l, .int .i64 t] 24)
  have X := Lib.hid (Cls.Box4.new (w.alloc (.cells #[.int .i64 r, .int .i64 b, .int .i64 l, .int .i64 t] 23)) (.int .i64 r) (.int .i64 b) (.int .i64 l) (.int .i64 t) 24)
  rw [World.size_alloc] at X
  have c0 := True.intro; have c1 := c0; have c2 := c0; have c3 := c0; have hz := c0
  go_wp2_with (first
    | (go_at_call 14; (with_reducible refine (right_any r b l t _).mono ?_); rintro e wn ⟨rfl, hbn⟩; rw [hok.out]; have hBn := hB.trans (hbn.mono hB.size); have Xn := Lib.hid (X.out.below hbn); clear hB X c0 c1 c2 c3 hz hbn; have hB := hBn; have X := Xn; clear hBn Xn; obtain ⟨c0, c1, c2, c3, _, _, _, _, hz⟩ := X.out)
    | (go_at_call 13; (with_reducible refine (alive_any _).mono ?_); rintro e wn ⟨rfl, hbn⟩; have hBn := hB.trans (hbn.mono hB.size); have Xn := Lib.hid (X.out.below hbn); clear hB X c0 c1 c2 c3 hz hbn; have hB := hBn; have X := Xn; clear hBn Xn; obtain ⟨c0, c1, c2, c3, _, _, _, _, hz⟩ := X.out))
  go_ret
  exact ⟨by simp, hB⟩

theorem steps_late (r b l t mid now : Int) (w : World) (h : okB r b l t = true) (hm : decide (now < mid) = true) :
    Calls Try.prog 5 #[.agg #[.int .i64 r, .int .i64 b, .int .i64 l, .int .i64 t], .int .i64 mid, .int .i64 now] w fun e w' => e = .returned (.bool true) ∧ Below w.heap.size w w' := by
  have hok := Lib.hid h
  clear h
  go_enter Try.func5, Try.ntmps5
  have hB := ((Below.refl w.heap.size w).alloc (Nat.le_refl _) (.cells #[.int .i64 r, .int .i64 b, .int .i64 l, .int .i64 t] 23)).alloc (by simp) (.cells #[.int .i64 r, .int .i64 b, .int .i64 l, .int .i64 t] 24)
  have X := Lib.hid (Cls.Box4.new (w.alloc (.cells #[.int .i64 r, .int .i64 b, .int .i64 l, .int .i64 t] 23)) (.int .i64 r) (.int .i64 b) (.int .i64 l) (.int .i64 t) 24)
  rw [World.size_alloc] at X
  have c0 := True.intro; have c1 := c0; have c2 := c0; have c3 := c0; have hz := c0
  go_wp2_with (first
    | (go_at_call 14; (with_reducible refine (right_any r b l t _).mono ?_); rintro e wn ⟨rfl, hbn⟩; rw [hok.out]; have hBn := hB.trans (hbn.mono hB.size); have Xn := Lib.hid (X.out.below hbn); clear hB X c0 c1 c2 c3 hz hbn; have hB := hBn; have X := Xn; clear hBn Xn; obtain ⟨c0, c1, c2, c3, _, _, _, _, hz⟩ := X.out)
    | (go_at_call 13; (with_reducible refine (alive_any _).mono ?_); rintro e wn ⟨rfl, hbn⟩; have hBn := hB.trans (hbn.mono hB.size); have Xn := Lib.hid (X.out.below hbn); clear hB X c0 c1 c2 c3 hz hbn; have hB := hBn; have X := Xn; clear hBn Xn; obtain ⟨c0, c1, c2, c3, _, _, _, _, hz⟩ := X.out))
  go_ret
  exact ⟨by simp, hB⟩

set_option maxHeartbeats 4000000 in
theorem steps_good (r b l t mid now : Int) (w : World) (h : okB r b l t = true) (hm : decide (now < mid) = false) :
    Calls Try.prog 5 #[.agg #[.int .i64 r, .int .i64 b, .int .i64 l, .int .i64 t], .int .i64 mid, .int .i64 now] w fun e w' => e = .returned (.bool true) ∧ Below w.heap.size w w' := by
  have hok := Lib.hid h
  obtain ⟨p1, p2⟩ := fill_fill h (Int.not_lt.1 (of_decide_eq_false hm))
  obtain ⟨p3, p4⟩ := fill_back h (Int.not_lt.1 (of_decide_eq_false hm))
  have p5 := okB_fill (m := now) h
  clear h
  go_enter Try.func5, Try.ntmps5
  have hB := ((Below.refl w.heap.size w).alloc (Nat.le_refl _) (.cells #[.int .i64 r, .int .i64 b, .int .i64 l, .int .i64 t] 23)).alloc (by simp) (.cells #[.int .i64 r, .int .i64 b, .int .i64 l, .int .i64 t] 24)
  have X := Lib.hid (Cls.Box4.new (w.alloc (.cells #[.int .i64 r, .int .i64 b, .int .i64 l, .int .i64 t] 23)) (.int .i64 r) (.int .i64 b) (.int .i64 l) (.int .i64 t) 24)
  rw [World.size_alloc] at X
  have c0 := True.intro; have c1 := c0; have c2 := c0; have c3 := c0; have hz := c0
  go_wp2_with fail
  refine (right_any r b l t _).mono ?_
  rintro e w1 ⟨rfl, hbn⟩
  rw [hok.out]
  have hBn := hB.trans (hbn.mono hB.size); have Xn := Lib.hid (X.out.below hbn); clear hB X c0 c1 c2 c3 hz hbn; have hB := hBn; have X := Xn; clear hBn Xn; obtain ⟨c0, c1, c2, c3, _, _, _, _, hz⟩ := X.out
  go_wp2
  refine Cls.region (fun w' => Below w1.heap.size w1 w') (by kernel_rfl) (by kernel_rfl) (Below.refl _ _).drew ?_
  refine Cls.call 13 #[] ((.bool true)) rfl (fun w' => ?_) (fun w' hw' => (alive_any w').mono ?_) ?_
  · go_simp
  · rintro e w'' ⟨rfl, hb⟩; exact ⟨rfl, hw'.trans (hb.mono hw'.size)⟩
  simp only [Act.put, List.setIfInBounds_toArray, List.set_cons_zero, List.set_cons_succ]
  refine Cls.value ?_ rfl (fun w' hw' => ?_) ?_
  rotate_left
  · go_simp; rfl
  simp only [Act.put, List.setIfInBounds_toArray, List.set_cons_zero, List.set_cons_succ]
  refine Cls.valueG ?_ (by go_simp) (fun w' hw' => ?_) ?_
  rotate_left
  · obtain ⟨q0, q1, q2, q3, _, _, _, _, qz⟩ := X.out.below hw'; go_simp; rfl
  simp only [Act.put, List.setIfInBounds_toArray, List.set_cons_zero, List.set_cons_succ]
  refine Cls.valueG ?_ (by go_simp) (fun w' hw' => ?_) ?_
  rotate_left
  · go_simp; rfl
  simp only [Act.put, List.setIfInBounds_toArray, List.set_cons_zero, List.set_cons_succ]
  refine Cls.callG 16 #[.agg #[.int .i64 r, .int .i64 b, .int .i64 l, .int .i64 t], .int .i64 mid] (.agg #[.int .i64 r, .int .i64 b, .int .i64 (fillL r b l t mid), .int .i64 (fillT r b l t mid)]) (by go_simp) (fun w' => ?_) (fun w' hw' => (fill_any r b l t mid w').mono ?_) ?_
  · go_simp
  · rintro e w'' ⟨rfl, hb⟩; exact ⟨rfl, hw'.trans (hb.mono hw'.size)⟩
  simp only [Act.put, List.setIfInBounds_toArray, List.set_cons_zero, List.set_cons_succ]
  refine Cls.valueG ?_ (by go_simp) (fun w' hw' => ?_) ?_
  rotate_left
  · go_simp; rfl
  simp only [Act.put, List.setIfInBounds_toArray, List.set_cons_zero, List.set_cons_succ]
  refine Cls.callG 16 #[.agg #[.int .i64 r, .int .i64 b, .int .i64 (fillL r b l t mid), .int .i64 (fillT r b l t mid)], .int .i64 now] (.agg #[.int .i64 r, .int .i64 b, .int .i64 (fillL r b l t now), .int .i64 (fillT r b l t now)]) (by go_simp) (fun w' => ?_) (fun w' hw' => (fill_any r b (fillL r b l t mid) (fillT r b l t mid) now w').mono ?_) ?_
  · go_simp
  · rintro e w'' ⟨rfl, hb⟩; exact ⟨by rw [p1, p2], hw'.trans (hb.mono hw'.size)⟩
  simp only [Act.put, List.setIfInBounds_toArray, List.set_cons_zero, List.set_cons_succ]
  refine Cls.valueG ?_ (by go_simp) (fun w' hw' => ?_) ?_
  rotate_left
  · obtain ⟨q0, q1, q2, q3, _, _, _, _, qz⟩ := X.out.below hw'; go_simp; rfl
  simp only [Act.put, List.setIfInBounds_toArray, List.set_cons_zero, List.set_cons_succ]
  refine Cls.valueG ?_ (by go_simp) (fun w' hw' => ?_) ?_
  rotate_left
  · go_simp; rfl
  simp only [Act.put, List.setIfInBounds_toArray, List.set_cons_zero, List.set_cons_succ]
  refine Cls.callG 16 #[.agg #[.int .i64 r, .int .i64 b, .int .i64 l, .int .i64 t], .int .i64 now] (.agg #[.int .i64 r, .int .i64 b, .int .i64 (fillL r b l t now), .int .i64 (fillT r b l t now)]) (by go_simp) (fun w' => ?_) (fun w' hw' => (fill_any r b l t now w').mono ?_) ?_
  · go_simp
  · rintro e w'' ⟨rfl, hb⟩; exact ⟨rfl, hw'.trans (hb.mono hw'.size)⟩
  simp only [Act.put, List.setIfInBounds_toArray, List.set_cons_zero, List.set_cons_succ]
  refine Cls.valueG ?_ (by go_simp) (fun w' hw' => ?_) ?_
  rotate_left
  · go_simp; rfl
  simp only [Act.put, List.setIfInBounds_toArray, List.set_cons_zero, List.set_cons_succ]
  refine Cls.value ?_ rfl (fun w' hw' => ?_) ?_
  rotate_left
  · go_simp; rfl
  simp only [Act.put, List.setIfInBounds_toArray, List.set_cons_zero, List.set_cons_succ]
  refine Cls.value ?_ rfl (fun w' hw' => ?_) ?_
  rotate_left
  · go_simp; rfl
  simp only [Act.put, List.setIfInBounds_toArray, List.set_cons_zero, List.set_cons_succ]
  refine Cls.valueG ?_ (by go_simp) (fun w' hw' => ?_) ?_
  rotate_left
  · obtain ⟨q0, q1, q2, q3, _, _, _, _, qz⟩ := X.out.below hw'; go_simp; rfl
  simp only [Act.put, List.setIfInBounds_toArray, List.set_cons_zero, List.set_cons_succ]
  refine Cls.valueG ?_ (by go_simp) (fun w' hw' => ?_) ?_
  rotate_left
  · go_simp; rfl
  simp only [Act.put, List.setIfInBounds_toArray, List.set_cons_zero, List.set_cons_succ]
  refine Cls.callG 16 #[.agg #[.int .i64 r, .int .i64 b, .int .i64 l, .int .i64 t], .int .i64 now] (.agg #[.int .i64 r, .int .i64 b, .int .i64 (fillL r b l t now), .int .i64 (fillT r b l t now)]) (by go_simp) (fun w' => ?_) (fun w' hw' => (fill_any r b l t now w').mono ?_) ?_
  · go_simp
  · rintro e w'' ⟨rfl, hb⟩; exact ⟨rfl, hw'.trans (hb.mono hw'.size)⟩
  simp only [Act.put, List.setIfInBounds_toArray, List.set_cons_zero, List.set_cons_succ]
  refine Cls.valueG ?_ (by go_simp) (fun w' hw' => ?_) ?_
  rotate_left
  · go_simp; rfl
  simp only [Act.put, List.setIfInBounds_toArray, List.set_cons_zero, List.set_cons_succ]
  refine Cls.callG 16 #[.agg #[.int .i64 r, .int .i64 b, .int .i64 (fillL r b l t now), .int .i64 (fillT r b l t now)], .int .i64 mid] (.agg #[.int .i64 r, .int .i64 b, .int .i64 (fillL r b l t now), .int .i64 (fillT r b l t now)]) (by go_simp) (fun w' => ?_) (fun w' hw' => (fill_any r b (fillL r b l t now) (fillT r b l t now) mid w').mono ?_) ?_
  · go_simp
  · rintro e w'' ⟨rfl, hb⟩; exact ⟨by rw [p3, p4], hw'.trans (hb.mono hw'.size)⟩
  simp only [Act.put, List.setIfInBounds_toArray, List.set_cons_zero, List.set_cons_succ]
  refine Cls.valueG ?_ (by go_simp) (fun w' hw' => ?_) ?_
  rotate_left
  · obtain ⟨q0, q1, q2, q3, _, _, _, _, qz⟩ := X.out.below hw'; go_simp; rfl
  simp only [Act.put, List.setIfInBounds_toArray, List.set_cons_zero, List.set_cons_succ]
  refine Cls.valueG ?_ (by go_simp) (fun w' hw' => ?_) ?_
  rotate_left
  · go_simp; rfl
  simp only [Act.put, List.setIfInBounds_toArray, List.set_cons_zero, List.set_cons_succ]
  refine Cls.callG 16 #[.agg #[.int .i64 r, .int .i64 b, .int .i64 l, .int .i64 t], .int .i64 now] (.agg #[.int .i64 r, .int .i64 b, .int .i64 (fillL r b l t now), .int .i64 (fillT r b l t now)]) (by go_simp) (fun w' => ?_) (fun w' hw' => (fill_any r b l t now w').mono ?_) ?_
  · go_simp
  · rintro e w'' ⟨rfl, hb⟩; exact ⟨rfl, hw'.trans (hb.mono hw'.size)⟩
  simp only [Act.put, List.setIfInBounds_toArray, List.set_cons_zero, List.set_cons_succ]
  refine Cls.valueG ?_ (by go_simp) (fun w' hw' => ?_) ?_
  rotate_left
  · go_simp; rfl
  simp only [Act.put, List.setIfInBounds_toArray, List.set_cons_zero, List.set_cons_succ]
  refine Cls.value ?_ rfl (fun w' hw' => ?_) ?_
  rotate_left
  · go_simp; rfl
  simp only [Act.put, List.setIfInBounds_toArray, List.set_cons_zero, List.set_cons_succ]
  refine Cls.value ?_ rfl (fun w' hw' => ?_) ?_
  rotate_left
  · go_simp; rfl
  simp only [Act.put, List.setIfInBounds_toArray, List.set_cons_zero, List.set_cons_succ]
  refine Cls.valueG ?_ (by go_simp) (fun w' hw' => ?_) ?_
  rotate_left
  · obtain ⟨q0, q1, q2, q3, _, _, _, _, qz⟩ := X.out.below hw'; go_simp; rfl
  simp only [Act.put, List.setIfInBounds_toArray, List.set_cons_zero, List.set_cons_succ]
  refine Cls.valueG ?_ (by go_simp) (fun w' hw' => ?_) ?_
  rotate_left
  · go_simp; rfl
  simp only [Act.put, List.setIfInBounds_toArray, List.set_cons_zero, List.set_cons_succ]
  refine Cls.callG 16 #[.agg #[.int .i64 r, .int .i64 b, .int .i64 l, .int .i64 t], .int .i64 now] (.agg #[.int .i64 r, .int .i64 b, .int .i64 (fillL r b l t now), .int .i64 (fillT r b l t now)]) (by go_simp) (fun w' => ?_) (fun w' hw' => (fill_any r b l t now w').mono ?_) ?_
  · go_simp
  · rintro e w'' ⟨rfl, hb⟩; exact ⟨rfl, hw'.trans (hb.mono hw'.size)⟩
  simp only [Act.put, List.setIfInBounds_toArray, List.set_cons_zero, List.set_cons_succ]
  refine Cls.callG 14 #[.agg #[.int .i64 r, .int .i64 b, .int .i64 (fillL r b l t now), .int .i64 (fillT r b l t now)]] ((.bool true)) (by go_simp) (fun w' => ?_) (fun w' hw' => (right_any r b (fillL r b l t now) (fillT r b l t now) w').mono ?_) ?_
  · go_simp
  · rintro e w'' ⟨rfl, hb⟩; exact ⟨by rw [p5], hw'.trans (hb.mono hw'.size)⟩
  simp only [Act.put, List.setIfInBounds_toArray, List.set_cons_zero, List.set_cons_succ]
  refine Cls.value ?_ rfl (fun w' hw' => ?_) ?_
  rotate_left
  · go_simp; rfl
  simp only [Act.put, List.setIfInBounds_toArray, List.set_cons_zero, List.set_cons_succ]
  refine Cls.value ?_ rfl (fun w' hw' => ?_) ?_
  rotate_left
  · go_simp; rfl
  simp only [Act.put, List.setIfInBounds_toArray, List.set_cons_zero, List.set_cons_succ]
  refine Cls.done fun w' hw' => ?_
  go_wp2
  go_ret
  exact ⟨by simp, hB.trans (hw'.mono hB.size)⟩
theorem steps_any (r b l t mid now : Int) (w : World) :
    Calls Try.prog 5 #[.agg #[.int .i64 r, .int .i64 b, .int .i64 l, .int .i64 t], .int .i64 mid, .int .i64 now] w fun e w' => e = .returned (.bool true) ∧ Below w.heap.size w w' := by
  cases h : okB r b l t with
  | false => exact steps_bad r b l t mid now w h
  | true =>
    cases hm : decide (now < mid) with
    | true => exact steps_late r b l t mid now w h hm
    | false => exact steps_good r b l t mid now w h hm

end Go.Proofs.Ytdooeeklpinhfaa.Law08
