/- The law BucketMore (chapter 08). Conditions: the numbers are of their kinds. -/
import Derived.Test.YtdooeeklpinhfaaLaw08C
namespace Go.Proofs.Ytdooeeklpinhfaa.Law08
open Go.RowKit Tick Bucket
set_option maxRecDepth 100000
set_option linter.unusedVariables false
set_option linter.unusedSimpArgs false

theorem add_more {a m : Int} (ha : 0 ≤ a ∧ a ≤ 1099511627776) (hm : 0 ≤ m ∧ m ≤ 1000000) : a ≤ add a m ∧ 0 ≤ add a m ∧ add a m ≤ 1099511627776 := by
  unfold add
  rw [nr_in ha.1 ha.2, nr_in hm.1 (by omega)]
  by_cases z : 1099511627776 < a + m
  · rw [nr_top z]; omega
  · rw [nr_in (by omega) (by omega)]; omega
theorem add_mono {a a' c c' : Int} (h1 : a ≤ a') (h2 : c ≤ c') : add a c ≤ add a' c' := by
  have := nr_mono h1
  have := nr_mono h2
  exact nr_mono (by omega)
theorem mul_mono {a a' n : Int} (h1 : a ≤ a') : mul a n ≤ mul a' n := by
  have := nr_mono h1
  have h2 := Int.mul_le_mul_of_nonneg_right this (nr_bd n).1
  unfold mul
  split <;> split <;> omega
theorem more_ok {r b l t m0 m1 : Int} (h : okB r b l t = true) (h0 : 0 ≤ m0 ∧ m0 ≤ 1000000) (h1 : 0 ≤ m1 ∧ m1 ≤ 1000000) : okB (add r m0) (add b m1) l t = true := by
  obtain ⟨o1, o2, o3, o4, o5, o6⟩ := of_decide_eq_true h
  have := add_more o1 h0
  have := add_more o2 h1
  exact decide_eq_true ⟨by omega, by omega, o3, o4, by omega, by omega⟩
theorem fill_mono {r b l t r' b' now : Int} (h : okB r b l t = true) (h' : okB r' b' l t = true) (hr : r ≤ r') (hb : b ≤ b') : fillL r b l t now ≤ fillL r' b' l t now := by
  have b2 := nr_bd now
  by_cases e : t < nr now
  · have hN : ∀ (r b : Int), fillL r b l t now = fillL r b l t (nr now) := by
      intro r b; unfold fillL; rw [nr_in b2.1 b2.2]
    rw [hN r b, hN r' b', fillL_min h (by omega) b2.2, fillL_min h' (by omega) b2.2]
    have := Int.mul_le_mul_of_nonneg_right hr (show 0 ≤ nr now - t by omega)
    split <;> split <;> omega
  · rw [fillL_no (by omega), fillL_no (by omega)]
    exact Int.le_refl _
theorem most_mono {r b l t r' b' n : Int} (h : okB r b l t = true) (h' : okB r' b' l t = true) (hr : r ≤ r') (hb : b ≤ b') : mostN r b l t n ≤ mostN r' b' l t n := by
  unfold mostN
  rw [if_pos h, if_pos h']
  exact add_mono hb (mul_mono hr)

def Box2 (w : World) (k : Nat) (a b : Value) : Prop := w.cell? ⟨k, 0, none⟩ = some a ∧ w.cell? ⟨k, 1, none⟩ = some b ∧ k < w.heap.size
theorem Box2.below {w w' : World} {k : Nat} {a b : Value} (h : Box2 w k a b) (hb : Below w.heap.size w w') : Box2 w' k a b :=
  ⟨(hb.cell (p := ⟨k, 0, none⟩) h.2.2).trans h.1, (hb.cell (p := ⟨k, 1, none⟩) h.2.2).trans h.2.1, Nat.lt_of_lt_of_le h.2.2 hb.size⟩
theorem Box2.new (w : World) (a b : Value) (t : TypeId) : Box2 (w.alloc (.cells #[a, b] t)) w.heap.size a b := by
  have h := heap_alloc_new w (.cells #[a, b] t)
  refine ⟨?_, ?_, (Array.getElem?_eq_some_iff.1 h).1⟩ <;> (unfold World.cell?; rw [h]; rfl)
theorem Box2.old {w : World} {k : Nat} {a b : Value} (h : Box2 w k a b) (o : Obj) : Box2 (w.alloc o) k a b := h.below ((Below.refl _ _).alloc (Nat.le_refl _) o)

theorem more_bad (r b l t m0 m1 now : Int) (w : World) (h : okB r b l t = false) :
    Calls Try.prog 8 #[.agg #[.int .i64 r, .int .i64 b, .int .i64 l, .int .i64 t], .agg #[.int .i64 m0, .int .i64 m1], .int .i64 now] w fun e w' => e = .returned (.bool true) ∧ Below w.heap.size w w' := by
  have hok := Lib.hid h
  clear h
  go_enter Try.func8, Try.ntmps8
  have hB := (((Below.refl w.heap.size w).alloc (Nat.le_refl _) (.cells #[.int .i64 r, .int .i64 b, .int .i64 l, .int .i64 t] 23)).alloc (by simp) (.cells #[.int .i64 m0, .int .i64 m1] 50)).alloc (by simp; omega) (.cells #[.int .i64 r, .int .i64 b, .int .i64 l, .int .i64 t] 24)
  have X := Lib.hid (Cls.Box4.new ((w.alloc (.cells #[.int .i64 r, .int .i64 b, .int .i64 l, .int .i64 t] 23)).alloc (.cells #[.int .i64 m0, .int .i64 m1] 50)) (.int .i64 r) (.int .i64 b) (.int .i64 l) (.int .i64 t) 24)
  have Y := Lib.hid ((Box2.new (w.alloc (.cells #[.int .i64 r, .int .i64 b, .int .i64 l, .int .i64 t] 23)) (.int .i64 m0) (.int .i64 m1) 50).old (.cells #[.int .i64 r, .int .i64 b, .int .i64 l, .int .i64 t] 24))
  simp only [World.size_alloc] at X Y
  have c0 := True.intro; have c1 := c0; have c2 := c0; have c3 := c0; have hz := c0; have d0 := c0; have d1 := c0; have hd := c0
  go_wp2_with (first
    | (go_at_call 14; (with_reducible refine (right_any r b l t _).mono ?_); rintro e wn ⟨rfl, hbn⟩; rw [hok.out]; have hBn := hB.trans (hbn.mono hB.size); have Xn := Lib.hid (X.out.below hbn); have Yn := Lib.hid (Y.out.below hbn); clear hB X Y c0 c1 c2 c3 hz d0 d1 hd hbn; have hB := hBn; have X := Xn; have Y := Yn; clear hBn Xn Yn; obtain ⟨c0, c1, c2, c3, _, _, _, _, hz⟩ := X.out; obtain ⟨d0, d1, hd⟩ := Y.out)
    | (go_at_call 13; (with_reducible refine (alive_any _).mono ?_); rintro e wn ⟨rfl, hbn⟩; have hBn := hB.trans (hbn.mono hB.size); have Xn := Lib.hid (X.out.below hbn); have Yn := Lib.hid (Y.out.below hbn); clear hB X Y c0 c1 c2 c3 hz d0 d1 hd hbn; have hB := hBn; have X := Xn; have Y := Yn; clear hBn Xn Yn; obtain ⟨c0, c1, c2, c3, _, _, _, _, hz⟩ := X.out; obtain ⟨d0, d1, hd⟩ := Y.out))
  go_ret
  exact ⟨by simp, hB⟩

theorem more_low0 (r b l t m0 m1 now : Int) (w : World) (h : okB r b l t = true) (q0 : decide (m0 < 0) = true) :
    Calls Try.prog 8 #[.agg #[.int .i64 r, .int .i64 b, .int .i64 l, .int .i64 t], .agg #[.int .i64 m0, .int .i64 m1], .int .i64 now] w fun e w' => e = .returned (.bool true) ∧ Below w.heap.size w w' := by
  have hok := Lib.hid h
  clear h
  go_enter Try.func8, Try.ntmps8
  have hB := (((Below.refl w.heap.size w).alloc (Nat.le_refl _) (.cells #[.int .i64 r, .int .i64 b, .int .i64 l, .int .i64 t] 23)).alloc (by simp) (.cells #[.int .i64 m0, .int .i64 m1] 50)).alloc (by simp; omega) (.cells #[.int .i64 r, .int .i64 b, .int .i64 l, .int .i64 t] 24)
  have X := Lib.hid (Cls.Box4.new ((w.alloc (.cells #[.int .i64 r, .int .i64 b, .int .i64 l, .int .i64 t] 23)).alloc (.cells #[.int .i64 m0, .int .i64 m1] 50)) (.int .i64 r) (.int .i64 b) (.int .i64 l) (.int .i64 t) 24)
  have Y := Lib.hid ((Box2.new (w.alloc (.cells #[.int .i64 r, .int .i64 b, .int .i64 l, .int .i64 t] 23)) (.int .i64 m0) (.int .i64 m1) 50).old (.cells #[.int .i64 r, .int .i64 b, .int .i64 l, .int .i64 t] 24))
  simp only [World.size_alloc] at X Y
  have c0 := True.intro; have c1 := c0; have c2 := c0; have c3 := c0; have hz := c0; have d0 := c0; have d1 := c0; have hd := c0
  go_wp2_with (first
    | (go_at_call 14; (with_reducible refine (right_any r b l t _).mono ?_); rintro e wn ⟨rfl, hbn⟩; rw [hok.out]; have hBn := hB.trans (hbn.mono hB.size); have Xn := Lib.hid (X.out.below hbn); have Yn := Lib.hid (Y.out.below hbn); clear hB X Y c0 c1 c2 c3 hz d0 d1 hd hbn; have hB := hBn; have X := Xn; have Y := Yn; clear hBn Xn Yn; obtain ⟨c0, c1, c2, c3, _, _, _, _, hz⟩ := X.out; obtain ⟨d0, d1, hd⟩ := Y.out)
    | (go_at_call 13; (with_reducible refine (alive_any _).mono ?_); rintro e wn ⟨rfl, hbn⟩; have hBn := hB.trans (hbn.mono hB.size); have Xn := Lib.hid (X.out.below hbn); have Yn := Lib.hid (Y.out.below hbn); clear hB X Y c0 c1 c2 c3 hz d0 d1 hd hbn; have hB := hBn; have X := Xn; have Y := Yn; clear hBn Xn Yn; obtain ⟨c0, c1, c2, c3, _, _, _, _, hz⟩ := X.out; obtain ⟨d0, d1, hd⟩ := Y.out))
  go_ret
  exact ⟨by simp, hB⟩

theorem more_low1 (r b l t m0 m1 now : Int) (w : World) (h : okB r b l t = true) (q0 : decide (m0 < 0) = false) (q1 : decide (m1 < 0) = true) :
    Calls Try.prog 8 #[.agg #[.int .i64 r, .int .i64 b, .int .i64 l, .int .i64 t], .agg #[.int .i64 m0, .int .i64 m1], .int .i64 now] w fun e w' => e = .returned (.bool true) ∧ Below w.heap.size w w' := by
  have hok := Lib.hid h
  clear h
  go_enter Try.func8, Try.ntmps8
  have hB := (((Below.refl w.heap.size w).alloc (Nat.le_refl _) (.cells #[.int .i64 r, .int .i64 b, .int .i64 l, .int .i64 t] 23)).alloc (by simp) (.cells #[.int .i64 m0, .int .i64 m1] 50)).alloc (by simp; omega) (.cells #[.int .i64 r, .int .i64 b, .int .i64 l, .int .i64 t] 24)
  have X := Lib.hid (Cls.Box4.new ((w.alloc (.cells #[.int .i64 r, .int .i64 b, .int .i64 l, .int .i64 t] 23)).alloc (.cells #[.int .i64 m0, .int .i64 m1] 50)) (.int .i64 r) (.int .i64 b) (.int .i64 l) (.int .i64 t) 24)
  have Y := Lib.hid ((Box2.new (w.alloc (.cells #[.int .i64 r, .int .i64 b, .int .i64 l, .int .i64 t] 23)) (.int .i64 m0) (.int .i64 m1) 50).old (.cells #[.int .i64 r, .int .i64 b, .int .i64 l, .int .i64 t] 24))
  simp only [World.size_alloc] at X Y
  have c0 := True.intro; have c1 := c0; have c2 := c0; have c3 := c0; have hz := c0; have d0 := c0; have d1 := c0; have hd := c0
  go_wp2_with (first
    | (go_at_call 14; (with_reducible refine (right_any r b l t _).mono ?_); rintro e wn ⟨rfl, hbn⟩; rw [hok.out]; have hBn := hB.trans (hbn.mono hB.size); have Xn := Lib.hid (X.out.below hbn); have Yn := Lib.hid (Y.out.below hbn); clear hB X Y c0 c1 c2 c3 hz d0 d1 hd hbn; have hB := hBn; have X := Xn; have Y := Yn; clear hBn Xn Yn; obtain ⟨c0, c1, c2, c3, _, _, _, _, hz⟩ := X.out; obtain ⟨d0, d1, hd⟩ := Y.out)
    | (go_at_call 13; (with_reducible refine (alive_any _).mono ?_); rintro e wn ⟨rfl, hbn⟩; have hBn := hB.trans (hbn.mono hB.size); have Xn := Lib.hid (X.out.below hbn); have Yn := Lib.hid (Y.out.below hbn); clear hB X Y c0 c1 c2 c3 hz d0 d1 hd hbn; have hB := hBn; have X := Xn; have Y := Yn; clear hBn Xn Yn; obtain ⟨c0, c1, c2, c3, _, _, _, _, hz⟩ := X.out; obtain ⟨d0, d1, hd⟩ := Y.out))
  go_ret
  exact ⟨by simp, hB⟩

theorem more_top0 (r b l t m0 m1 now : Int) (w : World) (h : okB r b l t = true) (q0 : decide (m0 < 0) = false) (q1 : decide (m1 < 0) = false) (q2 : decide (1000000 < m0) = true) :
    Calls Try.prog 8 #[.agg #[.int .i64 r, .int .i64 b, .int .i64 l, .int .i64 t], .agg #[.int .i64 m0, .int .i64 m1], .int .i64 now] w fun e w' => e = .returned (.bool true) ∧ Below w.heap.size w w' := by
  have hok := Lib.hid h
  clear h
  go_enter Try.func8, Try.ntmps8
  have hB := (((Below.refl w.heap.size w).alloc (Nat.le_refl _) (.cells #[.int .i64 r, .int .i64 b, .int .i64 l, .int .i64 t] 23)).alloc (by simp) (.cells #[.int .i64 m0, .int .i64 m1] 50)).alloc (by simp; omega) (.cells #[.int .i64 r, .int .i64 b, .int .i64 l, .int .i64 t] 24)
  have X := Lib.hid (Cls.Box4.new ((w.alloc (.cells #[.int .i64 r, .int .i64 b, .int .i64 l, .int .i64 t] 23)).alloc (.cells #[.int .i64 m0, .int .i64 m1] 50)) (.int .i64 r) (.int .i64 b) (.int .i64 l) (.int .i64 t) 24)
  have Y := Lib.hid ((Box2.new (w.alloc (.cells #[.int .i64 r, .int .i64 b, .int .i64 l, .int .i64 t] 23)) (.int .i64 m0) (.int .i64 m1) 50).old (.cells #[.int .i64 r, .int .i64 b, .int .i64 l, .int .i64 t] 24))
  simp only [World.size_alloc] at X Y
  have c0 := True.intro; have c1 := c0; have c2 := c0; have c3 := c0; have hz := c0; have d0 := c0; have d1 := c0; have hd := c0
  go_wp2_with (first
    | (go_at_call 14; (with_reducible refine (right_any r b l t _).mono ?_); rintro e wn ⟨rfl, hbn⟩; rw [hok.out]; have hBn := hB.trans (hbn.mono hB.size); have Xn := Lib.hid (X.out.below hbn); have Yn := Lib.hid (Y.out.below hbn); clear hB X Y c0 c1 c2 c3 hz d0 d1 hd hbn; have hB := hBn; have X := Xn; have Y := Yn; clear hBn Xn Yn; obtain ⟨c0, c1, c2, c3, _, _, _, _, hz⟩ := X.out; obtain ⟨d0, d1, hd⟩ := Y.out)
    | (go_at_call 13; (with_reducible refine (alive_any _).mono ?_); rintro e wn ⟨rfl, hbn⟩; have hBn := hB.trans (hbn.mono hB.size); have Xn := Lib.hid (X.out.below hbn); have Yn := Lib.hid (Y.out.below hbn); clear hB X Y c0 c1 c2 c3 hz d0 d1 hd hbn; have hB := hBn; have X := Xn; have Y := Yn; clear hBn Xn Yn; obtain ⟨c0, c1, c2, c3, _, _, _, _, hz⟩ := X.out; obtain ⟨d0, d1, hd⟩ := Y.out))
  go_ret
  exact ⟨by simp, hB⟩

theorem more_top1 (r b l t m0 m1 now : Int) (w : World) (h : okB r b l t = true) (q0 : decide (m0 < 0) = false) (q1 : decide (m1 < 0) = false) (q2 : decide (1000000 < m0) = false) (q3 : decide (1000000 < m1) = true) :
    Calls Try.prog 8 #[.agg #[.int .i64 r, .int .i64 b, .int .i64 l, .int .i64 t], .agg #[.int .i64 m0, .int .i64 m1], .int .i64 now] w fun e w' => e = .returned (.bool true) ∧ Below w.heap.size w w' := by
  have hok := Lib.hid h
  clear h
  go_enter Try.func8, Try.ntmps8
  have hB := (((Below.refl w.heap.size w).alloc (Nat.le_refl _) (.cells #[.int .i64 r, .int .i64 b, .int .i64 l, .int .i64 t] 23)).alloc (by simp) (.cells #[.int .i64 m0, .int .i64 m1] 50)).alloc (by simp; omega) (.cells #[.int .i64 r, .int .i64 b, .int .i64 l, .int .i64 t] 24)
  have X := Lib.hid (Cls.Box4.new ((w.alloc (.cells #[.int .i64 r, .int .i64 b, .int .i64 l, .int .i64 t] 23)).alloc (.cells #[.int .i64 m0, .int .i64 m1] 50)) (.int .i64 r) (.int .i64 b) (.int .i64 l) (.int .i64 t) 24)
  have Y := Lib.hid ((Box2.new (w.alloc (.cells #[.int .i64 r, .int .i64 b, .int .i64 l, .int .i64 t] 23)) (.int .i64 m0) (.int .i64 m1) 50).old (.cells #[.int .i64 r, .int .i64 b, .int .i64 l, .int .i64 t] 24))
  simp only [World.size_alloc] at X Y
  have c0 := True.intro; have c1 := c0; have c2 := c0; have c3 := c0; have hz := c0; have d0 := c0; have d1 := c0; have hd := c0
  go_wp2_with (first
    | (go_at_call 14; (with_reducible refine (right_any r b l t _).mono ?_); rintro e wn ⟨rfl, hbn⟩; rw [hok.out]; have hBn := hB.trans (hbn.mono hB.size); have Xn := Lib.hid (X.out.below hbn); have Yn := Lib.hid (Y.out.below hbn); clear hB X Y c0 c1 c2 c3 hz d0 d1 hd hbn; have hB := hBn; have X := Xn; have Y := Yn; clear hBn Xn Yn; obtain ⟨c0, c1, c2, c3, _, _, _, _, hz⟩ := X.out; obtain ⟨d0, d1, hd⟩ := Y.out)
    | (go_at_call 13; (with_reducible refine (alive_any _).mono ?_); rintro e wn ⟨rfl, hbn⟩; have hBn := hB.trans (hbn.mono hB.size); have Xn := Lib.hid (X.out.below hbn); have Yn := Lib.hid (Y.out.below hbn); clear hB X Y c0 c1 c2 c3 hz d0 d1 hd hbn; have hB := hBn; have X := Xn; have Y := Yn; clear hBn Xn Yn; obtain ⟨c0, c1, c2, c3, _, _, _, _, hz⟩ := X.out; obtain ⟨d0, d1, hd⟩ := Y.out))
  go_ret
  exact ⟨by simp, hB⟩


set_option maxHeartbeats 4000000 in
theorem more_good (r b l t m0 m1 now : Int) (w : World) (h : okB r b l t = true) (q0 : decide (m0 < 0) = false) (q1 : decide (m1 < 0) = false) (q2 : decide (1000000 < m0) = false) (q3 : decide (1000000 < m1) = false) :
    Calls Try.prog 8 #[.agg #[.int .i64 r, .int .i64 b, .int .i64 l, .int .i64 t], .agg #[.int .i64 m0, .int .i64 m1], .int .i64 now] w fun e w' => e = .returned (.bool true) ∧ Below w.heap.size w w' := by
  have hok := Lib.hid h
  have e0 := of_decide_eq_false q0
  have e1 := of_decide_eq_false q1
  have e2 := of_decide_eq_false q2
  have e3 := of_decide_eq_false q3
  obtain ⟨o1, o2, o3, o4, o5, o6⟩ := of_decide_eq_true h
  have p1 := more_ok h (m0 := m0) (m1 := m1) ⟨by omega, by omega⟩ ⟨by omega, by omega⟩
  have hr := (add_more o1 (m := m0) ⟨by omega, by omega⟩).1
  have hb := (add_more o2 (m := m1) ⟨by omega, by omega⟩).1
  have p2 : decide ((fillL r b l t now) ≤ (fillL (add r m0) (add b m1) l t now)) = true := decide_eq_true (fill_mono h p1 hr hb)
  have p3 : decide ((mostN r b l t now) ≤ (mostN (add r m0) (add b m1) l t now)) = true := decide_eq_true (most_mono h p1 hr hb)
  have P2 := Lib.hid p2
  have P3 := Lib.hid p3
  clear h e0 e1 e2 e3 o1 o2 o3 o4 o5 o6 hr hb p2 p3
  have fld : ∀ (x y z u : Int) (W : World), (Instr.field 24 (.agg #[.int .i64 x, .int .i64 y, .int .i64 z, .int .i64 u]) 2).run Try.prog W = .ok (.int .i64 z) W := fun _ _ _ _ _ => by kernel_rfl
  go_enter Try.func8, Try.ntmps8
  have hB := (((Below.refl w.heap.size w).alloc (Nat.le_refl _) (.cells #[.int .i64 r, .int .i64 b, .int .i64 l, .int .i64 t] 23)).alloc (by simp) (.cells #[.int .i64 m0, .int .i64 m1] 50)).alloc (by simp; omega) (.cells #[.int .i64 r, .int .i64 b, .int .i64 l, .int .i64 t] 24)
  have X := Lib.hid (Cls.Box4.new ((w.alloc (.cells #[.int .i64 r, .int .i64 b, .int .i64 l, .int .i64 t] 23)).alloc (.cells #[.int .i64 m0, .int .i64 m1] 50)) (.int .i64 r) (.int .i64 b) (.int .i64 l) (.int .i64 t) 24)
  have Y := Lib.hid ((Box2.new (w.alloc (.cells #[.int .i64 r, .int .i64 b, .int .i64 l, .int .i64 t] 23)) (.int .i64 m0) (.int .i64 m1) 50).old (.cells #[.int .i64 r, .int .i64 b, .int .i64 l, .int .i64 t] 24))
  simp only [World.size_alloc] at X Y
  have c0 := True.intro; have c1 := c0; have c2 := c0; have c3 := c0; have hz := c0; have d0 := c0; have d1 := c0; have hd := c0
  go_wp2_with fail
  refine (right_any r b l t _).mono ?_
  rintro e w1 ⟨rfl, hbn⟩
  rw [hok.out]
  have hBn := hB.trans (hbn.mono hB.size); have Xn := Lib.hid (X.out.below hbn); have Yn := Lib.hid (Y.out.below hbn); clear hB X Y c0 c1 c2 c3 hz d0 d1 hd hbn; have hB := hBn; have X := Xn; have Y := Yn; clear hBn Xn Yn; obtain ⟨c0, c1, c2, c3, _, _, _, _, hz⟩ := X.out; obtain ⟨d0, d1, hd⟩ := Y.out
  go_wp2
  have hB2 := hB.alloc hB.size (.cells #[.int .i64 r, .int .i64 b, .int .i64 l, .int .i64 t] 24)
  have X2 := Lib.hid (Cls.Box4.new w1 (.int .i64 r) (.int .i64 b) (.int .i64 l) (.int .i64 t) 24)
  have X1 := Lib.hid (X.out.old (.cells #[.int .i64 r, .int .i64 b, .int .i64 l, .int .i64 t] 24))
  have Y1 := Lib.hid (Y.out.old (.cells #[.int .i64 r, .int .i64 b, .int .i64 l, .int .i64 t] 24))
  have hle : w.heap.size ≤ w1.heap.size := hB.size
  have hfar : w1.heap.size ≠ w.heap.size + 1 + 1 := by omega
  clear hB X Y c0 c1 c2 c3 hz d0 d1 hd
  have hB := hB2; have X := X1; have Y := Y1
  clear hB2 X1 Y1
  generalize hw2 : w1.alloc (.cells #[.int .i64 r, .int .i64 b, .int .i64 l, .int .i64 t] 24) = w2 at *
  refine Tail.region 11 (fun w' => Below w2.heap.size w2 w') (by kernel_rfl) (by kernel_rfl) (Below.refl _ _).drew ?_
  simp only [List.take_succ_cons, List.take_zero, List.drop_succ_cons, List.drop_zero]
  refine Cls.value ?_ rfl (fun w' hw' => ?_) ?_
  rotate_left
  · go_simp; rfl
  simp only [Act.put, List.setIfInBounds_toArray, List.set_cons_zero, List.set_cons_succ]
  refine Cls.value ?_ rfl (fun w' hw' => ?_) ?_
  rotate_left
  · obtain ⟨q0, q1, q2, q3, _, _, _, _, qz⟩ := X2.out.below hw'; go_simp; rfl
  simp only [Act.put, List.setIfInBounds_toArray, List.set_cons_zero, List.set_cons_succ]
  refine Cls.value ?_ rfl (fun w' hw' => ?_) ?_
  rotate_left
  · go_simp; rfl
  simp only [Act.put, List.setIfInBounds_toArray, List.set_cons_zero, List.set_cons_succ]
  refine Cls.value ?_ rfl (fun w' hw' => ?_) ?_
  rotate_left
  · obtain ⟨q0, q1, qz⟩ := Y.out.below hw'; go_simp; rfl
  simp only [Act.put, List.setIfInBounds_toArray, List.set_cons_zero, List.set_cons_succ]
  refine Cls.call 21 #[.int .i64 r, .int .i64 m0] (.int .i64 (add r m0)) rfl (fun w' => ?_) (fun w' hw' => (Ref01.add_any r m0 w').mono ?_) ?_
  · go_simp
  · rintro e w'' ⟨rfl, rfl⟩; exact ⟨rfl, hw'⟩
  simp only [Act.put, List.setIfInBounds_toArray, List.set_cons_zero, List.set_cons_succ]
  refine Cls.value ?_ rfl (fun w' hw' => ?_) ?_
  rotate_left
  · go_simp; rfl
  simp only [Act.put, List.setIfInBounds_toArray, List.set_cons_zero, List.set_cons_succ]
  refine Cls.value ?_ rfl (fun w' hw' => ?_) ?_
  rotate_left
  · obtain ⟨q0, q1, q2, q3, _, _, _, _, qz⟩ := X2.out.below hw'; go_simp; rfl
  simp only [Act.put, List.setIfInBounds_toArray, List.set_cons_zero, List.set_cons_succ]
  refine Cls.value ?_ rfl (fun w' hw' => ?_) ?_
  rotate_left
  · go_simp; rfl
  simp only [Act.put, List.setIfInBounds_toArray, List.set_cons_zero, List.set_cons_succ]
  refine Cls.value ?_ rfl (fun w' hw' => ?_) ?_
  rotate_left
  · obtain ⟨q0, q1, qz⟩ := Y.out.below hw'; go_simp; rfl
  simp only [Act.put, List.setIfInBounds_toArray, List.set_cons_zero, List.set_cons_succ]
  refine Cls.call 21 #[.int .i64 b, .int .i64 m1] (.int .i64 (add b m1)) rfl (fun w' => ?_) (fun w' hw' => (Ref01.add_any b m1 w').mono ?_) ?_
  · go_simp
  · rintro e w'' ⟨rfl, rfl⟩; exact ⟨rfl, hw'⟩
  simp only [Act.put, List.setIfInBounds_toArray, List.set_cons_zero, List.set_cons_succ]
  refine Cls.value ?_ rfl (fun w' hw' => ?_) ?_
  rotate_left
  · go_simp; rfl
  simp only [Act.put, List.setIfInBounds_toArray, List.set_cons_zero, List.set_cons_succ]
  refine Cls.done fun w3 hw' => ?_
  have hB3 := hB.trans (hw'.mono hB.size)
  have X3 := Lib.hid (X.out.below hw')
  have X23 := X2.out.below hw'
  have Y3 := Lib.hid (Y.out.below hw')
  obtain ⟨c0, c1, c2, c3, f0, f1, f2, f3, hz⟩ := X23
  have hB4 := ((hB3.setCell (p := ⟨w1.heap.size, 0, none⟩) hle (.int .i64 (add r m0))).setCell (p := ⟨w1.heap.size, 1, none⟩) hle (.int .i64 (add b m1)))
  have X4 := Lib.hid ((X3.out.far hfar (i := 0) (.int .i64 (add r m0))).far hfar (i := 1) (.int .i64 (add b m1)))
  have X24 := Lib.hid ((X2.out.below hw').set0 (.int .i64 (add r m0))  |>.set1 (.int .i64 (add b m1)))
  clear hB X X2 Y hw' hB3 X3
  go_wp2
  clear c0 c1 c2 c3 f0 f1 f2 f3 hz
  generalize (w3.setCell ⟨w1.heap.size, 0, none⟩ (.int .i64 (add r m0))).setCell ⟨w1.heap.size, 1, none⟩ (.int .i64 (add b m1)) = w4 at *
  have X := X4; have X2 := X24
  clear X4 X24
  have z1 := P2.out
  have z2 := P3.out
  refine Cls.region (fun w' => Below w4.heap.size w4 w') (by kernel_rfl) (by kernel_rfl) (Below.refl _ _).drew ?_
  refine Cls.call 13 #[] ((.bool true)) rfl (fun w' => ?_) (fun w' hw' => (alive_any w').mono ?_) ?_
  · go_simp
  · rintro e w'' ⟨rfl, hb⟩; exact ⟨rfl, hw'.trans (hb.mono hw'.size)⟩
  simp only [Act.put, List.setIfInBounds_toArray, List.set_cons_zero, List.set_cons_succ]
  refine Cls.value ?_ rfl (fun w' hw' => ?_) ?_
  rotate_left
  · go_simp; rfl
  simp only [Act.put, List.setIfInBounds_toArray, List.set_cons_zero, List.set_cons_succ]
  refine Cls.valueG ?_ (by go_simp) (fun w' hw' => ?_) ?_
  rotate_left
  · obtain ⟨q0, q1, q2, q3, _, _, _, _, qz⟩ := X2.out.below hw'; go_simp; rfl
  simp only [Act.put, List.setIfInBounds_toArray, List.set_cons_zero, List.set_cons_succ]
  refine Cls.callG 14 #[.agg #[.int .i64 (add r m0), .int .i64 (add b m1), .int .i64 l, .int .i64 t]] ((.bool true)) (by go_simp) (fun w' => ?_) (fun w' hw' => (right_any (add r m0) (add b m1) l t w').mono ?_) ?_
  · go_simp
  · rintro e w'' ⟨rfl, hb⟩; exact ⟨by rw [p1], hw'.trans (hb.mono hw'.size)⟩
  simp only [Act.put, List.setIfInBounds_toArray, List.set_cons_zero, List.set_cons_succ]
  refine Cls.value ?_ rfl (fun w' hw' => ?_) ?_
  rotate_left
  · go_simp; rfl
  simp only [Act.put, List.setIfInBounds_toArray, List.set_cons_zero, List.set_cons_succ]
  refine Cls.value ?_ rfl (fun w' hw' => ?_) ?_
  rotate_left
  · go_simp; rfl
  simp only [Act.put, List.setIfInBounds_toArray, List.set_cons_zero, List.set_cons_succ]
  refine Cls.valueG ?_ (by go_simp) (fun w' hw' => ?_) ?_
  rotate_left
  · obtain ⟨q0, q1, q2, q3, _, _, _, _, qz⟩ := X2.out.below hw'; go_simp; rfl
  simp only [Act.put, List.setIfInBounds_toArray, List.set_cons_zero, List.set_cons_succ]
  refine Cls.valueG ?_ (by go_simp) (fun w' hw' => ?_) ?_
  rotate_left
  · go_simp; rfl
  simp only [Act.put, List.setIfInBounds_toArray, List.set_cons_zero, List.set_cons_succ]
  refine Cls.callG 16 #[.agg #[.int .i64 (add r m0), .int .i64 (add b m1), .int .i64 l, .int .i64 t], .int .i64 now] (.agg #[.int .i64 (add r m0), .int .i64 (add b m1), .int .i64 (fillL (add r m0) (add b m1) l t now), .int .i64 (fillT (add r m0) (add b m1) l t now)]) (by go_simp) (fun w' => ?_) (fun w' hw' => (fill_any (add r m0) (add b m1) l t now w').mono ?_) ?_
  · go_simp
  · rintro e w'' ⟨rfl, hb⟩; exact ⟨rfl, hw'.trans (hb.mono hw'.size)⟩
  simp only [Act.put, List.setIfInBounds_toArray, List.set_cons_zero, List.set_cons_succ]
  refine Cls.valueG ?_ (by go_simp) (fun w' hw' => ?_) ?_
  rotate_left
  · go_simp; rfl
  simp only [Act.put, List.setIfInBounds_toArray, List.set_cons_zero, List.set_cons_succ]
  refine Cls.valueG ?_ (by go_simp) (fun w' hw' => ?_) ?_
  rotate_left
  · obtain ⟨q0, q1, q2, q3, _, _, _, _, qz⟩ := X.out.below hw'; go_simp; rfl
  simp only [Act.put, List.setIfInBounds_toArray, List.set_cons_zero, List.set_cons_succ]
  refine Cls.valueG ?_ (by go_simp) (fun w' hw' => ?_) ?_
  rotate_left
  · go_simp; rfl
  simp only [Act.put, List.setIfInBounds_toArray, List.set_cons_zero, List.set_cons_succ]
  refine Cls.callG 16 #[.agg #[.int .i64 r, .int .i64 b, .int .i64 l, .int .i64 t], .int .i64 now] (.agg #[.int .i64 r, .int .i64 b, .int .i64 (fillL r b l t now), .int .i64 (fillT r b l t now)]) (by go_simp) (fun w' => ?_) (fun w' hw' => (fill_any r b l t now w').mono ?_) ?_
  · go_simp
  · rintro e w'' ⟨rfl, hb⟩; exact ⟨rfl, hw'.trans (hb.mono hw'.size)⟩
  simp only [Act.put, List.setIfInBounds_toArray, List.set_cons_zero, List.set_cons_succ]
  refine Cls.valueG ?_ (by go_simp) (fun w' hw' => ?_) ?_
  rotate_left
  · go_simp; rfl
  simp only [Act.put, List.setIfInBounds_toArray, List.set_cons_zero, List.set_cons_succ]
  refine Cls.valueG ?_ (by go_simp) (fun w' hw' => ?_) ?_
  rotate_left
  · go_simp; rfl
  simp only [Act.put, List.setIfInBounds_toArray, List.set_cons_zero, List.set_cons_succ]
  refine Cls.value ?_ rfl (fun w' hw' => ?_) ?_
  rotate_left
  · go_simp; rfl
  simp only [Act.put, List.setIfInBounds_toArray, List.set_cons_zero, List.set_cons_succ]
  refine Cls.value ?_ rfl (fun w' hw' => ?_) ?_
  rotate_left
  · go_simp; rfl
  simp only [Act.put, List.setIfInBounds_toArray, List.set_cons_zero, List.set_cons_succ]
  refine Cls.valueG ?_ (by go_simp) (fun w' hw' => ?_) ?_
  rotate_left
  · obtain ⟨q0, q1, q2, q3, _, _, _, _, qz⟩ := X2.out.below hw'; go_simp; rfl
  simp only [Act.put, List.setIfInBounds_toArray, List.set_cons_zero, List.set_cons_succ]
  refine Cls.valueG ?_ (by go_simp) (fun w' hw' => ?_) ?_
  rotate_left
  · go_simp; rfl
  simp only [Act.put, List.setIfInBounds_toArray, List.set_cons_zero, List.set_cons_succ]
  refine Cls.callG 18 #[.agg #[.int .i64 (add r m0), .int .i64 (add b m1), .int .i64 l, .int .i64 t], .int .i64 now] (.int .i64 (mostN (add r m0) (add b m1) l t now)) (by go_simp) (fun w' => ?_) (fun w' hw' => (most_any (add r m0) (add b m1) l t now w').mono ?_) ?_
  · go_simp
  · rintro e w'' ⟨rfl, hb⟩; exact ⟨rfl, hw'.trans (hb.mono hw'.size)⟩
  simp only [Act.put, List.setIfInBounds_toArray, List.set_cons_zero, List.set_cons_succ]
  refine Cls.valueG ?_ (by go_simp) (fun w' hw' => ?_) ?_
  rotate_left
  · obtain ⟨q0, q1, q2, q3, _, _, _, _, qz⟩ := X.out.below hw'; go_simp; rfl
  simp only [Act.put, List.setIfInBounds_toArray, List.set_cons_zero, List.set_cons_succ]
  refine Cls.valueG ?_ (by go_simp) (fun w' hw' => ?_) ?_
  rotate_left
  · go_simp; rfl
  simp only [Act.put, List.setIfInBounds_toArray, List.set_cons_zero, List.set_cons_succ]
  refine Cls.callG 18 #[.agg #[.int .i64 r, .int .i64 b, .int .i64 l, .int .i64 t], .int .i64 now] (.int .i64 (mostN r b l t now)) (by go_simp) (fun w' => ?_) (fun w' hw' => (most_any r b l t now w').mono ?_) ?_
  · go_simp
  · rintro e w'' ⟨rfl, hb⟩; exact ⟨rfl, hw'.trans (hb.mono hw'.size)⟩
  simp only [Act.put, List.setIfInBounds_toArray, List.set_cons_zero, List.set_cons_succ]
  refine Cls.valueG ?_ (by go_simp) (fun w' hw' => ?_) ?_
  rotate_left
  · go_simp; rfl
  simp only [Act.put, List.setIfInBounds_toArray, List.set_cons_zero, List.set_cons_succ]
  refine Cls.value ?_ rfl (fun w' hw' => ?_) ?_
  rotate_left
  · go_simp; rfl
  simp only [Act.put, List.setIfInBounds_toArray, List.set_cons_zero, List.set_cons_succ]
  refine Cls.value ?_ rfl (fun w' hw' => ?_) ?_
  rotate_left
  · go_simp; rfl
  simp only [Act.put, List.setIfInBounds_toArray, List.set_cons_zero, List.set_cons_succ]
  refine Cls.done fun w' hw' => ?_
  go_wp2
  go_ret
  exact ⟨by simp, hB4.trans (hw'.mono hB4.size)⟩

theorem more_any (r b l t m0 m1 now : Int) (w : World) :
    Calls Try.prog 8 #[.agg #[.int .i64 r, .int .i64 b, .int .i64 l, .int .i64 t], .agg #[.int .i64 m0, .int .i64 m1], .int .i64 now] w fun e w' => e = .returned (.bool true) ∧ Below w.heap.size w w' := by
  cases h : okB r b l t with
  | false => exact more_bad r b l t m0 m1 now w h
  | true =>
    cases q0 : decide (m0 < 0) with
    | true => exact more_low0 r b l t m0 m1 now w h q0
    | false =>
      cases q1 : decide (m1 < 0) with
      | true => exact more_low1 r b l t m0 m1 now w h q0 q1
      | false =>
        cases q2 : decide (1000000 < m0) with
        | true => exact more_top0 r b l t m0 m1 now w h q0 q1 q2
        | false =>
          cases q3 : decide (1000000 < m1) with
          | true => exact more_top1 r b l t m0 m1 now w h q0 q1 q2 q3
          | false => exact more_good r b l t m0 m1 now w h q0 q1 q2 q3
end Go.Proofs.Ytdooeeklpinhfaa.Law08
