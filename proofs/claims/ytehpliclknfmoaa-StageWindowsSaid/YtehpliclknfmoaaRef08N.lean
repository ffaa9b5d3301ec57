/- Plain law of buckets: how the level rises, and when there are so many. No program. -/
import Derived.Test.YtehpliclknfmoaaBucketB
import Derived.Test.YtehpliclknfmoaaRef01
namespace Go.Proofs.Ytehpliclknfmoaa.Bucket
open Tick

theorem mul_le_of {r d : Int} (hr : 0 ≤ r ∧ r ≤ 1099511627776) (hd : 0 ≤ d ∧ d ≤ 1099511627776) : mul r d = if 1099511627776 < r * d then 1099511627776 else r * d := by
  unfold mul
  rw [nr_in hr.1 hr.2, nr_in hd.1 hd.2]

/-- what a right bucket holds behind some ticks. -/
theorem fillL_min {r b l t m : Int} (h : okB r b l t = true) (h0 : t ≤ m) (h1 : m ≤ 1099511627776) : fillL r b l t m = if b < l + r * (m - t) then b else l + r * (m - t) := by
  obtain ⟨o1, o2, o3, o4, o5, o6⟩ := of_decide_eq_true h
  have hm : nr m = m := nr_in (by omega) h1
  by_cases e : t < m
  · unfold fillL
    rw [hm, if_pos ⟨h, e⟩, mul_le_of o1 ⟨by omega, by omega⟩]
    have hp : 0 ≤ r * (m - t) := Int.mul_nonneg o1.1 (by omega)
    generalize r * (m - t) = p at *
    unfold add
    rw [nr_in o3.1 o3.2]
    by_cases q : 1099511627776 < p
    · rw [if_pos q, show nr 1099511627776 = 1099511627776 by decide]
      have hn : nr (l + 1099511627776) = 1099511627776 := by
        by_cases z : 1099511627776 < l + 1099511627776
        · exact nr_top z
        · rw [nr_in (by omega) (by omega)]; omega
      rw [hn, if_pos (by omega : b < l + p)]
      split <;> omega
    · rw [if_neg q, nr_in hp (by omega)]
      by_cases z : 1099511627776 < l + p
      · rw [nr_top z, if_pos (by omega : b < l + p)]
        split <;> omega
      · rw [nr_in (by omega) (by omega)]
        split <;> split <;> omega
  · obtain rfl : t = m := by omega
    rw [fillL_no (by rw [hm]; omega), Int.sub_self, Int.mul_zero, Int.add_zero, if_neg (by omega)]

theorem up_le {a r d : Int} (ha : 0 < a ∧ a ≤ 1099511627776) (hr : 1 ≤ r ∧ r ≤ 1099511627776) : up a r ≤ d ↔ a ≤ r * d := by
  have e : up a r = (a + r - 1) / r := by
    unfold up
    rw [nr_in (by omega) ha.2, nr_in (by omega) hr.2, if_neg (by omega), if_neg (by omega)]
  rw [e]
  constructor
  · intro h
    have h1 : (a + r - 1) / r < d + 1 := by omega
    have h2 := (Int.ediv_lt_iff_lt_mul (by omega : 0 < r)).1 h1
    rw [Int.add_mul, Int.one_mul, Int.mul_comm] at h2
    omega
  · intro h
    have h2 : (a + r - 1) / r < d + 1 := (Int.ediv_lt_iff_lt_mul (by omega : 0 < r)).2 (by
      rw [Int.add_mul, Int.one_mul, Int.mul_comm]; omega)
    omega

theorem when_law {r b l t m n : Int} (h : okB r b l t = true) (h0 : t ≤ m) (h1 : m ≤ 1099511627776) : n ≤ fillL r b l t m ↔ n ≤ b ∧ (n ≤ l ∨ (r ≠ 0 ∧ t + up (n - l) r ≤ m)) := by
  obtain ⟨o1, o2, o3, o4, o5, o6⟩ := of_decide_eq_true h
  rw [fillL_min h h0 h1]
  have hp : 0 ≤ r * (m - t) := Int.mul_nonneg o1.1 (by omega)
  by_cases hl : n ≤ l
  · constructor
    · intro _; exact ⟨by omega, .inl hl⟩
    · intro _; split <;> omega
  · by_cases hb : n ≤ b
    · by_cases hr : r = 0
      · subst hr
        rw [Int.zero_mul]
        constructor
        · intro hh; exfalso; split at hh <;> omega
        · rintro ⟨_, hh | ⟨hh, _⟩⟩
          · exact absurd hh hl
          · exact absurd rfl hh
      · have hu := up_le (a := n - l) (r := r) (d := m - t) ⟨by omega, by omega⟩ ⟨by omega, o1.2⟩
        constructor
        · intro hh
          refine ⟨hb, .inr ⟨hr, ?_⟩⟩
          have := hu.2 (by split at hh <;> omega)
          omega
        · rintro ⟨_, hh | ⟨_, hh⟩⟩
          · exact absurd hh hl
          · have := hu.1 (by omega)
            split <;> omega
    · constructor
      · intro hh; exfalso; split at hh <;> omega
      · rintro ⟨hh, _⟩; exact absurd hh hb

theorem up_nonneg (a r : Int) : 0 ≤ up a r := by
  have h1 := nr_bd a
  have h2 := nr_bd r
  unfold up
  split
  · omega
  · split
    · omega
    · exact Int.ediv_nonneg (by omega) (by omega)

/-- is there such a tick? -/
theorem whenB_top {r b l t n : Int} (h : okB r b l t = true) : whenB r b l t n = decide (n ≤ fillL r b l t 1099511627776) := by
  obtain ⟨o1, o2, o3, o4, o5, o6⟩ := of_decide_eq_true h
  have hw := when_law (n := n) h o4.2 (Int.le_refl _)
  have hu := up_nonneg (n - l) r
  rw [Bool.eq_iff_iff, decide_eq_true_eq, hw]
  unfold whenB
  rw [h]
  simp only [Bool.true_and, Bool.and_eq_true, Bool.or_eq_true, decide_eq_true_eq, rightB]
  constructor
  · rintro ⟨a, b | ⟨b, c⟩⟩
    · exact ⟨a, .inl b⟩
    · exact ⟨a, .inr ⟨b, c.2⟩⟩
  · rintro ⟨a, b | ⟨b, c⟩⟩
    · exact ⟨a, .inl b⟩
    · exact ⟨a, .inr ⟨b, ⟨by omega, c⟩⟩⟩

/-- from that tick on there are so many, and ahead of it there are not. -/
theorem whenT_least {r b l t n m : Int} (h : okB r b l t = true) (hb : whenB r b l t n = true) (h0 : t ≤ m) (h1 : m ≤ 1099511627776) : n ≤ fillL r b l t m ↔ whenT r b l t n ≤ m := by
  rw [when_law h h0 h1]
  have hw := hb
  unfold whenB at hw
  rw [h] at hw
  simp only [Bool.true_and, Bool.and_eq_true, Bool.or_eq_true, decide_eq_true_eq] at hw
  obtain ⟨hnb, hc⟩ := hw
  unfold whenT
  rw [if_pos hb]
  by_cases hl : n ≤ l
  · rw [if_pos hl]
    exact ⟨fun _ => h0, fun _ => ⟨hnb, .inl hl⟩⟩
  · rw [if_neg hl]
    rcases hc with hc | ⟨hr, _⟩
    · exact absurd hc hl
    · constructor
      · rintro ⟨_, hh | ⟨_, hh⟩⟩
        · exact absurd hh hl
        · exact hh
      · intro hh; exact ⟨hnb, .inr ⟨hr, hh⟩⟩

theorem whenT_bd {r b l t n : Int} (h : okB r b l t = true) (hb : whenB r b l t n = true) : t ≤ whenT r b l t n ∧ whenT r b l t n ≤ 1099511627776 := by
  obtain ⟨o1, o2, o3, o4, o5, o6⟩ := of_decide_eq_true h
  have hu := up_nonneg (n - l) r
  have ht := (whenT_least h hb o4.2 (Int.le_refl _)).1 (by
    have := whenB_top (n := n) h
    rw [hb] at this
    exact of_decide_eq_true this.symm)
  refine ⟨?_, ht⟩
  unfold whenT
  rw [if_pos hb]
  split <;> omega
end Go.Proofs.Ytehpliclknfmoaa.Bucket
/- The reference's buckets (chapter 08): each function's contract. Conditions: the numbers are of their kinds. -/
namespace Go.Proofs.Ytehpliclknfmoaa.Ref08
open Go.RowKit Tick Bucket
set_option maxRecDepth 100000
set_option linter.unusedVariables false
set_option linter.unusedSimpArgs false

theorem rightB_nr (n : Int) : (nr n == n) = rightB n := by
  unfold rightB nr
  by_cases h0 : n < 0
  · rw [if_pos h0, decide_eq_false (by omega)]; simp; omega
  · by_cases h1 : 1099511627776 < n
    · rw [if_neg h0, if_pos h1, decide_eq_false (by omega)]; simp; omega
    · rw [if_neg h0, if_neg h1, decide_eq_true (by omega)]; simp

theorem is_any (n : Int) (w : World) :
    Calls Try.prog 33 #[.int .i64 n] w fun e w' => e = .returned (.bool (rightB n)) ∧ w = w' := by
  have h := Lib.hid (rightB_nr n)
  go_enter Try.func33, Try.ntmps33
  go_wp2_with fail
  refine (Ref01.near_any n _).mono ?_
  rintro e w' ⟨rfl, rfl⟩
  go_wp2
  go_ret
  exact ⟨by rw [← h.out]; rfl, rfl⟩
theorem is_yes (n : Int) (w : World) (h : rightB n = true) : Calls Try.prog 33 #[.int .i64 n] w fun e w' => e = .returned (.bool true) ∧ w = w' := by have := is_any n w; rwa [h] at this
theorem is_no (n : Int) (w : World) (h : rightB n = false) : Calls Try.prog 33 #[.int .i64 n] w fun e w' => e = .returned (.bool false) ∧ w = w' := by have := is_any n w; rwa [h] at this
theorem rightB_iff (n : Int) : rightB n = true ↔ 0 ≤ n ∧ n ≤ 1099511627776 := by unfold rightB; simp
theorem ok_parts (r b l t : Int) : okB r b l t = (rightB r && rightB b && rightB l && rightB t && decide (0 < b) && decide (l ≤ b)) := by
  rw [Bool.eq_iff_iff]
  constructor
  · intro h
    obtain ⟨o1, o2, o3, o4, o5, o6⟩ := of_decide_eq_true h
    simp only [Bool.and_eq_true, rightB_iff, decide_eq_true_eq]
    exact ⟨⟨⟨⟨⟨o1, o2⟩, o3⟩, o4⟩, o5⟩, o6⟩
  · intro h
    simp only [Bool.and_eq_true, rightB_iff, decide_eq_true_eq] at h
    obtain ⟨⟨⟨⟨⟨o1, o2⟩, o3⟩, o4⟩, o5⟩, o6⟩ := h
    exact decide_eq_true ⟨o1, o2, o3, o4, o5, o6⟩


theorem right_no0 (r b l t : Int) (w : World)  (hr : Hid (rightB r = false)) :
    Calls Try.prog 34 #[.agg #[.int .i64 r, .int .i64 b, .int .i64 l, .int .i64 t]] w fun e w' => e = .returned (.bool false) ∧ Below w.heap.size w w' := by
  have hB0 := (Below.refl w.heap.size w).alloc (Nat.le_refl _) (.cells #[.int .i64 r, .int .i64 b, .int .i64 l, .int .i64 t] 42)
  go_enter Try.func34, Try.ntmps34
  go_wp2_with (go_at_call 33; (first | (with_reducible refine (is_no r _ hr.out).mono ?_)); rintro e w2 ⟨rfl, rfl⟩)
  go_ret
  exact ⟨rfl, hB0⟩

theorem right_no1 (r b l t : Int) (w : World) (hr : Hid (rightB r = true)) (hb : Hid (rightB b = false)) :
    Calls Try.prog 34 #[.agg #[.int .i64 r, .int .i64 b, .int .i64 l, .int .i64 t]] w fun e w' => e = .returned (.bool false) ∧ Below w.heap.size w w' := by
  have hB0 := (Below.refl w.heap.size w).alloc (Nat.le_refl _) (.cells #[.int .i64 r, .int .i64 b, .int .i64 l, .int .i64 t] 42)
  go_enter Try.func34, Try.ntmps34
  go_wp2_with (go_at_call 33; (first | (with_reducible refine (is_yes r _ hr.out).mono ?_) | (with_reducible refine (is_no b _ hb.out).mono ?_)); rintro e w2 ⟨rfl, rfl⟩)
  go_ret
  exact ⟨rfl, hB0⟩

theorem right_no2 (r b l t : Int) (w : World) (hr : Hid (rightB r = true)) (hb : Hid (rightB b = true)) (hl : Hid (rightB l = false)) :
    Calls Try.prog 34 #[.agg #[.int .i64 r, .int .i64 b, .int .i64 l, .int .i64 t]] w fun e w' => e = .returned (.bool false) ∧ Below w.heap.size w w' := by
  have hB0 := (Below.refl w.heap.size w).alloc (Nat.le_refl _) (.cells #[.int .i64 r, .int .i64 b, .int .i64 l, .int .i64 t] 42)
  go_enter Try.func34, Try.ntmps34
  go_wp2_with (go_at_call 33; (first | (with_reducible refine (is_yes r _ hr.out).mono ?_) | (with_reducible refine (is_yes b _ hb.out).mono ?_) | (with_reducible refine (is_no l _ hl.out).mono ?_)); rintro e w2 ⟨rfl, rfl⟩)
  go_ret
  exact ⟨rfl, hB0⟩

theorem right_no3 (r b l t : Int) (w : World) (hr : Hid (rightB r = true)) (hb : Hid (rightB b = true)) (hl : Hid (rightB l = true)) (ht : Hid (rightB t = false)) :
    Calls Try.prog 34 #[.agg #[.int .i64 r, .int .i64 b, .int .i64 l, .int .i64 t]] w fun e w' => e = .returned (.bool false) ∧ Below w.heap.size w w' := by
  have hB0 := (Below.refl w.heap.size w).alloc (Nat.le_refl _) (.cells #[.int .i64 r, .int .i64 b, .int .i64 l, .int .i64 t] 42)
  go_enter Try.func34, Try.ntmps34
  go_wp2_with (go_at_call 33; (first | (with_reducible refine (is_yes r _ hr.out).mono ?_) | (with_reducible refine (is_yes b _ hb.out).mono ?_) | (with_reducible refine (is_yes l _ hl.out).mono ?_) | (with_reducible refine (is_no t _ ht.out).mono ?_)); rintro e w2 ⟨rfl, rfl⟩)
  go_ret
  exact ⟨rfl, hB0⟩

theorem right_nil (r b l t : Int) (w : World) (hr : Hid (rightB r = true)) (hb : Hid (rightB b = true)) (hl : Hid (rightB l = true)) (ht : Hid (rightB t = true)) (hz : b = 0) :
    Calls Try.prog 34 #[.agg #[.int .i64 r, .int .i64 b, .int .i64 l, .int .i64 t]] w fun e w' => e = .returned (.bool false) ∧ Below w.heap.size w w' := by
  have hne : (b != 0) = false := by simp [hz]
  clear hz
  have hB0 := (Below.refl w.heap.size w).alloc (Nat.le_refl _) (.cells #[.int .i64 r, .int .i64 b, .int .i64 l, .int .i64 t] 42)
  go_enter Try.func34, Try.ntmps34
  go_wp2_with (go_at_call 33; (first | (with_reducible refine (is_yes r _ hr.out).mono ?_) | (with_reducible refine (is_yes b _ hb.out).mono ?_) | (with_reducible refine (is_yes l _ hl.out).mono ?_) | (with_reducible refine (is_yes t _ ht.out).mono ?_)); rintro e w2 ⟨rfl, rfl⟩)
  go_ret
  exact ⟨rfl, hB0⟩

theorem right_over (r b l t : Int) (w : World) (hr : Hid (rightB r = true)) (hb : Hid (rightB b = true)) (hl : Hid (rightB l = true)) (ht : Hid (rightB t = true)) (hz : ¬ b = 0) (ho : b < l) :
    Calls Try.prog 34 #[.agg #[.int .i64 r, .int .i64 b, .int .i64 l, .int .i64 t]] w fun e w' => e = .returned (.bool false) ∧ Below w.heap.size w w' := by
  have hne : (b != 0) = true := by simpa using hz
  clear hz
  have hd : decide (l ≤ b) = false := decide_eq_false (by omega)
  have hB0 := (Below.refl w.heap.size w).alloc (Nat.le_refl _) (.cells #[.int .i64 r, .int .i64 b, .int .i64 l, .int .i64 t] 42)
  go_enter Try.func34, Try.ntmps34
  go_wp2_with (go_at_call 33; (first | (with_reducible refine (is_yes r _ hr.out).mono ?_) | (with_reducible refine (is_yes b _ hb.out).mono ?_) | (with_reducible refine (is_yes l _ hl.out).mono ?_) | (with_reducible refine (is_yes t _ ht.out).mono ?_)); rintro e w2 ⟨rfl, rfl⟩)
  go_ret
  exact ⟨rfl, hB0⟩

theorem right_yes (r b l t : Int) (w : World) (hr : Hid (rightB r = true)) (hb : Hid (rightB b = true)) (hl : Hid (rightB l = true)) (ht : Hid (rightB t = true)) (hz : ¬ b = 0) (ho : l ≤ b) :
    Calls Try.prog 34 #[.agg #[.int .i64 r, .int .i64 b, .int .i64 l, .int .i64 t]] w fun e w' => e = .returned (.bool true) ∧ Below w.heap.size w w' := by
  have hne : (b != 0) = true := by simpa using hz
  clear hz
  have hd : decide (l ≤ b) = true := decide_eq_true ho
  have hB0 := (Below.refl w.heap.size w).alloc (Nat.le_refl _) (.cells #[.int .i64 r, .int .i64 b, .int .i64 l, .int .i64 t] 42)
  go_enter Try.func34, Try.ntmps34
  go_wp2_with (go_at_call 33; (first | (with_reducible refine (is_yes r _ hr.out).mono ?_) | (with_reducible refine (is_yes b _ hb.out).mono ?_) | (with_reducible refine (is_yes l _ hl.out).mono ?_) | (with_reducible refine (is_yes t _ ht.out).mono ?_)); rintro e w2 ⟨rfl, rfl⟩)
  go_ret
  exact ⟨rfl, hB0⟩

theorem right_any (r b l t : Int) (w : World) :
    Calls Try.prog 34 #[.agg #[.int .i64 r, .int .i64 b, .int .i64 l, .int .i64 t]] w fun e w' => e = .returned (.bool (okB r b l t)) ∧ Below w.heap.size w w' := by
  rw [ok_parts]
  cases hr : rightB r with
  | false => simpa using right_no0 r b l t w (Lib.hid hr)
  | true =>
    cases hb : rightB b with
    | false => simpa using right_no1 r b l t w (Lib.hid hr) (Lib.hid hb)
    | true =>
      cases hl : rightB l with
      | false => simpa using right_no2 r b l t w (Lib.hid hr) (Lib.hid hb) (Lib.hid hl)
      | true =>
        cases ht : rightB t with
        | false => simpa using right_no3 r b l t w (Lib.hid hr) (Lib.hid hb) (Lib.hid hl) (Lib.hid ht)
        | true =>
          have hb' := (rightB_iff b).1 hb
          by_cases hz : b = 0
          · have := right_nil r b l t w (Lib.hid hr) (Lib.hid hb) (Lib.hid hl) (Lib.hid ht) hz
            simpa [hz] using this
          · by_cases ho : l ≤ b
            · have := right_yes r b l t w (Lib.hid hr) (Lib.hid hb) (Lib.hid hl) (Lib.hid ht) hz ho
              rw [decide_eq_true (by omega : 0 < b), decide_eq_true ho]
              exact this
            · have := right_over r b l t w (Lib.hid hr) (Lib.hid hb) (Lib.hid hl) (Lib.hid ht) hz (by omega)
              rw [show decide (l ≤ b) = false from decide_eq_false ho]
              simpa using this


end Go.Proofs.Ytehpliclknfmoaa.Ref08
/- The reference's buckets, the second half, and bucket.New. Conditions: the numbers are of their kinds. -/
namespace Go.Proofs.Ytehpliclknfmoaa.Ref08
open Go.RowKit Tick Bucket
set_option maxRecDepth 100000
set_option linter.unusedVariables false
set_option linter.unusedSimpArgs false

theorem most_no (r b l t n : Int) (w : World) (h : okB r b l t = false) :
    Calls Try.prog 15 #[.agg #[.int .i64 r, .int .i64 b, .int .i64 l, .int .i64 t], .int .i64 n] w fun e w' => e = .returned (.int .i64 (mostN r b l t n)) ∧ Below w.heap.size w w' := by
  have e1 := Lib.hid (show mostN r b l t n = 0 from if_neg (by rw [h]; decide))
  have hk := Lib.hid h
  clear h
  go_enter Try.func15, Try.ntmps15
  have hB0 := (Below.refl w.heap.size w).alloc (Nat.le_refl _) (.cells #[.int .i64 r, .int .i64 b, .int .i64 l, .int .i64 t] 42)
  have hbx := Lib.hid (Cls.Box4.new w (.int .i64 r) (.int .i64 b) (.int .i64 l) (.int .i64 t) 42)
  go_wp2_with fail
  refine (Ref08.right_any r b l t _).mono ?_
  rintro e w1 ⟨rfl, hb1⟩
  rw [hk.out]
  obtain ⟨c0, c1, c2, c3, f0, f1, f2, f3, hz⟩ := hbx.out.below hb1
  have hB1 := hB0.trans (hb1.mono (by simp))
  clear hB0 hb1 hbx f0 f1 f2 f3
  go_wp2
  go_ret
  exact ⟨by rw [e1.out]; rfl, hB1⟩
theorem most_yes (r b l t n : Int) (w : World) (h : okB r b l t = true) :
    Calls Try.prog 15 #[.agg #[.int .i64 r, .int .i64 b, .int .i64 l, .int .i64 t], .int .i64 n] w fun e w' => e = .returned (.int .i64 (mostN r b l t n)) ∧ Below w.heap.size w w' := by
  have e1 := Lib.hid (show mostN r b l t n = add b (mul r n) from if_pos h)
  have hk := Lib.hid h
  clear h
  go_enter Try.func15, Try.ntmps15
  have hB0 := (Below.refl w.heap.size w).alloc (Nat.le_refl _) (.cells #[.int .i64 r, .int .i64 b, .int .i64 l, .int .i64 t] 42)
  have hbx := Lib.hid (Cls.Box4.new w (.int .i64 r) (.int .i64 b) (.int .i64 l) (.int .i64 t) 42)
  go_wp2_with fail
  refine (Ref08.right_any r b l t _).mono ?_
  rintro e w1 ⟨rfl, hb1⟩
  rw [hk.out]
  obtain ⟨c0, c1, c2, c3, f0, f1, f2, f3, hz⟩ := hbx.out.below hb1
  have hB1 := hB0.trans (hb1.mono (by simp))
  clear hB0 hb1 hbx f0 f1 f2 f3
  go_wp2
  refine Cls.region (fun w' => Below w1.heap.size w1 w') (by kernel_rfl) (by kernel_rfl) (Below.refl _ _).drew ?_
  refine Cls.value ?_ rfl (fun w' hw' => ?_) ?_
  rotate_left
  · go_simp; rfl
  refine Cls.value ?_ rfl (fun w' hw' => ?_) ?_
  rotate_left
  · have q := (hw'.cell (p := ⟨w.heap.size, 1, none⟩) hz).trans c1
    go_simp; rfl
  refine Cls.value ?_ rfl (fun w' hw' => ?_) ?_
  rotate_left
  · go_simp; rfl
  refine Cls.value ?_ rfl (fun w' hw' => ?_) ?_
  rotate_left
  · have q := (hw'.cell (p := ⟨w.heap.size, 0, none⟩) hz).trans c0
    go_simp; rfl
  refine Cls.value ?_ rfl (fun w' hw' => ?_) ?_
  rotate_left
  · go_simp; rfl
  refine Cls.call 35 #[.int .i64 r, .int .i64 n] (.int .i64 (mul r n)) rfl (fun w' => ?_) (fun w' hw' => (Ref01.mul_any _ _ w').mono ?_) ?_
  · go_simp
  · rintro e w'' ⟨rfl, hb⟩; exact ⟨rfl, hw'.trans (hb.mono hw'.size)⟩
  refine Cls.call 10 #[.int .i64 b, .int .i64 (mul r n)] (.int .i64 (add b (mul r n))) rfl (fun w' => ?_) (fun w' hw' => (Ref01.add_any _ _ w').mono ?_) ?_
  · go_simp
  · rintro e w'' ⟨rfl, rfl⟩; exact ⟨rfl, hw'⟩
  refine Cls.value ?_ rfl (fun w' hw' => ?_) ?_
  rotate_left
  · go_simp; rfl
  refine Cls.done (fun w' hw' => ?_)
  simp only [Act.put, List.setIfInBounds_toArray, List.set_cons_zero, List.set_cons_succ]
  go_wp2
  go_ret
  exact ⟨by rw [e1.out]; rfl, hB1.trans (hw'.mono hB1.size)⟩
theorem most_any (r b l t n : Int) (w : World) :
    Calls Try.prog 15 #[.agg #[.int .i64 r, .int .i64 b, .int .i64 l, .int .i64 t], .int .i64 n] w fun e w' => e = .returned (.int .i64 (mostN r b l t n)) ∧ Below w.heap.size w w' := by
  cases h : okB r b l t with
  | false => exact most_no r b l t n w h
  | true => exact most_yes r b l t n w h




end Go.Proofs.Ytehpliclknfmoaa.Ref08
/- The reference's New of a bucket (chapter 08). Conditions: none. -/
namespace Go.Proofs.Ytehpliclknfmoaa.Ref08
open Go.RowKit Tick Bucket
set_option maxRecDepth 100000
set_option linter.unusedVariables false
set_option linter.unusedSimpArgs false
def newOk (r b t : Int) : Bool := rightB r && rightB b && rightB t && decide (b ≠ 0)
def newV (r b t : Int) : Value := if newOk r b t = true then .tuple #[.agg #[.int .i64 r, .int .i64 b, .int .i64 b, .int .i64 t], .int .i64 0] else .tuple #[.agg #[.int .i64 0, .int .i64 0, .int .i64 0, .int .i64 0], .int .i64 1]
theorem new_any (r b t : Int) (w : World) :
    Calls Try.prog 14 #[.int .i64 r, .int .i64 b, .int .i64 t] w fun e w' => e = .returned (newV r b t) ∧ Below w.heap.size w w' := by
  have hd := Lib.hid (show newV r b t = if newOk r b t = true then .tuple #[.agg #[.int .i64 r, .int .i64 b, .int .i64 b, .int .i64 t], .int .i64 0] else .tuple #[.agg #[.int .i64 0, .int .i64 0, .int .i64 0, .int .i64 0], .int .i64 1] from rfl)
  generalize newV r b t = z at *
  cases h1 : rightB r with
  | false =>
    have hz := Lib.hid (show z = _ from hd.out.trans (if_neg (by unfold newOk; rw [h1]; simp)))
    have h1' := Lib.hid h1
    clear h1 hd
    go_enter Try.func14, Try.ntmps14
    go_wp2_with (go_at_call 33; (with_reducible refine (is_no r _ h1'.out).mono ?_); rintro e w2 ⟨rfl, rfl⟩)
    exact bodyPost_ret (v := .tuple #[.agg #[.int .i64 0, .int .i64 0, .int .i64 0, .int .i64 0], .int .i64 1]) (by simp [results, Try.results14, go_sem]) rfl ⟨by rw [hz.out], (Below.refl _ _).alloc (Nat.le_refl _) _⟩
  | true =>
    have h1' := Lib.hid h1
    cases h2 : rightB b with
    | false =>
      have hz := Lib.hid (show z = _ from hd.out.trans (if_neg (by unfold newOk; rw [h1, h2]; simp)))
      have h2' := Lib.hid h2
      clear h1 h2 hd
      go_enter Try.func14, Try.ntmps14
      go_wp2_with (go_at_call 33; (first | (with_reducible refine (is_yes r _ h1'.out).mono ?_) | (with_reducible refine (is_no b _ h2'.out).mono ?_)); rintro e w2 ⟨rfl, rfl⟩)
      exact bodyPost_ret (v := .tuple #[.agg #[.int .i64 0, .int .i64 0, .int .i64 0, .int .i64 0], .int .i64 1]) (by simp [results, Try.results14, go_sem]) rfl ⟨by rw [hz.out], (Below.refl _ _).alloc (Nat.le_refl _) _⟩
    | true =>
      have h2' := Lib.hid h2
      cases h3 : rightB t with
      | false =>
        have hz := Lib.hid (show z = _ from hd.out.trans (if_neg (by unfold newOk; rw [h1, h2, h3]; simp)))
        have h3' := Lib.hid h3
        clear h1 h2 h3 hd
        go_enter Try.func14, Try.ntmps14
        go_wp2_with (go_at_call 33; (first | (with_reducible refine (is_yes r _ h1'.out).mono ?_) | (with_reducible refine (is_yes b _ h2'.out).mono ?_) | (with_reducible refine (is_no t _ h3'.out).mono ?_)); rintro e w2 ⟨rfl, rfl⟩)
        exact bodyPost_ret (v := .tuple #[.agg #[.int .i64 0, .int .i64 0, .int .i64 0, .int .i64 0], .int .i64 1]) (by simp [results, Try.results14, go_sem]) rfl ⟨by rw [hz.out], (Below.refl _ _).alloc (Nat.le_refl _) _⟩
      | true =>
        have h3' := Lib.hid h3
        by_cases h0 : b = 0
        · have hz := Lib.hid (show z = _ from hd.out.trans (if_neg (by unfold newOk; rw [h1, h2, h3]; simp [h0])))
          have t0 : (b == 0) = true := by simpa using h0
          clear h1 h2 h3 hd h0
          go_enter Try.func14, Try.ntmps14
          go_wp2_with (go_at_call 33; (first | (with_reducible refine (is_yes r _ h1'.out).mono ?_) | (with_reducible refine (is_yes b _ h2'.out).mono ?_) | (with_reducible refine (is_yes t _ h3'.out).mono ?_)); rintro e w2 ⟨rfl, rfl⟩)
          exact bodyPost_ret (v := .tuple #[.agg #[.int .i64 0, .int .i64 0, .int .i64 0, .int .i64 0], .int .i64 1]) (by simp [results, Try.results14, go_sem]) rfl ⟨by rw [hz.out], (Below.refl _ _).alloc (Nat.le_refl _) _⟩
        · have hz := Lib.hid (show z = _ from hd.out.trans (if_pos (by unfold newOk; rw [h1, h2, h3]; simp [h0])))
          have t0 : (b == 0) = false := by simpa using h0
          clear h1 h2 h3 hd h0
          go_enter Try.func14, Try.ntmps14
          go_wp2_with (go_at_call 33; (first | (with_reducible refine (is_yes r _ h1'.out).mono ?_) | (with_reducible refine (is_yes b _ h2'.out).mono ?_) | (with_reducible refine (is_yes t _ h3'.out).mono ?_)); rintro e w2 ⟨rfl, rfl⟩)
          exact bodyPost_ret (v := .tuple #[.agg #[.int .i64 r, .int .i64 b, .int .i64 b, .int .i64 t], .int .i64 0]) (by simp [results, Try.results14, go_sem]) rfl ⟨by rw [hz.out], (Below.refl _ _).alloc (Nat.le_refl _) _⟩
end Go.Proofs.Ytehpliclknfmoaa.Ref08
