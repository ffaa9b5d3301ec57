/- Plain law of buckets: how the level rises, and when there are so many. No program. -/
import Derived.Test.YtdooeeklpinhfaaBucketB
namespace Go.Proofs.Ytdooeeklpinhfaa.Bucket
open Tick

theorem mul_le_of {r d : Int} (hr : 0 ≤ r ∧ r ≤ 1099511627776) (hd : 0 ≤ d ∧ d ≤ 1099511627776) : mul r d = if 1099511627776 < r * d then 1099511627776 else r * d := by
  unfold mul
  rw [nr_in hr.1 hr.2, nr_in hd.1 hd.2]

/-- what a right bucket holds behind some ticks. -/
theorem fillL_min {r b l t m : Int} (h : okB r b l t = true) (h0 : t ≤ m) (h1 : m ≤ 1099511627776) : fillL r b l t m = if b < l + r * (m - t) then b else l + r * (m - t) := by
  obtain ⟨o1, o2, o3, o4, o5, o6⟩ := of_decide_eq_true h
  have hm : nr m = m := nr_in (by omega) h1
  by_cases e : t < m
  · unfold fillL
    rw [hm, if_pos ⟨h, e⟩, mul_le_of o1 ⟨by omega, by omega⟩]
    have hp : 0 ≤ r * (m - t) := Int.mul_nonneg o1.1 (by omega)
    generalize r * (m - t) = p at *
    unfold add
    rw [nr_in o3.1 o3.2]
    by_cases q : 1099511627776 < p
    · rw [if_pos q, show nr 1099511627776 = 1099511627776 by decide]
      have hn : nr (l + 1099511627776) = 1099511627776 := by
        by_cases z : 1099511627776 < l + 1099511627776
        · exact nr_top z
        · rw [nr_in (by omega) (by omega)]; omega
      rw [hn, if_pos (by omega : b < l + p)]
      split <;> omega
    · rw [if_neg q, nr_in hp (by omega)]
      by_cases z : 1099511627776 < l + p
      · rw [nr_top z, if_pos (by omega : b < l + p)]
        split <;> omega
      · rw [nr_in (by omega) (by omega)]
        split <;> split <;> omega
  · obtain rfl : t = m := by omega
    rw [fillL_no (by rw [hm]; omega), Int.sub_self, Int.mul_zero, Int.add_zero, if_neg (by omega)]

theorem up_le {a r d : Int} (ha : 0 < a ∧ a ≤ 1099511627776) (hr : 1 ≤ r ∧ r ≤ 1099511627776) : up a r ≤ d ↔ a ≤ r * d := by
  have e : up a r = (a + r - 1) / r := by
    unfold up
    rw [nr_in (by omega) ha.2, nr_in (by omega) hr.2, if_neg (by omega), if_neg (by omega)]
  rw [e]
  constructor
  · intro h
    have h1 : (a + r - 1) / r < d + 1 := by omega
    have h2 := (Int.ediv_lt_iff_lt_mul (by omega : 0 < r)).1 h1
    rw [Int.add_mul, Int.one_mul, Int.mul_comm] at h2
    omega
  · intro h
    have h2 : (a + r - 1) / r < d + 1 := (Int.ediv_lt_iff_lt_mul (by omega : 0 < r)).2 (by
      rw [Int.add_mul, Int.one_mul, Int.mul_comm]; omega)
    omega

theorem when_law {r b l t m n : Int} (h : okB r b l t = true) (h0 : t ≤ m) (h1 : m ≤ 1099511627776) : n ≤ fillL r b l t m ↔ n ≤ b ∧ (n ≤ l ∨ (r ≠ 0 ∧ t + up (n - l) r ≤ m)) := by
  obtain ⟨o1, o2, o3, o4, o5, o6⟩ := of_decide_eq_true h
  rw [fillL_min h h0 h1]
  have hp : 0 ≤ r * (m - t) := Int.mul_nonneg o1.1 (by omega)
  by_cases hl : n ≤ l
  · constructor
    · intro _; exact ⟨by omega, .inl hl⟩
    · intro _; split <;> omega
  · by_cases hb : n ≤ b
    · by_cases hr : r = 0
      · subst hr
        rw [Int.zero_mul]
        constructor
        · intro hh; exfalso; split at hh <;> omega
        · rintro ⟨_, hh | ⟨hh, _⟩⟩
          · exact absurd hh hl
          · exact absurd rfl hh
      · have hu := up_le (a := n - l) (r := r) (d := m - t) ⟨by omega, by omega⟩ ⟨by omega, o1.2⟩
        constructor
        · intro hh
          refine ⟨hb, .inr ⟨hr, ?_⟩⟩
          have := hu.2 (by split at hh <;> omega)
          omega
        · rintro ⟨_, hh | ⟨_, hh⟩⟩
          · exact absurd hh hl
          · have := hu.1 (by omega)
            split <;> omega
    · constructor
      · intro hh; exfalso; split at hh <;> omega
      · rintro ⟨hh, _⟩; exact absurd hh hb

theorem up_nonneg (a r : Int) : 0 ≤ up a r := by
  have h1 := nr_bd a
  have h2 := nr_bd r
  unfold up
  split
  · omega
  · split
    · omega
    · exact Int.ediv_nonneg (by omega) (by omega)

/-- is there such a tick? -/
theorem whenB_top {r b l t n : Int} (h : okB r b l t = true) : whenB r b l t n = decide (n ≤ fillL r b l t 1099511627776) := by
  obtain ⟨o1, o2, o3, o4, o5, o6⟩ := of_decide_eq_true h
  have hw := when_law (n := n) h o4.2 (Int.le_refl _)
  have hu := up_nonneg (n - l) r
  rw [Bool.eq_iff_iff, decide_eq_true_eq, hw]
  unfold whenB
  rw [h]
  simp only [Bool.true_and, Bool.and_eq_true, Bool.or_eq_true, decide_eq_true_eq, rightB]
  constructor
  · rintro ⟨a, b | ⟨b, c⟩⟩
    · exact ⟨a, .inl b⟩
    · exact ⟨a, .inr ⟨b, c.2⟩⟩
  · rintro ⟨a, b | ⟨b, c⟩⟩
    · exact ⟨a, .inl b⟩
    · exact ⟨a, .inr ⟨b, ⟨by omega, c⟩⟩⟩

/-- from that tick on there are so many, and ahead of it there are not. -/
theorem whenT_least {r b l t n m : Int} (h : okB r b l t = true) (hb : whenB r b l t n = true) (h0 : t ≤ m) (h1 : m ≤ 1099511627776) : n ≤ fillL r b l t m ↔ whenT r b l t n ≤ m := by
  rw [when_law h h0 h1]
  have hw := hb
  unfold whenB at hw
  rw [h] at hw
  simp only [Bool.true_and, Bool.and_eq_true, Bool.or_eq_true, decide_eq_true_eq] at hw
  obtain ⟨hnb, hc⟩ := hw
  unfold whenT
  rw [if_pos hb]
  by_cases hl : n ≤ l
  · rw [if_pos hl]
    exact ⟨fun _ => h0, fun _ => ⟨hnb, .inl hl⟩⟩
  · rw [if_neg hl]
    rcases hc with hc | ⟨hr, _⟩
    · exact absurd hc hl
    · constructor
      · rintro ⟨_, hh | ⟨_, hh⟩⟩
        · exact absurd hh hl
        · exact hh
      · intro hh; exact ⟨hnb, .inr ⟨hr, hh⟩⟩

theorem whenT_bd {r b l t n : Int} (h : okB r b l t = true) (hb : whenB r b l t n = true) : t ≤ whenT r b l t n ∧ whenT r b l t n ≤ 1099511627776 := by
  obtain ⟨o1, o2, o3, o4, o5, o6⟩ := of_decide_eq_true h
  have hu := up_nonneg (n - l) r
  have ht := (whenT_least h hb o4.2 (Int.le_refl _)).1 (by
    have := whenB_top (n := n) h
    rw [hb] at this
    exact of_decide_eq_true this.symm)
  refine ⟨?_, ht⟩
  unfold whenT
  rw [if_pos hb]
  split <;> omega
end Go.Proofs.Ytdooeeklpinhfaa.Bucket
