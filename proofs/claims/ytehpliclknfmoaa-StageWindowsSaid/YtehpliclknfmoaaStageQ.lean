/- Plain law of StageEnds (chapter 10): Timeout, Reset and Limit, tick by tick. No condition. -/
import Derived.Test.YtehpliclknfmoaaStageK
namespace Go.Proofs.Ytehpliclknfmoaa.Stage
open Go.RowKit Mem Tick Cargo Toxic
set_option linter.unusedVariables false
set_option linter.unusedSimpArgs false
theorem add_zero (n : Int) : add n 0 = nr n := by
  have h := nr_bd n
  unfold add
  rw [show nr 0 = 0 by decide, nr_in (by omega) (by omega)]; omega
theorem nr_idem (n : Int) : nr (nr n) = nr n := by
  have h := nr_bd n
  exact nr_in h.1 h.2
theorem add_nr (n a : Int) : add (nr n) a = add n a := by unfold add; rw [nr_idem]
theorem ended_no {s : Sg} (hc : s.closed = false) : ¬ (endedB s = true) := by unfold endedB; rw [hc]; simp
theorem lookS_4 (s : Sg) (hk : s.t.kind = 4) : lookS s = if s.state ≠ 0 then s.state else if lateB s s.began s.t.a = true then 1 else 0 := by
  unfold lookS
  by_cases h0 : s.state ≠ 0
  · rw [if_pos h0, if_pos h0]
  · rw [if_neg h0, if_neg h0, if_neg (show ¬(s.t.kind = 5 ∧ lateB s s.began s.t.a = true) from fun h => by omega), if_pos hk]
theorem lookS_5 (s : Sg) (hk : s.t.kind = 5) (hc : s.closed = false) : lookS s = if s.state ≠ 0 then s.state else if lateB s s.began s.t.a = true then 2 else 0 := by
  unfold lookS
  by_cases h0 : s.state ≠ 0
  · rw [if_pos h0, if_pos h0]
  · rw [if_neg h0, if_neg h0]
    by_cases hl : lateB s s.began s.t.a = true
    · rw [if_pos ⟨hk, hl⟩, if_pos hl]
    · rw [if_neg (show ¬(s.t.kind = 5 ∧ lateB s s.began s.t.a = true) from fun h => hl h.2), if_neg (show ¬ s.t.kind = 4 by omega), if_neg (show ¬(s.t.kind = 6 ∧ s.t.a ≤ s.passed) from fun h => by omega), if_neg (ended_no hc), if_neg hl]
theorem lookS_6 (s : Sg) (hk : s.t.kind = 6) (hc : s.closed = false) : lookS s = if s.state ≠ 0 then s.state else if s.t.a ≤ s.passed then 1 else 0 := by
  unfold lookS
  by_cases h0 : s.state ≠ 0
  · rw [if_pos h0, if_pos h0]
  · rw [if_neg h0, if_neg h0, if_neg (show ¬(s.t.kind = 5 ∧ lateB s s.began s.t.a = true) from fun h => by omega), if_neg (show ¬ s.t.kind = 4 by omega)]
    by_cases hl : s.t.a ≤ s.passed
    · rw [if_pos ⟨hk, hl⟩, if_pos hl]
    · rw [if_neg (show ¬(s.t.kind = 6 ∧ s.t.a ≤ s.passed) from fun h => hl h.2), if_neg (ended_no hc), if_neg hl]
structure EndI (T : Tox) (bg c : Int) (s : Sg) : Prop where
  t : s.t = T
  cl : s.closed = false
  bgn : s.began = bg
  ck : s.clock = c
  s4 : T.kind = 4 → s.state = 0 ∨ (s.state = 1 ∧ add bg T.a ≤ c)
  s5 : T.kind = 5 → s.state = 0 ∨ (s.state = 2 ∧ add bg T.a ≤ c)
  s6 : T.kind = 6 → s.passed ≤ T.a ∧ (s.state = 0 ∨ (s.state = 1 ∧ s.passed = T.a))
theorem EndI.same {T : Tox} {bg c : Int} {s s' : Sg} (h : EndI T bg c s) (h1 : s'.t = s.t) (h2 : s'.closed = s.closed) (h3 : s'.began = s.began) (h4 : s'.clock = s.clock) (h5 : s'.state = s.state) (h6 : s'.passed = s.passed) : EndI T bg c s' :=
  ⟨h1.trans h.t, h2.trans h.cl, h3.trans h.bgn, h4.trans h.ck, by rw [h5]; exact h.s4, by rw [h5]; exact h.s5, by rw [h5, h6]; exact h.s6⟩
structure EndL (T : Tox) (bg c : Int) (s : Sg) : Prop where
  i : EndI T bg c s
  l4 : T.kind = 4 → (s.state = 1 ↔ add bg T.a ≤ c) ∧ s.state ≠ 2
  l5 : T.kind = 5 → (s.state = 2 ↔ add bg T.a ≤ c) ∧ s.state ≠ 1
  l6 : T.kind = 6 → (s.state = 1 ↔ s.passed = T.a) ∧ s.state ≠ 2
theorem EndI.look {T : Tox} {bg c : Int} {s : Sg} (h : EndI T bg c s) (n : Int) : EndL T bg (max c (nr n)) (lookP s n) := by
  have hck : (nowP s n).clock = max c (nr n) := by
    show max s.clock (add n 0) = _
    rw [h.ck, add_zero]
  have hlate : lateB (nowP s n) (nowP s n).began (nowP s n).t.a = decide (add bg T.a ≤ max c (nr n)) := by
    unfold lateB
    rw [hck, show (nowP s n).began = bg from h.bgn, show (nowP s n).t = T from h.t]
  have e4 : T.kind = 4 → (lookP s n).state = if s.state ≠ 0 then s.state else if add bg T.a ≤ max c (nr n) then 1 else 0 := fun hk => by
    show lookS (nowP s n) = _
    rw [lookS_4 (nowP s n) (by rw [show (nowP s n).t = T from h.t]; exact hk), hlate]
    simp only [decide_eq_true_eq]
    rfl
  have e5 : T.kind = 5 → (lookP s n).state = if s.state ≠ 0 then s.state else if add bg T.a ≤ max c (nr n) then 2 else 0 := fun hk => by
    show lookS (nowP s n) = _
    rw [lookS_5 (nowP s n) (by rw [show (nowP s n).t = T from h.t]; exact hk) h.cl, hlate]
    simp only [decide_eq_true_eq]
    rfl
  have e6 : T.kind = 6 → (lookP s n).state = if s.state ≠ 0 then s.state else if T.a ≤ s.passed then 1 else 0 := fun hk => by
    show lookS (nowP s n) = _
    rw [lookS_6 (nowP s n) (by rw [show (nowP s n).t = T from h.t]; exact hk) h.cl, show (nowP s n).t = T from h.t]
    rfl
  have k4 : T.kind = 4 → ((lookP s n).state = 1 ↔ add bg T.a ≤ max c (nr n)) ∧ (lookP s n).state ≠ 2 ∧ ((lookP s n).state = 0 ∨ (lookP s n).state = 1) := fun hk => by
    rw [e4 hk]
    rcases h.s4 hk with h0 | ⟨h0, h1⟩
    · rw [h0, if_neg (by decide)]; split <;> omega
    · rw [h0, if_pos (by decide)]; omega
  have k5 : T.kind = 5 → ((lookP s n).state = 2 ↔ add bg T.a ≤ max c (nr n)) ∧ (lookP s n).state ≠ 1 ∧ ((lookP s n).state = 0 ∨ (lookP s n).state = 2) := fun hk => by
    rw [e5 hk]
    rcases h.s5 hk with h0 | ⟨h0, h1⟩
    · rw [h0, if_neg (by decide)]; split <;> omega
    · rw [h0, if_pos (by decide)]; omega
  have k6 : T.kind = 6 → ((lookP s n).state = 1 ↔ s.passed = T.a) ∧ (lookP s n).state ≠ 2 ∧ ((lookP s n).state = 0 ∨ (lookP s n).state = 1) := fun hk => by
    obtain ⟨hp, hs⟩ := h.s6 hk
    rw [e6 hk]
    rcases hs with h0 | ⟨h0, h1⟩
    · rw [h0, if_neg (by decide)]; split <;> omega
    · rw [h0, if_pos (by decide)]; omega
  refine ⟨⟨h.t, h.cl, h.bgn, hck, fun hk => ?_, fun hk => ?_, fun hk => ?_⟩, fun hk => ?_, fun hk => ?_, fun hk => ?_⟩
  · have := k4 hk; omega
  · have := k5 hk; omega
  · have := k6 hk
    have h2 := (h.s6 hk).1
    exact ⟨h2, by show _ ∨ _ ∧ s.passed = T.a; omega⟩
  · exact ⟨(k4 hk).1, (k4 hk).2.1⟩
  · exact ⟨(k5 hk).1, (k5 hk).2.1⟩
  · exact ⟨(k6 hk).1, (k6 hk).2.1⟩
theorem EndI.force {T : Tox} {bg c : Int} {s : Sg} (h : EndI T bg c s) (n : Int) (x : ByteArray) : EndI T bg (max c (nr n)) (forceP s n x) := by
  have h1 := (h.look n).i
  unfold forceP
  split
  · exact h1
  · refine h1.same ?_ ?_ ?_ ?_ ?_ ?_ <;> (unfold putIn diceP; split <;> rfl)
theorem EndI.put {T : Tox} {bg c : Int} {s : Sg} (h : EndI T bg c s) (n : Int) (x : ByteArray) : EndI T bg (max c (nr n)) (putS s n x) := by
  have h1 := (h.look n).i
  unfold putS
  split
  · exact h1
  · have h2 := h1.force n (x.extract 0 (roomFor (lookP s n) x))
    rwa [show max (max c (nr n)) (nr n) = max c (nr n) by omega] at h2
theorem size_out (s : Sg) (m : Int) : ((takeOutB s m).size : Int) ≤ max (wayN s m) 0 := by
  have h1 : (takeOutB s m).size = outN s m := size_takeP _ _ (takeN_le _ _ _)
  rw [h1]
  unfold outN takeN
  omega
theorem takeB_4 (s : Sg) (n most : Int) (hk : s.t.kind = 4) : takeB s n most = ⟨#[]⟩ := by
  unfold takeB
  split
  · rfl
  · apply empty_of
    have h1 := size_out (lookP s n) (readyN (lookP s n) most)
    have h2 : wayN (lookP s n) (readyN (lookP s n) most) = 0 := by
      have hk' : (lookP s n).t.kind = 4 := hk
      unfold wayN
      rw [if_neg (by omega), if_neg (by omega), if_pos hk']
    rw [h2] at h1
    omega
theorem wayS_st (s : Sg) (n : Int) : (wayS s n).closed = s.closed ∧ (wayS s n).began = s.began ∧ (wayS s n).state = s.state := by
  unfold wayS someS sliceS
  split
  · exact ⟨rfl, rfl, rfl⟩
  · split
    · split <;> exact ⟨rfl, rfl, rfl⟩
    · exact ⟨rfl, rfl, rfl⟩
theorem EndI.take {T : Tox} {bg c : Int} {s : Sg} (h : EndI T bg c s) (n most : Int) : EndI T bg (max c (nr n)) (takeS s n most) := by
  have h1 := (h.look n).i
  unfold takeS
  split
  · exact h1
  · have hw := wayS_c (lookP s n) (readyN (lookP s n) most)
    have hv := wayS_st (lookP s n) (readyN (lookP s n) most)
    refine ⟨hw.2.2.2.trans h1.t, hv.1.trans h1.cl, hv.2.1.trans h1.bgn, hw.2.1.trans h1.ck, fun hk => ?_, fun hk => ?_, fun hk => ?_⟩
    · show (wayS (lookP s n) _).state = 0 ∨ (wayS (lookP s n) _).state = 1 ∧ _
      rw [hv.2.2]; exact h1.s4 hk
    · show (wayS (lookP s n) _).state = 0 ∨ (wayS (lookP s n) _).state = 2 ∧ _
      rw [hv.2.2]; exact h1.s5 hk
    · rename_i hc
      have h0 : (lookP s n).state = 0 := by
        by_cases e : (lookP s n).state = 0
        · exact e
        · exact absurd (.inl e) hc
      obtain ⟨hp, _⟩ := h1.s6 hk
      have h2 := size_out (lookP s n) (readyN (lookP s n) most)
      have hk' : (lookP s n).t.kind = 6 := by rw [h1.t]; exact hk
      have h3 : wayN (lookP s n) (readyN (lookP s n) most) ≤ T.a - (lookP s n).passed := by
        unfold wayN
        rw [if_neg (by omega), if_neg (by omega), if_neg (by omega), if_pos hk', h1.t]
        omega
      refine ⟨?_, .inl ?_⟩
      · show (lookP s n).passed + ((takeOutB (lookP s n) (readyN (lookP s n) most)).size : Int) ≤ T.a
        omega
      · show (wayS (lookP s n) _).state = 0
        rw [hv.2.2]; exact h0
theorem EndI.does {T : Tox} {bg c : Int} {s : Sg} (h : EndI T bg c s) (o : Op) (h0 : 0 ≤ o.kind) (h4 : o.kind ≤ 4) (h3 : o.kind ≠ 3) : EndI T bg (max c (nr o.now)) (doesS s o) := by
  unfold doesS
  by_cases e0 : o.kind = 0
  · rw [if_pos e0]; exact h.put _ _
  by_cases e1 : o.kind = 1
  · rw [if_neg e0, if_pos e1]; exact h.force _ _
  by_cases e2 : o.kind = 2
  · rw [if_neg e0, if_neg e1, if_pos e2]; exact h.take _ _
  have e4 : o.kind = 4 := by omega
  rw [if_neg e0, if_neg e1, if_neg e2, if_neg h3, if_pos e4]
  exact (h.look _).i
theorem out_4 {T : Tox} {bg c : Int} {s : Sg} (h : EndI T bg c s) (hk : T.kind = 4) (o : Op) (h4 : o.kind ≤ 4) : (doesA s o).2.1 = ⟨#[]⟩ := by
  unfold doesA
  split
  · rfl
  split
  · rfl
  split
  · exact takeB_4 s _ _ (by rw [h.t]; exact hk)
  split
  · rfl
  split
  · rfl
  rw [if_neg (by omega), if_neg (by omega)]
theorem force_passed (s : Sg) (n : Int) (x : ByteArray) : (forceP s n x).passed = s.passed := by
  unfold forceP
  split
  · rfl
  · unfold putIn diceP; split <;> rfl
theorem put_passed (s : Sg) (n : Int) (x : ByteArray) : (putS s n x).passed = s.passed := by
  unfold putS
  split
  · rfl
  · rw [force_passed]; rfl
theorem mass_step (s : Sg) (o : Op) : (doesS s o).passed + held (doesS s o) ≤ s.passed + held s + o.s.size := by
  unfold doesS
  split
  · have := held_put s o.now o.s; rw [put_passed]; omega
  split
  · have := held_force s o.now o.s; rw [force_passed]; omega
  split
  · have := held_take s o.now o.n; rw [passed_take]; omega
  split
  · rw [held_close]
    have : (closeP s o.now).passed = s.passed := by unfold closeP; split <;> rfl
    omega
  split
  · show s.passed + held s ≤ _; omega
  split
  · have h1 : (updS s o.t o.now).c = s.c ∧ (updS s o.t o.now).passed = s.passed := by
      unfold updS
      split
      · exact ⟨rfl, rfl⟩
      split <;> exact ⟨rfl, rfl⟩
    unfold held
    rw [h1.1, h1.2]; omega
  split
  · show s.passed + ((0 : Nat) : Int) ≤ _; omega
  · omega
theorem EndI.new (t : Tox) (seed room now : Int) (hk : t.kind = 4 ∨ t.kind = 5 ∨ t.kind = 6) (ht : passB t = true ∨ chk t = 0) : EndI t (nr now) (nr now) (newS t seed room now) := by
  have h0 : newS t seed room now = new0 t seed room now := if_neg (by omega)
  have ha := (tox_parts ht).2.2.1
  rw [h0]
  exact ⟨rfl, rfl, add_zero now, add_zero now, fun _ => .inl rfl, fun _ => .inl rfl, fun _ => ⟨ha, .inl rfl⟩⟩
end Go.Proofs.Ytehpliclknfmoaa.Stage
