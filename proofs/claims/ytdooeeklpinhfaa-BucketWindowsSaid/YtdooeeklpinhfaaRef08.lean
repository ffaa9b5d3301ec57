/- The reference's buckets (chapter 08): each function's contract. Conditions: the numbers are of their kinds. -/
import Derived.Test.YtdooeeklpinhfaaBucketB
import Derived.Test.YtdooeeklpinhfaaRef01
namespace Go.Proofs.Ytdooeeklpinhfaa.Ref08
open Go.RowKit Tick Bucket
set_option maxRecDepth 100000
set_option linter.unusedVariables false
set_option linter.unusedSimpArgs false

theorem rightB_nr (n : Int) : (nr n == n) = rightB n := by
  unfold rightB nr
  by_cases h0 : n < 0
  · rw [if_pos h0, decide_eq_false (by omega)]; simp; omega
  · by_cases h1 : 1099511627776 < n
    · rw [if_neg h0, if_pos h1, decide_eq_false (by omega)]; simp; omega
    · rw [if_neg h0, if_neg h1, decide_eq_true (by omega)]; simp

theorem is_any (n : Int) (w : World) :
    Calls Try.prog 26 #[.int .i64 n] w fun e w' => e = .returned (.bool (rightB n)) ∧ w = w' := by
  have h := Lib.hid (rightB_nr n)
  go_enter Try.func26, Try.ntmps26
  go_wp2_with fail
  refine (Ref01.near_any n _).mono ?_
  rintro e w' ⟨rfl, rfl⟩
  go_wp2
  go_ret
  exact ⟨by rw [← h.out]; rfl, rfl⟩
theorem is_yes (n : Int) (w : World) (h : rightB n = true) : Calls Try.prog 26 #[.int .i64 n] w fun e w' => e = .returned (.bool true) ∧ w = w' := by have := is_any n w; rwa [h] at this
theorem is_no (n : Int) (w : World) (h : rightB n = false) : Calls Try.prog 26 #[.int .i64 n] w fun e w' => e = .returned (.bool false) ∧ w = w' := by have := is_any n w; rwa [h] at this
theorem rightB_iff (n : Int) : rightB n = true ↔ 0 ≤ n ∧ n ≤ 1099511627776 := by unfold rightB; simp
theorem ok_parts (r b l t : Int) : okB r b l t = (rightB r && rightB b && rightB l && rightB t && decide (0 < b) && decide (l ≤ b)) := by
  rw [Bool.eq_iff_iff]
  constructor
  · intro h
    obtain ⟨o1, o2, o3, o4, o5, o6⟩ := of_decide_eq_true h
    simp only [Bool.and_eq_true, rightB_iff, decide_eq_true_eq]
    exact ⟨⟨⟨⟨⟨o1, o2⟩, o3⟩, o4⟩, o5⟩, o6⟩
  · intro h
    simp only [Bool.and_eq_true, rightB_iff, decide_eq_true_eq] at h
    obtain ⟨⟨⟨⟨⟨o1, o2⟩, o3⟩, o4⟩, o5⟩, o6⟩ := h
    exact decide_eq_true ⟨o1, o2, o3, o4, o5, o6⟩


theorem right_no0 (r b l t : Int) (w : World)  (hr : Hid (rightB r = false)) :
    Calls Try.prog 15 #[.agg #[.int .i64 r, .int .i64 b, .int .i64 l, .int .i64 t]] w fun e w' => e = .returned (.bool false) ∧ Below w.heap.size w w' := by
  have hB0 := (Below.refl w.heap.size w).alloc (Nat.le_refl _) (.cells #[.int .i64 r, .int .i64 b, .int .i64 l, .int .i64 t] 23)
  go_enter Try.func15, Try.ntmps15
  go_wp2_with (go_at_call 26; (first | (with_reducible refine (is_no r _ hr.out).mono ?_)); rintro e w2 ⟨rfl, rfl⟩)
  go_ret
  exact ⟨rfl, hB0⟩

theorem right_no1 (r b l t : Int) (w : World) (hr : Hid (rightB r = true)) (hb : Hid (rightB b = false)) :
    Calls Try.prog 15 #[.agg #[.int .i64 r, .int .i64 b, .int .i64 l, .int .i64 t]] w fun e w' => e = .returned (.bool false) ∧ Below w.heap.size w w' := by
  have hB0 := (Below.refl w.heap.size w).alloc (Nat.le_refl _) (.cells #[.int .i64 r, .int .i64 b, .int .i64 l, .int .i64 t] 23)
  go_enter Try.func15, Try.ntmps15
  go_wp2_with (go_at_call 26; (first | (with_reducible refine (is_yes r _ hr.out).mono ?_) | (with_reducible refine (is_no b _ hb.out).mono ?_)); rintro e w2 ⟨rfl, rfl⟩)
  go_ret
  exact ⟨rfl, hB0⟩

theorem right_no2 (r b l t : Int) (w : World) (hr : Hid (rightB r = true)) (hb : Hid (rightB b = true)) (hl : Hid (rightB l = false)) :
    Calls Try.prog 15 #[.agg #[.int .i64 r, .int .i64 b, .int .i64 l, .int .i64 t]] w fun e w' => e = .returned (.bool false) ∧ Below w.heap.size w w' := by
  have hB0 := (Below.refl w.heap.size w).alloc (Nat.le_refl _) (.cells #[.int .i64 r, .int .i64 b, .int .i64 l, .int .i64 t] 23)
  go_enter Try.func15, Try.ntmps15
  go_wp2_with (go_at_call 26; (first | (with_reducible refine (is_yes r _ hr.out).mono ?_) | (with_reducible refine (is_yes b _ hb.out).mono ?_) | (with_reducible refine (is_no l _ hl.out).mono ?_)); rintro e w2 ⟨rfl, rfl⟩)
  go_ret
  exact ⟨rfl, hB0⟩

theorem right_no3 (r b l t : Int) (w : World) (hr : Hid (rightB r = true)) (hb : Hid (rightB b = true)) (hl : Hid (rightB l = true)) (ht : Hid (rightB t = false)) :
    Calls Try.prog 15 #[.agg #[.int .i64 r, .int .i64 b, .int .i64 l, .int .i64 t]] w fun e w' => e = .returned (.bool false) ∧ Below w.heap.size w w' := by
  have hB0 := (Below.refl w.heap.size w).alloc (Nat.le_refl _) (.cells #[.int .i64 r, .int .i64 b, .int .i64 l, .int .i64 t] 23)
  go_enter Try.func15, Try.ntmps15
  go_wp2_with (go_at_call 26; (first | (with_reducible refine (is_yes r _ hr.out).mono ?_) | (with_reducible refine (is_yes b _ hb.out).mono ?_) | (with_reducible refine (is_yes l _ hl.out).mono ?_) | (with_reducible refine (is_no t _ ht.out).mono ?_)); rintro e w2 ⟨rfl, rfl⟩)
  go_ret
  exact ⟨rfl, hB0⟩

theorem right_nil (r b l t : Int) (w : World) (hr : Hid (rightB r = true)) (hb : Hid (rightB b = true)) (hl : Hid (rightB l = true)) (ht : Hid (rightB t = true)) (hz : b = 0) :
    Calls Try.prog 15 #[.agg #[.int .i64 r, .int .i64 b, .int .i64 l, .int .i64 t]] w fun e w' => e = .returned (.bool false) ∧ Below w.heap.size w w' := by
  have hne : (b != 0) = false := by simp [hz]
  clear hz
  have hB0 := (Below.refl w.heap.size w).alloc (Nat.le_refl _) (.cells #[.int .i64 r, .int .i64 b, .int .i64 l, .int .i64 t] 23)
  go_enter Try.func15, Try.ntmps15
  go_wp2_with (go_at_call 26; (first | (with_reducible refine (is_yes r _ hr.out).mono ?_) | (with_reducible refine (is_yes b _ hb.out).mono ?_) | (with_reducible refine (is_yes l _ hl.out).mono ?_) | (with_reducible refine (is_yes t _ ht.out).mono ?_)); rintro e w2 ⟨rfl, rfl⟩)
  go_ret
  exact ⟨rfl, hB0⟩

theorem right_over (r b l t : Int) (w : World) (hr : Hid (rightB r = true)) (hb : Hid (rightB b = true)) (hl : Hid (rightB l = true)) (ht : Hid (rightB t = true)) (hz : ¬ b = 0) (ho : b < l) :
    Calls Try.prog 15 #[.agg #[.int .i64 r, .int .i64 b, .int .i64 l, .int .i64 t]] w fun e w' => e = .returned (.bool false) ∧ Below w.heap.size w w' := by
  have hne : (b != 0) = true := by simpa using hz
  clear hz
  have hd : decide (l ≤ b) = false := decide_eq_false (by omega)
  have hB0 := (Below.refl w.heap.size w).alloc (Nat.le_refl _) (.cells #[.int .i64 r, .int .i64 b, .int .i64 l, .int .i64 t] 23)
  go_enter Try.func15, Try.ntmps15
  go_wp2_with (go_at_call 26; (first | (with_reducible refine (is_yes r _ hr.out).mono ?_) | (with_reducible refine (is_yes b _ hb.out).mono ?_) | (with_reducible refine (is_yes l _ hl.out).mono ?_) | (with_reducible refine (is_yes t _ ht.out).mono ?_)); rintro e w2 ⟨rfl, rfl⟩)
  go_ret
  exact ⟨rfl, hB0⟩

theorem right_yes (r b l t : Int) (w : World) (hr : Hid (rightB r = true)) (hb : Hid (rightB b = true)) (hl : Hid (rightB l = true)) (ht : Hid (rightB t = true)) (hz : ¬ b = 0) (ho : l ≤ b) :
    Calls Try.prog 15 #[.agg #[.int .i64 r, .int .i64 b, .int .i64 l, .int .i64 t]] w fun e w' => e = .returned (.bool true) ∧ Below w.heap.size w w' := by
  have hne : (b != 0) = true := by simpa using hz
  clear hz
  have hd : decide (l ≤ b) = true := decide_eq_true ho
  have hB0 := (Below.refl w.heap.size w).alloc (Nat.le_refl _) (.cells #[.int .i64 r, .int .i64 b, .int .i64 l, .int .i64 t] 23)
  go_enter Try.func15, Try.ntmps15
  go_wp2_with (go_at_call 26; (first | (with_reducible refine (is_yes r _ hr.out).mono ?_) | (with_reducible refine (is_yes b _ hb.out).mono ?_) | (with_reducible refine (is_yes l _ hl.out).mono ?_) | (with_reducible refine (is_yes t _ ht.out).mono ?_)); rintro e w2 ⟨rfl, rfl⟩)
  go_ret
  exact ⟨rfl, hB0⟩

theorem right_any (r b l t : Int) (w : World) :
    Calls Try.prog 15 #[.agg #[.int .i64 r, .int .i64 b, .int .i64 l, .int .i64 t]] w fun e w' => e = .returned (.bool (okB r b l t)) ∧ Below w.heap.size w w' := by
  rw [ok_parts]
  cases hr : rightB r with
  | false => simpa using right_no0 r b l t w (Lib.hid hr)
  | true =>
    cases hb : rightB b with
    | false => simpa using right_no1 r b l t w (Lib.hid hr) (Lib.hid hb)
    | true =>
      cases hl : rightB l with
      | false => simpa using right_no2 r b l t w (Lib.hid hr) (Lib.hid hb) (Lib.hid hl)
      | true =>
        cases ht : rightB t with
        | false => simpa using right_no3 r b l t w (Lib.hid hr) (Lib.hid hb) (Lib.hid hl) (Lib.hid ht)
        | true =>
          have hb' := (rightB_iff b).1 hb
          by_cases hz : b = 0
          · have := right_nil r b l t w (Lib.hid hr) (Lib.hid hb) (Lib.hid hl) (Lib.hid ht) hz
            simpa [hz] using this
          · by_cases ho : l ≤ b
            · have := right_yes r b l t w (Lib.hid hr) (Lib.hid hb) (Lib.hid hl) (Lib.hid ht) hz ho
              rw [decide_eq_true (by omega : 0 < b), decide_eq_true ho]
              exact this
            · have := right_over r b l t w (Lib.hid hr) (Lib.hid hb) (Lib.hid hl) (Lib.hid ht) hz (by omega)
              rw [show decide (l ≤ b) = false from decide_eq_false ho]
              simpa using this


theorem fill_no (r b l t now : Int) (w : World) (h : ¬ (okB r b l t = true ∧ t < nr now)) :
    Calls Try.prog 17 #[.agg #[.int .i64 r, .int .i64 b, .int .i64 l, .int .i64 t], .int .i64 now] w fun e w' => e = .returned (.agg #[.int .i64 r, .int .i64 b, .int .i64 (fillL r b l t now), .int .i64 (fillT r b l t now)]) ∧ Below w.heap.size w w' := by
  have e1 := Lib.hid (fillL_no h)
  have e2 := Lib.hid (fillT_no h)
  have hnb := nr_bd now
  go_enter Try.func17, Try.ntmps17
  have hB0 := ((Below.refl w.heap.size w).alloc (Nat.le_refl _) (.cells #[.int .i64 r, .int .i64 b, .int .i64 l, .int .i64 t] 23)).alloc (by simp) (.cells #[.int .i64 0, .int .i64 0, .int .i64 0, .int .i64 0] 23)
  have hbx := Lib.hid ((Cls.Box4.new w (.int .i64 r) (.int .i64 b) (.int .i64 l) (.int .i64 t) 23).old (.cells #[.int .i64 0, .int .i64 0, .int .i64 0, .int .i64 0] 23))
  have hrs := Lib.hid (Cls.Box4.new (w.alloc (.cells #[.int .i64 r, .int .i64 b, .int .i64 l, .int .i64 t] 23)) (.int .i64 0) (.int .i64 0) (.int .i64 0) (.int .i64 0) 23)
  go_wp2_with fail
  refine (Ref01.near_any now _).mono ?_
  rintro e w' ⟨rfl, rfl⟩
  go_wp2_with fail
  refine (right_any r b l t _).mono ?_
  rintro e w1 ⟨rfl, hb1⟩
  obtain ⟨c0, c1, c2, c3, f0, f1, f2, f3, hz⟩ := hbx.out.below hb1
  obtain ⟨z0, z1, z2, z3, y0, y1, y2, y3, hy⟩ := hrs.out.below hb1
  rw [World.size_alloc] at z0 z1 z2 z3 y0 y1 y2 y3 hy
  have hB1 := hB0.trans (hb1.mono (by simp; omega))
  clear hB0 hb1 hbx hrs f0 f1 f2 f3
  cases hk : okB r b l t with
  | false =>
    clear hk h
    go_wp2
    exact bodyPost_ret (v := .agg #[.int .i64 r, .int .i64 b, .int .i64 l, .int .i64 t]) (by simp [results, Try.results17, go_sem, c0, c1, c2, c3, z0, z1, z2, z3, hy]) rfl ⟨by rw [e1.out, e2.out], ((((hB1.setCell (p := ⟨w.heap.size + 1, 0, none⟩) (by show w.heap.size ≤ w.heap.size + 1; omega) _).setCell (p := ⟨w.heap.size + 1, 1, none⟩) (by show w.heap.size ≤ w.heap.size + 1; omega) _).setCell (p := ⟨w.heap.size + 1, 2, none⟩) (by show w.heap.size ≤ w.heap.size + 1; omega) _).setCell (p := ⟨w.heap.size + 1, 3, none⟩) (by show w.heap.size ≤ w.heap.size + 1; omega) _)⟩
  | true =>
    have h' : nr now ≤ t := by
      rcases Int.lt_or_le t (nr now) with h2 | h2
      · exact absurd ⟨hk, h2⟩ h
      · exact h2
    clear hk h
    go_wp2
    exact bodyPost_ret (v := .agg #[.int .i64 r, .int .i64 b, .int .i64 l, .int .i64 t]) (by simp [results, Try.results17, go_sem, c0, c1, c2, c3, z0, z1, z2, z3, hy]) rfl ⟨by rw [e1.out, e2.out], ((((hB1.setCell (p := ⟨w.heap.size + 1, 0, none⟩) (by show w.heap.size ≤ w.heap.size + 1; omega) _).setCell (p := ⟨w.heap.size + 1, 1, none⟩) (by show w.heap.size ≤ w.heap.size + 1; omega) _).setCell (p := ⟨w.heap.size + 1, 2, none⟩) (by show w.heap.size ≤ w.heap.size + 1; omega) _).setCell (p := ⟨w.heap.size + 1, 3, none⟩) (by show w.heap.size ≤ w.heap.size + 1; omega) _)⟩

set_option maxHeartbeats 400000 in
theorem fill_yes (r b l t now : Int) (w : World) (hk : okB r b l t = true) (ht : t < nr now) :
    Calls Try.prog 17 #[.agg #[.int .i64 r, .int .i64 b, .int .i64 l, .int .i64 t], .int .i64 now] w fun e w' => e = .returned (.agg #[.int .i64 r, .int .i64 b, .int .i64 (fillL r b l t now), .int .i64 (fillT r b l t now)]) ∧ Below w.heap.size w w' := by
  have e1 := Lib.hid (show fillL r b l t now = _ from if_pos ⟨hk, ht⟩)
  have e2 := Lib.hid (show fillT r b l t now = nr now from if_pos ⟨hk, ht⟩)
  have hnb := nr_bd now
  have hok := of_decide_eq_true hk
  have hk' := Lib.hid hk
  obtain ⟨o1, o2, o3, o4, o5, o6⟩ := hok
  clear hk
  go_enter Try.func17, Try.ntmps17
  have hB0 := ((Below.refl w.heap.size w).alloc (Nat.le_refl _) (.cells #[.int .i64 r, .int .i64 b, .int .i64 l, .int .i64 t] 23)).alloc (by simp) (.cells #[.int .i64 0, .int .i64 0, .int .i64 0, .int .i64 0] 23)
  have hbx := Lib.hid ((Cls.Box4.new w (.int .i64 r) (.int .i64 b) (.int .i64 l) (.int .i64 t) 23).old (.cells #[.int .i64 0, .int .i64 0, .int .i64 0, .int .i64 0] 23))
  have hrs := Lib.hid (Cls.Box4.new (w.alloc (.cells #[.int .i64 r, .int .i64 b, .int .i64 l, .int .i64 t] 23)) (.int .i64 0) (.int .i64 0) (.int .i64 0) (.int .i64 0) 23)
  go_wp2_with fail
  refine (Ref01.near_any now _).mono ?_
  rintro e w' ⟨rfl, rfl⟩
  go_wp2_with fail
  refine (right_any r b l t _).mono ?_
  rintro e w1 ⟨rfl, hb1⟩
  rw [hk'.out]
  obtain ⟨c0, c1, c2, c3, f0, f1, f2, f3, hz⟩ := hbx.out.below hb1
  obtain ⟨z0, z1, z2, z3, y0, y1, y2, y3, hy⟩ := hrs.out.below hb1
  rw [World.size_alloc] at z0 z1 z2 z3 y0 y1 y2 y3 hy
  have hB1 := hB0.trans (hb1.mono (by simp; omega))
  clear hB0 hb1 hbx hrs f0 f1 f2 f3
  have hsub : IntKind.i64.wrap (nr now - t) = nr now - t := by rw [IntKind.wrap_i64]; omega
  go_wp2
  refine Cls.region (fun w' => Below w1.heap.size w1 w') (by kernel_rfl) (by kernel_rfl) (Below.refl _ _).drew ?_
  refine Cls.value ?_ rfl (fun w' hw' => ?_) ?_
  rotate_left
  · go_simp; rfl
  refine Cls.value ?_ rfl (fun w' hw' => ?_) ?_
  rotate_left
  · have q := (hw'.cell (p := ⟨w.heap.size, 2, none⟩) hz).trans c2
    go_simp; rfl
  refine Cls.value ?_ rfl (fun w' hw' => ?_) ?_
  rotate_left
  · go_simp; rfl
  refine Cls.value ?_ rfl (fun w' hw' => ?_) ?_
  rotate_left
  · have q := (hw'.cell (p := ⟨w.heap.size, 0, none⟩) hz).trans c0
    go_simp; rfl
  refine Cls.value ?_ rfl (fun w' hw' => ?_) ?_
  rotate_left
  · go_simp; rfl
  refine Cls.value ?_ rfl (fun w' hw' => ?_) ?_
  rotate_left
  · go_simp; rfl
  refine Cls.value ?_ rfl (fun w' hw' => ?_) ?_
  rotate_left
  · have q := (hw'.cell (p := ⟨w.heap.size, 3, none⟩) hz).trans c3
    go_simp; rfl
  refine Cls.value ?_ rfl (fun w' hw' => ?_) ?_
  rotate_left
  · go_simp; rfl
  refine Cls.call 22 #[.int .i64 r, .int .i64 (nr now - t)] (.int .i64 (mul r (nr now - t))) rfl (fun w' => ?_) (fun w' hw' => (Ref01.mul_any _ _ w').mono ?_) ?_
  · go_simp
  · rintro e w'' ⟨rfl, hb⟩; exact ⟨rfl, hw'.trans (hb.mono hw'.size)⟩
  refine Cls.call 21 #[.int .i64 l, .int .i64 (mul r (nr now - t))] (.int .i64 (add l (mul r (nr now - t)))) rfl (fun w' => ?_) (fun w' hw' => (Ref01.add_any _ _ w').mono ?_) ?_
  · go_simp
  · rintro e w'' ⟨rfl, rfl⟩; exact ⟨rfl, hw'⟩
  refine Cls.value ?_ rfl (fun w' hw' => ?_) ?_
  rotate_left
  · go_simp; rfl
  refine Cls.done (fun w' hw' => ?_)
  simp only [Act.put, List.setIfInBounds_toArray, List.set_cons_zero, List.set_cons_succ]
  have C0 := (hw'.cell (p := ⟨w.heap.size, 0, none⟩) hz).trans c0
  have C1 := (hw'.cell (p := ⟨w.heap.size, 1, none⟩) hz).trans c1
  have Z0 := (hw'.cell (p := ⟨w.heap.size + 1, 0, none⟩) hy).trans z0
  have Z1 := (hw'.cell (p := ⟨w.heap.size + 1, 1, none⟩) hy).trans z1
  have Z2 := (hw'.cell (p := ⟨w.heap.size + 1, 2, none⟩) hy).trans z2
  have Z3 := (hw'.cell (p := ⟨w.heap.size + 1, 3, none⟩) hy).trans z3
  have Y0 := (hw'.frozen (p := ⟨w.heap.size + 1, 0, none⟩) hy).trans y0
  have Y1 := (hw'.frozen (p := ⟨w.heap.size + 1, 1, none⟩) hy).trans y1
  have Y2 := (hw'.frozen (p := ⟨w.heap.size + 1, 2, none⟩) hy).trans y2
  have Y3 := (hw'.frozen (p := ⟨w.heap.size + 1, 3, none⟩) hy).trans y3
  have hB2 := hB1.trans (hw'.mono hB1.size)
  have hy2 := Nat.lt_of_lt_of_le hy hw'.size
  clear c0 c1 c2 c3 z0 z1 z2 z3 y0 y1 y2 y3 hw' hB1 hsub hz hy
  generalize add l (mul r (nr now - t)) = X at *
  by_cases hm : b < X
  · have e3 := Lib.hid (e1.out.trans (show (if X < b then X else b) = b from if_neg (by omega)))
    clear e1
    go_wp2
    exact bodyPost_ret (v := .agg #[.int .i64 r, .int .i64 b, .int .i64 b, .int .i64 (nr now)]) (by simp [results, Try.results17, go_sem, Z0, Z1, Z2, Z3, hy2]) rfl ⟨by rw [e3.out, e2.out], ((((hB2.setCell (p := ⟨w.heap.size + 1, 0, none⟩) (by show w.heap.size ≤ w.heap.size + 1; omega) _).setCell (p := ⟨w.heap.size + 1, 1, none⟩) (by show w.heap.size ≤ w.heap.size + 1; omega) _).setCell (p := ⟨w.heap.size + 1, 2, none⟩) (by show w.heap.size ≤ w.heap.size + 1; omega) _).setCell (p := ⟨w.heap.size + 1, 3, none⟩) (by show w.heap.size ≤ w.heap.size + 1; omega) _)⟩
  · have e4 : (if X < b then X else b) = X := by
      split <;> omega
    have e3 := Lib.hid (e1.out.trans e4)
    clear e4
    have hm' : X ≤ b := by omega
    clear e1 hm
    go_wp2
    exact bodyPost_ret (v := .agg #[.int .i64 r, .int .i64 b, .int .i64 X, .int .i64 (nr now)]) (by simp [results, Try.results17, go_sem, Z0, Z1, Z2, Z3, hy2]) rfl ⟨by rw [e3.out, e2.out], ((((hB2.setCell (p := ⟨w.heap.size + 1, 0, none⟩) (by show w.heap.size ≤ w.heap.size + 1; omega) _).setCell (p := ⟨w.heap.size + 1, 1, none⟩) (by show w.heap.size ≤ w.heap.size + 1; omega) _).setCell (p := ⟨w.heap.size + 1, 2, none⟩) (by show w.heap.size ≤ w.heap.size + 1; omega) _).setCell (p := ⟨w.heap.size + 1, 3, none⟩) (by show w.heap.size ≤ w.heap.size + 1; omega) _)⟩

theorem fill_any (r b l t now : Int) (w : World) :
    Calls Try.prog 17 #[.agg #[.int .i64 r, .int .i64 b, .int .i64 l, .int .i64 t], .int .i64 now] w fun e w' => e = .returned (.agg #[.int .i64 r, .int .i64 b, .int .i64 (fillL r b l t now), .int .i64 (fillT r b l t now)]) ∧ Below w.heap.size w w' := by
  by_cases h : okB r b l t = true ∧ t < nr now
  · exact fill_yes r b l t now w h.1 h.2
  · exact fill_no r b l t now w h

end Go.Proofs.Ytdooeeklpinhfaa.Ref08
