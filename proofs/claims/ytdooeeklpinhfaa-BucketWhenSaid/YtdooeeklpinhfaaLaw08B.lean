/- The laws of buckets (chapter 08), on. Conditions: the numbers are of their kinds. -/
import Derived.Test.YtdooeeklpinhfaaLaw08
namespace Go.Proofs.Ytdooeeklpinhfaa.Law08
open Go.RowKit Tick Bucket
set_option maxRecDepth 100000
set_option linter.unusedVariables false
set_option linter.unusedSimpArgs false

theorem when_bad (r b l t n : Int) (w : World) (h : okB r b l t = false) :
    Calls Try.prog 6 #[.agg #[.int .i64 r, .int .i64 b, .int .i64 l, .int .i64 t], .int .i64 n] w fun e w' => e = .returned (.bool true) ∧ Below w.heap.size w w' := by
  have hok := Lib.hid h
  have hW := Lib.hid (show whenB r b l t n = false by unfold whenB; rw [h]; rfl)
  have hT := Lib.hid (show whenT r b l t n = 0 from if_neg (by rw [hW.out]; decide))
  clear h
  have fld : ∀ (x y z u : Int) (W : World), (Instr.field 24 (.agg #[.int .i64 x, .int .i64 y, .int .i64 z, .int .i64 u]) 2).run Try.prog W = .ok (.int .i64 z) W := fun _ _ _ _ _ => by kernel_rfl
  go_enter Try.func6, Try.ntmps6
  have hB := ((Below.refl w.heap.size w).alloc (Nat.le_refl _) (.cells #[.int .i64 r, .int .i64 b, .int .i64 l, .int .i64 t] 23)).alloc (by simp) (.cells #[.int .i64 r, .int .i64 b, .int .i64 l, .int .i64 t] 24)
  have X := Lib.hid (Cls.Box4.new (w.alloc (.cells #[.int .i64 r, .int .i64 b, .int .i64 l, .int .i64 t] 23)) (.int .i64 r) (.int .i64 b) (.int .i64 l) (.int .i64 t) 24)
  rw [World.size_alloc] at X
  have c0 := True.intro; have c1 := c0; have c2 := c0; have c3 := c0; have hz := c0
  go_wp2_with (first
    | (go_at_call 11; (with_reducible refine (when_any r b l t n _).mono ?_); rintro e wn ⟨rfl, hbn⟩; rw [hT.out, hW.out]; have hBn := hB.trans (hbn.mono hB.size); have Xn := Lib.hid (X.out.below hbn); clear hB X c0 c1 c2 c3 hz hbn; have hB := hBn; have X := Xn; clear hBn Xn; obtain ⟨c0, c1, c2, c3, _, _, _, _, hz⟩ := X.out)
    | (go_at_call 13; (with_reducible refine (alive_any _).mono ?_); rintro e wn ⟨rfl, hbn⟩; have hBn := hB.trans (hbn.mono hB.size); have Xn := Lib.hid (X.out.below hbn); clear hB X c0 c1 c2 c3 hz hbn; have hB := hBn; have X := Xn; clear hBn Xn; obtain ⟨c0, c1, c2, c3, _, _, _, _, hz⟩ := X.out)
    | (go_at_call 14; (with_reducible refine (right_any r b l t _).mono ?_); rintro e wn ⟨rfl, hbn⟩; rw [hok.out]; have hBn := hB.trans (hbn.mono hB.size); have Xn := Lib.hid (X.out.below hbn); clear hB X c0 c1 c2 c3 hz hbn; have hB := hBn; have X := Xn; clear hBn Xn; obtain ⟨c0, c1, c2, c3, _, _, _, _, hz⟩ := X.out))
  go_ret
  exact ⟨by simp, hB⟩

theorem when_never (r b l t n : Int) (w : World) (h : okB r b l t = true) (hn : fillL r b l t 1099511627776 < n) :
    Calls Try.prog 6 #[.agg #[.int .i64 r, .int .i64 b, .int .i64 l, .int .i64 t], .int .i64 n] w fun e w' => e = .returned (.bool true) ∧ Below w.heap.size w w' := by
  have hok := Lib.hid h
  have hW := Lib.hid (show whenB r b l t n = false by rw [whenB_top h]; exact decide_eq_false (by omega))
  have hT := Lib.hid (show whenT r b l t n = 0 from if_neg (by rw [hW.out]; decide))
  have hd := Lib.hid (show decide (fillL r b l t 1099511627776 < n) = true from decide_eq_true hn)
  clear h
  have fld : ∀ (x y z u : Int) (W : World), (Instr.field 24 (.agg #[.int .i64 x, .int .i64 y, .int .i64 z, .int .i64 u]) 2).run Try.prog W = .ok (.int .i64 z) W := fun _ _ _ _ _ => by kernel_rfl
  go_enter Try.func6, Try.ntmps6
  have hB := ((Below.refl w.heap.size w).alloc (Nat.le_refl _) (.cells #[.int .i64 r, .int .i64 b, .int .i64 l, .int .i64 t] 23)).alloc (by simp) (.cells #[.int .i64 r, .int .i64 b, .int .i64 l, .int .i64 t] 24)
  have X := Lib.hid (Cls.Box4.new (w.alloc (.cells #[.int .i64 r, .int .i64 b, .int .i64 l, .int .i64 t] 23)) (.int .i64 r) (.int .i64 b) (.int .i64 l) (.int .i64 t) 24)
  rw [World.size_alloc] at X
  have c0 := True.intro; have c1 := c0; have c2 := c0; have c3 := c0; have hz := c0
  go_wp2_with (first
    | (go_at_call 11; (with_reducible refine (when_any r b l t n _).mono ?_); rintro e wn ⟨rfl, hbn⟩; rw [hT.out, hW.out]; have hBn := hB.trans (hbn.mono hB.size); have Xn := Lib.hid (X.out.below hbn); clear hB X c0 c1 c2 c3 hz hbn; have hB := hBn; have X := Xn; clear hBn Xn; obtain ⟨c0, c1, c2, c3, _, _, _, _, hz⟩ := X.out)
    | (go_at_call 13; (with_reducible refine (alive_any _).mono ?_); rintro e wn ⟨rfl, hbn⟩; have hBn := hB.trans (hbn.mono hB.size); have Xn := Lib.hid (X.out.below hbn); clear hB X c0 c1 c2 c3 hz hbn; have hB := hBn; have X := Xn; clear hBn Xn; obtain ⟨c0, c1, c2, c3, _, _, _, _, hz⟩ := X.out)
    | (go_at_call 14; (with_reducible refine (right_any r b l t _).mono ?_); rintro e wn ⟨rfl, hbn⟩; rw [hok.out]; have hBn := hB.trans (hbn.mono hB.size); have Xn := Lib.hid (X.out.below hbn); clear hB X c0 c1 c2 c3 hz hbn; have hB := hBn; have X := Xn; clear hBn Xn; obtain ⟨c0, c1, c2, c3, _, _, _, _, hz⟩ := X.out)
    | (go_at_call 16; (with_reducible refine (fill_any r b l t 1099511627776 _).mono ?_); rintro e wn ⟨rfl, hbn⟩; have hBn := hB.trans (hbn.mono hB.size); have Xn := Lib.hid (X.out.below hbn); clear hB X c0 c1 c2 c3 hz hbn; have hB := hBn; have X := Xn; clear hBn Xn; obtain ⟨c0, c1, c2, c3, _, _, _, _, hz⟩ := X.out))
  go_ret
  exact ⟨by simp, hB⟩

theorem when_now (r b l t n : Int) (w : World) (h : okB r b l t = true) (hw : whenB r b l t n = true) (hT0 : whenT r b l t n = t) :
    Calls Try.prog 6 #[.agg #[.int .i64 r, .int .i64 b, .int .i64 l, .int .i64 t], .int .i64 n] w fun e w' => e = .returned (.bool true) ∧ Below w.heap.size w w' := by
  have hok := Lib.hid h
  have hW := Lib.hid hw
  have hbd := whenT_bd h hw
  have hge := (whenT_least h hw hbd.1 hbd.2).2 (Int.le_refl _)
  rw [hT0] at hge
  have hT := Lib.hid hT0
  have hd1 : decide (n ≤ fillL r b l t t) = true := decide_eq_true hge
  have hd2 : decide (t ≤ t) = true := decide_eq_true (Int.le_refl _)
  clear h hw hbd hT0 hge
  have fld : ∀ (x y z u : Int) (W : World), (Instr.field 24 (.agg #[.int .i64 x, .int .i64 y, .int .i64 z, .int .i64 u]) 2).run Try.prog W = .ok (.int .i64 z) W := fun _ _ _ _ _ => by kernel_rfl
  go_enter Try.func6, Try.ntmps6
  have hB := ((Below.refl w.heap.size w).alloc (Nat.le_refl _) (.cells #[.int .i64 r, .int .i64 b, .int .i64 l, .int .i64 t] 23)).alloc (by simp) (.cells #[.int .i64 r, .int .i64 b, .int .i64 l, .int .i64 t] 24)
  have X := Lib.hid (Cls.Box4.new (w.alloc (.cells #[.int .i64 r, .int .i64 b, .int .i64 l, .int .i64 t] 23)) (.int .i64 r) (.int .i64 b) (.int .i64 l) (.int .i64 t) 24)
  rw [World.size_alloc] at X
  have c0 := True.intro; have c1 := c0; have c2 := c0; have c3 := c0; have hz := c0
  go_wp2_with (first
    | (go_at_call 11; (with_reducible refine (when_any r b l t n _).mono ?_); rintro e wn ⟨rfl, hbn⟩; rw [hT.out, hW.out]; have hBn := hB.trans (hbn.mono hB.size); have Xn := Lib.hid (X.out.below hbn); clear hB X c0 c1 c2 c3 hz hbn; have hB := hBn; have X := Xn; clear hBn Xn; obtain ⟨c0, c1, c2, c3, _, _, _, _, hz⟩ := X.out)
    | (go_at_call 13; (with_reducible refine (alive_any _).mono ?_); rintro e wn ⟨rfl, hbn⟩; have hBn := hB.trans (hbn.mono hB.size); have Xn := Lib.hid (X.out.below hbn); clear hB X c0 c1 c2 c3 hz hbn; have hB := hBn; have X := Xn; clear hBn Xn; obtain ⟨c0, c1, c2, c3, _, _, _, _, hz⟩ := X.out)
    | (go_at_call 14; (with_reducible refine (right_any r b l t _).mono ?_); rintro e wn ⟨rfl, hbn⟩; rw [hok.out]; have hBn := hB.trans (hbn.mono hB.size); have Xn := Lib.hid (X.out.below hbn); clear hB X c0 c1 c2 c3 hz hbn; have hB := hBn; have X := Xn; clear hBn Xn; obtain ⟨c0, c1, c2, c3, _, _, _, _, hz⟩ := X.out)
    | (go_at_call 16; (with_reducible refine (fill_any r b l t t _).mono ?_); rintro e wn ⟨rfl, hbn⟩; have hBn := hB.trans (hbn.mono hB.size); have Xn := Lib.hid (X.out.below hbn); clear hB X c0 c1 c2 c3 hz hbn; have hB := hBn; have X := Xn; clear hBn Xn; obtain ⟨c0, c1, c2, c3, _, _, _, _, hz⟩ := X.out))
  go_ret
  exact ⟨by simp, hB⟩

theorem when_later (r b l t n : Int) (w : World) (h : okB r b l t = true) (hw : whenB r b l t n = true) (at_ : Int) (hT0 : whenT r b l t n = at_) (hlt : t < at_) :
    Calls Try.prog 6 #[.agg #[.int .i64 r, .int .i64 b, .int .i64 l, .int .i64 t], .int .i64 n] w fun e w' => e = .returned (.bool true) ∧ Below w.heap.size w w' := by
  have hok := Lib.hid h
  have hW := Lib.hid hw
  have hbd := whenT_bd h hw
  have hge := (whenT_least h hw hbd.1 hbd.2).2 (Int.le_refl _)
  rw [hT0] at hge hbd
  have hless : fillL r b l t (at_ - 1) < n := by
    have h2 := whenT_least (m := at_ - 1) h hw (by omega) (by omega)
    rw [hT0] at h2
    rcases Int.lt_or_le (fillL r b l t (at_ - 1)) n with h3 | h3
    · exact h3
    · have := h2.1 h3; omega
  obtain ⟨o1, o2, o3, o4, o5, o6⟩ := of_decide_eq_true h
  have hT := Lib.hid hT0
  have hd1 : decide (n ≤ fillL r b l t at_) = true := decide_eq_true hge
  have hd2 : decide (t ≤ at_) = true := decide_eq_true (by omega)
  have hd3 : (at_ == t) = false := by simp; omega
  have hd4 : decide (fillL r b l t (at_ - 1) < n) = true := decide_eq_true hless
  clear h hw hT0 hge hless
  have fld : ∀ (x y z u : Int) (W : World), (Instr.field 24 (.agg #[.int .i64 x, .int .i64 y, .int .i64 z, .int .i64 u]) 2).run Try.prog W = .ok (.int .i64 z) W := fun _ _ _ _ _ => by kernel_rfl
  go_enter Try.func6, Try.ntmps6
  have hB := ((Below.refl w.heap.size w).alloc (Nat.le_refl _) (.cells #[.int .i64 r, .int .i64 b, .int .i64 l, .int .i64 t] 23)).alloc (by simp) (.cells #[.int .i64 r, .int .i64 b, .int .i64 l, .int .i64 t] 24)
  have X := Lib.hid (Cls.Box4.new (w.alloc (.cells #[.int .i64 r, .int .i64 b, .int .i64 l, .int .i64 t] 23)) (.int .i64 r) (.int .i64 b) (.int .i64 l) (.int .i64 t) 24)
  rw [World.size_alloc] at X
  have c0 := True.intro; have c1 := c0; have c2 := c0; have c3 := c0; have hz := c0
  go_wp2_with (first
    | (go_at_call 11; (with_reducible refine (when_any r b l t n _).mono ?_); rintro e wn ⟨rfl, hbn⟩; rw [hT.out, hW.out]; have hBn := hB.trans (hbn.mono hB.size); have Xn := Lib.hid (X.out.below hbn); clear hB X c0 c1 c2 c3 hz hbn; have hB := hBn; have X := Xn; clear hBn Xn; obtain ⟨c0, c1, c2, c3, _, _, _, _, hz⟩ := X.out)
    | (go_at_call 13; (with_reducible refine (alive_any _).mono ?_); rintro e wn ⟨rfl, hbn⟩; have hBn := hB.trans (hbn.mono hB.size); have Xn := Lib.hid (X.out.below hbn); clear hB X c0 c1 c2 c3 hz hbn; have hB := hBn; have X := Xn; clear hBn Xn; obtain ⟨c0, c1, c2, c3, _, _, _, _, hz⟩ := X.out)
    | (go_at_call 14; (with_reducible refine (right_any r b l t _).mono ?_); rintro e wn ⟨rfl, hbn⟩; rw [hok.out]; have hBn := hB.trans (hbn.mono hB.size); have Xn := Lib.hid (X.out.below hbn); clear hB X c0 c1 c2 c3 hz hbn; have hB := hBn; have X := Xn; clear hBn Xn; obtain ⟨c0, c1, c2, c3, _, _, _, _, hz⟩ := X.out)
    | (go_at_call 16; (with_reducible refine (fill_any r b l t at_ _).mono ?_); rintro e wn ⟨rfl, hbn⟩; have hBn := hB.trans (hbn.mono hB.size); have Xn := Lib.hid (X.out.below hbn); clear hB X c0 c1 c2 c3 hz hbn; have hB := hBn; have X := Xn; clear hBn Xn; obtain ⟨c0, c1, c2, c3, _, _, _, _, hz⟩ := X.out)
    | (go_at_call 16; (with_reducible refine (fill_any r b l t (at_ - 1) _).mono ?_); rintro e wn ⟨rfl, hbn⟩; have hBn := hB.trans (hbn.mono hB.size); have Xn := Lib.hid (X.out.below hbn); clear hB X c0 c1 c2 c3 hz hbn; have hB := hBn; have X := Xn; clear hBn Xn; obtain ⟨c0, c1, c2, c3, _, _, _, _, hz⟩ := X.out))
  go_ret
  exact ⟨by simp, hB⟩

theorem when_law_any (r b l t n : Int) (w : World) :
    Calls Try.prog 6 #[.agg #[.int .i64 r, .int .i64 b, .int .i64 l, .int .i64 t], .int .i64 n] w fun e w' => e = .returned (.bool true) ∧ Below w.heap.size w w' := by
  cases h : okB r b l t with
  | false => exact when_bad r b l t n w h
  | true =>
    cases hw : whenB r b l t n with
    | false =>
      refine when_never r b l t n w h ?_
      have := whenB_top (n := n) h
      rw [hw] at this
      have := of_decide_eq_false this.symm
      omega
    | true =>
      have hbd := whenT_bd h hw
      by_cases e : whenT r b l t n = t
      · exact when_now r b l t n w h hw e
      · exact when_later r b l t n w h hw _ rfl (by omega)


theorem takes_bad (r b l t now n : Int) (w : World) (h : okB r b l t = false) :
    Calls Try.prog 7 #[.agg #[.int .i64 r, .int .i64 b, .int .i64 l, .int .i64 t], .int .i64 now, .int .i64 n] w fun e w' => e = .returned (.bool true) ∧ Below w.heap.size w w' := by
  have hok := Lib.hid h
  clear h
  go_enter Try.func7, Try.ntmps7
  have hB := ((Below.refl w.heap.size w).alloc (Nat.le_refl _) (.cells #[.int .i64 r, .int .i64 b, .int .i64 l, .int .i64 t] 23)).alloc (by simp) (.cells #[.int .i64 r, .int .i64 b, .int .i64 l, .int .i64 t] 24)
  have X := Lib.hid (Cls.Box4.new (w.alloc (.cells #[.int .i64 r, .int .i64 b, .int .i64 l, .int .i64 t] 23)) (.int .i64 r) (.int .i64 b) (.int .i64 l) (.int .i64 t) 24)
  rw [World.size_alloc] at X
  have c0 := True.intro; have c1 := c0; have c2 := c0; have c3 := c0; have cz := c0
  go_wp2_with (first
    | (go_at_call 13; (with_reducible refine (alive_any _).mono ?_); rintro e wn ⟨rfl, hbn⟩; have hBn := hB.trans (hbn.mono hB.size); have Xn := Lib.hid (X.out.below hbn); clear hB hbn X c0 c1 c2 c3 cz; have hB := hBn; clear hBn; have X := Xn; clear Xn; obtain ⟨c0, c1, c2, c3, _, _, _, _, cz⟩ := X.out)
    | (go_at_call 14; (with_reducible refine (right_any r b l t _).mono ?_); rintro e wn ⟨rfl, hbn⟩; rw [hok.out]; have hBn := hB.trans (hbn.mono hB.size); have Xn := Lib.hid (X.out.below hbn); clear hB hbn X c0 c1 c2 c3 cz; have hB := hBn; clear hBn; have X := Xn; clear Xn; obtain ⟨c0, c1, c2, c3, _, _, _, _, cz⟩ := X.out))
  go_ret
  exact ⟨by simp, hB⟩

theorem take_zero {r b l t now : Int} (h : okB r b l t = true) (h2 : nr now ≤ t) : takeK r b l t now 0 = 0 ∧ takeL r b l t now 0 = l ∧ takeT r b l t now 0 = t := by
  have hf : fillL r b l t now = l := fillL_no (by omega)
  have ht : fillT r b l t now = t := fillT_no (by omega)
  have hl := fillL_bd (now := now) h
  have h0 : takeK r b l t now 0 = 0 := by
    unfold takeK
    rw [if_pos h, if_neg (by decide : ¬ (0 : Int) < 0), if_neg (by omega)]
  refine ⟨h0, ?_, ?_⟩
  · unfold takeL; rw [if_pos h, h0, hf]; omega
  · unfold takeT; rw [if_pos h, ht]
theorem takes_plain {r b l t now n : Int} (h : okB r b l t = true) :
    0 ≤ (takeK r b l t now n) ∧ okB r b ((fillL r b l t now) - (takeK r b l t now n)) (fillT r b l t now) = true ∧ takeK r b ((fillL r b l t now) - (takeK r b l t now n)) (fillT r b l t now) now 0 = 0 ∧ takeL r b ((fillL r b l t now) - (takeK r b l t now n)) (fillT r b l t now) now 0 = (fillL r b l t now) - (takeK r b l t now n) ∧ takeT r b ((fillL r b l t now) - (takeK r b l t now n)) (fillT r b l t now) now 0 = (fillT r b l t now) ∧ (n ≤ 0 ∨ (takeK r b l t now n) = n ∨ (fillL r b l t now) - (takeK r b l t now n) = 0) ∧ takeL r b l t now n = (fillL r b l t now) - (takeK r b l t now n) ∧ takeT r b l t now n = (fillT r b l t now) := by
  have h1 := fillL_bd (now := now) h
  have h2 := fillT_bd (now := now) h
  have h3 := takeK_bd (now := now) (n := n) h
  obtain ⟨o1, o2, o3, o4, o5, o6⟩ := of_decide_eq_true h
  have hok : okB r b ((fillL r b l t now) - (takeK r b l t now n)) (fillT r b l t now) = true := decide_eq_true ⟨o1, o2, by omega, by omega, o5, by omega⟩
  have hnow : nr now ≤ (fillT r b l t now) := by
    unfold fillT
    by_cases hlt : t < nr now
    · rw [if_pos ⟨h, hlt⟩]; omega
    · rw [if_neg (fun hc => hlt hc.2)]; omega
  have hz := take_zero hok hnow
  refine ⟨h3.1, hok, hz.1, hz.2.1, hz.2.2, ?_, if_pos h, if_pos h⟩
  by_cases hn : n ≤ 0
  · exact .inl hn
  · right
    unfold takeK
    rw [if_pos h, if_neg (by omega : ¬ n < 0)]
    by_cases hm : fillL r b l t now < n
    · right; rw [if_pos hm]; omega
    · left; rw [if_neg hm]
set_option maxHeartbeats 2000000 in
theorem takes_good (r b l t now n : Int) (w : World) (h : okB r b l t = true) :
    Calls Try.prog 7 #[.agg #[.int .i64 r, .int .i64 b, .int .i64 l, .int .i64 t], .int .i64 now, .int .i64 n] w fun e w' => e = .returned (.bool true) ∧ Below w.heap.size w w' := by
  have hok := Lib.hid h
  obtain ⟨p1, p2, p3, p4, p5, p6, p7, p8⟩ := takes_plain (now := now) (n := n) h
  have hLb := fillL_bd (now := now) h
  have hKb := takeK_bd (now := now) (n := n) h
  have o2 : b ≤ 1099511627776 := (of_decide_eq_true h).2.1.2
  have q2 := Lib.hid p2; have q3 := Lib.hid p3; have q4 := Lib.hid p4; have q5 := Lib.hid p5; have q6 := Lib.hid p6; have q7 := Lib.hid p7; have q8 := Lib.hid p8
  clear p2 p3 p4 p5 p6 p7 p8 h
  go_enter Try.func7, Try.ntmps7
  have hB := ((Below.refl w.heap.size w).alloc (Nat.le_refl _) (.cells #[.int .i64 r, .int .i64 b, .int .i64 l, .int .i64 t] 23)).alloc (by simp) (.cells #[.int .i64 r, .int .i64 b, .int .i64 l, .int .i64 t] 24)
  have X := Lib.hid (Cls.Box4.new (w.alloc (.cells #[.int .i64 r, .int .i64 b, .int .i64 l, .int .i64 t] 23)) (.int .i64 r) (.int .i64 b) (.int .i64 l) (.int .i64 t) 24)
  rw [World.size_alloc] at X
  have c0 := True.intro; have c1 := c0; have c2 := c0; have c3 := c0; have cz := c0
  go_wp2_with (first
    | (go_at_call 14; (with_reducible refine (right_any r b l t _).mono ?_); rintro e wn ⟨rfl, hbn⟩; rw [hok.out]; have hBn := hB.trans (hbn.mono hB.size); have Xn := Lib.hid (X.out.below hbn); clear hB hbn X c0 c1 c2 c3 cz; have hB := hBn; clear hBn; have X := Xn; clear Xn; obtain ⟨c0, c1, c2, c3, _, _, _, _, cz⟩ := X.out)
    | (go_at_call 16; (with_reducible refine (fill_any r b l t now _).mono ?_); rintro e w1 ⟨rfl, hbn⟩; have hBn := hB.trans (hbn.mono hB.size); have Xn := Lib.hid (X.out.below hbn); clear hB hbn X c0 c1 c2 c3 cz; have hB := hBn; clear hBn; have X := Xn; clear Xn; obtain ⟨c0, c1, c2, c3, _, _, _, _, cz⟩ := X.out))
  have hB2 := hB.alloc hB.size (.cells #[.int .i64 r, .int .i64 b, .int .i64 (fillL r b l t now), .int .i64 (fillT r b l t now)] 24)
  have Y := Lib.hid (Cls.Box4.new w1 (.int .i64 r) (.int .i64 b) (.int .i64 (fillL r b l t now)) (.int .i64 (fillT r b l t now)) 24)
  have X2 := Lib.hid (X.out.old (.cells #[.int .i64 r, .int .i64 b, .int .i64 (fillL r b l t now), .int .i64 (fillT r b l t now)] 24))
  have hle1 : w.heap.size ≤ w1.heap.size := hB.size
  clear hB X
  have hB := hB2
  have X := X2
  clear hB2 X2
  have d0 := True.intro; have d1 := d0; have d2 := d0; have d3 := d0; have dz := d0
  go_wp2_with (first
    | (go_at_call 9; (with_reducible refine (take_any r b l t now n _).mono ?_); rintro e w2 ⟨rfl, hbn⟩; rw [q7.out, q8.out]; have hBn := hB.trans (hbn.mono hB.size); have Xn := Lib.hid (X.out.below hbn); have Yn := Lib.hid (Y.out.below hbn); clear hB hbn X Y c0 c1 c2 c3 cz d0 d1 d2 d3 dz; have hB := hBn; clear hBn; have X := Xn; clear Xn; have Y := Yn; clear Yn; obtain ⟨c0, c1, c2, c3, _, _, _, _, cz⟩ := X.out; obtain ⟨d0, d1, d2, d3, _, _, _, _, dz⟩ := Y.out))
  have hB2 := (hB.setCell (p := ⟨w1.heap.size, 2, none⟩) hle1 (.int .i64 ((fillL r b l t now) - (takeK r b l t now n)))).alloc (by rw [World.size_setCell]; exact hB.size) (.cells #[.int .i64 r, .int .i64 b, .int .i64 ((fillL r b l t now) - (takeK r b l t now n)), .int .i64 (fillT r b l t now)] 24)
  have Y2 := Lib.hid ((Y.out.set2 (.int .i64 ((fillL r b l t now) - (takeK r b l t now n)))).old (.cells #[.int .i64 r, .int .i64 b, .int .i64 ((fillL r b l t now) - (takeK r b l t now n)), .int .i64 (fillT r b l t now)] 24))
  have Z2 := Lib.hid (Cls.Box4.new (w2.setCell ⟨w1.heap.size, 2, none⟩ (.int .i64 ((fillL r b l t now) - (takeK r b l t now n)))) (.int .i64 r) (.int .i64 b) (.int .i64 ((fillL r b l t now) - (takeK r b l t now n))) (.int .i64 (fillT r b l t now)) 24)
  rw [World.size_setCell] at Z2
  have hle2 : w.heap.size ≤ w2.heap.size := hB.size
  clear hB X Y c0 c1 c2 c3 cz d0 d1 d2 d3 dz
  have hB := hB2
  have Y := Y2
  have Z := Z2
  clear hB2 Y2 Z2
  have d0 := True.intro; have d1 := d0; have d2 := d0; have d3 := d0; have dz := d0
  have e0 := d0; have e1 := d0; have e2 := d0; have e3 := d0; have ez := d0
  go_wp2_with (first
    | (go_at_call 9; (with_reducible refine (take_any r b ((fillL r b l t now) - (takeK r b l t now n)) (fillT r b l t now) now 0 _).mono ?_); rintro e w3 ⟨rfl, hbn⟩; rw [q3.out, q4.out, q5.out]; have hBn := hB.trans (hbn.mono hB.size); have Yn := Lib.hid (Y.out.below hbn); have Zn := Lib.hid (Z.out.below hbn); clear hB hbn Y Z d0 d1 d2 d3 dz e0 e1 e2 e3 ez; have hB := hBn; clear hBn; have Y := Yn; clear Yn; have Z := Zn; clear Zn; obtain ⟨d0, d1, d2, d3, _, _, _, _, dz⟩ := Y.out; obtain ⟨e0, e1, e2, e3, _, _, _, _, ez⟩ := Z.out))
  have hB2 := hB.alloc hB.size (.cells #[.int .i64 r, .int .i64 b, .int .i64 ((fillL r b l t now) - (takeK r b l t now n)), .int .i64 (fillT r b l t now)] 24)
  have Y2 := Lib.hid (Y.out.old (.cells #[.int .i64 r, .int .i64 b, .int .i64 ((fillL r b l t now) - (takeK r b l t now n)), .int .i64 (fillT r b l t now)] 24))
  have Z2 := Lib.hid (Z.out.old (.cells #[.int .i64 r, .int .i64 b, .int .i64 ((fillL r b l t now) - (takeK r b l t now n)), .int .i64 (fillT r b l t now)] 24))
  have V := Lib.hid (Cls.Box4.new w3 (.int .i64 r) (.int .i64 b) (.int .i64 ((fillL r b l t now) - (takeK r b l t now n))) (.int .i64 (fillT r b l t now)) 24)
  clear hB Y Z d0 d1 d2 d3 dz e0 e1 e2 e3 ez
  have hB := hB2
  have Y := Y2
  have Z := Z2
  clear hB2 Y2 Z2
  have d0 := True.intro; have d1 := d0; have d2 := d0; have d3 := d0; have dz := d0
  have e0 := d0; have e1 := d0; have e2 := d0; have e3 := d0; have ez := d0
  have g0 := d0; have g1 := d0; have g2 := d0; have g3 := d0; have gz := d0
  have k0 : decide (0 ≤ (takeK r b l t now n)) = true := decide_eq_true p1
  by_cases hn : n ≤ 0
  · have k1 : decide (n ≤ 0) = true := decide_eq_true hn
    go_wp2_with (first
      | (go_at_call 13; (with_reducible refine (alive_any _).mono ?_); rintro e wn ⟨rfl, hbn⟩; have hBn := hB.trans (hbn.mono hB.size); have Yn := Lib.hid (Y.out.below hbn); have Zn := Lib.hid (Z.out.below hbn); have Vn := Lib.hid (V.out.below hbn); clear hB hbn Y Z V d0 d1 d2 d3 dz e0 e1 e2 e3 ez g0 g1 g2 g3 gz; have hB := hBn; clear hBn; have Y := Yn; clear Yn; have Z := Zn; clear Zn; have V := Vn; clear Vn; obtain ⟨d0, d1, d2, d3, _, _, _, _, dz⟩ := Y.out; obtain ⟨e0, e1, e2, e3, _, _, _, _, ez⟩ := Z.out; obtain ⟨g0, g1, g2, g3, _, _, _, _, gz⟩ := V.out)
      | (go_at_call 14; (with_reducible refine (right_any r b ((fillL r b l t now) - (takeK r b l t now n)) (fillT r b l t now) _).mono ?_); rintro e wn ⟨rfl, hbn⟩; rw [q2.out]; have hBn := hB.trans (hbn.mono hB.size); have Yn := Lib.hid (Y.out.below hbn); have Zn := Lib.hid (Z.out.below hbn); have Vn := Lib.hid (V.out.below hbn); clear hB hbn Y Z V d0 d1 d2 d3 dz e0 e1 e2 e3 ez g0 g1 g2 g3 gz; have hB := hBn; clear hBn; have Y := Yn; clear Yn; have Z := Zn; clear Zn; have V := Vn; clear Vn; obtain ⟨d0, d1, d2, d3, _, _, _, _, dz⟩ := Y.out; obtain ⟨e0, e1, e2, e3, _, _, _, _, ez⟩ := Z.out; obtain ⟨g0, g1, g2, g3, _, _, _, _, gz⟩ := V.out))
    go_ret
    exact ⟨by simp, hB⟩
  · have k1 : decide (n ≤ 0) = false := decide_eq_false hn
    by_cases hk : (takeK r b l t now n) = n
    · have k2 : ((takeK r b l t now n) == n) = true := by simpa using hk
      clear hk
      go_wp2_with (first
        | (go_at_call 13; (with_reducible refine (alive_any _).mono ?_); rintro e wn ⟨rfl, hbn⟩; have hBn := hB.trans (hbn.mono hB.size); have Yn := Lib.hid (Y.out.below hbn); have Zn := Lib.hid (Z.out.below hbn); have Vn := Lib.hid (V.out.below hbn); clear hB hbn Y Z V d0 d1 d2 d3 dz e0 e1 e2 e3 ez g0 g1 g2 g3 gz; have hB := hBn; clear hBn; have Y := Yn; clear Yn; have Z := Zn; clear Zn; have V := Vn; clear Vn; obtain ⟨d0, d1, d2, d3, _, _, _, _, dz⟩ := Y.out; obtain ⟨e0, e1, e2, e3, _, _, _, _, ez⟩ := Z.out; obtain ⟨g0, g1, g2, g3, _, _, _, _, gz⟩ := V.out)
        | (go_at_call 14; (with_reducible refine (right_any r b ((fillL r b l t now) - (takeK r b l t now n)) (fillT r b l t now) _).mono ?_); rintro e wn ⟨rfl, hbn⟩; rw [q2.out]; have hBn := hB.trans (hbn.mono hB.size); have Yn := Lib.hid (Y.out.below hbn); have Zn := Lib.hid (Z.out.below hbn); have Vn := Lib.hid (V.out.below hbn); clear hB hbn Y Z V d0 d1 d2 d3 dz e0 e1 e2 e3 ez g0 g1 g2 g3 gz; have hB := hBn; clear hBn; have Y := Yn; clear Yn; have Z := Zn; clear Zn; have V := Vn; clear Vn; obtain ⟨d0, d1, d2, d3, _, _, _, _, dz⟩ := Y.out; obtain ⟨e0, e1, e2, e3, _, _, _, _, ez⟩ := Z.out; obtain ⟨g0, g1, g2, g3, _, _, _, _, gz⟩ := V.out))
      go_ret
      exact ⟨by simp, hB⟩
    · have k2 : ((takeK r b l t now n) == n) = false := by simpa using hk
      have k3 : ((fillL r b l t now) - (takeK r b l t now n) == 0) = true := by
        rcases q6.out with h | h | h
        · exact absurd h hn
        · exact absurd h hk
        · simpa using h
      clear hk
      go_wp2_with (first
        | (go_at_call 13; (with_reducible refine (alive_any _).mono ?_); rintro e wn ⟨rfl, hbn⟩; have hBn := hB.trans (hbn.mono hB.size); have Yn := Lib.hid (Y.out.below hbn); have Zn := Lib.hid (Z.out.below hbn); have Vn := Lib.hid (V.out.below hbn); clear hB hbn Y Z V d0 d1 d2 d3 dz e0 e1 e2 e3 ez g0 g1 g2 g3 gz; have hB := hBn; clear hBn; have Y := Yn; clear Yn; have Z := Zn; clear Zn; have V := Vn; clear Vn; obtain ⟨d0, d1, d2, d3, _, _, _, _, dz⟩ := Y.out; obtain ⟨e0, e1, e2, e3, _, _, _, _, ez⟩ := Z.out; obtain ⟨g0, g1, g2, g3, _, _, _, _, gz⟩ := V.out)
        | (go_at_call 14; (with_reducible refine (right_any r b ((fillL r b l t now) - (takeK r b l t now n)) (fillT r b l t now) _).mono ?_); rintro e wn ⟨rfl, hbn⟩; rw [q2.out]; have hBn := hB.trans (hbn.mono hB.size); have Yn := Lib.hid (Y.out.below hbn); have Zn := Lib.hid (Z.out.below hbn); have Vn := Lib.hid (V.out.below hbn); clear hB hbn Y Z V d0 d1 d2 d3 dz e0 e1 e2 e3 ez g0 g1 g2 g3 gz; have hB := hBn; clear hBn; have Y := Yn; clear Yn; have Z := Zn; clear Zn; have V := Vn; clear Vn; obtain ⟨d0, d1, d2, d3, _, _, _, _, dz⟩ := Y.out; obtain ⟨e0, e1, e2, e3, _, _, _, _, ez⟩ := Z.out; obtain ⟨g0, g1, g2, g3, _, _, _, _, gz⟩ := V.out))
      go_ret
      exact ⟨by simp, hB⟩
theorem takes_any (r b l t now n : Int) (w : World) :
    Calls Try.prog 7 #[.agg #[.int .i64 r, .int .i64 b, .int .i64 l, .int .i64 t], .int .i64 now, .int .i64 n] w fun e w' => e = .returned (.bool true) ∧ Below w.heap.size w w' := by
  cases h : okB r b l t with
  | false => exact takes_bad r b l t now n w h
  | true => exact takes_good r b l t now n w h

end Go.Proofs.Ytdooeeklpinhfaa.Law08
