/- The program's buckets, the second half: Take, When, Most, New. Conditions: the numbers are of their kinds. -/
import Derived.Test.YtnkgjnmhiedfoaaGreatA7
import Derived.Deep.DeepCutAuto
import Derived.Deep.CutBlock
namespace Go.Proofs.YtnkgjnmhiedfoaaGreat.Bucket
open Go.RowKit Tick
set_option maxRecDepth 100000
set_option linter.unusedVariables false
set_option linter.unusedSimpArgs false

theorem fillL_bd {r b l t now : Int} (h : okB r b l t = true) : 0 ≤ fillL r b l t now ∧ fillL r b l t now ≤ b ∧ l ≤ fillL r b l t now := by
  obtain ⟨o1, o2, o3, o4, o5, o6⟩ := of_decide_eq_true h
  unfold fillL
  split
  · rename_i hc
    have h1 := nr_bd (nr l + nr (mul r (nr now - t)))
    have h2 : nr l = l := nr_in o3.1 o3.2
    have h3 := nr_bd (mul r (nr now - t))
    have h4 : l ≤ add l (mul r (nr now - t)) := by
      unfold add
      rw [h2]
      by_cases hq : 1099511627776 < l + nr (mul r (nr now - t))
      · rw [nr_top hq]; omega
      · rw [nr_in (by omega) (by omega)]; omega
    have h5 : 0 ≤ add l (mul r (nr now - t)) := h1.1
    split <;> omega
  · omega
theorem fillT_bd {r b l t now : Int} (h : okB r b l t = true) : t ≤ fillT r b l t now ∧ 0 ≤ fillT r b l t now ∧ fillT r b l t now ≤ 1099511627776 := by
  obtain ⟨o1, o2, o3, o4, o5, o6⟩ := of_decide_eq_true h
  have := nr_bd now
  unfold fillT
  split <;> omega
theorem fill_ok {r b l t now : Int} (h : okB r b l t = true) : okB r b (fillL r b l t now) (fillT r b l t now) = true := by
  have h1 := fillL_bd (now := now) h
  have h2 := fillT_bd (now := now) h
  obtain ⟨o1, o2, o3, o4, o5, o6⟩ := of_decide_eq_true h
  exact decide_eq_true ⟨o1, o2, by omega, by omega, o5, by omega⟩

def takeK (r b l t now n : Int) : Int := if okB r b l t = true then (if fillL r b l t now < (if n < 0 then 0 else n) then fillL r b l t now else (if n < 0 then 0 else n)) else 0
def takeL (r b l t now n : Int) : Int := if okB r b l t = true then fillL r b l t now - takeK r b l t now n else l
def takeT (r b l t now n : Int) : Int := if okB r b l t = true then fillT r b l t now else t
theorem takeK_bd {r b l t now n : Int} (h : okB r b l t = true) : 0 ≤ takeK r b l t now n ∧ takeK r b l t now n ≤ fillL r b l t now := by
  have := fillL_bd (now := now) h
  unfold takeK
  rw [if_pos h]
  split <;> split <;> omega

theorem take_no (r b l t now n : Int) (w : World) (h : okB r b l t = false) :
    Calls Tryz.prog 121 #[.agg #[.int .i64 r, .int .i64 b, .int .i64 l, .int .i64 t], .int .i64 now, .int .i64 n] w fun e w' => e = .returned (.tuple #[.agg #[.int .i64 r, .int .i64 b, .int .i64 (takeL r b l t now n), .int .i64 (takeT r b l t now n)], .int .i64 (takeK r b l t now n)]) ∧ Below w.heap.size w w' := by
  have e1 := Lib.hid (show takeL r b l t now n = l from if_neg (by rw [h]; decide))
  have e2 := Lib.hid (show takeT r b l t now n = t from if_neg (by rw [h]; decide))
  have e3 := Lib.hid (show takeK r b l t now n = 0 from if_neg (by rw [h]; decide))
  have hk := Lib.hid h
  clear h
  go_enter Tryz.func121, Tryz.ntmps121
  have hB0 := (((Below.refl w.heap.size w).alloc (Nat.le_refl _) (.cells #[.int .i64 r, .int .i64 b, .int .i64 l, .int .i64 t] 121)).alloc (by simp) (.cells #[.int .i64 0, .int .i64 0, .int .i64 0, .int .i64 0] 121))
  have hbx := Lib.hid ((Cls.Box4.new w (.int .i64 r) (.int .i64 b) (.int .i64 l) (.int .i64 t) 121).old (.cells #[.int .i64 0, .int .i64 0, .int .i64 0, .int .i64 0] 121))
  have hrs := Lib.hid (Cls.Box4.new (w.alloc (.cells #[.int .i64 r, .int .i64 b, .int .i64 l, .int .i64 t] 121)) (.int .i64 0) (.int .i64 0) (.int .i64 0) (.int .i64 0) 121)
  go_wp2_with fail
  refine (right_any r b l t _).mono ?_
  rintro e w1 ⟨rfl, hb1⟩
  rw [hk.out]
  obtain ⟨c0, c1, c2, c3, f0, f1, f2, f3, hz⟩ := hbx.out.below hb1
  obtain ⟨z0, z1, z2, z3, y0, y1, y2, y3, hy⟩ := hrs.out.below hb1
  rw [World.size_alloc] at z0 z1 z2 z3 y0 y1 y2 y3 hy
  have hB1 := hB0.trans (hb1.mono (by simp; omega))
  clear hB0 hb1 hbx hrs
  go_wp2
  exact bodyPost_ret (v := .tuple #[.agg #[.int .i64 r, .int .i64 b, .int .i64 l, .int .i64 t], .int .i64 0]) (by simp [results, Tryz.results121, go_sem, c0, c1, c2, c3, z0, z1, z2, z3, hy]) rfl ⟨by rw [e1.out, e2.out, e3.out], ((((hB1.setCell (p := ⟨w.heap.size + 1, 0, none⟩) (by show w.heap.size ≤ w.heap.size + 1; omega) _).setCell (p := ⟨w.heap.size + 1, 1, none⟩) (by show w.heap.size ≤ w.heap.size + 1; omega) _).setCell (p := ⟨w.heap.size + 1, 2, none⟩) (by show w.heap.size ≤ w.heap.size + 1; omega) _).setCell (p := ⟨w.heap.size + 1, 3, none⟩) (by show w.heap.size ≤ w.heap.size + 1; omega) _)⟩

theorem take_neg (r b l t now n : Int) (w : World) (h : okB r b l t = true) (hn : n < 0) :
    Calls Tryz.prog 121 #[.agg #[.int .i64 r, .int .i64 b, .int .i64 l, .int .i64 t], .int .i64 now, .int .i64 n] w fun e w' => e = .returned (.tuple #[.agg #[.int .i64 r, .int .i64 b, .int .i64 (takeL r b l t now n), .int .i64 (takeT r b l t now n)], .int .i64 (takeK r b l t now n)]) ∧ Below w.heap.size w w' := by
  have hL := fillL_bd (now := now) h
  have o2 : b ≤ 1099511627776 := (of_decide_eq_true h).2.1.2
  have e1 := Lib.hid (show takeL r b l t now n = fillL r b l t now - takeK r b l t now n from if_pos h)
  have e2 := Lib.hid (show takeT r b l t now n = fillT r b l t now from if_pos h)
  have e3 := Lib.hid (show takeK r b l t now n = 0 from (if_pos h).trans (by rw [if_pos hn, if_neg (by omega)]))
  have hk := Lib.hid h
  clear h
  go_enter Tryz.func121, Tryz.ntmps121
  have hB0 := (((Below.refl w.heap.size w).alloc (Nat.le_refl _) (.cells #[.int .i64 r, .int .i64 b, .int .i64 l, .int .i64 t] 121)).alloc (by simp) (.cells #[.int .i64 0, .int .i64 0, .int .i64 0, .int .i64 0] 121))
  have hbx := Lib.hid ((Cls.Box4.new w (.int .i64 r) (.int .i64 b) (.int .i64 l) (.int .i64 t) 121).old (.cells #[.int .i64 0, .int .i64 0, .int .i64 0, .int .i64 0] 121))
  have hrs := Lib.hid (Cls.Box4.new (w.alloc (.cells #[.int .i64 r, .int .i64 b, .int .i64 l, .int .i64 t] 121)) (.int .i64 0) (.int .i64 0) (.int .i64 0) (.int .i64 0) 121)
  go_wp2_with fail
  refine (right_any r b l t _).mono ?_
  rintro e w1 ⟨rfl, hb1⟩
  rw [hk.out]
  obtain ⟨c0, c1, c2, c3, f0, f1, f2, f3, hz⟩ := hbx.out.below hb1
  have hB1 := hB0.trans (hb1.mono (by simp; omega))
  go_wp2_with fail
  refine (fill_any r b l t now _).mono ?_
  rintro e w2 ⟨rfl, hb2⟩
  have hb12 := hb1.trans (hb2.mono hb1.size)
  clear c0 c1 c2 c3 f0 f1 f2 f3 hz
  obtain ⟨c0, c1, c2, c3, f0, f1, f2, f3, hz⟩ := hbx.out.below hb12
  obtain ⟨z0, z1, z2, z3, y0, y1, y2, y3, hy⟩ := hrs.out.below hb12
  rw [World.size_alloc] at z0 z1 z2 z3 y0 y1 y2 y3 hy
  have hB2 := hB0.trans (hb12.mono (by simp; omega))
  clear hB0 hb1 hb2 hb12 hB1 hbx hrs
  generalize fillL r b l t now = L at *
  generalize fillT r b l t now = T' at *
  have H4 : Cls.Box4 w2 w.heap.size (.int .i64 r) (.int .i64 b) (.int .i64 l) (.int .i64 t) := ⟨c0, c1, c2, c3, f0, f1, f2, f3, hz⟩
  have R4 : Cls.Box4 w2 (w.heap.size + 1) (.int .i64 0) (.int .i64 0) (.int .i64 0) (.int .i64 0) := ⟨z0, z1, z2, z3, y0, y1, y2, y3, hy⟩
  have H5 := Lib.hid (((H4.put (.int .i64 r) (.int .i64 b) (.int .i64 L) (.int .i64 T'))).set2 (.int .i64 (L)))
  have R5 := Lib.hid ((R4.far4 (by omega : w.heap.size ≠ w.heap.size + 1) (.int .i64 r) (.int .i64 b) (.int .i64 L) (.int .i64 T')).far (k' := w.heap.size) (i := 2) (by omega) (.int .i64 (L)))
  have hB3 := (Cls.below_put4 hB2 (Nat.le_refl _) (.int .i64 r) (.int .i64 b) (.int .i64 L) (.int .i64 T')).setCell (p := ⟨w.heap.size, 2, none⟩) (Nat.le_refl _) (.int .i64 (L))
  clear H4 R4
  dsimp only
  go_upto_region 6 with (fail)
  change Code.wp _ _ _ _ ((Cls.put4 w2 w.heap.size (.int .i64 r) (.int .i64 b) (.int .i64 L) (.int .i64 T')).setCell ⟨w.heap.size, 2, none⟩ (.int .i64 (L)))
  generalize (Cls.put4 w2 w.heap.size (.int .i64 r) (.int .i64 b) (.int .i64 L) (.int .i64 T')).setCell ⟨w.heap.size, 2, none⟩ (.int .i64 (L)) = w3 at *
  clear c0 c1 c2 c3 f0 f1 f2 f3 hz z0 z1 z2 z3 y0 y1 y2 y3 hy hB2
  obtain ⟨c0, c1, c2, c3, f0, f1, f2, f3, hz⟩ := H5.out
  obtain ⟨z0, z1, z2, z3, y0, y1, y2, y3, hy⟩ := R5.out
  clear H5 R5
  go_wp2
  exact bodyPost_ret (v := .tuple #[.agg #[.int .i64 r, .int .i64 b, .int .i64 (L), .int .i64 T'], .int .i64 0]) (by simp [results, Tryz.results121, go_sem, c0, c1, c2, c3, z0, z1, z2, z3, hy, hz]) rfl ⟨by rw [e1.out, e2.out, e3.out]; simp, ((((hB3.setCell (p := ⟨w.heap.size + 1, 0, none⟩) (by show w.heap.size ≤ w.heap.size + 1; omega) _).setCell (p := ⟨w.heap.size + 1, 1, none⟩) (by show w.heap.size ≤ w.heap.size + 1; omega) _).setCell (p := ⟨w.heap.size + 1, 2, none⟩) (by show w.heap.size ≤ w.heap.size + 1; omega) _).setCell (p := ⟨w.heap.size + 1, 3, none⟩) (by show w.heap.size ≤ w.heap.size + 1; omega) _)⟩

theorem take_less (r b l t now n : Int) (w : World) (h : okB r b l t = true) (hn : 0 ≤ n) (hm : n ≤ fillL r b l t now) :
    Calls Tryz.prog 121 #[.agg #[.int .i64 r, .int .i64 b, .int .i64 l, .int .i64 t], .int .i64 now, .int .i64 n] w fun e w' => e = .returned (.tuple #[.agg #[.int .i64 r, .int .i64 b, .int .i64 (takeL r b l t now n), .int .i64 (takeT r b l t now n)], .int .i64 (takeK r b l t now n)]) ∧ Below w.heap.size w w' := by
  have hL := fillL_bd (now := now) h
  have o2 : b ≤ 1099511627776 := (of_decide_eq_true h).2.1.2
  have e1 := Lib.hid (show takeL r b l t now n = fillL r b l t now - takeK r b l t now n from if_pos h)
  have e2 := Lib.hid (show takeT r b l t now n = fillT r b l t now from if_pos h)
  have e3 := Lib.hid (show takeK r b l t now n = n from (if_pos h).trans (by rw [if_neg (by omega : ¬ n < 0), if_neg (by omega)]))
  have hk := Lib.hid h
  clear h
  go_enter Tryz.func121, Tryz.ntmps121
  have hB0 := (((Below.refl w.heap.size w).alloc (Nat.le_refl _) (.cells #[.int .i64 r, .int .i64 b, .int .i64 l, .int .i64 t] 121)).alloc (by simp) (.cells #[.int .i64 0, .int .i64 0, .int .i64 0, .int .i64 0] 121))
  have hbx := Lib.hid ((Cls.Box4.new w (.int .i64 r) (.int .i64 b) (.int .i64 l) (.int .i64 t) 121).old (.cells #[.int .i64 0, .int .i64 0, .int .i64 0, .int .i64 0] 121))
  have hrs := Lib.hid (Cls.Box4.new (w.alloc (.cells #[.int .i64 r, .int .i64 b, .int .i64 l, .int .i64 t] 121)) (.int .i64 0) (.int .i64 0) (.int .i64 0) (.int .i64 0) 121)
  go_wp2_with fail
  refine (right_any r b l t _).mono ?_
  rintro e w1 ⟨rfl, hb1⟩
  rw [hk.out]
  obtain ⟨c0, c1, c2, c3, f0, f1, f2, f3, hz⟩ := hbx.out.below hb1
  have hB1 := hB0.trans (hb1.mono (by simp; omega))
  go_wp2_with fail
  refine (fill_any r b l t now _).mono ?_
  rintro e w2 ⟨rfl, hb2⟩
  have hb12 := hb1.trans (hb2.mono hb1.size)
  clear c0 c1 c2 c3 f0 f1 f2 f3 hz
  obtain ⟨c0, c1, c2, c3, f0, f1, f2, f3, hz⟩ := hbx.out.below hb12
  obtain ⟨z0, z1, z2, z3, y0, y1, y2, y3, hy⟩ := hrs.out.below hb12
  rw [World.size_alloc] at z0 z1 z2 z3 y0 y1 y2 y3 hy
  have hB2 := hB0.trans (hb12.mono (by simp; omega))
  clear hB0 hb1 hb2 hb12 hB1 hbx hrs
  generalize fillL r b l t now = L at *
  generalize fillT r b l t now = T' at *
  have H4 : Cls.Box4 w2 w.heap.size (.int .i64 r) (.int .i64 b) (.int .i64 l) (.int .i64 t) := ⟨c0, c1, c2, c3, f0, f1, f2, f3, hz⟩
  have R4 : Cls.Box4 w2 (w.heap.size + 1) (.int .i64 0) (.int .i64 0) (.int .i64 0) (.int .i64 0) := ⟨z0, z1, z2, z3, y0, y1, y2, y3, hy⟩
  have H5 := Lib.hid (((H4.put (.int .i64 r) (.int .i64 b) (.int .i64 L) (.int .i64 T'))).set2 (.int .i64 (L - n)))
  have R5 := Lib.hid ((R4.far4 (by omega : w.heap.size ≠ w.heap.size + 1) (.int .i64 r) (.int .i64 b) (.int .i64 L) (.int .i64 T')).far (k' := w.heap.size) (i := 2) (by omega) (.int .i64 (L - n)))
  have hB3 := (Cls.below_put4 hB2 (Nat.le_refl _) (.int .i64 r) (.int .i64 b) (.int .i64 L) (.int .i64 T')).setCell (p := ⟨w.heap.size, 2, none⟩) (Nat.le_refl _) (.int .i64 (L - n))
  clear H4 R4
  dsimp only
  go_upto_region 6 with (fail)
  change Code.wp _ _ _ _ ((Cls.put4 w2 w.heap.size (.int .i64 r) (.int .i64 b) (.int .i64 L) (.int .i64 T')).setCell ⟨w.heap.size, 2, none⟩ (.int .i64 (L - n)))
  generalize (Cls.put4 w2 w.heap.size (.int .i64 r) (.int .i64 b) (.int .i64 L) (.int .i64 T')).setCell ⟨w.heap.size, 2, none⟩ (.int .i64 (L - n)) = w3 at *
  clear c0 c1 c2 c3 f0 f1 f2 f3 hz z0 z1 z2 z3 y0 y1 y2 y3 hy hB2
  obtain ⟨c0, c1, c2, c3, f0, f1, f2, f3, hz⟩ := H5.out
  obtain ⟨z0, z1, z2, z3, y0, y1, y2, y3, hy⟩ := R5.out
  clear H5 R5
  go_wp2
  exact bodyPost_ret (v := .tuple #[.agg #[.int .i64 r, .int .i64 b, .int .i64 (L - n), .int .i64 T'], .int .i64 n]) (by simp [results, Tryz.results121, go_sem, c0, c1, c2, c3, z0, z1, z2, z3, hy, hz]) rfl ⟨by rw [e1.out, e2.out, e3.out], ((((hB3.setCell (p := ⟨w.heap.size + 1, 0, none⟩) (by show w.heap.size ≤ w.heap.size + 1; omega) _).setCell (p := ⟨w.heap.size + 1, 1, none⟩) (by show w.heap.size ≤ w.heap.size + 1; omega) _).setCell (p := ⟨w.heap.size + 1, 2, none⟩) (by show w.heap.size ≤ w.heap.size + 1; omega) _).setCell (p := ⟨w.heap.size + 1, 3, none⟩) (by show w.heap.size ≤ w.heap.size + 1; omega) _)⟩

theorem take_most (r b l t now n : Int) (w : World) (h : okB r b l t = true) (hn : 0 ≤ n) (hm : fillL r b l t now < n) :
    Calls Tryz.prog 121 #[.agg #[.int .i64 r, .int .i64 b, .int .i64 l, .int .i64 t], .int .i64 now, .int .i64 n] w fun e w' => e = .returned (.tuple #[.agg #[.int .i64 r, .int .i64 b, .int .i64 (takeL r b l t now n), .int .i64 (takeT r b l t now n)], .int .i64 (takeK r b l t now n)]) ∧ Below w.heap.size w w' := by
  have hL := fillL_bd (now := now) h
  have o2 : b ≤ 1099511627776 := (of_decide_eq_true h).2.1.2
  have e1 := Lib.hid (show takeL r b l t now n = fillL r b l t now - takeK r b l t now n from if_pos h)
  have e2 := Lib.hid (show takeT r b l t now n = fillT r b l t now from if_pos h)
  have e3 := Lib.hid (show takeK r b l t now n = (fillL r b l t now) from (if_pos h).trans (by rw [if_neg (by omega : ¬ n < 0), if_pos hm]))
  have hk := Lib.hid h
  clear h
  go_enter Tryz.func121, Tryz.ntmps121
  have hB0 := (((Below.refl w.heap.size w).alloc (Nat.le_refl _) (.cells #[.int .i64 r, .int .i64 b, .int .i64 l, .int .i64 t] 121)).alloc (by simp) (.cells #[.int .i64 0, .int .i64 0, .int .i64 0, .int .i64 0] 121))
  have hbx := Lib.hid ((Cls.Box4.new w (.int .i64 r) (.int .i64 b) (.int .i64 l) (.int .i64 t) 121).old (.cells #[.int .i64 0, .int .i64 0, .int .i64 0, .int .i64 0] 121))
  have hrs := Lib.hid (Cls.Box4.new (w.alloc (.cells #[.int .i64 r, .int .i64 b, .int .i64 l, .int .i64 t] 121)) (.int .i64 0) (.int .i64 0) (.int .i64 0) (.int .i64 0) 121)
  go_wp2_with fail
  refine (right_any r b l t _).mono ?_
  rintro e w1 ⟨rfl, hb1⟩
  rw [hk.out]
  obtain ⟨c0, c1, c2, c3, f0, f1, f2, f3, hz⟩ := hbx.out.below hb1
  have hB1 := hB0.trans (hb1.mono (by simp; omega))
  go_wp2_with fail
  refine (fill_any r b l t now _).mono ?_
  rintro e w2 ⟨rfl, hb2⟩
  have hb12 := hb1.trans (hb2.mono hb1.size)
  clear c0 c1 c2 c3 f0 f1 f2 f3 hz
  obtain ⟨c0, c1, c2, c3, f0, f1, f2, f3, hz⟩ := hbx.out.below hb12
  obtain ⟨z0, z1, z2, z3, y0, y1, y2, y3, hy⟩ := hrs.out.below hb12
  rw [World.size_alloc] at z0 z1 z2 z3 y0 y1 y2 y3 hy
  have hB2 := hB0.trans (hb12.mono (by simp; omega))
  clear hB0 hb1 hb2 hb12 hB1 hbx hrs
  generalize fillL r b l t now = L at *
  generalize fillT r b l t now = T' at *
  have H4 : Cls.Box4 w2 w.heap.size (.int .i64 r) (.int .i64 b) (.int .i64 l) (.int .i64 t) := ⟨c0, c1, c2, c3, f0, f1, f2, f3, hz⟩
  have R4 : Cls.Box4 w2 (w.heap.size + 1) (.int .i64 0) (.int .i64 0) (.int .i64 0) (.int .i64 0) := ⟨z0, z1, z2, z3, y0, y1, y2, y3, hy⟩
  have H5 := Lib.hid (((H4.put (.int .i64 r) (.int .i64 b) (.int .i64 L) (.int .i64 T'))).set2 (.int .i64 (0)))
  have R5 := Lib.hid ((R4.far4 (by omega : w.heap.size ≠ w.heap.size + 1) (.int .i64 r) (.int .i64 b) (.int .i64 L) (.int .i64 T')).far (k' := w.heap.size) (i := 2) (by omega) (.int .i64 (0)))
  have hB3 := (Cls.below_put4 hB2 (Nat.le_refl _) (.int .i64 r) (.int .i64 b) (.int .i64 L) (.int .i64 T')).setCell (p := ⟨w.heap.size, 2, none⟩) (Nat.le_refl _) (.int .i64 (0))
  clear H4 R4
  dsimp only
  go_upto_region 6 with (fail)
  change Code.wp _ _ _ _ ((Cls.put4 w2 w.heap.size (.int .i64 r) (.int .i64 b) (.int .i64 L) (.int .i64 T')).setCell ⟨w.heap.size, 2, none⟩ (.int .i64 (0)))
  generalize (Cls.put4 w2 w.heap.size (.int .i64 r) (.int .i64 b) (.int .i64 L) (.int .i64 T')).setCell ⟨w.heap.size, 2, none⟩ (.int .i64 (0)) = w3 at *
  clear c0 c1 c2 c3 f0 f1 f2 f3 hz z0 z1 z2 z3 y0 y1 y2 y3 hy hB2
  obtain ⟨c0, c1, c2, c3, f0, f1, f2, f3, hz⟩ := H5.out
  obtain ⟨z0, z1, z2, z3, y0, y1, y2, y3, hy⟩ := R5.out
  clear H5 R5
  go_wp2
  exact bodyPost_ret (v := .tuple #[.agg #[.int .i64 r, .int .i64 b, .int .i64 (0), .int .i64 T'], .int .i64 (L)]) (by simp [results, Tryz.results121, go_sem, c0, c1, c2, c3, z0, z1, z2, z3, hy, hz]) rfl ⟨by rw [e1.out, e2.out, e3.out]; simp, ((((hB3.setCell (p := ⟨w.heap.size + 1, 0, none⟩) (by show w.heap.size ≤ w.heap.size + 1; omega) _).setCell (p := ⟨w.heap.size + 1, 1, none⟩) (by show w.heap.size ≤ w.heap.size + 1; omega) _).setCell (p := ⟨w.heap.size + 1, 2, none⟩) (by show w.heap.size ≤ w.heap.size + 1; omega) _).setCell (p := ⟨w.heap.size + 1, 3, none⟩) (by show w.heap.size ≤ w.heap.size + 1; omega) _)⟩


theorem take_any (r b l t now n : Int) (w : World) :
    Calls Tryz.prog 121 #[.agg #[.int .i64 r, .int .i64 b, .int .i64 l, .int .i64 t], .int .i64 now, .int .i64 n] w fun e w' => e = .returned (.tuple #[.agg #[.int .i64 r, .int .i64 b, .int .i64 (takeL r b l t now n), .int .i64 (takeT r b l t now n)], .int .i64 (takeK r b l t now n)]) ∧ Below w.heap.size w w' := by
  cases h : okB r b l t with
  | false => exact take_no r b l t now n w h
  | true =>
    by_cases hn : n < 0
    · exact take_neg r b l t now n w h hn
    · by_cases hm : n ≤ fillL r b l t now
      · exact take_less r b l t now n w h (by omega) hm
      · exact take_most r b l t now n w h (by omega) (by omega)


end Go.Proofs.YtnkgjnmhiedfoaaGreat.Bucket
namespace Go.Proofs.YtnkgjnmhiedfoaaGreat.Bucket
open Go.RowKit Tick
set_option maxRecDepth 100000
set_option linter.unusedVariables false
set_option linter.unusedSimpArgs false
theorem bnew_yes (r b t : Int) (w : World) (h : okB r b b t = true) :
    Calls Tryz.prog 78 #[.int .i64 r, .int .i64 b, .int .i64 t] w fun e w' => e = .returned (.tuple #[.agg #[.int .i64 r, .int .i64 b, .int .i64 b, .int .i64 t], .int .i64 0]) ∧ Below w.heap.size w w' := by
  have hk := Lib.hid h
  clear h
  go_enter Tryz.func78, Tryz.ntmps78
  have hB0 := (((Below.refl w.heap.size w).alloc (Nat.le_refl _) (.cells #[.int .i64 0, .int .i64 0, .int .i64 0, .int .i64 0] 121)).alloc (by simp) (.cells #[.int .i64 r, .int .i64 b, .int .i64 b, .int .i64 t] 121))
  have hrs := Lib.hid ((Cls.Box4.new w (.int .i64 0) (.int .i64 0) (.int .i64 0) (.int .i64 0) 121).old (.cells #[.int .i64 r, .int .i64 b, .int .i64 b, .int .i64 t] 121))
  have hbx := Lib.hid (Cls.Box4.new (w.alloc (.cells #[.int .i64 0, .int .i64 0, .int .i64 0, .int .i64 0] 121)) (.int .i64 r) (.int .i64 b) (.int .i64 b) (.int .i64 t) 121)
  go_wp2_with fail
  refine (right_any r b b t _).mono ?_
  rintro e w1 ⟨rfl, hb1⟩
  rw [hk.out]
  obtain ⟨z0, z1, z2, z3, y0, y1, y2, y3, hy⟩ := hrs.out.below hb1
  obtain ⟨c0, c1, c2, c3, f0, f1, f2, f3, hz⟩ := hbx.out.below hb1
  rw [World.size_alloc] at c0 c1 c2 c3 f0 f1 f2 f3 hz
  have hB1 := hB0.trans (hb1.mono (by simp; omega))
  clear hB0 hb1 hbx hrs
  go_wp2
  exact bodyPost_ret (v := .tuple #[.agg #[.int .i64 r, .int .i64 b, .int .i64 b, .int .i64 t], .int .i64 0]) (by simp [results, Tryz.results78, go_sem, c0, c1, c2, c3, z0, z1, z2, z3, hy, hz]) rfl ⟨rfl, ((((hB1.setCell (p := ⟨w.heap.size, 0, none⟩) (Nat.le_refl _) _).setCell (p := ⟨w.heap.size, 1, none⟩) (Nat.le_refl _) _).setCell (p := ⟨w.heap.size, 2, none⟩) (Nat.le_refl _) _).setCell (p := ⟨w.heap.size, 3, none⟩) (Nat.le_refl _) _)⟩
theorem bchange_yes (r b l t rate burst now : Int) (w : World) (h : okB r b l t = true) (hn : okB rate burst burst now = true) :
    Calls Tryz.prog 112 #[.agg #[.int .i64 r, .int .i64 b, .int .i64 l, .int .i64 t], .int .i64 rate, .int .i64 burst, .int .i64 now] w fun e w' =>
      e = .returned (.tuple #[.agg #[.int .i64 rate, .int .i64 burst, .int .i64 (min (fillL r b l t now) burst), .int .i64 (fillT r b l t now)], .int .i64 0]) ∧ Below w.heap.size w w' := by
  have hk := Lib.hid h
  have hkn := Lib.hid hn
  clear h hn
  go_enter Tryz.func112, Tryz.ntmps112
  have hB0 := (((Below.refl w.heap.size w).alloc (Nat.le_refl _) (.cells #[.int .i64 r, .int .i64 b, .int .i64 l, .int .i64 t] 121)).alloc (by simp) (.cells #[.int .i64 0, .int .i64 0, .int .i64 0, .int .i64 0] 121))
  have hbx := Lib.hid ((Cls.Box4.new w (.int .i64 r) (.int .i64 b) (.int .i64 l) (.int .i64 t) 121).old (.cells #[.int .i64 0, .int .i64 0, .int .i64 0, .int .i64 0] 121))
  have hrs := Lib.hid (Cls.Box4.new (w.alloc (.cells #[.int .i64 r, .int .i64 b, .int .i64 l, .int .i64 t] 121)) (.int .i64 0) (.int .i64 0) (.int .i64 0) (.int .i64 0) 121)
  go_wp2_with fail
  refine (bnew_yes rate burst now _ hkn.out).mono ?_
  rintro e w1 ⟨rfl, hb1⟩
  have hb1' := Lib.hid (hb1.alloc hb1.size (.cells #[.int .i64 rate, .int .i64 burst, .int .i64 burst, .int .i64 now] 121))
  obtain ⟨c0, c1, c2, c3, f0, f1, f2, f3, hz⟩ := hbx.out.below hb1
  clear hb1
  go_wp2_with fail
  refine (right_any r b l t _).mono ?_
  rintro e w2 ⟨rfl, hb2⟩
  rw [hk.out]
  have hb2' := Lib.hid (hb1'.out.trans (hb2.mono hb1'.out.size))
  clear hb2 c0 c1 c2 c3 f0 f1 f2 f3 hz hb1'
  obtain ⟨c0, c1, c2, c3, f0, f1, f2, f3, hz⟩ := hbx.out.below hb2'.out
  go_wp2_with fail
  refine (fill_any r b l t now _).mono ?_
  rintro e w3 ⟨rfl, hb3⟩
  have hb3' := hb2'.out.trans (hb3.mono hb2'.out.size)
  clear hb3 hb2' c0 c1 c2 c3 f0 f1 f2 f3 hz
  have H4 := hbx.out.below hb3'
  have R4 := hrs.out.below hb3'
  rw [World.size_alloc] at R4
  have hB3 := hB0.trans (hb3'.mono (by simp; omega))
  clear hB0 hb3' hbx hrs
  generalize hL : fillL r b l t now = L at *
  generalize hT : fillT r b l t now = T' at *
  have hL' := Lib.hid hL
  have hT' := Lib.hid hT
  clear hL hT
  obtain ⟨c0, c1, c2, c3, f0, f1, f2, f3, hz⟩ := H4
  have H5 := Lib.hid (Cls.Box4.put (w := w3) (k := w.heap.size) ⟨c0, c1, c2, c3, f0, f1, f2, f3, hz⟩ (.int .i64 r) (.int .i64 b) (.int .i64 L) (.int .i64 T'))
  have R5 := Lib.hid (R4.far4 (by omega : w.heap.size ≠ w.heap.size + 1) (.int .i64 r) (.int .i64 b) (.int .i64 L) (.int .i64 T'))
  have hB4 := Lib.hid (Cls.below_put4 hB3 (Nat.le_refl _) (.int .i64 r) (.int .i64 b) (.int .i64 L) (.int .i64 T'))
  clear R4 hB3
  dsimp only
  go_upto_region 5 with (fail)
  change Code.wp _ _ _ _ (Cls.put4 w3 w.heap.size (.int .i64 r) (.int .i64 b) (.int .i64 L) (.int .i64 T'))
  generalize Cls.put4 w3 w.heap.size (.int .i64 r) (.int .i64 b) (.int .i64 L) (.int .i64 T') = w4 at *
  clear c0 c1 c2 c3 f0 f1 f2 f3 hz
  obtain ⟨c0, c1, c2, c3, f0, f1, f2, f3, hz⟩ := H5.out
  have H6 := Lib.hid (((H5.out.set0 (.int .i64 rate)).set1 (.int .i64 burst)).set2 (.int .i64 (min L burst)))
  have R6 := Lib.hid (((R5.out.far (k' := w.heap.size) (i := 0) (by omega) (.int .i64 rate)).far (k' := w.heap.size) (i := 1) (by omega) (.int .i64 burst)).far (k' := w.heap.size) (i := 2) (by omega) (.int .i64 (min L burst)))
  have hB5 := Lib.hid (((hB4.out.setCell (p := ⟨w.heap.size, 0, none⟩) (Nat.le_refl _) (.int .i64 rate)).setCell (p := ⟨w.heap.size, 1, none⟩) (Nat.le_refl _) (.int .i64 burst)).setCell (p := ⟨w.heap.size, 2, none⟩) (Nat.le_refl _) (.int .i64 (min L burst)))
  clear H5 R5 hB4
  go_upto_region 6 with (fail)
  rw [show (if burst < L then burst else L) = min L burst by split <;> omega]
  generalize hM : min L burst = M at *
  have hM' := Lib.hid hM
  clear hM
  generalize ((w4.setCell ⟨w.heap.size, 0, none⟩ (.int .i64 rate)).setCell ⟨w.heap.size, 1, none⟩ (.int .i64 burst)).setCell ⟨w.heap.size, 2, none⟩ (.int .i64 M) = w5 at *
  clear c0 c1 c2 c3 f0 f1 f2 f3 hz
  obtain ⟨c0, c1, c2, c3, f0, f1, f2, f3, hz⟩ := H6.out
  obtain ⟨z0, z1, z2, z3, y0, y1, y2, y3, hy⟩ := R6.out
  clear H6 R6
  have hB6 := hB5.out
  go_wp2
  exact bodyPost_ret (v := .tuple #[.agg #[.int .i64 rate, .int .i64 burst, .int .i64 M, .int .i64 T'], .int .i64 0]) (by simp [results, Tryz.results112, go_sem, c0, c1, c2, c3, z0, z1, z2, z3, hy, hz]) rfl ⟨by rw [hL'.out, hT'.out, hM'.out], ((((hB6.setCell (p := ⟨w.heap.size + 1, 0, none⟩) (by show w.heap.size ≤ w.heap.size + 1; omega) _).setCell (p := ⟨w.heap.size + 1, 1, none⟩) (by show w.heap.size ≤ w.heap.size + 1; omega) _).setCell (p := ⟨w.heap.size + 1, 2, none⟩) (by show w.heap.size ≤ w.heap.size + 1; omega) _).setCell (p := ⟨w.heap.size + 1, 3, none⟩) (by show w.heap.size ≤ w.heap.size + 1; omega) _)⟩
end Go.Proofs.YtnkgjnmhiedfoaaGreat.Bucket
