/- The reference's buckets, the second half, and bucket.New. Conditions: the numbers are of their kinds. -/
import Derived.Test.YtdooeeklpinhfaaRef08
import Derived.Test.YtdooeeklpinhfaaBucketLaw
namespace Go.Proofs.Ytdooeeklpinhfaa.Ref08
open Go.RowKit Tick Bucket
set_option maxRecDepth 100000
set_option linter.unusedVariables false
set_option linter.unusedSimpArgs false

theorem take_no (r b l t now n : Int) (w : World) (h : okB r b l t = false) :
    Calls Try.prog 10 #[.agg #[.int .i64 r, .int .i64 b, .int .i64 l, .int .i64 t], .int .i64 now, .int .i64 n] w fun e w' => e = .returned (.tuple #[.agg #[.int .i64 r, .int .i64 b, .int .i64 (takeL r b l t now n), .int .i64 (takeT r b l t now n)], .int .i64 (takeK r b l t now n)]) ∧ Below w.heap.size w w' := by
  have e1 := Lib.hid (show takeL r b l t now n = l from if_neg (by rw [h]; decide))
  have e2 := Lib.hid (show takeT r b l t now n = t from if_neg (by rw [h]; decide))
  have e3 := Lib.hid (show takeK r b l t now n = 0 from if_neg (by rw [h]; decide))
  have hk := Lib.hid h
  clear h
  go_enter Try.func10, Try.ntmps10
  have hB0 := (((Below.refl w.heap.size w).alloc (Nat.le_refl _) (.cells #[.int .i64 r, .int .i64 b, .int .i64 l, .int .i64 t] 23)).alloc (by simp) (.cells #[.int .i64 0, .int .i64 0, .int .i64 0, .int .i64 0] 23))
  have hbx := Lib.hid ((Cls.Box4.new w (.int .i64 r) (.int .i64 b) (.int .i64 l) (.int .i64 t) 23).old (.cells #[.int .i64 0, .int .i64 0, .int .i64 0, .int .i64 0] 23))
  have hrs := Lib.hid (Cls.Box4.new (w.alloc (.cells #[.int .i64 r, .int .i64 b, .int .i64 l, .int .i64 t] 23)) (.int .i64 0) (.int .i64 0) (.int .i64 0) (.int .i64 0) 23)
  go_wp2_with fail
  refine (Ref08.right_any r b l t _).mono ?_
  rintro e w1 ⟨rfl, hb1⟩
  rw [hk.out]
  obtain ⟨c0, c1, c2, c3, f0, f1, f2, f3, hz⟩ := hbx.out.below hb1
  obtain ⟨z0, z1, z2, z3, y0, y1, y2, y3, hy⟩ := hrs.out.below hb1
  rw [World.size_alloc] at z0 z1 z2 z3 y0 y1 y2 y3 hy
  have hB1 := hB0.trans (hb1.mono (by simp; omega))
  clear hB0 hb1 hbx hrs
  go_wp2
  exact bodyPost_ret (v := .tuple #[.agg #[.int .i64 r, .int .i64 b, .int .i64 l, .int .i64 t], .int .i64 0]) (by simp [results, Try.results10, go_sem, c0, c1, c2, c3, z0, z1, z2, z3, hy]) rfl ⟨by rw [e1.out, e2.out, e3.out], ((((hB1.setCell (p := ⟨w.heap.size + 1, 0, none⟩) (by show w.heap.size ≤ w.heap.size + 1; omega) _).setCell (p := ⟨w.heap.size + 1, 1, none⟩) (by show w.heap.size ≤ w.heap.size + 1; omega) _).setCell (p := ⟨w.heap.size + 1, 2, none⟩) (by show w.heap.size ≤ w.heap.size + 1; omega) _).setCell (p := ⟨w.heap.size + 1, 3, none⟩) (by show w.heap.size ≤ w.heap.size + 1; omega) _)⟩

theorem take_neg (r b l t now n : Int) (w : World) (h : okB r b l t = true) (hn : n < 0) :
    Calls Try.prog 10 #[.agg #[.int .i64 r, .int .i64 b, .int .i64 l, .int .i64 t], .int .i64 now, .int .i64 n] w fun e w' => e = .returned (.tuple #[.agg #[.int .i64 r, .int .i64 b, .int .i64 (takeL r b l t now n), .int .i64 (takeT r b l t now n)], .int .i64 (takeK r b l t now n)]) ∧ Below w.heap.size w w' := by
  have hL := fillL_bd (now := now) h
  have o2 : b ≤ 1099511627776 := (of_decide_eq_true h).2.1.2
  have e1 := Lib.hid (show takeL r b l t now n = fillL r b l t now - takeK r b l t now n from if_pos h)
  have e2 := Lib.hid (show takeT r b l t now n = fillT r b l t now from if_pos h)
  have e3 := Lib.hid (show takeK r b l t now n = 0 from (if_pos h).trans (by rw [if_pos hn, if_neg (by omega)]))
  have hk := Lib.hid h
  clear h
  go_enter Try.func10, Try.ntmps10
  have hB0 := (((Below.refl w.heap.size w).alloc (Nat.le_refl _) (.cells #[.int .i64 r, .int .i64 b, .int .i64 l, .int .i64 t] 23)).alloc (by simp) (.cells #[.int .i64 0, .int .i64 0, .int .i64 0, .int .i64 0] 23))
  have hbx := Lib.hid ((Cls.Box4.new w (.int .i64 r) (.int .i64 b) (.int .i64 l) (.int .i64 t) 23).old (.cells #[.int .i64 0, .int .i64 0, .int .i64 0, .int .i64 0] 23))
  have hrs := Lib.hid (Cls.Box4.new (w.alloc (.cells #[.int .i64 r, .int .i64 b, .int .i64 l, .int .i64 t] 23)) (.int .i64 0) (.int .i64 0) (.int .i64 0) (.int .i64 0) 23)
  go_wp2_with fail
  refine (Ref08.right_any r b l t _).mono ?_
  rintro e w1 ⟨rfl, hb1⟩
  rw [hk.out]
  obtain ⟨c0, c1, c2, c3, f0, f1, f2, f3, hz⟩ := hbx.out.below hb1
  have hB1 := hB0.trans (hb1.mono (by simp; omega))
  go_wp2_with fail
  refine (Ref08.fill_any r b l t now _).mono ?_
  rintro e w2 ⟨rfl, hb2⟩
  have hb12 := hb1.trans (hb2.mono hb1.size)
  clear c0 c1 c2 c3 f0 f1 f2 f3 hz
  obtain ⟨c0, c1, c2, c3, f0, f1, f2, f3, hz⟩ := hbx.out.below hb12
  obtain ⟨z0, z1, z2, z3, y0, y1, y2, y3, hy⟩ := hrs.out.below hb12
  rw [World.size_alloc] at z0 z1 z2 z3 y0 y1 y2 y3 hy
  have hB2 := hB0.trans (hb12.mono (by simp; omega))
  clear hB0 hb1 hb2 hb12 hB1 hbx hrs
  generalize fillL r b l t now = L at *
  generalize fillT r b l t now = T' at *
  have H4 : Cls.Box4 w2 w.heap.size (.int .i64 r) (.int .i64 b) (.int .i64 l) (.int .i64 t) := ⟨c0, c1, c2, c3, f0, f1, f2, f3, hz⟩
  have R4 : Cls.Box4 w2 (w.heap.size + 1) (.int .i64 0) (.int .i64 0) (.int .i64 0) (.int .i64 0) := ⟨z0, z1, z2, z3, y0, y1, y2, y3, hy⟩
  have H5 := Lib.hid (((H4.put (.int .i64 r) (.int .i64 b) (.int .i64 L) (.int .i64 T'))).set2 (.int .i64 (L)))
  have R5 := Lib.hid ((R4.far4 (by omega : w.heap.size ≠ w.heap.size + 1) (.int .i64 r) (.int .i64 b) (.int .i64 L) (.int .i64 T')).far (k' := w.heap.size) (i := 2) (by omega) (.int .i64 (L)))
  have hB3 := (Cls.below_put4 hB2 (Nat.le_refl _) (.int .i64 r) (.int .i64 b) (.int .i64 L) (.int .i64 T')).setCell (p := ⟨w.heap.size, 2, none⟩) (Nat.le_refl _) (.int .i64 (L))
  clear H4 R4
  dsimp only
  go_upto_region 9 with (fail)
  change Code.wp _ _ _ _ ((Cls.put4 w2 w.heap.size (.int .i64 r) (.int .i64 b) (.int .i64 L) (.int .i64 T')).setCell ⟨w.heap.size, 2, none⟩ (.int .i64 (L)))
  generalize (Cls.put4 w2 w.heap.size (.int .i64 r) (.int .i64 b) (.int .i64 L) (.int .i64 T')).setCell ⟨w.heap.size, 2, none⟩ (.int .i64 (L)) = w3 at *
  clear c0 c1 c2 c3 f0 f1 f2 f3 hz z0 z1 z2 z3 y0 y1 y2 y3 hy hB2
  obtain ⟨c0, c1, c2, c3, f0, f1, f2, f3, hz⟩ := H5.out
  obtain ⟨z0, z1, z2, z3, y0, y1, y2, y3, hy⟩ := R5.out
  clear H5 R5
  go_wp2
  exact bodyPost_ret (v := .tuple #[.agg #[.int .i64 r, .int .i64 b, .int .i64 (L), .int .i64 T'], .int .i64 0]) (by simp [results, Try.results10, go_sem, c0, c1, c2, c3, z0, z1, z2, z3, hy, hz]) rfl ⟨by rw [e1.out, e2.out, e3.out]; simp, ((((hB3.setCell (p := ⟨w.heap.size + 1, 0, none⟩) (by show w.heap.size ≤ w.heap.size + 1; omega) _).setCell (p := ⟨w.heap.size + 1, 1, none⟩) (by show w.heap.size ≤ w.heap.size + 1; omega) _).setCell (p := ⟨w.heap.size + 1, 2, none⟩) (by show w.heap.size ≤ w.heap.size + 1; omega) _).setCell (p := ⟨w.heap.size + 1, 3, none⟩) (by show w.heap.size ≤ w.heap.size + 1; omega) _)⟩

theorem take_less (r b l t now n : Int) (w : World) (h : okB r b l t = true) (hn : 0 ≤ n) (hm : n ≤ fillL r b l t now) :
    Calls Try.prog 10 #[.agg #[.int .i64 r, .int .i64 b, .int .i64 l, .int .i64 t], .int .i64 now, .int .i64 n] w fun e w' => e = .returned (.tuple #[.agg #[.int .i64 r, .int .i64 b, .int .i64 (takeL r b l t now n), .int .i64 (takeT r b l t now n)], .int .i64 (takeK r b l t now n)]) ∧ Below w.heap.size w w' := by
  have hL := fillL_bd (now := now) h
  have o2 : b ≤ 1099511627776 := (of_decide_eq_true h).2.1.2
  have e1 := Lib.hid (show takeL r b l t now n = fillL r b l t now - takeK r b l t now n from if_pos h)
  have e2 := Lib.hid (show takeT r b l t now n = fillT r b l t now from if_pos h)
  have e3 := Lib.hid (show takeK r b l t now n = n from (if_pos h).trans (by rw [if_neg (by omega : ¬ n < 0), if_neg (by omega)]))
  have hk := Lib.hid h
  clear h
  go_enter Try.func10, Try.ntmps10
  have hB0 := (((Below.refl w.heap.size w).alloc (Nat.le_refl _) (.cells #[.int .i64 r, .int .i64 b, .int .i64 l, .int .i64 t] 23)).alloc (by simp) (.cells #[.int .i64 0, .int .i64 0, .int .i64 0, .int .i64 0] 23))
  have hbx := Lib.hid ((Cls.Box4.new w (.int .i64 r) (.int .i64 b) (.int .i64 l) (.int .i64 t) 23).old (.cells #[.int .i64 0, .int .i64 0, .int .i64 0, .int .i64 0] 23))
  have hrs := Lib.hid (Cls.Box4.new (w.alloc (.cells #[.int .i64 r, .int .i64 b, .int .i64 l, .int .i64 t] 23)) (.int .i64 0) (.int .i64 0) (.int .i64 0) (.int .i64 0) 23)
  go_wp2_with fail
  refine (Ref08.right_any r b l t _).mono ?_
  rintro e w1 ⟨rfl, hb1⟩
  rw [hk.out]
  obtain ⟨c0, c1, c2, c3, f0, f1, f2, f3, hz⟩ := hbx.out.below hb1
  have hB1 := hB0.trans (hb1.mono (by simp; omega))
  go_wp2_with fail
  refine (Ref08.fill_any r b l t now _).mono ?_
  rintro e w2 ⟨rfl, hb2⟩
  have hb12 := hb1.trans (hb2.mono hb1.size)
  clear c0 c1 c2 c3 f0 f1 f2 f3 hz
  obtain ⟨c0, c1, c2, c3, f0, f1, f2, f3, hz⟩ := hbx.out.below hb12
  obtain ⟨z0, z1, z2, z3, y0, y1, y2, y3, hy⟩ := hrs.out.below hb12
  rw [World.size_alloc] at z0 z1 z2 z3 y0 y1 y2 y3 hy
  have hB2 := hB0.trans (hb12.mono (by simp; omega))
  clear hB0 hb1 hb2 hb12 hB1 hbx hrs
  generalize fillL r b l t now = L at *
  generalize fillT r b l t now = T' at *
  have H4 : Cls.Box4 w2 w.heap.size (.int .i64 r) (.int .i64 b) (.int .i64 l) (.int .i64 t) := ⟨c0, c1, c2, c3, f0, f1, f2, f3, hz⟩
  have R4 : Cls.Box4 w2 (w.heap.size + 1) (.int .i64 0) (.int .i64 0) (.int .i64 0) (.int .i64 0) := ⟨z0, z1, z2, z3, y0, y1, y2, y3, hy⟩
  have H5 := Lib.hid (((H4.put (.int .i64 r) (.int .i64 b) (.int .i64 L) (.int .i64 T'))).set2 (.int .i64 (L - n)))
  have R5 := Lib.hid ((R4.far4 (by omega : w.heap.size ≠ w.heap.size + 1) (.int .i64 r) (.int .i64 b) (.int .i64 L) (.int .i64 T')).far (k' := w.heap.size) (i := 2) (by omega) (.int .i64 (L - n)))
  have hB3 := (Cls.below_put4 hB2 (Nat.le_refl _) (.int .i64 r) (.int .i64 b) (.int .i64 L) (.int .i64 T')).setCell (p := ⟨w.heap.size, 2, none⟩) (Nat.le_refl _) (.int .i64 (L - n))
  clear H4 R4
  dsimp only
  go_upto_region 9 with (fail)
  change Code.wp _ _ _ _ ((Cls.put4 w2 w.heap.size (.int .i64 r) (.int .i64 b) (.int .i64 L) (.int .i64 T')).setCell ⟨w.heap.size, 2, none⟩ (.int .i64 (L - n)))
  generalize (Cls.put4 w2 w.heap.size (.int .i64 r) (.int .i64 b) (.int .i64 L) (.int .i64 T')).setCell ⟨w.heap.size, 2, none⟩ (.int .i64 (L - n)) = w3 at *
  clear c0 c1 c2 c3 f0 f1 f2 f3 hz z0 z1 z2 z3 y0 y1 y2 y3 hy hB2
  obtain ⟨c0, c1, c2, c3, f0, f1, f2, f3, hz⟩ := H5.out
  obtain ⟨z0, z1, z2, z3, y0, y1, y2, y3, hy⟩ := R5.out
  clear H5 R5
  go_wp2
  exact bodyPost_ret (v := .tuple #[.agg #[.int .i64 r, .int .i64 b, .int .i64 (L - n), .int .i64 T'], .int .i64 n]) (by simp [results, Try.results10, go_sem, c0, c1, c2, c3, z0, z1, z2, z3, hy, hz]) rfl ⟨by rw [e1.out, e2.out, e3.out], ((((hB3.setCell (p := ⟨w.heap.size + 1, 0, none⟩) (by show w.heap.size ≤ w.heap.size + 1; omega) _).setCell (p := ⟨w.heap.size + 1, 1, none⟩) (by show w.heap.size ≤ w.heap.size + 1; omega) _).setCell (p := ⟨w.heap.size + 1, 2, none⟩) (by show w.heap.size ≤ w.heap.size + 1; omega) _).setCell (p := ⟨w.heap.size + 1, 3, none⟩) (by show w.heap.size ≤ w.heap.size + 1; omega) _)⟩

theorem take_most (r b l t now n : Int) (w : World) (h : okB r b l t = true) (hn : 0 ≤ n) (hm : fillL r b l t now < n) :
    Calls Try.prog 10 #[.agg #[.int .i64 r, .int .i64 b, .int .i64 l, .int .i64 t], .int .i64 now, .int .i64 n] w fun e w' => e = .returned (.tuple #[.agg #[.int .i64 r, .int .i64 b, .int .i64 (takeL r b l t now n), .int .i64 (takeT r b l t now n)], .int .i64 (takeK r b l t now n)]) ∧ Below w.heap.size w w' := by
  have hL := fillL_bd (now := now) h
  have o2 : b ≤ 1099511627776 := (of_decide_eq_true h).2.1.2
  have e1 := Lib.hid (show takeL r b l t now n = fillL r b l t now - takeK r b l t now n from if_pos h)
  have e2 := Lib.hid (show takeT r b l t now n = fillT r b l t now from if_pos h)
  have e3 := Lib.hid (show takeK r b l t now n = (fillL r b l t now) from (if_pos h).trans (by rw [if_neg (by omega : ¬ n < 0), if_pos hm]))
  have hk := Lib.hid h
  clear h
  go_enter Try.func10, Try.ntmps10
  have hB0 := (((Below.refl w.heap.size w).alloc (Nat.le_refl _) (.cells #[.int .i64 r, .int .i64 b, .int .i64 l, .int .i64 t] 23)).alloc (by simp) (.cells #[.int .i64 0, .int .i64 0, .int .i64 0, .int .i64 0] 23))
  have hbx := Lib.hid ((Cls.Box4.new w (.int .i64 r) (.int .i64 b) (.int .i64 l) (.int .i64 t) 23).old (.cells #[.int .i64 0, .int .i64 0, .int .i64 0, .int .i64 0] 23))
  have hrs := Lib.hid (Cls.Box4.new (w.alloc (.cells #[.int .i64 r, .int .i64 b, .int .i64 l, .int .i64 t] 23)) (.int .i64 0) (.int .i64 0) (.int .i64 0) (.int .i64 0) 23)
  go_wp2_with fail
  refine (Ref08.right_any r b l t _).mono ?_
  rintro e w1 ⟨rfl, hb1⟩
  rw [hk.out]
  obtain ⟨c0, c1, c2, c3, f0, f1, f2, f3, hz⟩ := hbx.out.below hb1
  have hB1 := hB0.trans (hb1.mono (by simp; omega))
  go_wp2_with fail
  refine (Ref08.fill_any r b l t now _).mono ?_
  rintro e w2 ⟨rfl, hb2⟩
  have hb12 := hb1.trans (hb2.mono hb1.size)
  clear c0 c1 c2 c3 f0 f1 f2 f3 hz
  obtain ⟨c0, c1, c2, c3, f0, f1, f2, f3, hz⟩ := hbx.out.below hb12
  obtain ⟨z0, z1, z2, z3, y0, y1, y2, y3, hy⟩ := hrs.out.below hb12
  rw [World.size_alloc] at z0 z1 z2 z3 y0 y1 y2 y3 hy
  have hB2 := hB0.trans (hb12.mono (by simp; omega))
  clear hB0 hb1 hb2 hb12 hB1 hbx hrs
  generalize fillL r b l t now = L at *
  generalize fillT r b l t now = T' at *
  have H4 : Cls.Box4 w2 w.heap.size (.int .i64 r) (.int .i64 b) (.int .i64 l) (.int .i64 t) := ⟨c0, c1, c2, c3, f0, f1, f2, f3, hz⟩
  have R4 : Cls.Box4 w2 (w.heap.size + 1) (.int .i64 0) (.int .i64 0) (.int .i64 0) (.int .i64 0) := ⟨z0, z1, z2, z3, y0, y1, y2, y3, hy⟩
  have H5 := Lib.hid (((H4.put (.int .i64 r) (.int .i64 b) (.int .i64 L) (.int .i64 T'))).set2 (.int .i64 (0)))
  have R5 := Lib.hid ((R4.far4 (by omega : w.heap.size ≠ w.heap.size + 1) (.int .i64 r) (.int .i64 b) (.int .i64 L) (.int .i64 T')).far (k' := w.heap.size) (i := 2) (by omega) (.int .i64 (0)))
  have hB3 := (Cls.below_put4 hB2 (Nat.le_refl _) (.int .i64 r) (.int .i64 b) (.int .i64 L) (.int .i64 T')).setCell (p := ⟨w.heap.size, 2, none⟩) (Nat.le_refl _) (.int .i64 (0))
  clear H4 R4
  dsimp only
  go_upto_region 9 with (fail)
  change Code.wp _ _ _ _ ((Cls.put4 w2 w.heap.size (.int .i64 r) (.int .i64 b) (.int .i64 L) (.int .i64 T')).setCell ⟨w.heap.size, 2, none⟩ (.int .i64 (0)))
  generalize (Cls.put4 w2 w.heap.size (.int .i64 r) (.int .i64 b) (.int .i64 L) (.int .i64 T')).setCell ⟨w.heap.size, 2, none⟩ (.int .i64 (0)) = w3 at *
  clear c0 c1 c2 c3 f0 f1 f2 f3 hz z0 z1 z2 z3 y0 y1 y2 y3 hy hB2
  obtain ⟨c0, c1, c2, c3, f0, f1, f2, f3, hz⟩ := H5.out
  obtain ⟨z0, z1, z2, z3, y0, y1, y2, y3, hy⟩ := R5.out
  clear H5 R5
  go_wp2
  exact bodyPost_ret (v := .tuple #[.agg #[.int .i64 r, .int .i64 b, .int .i64 (0), .int .i64 T'], .int .i64 (L)]) (by simp [results, Try.results10, go_sem, c0, c1, c2, c3, z0, z1, z2, z3, hy, hz]) rfl ⟨by rw [e1.out, e2.out, e3.out]; simp, ((((hB3.setCell (p := ⟨w.heap.size + 1, 0, none⟩) (by show w.heap.size ≤ w.heap.size + 1; omega) _).setCell (p := ⟨w.heap.size + 1, 1, none⟩) (by show w.heap.size ≤ w.heap.size + 1; omega) _).setCell (p := ⟨w.heap.size + 1, 2, none⟩) (by show w.heap.size ≤ w.heap.size + 1; omega) _).setCell (p := ⟨w.heap.size + 1, 3, none⟩) (by show w.heap.size ≤ w.heap.size + 1; omega) _)⟩


theorem take_any (r b l t now n : Int) (w : World) :
    Calls Try.prog 10 #[.agg #[.int .i64 r, .int .i64 b, .int .i64 l, .int .i64 t], .int .i64 now, .int .i64 n] w fun e w' => e = .returned (.tuple #[.agg #[.int .i64 r, .int .i64 b, .int .i64 (takeL r b l t now n), .int .i64 (takeT r b l t now n)], .int .i64 (takeK r b l t now n)]) ∧ Below w.heap.size w w' := by
  cases h : okB r b l t with
  | false => exact take_no r b l t now n w h
  | true =>
    by_cases hn : n < 0
    · exact take_neg r b l t now n w h hn
    · by_cases hm : n ≤ fillL r b l t now
      · exact take_less r b l t now n w h (by omega) hm
      · exact take_most r b l t now n w h (by omega) (by omega)



theorem most_no (r b l t n : Int) (w : World) (h : okB r b l t = false) :
    Calls Try.prog 19 #[.agg #[.int .i64 r, .int .i64 b, .int .i64 l, .int .i64 t], .int .i64 n] w fun e w' => e = .returned (.int .i64 (mostN r b l t n)) ∧ Below w.heap.size w w' := by
  have e1 := Lib.hid (show mostN r b l t n = 0 from if_neg (by rw [h]; decide))
  have hk := Lib.hid h
  clear h
  go_enter Try.func19, Try.ntmps19
  have hB0 := (Below.refl w.heap.size w).alloc (Nat.le_refl _) (.cells #[.int .i64 r, .int .i64 b, .int .i64 l, .int .i64 t] 23)
  have hbx := Lib.hid (Cls.Box4.new w (.int .i64 r) (.int .i64 b) (.int .i64 l) (.int .i64 t) 23)
  go_wp2_with fail
  refine (Ref08.right_any r b l t _).mono ?_
  rintro e w1 ⟨rfl, hb1⟩
  rw [hk.out]
  obtain ⟨c0, c1, c2, c3, f0, f1, f2, f3, hz⟩ := hbx.out.below hb1
  have hB1 := hB0.trans (hb1.mono (by simp))
  clear hB0 hb1 hbx f0 f1 f2 f3
  go_wp2
  go_ret
  exact ⟨by rw [e1.out]; rfl, hB1⟩
theorem most_yes (r b l t n : Int) (w : World) (h : okB r b l t = true) :
    Calls Try.prog 19 #[.agg #[.int .i64 r, .int .i64 b, .int .i64 l, .int .i64 t], .int .i64 n] w fun e w' => e = .returned (.int .i64 (mostN r b l t n)) ∧ Below w.heap.size w w' := by
  have e1 := Lib.hid (show mostN r b l t n = add b (mul r n) from if_pos h)
  have hk := Lib.hid h
  clear h
  go_enter Try.func19, Try.ntmps19
  have hB0 := (Below.refl w.heap.size w).alloc (Nat.le_refl _) (.cells #[.int .i64 r, .int .i64 b, .int .i64 l, .int .i64 t] 23)
  have hbx := Lib.hid (Cls.Box4.new w (.int .i64 r) (.int .i64 b) (.int .i64 l) (.int .i64 t) 23)
  go_wp2_with fail
  refine (Ref08.right_any r b l t _).mono ?_
  rintro e w1 ⟨rfl, hb1⟩
  rw [hk.out]
  obtain ⟨c0, c1, c2, c3, f0, f1, f2, f3, hz⟩ := hbx.out.below hb1
  have hB1 := hB0.trans (hb1.mono (by simp))
  clear hB0 hb1 hbx f0 f1 f2 f3
  go_wp2
  refine Cls.region (fun w' => Below w1.heap.size w1 w') (by kernel_rfl) (by kernel_rfl) (Below.refl _ _).drew ?_
  refine Cls.value ?_ rfl (fun w' hw' => ?_) ?_
  rotate_left
  · go_simp; rfl
  refine Cls.value ?_ rfl (fun w' hw' => ?_) ?_
  rotate_left
  · have q := (hw'.cell (p := ⟨w.heap.size, 1, none⟩) hz).trans c1
    go_simp; rfl
  refine Cls.value ?_ rfl (fun w' hw' => ?_) ?_
  rotate_left
  · go_simp; rfl
  refine Cls.value ?_ rfl (fun w' hw' => ?_) ?_
  rotate_left
  · have q := (hw'.cell (p := ⟨w.heap.size, 0, none⟩) hz).trans c0
    go_simp; rfl
  refine Cls.value ?_ rfl (fun w' hw' => ?_) ?_
  rotate_left
  · go_simp; rfl
  refine Cls.call 22 #[.int .i64 r, .int .i64 n] (.int .i64 (mul r n)) rfl (fun w' => ?_) (fun w' hw' => (Ref01.mul_any _ _ w').mono ?_) ?_
  · go_simp
  · rintro e w'' ⟨rfl, hb⟩; exact ⟨rfl, hw'.trans (hb.mono hw'.size)⟩
  refine Cls.call 21 #[.int .i64 b, .int .i64 (mul r n)] (.int .i64 (add b (mul r n))) rfl (fun w' => ?_) (fun w' hw' => (Ref01.add_any _ _ w').mono ?_) ?_
  · go_simp
  · rintro e w'' ⟨rfl, rfl⟩; exact ⟨rfl, hw'⟩
  refine Cls.value ?_ rfl (fun w' hw' => ?_) ?_
  rotate_left
  · go_simp; rfl
  refine Cls.done (fun w' hw' => ?_)
  simp only [Act.put, List.setIfInBounds_toArray, List.set_cons_zero, List.set_cons_succ]
  go_wp2
  go_ret
  exact ⟨by rw [e1.out]; rfl, hB1.trans (hw'.mono hB1.size)⟩
theorem most_any (r b l t n : Int) (w : World) :
    Calls Try.prog 19 #[.agg #[.int .i64 r, .int .i64 b, .int .i64 l, .int .i64 t], .int .i64 n] w fun e w' => e = .returned (.int .i64 (mostN r b l t n)) ∧ Below w.heap.size w w' := by
  cases h : okB r b l t with
  | false => exact most_no r b l t n w h
  | true => exact most_yes r b l t n w h




theorem when_bad (r b l t n : Int) (w : World) (h : okB r b l t = false) :
    Calls Try.prog 12 #[.agg #[.int .i64 r, .int .i64 b, .int .i64 l, .int .i64 t], .int .i64 n] w fun e w' => e = .returned (.tuple #[.int .i64 (whenT r b l t n), .bool (whenB r b l t n)]) ∧ Below w.heap.size w w' := by
  have e2 := Lib.hid (show whenB r b l t n = false by unfold whenB; rw [h]; rfl)
  have e1 := Lib.hid (show whenT r b l t n = 0 from if_neg (by rw [e2.out]; decide))
  have hk := Lib.hid h
  clear h
  go_enter Try.func12, Try.ntmps12
  have hB0 := (Below.refl w.heap.size w).alloc (Nat.le_refl _) (.cells #[.int .i64 r, .int .i64 b, .int .i64 l, .int .i64 t] 23)
  have hbx := Lib.hid (Cls.Box4.new w (.int .i64 r) (.int .i64 b) (.int .i64 l) (.int .i64 t) 23)
  go_wp2_with fail
  refine (Ref01.top_any _).mono ?_
  rintro e w' ⟨rfl, rfl⟩
  go_wp2_with fail
  refine (Ref08.right_any r b l t _).mono ?_
  rintro e w1 ⟨rfl, hb1⟩
  rw [hk.out]
  obtain ⟨c0, c1, c2, c3, f0, f1, f2, f3, hz⟩ := hbx.out.below hb1
  have hB1 := hB0.trans (hb1.mono (by simp))
  clear hB0 hb1 hbx f0 f1 f2 f3
  go_wp2
  go_ret2
  exact ⟨by rw [e1.out, e2.out]; rfl, hB1⟩

theorem when_never (r b l t n : Int) (w : World) (h : okB r b l t = true) (hn : fillL r b l t 1099511627776 < n) :
    Calls Try.prog 12 #[.agg #[.int .i64 r, .int .i64 b, .int .i64 l, .int .i64 t], .int .i64 n] w fun e w' => e = .returned (.tuple #[.int .i64 (whenT r b l t n), .bool (whenB r b l t n)]) ∧ Below w.heap.size w w' := by
  have e2 := Lib.hid (show whenB r b l t n = false by rw [whenB_top h]; exact decide_eq_false (by omega))
  have e1 := Lib.hid (show whenT r b l t n = 0 from if_neg (by rw [e2.out]; decide))
  have hk := Lib.hid h
  clear h
  go_enter Try.func12, Try.ntmps12
  have hB0 := (Below.refl w.heap.size w).alloc (Nat.le_refl _) (.cells #[.int .i64 r, .int .i64 b, .int .i64 l, .int .i64 t] 23)
  have hbx := Lib.hid (Cls.Box4.new w (.int .i64 r) (.int .i64 b) (.int .i64 l) (.int .i64 t) 23)
  go_wp2_with fail
  refine (Ref01.top_any _).mono ?_
  rintro e w' ⟨rfl, rfl⟩
  go_wp2_with fail
  refine (Ref08.right_any r b l t _).mono ?_
  rintro e w1 ⟨rfl, hb1⟩
  rw [hk.out]
  obtain ⟨c0, c1, c2, c3, f0, f1, f2, f3, hz⟩ := hbx.out.below hb1
  have hB1 := hB0.trans (hb1.mono (by simp))
  clear f0 f1 f2 f3
  have fld : ∀ (x y z u : Int) (W : World), (Instr.field 23 (.agg #[.int .i64 x, .int .i64 y, .int .i64 z, .int .i64 u]) 2).run Try.prog W = .ok (.int .i64 z) W := fun _ _ _ _ _ => by kernel_rfl
  go_wp2_with fail
  refine (fill_any r b l t 1099511627776 _).mono ?_
  rintro e w2 ⟨rfl, hb2⟩
  generalize fillL r b l t 1099511627776 = L at *
  have hB2 := hB1.trans (hb2.mono hB1.size)
  clear hB0 hb1 hbx hb2 c0 c1 c2 c3 hz hB1
  go_wp2
  go_ret2
  exact ⟨by rw [e1.out, e2.out]; rfl, hB2⟩

theorem when_some (r b l t n : Int) (w : World) (h : okB r b l t = true) (hn : n ≤ fillL r b l t 1099511627776) :
    Calls Try.prog 12 #[.agg #[.int .i64 r, .int .i64 b, .int .i64 l, .int .i64 t], .int .i64 n] w fun e w' => e = .returned (.tuple #[.int .i64 (whenT r b l t n), .bool (whenB r b l t n)]) ∧ Below w.heap.size w w' := by
  have e2 := Lib.hid (show whenB r b l t n = true by rw [whenB_top h]; exact decide_eq_true (by omega))
  have hbd := whenT_bd h e2.out
  have hleast := Lib.hid (fun m => whenT_least (m := m) h e2.out)
  obtain ⟨o1, o2, o3, o4, o5, o6⟩ := of_decide_eq_true h
  have hk := Lib.hid h
  clear h
  go_enter Try.func12, Try.ntmps12
  have hB0 := (Below.refl w.heap.size w).alloc (Nat.le_refl _) (.cells #[.int .i64 r, .int .i64 b, .int .i64 l, .int .i64 t] 23)
  have hbx := Lib.hid (Cls.Box4.new w (.int .i64 r) (.int .i64 b) (.int .i64 l) (.int .i64 t) 23)
  go_wp2_with fail
  refine (Ref01.top_any _).mono ?_
  rintro e w' ⟨rfl, rfl⟩
  go_wp2_with fail
  refine (Ref08.right_any r b l t _).mono ?_
  rintro e w1 ⟨rfl, hb1⟩
  rw [hk.out]
  obtain ⟨c0, c1, c2, c3, f0, f1, f2, f3, hz⟩ := hbx.out.below hb1
  have hB1 := hB0.trans (hb1.mono (by simp))
  clear f0 f1 f2 f3
  have fld : ∀ (x y z u : Int) (W : World), (Instr.field 23 (.agg #[.int .i64 x, .int .i64 y, .int .i64 z, .int .i64 u]) 2).run Try.prog W = .ok (.int .i64 z) W := fun _ _ _ _ _ => by kernel_rfl
  go_wp2_with fail
  refine (fill_any r b l t 1099511627776 _).mono ?_
  rintro e w2 ⟨rfl, hb2⟩
  have hn' := Lib.hid hn
  generalize fillL r b l t 1099511627776 = L at *
  have hb12 := hb1.trans (hb2.mono hb1.size)
  have hB2 := hB1.trans (hb2.mono hB1.size)
  have hbx2 := Lib.hid (hbx.out.below hb12)
  have C3 := hbx2.out.2.2.2.1
  clear hB0 hb1 hbx hb2 c0 c1 c2 c3 hz hB1 hb12
  generalize hW : whenT r b l t n = W at *
  have hW' := Lib.hid hW
  clear hW
  go_wp2
  go_loopw [7, 8, 9] (fun lo hi _ wr => ∃ x y : Int, lo = .int .i64 x ∧ hi = .int .i64 y ∧ t ≤ x ∧ x ≤ W ∧ W ≤ y ∧ y ≤ 1099511627776 ∧ Hid (Cls.Box4 wr w.heap.size (.int .i64 r) (.int .i64 b) (.int .i64 l) (.int .i64 t)) ∧ Below w.heap.size w wr) (fun lo hi _ _ => (intOf hi - intOf lo).toNat)
  case atStart => exact ⟨t, 1099511627776, rfl, rfl, by omega, hbd.1, hbd.2, by omega, hbx2, hB2⟩
  case round =>
    clear hbx2 C3 hB2
    obtain ⟨x, y, rfl, rfl, hx1, hx2, hy1, hy2, hbx, hB⟩ := hrel
    by_cases hlt : x < y
    · obtain ⟨c0, c1, c2, c3, f0, f1, f2, f3, hz⟩ := hbx.out
      clear f0 f1 f2 f3
      have hmid : t ≤ x + (y - x) / 2 ∧ x + (y - x) / 2 ≤ 1099511627776 := by omega
      have hl := hleast.out (x + (y - x) / 2) hmid.1 hmid.2
      have hm1 : x ≤ x + (y - x) / 2 := by omega
      have hm2 : x + (y - x) / 2 < y := by omega
      have hq0 : 0 ≤ (y - x) / 2 := by omega
      have hl' := Lib.hid hl
      clear hl
      go_wp2_with fail
      refine (fill_any r b l t (x + (y - x) / 2) _).mono ?_
      rintro e w3 ⟨rfl, hb3⟩
      generalize hM : x + (y - x) / 2 = M at *
      clear hM
      generalize fillL r b l t M = L2 at *
      have hbx3 := Lib.hid (hbx.out.below hb3)
      have hB3 := hB.trans (hb3.mono hB.size)
      clear c0 c1 c2 c3 hz hb3 hB hbx
      by_cases hc : n ≤ L2
      · have hW1 := hl'.out.1 hc
        clear hl'
        go_wp2
        go_roundw
        case rel => exact ⟨x, M, rfl, rfl, hx1, hx2, hW1, by omega, hbx3, hB3⟩
        case measure => simp [intOf]; omega
      · have hW1 : M < W := by
          rcases Int.lt_or_le M W with h | h
          · exact h
          · exact absurd (hl'.out.2 h) hc
        clear hl'
        have hc' : L2 < n := by omega
        clear hc
        go_wp2
        go_roundw
        case rel => exact ⟨M + 1, y, rfl, rfl, by omega, by omega, hy1, hy2, hbx3, hB3⟩
        case measure => simp [intOf]; omega
    · obtain rfl : x = W := by omega
      go_wp2
      go_ret2
      exact ⟨by rw [hW'.out, e2.out]; rfl, hB⟩

theorem when_any (r b l t n : Int) (w : World) :
    Calls Try.prog 12 #[.agg #[.int .i64 r, .int .i64 b, .int .i64 l, .int .i64 t], .int .i64 n] w fun e w' => e = .returned (.tuple #[.int .i64 (whenT r b l t n), .bool (whenB r b l t n)]) ∧ Below w.heap.size w w' := by
  cases h : okB r b l t with
  | false => exact when_bad r b l t n w h
  | true =>
    by_cases h1 : n ≤ fillL r b l t 1099511627776
    · exact when_some r b l t n w h h1
    · exact when_never r b l t n w h (by omega)

end Go.Proofs.Ytdooeeklpinhfaa.Ref08
