/- The program's buckets, the second half: Take, When, Most, New. Conditions: the numbers are of their kinds. -/
import Derived.Test.YtehpliclknfmoaaGreatC7
import Derived.Deep.DeepCutAuto
import Derived.Deep.CutBlock
import Derived.Test.YtehpliclknfmoaaGreatC6
namespace Go.Proofs.YtehpliclknfmoaaGreat.Bucket
open Go.RowKit Tick
set_option maxRecDepth 100000
set_option linter.unusedVariables false
set_option linter.unusedSimpArgs false

theorem fillL_bd {r b l t now : Int} (h : okB r b l t = true) : 0 ≤ fillL r b l t now ∧ fillL r b l t now ≤ b ∧ l ≤ fillL r b l t now := by
  obtain ⟨o1, o2, o3, o4, o5, o6⟩ := of_decide_eq_true h
  unfold fillL
  split
  · rename_i hc
    have h1 := nr_bd (nr l + nr (mul r (nr now - t)))
    have h2 : nr l = l := nr_in o3.1 o3.2
    have h3 := nr_bd (mul r (nr now - t))
    have h4 : l ≤ add l (mul r (nr now - t)) := by
      unfold add
      rw [h2]
      by_cases hq : 1099511627776 < l + nr (mul r (nr now - t))
      · rw [nr_top hq]; omega
      · rw [nr_in (by omega) (by omega)]; omega
    have h5 : 0 ≤ add l (mul r (nr now - t)) := h1.1
    split <;> omega
  · omega
theorem fillT_bd {r b l t now : Int} (h : okB r b l t = true) : t ≤ fillT r b l t now ∧ 0 ≤ fillT r b l t now ∧ fillT r b l t now ≤ 1099511627776 := by
  obtain ⟨o1, o2, o3, o4, o5, o6⟩ := of_decide_eq_true h
  have := nr_bd now
  unfold fillT
  split <;> omega
theorem fill_ok {r b l t now : Int} (h : okB r b l t = true) : okB r b (fillL r b l t now) (fillT r b l t now) = true := by
  have h1 := fillL_bd (now := now) h
  have h2 := fillT_bd (now := now) h
  obtain ⟨o1, o2, o3, o4, o5, o6⟩ := of_decide_eq_true h
  exact decide_eq_true ⟨o1, o2, by omega, by omega, o5, by omega⟩

def takeK (r b l t now n : Int) : Int := if okB r b l t = true then (if fillL r b l t now < (if n < 0 then 0 else n) then fillL r b l t now else (if n < 0 then 0 else n)) else 0
def takeL (r b l t now n : Int) : Int := if okB r b l t = true then fillL r b l t now - takeK r b l t now n else l
def takeT (r b l t now n : Int) : Int := if okB r b l t = true then fillT r b l t now else t
theorem takeK_bd {r b l t now n : Int} (h : okB r b l t = true) : 0 ≤ takeK r b l t now n ∧ takeK r b l t now n ≤ fillL r b l t now := by
  have := fillL_bd (now := now) h
  unfold takeK
  rw [if_pos h]
  split <;> split <;> omega

theorem take_no (r b l t now n : Int) (w : World) (h : okB r b l t = false) :
    Calls Tryz.prog 88 #[.agg #[.int .i64 r, .int .i64 b, .int .i64 l, .int .i64 t], .int .i64 now, .int .i64 n] w fun e w' => e = .returned (.tuple #[.agg #[.int .i64 r, .int .i64 b, .int .i64 (takeL r b l t now n), .int .i64 (takeT r b l t now n)], .int .i64 (takeK r b l t now n)]) ∧ Below w.heap.size w w' := by
  have e1 := Lib.hid (show takeL r b l t now n = l from if_neg (by rw [h]; decide))
  have e2 := Lib.hid (show takeT r b l t now n = t from if_neg (by rw [h]; decide))
  have e3 := Lib.hid (show takeK r b l t now n = 0 from if_neg (by rw [h]; decide))
  have hk := Lib.hid h
  clear h
  go_enter Tryz.func88, Tryz.ntmps88
  have hB0 := (((Below.refl w.heap.size w).alloc (Nat.le_refl _) (.cells #[.int .i64 r, .int .i64 b, .int .i64 l, .int .i64 t] 57)).alloc (by simp) (.cells #[.int .i64 0, .int .i64 0, .int .i64 0, .int .i64 0] 57))
  have hbx := Lib.hid ((Cls.Box4.new w (.int .i64 r) (.int .i64 b) (.int .i64 l) (.int .i64 t) 57).old (.cells #[.int .i64 0, .int .i64 0, .int .i64 0, .int .i64 0] 57))
  have hrs := Lib.hid (Cls.Box4.new (w.alloc (.cells #[.int .i64 r, .int .i64 b, .int .i64 l, .int .i64 t] 57)) (.int .i64 0) (.int .i64 0) (.int .i64 0) (.int .i64 0) 57)
  go_wp2_with fail
  refine (right_any r b l t _).mono ?_
  rintro e w1 ⟨rfl, hb1⟩
  rw [hk.out]
  obtain ⟨c0, c1, c2, c3, f0, f1, f2, f3, hz⟩ := hbx.out.below hb1
  obtain ⟨z0, z1, z2, z3, y0, y1, y2, y3, hy⟩ := hrs.out.below hb1
  rw [World.size_alloc] at z0 z1 z2 z3 y0 y1 y2 y3 hy
  have hB1 := hB0.trans (hb1.mono (by simp; omega))
  clear hB0 hb1 hbx hrs
  go_wp2
  exact bodyPost_ret (v := .tuple #[.agg #[.int .i64 r, .int .i64 b, .int .i64 l, .int .i64 t], .int .i64 0]) (by simp [results, Tryz.results88, go_sem, c0, c1, c2, c3, z0, z1, z2, z3, hy]) rfl ⟨by rw [e1.out, e2.out, e3.out], ((((hB1.setCell (p := ⟨w.heap.size + 1, 0, none⟩) (by show w.heap.size ≤ w.heap.size + 1; omega) _).setCell (p := ⟨w.heap.size + 1, 1, none⟩) (by show w.heap.size ≤ w.heap.size + 1; omega) _).setCell (p := ⟨w.heap.size + 1, 2, none⟩) (by show w.heap.size ≤ w.heap.size + 1; omega) _).setCell (p := ⟨w.heap.size + 1, 3, none⟩) (by show w.heap.size ≤ w.heap.size + 1; omega) _)⟩

theorem take_neg (r b l t now n : Int) (w : World) (h : okB r b l t = true) (hn : n < 0) :
    Calls Tryz.prog 88 #[.agg #[.int .i64 r, .int .i64 b, .int .i64 l, .int .i64 t], .int .i64 now, .int .i64 n] w fun e w' => e = .returned (.tuple #[.agg #[.int .i64 r, .int .i64 b, .int .i64 (takeL r b l t now n), .int .i64 (takeT r b l t now n)], .int .i64 (takeK r b l t now n)]) ∧ Below w.heap.size w w' := by
  have hL := fillL_bd (now := now) h
  have o2 : b ≤ 1099511627776 := (of_decide_eq_true h).2.1.2
  have e1 := Lib.hid (show takeL r b l t now n = fillL r b l t now - takeK r b l t now n from if_pos h)
  have e2 := Lib.hid (show takeT r b l t now n = fillT r b l t now from if_pos h)
  have e3 := Lib.hid (show takeK r b l t now n = 0 from (if_pos h).trans (by rw [if_pos hn, if_neg (by omega)]))
  have hk := Lib.hid h
  clear h
  go_enter Tryz.func88, Tryz.ntmps88
  have hB0 := (((Below.refl w.heap.size w).alloc (Nat.le_refl _) (.cells #[.int .i64 r, .int .i64 b, .int .i64 l, .int .i64 t] 57)).alloc (by simp) (.cells #[.int .i64 0, .int .i64 0, .int .i64 0, .int .i64 0] 57))
  have hbx := Lib.hid ((Cls.Box4.new w (.int .i64 r) (.int .i64 b) (.int .i64 l) (.int .i64 t) 57).old (.cells #[.int .i64 0, .int .i64 0, .int .i64 0, .int .i64 0] 57))
  have hrs := Lib.hid (Cls.Box4.new (w.alloc (.cells #[.int .i64 r, .int .i64 b, .int .i64 l, .int .i64 t] 57)) (.int .i64 0) (.int .i64 0) (.int .i64 0) (.int .i64 0) 57)
  go_wp2_with fail
  refine (right_any r b l t _).mono ?_
  rintro e w1 ⟨rfl, hb1⟩
  rw [hk.out]
  obtain ⟨c0, c1, c2, c3, f0, f1, f2, f3, hz⟩ := hbx.out.below hb1
  have hB1 := hB0.trans (hb1.mono (by simp; omega))
  go_wp2_with fail
  refine (fill_any r b l t now _).mono ?_
  rintro e w2 ⟨rfl, hb2⟩
  have hb12 := hb1.trans (hb2.mono hb1.size)
  clear c0 c1 c2 c3 f0 f1 f2 f3 hz
  obtain ⟨c0, c1, c2, c3, f0, f1, f2, f3, hz⟩ := hbx.out.below hb12
  obtain ⟨z0, z1, z2, z3, y0, y1, y2, y3, hy⟩ := hrs.out.below hb12
  rw [World.size_alloc] at z0 z1 z2 z3 y0 y1 y2 y3 hy
  have hB2 := hB0.trans (hb12.mono (by simp; omega))
  clear hB0 hb1 hb2 hb12 hB1 hbx hrs
  generalize fillL r b l t now = L at *
  generalize fillT r b l t now = T' at *
  have H4 : Cls.Box4 w2 w.heap.size (.int .i64 r) (.int .i64 b) (.int .i64 l) (.int .i64 t) := ⟨c0, c1, c2, c3, f0, f1, f2, f3, hz⟩
  have R4 : Cls.Box4 w2 (w.heap.size + 1) (.int .i64 0) (.int .i64 0) (.int .i64 0) (.int .i64 0) := ⟨z0, z1, z2, z3, y0, y1, y2, y3, hy⟩
  have H5 := Lib.hid (((H4.put (.int .i64 r) (.int .i64 b) (.int .i64 L) (.int .i64 T'))).set2 (.int .i64 (L)))
  have R5 := Lib.hid ((R4.far4 (by omega : w.heap.size ≠ w.heap.size + 1) (.int .i64 r) (.int .i64 b) (.int .i64 L) (.int .i64 T')).far (k' := w.heap.size) (i := 2) (by omega) (.int .i64 (L)))
  have hB3 := (Cls.below_put4 hB2 (Nat.le_refl _) (.int .i64 r) (.int .i64 b) (.int .i64 L) (.int .i64 T')).setCell (p := ⟨w.heap.size, 2, none⟩) (Nat.le_refl _) (.int .i64 (L))
  clear H4 R4
  dsimp only
  go_upto_region 6 with (fail)
  change Code.wp _ _ _ _ ((Cls.put4 w2 w.heap.size (.int .i64 r) (.int .i64 b) (.int .i64 L) (.int .i64 T')).setCell ⟨w.heap.size, 2, none⟩ (.int .i64 (L)))
  generalize (Cls.put4 w2 w.heap.size (.int .i64 r) (.int .i64 b) (.int .i64 L) (.int .i64 T')).setCell ⟨w.heap.size, 2, none⟩ (.int .i64 (L)) = w3 at *
  clear c0 c1 c2 c3 f0 f1 f2 f3 hz z0 z1 z2 z3 y0 y1 y2 y3 hy hB2
  obtain ⟨c0, c1, c2, c3, f0, f1, f2, f3, hz⟩ := H5.out
  obtain ⟨z0, z1, z2, z3, y0, y1, y2, y3, hy⟩ := R5.out
  clear H5 R5
  go_wp2
  exact bodyPost_ret (v := .tuple #[.agg #[.int .i64 r, .int .i64 b, .int .i64 (L), .int .i64 T'], .int .i64 0]) (by simp [results, Tryz.results88, go_sem, c0, c1, c2, c3, z0, z1, z2, z3, hy, hz]) rfl ⟨by rw [e1.out, e2.out, e3.out]; simp, ((((hB3.setCell (p := ⟨w.heap.size + 1, 0, none⟩) (by show w.heap.size ≤ w.heap.size + 1; omega) _).setCell (p := ⟨w.heap.size + 1, 1, none⟩) (by show w.heap.size ≤ w.heap.size + 1; omega) _).setCell (p := ⟨w.heap.size + 1, 2, none⟩) (by show w.heap.size ≤ w.heap.size + 1; omega) _).setCell (p := ⟨w.heap.size + 1, 3, none⟩) (by show w.heap.size ≤ w.heap.size + 1; omega) _)⟩

theorem take_less (r b l t now n : Int) (w : World) (h : okB r b l t = true) (hn : 0 ≤ n) (hm : n ≤ fillL r b l t now) :
    Calls Tryz.prog 88 #[.agg #[.int .i64 r, .int .i64 b, .int .i64 l, .int .i64 t], .int .i64 now, .int .i64 n] w fun e w' => e = .returned (.tuple #[.agg #[.int .i64 r, .int .i64 b, .int .i64 (takeL r b l t now n), .int .i64 (takeT r b l t now n)], .int .i64 (takeK r b l t now n)]) ∧ Below w.heap.size w w' := by
  have hL := fillL_bd (now := now) h
  have o2 : b ≤ 1099511627776 := (of_decide_eq_true h).2.1.2
  have e1 := Lib.hid (show takeL r b l t now n = fillL r b l t now - takeK r b l t now n from if_pos h)
  have e2 := Lib.hid (show takeT r b l t now n = fillT r b l t now from if_pos h)
  have e3 := Lib.hid (show takeK r b l t now n = n from (if_pos h).trans (by rw [if_neg (by omega : ¬ n < 0), if_neg (by omega)]))
  have hk := Lib.hid h
  clear h
  go_enter Tryz.func88, Tryz.ntmps88
  have hB0 := (((Below.refl w.heap.size w).alloc (Nat.le_refl _) (.cells #[.int .i64 r, .int .i64 b, .int .i64 l, .int .i64 t] 57)).alloc (by simp) (.cells #[.int .i64 0, .int .i64 0, .int .i64 0, .int .i64 0] 57))
  have hbx := Lib.hid ((Cls.Box4.new w (.int .i64 r) (.int .i64 b) (.int .i64 l) (.int .i64 t) 57).old (.cells #[.int .i64 0, .int .i64 0, .int .i64 0, .int .i64 0] 57))
  have hrs := Lib.hid (Cls.Box4.new (w.alloc (.cells #[.int .i64 r, .int .i64 b, .int .i64 l, .int .i64 t] 57)) (.int .i64 0) (.int .i64 0) (.int .i64 0) (.int .i64 0) 57)
  go_wp2_with fail
  refine (right_any r b l t _).mono ?_
  rintro e w1 ⟨rfl, hb1⟩
  rw [hk.out]
  obtain ⟨c0, c1, c2, c3, f0, f1, f2, f3, hz⟩ := hbx.out.below hb1
  have hB1 := hB0.trans (hb1.mono (by simp; omega))
  go_wp2_with fail
  refine (fill_any r b l t now _).mono ?_
  rintro e w2 ⟨rfl, hb2⟩
  have hb12 := hb1.trans (hb2.mono hb1.size)
  clear c0 c1 c2 c3 f0 f1 f2 f3 hz
  obtain ⟨c0, c1, c2, c3, f0, f1, f2, f3, hz⟩ := hbx.out.below hb12
  obtain ⟨z0, z1, z2, z3, y0, y1, y2, y3, hy⟩ := hrs.out.below hb12
  rw [World.size_alloc] at z0 z1 z2 z3 y0 y1 y2 y3 hy
  have hB2 := hB0.trans (hb12.mono (by simp; omega))
  clear hB0 hb1 hb2 hb12 hB1 hbx hrs
  generalize fillL r b l t now = L at *
  generalize fillT r b l t now = T' at *
  have H4 : Cls.Box4 w2 w.heap.size (.int .i64 r) (.int .i64 b) (.int .i64 l) (.int .i64 t) := ⟨c0, c1, c2, c3, f0, f1, f2, f3, hz⟩
  have R4 : Cls.Box4 w2 (w.heap.size + 1) (.int .i64 0) (.int .i64 0) (.int .i64 0) (.int .i64 0) := ⟨z0, z1, z2, z3, y0, y1, y2, y3, hy⟩
  have H5 := Lib.hid (((H4.put (.int .i64 r) (.int .i64 b) (.int .i64 L) (.int .i64 T'))).set2 (.int .i64 (L - n)))
  have R5 := Lib.hid ((R4.far4 (by omega : w.heap.size ≠ w.heap.size + 1) (.int .i64 r) (.int .i64 b) (.int .i64 L) (.int .i64 T')).far (k' := w.heap.size) (i := 2) (by omega) (.int .i64 (L - n)))
  have hB3 := (Cls.below_put4 hB2 (Nat.le_refl _) (.int .i64 r) (.int .i64 b) (.int .i64 L) (.int .i64 T')).setCell (p := ⟨w.heap.size, 2, none⟩) (Nat.le_refl _) (.int .i64 (L - n))
  clear H4 R4
  dsimp only
  go_upto_region 6 with (fail)
  change Code.wp _ _ _ _ ((Cls.put4 w2 w.heap.size (.int .i64 r) (.int .i64 b) (.int .i64 L) (.int .i64 T')).setCell ⟨w.heap.size, 2, none⟩ (.int .i64 (L - n)))
  generalize (Cls.put4 w2 w.heap.size (.int .i64 r) (.int .i64 b) (.int .i64 L) (.int .i64 T')).setCell ⟨w.heap.size, 2, none⟩ (.int .i64 (L - n)) = w3 at *
  clear c0 c1 c2 c3 f0 f1 f2 f3 hz z0 z1 z2 z3 y0 y1 y2 y3 hy hB2
  obtain ⟨c0, c1, c2, c3, f0, f1, f2, f3, hz⟩ := H5.out
  obtain ⟨z0, z1, z2, z3, y0, y1, y2, y3, hy⟩ := R5.out
  clear H5 R5
  go_wp2
  exact bodyPost_ret (v := .tuple #[.agg #[.int .i64 r, .int .i64 b, .int .i64 (L - n), .int .i64 T'], .int .i64 n]) (by simp [results, Tryz.results88, go_sem, c0, c1, c2, c3, z0, z1, z2, z3, hy, hz]) rfl ⟨by rw [e1.out, e2.out, e3.out], ((((hB3.setCell (p := ⟨w.heap.size + 1, 0, none⟩) (by show w.heap.size ≤ w.heap.size + 1; omega) _).setCell (p := ⟨w.heap.size + 1, 1, none⟩) (by show w.heap.size ≤ w.heap.size + 1; omega) _).setCell (p := ⟨w.heap.size + 1, 2, none⟩) (by show w.heap.size ≤ w.heap.size + 1; omega) _).setCell (p := ⟨w.heap.size + 1, 3, none⟩) (by show w.heap.size ≤ w.heap.size + 1; omega) _)⟩

theorem take_most (r b l t now n : Int) (w : World) (h : okB r b l t = true) (hn : 0 ≤ n) (hm : fillL r b l t now < n) :
    Calls Tryz.prog 88 #[.agg #[.int .i64 r, .int .i64 b, .int .i64 l, .int .i64 t], .int .i64 now, .int .i64 n] w fun e w' => e = .returned (.tuple #[.agg #[.int .i64 r, .int .i64 b, .int .i64 (takeL r b l t now n), .int .i64 (takeT r b l t now n)], .int .i64 (takeK r b l t now n)]) ∧ Below w.heap.size w w' := by
  have hL := fillL_bd (now := now) h
  have o2 : b ≤ 1099511627776 := (of_decide_eq_true h).2.1.2
  have e1 := Lib.hid (show takeL r b l t now n = fillL r b l t now - takeK r b l t now n from if_pos h)
  have e2 := Lib.hid (show takeT r b l t now n = fillT r b l t now from if_pos h)
  have e3 := Lib.hid (show takeK r b l t now n = (fillL r b l t now) from (if_pos h).trans (by rw [if_neg (by omega : ¬ n < 0), if_pos hm]))
  have hk := Lib.hid h
  clear h
  go_enter Tryz.func88, Tryz.ntmps88
  have hB0 := (((Below.refl w.heap.size w).alloc (Nat.le_refl _) (.cells #[.int .i64 r, .int .i64 b, .int .i64 l, .int .i64 t] 57)).alloc (by simp) (.cells #[.int .i64 0, .int .i64 0, .int .i64 0, .int .i64 0] 57))
  have hbx := Lib.hid ((Cls.Box4.new w (.int .i64 r) (.int .i64 b) (.int .i64 l) (.int .i64 t) 57).old (.cells #[.int .i64 0, .int .i64 0, .int .i64 0, .int .i64 0] 57))
  have hrs := Lib.hid (Cls.Box4.new (w.alloc (.cells #[.int .i64 r, .int .i64 b, .int .i64 l, .int .i64 t] 57)) (.int .i64 0) (.int .i64 0) (.int .i64 0) (.int .i64 0) 57)
  go_wp2_with fail
  refine (right_any r b l t _).mono ?_
  rintro e w1 ⟨rfl, hb1⟩
  rw [hk.out]
  obtain ⟨c0, c1, c2, c3, f0, f1, f2, f3, hz⟩ := hbx.out.below hb1
  have hB1 := hB0.trans (hb1.mono (by simp; omega))
  go_wp2_with fail
  refine (fill_any r b l t now _).mono ?_
  rintro e w2 ⟨rfl, hb2⟩
  have hb12 := hb1.trans (hb2.mono hb1.size)
  clear c0 c1 c2 c3 f0 f1 f2 f3 hz
  obtain ⟨c0, c1, c2, c3, f0, f1, f2, f3, hz⟩ := hbx.out.below hb12
  obtain ⟨z0, z1, z2, z3, y0, y1, y2, y3, hy⟩ := hrs.out.below hb12
  rw [World.size_alloc] at z0 z1 z2 z3 y0 y1 y2 y3 hy
  have hB2 := hB0.trans (hb12.mono (by simp; omega))
  clear hB0 hb1 hb2 hb12 hB1 hbx hrs
  generalize fillL r b l t now = L at *
  generalize fillT r b l t now = T' at *
  have H4 : Cls.Box4 w2 w.heap.size (.int .i64 r) (.int .i64 b) (.int .i64 l) (.int .i64 t) := ⟨c0, c1, c2, c3, f0, f1, f2, f3, hz⟩
  have R4 : Cls.Box4 w2 (w.heap.size + 1) (.int .i64 0) (.int .i64 0) (.int .i64 0) (.int .i64 0) := ⟨z0, z1, z2, z3, y0, y1, y2, y3, hy⟩
  have H5 := Lib.hid (((H4.put (.int .i64 r) (.int .i64 b) (.int .i64 L) (.int .i64 T'))).set2 (.int .i64 (0)))
  have R5 := Lib.hid ((R4.far4 (by omega : w.heap.size ≠ w.heap.size + 1) (.int .i64 r) (.int .i64 b) (.int .i64 L) (.int .i64 T')).far (k' := w.heap.size) (i := 2) (by omega) (.int .i64 (0)))
  have hB3 := (Cls.below_put4 hB2 (Nat.le_refl _) (.int .i64 r) (.int .i64 b) (.int .i64 L) (.int .i64 T')).setCell (p := ⟨w.heap.size, 2, none⟩) (Nat.le_refl _) (.int .i64 (0))
  clear H4 R4
  dsimp only
  go_upto_region 6 with (fail)
  change Code.wp _ _ _ _ ((Cls.put4 w2 w.heap.size (.int .i64 r) (.int .i64 b) (.int .i64 L) (.int .i64 T')).setCell ⟨w.heap.size, 2, none⟩ (.int .i64 (0)))
  generalize (Cls.put4 w2 w.heap.size (.int .i64 r) (.int .i64 b) (.int .i64 L) (.int .i64 T')).setCell ⟨w.heap.size, 2, none⟩ (.int .i64 (0)) = w3 at *
  clear c0 c1 c2 c3 f0 f1 f2 f3 hz z0 z1 z2 z3 y0 y1 y2 y3 hy hB2
  obtain ⟨c0, c1, c2, c3, f0, f1, f2, f3, hz⟩ := H5.out
  obtain ⟨z0, z1, z2, z3, y0, y1, y2, y3, hy⟩ := R5.out
  clear H5 R5
  go_wp2
  exact bodyPost_ret (v := .tuple #[.agg #[.int .i64 r, .int .i64 b, .int .i64 (0), .int .i64 T'], .int .i64 (L)]) (by simp [results, Tryz.results88, go_sem, c0, c1, c2, c3, z0, z1, z2, z3, hy, hz]) rfl ⟨by rw [e1.out, e2.out, e3.out]; simp, ((((hB3.setCell (p := ⟨w.heap.size + 1, 0, none⟩) (by show w.heap.size ≤ w.heap.size + 1; omega) _).setCell (p := ⟨w.heap.size + 1, 1, none⟩) (by show w.heap.size ≤ w.heap.size + 1; omega) _).setCell (p := ⟨w.heap.size + 1, 2, none⟩) (by show w.heap.size ≤ w.heap.size + 1; omega) _).setCell (p := ⟨w.heap.size + 1, 3, none⟩) (by show w.heap.size ≤ w.heap.size + 1; omega) _)⟩


theorem take_any (r b l t now n : Int) (w : World) :
    Calls Tryz.prog 88 #[.agg #[.int .i64 r, .int .i64 b, .int .i64 l, .int .i64 t], .int .i64 now, .int .i64 n] w fun e w' => e = .returned (.tuple #[.agg #[.int .i64 r, .int .i64 b, .int .i64 (takeL r b l t now n), .int .i64 (takeT r b l t now n)], .int .i64 (takeK r b l t now n)]) ∧ Below w.heap.size w w' := by
  cases h : okB r b l t with
  | false => exact take_no r b l t now n w h
  | true =>
    by_cases hn : n < 0
    · exact take_neg r b l t now n w h hn
    · by_cases hm : n ≤ fillL r b l t now
      · exact take_less r b l t now n w h (by omega) hm
      · exact take_most r b l t now n w h (by omega) (by omega)


end Go.Proofs.YtehpliclknfmoaaGreat.Bucket
namespace Go.Proofs.YtehpliclknfmoaaGreat.Bucket
open Go.RowKit Tick
set_option maxRecDepth 100000
set_option linter.unusedVariables false
set_option linter.unusedSimpArgs false
theorem bnew_yes (r b t : Int) (w : World) (h : okB r b b t = true) :
    Calls Tryz.prog 16 #[.int .i64 r, .int .i64 b, .int .i64 t] w fun e w' => e = .returned (.tuple #[.agg #[.int .i64 r, .int .i64 b, .int .i64 b, .int .i64 t], .int .i64 0]) ∧ Below w.heap.size w w' := by
  have hk := Lib.hid h
  clear h
  go_enter Tryz.func16, Tryz.ntmps16
  have hB0 := (((Below.refl w.heap.size w).alloc (Nat.le_refl _) (.cells #[.int .i64 0, .int .i64 0, .int .i64 0, .int .i64 0] 57)).alloc (by simp) (.cells #[.int .i64 r, .int .i64 b, .int .i64 b, .int .i64 t] 57))
  have hrs := Lib.hid ((Cls.Box4.new w (.int .i64 0) (.int .i64 0) (.int .i64 0) (.int .i64 0) 57).old (.cells #[.int .i64 r, .int .i64 b, .int .i64 b, .int .i64 t] 57))
  have hbx := Lib.hid (Cls.Box4.new (w.alloc (.cells #[.int .i64 0, .int .i64 0, .int .i64 0, .int .i64 0] 57)) (.int .i64 r) (.int .i64 b) (.int .i64 b) (.int .i64 t) 57)
  go_wp2_with fail
  refine (right_any r b b t _).mono ?_
  rintro e w1 ⟨rfl, hb1⟩
  rw [hk.out]
  obtain ⟨z0, z1, z2, z3, y0, y1, y2, y3, hy⟩ := hrs.out.below hb1
  obtain ⟨c0, c1, c2, c3, f0, f1, f2, f3, hz⟩ := hbx.out.below hb1
  rw [World.size_alloc] at c0 c1 c2 c3 f0 f1 f2 f3 hz
  have hB1 := hB0.trans (hb1.mono (by simp; omega))
  clear hB0 hb1 hbx hrs
  go_wp2
  exact bodyPost_ret (v := .tuple #[.agg #[.int .i64 r, .int .i64 b, .int .i64 b, .int .i64 t], .int .i64 0]) (by simp [results, Tryz.results16, go_sem, c0, c1, c2, c3, z0, z1, z2, z3, hy, hz]) rfl ⟨rfl, ((((hB1.setCell (p := ⟨w.heap.size, 0, none⟩) (Nat.le_refl _) _).setCell (p := ⟨w.heap.size, 1, none⟩) (Nat.le_refl _) _).setCell (p := ⟨w.heap.size, 2, none⟩) (Nat.le_refl _) _).setCell (p := ⟨w.heap.size, 3, none⟩) (Nat.le_refl _) _)⟩
theorem bchange_yes (r b l t rate burst now : Int) (w : World) (h : okB r b l t = true) (hn : okB rate burst burst now = true) :
    Calls Tryz.prog 60 #[.agg #[.int .i64 r, .int .i64 b, .int .i64 l, .int .i64 t], .int .i64 rate, .int .i64 burst, .int .i64 now] w fun e w' =>
      e = .returned (.tuple #[.agg #[.int .i64 rate, .int .i64 burst, .int .i64 (min (fillL r b l t now) burst), .int .i64 (fillT r b l t now)], .int .i64 0]) ∧ Below w.heap.size w w' := by
  have hk := Lib.hid h
  have hkn := Lib.hid hn
  clear h hn
  go_enter Tryz.func60, Tryz.ntmps60
  have hB0 := (((Below.refl w.heap.size w).alloc (Nat.le_refl _) (.cells #[.int .i64 r, .int .i64 b, .int .i64 l, .int .i64 t] 57)).alloc (by simp) (.cells #[.int .i64 0, .int .i64 0, .int .i64 0, .int .i64 0] 57))
  have hbx := Lib.hid ((Cls.Box4.new w (.int .i64 r) (.int .i64 b) (.int .i64 l) (.int .i64 t) 57).old (.cells #[.int .i64 0, .int .i64 0, .int .i64 0, .int .i64 0] 57))
  have hrs := Lib.hid (Cls.Box4.new (w.alloc (.cells #[.int .i64 r, .int .i64 b, .int .i64 l, .int .i64 t] 57)) (.int .i64 0) (.int .i64 0) (.int .i64 0) (.int .i64 0) 57)
  go_wp2_with fail
  refine (bnew_yes rate burst now _ hkn.out).mono ?_
  rintro e w1 ⟨rfl, hb1⟩
  have hb1' := Lib.hid (hb1.alloc hb1.size (.cells #[.int .i64 rate, .int .i64 burst, .int .i64 burst, .int .i64 now] 57))
  obtain ⟨c0, c1, c2, c3, f0, f1, f2, f3, hz⟩ := hbx.out.below hb1
  clear hb1
  go_wp2_with fail
  refine (right_any r b l t _).mono ?_
  rintro e w2 ⟨rfl, hb2⟩
  rw [hk.out]
  have hb2' := Lib.hid (hb1'.out.trans (hb2.mono hb1'.out.size))
  clear hb2 c0 c1 c2 c3 f0 f1 f2 f3 hz hb1'
  obtain ⟨c0, c1, c2, c3, f0, f1, f2, f3, hz⟩ := hbx.out.below hb2'.out
  go_wp2_with fail
  refine (fill_any r b l t now _).mono ?_
  rintro e w3 ⟨rfl, hb3⟩
  have hb3' := hb2'.out.trans (hb3.mono hb2'.out.size)
  clear hb3 hb2' c0 c1 c2 c3 f0 f1 f2 f3 hz
  have H4 := hbx.out.below hb3'
  have R4 := hrs.out.below hb3'
  rw [World.size_alloc] at R4
  have hB3 := hB0.trans (hb3'.mono (by simp; omega))
  clear hB0 hb3' hbx hrs
  generalize hL : fillL r b l t now = L at *
  generalize hT : fillT r b l t now = T' at *
  have hL' := Lib.hid hL
  have hT' := Lib.hid hT
  clear hL hT
  obtain ⟨c0, c1, c2, c3, f0, f1, f2, f3, hz⟩ := H4
  have H5 := Lib.hid (Cls.Box4.put (w := w3) (k := w.heap.size) ⟨c0, c1, c2, c3, f0, f1, f2, f3, hz⟩ (.int .i64 r) (.int .i64 b) (.int .i64 L) (.int .i64 T'))
  have R5 := Lib.hid (R4.far4 (by omega : w.heap.size ≠ w.heap.size + 1) (.int .i64 r) (.int .i64 b) (.int .i64 L) (.int .i64 T'))
  have hB4 := Lib.hid (Cls.below_put4 hB3 (Nat.le_refl _) (.int .i64 r) (.int .i64 b) (.int .i64 L) (.int .i64 T'))
  clear R4 hB3
  dsimp only
  go_upto_region 5 with (fail)
  change Code.wp _ _ _ _ (Cls.put4 w3 w.heap.size (.int .i64 r) (.int .i64 b) (.int .i64 L) (.int .i64 T'))
  generalize Cls.put4 w3 w.heap.size (.int .i64 r) (.int .i64 b) (.int .i64 L) (.int .i64 T') = w4 at *
  clear c0 c1 c2 c3 f0 f1 f2 f3 hz
  obtain ⟨c0, c1, c2, c3, f0, f1, f2, f3, hz⟩ := H5.out
  have H6 := Lib.hid (((H5.out.set0 (.int .i64 rate)).set1 (.int .i64 burst)).set2 (.int .i64 (min L burst)))
  have R6 := Lib.hid (((R5.out.far (k' := w.heap.size) (i := 0) (by omega) (.int .i64 rate)).far (k' := w.heap.size) (i := 1) (by omega) (.int .i64 burst)).far (k' := w.heap.size) (i := 2) (by omega) (.int .i64 (min L burst)))
  have hB5 := Lib.hid (((hB4.out.setCell (p := ⟨w.heap.size, 0, none⟩) (Nat.le_refl _) (.int .i64 rate)).setCell (p := ⟨w.heap.size, 1, none⟩) (Nat.le_refl _) (.int .i64 burst)).setCell (p := ⟨w.heap.size, 2, none⟩) (Nat.le_refl _) (.int .i64 (min L burst)))
  clear H5 R5 hB4
  go_upto_region 6 with (fail)
  rw [show (if burst < L then burst else L) = min L burst by split <;> omega]
  generalize hM : min L burst = M at *
  have hM' := Lib.hid hM
  clear hM
  generalize ((w4.setCell ⟨w.heap.size, 0, none⟩ (.int .i64 rate)).setCell ⟨w.heap.size, 1, none⟩ (.int .i64 burst)).setCell ⟨w.heap.size, 2, none⟩ (.int .i64 M) = w5 at *
  clear c0 c1 c2 c3 f0 f1 f2 f3 hz
  obtain ⟨c0, c1, c2, c3, f0, f1, f2, f3, hz⟩ := H6.out
  obtain ⟨z0, z1, z2, z3, y0, y1, y2, y3, hy⟩ := R6.out
  clear H6 R6
  have hB6 := hB5.out
  go_wp2
  exact bodyPost_ret (v := .tuple #[.agg #[.int .i64 rate, .int .i64 burst, .int .i64 M, .int .i64 T'], .int .i64 0]) (by simp [results, Tryz.results60, go_sem, c0, c1, c2, c3, z0, z1, z2, z3, hy, hz]) rfl ⟨by rw [hL'.out, hT'.out, hM'.out], ((((hB6.setCell (p := ⟨w.heap.size + 1, 0, none⟩) (by show w.heap.size ≤ w.heap.size + 1; omega) _).setCell (p := ⟨w.heap.size + 1, 1, none⟩) (by show w.heap.size ≤ w.heap.size + 1; omega) _).setCell (p := ⟨w.heap.size + 1, 2, none⟩) (by show w.heap.size ≤ w.heap.size + 1; omega) _).setCell (p := ⟨w.heap.size + 1, 3, none⟩) (by show w.heap.size ≤ w.heap.size + 1; omega) _)⟩
end Go.Proofs.YtehpliclknfmoaaGreat.Bucket
namespace Go.Proofs.YtehpliclknfmoaaGreat.Ref08
open Go.RowKit Tick Bucket
set_option maxRecDepth 100000
set_option linter.unusedVariables false
set_option linter.unusedSimpArgs false

theorem rightB_nr (n : Int) : (nr n == n) = rightB n := by
  unfold rightB nr
  by_cases h0 : n < 0
  · rw [if_pos h0, decide_eq_false (by omega)]; simp; omega
  · by_cases h1 : 1099511627776 < n
    · rw [if_neg h0, if_pos h1, decide_eq_false (by omega)]; simp; omega
    · rw [if_neg h0, if_neg h1, decide_eq_true (by omega)]; simp

theorem is_any (n : Int) (w : World) :
    Calls Tryz.prog 44 #[.int .i64 n] w fun e w' => e = .returned (.bool (rightB n)) ∧ w = w' := by
  have h := Lib.hid (rightB_nr n)
  go_enter Tryz.func44, Tryz.ntmps44
  go_wp2_with fail
  refine (Ref01.near_any n _).mono ?_
  rintro e w' ⟨rfl, rfl⟩
  go_wp2
  go_ret
  exact ⟨by rw [← h.out]; rfl, rfl⟩
theorem is_yes (n : Int) (w : World) (h : rightB n = true) : Calls Tryz.prog 44 #[.int .i64 n] w fun e w' => e = .returned (.bool true) ∧ w = w' := by have := is_any n w; rwa [h] at this
theorem is_no (n : Int) (w : World) (h : rightB n = false) : Calls Tryz.prog 44 #[.int .i64 n] w fun e w' => e = .returned (.bool false) ∧ w = w' := by have := is_any n w; rwa [h] at this
theorem rightB_iff (n : Int) : rightB n = true ↔ 0 ≤ n ∧ n ≤ 1099511627776 := by unfold rightB; simp
theorem ok_parts (r b l t : Int) : okB r b l t = (rightB r && rightB b && rightB l && rightB t && decide (0 < b) && decide (l ≤ b)) := by
  rw [Bool.eq_iff_iff]
  constructor
  · intro h
    obtain ⟨o1, o2, o3, o4, o5, o6⟩ := of_decide_eq_true h
    simp only [Bool.and_eq_true, rightB_iff, decide_eq_true_eq]
    exact ⟨⟨⟨⟨⟨o1, o2⟩, o3⟩, o4⟩, o5⟩, o6⟩
  · intro h
    simp only [Bool.and_eq_true, rightB_iff, decide_eq_true_eq] at h
    obtain ⟨⟨⟨⟨⟨o1, o2⟩, o3⟩, o4⟩, o5⟩, o6⟩ := h
    exact decide_eq_true ⟨o1, o2, o3, o4, o5, o6⟩


theorem right_no0 (r b l t : Int) (w : World)  (hr : Hid (rightB r = false)) :
    Calls Tryz.prog 74 #[.agg #[.int .i64 r, .int .i64 b, .int .i64 l, .int .i64 t]] w fun e w' => e = .returned (.bool false) ∧ Below w.heap.size w w' := by
  have hB0 := (Below.refl w.heap.size w).alloc (Nat.le_refl _) (.cells #[.int .i64 r, .int .i64 b, .int .i64 l, .int .i64 t] 33)
  go_enter Tryz.func74, Tryz.ntmps74
  go_wp2_with (go_at_call 44; (first | (with_reducible refine (is_no r _ hr.out).mono ?_)); rintro e w2 ⟨rfl, rfl⟩)
  go_ret
  exact ⟨rfl, hB0⟩

theorem right_no1 (r b l t : Int) (w : World) (hr : Hid (rightB r = true)) (hb : Hid (rightB b = false)) :
    Calls Tryz.prog 74 #[.agg #[.int .i64 r, .int .i64 b, .int .i64 l, .int .i64 t]] w fun e w' => e = .returned (.bool false) ∧ Below w.heap.size w w' := by
  have hB0 := (Below.refl w.heap.size w).alloc (Nat.le_refl _) (.cells #[.int .i64 r, .int .i64 b, .int .i64 l, .int .i64 t] 33)
  go_enter Tryz.func74, Tryz.ntmps74
  go_wp2_with (go_at_call 44; (first | (with_reducible refine (is_yes r _ hr.out).mono ?_) | (with_reducible refine (is_no b _ hb.out).mono ?_)); rintro e w2 ⟨rfl, rfl⟩)
  go_ret
  exact ⟨rfl, hB0⟩

theorem right_no2 (r b l t : Int) (w : World) (hr : Hid (rightB r = true)) (hb : Hid (rightB b = true)) (hl : Hid (rightB l = false)) :
    Calls Tryz.prog 74 #[.agg #[.int .i64 r, .int .i64 b, .int .i64 l, .int .i64 t]] w fun e w' => e = .returned (.bool false) ∧ Below w.heap.size w w' := by
  have hB0 := (Below.refl w.heap.size w).alloc (Nat.le_refl _) (.cells #[.int .i64 r, .int .i64 b, .int .i64 l, .int .i64 t] 33)
  go_enter Tryz.func74, Tryz.ntmps74
  go_wp2_with (go_at_call 44; (first | (with_reducible refine (is_yes r _ hr.out).mono ?_) | (with_reducible refine (is_yes b _ hb.out).mono ?_) | (with_reducible refine (is_no l _ hl.out).mono ?_)); rintro e w2 ⟨rfl, rfl⟩)
  go_ret
  exact ⟨rfl, hB0⟩

theorem right_no3 (r b l t : Int) (w : World) (hr : Hid (rightB r = true)) (hb : Hid (rightB b = true)) (hl : Hid (rightB l = true)) (ht : Hid (rightB t = false)) :
    Calls Tryz.prog 74 #[.agg #[.int .i64 r, .int .i64 b, .int .i64 l, .int .i64 t]] w fun e w' => e = .returned (.bool false) ∧ Below w.heap.size w w' := by
  have hB0 := (Below.refl w.heap.size w).alloc (Nat.le_refl _) (.cells #[.int .i64 r, .int .i64 b, .int .i64 l, .int .i64 t] 33)
  go_enter Tryz.func74, Tryz.ntmps74
  go_wp2_with (go_at_call 44; (first | (with_reducible refine (is_yes r _ hr.out).mono ?_) | (with_reducible refine (is_yes b _ hb.out).mono ?_) | (with_reducible refine (is_yes l _ hl.out).mono ?_) | (with_reducible refine (is_no t _ ht.out).mono ?_)); rintro e w2 ⟨rfl, rfl⟩)
  go_ret
  exact ⟨rfl, hB0⟩

theorem right_nil (r b l t : Int) (w : World) (hr : Hid (rightB r = true)) (hb : Hid (rightB b = true)) (hl : Hid (rightB l = true)) (ht : Hid (rightB t = true)) (hz : b = 0) :
    Calls Tryz.prog 74 #[.agg #[.int .i64 r, .int .i64 b, .int .i64 l, .int .i64 t]] w fun e w' => e = .returned (.bool false) ∧ Below w.heap.size w w' := by
  have hne : (b != 0) = false := by simp [hz]
  clear hz
  have hB0 := (Below.refl w.heap.size w).alloc (Nat.le_refl _) (.cells #[.int .i64 r, .int .i64 b, .int .i64 l, .int .i64 t] 33)
  go_enter Tryz.func74, Tryz.ntmps74
  go_wp2_with (go_at_call 44; (first | (with_reducible refine (is_yes r _ hr.out).mono ?_) | (with_reducible refine (is_yes b _ hb.out).mono ?_) | (with_reducible refine (is_yes l _ hl.out).mono ?_) | (with_reducible refine (is_yes t _ ht.out).mono ?_)); rintro e w2 ⟨rfl, rfl⟩)
  go_ret
  exact ⟨rfl, hB0⟩

theorem right_over (r b l t : Int) (w : World) (hr : Hid (rightB r = true)) (hb : Hid (rightB b = true)) (hl : Hid (rightB l = true)) (ht : Hid (rightB t = true)) (hz : ¬ b = 0) (ho : b < l) :
    Calls Tryz.prog 74 #[.agg #[.int .i64 r, .int .i64 b, .int .i64 l, .int .i64 t]] w fun e w' => e = .returned (.bool false) ∧ Below w.heap.size w w' := by
  have hne : (b != 0) = true := by simpa using hz
  clear hz
  have hd : decide (l ≤ b) = false := decide_eq_false (by omega)
  have hB0 := (Below.refl w.heap.size w).alloc (Nat.le_refl _) (.cells #[.int .i64 r, .int .i64 b, .int .i64 l, .int .i64 t] 33)
  go_enter Tryz.func74, Tryz.ntmps74
  go_wp2_with (go_at_call 44; (first | (with_reducible refine (is_yes r _ hr.out).mono ?_) | (with_reducible refine (is_yes b _ hb.out).mono ?_) | (with_reducible refine (is_yes l _ hl.out).mono ?_) | (with_reducible refine (is_yes t _ ht.out).mono ?_)); rintro e w2 ⟨rfl, rfl⟩)
  go_ret
  exact ⟨rfl, hB0⟩

theorem right_yes (r b l t : Int) (w : World) (hr : Hid (rightB r = true)) (hb : Hid (rightB b = true)) (hl : Hid (rightB l = true)) (ht : Hid (rightB t = true)) (hz : ¬ b = 0) (ho : l ≤ b) :
    Calls Tryz.prog 74 #[.agg #[.int .i64 r, .int .i64 b, .int .i64 l, .int .i64 t]] w fun e w' => e = .returned (.bool true) ∧ Below w.heap.size w w' := by
  have hne : (b != 0) = true := by simpa using hz
  clear hz
  have hd : decide (l ≤ b) = true := decide_eq_true ho
  have hB0 := (Below.refl w.heap.size w).alloc (Nat.le_refl _) (.cells #[.int .i64 r, .int .i64 b, .int .i64 l, .int .i64 t] 33)
  go_enter Tryz.func74, Tryz.ntmps74
  go_wp2_with (go_at_call 44; (first | (with_reducible refine (is_yes r _ hr.out).mono ?_) | (with_reducible refine (is_yes b _ hb.out).mono ?_) | (with_reducible refine (is_yes l _ hl.out).mono ?_) | (with_reducible refine (is_yes t _ ht.out).mono ?_)); rintro e w2 ⟨rfl, rfl⟩)
  go_ret
  exact ⟨rfl, hB0⟩

theorem right_any (r b l t : Int) (w : World) :
    Calls Tryz.prog 74 #[.agg #[.int .i64 r, .int .i64 b, .int .i64 l, .int .i64 t]] w fun e w' => e = .returned (.bool (okB r b l t)) ∧ Below w.heap.size w w' := by
  rw [ok_parts]
  cases hr : rightB r with
  | false => simpa using right_no0 r b l t w (Lib.hid hr)
  | true =>
    cases hb : rightB b with
    | false => simpa using right_no1 r b l t w (Lib.hid hr) (Lib.hid hb)
    | true =>
      cases hl : rightB l with
      | false => simpa using right_no2 r b l t w (Lib.hid hr) (Lib.hid hb) (Lib.hid hl)
      | true =>
        cases ht : rightB t with
        | false => simpa using right_no3 r b l t w (Lib.hid hr) (Lib.hid hb) (Lib.hid hl) (Lib.hid ht)
        | true =>
          have hb' := (rightB_iff b).1 hb
          by_cases hz : b = 0
          · have := right_nil r b l t w (Lib.hid hr) (Lib.hid hb) (Lib.hid hl) (Lib.hid ht) hz
            simpa [hz] using this
          · by_cases ho : l ≤ b
            · have := right_yes r b l t w (Lib.hid hr) (Lib.hid hb) (Lib.hid hl) (Lib.hid ht) hz ho
              rw [decide_eq_true (by omega : 0 < b), decide_eq_true ho]
              exact this
            · have := right_over r b l t w (Lib.hid hr) (Lib.hid hb) (Lib.hid hl) (Lib.hid ht) hz (by omega)
              rw [show decide (l ≤ b) = false from decide_eq_false ho]
              simpa using this


theorem fill_no (r b l t now : Int) (w : World) (h : ¬ (okB r b l t = true ∧ t < nr now)) :
    Calls Tryz.prog 75 #[.agg #[.int .i64 r, .int .i64 b, .int .i64 l, .int .i64 t], .int .i64 now] w fun e w' => e = .returned (.agg #[.int .i64 r, .int .i64 b, .int .i64 (fillL r b l t now), .int .i64 (fillT r b l t now)]) ∧ Below w.heap.size w w' := by
  have e1 := Lib.hid (fillL_no h)
  have e2 := Lib.hid (fillT_no h)
  have hnb := nr_bd now
  go_enter Tryz.func75, Tryz.ntmps75
  have hB0 := ((Below.refl w.heap.size w).alloc (Nat.le_refl _) (.cells #[.int .i64 r, .int .i64 b, .int .i64 l, .int .i64 t] 33)).alloc (by simp) (.cells #[.int .i64 0, .int .i64 0, .int .i64 0, .int .i64 0] 33)
  have hbx := Lib.hid ((Cls.Box4.new w (.int .i64 r) (.int .i64 b) (.int .i64 l) (.int .i64 t) 33).old (.cells #[.int .i64 0, .int .i64 0, .int .i64 0, .int .i64 0] 33))
  have hrs := Lib.hid (Cls.Box4.new (w.alloc (.cells #[.int .i64 r, .int .i64 b, .int .i64 l, .int .i64 t] 33)) (.int .i64 0) (.int .i64 0) (.int .i64 0) (.int .i64 0) 33)
  go_wp2_with fail
  refine (Ref01.near_any now _).mono ?_
  rintro e w' ⟨rfl, rfl⟩
  go_wp2_with fail
  refine (right_any r b l t _).mono ?_
  rintro e w1 ⟨rfl, hb1⟩
  obtain ⟨c0, c1, c2, c3, f0, f1, f2, f3, hz⟩ := hbx.out.below hb1
  obtain ⟨z0, z1, z2, z3, y0, y1, y2, y3, hy⟩ := hrs.out.below hb1
  rw [World.size_alloc] at z0 z1 z2 z3 y0 y1 y2 y3 hy
  have hB1 := hB0.trans (hb1.mono (by simp; omega))
  clear hB0 hb1 hbx hrs f0 f1 f2 f3
  cases hk : okB r b l t with
  | false =>
    clear hk h
    go_wp2
    exact bodyPost_ret (v := .agg #[.int .i64 r, .int .i64 b, .int .i64 l, .int .i64 t]) (by simp [results, Tryz.results75, go_sem, c0, c1, c2, c3, z0, z1, z2, z3, hy]) rfl ⟨by rw [e1.out, e2.out], ((((hB1.setCell (p := ⟨w.heap.size + 1, 0, none⟩) (by show w.heap.size ≤ w.heap.size + 1; omega) _).setCell (p := ⟨w.heap.size + 1, 1, none⟩) (by show w.heap.size ≤ w.heap.size + 1; omega) _).setCell (p := ⟨w.heap.size + 1, 2, none⟩) (by show w.heap.size ≤ w.heap.size + 1; omega) _).setCell (p := ⟨w.heap.size + 1, 3, none⟩) (by show w.heap.size ≤ w.heap.size + 1; omega) _)⟩
  | true =>
    have h' : nr now ≤ t := by
      rcases Int.lt_or_le t (nr now) with h2 | h2
      · exact absurd ⟨hk, h2⟩ h
      · exact h2
    clear hk h
    go_wp2
    exact bodyPost_ret (v := .agg #[.int .i64 r, .int .i64 b, .int .i64 l, .int .i64 t]) (by simp [results, Tryz.results75, go_sem, c0, c1, c2, c3, z0, z1, z2, z3, hy]) rfl ⟨by rw [e1.out, e2.out], ((((hB1.setCell (p := ⟨w.heap.size + 1, 0, none⟩) (by show w.heap.size ≤ w.heap.size + 1; omega) _).setCell (p := ⟨w.heap.size + 1, 1, none⟩) (by show w.heap.size ≤ w.heap.size + 1; omega) _).setCell (p := ⟨w.heap.size + 1, 2, none⟩) (by show w.heap.size ≤ w.heap.size + 1; omega) _).setCell (p := ⟨w.heap.size + 1, 3, none⟩) (by show w.heap.size ≤ w.heap.size + 1; omega) _)⟩

set_option maxHeartbeats 400000 in
theorem fill_yes (r b l t now : Int) (w : World) (hk : okB r b l t = true) (ht : t < nr now) :
    Calls Tryz.prog 75 #[.agg #[.int .i64 r, .int .i64 b, .int .i64 l, .int .i64 t], .int .i64 now] w fun e w' => e = .returned (.agg #[.int .i64 r, .int .i64 b, .int .i64 (fillL r b l t now), .int .i64 (fillT r b l t now)]) ∧ Below w.heap.size w w' := by
  have e1 := Lib.hid (show fillL r b l t now = _ from if_pos ⟨hk, ht⟩)
  have e2 := Lib.hid (show fillT r b l t now = nr now from if_pos ⟨hk, ht⟩)
  have hnb := nr_bd now
  have hok := of_decide_eq_true hk
  have hk' := Lib.hid hk
  obtain ⟨o1, o2, o3, o4, o5, o6⟩ := hok
  clear hk
  go_enter Tryz.func75, Tryz.ntmps75
  have hB0 := ((Below.refl w.heap.size w).alloc (Nat.le_refl _) (.cells #[.int .i64 r, .int .i64 b, .int .i64 l, .int .i64 t] 33)).alloc (by simp) (.cells #[.int .i64 0, .int .i64 0, .int .i64 0, .int .i64 0] 33)
  have hbx := Lib.hid ((Cls.Box4.new w (.int .i64 r) (.int .i64 b) (.int .i64 l) (.int .i64 t) 33).old (.cells #[.int .i64 0, .int .i64 0, .int .i64 0, .int .i64 0] 33))
  have hrs := Lib.hid (Cls.Box4.new (w.alloc (.cells #[.int .i64 r, .int .i64 b, .int .i64 l, .int .i64 t] 33)) (.int .i64 0) (.int .i64 0) (.int .i64 0) (.int .i64 0) 33)
  go_wp2_with fail
  refine (Ref01.near_any now _).mono ?_
  rintro e w' ⟨rfl, rfl⟩
  go_wp2_with fail
  refine (right_any r b l t _).mono ?_
  rintro e w1 ⟨rfl, hb1⟩
  rw [hk'.out]
  obtain ⟨c0, c1, c2, c3, f0, f1, f2, f3, hz⟩ := hbx.out.below hb1
  obtain ⟨z0, z1, z2, z3, y0, y1, y2, y3, hy⟩ := hrs.out.below hb1
  rw [World.size_alloc] at z0 z1 z2 z3 y0 y1 y2 y3 hy
  have hB1 := hB0.trans (hb1.mono (by simp; omega))
  clear hB0 hb1 hbx hrs f0 f1 f2 f3
  have hsub : IntKind.i64.wrap (nr now - t) = nr now - t := by rw [IntKind.wrap_i64]; omega
  go_wp2
  refine Cls.region (fun w' => Below w1.heap.size w1 w') (by kernel_rfl) (by kernel_rfl) (Below.refl _ _).drew ?_
  refine Cls.value ?_ rfl (fun w' hw' => ?_) ?_
  rotate_left
  · go_simp; rfl
  refine Cls.value ?_ rfl (fun w' hw' => ?_) ?_
  rotate_left
  · have q := (hw'.cell (p := ⟨w.heap.size, 2, none⟩) hz).trans c2
    go_simp; rfl
  refine Cls.value ?_ rfl (fun w' hw' => ?_) ?_
  rotate_left
  · go_simp; rfl
  refine Cls.value ?_ rfl (fun w' hw' => ?_) ?_
  rotate_left
  · have q := (hw'.cell (p := ⟨w.heap.size, 0, none⟩) hz).trans c0
    go_simp; rfl
  refine Cls.value ?_ rfl (fun w' hw' => ?_) ?_
  rotate_left
  · go_simp; rfl
  refine Cls.value ?_ rfl (fun w' hw' => ?_) ?_
  rotate_left
  · go_simp; rfl
  refine Cls.value ?_ rfl (fun w' hw' => ?_) ?_
  rotate_left
  · have q := (hw'.cell (p := ⟨w.heap.size, 3, none⟩) hz).trans c3
    go_simp; rfl
  refine Cls.value ?_ rfl (fun w' hw' => ?_) ?_
  rotate_left
  · go_simp; rfl
  refine Cls.call 89 #[.int .i64 r, .int .i64 (nr now - t)] (.int .i64 (mul r (nr now - t))) rfl (fun w' => ?_) (fun w' hw' => (Ref01.mul_any _ _ w').mono ?_) ?_
  · go_simp
  · rintro e w'' ⟨rfl, hb⟩; exact ⟨rfl, hw'.trans (hb.mono hw'.size)⟩
  refine Cls.call 53 #[.int .i64 l, .int .i64 (mul r (nr now - t))] (.int .i64 (add l (mul r (nr now - t)))) rfl (fun w' => ?_) (fun w' hw' => (Ref01.add_any _ _ w').mono ?_) ?_
  · go_simp
  · rintro e w'' ⟨rfl, rfl⟩; exact ⟨rfl, hw'⟩
  refine Cls.value ?_ rfl (fun w' hw' => ?_) ?_
  rotate_left
  · go_simp; rfl
  refine Cls.done (fun w' hw' => ?_)
  simp only [Act.put, List.setIfInBounds_toArray, List.set_cons_zero, List.set_cons_succ]
  have C0 := (hw'.cell (p := ⟨w.heap.size, 0, none⟩) hz).trans c0
  have C1 := (hw'.cell (p := ⟨w.heap.size, 1, none⟩) hz).trans c1
  have Z0 := (hw'.cell (p := ⟨w.heap.size + 1, 0, none⟩) hy).trans z0
  have Z1 := (hw'.cell (p := ⟨w.heap.size + 1, 1, none⟩) hy).trans z1
  have Z2 := (hw'.cell (p := ⟨w.heap.size + 1, 2, none⟩) hy).trans z2
  have Z3 := (hw'.cell (p := ⟨w.heap.size + 1, 3, none⟩) hy).trans z3
  have Y0 := (hw'.frozen (p := ⟨w.heap.size + 1, 0, none⟩) hy).trans y0
  have Y1 := (hw'.frozen (p := ⟨w.heap.size + 1, 1, none⟩) hy).trans y1
  have Y2 := (hw'.frozen (p := ⟨w.heap.size + 1, 2, none⟩) hy).trans y2
  have Y3 := (hw'.frozen (p := ⟨w.heap.size + 1, 3, none⟩) hy).trans y3
  have hB2 := hB1.trans (hw'.mono hB1.size)
  have hy2 := Nat.lt_of_lt_of_le hy hw'.size
  clear c0 c1 c2 c3 z0 z1 z2 z3 y0 y1 y2 y3 hw' hB1 hsub hz hy
  generalize add l (mul r (nr now - t)) = X at *
  by_cases hm : b < X
  · have e3 := Lib.hid (e1.out.trans (show (if X < b then X else b) = b from if_neg (by omega)))
    clear e1
    go_wp2
    exact bodyPost_ret (v := .agg #[.int .i64 r, .int .i64 b, .int .i64 b, .int .i64 (nr now)]) (by simp [results, Tryz.results75, go_sem, Z0, Z1, Z2, Z3, hy2]) rfl ⟨by rw [e3.out, e2.out], ((((hB2.setCell (p := ⟨w.heap.size + 1, 0, none⟩) (by show w.heap.size ≤ w.heap.size + 1; omega) _).setCell (p := ⟨w.heap.size + 1, 1, none⟩) (by show w.heap.size ≤ w.heap.size + 1; omega) _).setCell (p := ⟨w.heap.size + 1, 2, none⟩) (by show w.heap.size ≤ w.heap.size + 1; omega) _).setCell (p := ⟨w.heap.size + 1, 3, none⟩) (by show w.heap.size ≤ w.heap.size + 1; omega) _)⟩
  · have e4 : (if X < b then X else b) = X := by
      split <;> omega
    have e3 := Lib.hid (e1.out.trans e4)
    clear e4
    have hm' : X ≤ b := by omega
    clear e1 hm
    go_wp2
    exact bodyPost_ret (v := .agg #[.int .i64 r, .int .i64 b, .int .i64 X, .int .i64 (nr now)]) (by simp [results, Tryz.results75, go_sem, Z0, Z1, Z2, Z3, hy2]) rfl ⟨by rw [e3.out, e2.out], ((((hB2.setCell (p := ⟨w.heap.size + 1, 0, none⟩) (by show w.heap.size ≤ w.heap.size + 1; omega) _).setCell (p := ⟨w.heap.size + 1, 1, none⟩) (by show w.heap.size ≤ w.heap.size + 1; omega) _).setCell (p := ⟨w.heap.size + 1, 2, none⟩) (by show w.heap.size ≤ w.heap.size + 1; omega) _).setCell (p := ⟨w.heap.size + 1, 3, none⟩) (by show w.heap.size ≤ w.heap.size + 1; omega) _)⟩

theorem fill_any (r b l t now : Int) (w : World) :
    Calls Tryz.prog 75 #[.agg #[.int .i64 r, .int .i64 b, .int .i64 l, .int .i64 t], .int .i64 now] w fun e w' => e = .returned (.agg #[.int .i64 r, .int .i64 b, .int .i64 (fillL r b l t now), .int .i64 (fillT r b l t now)]) ∧ Below w.heap.size w w' := by
  by_cases h : okB r b l t = true ∧ t < nr now
  · exact fill_yes r b l t now w h.1 h.2
  · exact fill_no r b l t now w h

end Go.Proofs.YtehpliclknfmoaaGreat.Ref08
namespace Go.Proofs.YtehpliclknfmoaaGreat.Ref08
open Go.RowKit Tick Bucket
set_option maxRecDepth 100000
set_option linter.unusedVariables false
set_option linter.unusedSimpArgs false

theorem take_no (r b l t now n : Int) (w : World) (h : okB r b l t = false) :
    Calls Tryz.prog 55 #[.agg #[.int .i64 r, .int .i64 b, .int .i64 l, .int .i64 t], .int .i64 now, .int .i64 n] w fun e w' => e = .returned (.tuple #[.agg #[.int .i64 r, .int .i64 b, .int .i64 (takeL r b l t now n), .int .i64 (takeT r b l t now n)], .int .i64 (takeK r b l t now n)]) ∧ Below w.heap.size w w' := by
  have e1 := Lib.hid (show takeL r b l t now n = l from if_neg (by rw [h]; decide))
  have e2 := Lib.hid (show takeT r b l t now n = t from if_neg (by rw [h]; decide))
  have e3 := Lib.hid (show takeK r b l t now n = 0 from if_neg (by rw [h]; decide))
  have hk := Lib.hid h
  clear h
  go_enter Tryz.func55, Tryz.ntmps55
  have hB0 := (((Below.refl w.heap.size w).alloc (Nat.le_refl _) (.cells #[.int .i64 r, .int .i64 b, .int .i64 l, .int .i64 t] 33)).alloc (by simp) (.cells #[.int .i64 0, .int .i64 0, .int .i64 0, .int .i64 0] 33))
  have hbx := Lib.hid ((Cls.Box4.new w (.int .i64 r) (.int .i64 b) (.int .i64 l) (.int .i64 t) 33).old (.cells #[.int .i64 0, .int .i64 0, .int .i64 0, .int .i64 0] 33))
  have hrs := Lib.hid (Cls.Box4.new (w.alloc (.cells #[.int .i64 r, .int .i64 b, .int .i64 l, .int .i64 t] 33)) (.int .i64 0) (.int .i64 0) (.int .i64 0) (.int .i64 0) 33)
  go_wp2_with fail
  refine (Ref08.right_any r b l t _).mono ?_
  rintro e w1 ⟨rfl, hb1⟩
  rw [hk.out]
  obtain ⟨c0, c1, c2, c3, f0, f1, f2, f3, hz⟩ := hbx.out.below hb1
  obtain ⟨z0, z1, z2, z3, y0, y1, y2, y3, hy⟩ := hrs.out.below hb1
  rw [World.size_alloc] at z0 z1 z2 z3 y0 y1 y2 y3 hy
  have hB1 := hB0.trans (hb1.mono (by simp; omega))
  clear hB0 hb1 hbx hrs
  go_wp2
  exact bodyPost_ret (v := .tuple #[.agg #[.int .i64 r, .int .i64 b, .int .i64 l, .int .i64 t], .int .i64 0]) (by simp [results, Tryz.results55, go_sem, c0, c1, c2, c3, z0, z1, z2, z3, hy]) rfl ⟨by rw [e1.out, e2.out, e3.out], ((((hB1.setCell (p := ⟨w.heap.size + 1, 0, none⟩) (by show w.heap.size ≤ w.heap.size + 1; omega) _).setCell (p := ⟨w.heap.size + 1, 1, none⟩) (by show w.heap.size ≤ w.heap.size + 1; omega) _).setCell (p := ⟨w.heap.size + 1, 2, none⟩) (by show w.heap.size ≤ w.heap.size + 1; omega) _).setCell (p := ⟨w.heap.size + 1, 3, none⟩) (by show w.heap.size ≤ w.heap.size + 1; omega) _)⟩

theorem take_neg (r b l t now n : Int) (w : World) (h : okB r b l t = true) (hn : n < 0) :
    Calls Tryz.prog 55 #[.agg #[.int .i64 r, .int .i64 b, .int .i64 l, .int .i64 t], .int .i64 now, .int .i64 n] w fun e w' => e = .returned (.tuple #[.agg #[.int .i64 r, .int .i64 b, .int .i64 (takeL r b l t now n), .int .i64 (takeT r b l t now n)], .int .i64 (takeK r b l t now n)]) ∧ Below w.heap.size w w' := by
  have hL := fillL_bd (now := now) h
  have o2 : b ≤ 1099511627776 := (of_decide_eq_true h).2.1.2
  have e1 := Lib.hid (show takeL r b l t now n = fillL r b l t now - takeK r b l t now n from if_pos h)
  have e2 := Lib.hid (show takeT r b l t now n = fillT r b l t now from if_pos h)
  have e3 := Lib.hid (show takeK r b l t now n = 0 from (if_pos h).trans (by rw [if_pos hn, if_neg (by omega)]))
  have hk := Lib.hid h
  clear h
  go_enter Tryz.func55, Tryz.ntmps55
  have hB0 := (((Below.refl w.heap.size w).alloc (Nat.le_refl _) (.cells #[.int .i64 r, .int .i64 b, .int .i64 l, .int .i64 t] 33)).alloc (by simp) (.cells #[.int .i64 0, .int .i64 0, .int .i64 0, .int .i64 0] 33))
  have hbx := Lib.hid ((Cls.Box4.new w (.int .i64 r) (.int .i64 b) (.int .i64 l) (.int .i64 t) 33).old (.cells #[.int .i64 0, .int .i64 0, .int .i64 0, .int .i64 0] 33))
  have hrs := Lib.hid (Cls.Box4.new (w.alloc (.cells #[.int .i64 r, .int .i64 b, .int .i64 l, .int .i64 t] 33)) (.int .i64 0) (.int .i64 0) (.int .i64 0) (.int .i64 0) 33)
  go_wp2_with fail
  refine (Ref08.right_any r b l t _).mono ?_
  rintro e w1 ⟨rfl, hb1⟩
  rw [hk.out]
  obtain ⟨c0, c1, c2, c3, f0, f1, f2, f3, hz⟩ := hbx.out.below hb1
  have hB1 := hB0.trans (hb1.mono (by simp; omega))
  go_wp2_with fail
  refine (Ref08.fill_any r b l t now _).mono ?_
  rintro e w2 ⟨rfl, hb2⟩
  have hb12 := hb1.trans (hb2.mono hb1.size)
  clear c0 c1 c2 c3 f0 f1 f2 f3 hz
  obtain ⟨c0, c1, c2, c3, f0, f1, f2, f3, hz⟩ := hbx.out.below hb12
  obtain ⟨z0, z1, z2, z3, y0, y1, y2, y3, hy⟩ := hrs.out.below hb12
  rw [World.size_alloc] at z0 z1 z2 z3 y0 y1 y2 y3 hy
  have hB2 := hB0.trans (hb12.mono (by simp; omega))
  clear hB0 hb1 hb2 hb12 hB1 hbx hrs
  generalize fillL r b l t now = L at *
  generalize fillT r b l t now = T' at *
  have H4 : Cls.Box4 w2 w.heap.size (.int .i64 r) (.int .i64 b) (.int .i64 l) (.int .i64 t) := ⟨c0, c1, c2, c3, f0, f1, f2, f3, hz⟩
  have R4 : Cls.Box4 w2 (w.heap.size + 1) (.int .i64 0) (.int .i64 0) (.int .i64 0) (.int .i64 0) := ⟨z0, z1, z2, z3, y0, y1, y2, y3, hy⟩
  have H5 := Lib.hid (((H4.put (.int .i64 r) (.int .i64 b) (.int .i64 L) (.int .i64 T'))).set2 (.int .i64 (L)))
  have R5 := Lib.hid ((R4.far4 (by omega : w.heap.size ≠ w.heap.size + 1) (.int .i64 r) (.int .i64 b) (.int .i64 L) (.int .i64 T')).far (k' := w.heap.size) (i := 2) (by omega) (.int .i64 (L)))
  have hB3 := (Cls.below_put4 hB2 (Nat.le_refl _) (.int .i64 r) (.int .i64 b) (.int .i64 L) (.int .i64 T')).setCell (p := ⟨w.heap.size, 2, none⟩) (Nat.le_refl _) (.int .i64 (L))
  clear H4 R4
  dsimp only
  go_upto_region 9 with (fail)
  change Code.wp _ _ _ _ ((Cls.put4 w2 w.heap.size (.int .i64 r) (.int .i64 b) (.int .i64 L) (.int .i64 T')).setCell ⟨w.heap.size, 2, none⟩ (.int .i64 (L)))
  generalize (Cls.put4 w2 w.heap.size (.int .i64 r) (.int .i64 b) (.int .i64 L) (.int .i64 T')).setCell ⟨w.heap.size, 2, none⟩ (.int .i64 (L)) = w3 at *
  clear c0 c1 c2 c3 f0 f1 f2 f3 hz z0 z1 z2 z3 y0 y1 y2 y3 hy hB2
  obtain ⟨c0, c1, c2, c3, f0, f1, f2, f3, hz⟩ := H5.out
  obtain ⟨z0, z1, z2, z3, y0, y1, y2, y3, hy⟩ := R5.out
  clear H5 R5
  go_wp2
  exact bodyPost_ret (v := .tuple #[.agg #[.int .i64 r, .int .i64 b, .int .i64 (L), .int .i64 T'], .int .i64 0]) (by simp [results, Tryz.results55, go_sem, c0, c1, c2, c3, z0, z1, z2, z3, hy, hz]) rfl ⟨by rw [e1.out, e2.out, e3.out]; simp, ((((hB3.setCell (p := ⟨w.heap.size + 1, 0, none⟩) (by show w.heap.size ≤ w.heap.size + 1; omega) _).setCell (p := ⟨w.heap.size + 1, 1, none⟩) (by show w.heap.size ≤ w.heap.size + 1; omega) _).setCell (p := ⟨w.heap.size + 1, 2, none⟩) (by show w.heap.size ≤ w.heap.size + 1; omega) _).setCell (p := ⟨w.heap.size + 1, 3, none⟩) (by show w.heap.size ≤ w.heap.size + 1; omega) _)⟩

theorem take_less (r b l t now n : Int) (w : World) (h : okB r b l t = true) (hn : 0 ≤ n) (hm : n ≤ fillL r b l t now) :
    Calls Tryz.prog 55 #[.agg #[.int .i64 r, .int .i64 b, .int .i64 l, .int .i64 t], .int .i64 now, .int .i64 n] w fun e w' => e = .returned (.tuple #[.agg #[.int .i64 r, .int .i64 b, .int .i64 (takeL r b l t now n), .int .i64 (takeT r b l t now n)], .int .i64 (takeK r b l t now n)]) ∧ Below w.heap.size w w' := by
  have hL := fillL_bd (now := now) h
  have o2 : b ≤ 1099511627776 := (of_decide_eq_true h).2.1.2
  have e1 := Lib.hid (show takeL r b l t now n = fillL r b l t now - takeK r b l t now n from if_pos h)
  have e2 := Lib.hid (show takeT r b l t now n = fillT r b l t now from if_pos h)
  have e3 := Lib.hid (show takeK r b l t now n = n from (if_pos h).trans (by rw [if_neg (by omega : ¬ n < 0), if_neg (by omega)]))
  have hk := Lib.hid h
  clear h
  go_enter Tryz.func55, Tryz.ntmps55
  have hB0 := (((Below.refl w.heap.size w).alloc (Nat.le_refl _) (.cells #[.int .i64 r, .int .i64 b, .int .i64 l, .int .i64 t] 33)).alloc (by simp) (.cells #[.int .i64 0, .int .i64 0, .int .i64 0, .int .i64 0] 33))
  have hbx := Lib.hid ((Cls.Box4.new w (.int .i64 r) (.int .i64 b) (.int .i64 l) (.int .i64 t) 33).old (.cells #[.int .i64 0, .int .i64 0, .int .i64 0, .int .i64 0] 33))
  have hrs := Lib.hid (Cls.Box4.new (w.alloc (.cells #[.int .i64 r, .int .i64 b, .int .i64 l, .int .i64 t] 33)) (.int .i64 0) (.int .i64 0) (.int .i64 0) (.int .i64 0) 33)
  go_wp2_with fail
  refine (Ref08.right_any r b l t _).mono ?_
  rintro e w1 ⟨rfl, hb1⟩
  rw [hk.out]
  obtain ⟨c0, c1, c2, c3, f0, f1, f2, f3, hz⟩ := hbx.out.below hb1
  have hB1 := hB0.trans (hb1.mono (by simp; omega))
  go_wp2_with fail
  refine (Ref08.fill_any r b l t now _).mono ?_
  rintro e w2 ⟨rfl, hb2⟩
  have hb12 := hb1.trans (hb2.mono hb1.size)
  clear c0 c1 c2 c3 f0 f1 f2 f3 hz
  obtain ⟨c0, c1, c2, c3, f0, f1, f2, f3, hz⟩ := hbx.out.below hb12
  obtain ⟨z0, z1, z2, z3, y0, y1, y2, y3, hy⟩ := hrs.out.below hb12
  rw [World.size_alloc] at z0 z1 z2 z3 y0 y1 y2 y3 hy
  have hB2 := hB0.trans (hb12.mono (by simp; omega))
  clear hB0 hb1 hb2 hb12 hB1 hbx hrs
  generalize fillL r b l t now = L at *
  generalize fillT r b l t now = T' at *
  have H4 : Cls.Box4 w2 w.heap.size (.int .i64 r) (.int .i64 b) (.int .i64 l) (.int .i64 t) := ⟨c0, c1, c2, c3, f0, f1, f2, f3, hz⟩
  have R4 : Cls.Box4 w2 (w.heap.size + 1) (.int .i64 0) (.int .i64 0) (.int .i64 0) (.int .i64 0) := ⟨z0, z1, z2, z3, y0, y1, y2, y3, hy⟩
  have H5 := Lib.hid (((H4.put (.int .i64 r) (.int .i64 b) (.int .i64 L) (.int .i64 T'))).set2 (.int .i64 (L - n)))
  have R5 := Lib.hid ((R4.far4 (by omega : w.heap.size ≠ w.heap.size + 1) (.int .i64 r) (.int .i64 b) (.int .i64 L) (.int .i64 T')).far (k' := w.heap.size) (i := 2) (by omega) (.int .i64 (L - n)))
  have hB3 := (Cls.below_put4 hB2 (Nat.le_refl _) (.int .i64 r) (.int .i64 b) (.int .i64 L) (.int .i64 T')).setCell (p := ⟨w.heap.size, 2, none⟩) (Nat.le_refl _) (.int .i64 (L - n))
  clear H4 R4
  dsimp only
  go_upto_region 9 with (fail)
  change Code.wp _ _ _ _ ((Cls.put4 w2 w.heap.size (.int .i64 r) (.int .i64 b) (.int .i64 L) (.int .i64 T')).setCell ⟨w.heap.size, 2, none⟩ (.int .i64 (L - n)))
  generalize (Cls.put4 w2 w.heap.size (.int .i64 r) (.int .i64 b) (.int .i64 L) (.int .i64 T')).setCell ⟨w.heap.size, 2, none⟩ (.int .i64 (L - n)) = w3 at *
  clear c0 c1 c2 c3 f0 f1 f2 f3 hz z0 z1 z2 z3 y0 y1 y2 y3 hy hB2
  obtain ⟨c0, c1, c2, c3, f0, f1, f2, f3, hz⟩ := H5.out
  obtain ⟨z0, z1, z2, z3, y0, y1, y2, y3, hy⟩ := R5.out
  clear H5 R5
  go_wp2
  exact bodyPost_ret (v := .tuple #[.agg #[.int .i64 r, .int .i64 b, .int .i64 (L - n), .int .i64 T'], .int .i64 n]) (by simp [results, Tryz.results55, go_sem, c0, c1, c2, c3, z0, z1, z2, z3, hy, hz]) rfl ⟨by rw [e1.out, e2.out, e3.out], ((((hB3.setCell (p := ⟨w.heap.size + 1, 0, none⟩) (by show w.heap.size ≤ w.heap.size + 1; omega) _).setCell (p := ⟨w.heap.size + 1, 1, none⟩) (by show w.heap.size ≤ w.heap.size + 1; omega) _).setCell (p := ⟨w.heap.size + 1, 2, none⟩) (by show w.heap.size ≤ w.heap.size + 1; omega) _).setCell (p := ⟨w.heap.size + 1, 3, none⟩) (by show w.heap.size ≤ w.heap.size + 1; omega) _)⟩

theorem take_most (r b l t now n : Int) (w : World) (h : okB r b l t = true) (hn : 0 ≤ n) (hm : fillL r b l t now < n) :
    Calls Tryz.prog 55 #[.agg #[.int .i64 r, .int .i64 b, .int .i64 l, .int .i64 t], .int .i64 now, .int .i64 n] w fun e w' => e = .returned (.tuple #[.agg #[.int .i64 r, .int .i64 b, .int .i64 (takeL r b l t now n), .int .i64 (takeT r b l t now n)], .int .i64 (takeK r b l t now n)]) ∧ Below w.heap.size w w' := by
  have hL := fillL_bd (now := now) h
  have o2 : b ≤ 1099511627776 := (of_decide_eq_true h).2.1.2
  have e1 := Lib.hid (show takeL r b l t now n = fillL r b l t now - takeK r b l t now n from if_pos h)
  have e2 := Lib.hid (show takeT r b l t now n = fillT r b l t now from if_pos h)
  have e3 := Lib.hid (show takeK r b l t now n = (fillL r b l t now) from (if_pos h).trans (by rw [if_neg (by omega : ¬ n < 0), if_pos hm]))
  have hk := Lib.hid h
  clear h
  go_enter Tryz.func55, Tryz.ntmps55
  have hB0 := (((Below.refl w.heap.size w).alloc (Nat.le_refl _) (.cells #[.int .i64 r, .int .i64 b, .int .i64 l, .int .i64 t] 33)).alloc (by simp) (.cells #[.int .i64 0, .int .i64 0, .int .i64 0, .int .i64 0] 33))
  have hbx := Lib.hid ((Cls.Box4.new w (.int .i64 r) (.int .i64 b) (.int .i64 l) (.int .i64 t) 33).old (.cells #[.int .i64 0, .int .i64 0, .int .i64 0, .int .i64 0] 33))
  have hrs := Lib.hid (Cls.Box4.new (w.alloc (.cells #[.int .i64 r, .int .i64 b, .int .i64 l, .int .i64 t] 33)) (.int .i64 0) (.int .i64 0) (.int .i64 0) (.int .i64 0) 33)
  go_wp2_with fail
  refine (Ref08.right_any r b l t _).mono ?_
  rintro e w1 ⟨rfl, hb1⟩
  rw [hk.out]
  obtain ⟨c0, c1, c2, c3, f0, f1, f2, f3, hz⟩ := hbx.out.below hb1
  have hB1 := hB0.trans (hb1.mono (by simp; omega))
  go_wp2_with fail
  refine (Ref08.fill_any r b l t now _).mono ?_
  rintro e w2 ⟨rfl, hb2⟩
  have hb12 := hb1.trans (hb2.mono hb1.size)
  clear c0 c1 c2 c3 f0 f1 f2 f3 hz
  obtain ⟨c0, c1, c2, c3, f0, f1, f2, f3, hz⟩ := hbx.out.below hb12
  obtain ⟨z0, z1, z2, z3, y0, y1, y2, y3, hy⟩ := hrs.out.below hb12
  rw [World.size_alloc] at z0 z1 z2 z3 y0 y1 y2 y3 hy
  have hB2 := hB0.trans (hb12.mono (by simp; omega))
  clear hB0 hb1 hb2 hb12 hB1 hbx hrs
  generalize fillL r b l t now = L at *
  generalize fillT r b l t now = T' at *
  have H4 : Cls.Box4 w2 w.heap.size (.int .i64 r) (.int .i64 b) (.int .i64 l) (.int .i64 t) := ⟨c0, c1, c2, c3, f0, f1, f2, f3, hz⟩
  have R4 : Cls.Box4 w2 (w.heap.size + 1) (.int .i64 0) (.int .i64 0) (.int .i64 0) (.int .i64 0) := ⟨z0, z1, z2, z3, y0, y1, y2, y3, hy⟩
  have H5 := Lib.hid (((H4.put (.int .i64 r) (.int .i64 b) (.int .i64 L) (.int .i64 T'))).set2 (.int .i64 (0)))
  have R5 := Lib.hid ((R4.far4 (by omega : w.heap.size ≠ w.heap.size + 1) (.int .i64 r) (.int .i64 b) (.int .i64 L) (.int .i64 T')).far (k' := w.heap.size) (i := 2) (by omega) (.int .i64 (0)))
  have hB3 := (Cls.below_put4 hB2 (Nat.le_refl _) (.int .i64 r) (.int .i64 b) (.int .i64 L) (.int .i64 T')).setCell (p := ⟨w.heap.size, 2, none⟩) (Nat.le_refl _) (.int .i64 (0))
  clear H4 R4
  dsimp only
  go_upto_region 9 with (fail)
  change Code.wp _ _ _ _ ((Cls.put4 w2 w.heap.size (.int .i64 r) (.int .i64 b) (.int .i64 L) (.int .i64 T')).setCell ⟨w.heap.size, 2, none⟩ (.int .i64 (0)))
  generalize (Cls.put4 w2 w.heap.size (.int .i64 r) (.int .i64 b) (.int .i64 L) (.int .i64 T')).setCell ⟨w.heap.size, 2, none⟩ (.int .i64 (0)) = w3 at *
  clear c0 c1 c2 c3 f0 f1 f2 f3 hz z0 z1 z2 z3 y0 y1 y2 y3 hy hB2
  obtain ⟨c0, c1, c2, c3, f0, f1, f2, f3, hz⟩ := H5.out
  obtain ⟨z0, z1, z2, z3, y0, y1, y2, y3, hy⟩ := R5.out
  clear H5 R5
  go_wp2
  exact bodyPost_ret (v := .tuple #[.agg #[.int .i64 r, .int .i64 b, .int .i64 (0), .int .i64 T'], .int .i64 (L)]) (by simp [results, Tryz.results55, go_sem, c0, c1, c2, c3, z0, z1, z2, z3, hy, hz]) rfl ⟨by rw [e1.out, e2.out, e3.out]; simp, ((((hB3.setCell (p := ⟨w.heap.size + 1, 0, none⟩) (by show w.heap.size ≤ w.heap.size + 1; omega) _).setCell (p := ⟨w.heap.size + 1, 1, none⟩) (by show w.heap.size ≤ w.heap.size + 1; omega) _).setCell (p := ⟨w.heap.size + 1, 2, none⟩) (by show w.heap.size ≤ w.heap.size + 1; omega) _).setCell (p := ⟨w.heap.size + 1, 3, none⟩) (by show w.heap.size ≤ w.heap.size + 1; omega) _)⟩


theorem take_any (r b l t now n : Int) (w : World) :
    Calls Tryz.prog 55 #[.agg #[.int .i64 r, .int .i64 b, .int .i64 l, .int .i64 t], .int .i64 now, .int .i64 n] w fun e w' => e = .returned (.tuple #[.agg #[.int .i64 r, .int .i64 b, .int .i64 (takeL r b l t now n), .int .i64 (takeT r b l t now n)], .int .i64 (takeK r b l t now n)]) ∧ Below w.heap.size w w' := by
  cases h : okB r b l t with
  | false => exact take_no r b l t now n w h
  | true =>
    by_cases hn : n < 0
    · exact take_neg r b l t now n w h hn
    · by_cases hm : n ≤ fillL r b l t now
      · exact take_less r b l t now n w h (by omega) hm
      · exact take_most r b l t now n w h (by omega) (by omega)



end Go.Proofs.YtehpliclknfmoaaGreat.Ref08
namespace Go.Proofs.YtehpliclknfmoaaGreat.Ref08
open Go.RowKit Tick Bucket
set_option maxRecDepth 100000
set_option linter.unusedVariables false
set_option linter.unusedSimpArgs false
def newOk (r b t : Int) : Bool := rightB r && rightB b && rightB t && decide (b ≠ 0)
def newV (r b t : Int) : Value := if newOk r b t = true then .tuple #[.agg #[.int .i64 r, .int .i64 b, .int .i64 b, .int .i64 t], .int .i64 0] else .tuple #[.agg #[.int .i64 0, .int .i64 0, .int .i64 0, .int .i64 0], .int .i64 1]
theorem new_any (r b t : Int) (w : World) :
    Calls Tryz.prog 20 #[.int .i64 r, .int .i64 b, .int .i64 t] w fun e w' => e = .returned (newV r b t) ∧ Below w.heap.size w w' := by
  have hd := Lib.hid (show newV r b t = if newOk r b t = true then .tuple #[.agg #[.int .i64 r, .int .i64 b, .int .i64 b, .int .i64 t], .int .i64 0] else .tuple #[.agg #[.int .i64 0, .int .i64 0, .int .i64 0, .int .i64 0], .int .i64 1] from rfl)
  generalize newV r b t = z at *
  cases h1 : rightB r with
  | false =>
    have hz := Lib.hid (show z = _ from hd.out.trans (if_neg (by unfold newOk; rw [h1]; simp)))
    have h1' := Lib.hid h1
    clear h1 hd
    go_enter Tryz.func20, Tryz.ntmps20
    go_wp2_with (go_at_call 44; (with_reducible refine (is_no r _ h1'.out).mono ?_); rintro e w2 ⟨rfl, rfl⟩)
    exact bodyPost_ret (v := .tuple #[.agg #[.int .i64 0, .int .i64 0, .int .i64 0, .int .i64 0], .int .i64 1]) (by simp [results, Tryz.results20, go_sem]) rfl ⟨by rw [hz.out], (Below.refl _ _).alloc (Nat.le_refl _) _⟩
  | true =>
    have h1' := Lib.hid h1
    cases h2 : rightB b with
    | false =>
      have hz := Lib.hid (show z = _ from hd.out.trans (if_neg (by unfold newOk; rw [h1, h2]; simp)))
      have h2' := Lib.hid h2
      clear h1 h2 hd
      go_enter Tryz.func20, Tryz.ntmps20
      go_wp2_with (go_at_call 44; (first | (with_reducible refine (is_yes r _ h1'.out).mono ?_) | (with_reducible refine (is_no b _ h2'.out).mono ?_)); rintro e w2 ⟨rfl, rfl⟩)
      exact bodyPost_ret (v := .tuple #[.agg #[.int .i64 0, .int .i64 0, .int .i64 0, .int .i64 0], .int .i64 1]) (by simp [results, Tryz.results20, go_sem]) rfl ⟨by rw [hz.out], (Below.refl _ _).alloc (Nat.le_refl _) _⟩
    | true =>
      have h2' := Lib.hid h2
      cases h3 : rightB t with
      | false =>
        have hz := Lib.hid (show z = _ from hd.out.trans (if_neg (by unfold newOk; rw [h1, h2, h3]; simp)))
        have h3' := Lib.hid h3
        clear h1 h2 h3 hd
        go_enter Tryz.func20, Tryz.ntmps20
        go_wp2_with (go_at_call 44; (first | (with_reducible refine (is_yes r _ h1'.out).mono ?_) | (with_reducible refine (is_yes b _ h2'.out).mono ?_) | (with_reducible refine (is_no t _ h3'.out).mono ?_)); rintro e w2 ⟨rfl, rfl⟩)
        exact bodyPost_ret (v := .tuple #[.agg #[.int .i64 0, .int .i64 0, .int .i64 0, .int .i64 0], .int .i64 1]) (by simp [results, Tryz.results20, go_sem]) rfl ⟨by rw [hz.out], (Below.refl _ _).alloc (Nat.le_refl _) _⟩
      | true =>
        have h3' := Lib.hid h3
        by_cases h0 : b = 0
        · have hz := Lib.hid (show z = _ from hd.out.trans (if_neg (by unfold newOk; rw [h1, h2, h3]; simp [h0])))
          have t0 : (b == 0) = true := by simpa using h0
          clear h1 h2 h3 hd h0
          go_enter Tryz.func20, Tryz.ntmps20
          go_wp2_with (go_at_call 44; (first | (with_reducible refine (is_yes r _ h1'.out).mono ?_) | (with_reducible refine (is_yes b _ h2'.out).mono ?_) | (with_reducible refine (is_yes t _ h3'.out).mono ?_)); rintro e w2 ⟨rfl, rfl⟩)
          exact bodyPost_ret (v := .tuple #[.agg #[.int .i64 0, .int .i64 0, .int .i64 0, .int .i64 0], .int .i64 1]) (by simp [results, Tryz.results20, go_sem]) rfl ⟨by rw [hz.out], (Below.refl _ _).alloc (Nat.le_refl _) _⟩
        · have hz := Lib.hid (show z = _ from hd.out.trans (if_pos (by unfold newOk; rw [h1, h2, h3]; simp [h0])))
          have t0 : (b == 0) = false := by simpa using h0
          clear h1 h2 h3 hd h0
          go_enter Tryz.func20, Tryz.ntmps20
          go_wp2_with (go_at_call 44; (first | (with_reducible refine (is_yes r _ h1'.out).mono ?_) | (with_reducible refine (is_yes b _ h2'.out).mono ?_) | (with_reducible refine (is_yes t _ h3'.out).mono ?_)); rintro e w2 ⟨rfl, rfl⟩)
          exact bodyPost_ret (v := .tuple #[.agg #[.int .i64 r, .int .i64 b, .int .i64 b, .int .i64 t], .int .i64 0]) (by simp [results, Tryz.results20, go_sem]) rfl ⟨by rw [hz.out], (Below.refl _ _).alloc (Nat.le_refl _) _⟩
end Go.Proofs.YtehpliclknfmoaaGreat.Ref08
