/- The program's buckets: New, and Change, of what may be (chapter 08). Conditions: the numbers may be a bucket's. -/
import Derived.Test.YtehpliclknfmoaaBucketB
namespace Go.Proofs.Ytehpliclknfmoaa.Bucket
open Go.RowKit Tick
set_option maxRecDepth 100000
set_option linter.unusedVariables false
set_option linter.unusedSimpArgs false
theorem bnew_yes (r b t : Int) (w : World) (h : okB r b b t = true) :
    Calls Try.prog 25 #[.int .i64 r, .int .i64 b, .int .i64 t] w fun e w' => e = .returned (.tuple #[.agg #[.int .i64 r, .int .i64 b, .int .i64 b, .int .i64 t], .int .i64 0]) ∧ Below w.heap.size w w' := by
  have hk := Lib.hid h
  clear h
  go_enter Try.func25, Try.ntmps25
  have hB0 := (((Below.refl w.heap.size w).alloc (Nat.le_refl _) (.cells #[.int .i64 0, .int .i64 0, .int .i64 0, .int .i64 0] 59)).alloc (by simp) (.cells #[.int .i64 r, .int .i64 b, .int .i64 b, .int .i64 t] 59))
  have hrs := Lib.hid ((Cls.Box4.new w (.int .i64 0) (.int .i64 0) (.int .i64 0) (.int .i64 0) 59).old (.cells #[.int .i64 r, .int .i64 b, .int .i64 b, .int .i64 t] 59))
  have hbx := Lib.hid (Cls.Box4.new (w.alloc (.cells #[.int .i64 0, .int .i64 0, .int .i64 0, .int .i64 0] 59)) (.int .i64 r) (.int .i64 b) (.int .i64 b) (.int .i64 t) 59)
  go_wp2_with fail
  refine (right_any r b b t _).mono ?_
  rintro e w1 ⟨rfl, hb1⟩
  rw [hk.out]
  obtain ⟨z0, z1, z2, z3, y0, y1, y2, y3, hy⟩ := hrs.out.below hb1
  obtain ⟨c0, c1, c2, c3, f0, f1, f2, f3, hz⟩ := hbx.out.below hb1
  rw [World.size_alloc] at c0 c1 c2 c3 f0 f1 f2 f3 hz
  have hB1 := hB0.trans (hb1.mono (by simp; omega))
  clear hB0 hb1 hbx hrs
  go_wp2
  exact bodyPost_ret (v := .tuple #[.agg #[.int .i64 r, .int .i64 b, .int .i64 b, .int .i64 t], .int .i64 0]) (by simp [results, Try.results25, go_sem, c0, c1, c2, c3, z0, z1, z2, z3, hy, hz]) rfl ⟨rfl, ((((hB1.setCell (p := ⟨w.heap.size, 0, none⟩) (Nat.le_refl _) _).setCell (p := ⟨w.heap.size, 1, none⟩) (Nat.le_refl _) _).setCell (p := ⟨w.heap.size, 2, none⟩) (Nat.le_refl _) _).setCell (p := ⟨w.heap.size, 3, none⟩) (Nat.le_refl _) _)⟩
theorem bchange_yes (r b l t rate burst now : Int) (w : World) (h : okB r b l t = true) (hn : okB rate burst burst now = true) :
    Calls Try.prog 55 #[.agg #[.int .i64 r, .int .i64 b, .int .i64 l, .int .i64 t], .int .i64 rate, .int .i64 burst, .int .i64 now] w fun e w' =>
      e = .returned (.tuple #[.agg #[.int .i64 rate, .int .i64 burst, .int .i64 (min (fillL r b l t now) burst), .int .i64 (fillT r b l t now)], .int .i64 0]) ∧ Below w.heap.size w w' := by
  have hk := Lib.hid h
  have hkn := Lib.hid hn
  clear h hn
  go_enter Try.func55, Try.ntmps55
  have hB0 := (((Below.refl w.heap.size w).alloc (Nat.le_refl _) (.cells #[.int .i64 r, .int .i64 b, .int .i64 l, .int .i64 t] 59)).alloc (by simp) (.cells #[.int .i64 0, .int .i64 0, .int .i64 0, .int .i64 0] 59))
  have hbx := Lib.hid ((Cls.Box4.new w (.int .i64 r) (.int .i64 b) (.int .i64 l) (.int .i64 t) 59).old (.cells #[.int .i64 0, .int .i64 0, .int .i64 0, .int .i64 0] 59))
  have hrs := Lib.hid (Cls.Box4.new (w.alloc (.cells #[.int .i64 r, .int .i64 b, .int .i64 l, .int .i64 t] 59)) (.int .i64 0) (.int .i64 0) (.int .i64 0) (.int .i64 0) 59)
  go_wp2_with fail
  refine (bnew_yes rate burst now _ hkn.out).mono ?_
  rintro e w1 ⟨rfl, hb1⟩
  have hb1' := Lib.hid (hb1.alloc hb1.size (.cells #[.int .i64 rate, .int .i64 burst, .int .i64 burst, .int .i64 now] 59))
  obtain ⟨c0, c1, c2, c3, f0, f1, f2, f3, hz⟩ := hbx.out.below hb1
  clear hb1
  go_wp2_with fail
  refine (right_any r b l t _).mono ?_
  rintro e w2 ⟨rfl, hb2⟩
  rw [hk.out]
  have hb2' := Lib.hid (hb1'.out.trans (hb2.mono hb1'.out.size))
  clear hb2 c0 c1 c2 c3 f0 f1 f2 f3 hz hb1'
  obtain ⟨c0, c1, c2, c3, f0, f1, f2, f3, hz⟩ := hbx.out.below hb2'.out
  go_wp2_with fail
  refine (fill_any r b l t now _).mono ?_
  rintro e w3 ⟨rfl, hb3⟩
  have hb3' := hb2'.out.trans (hb3.mono hb2'.out.size)
  clear hb3 hb2' c0 c1 c2 c3 f0 f1 f2 f3 hz
  have H4 := hbx.out.below hb3'
  have R4 := hrs.out.below hb3'
  rw [World.size_alloc] at R4
  have hB3 := hB0.trans (hb3'.mono (by simp; omega))
  clear hB0 hb3' hbx hrs
  generalize hL : fillL r b l t now = L at *
  generalize hT : fillT r b l t now = T' at *
  have hL' := Lib.hid hL
  have hT' := Lib.hid hT
  clear hL hT
  obtain ⟨c0, c1, c2, c3, f0, f1, f2, f3, hz⟩ := H4
  have H5 := Lib.hid (Cls.Box4.put (w := w3) (k := w.heap.size) ⟨c0, c1, c2, c3, f0, f1, f2, f3, hz⟩ (.int .i64 r) (.int .i64 b) (.int .i64 L) (.int .i64 T'))
  have R5 := Lib.hid (R4.far4 (by omega : w.heap.size ≠ w.heap.size + 1) (.int .i64 r) (.int .i64 b) (.int .i64 L) (.int .i64 T'))
  have hB4 := Lib.hid (Cls.below_put4 hB3 (Nat.le_refl _) (.int .i64 r) (.int .i64 b) (.int .i64 L) (.int .i64 T'))
  clear R4 hB3
  dsimp only
  go_upto_region 5 with (fail)
  change Code.wp _ _ _ _ (Cls.put4 w3 w.heap.size (.int .i64 r) (.int .i64 b) (.int .i64 L) (.int .i64 T'))
  generalize Cls.put4 w3 w.heap.size (.int .i64 r) (.int .i64 b) (.int .i64 L) (.int .i64 T') = w4 at *
  clear c0 c1 c2 c3 f0 f1 f2 f3 hz
  obtain ⟨c0, c1, c2, c3, f0, f1, f2, f3, hz⟩ := H5.out
  have H6 := Lib.hid (((H5.out.set0 (.int .i64 rate)).set1 (.int .i64 burst)).set2 (.int .i64 (min L burst)))
  have R6 := Lib.hid (((R5.out.far (k' := w.heap.size) (i := 0) (by omega) (.int .i64 rate)).far (k' := w.heap.size) (i := 1) (by omega) (.int .i64 burst)).far (k' := w.heap.size) (i := 2) (by omega) (.int .i64 (min L burst)))
  have hB5 := Lib.hid (((hB4.out.setCell (p := ⟨w.heap.size, 0, none⟩) (Nat.le_refl _) (.int .i64 rate)).setCell (p := ⟨w.heap.size, 1, none⟩) (Nat.le_refl _) (.int .i64 burst)).setCell (p := ⟨w.heap.size, 2, none⟩) (Nat.le_refl _) (.int .i64 (min L burst)))
  clear H5 R5 hB4
  go_upto_region 6 with (fail)
  rw [show (if burst < L then burst else L) = min L burst by split <;> omega]
  generalize hM : min L burst = M at *
  have hM' := Lib.hid hM
  clear hM
  generalize ((w4.setCell ⟨w.heap.size, 0, none⟩ (.int .i64 rate)).setCell ⟨w.heap.size, 1, none⟩ (.int .i64 burst)).setCell ⟨w.heap.size, 2, none⟩ (.int .i64 M) = w5 at *
  clear c0 c1 c2 c3 f0 f1 f2 f3 hz
  obtain ⟨c0, c1, c2, c3, f0, f1, f2, f3, hz⟩ := H6.out
  obtain ⟨z0, z1, z2, z3, y0, y1, y2, y3, hy⟩ := R6.out
  clear H6 R6
  have hB6 := hB5.out
  go_wp2
  exact bodyPost_ret (v := .tuple #[.agg #[.int .i64 rate, .int .i64 burst, .int .i64 M, .int .i64 T'], .int .i64 0]) (by simp [results, Try.results55, go_sem, c0, c1, c2, c3, z0, z1, z2, z3, hy, hz]) rfl ⟨by rw [hL'.out, hT'.out, hM'.out], ((((hB6.setCell (p := ⟨w.heap.size + 1, 0, none⟩) (by show w.heap.size ≤ w.heap.size + 1; omega) _).setCell (p := ⟨w.heap.size + 1, 1, none⟩) (by show w.heap.size ≤ w.heap.size + 1; omega) _).setCell (p := ⟨w.heap.size + 1, 2, none⟩) (by show w.heap.size ≤ w.heap.size + 1; omega) _).setCell (p := ⟨w.heap.size + 1, 3, none⟩) (by show w.heap.size ≤ w.heap.size + 1; omega) _)⟩
end Go.Proofs.Ytehpliclknfmoaa.Bucket
