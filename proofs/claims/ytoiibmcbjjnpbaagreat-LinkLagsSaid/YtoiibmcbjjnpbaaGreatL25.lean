/- A link's Add (chapter 12). Conditions: as LinkB's. -/
import Derived.Maps.AppendAt
import Derived.Test.YtoiibmcbjjnpbaaGreatL24
import Derived.Test.YtoiibmcbjjnpbaaGreatL16
import Derived.Lib.SlBytesConst
namespace Go.Proofs.YtoiibmcbjjnpbaaGreat.Link
open Go.RowKit Mem Tick Cargo Toxic Stage Chain
open Go.Proofs.YtoiibmcbjjnpbaaGreatW.PrintLast Pu
set_option maxRecDepth 100000
set_option linter.unusedVariables false
set_option linter.unusedSimpArgs false
variable {w w' w1 : World} {F : Nat → Prop} {b : Nat} {x y : Lk} {M Q : Int}
theorem LKG.below {G : Nat → Prop} {c : Nat} {D : Lay} {v : Value} (h : LKG w F b x G c D v) (hb : Below w.heap.size w w') : LKG w' F b x G c D v := by
  have hl : ∀ j, F j → j < w.heap.size := fun j hj => h.lk.lt hj
  obtain ⟨h1, h2, h3, h4, h5⟩ := h
  exact ⟨h1.below hb, h2.below hb, h3, h4.kept fun j hj => hb.block j (hl j ((h5 j).2 (.inr (.inr hj)))), h5⟩
theorem LKG.far {G : Nat → Prop} {c : Nat} {D : Lay} {v : Value} (h : LKG w F b x G c D v) {g : Nat} {t : TypeId} {cs : Array Value} (hb : Blk w g t cs) (ht : t ∉ lts) (i : Nat) (u : Value) : LKG (w.setCell ⟨g, i, none⟩ u) F b x G c D v := by
  have hg : ¬ F g := h.lk.off hb ht
  obtain ⟨h1, h2, h3, h4, h5⟩ := h
  have hk : ∀ j, F j → (w.setCell ⟨g, i, none⟩ u).heap[j]? = w.heap[j]? := fun j hj => Below.heap_setCell w ⟨g, i, none⟩ u j fun e => hg (by have e' : j = g := e; exact e' ▸ hj)
  exact ⟨(hk b ((h5 b).2 (.inl rfl))).trans h1, h2.kept fun j hj => hk j ((h5 j).2 (.inr (.inl hj))), h3, h4.kept fun j hj => hk j ((h5 j).2 (.inr (.inr hj))), h5⟩
theorem add_bad (h : LK w F b x) (ho : OkK x M Q) (t0 : ByteArray) (t1 : Int) (t2 : Bool) (t3 t4 t5 now : Int) (hz : chk ⟨t0, t1, t2, t3, t4, t5⟩ ≠ 0) :
    Calls Tryz.prog 17 #[ptr b, .agg #[.string t0, .int .i64 t1, .bool t2, .int .i64 t3, .int .i64 t4, .int .i64 t5], .int .i64 now] w fun e w' => e = .returned (.int .i64 (chk ⟨t0, t1, t2, t3, t4, t5⟩)) ∧ LTu w F w' b (x) := by
  obtain ⟨G, c, D, v, h⟩ := h
  have hb0 := (Below.refl w.heap.size w).alloc (Nat.le_refl _) (.cells #[.string t0, .int .i64 t1, .bool t2, .int .i64 t3, .int .i64 t4, .int .i64 t5] 34)
  have hblk0 := Lib.hid (Blk.new w 34 #[.string t0, .int .i64 t1, .bool t2, .int .i64 t3, .int .i64 t4, .int .i64 t5])
  have hH0 := Lib.hid (h.below hb0)
  have hb0' := Lib.hid hb0
  have hck := Lib.hid (fun wy => check_any ⟨t0, t1, t2, t3, t4, t5⟩ wy)
  have hl0 := Lib.hid (LTu.refl h.lk)
  have tz : (chk ⟨t0, t1, t2, t3, t4, t5⟩ != 0) = true := by simpa using hz
  clear h hb0 ho hz
  generalize hE : chk ⟨t0, t1, t2, t3, t4, t5⟩ = E at *
  go_enter Tryz.func17, Tryz.ntmps17
  go_wp2_with fail
  refine (hck.out _).mono ?_
  rintro e w1 ⟨rfl, hB⟩
  have hB1 := Lib.hid (bw_below hb0'.out hB)
  have hblk1 := Lib.hid (hblk0.out.below hB)
  have hH1 := Lib.hid (hH0.out.below hB)
  clear hB hb0' hblk0 hH0 hck
  go_wp2
  refine start_ (n := 12) (S := fun w' => True) (ds := []) (m_ 12 0) (by kernel_rfl) rfl (by kernel_rfl) trivial (fun hHeld => ?_)
  refine pu_ 0 (some 14) (m_ 12 1) rfl rfl (by kernel_rfl) (fun _ _ _ h => h) (by rfl) (by intro w'; go_simp; with_reducible rfl) (by simp only [Act.put, List.setIfInBounds_toArray, List.set_cons_zero, List.set_cons_succ, i64_w, i32_w]; rfl) ?_
  refine pu_ 1 (some 15) (m_ 12 3) rfl rfl (by kernel_rfl) (fun _ _ _ h => h) (by rfl) (by intro w'; go_simp; with_reducible rfl) (by simp only [Act.put, List.setIfInBounds_toArray, List.set_cons_zero, List.set_cons_succ, i64_w, i32_w]; rfl) ?_
  refine pu_ 2 (some 16) (m_ 12 7) rfl rfl (by kernel_rfl) (fun _ _ _ h => h) (by rfl) (by intro w'; go_simp; with_reducible rfl) (by simp only [Act.put, List.setIfInBounds_toArray, List.set_cons_zero, List.set_cons_succ, i64_w, i32_w]; rfl) ?_
  refine po_ 3 (some 17) (m_ 12 15) rfl rfl (by kernel_rfl) (fun _ _ _ h => h) (by rfl) (by simp only [Act.put, List.setIfInBounds_toArray, List.set_cons_zero, List.set_cons_succ, i64_w, i32_w]; rfl) ?_
  refine po_ 4 (some 18) (m_ 12 31) rfl rfl (by kernel_rfl) (fun _ _ _ h => h) (by rfl) (by simp only [Act.put, List.setIfInBounds_toArray, List.set_cons_zero, List.set_cons_succ, i64_w, i32_w]; rfl) ?_
  refine po_ 5 (some 19) (m_ 12 63) rfl rfl (by kernel_rfl) (fun _ _ _ h => h) (by rfl) (by simp only [Act.put, List.setIfInBounds_toArray, List.set_cons_zero, List.set_cons_succ, i64_w, i32_w]; rfl) ?_
  refine po_ 6 (some 20) (m_ 12 127) rfl rfl (by kernel_rfl) (fun _ _ _ h => h) (by rfl) (by simp only [Act.put, List.setIfInBounds_toArray, List.set_cons_zero, List.set_cons_succ, i64_w, i32_w]; rfl) ?_
  refine po_ 7 (some 21) (m_ 12 255) rfl rfl (by kernel_rfl) (fun _ _ _ h => h) (by rfl) (by simp only [Act.put, List.setIfInBounds_toArray, List.set_cons_zero, List.set_cons_succ, i64_w, i32_w]; rfl) ?_
  refine po_ 8 (some 22) (m_ 12 511) rfl rfl (by kernel_rfl) (fun _ _ _ h => h) (by rfl) (by simp only [Act.put, List.setIfInBounds_toArray, List.set_cons_zero, List.set_cons_succ, i64_w, i32_w]; rfl) ?_
  refine po_ 9 (some 23) (m_ 12 1023) rfl rfl (by kernel_rfl) (fun _ _ _ h => h) (by rfl) (by simp only [Act.put, List.setIfInBounds_toArray, List.set_cons_zero, List.set_cons_succ, i64_w, i32_w]; rfl) ?_
  refine pu_ 10 (some 24) (m_ 12 2047) rfl rfl (by kernel_rfl) (fun _ _ _ h => h) (by rfl) (by intro w'; go_simp; with_reducible rfl) (by simp only [Act.put, List.setIfInBounds_toArray, List.set_cons_zero, List.set_cons_succ, i64_w, i32_w]; rfl) ?_
  refine pu_ 11 (some 13) (m_ 12 4095) rfl rfl (by kernel_rfl) (fun _ _ _ h => h) (by rfl) (by intro w'; go_simp; with_reducible rfl) (by simp only [Act.put, List.setIfInBounds_toArray, List.set_cons_zero, List.set_cons_succ, i64_w, i32_w]; rfl) ?_
  refine done_ (by kernel_rfl) ?_
  clear hHeld
  have hr := Lib.hid (show LTu w F w1.drew b x from hl0.out.trans (fun F' hL => LTu.below (w := w) hL hB1.out.drew))
  clear hH1 hblk1 hB1
  go_wp2
  go_ret
  exact ⟨rfl, hr.out⟩
theorem add_other (h : LK w F b x) (ho : OkK x M Q) (t0 : ByteArray) (t1 : Int) (t2 : Bool) (t3 t4 t5 now : Int) (hz : chk ⟨t0, t1, t2, t3, t4, t5⟩ = 0) (hu : t2 ≠ x.up) :
    Calls Tryz.prog 17 #[ptr b, .agg #[.string t0, .int .i64 t1, .bool t2, .int .i64 t3, .int .i64 t4, .int .i64 t5], .int .i64 now] w fun e w' => e = .returned (.int .i64 (0)) ∧ LTu w F w' b (x) := by
  obtain ⟨G, c, D, v, h⟩ := h
  have hb0 := (Below.refl w.heap.size w).alloc (Nat.le_refl _) (.cells #[.string t0, .int .i64 t1, .bool t2, .int .i64 t3, .int .i64 t4, .int .i64 t5] 34)
  have hblk0 := Lib.hid (Blk.new w 34 #[.string t0, .int .i64 t1, .bool t2, .int .i64 t3, .int .i64 t4, .int .i64 t5])
  have hH0 := Lib.hid (h.below hb0)
  have hb0' := Lib.hid hb0
  have hck := Lib.hid (fun wy => check_any ⟨t0, t1, t2, t3, t4, t5⟩ wy)
  have hl0 := Lib.hid (LTu.refl h.lk)
  have tu : (t2 != x.up) = true := by simpa using hu
  have tu2 : (t2 == x.up) = false := by simpa using hu
  rw [hz] at hck
  clear h hb0 ho hz hu
  go_enter Tryz.func17, Tryz.ntmps17
  go_wp2_with fail
  refine (hck.out _).mono ?_
  rintro e w1 ⟨rfl, hB⟩
  have hB1 := Lib.hid (bw_below hb0'.out hB)
  have hblk1 := Lib.hid (hblk0.out.below hB)
  have hH1 := Lib.hid (hH0.out.below hB)
  clear hB hb0' hblk0 hH0 hck
  have e2 : w1.cell? ⟨w.heap.size, 2, none⟩ = some (.bool t2) := (hblk1.out.cell 2).trans rfl
  have d2 : w1.cell? ⟨b, 2, none⟩ = some (.bool x.up) := (hH1.out.cell 2).trans rfl
  go_wp2
  refine start_ (n := 12) (S := fun w' => w'.cell? ⟨w.heap.size, 2, none⟩ = some (.bool t2) ∧ w'.cell? ⟨b, 2, none⟩ = some (.bool x.up)) (ds := []) (m_ 12 0) (by kernel_rfl) rfl (by kernel_rfl) ⟨e2, d2⟩ (fun hHeld => ?_)
  refine pu_ 0 (some 14) (m_ 12 1) rfl rfl (by kernel_rfl) (fun _ _ _ h => h) (by rfl) (by intro w'; go_simp; with_reducible rfl) (by simp only [Act.put, List.setIfInBounds_toArray, List.set_cons_zero, List.set_cons_succ, i64_w, i32_w]; rfl) ?_
  refine pu_ 1 (some 15) (m_ 12 3) rfl rfl (by kernel_rfl) (fun _ _ _ h => h) (by rfl) (by intro w'; go_simp; with_reducible rfl) (by simp only [Act.put, List.setIfInBounds_toArray, List.set_cons_zero, List.set_cons_succ, i64_w, i32_w]; rfl) ?_
  refine pu_ 2 (some 16) (m_ 12 7) rfl rfl (by kernel_rfl) (fun _ _ _ h => h) (by rfl) (by intro w'; go_simp; with_reducible rfl) (by simp only [Act.put, List.setIfInBounds_toArray, List.set_cons_zero, List.set_cons_succ, i64_w, i32_w]; rfl) ?_
  refine pu_ 3 (some 17) (m_ 12 15) rfl rfl (by kernel_rfl) (fun _ _ _ h => h) (by rfl) (by intro w'; go_simp; with_reducible rfl) (by simp only [Act.put, List.setIfInBounds_toArray, List.set_cons_zero, List.set_cons_succ, i64_w, i32_w]; rfl) ?_
  refine pu_ 5 (some 19) (m_ 12 47) rfl rfl (by kernel_rfl) (fun _ _ _ h => h) (by rfl) (by intro w'; go_simp; with_reducible rfl) (by simp only [Act.put, List.setIfInBounds_toArray, List.set_cons_zero, List.set_cons_succ, i64_w, i32_w]; rfl) ?_
  refine pu_ 6 (some 20) (m_ 12 111) rfl rfl (by kernel_rfl) (fun _ _ _ h => h) (by rfl) (by intro w'; go_simp; with_reducible rfl) (by simp only [Act.put, List.setIfInBounds_toArray, List.set_cons_zero, List.set_cons_succ, i64_w, i32_w]; rfl) ?_
  refine pu_ 7 (some 21) (m_ 12 239) rfl rfl (by kernel_rfl) (fun _ _ _ h => h) (by rfl) (by intro w'; go_simp; with_reducible rfl) (by simp only [Act.put, List.setIfInBounds_toArray, List.set_cons_zero, List.set_cons_succ, i64_w, i32_w]; rfl) ?_
  refine tk_ 4 (some 18) (m_ 12 255) rfl rfl (by kernel_rfl) (fun _ _ _ h => h) (by rfl) (by rintro w' ⟨s0, s1⟩; go_simp; with_reducible rfl) hHeld (by simp only [Act.put, List.setIfInBounds_toArray, List.set_cons_zero, List.set_cons_succ, i64_w, i32_w]; rfl) ?_
  refine tk_ 8 (some 22) (m_ 12 511) rfl rfl (by kernel_rfl) (fun _ _ _ h => h) (by rfl) (by rintro w' ⟨s0, s1⟩; go_simp; with_reducible rfl) hHeld (by simp only [Act.put, List.setIfInBounds_toArray, List.set_cons_zero, List.set_cons_succ, i64_w, i32_w]; rfl) ?_
  refine pu_ 9 (some 23) (m_ 12 1023) rfl rfl (by kernel_rfl) (fun _ _ _ h => h) (by rfl) (by intro w'; go_simp; with_reducible rfl) (by simp only [Act.put, List.setIfInBounds_toArray, List.set_cons_zero, List.set_cons_succ, i64_w, i32_w]; rfl) ?_
  refine pu_ 10 (some 24) (m_ 12 2047) rfl rfl (by kernel_rfl) (fun _ _ _ h => h) (by rfl) (by intro w'; go_simp; with_reducible rfl) (by simp only [Act.put, List.setIfInBounds_toArray, List.set_cons_zero, List.set_cons_succ, i64_w, i32_w]; rfl) ?_
  refine pu_ 11 (some 13) (m_ 12 4095) rfl rfl (by kernel_rfl) (fun _ _ _ h => h) (by rfl) (by intro w'; go_simp; with_reducible rfl) (by simp only [Act.put, List.setIfInBounds_toArray, List.set_cons_zero, List.set_cons_succ, i64_w, i32_w]; rfl) ?_
  refine done_ (by kernel_rfl) ?_
  clear hHeld e2 d2
  have hr := Lib.hid (show LTu w F w1.drew b x from hl0.out.trans (fun F' hL => LTu.below (w := w) hL hB1.out.drew))
  clear hH1 hblk1 hB1
  go_wp2
  go_ret
  exact ⟨rfl, hr.out⟩
theorem add_there (h : LK w F b x) (ho : OkK x M Q) (t0 : ByteArray) (t1 : Int) (t2 : Bool) (t3 t4 t5 now : Int) (hz : chk ⟨t0, t1, t2, t3, t4, t5⟩ = 0) (hu : t2 = x.up) (hi : (idxN x.names t0).isSome = true) :
    Calls Tryz.prog 17 #[ptr b, .agg #[.string t0, .int .i64 t1, .bool t2, .int .i64 t3, .int .i64 t4, .int .i64 t5], .int .i64 now] w fun e w' => e = .returned (.int .i64 (141)) ∧ LTu w F w' b (x) := by
  obtain ⟨G, c, D, v, h⟩ := h
  have hb0 := (Below.refl w.heap.size w).alloc (Nat.le_refl _) (.cells #[.string t0, .int .i64 t1, .bool t2, .int .i64 t3, .int .i64 t4, .int .i64 t5] 34)
  have hblk0 := Lib.hid (Blk.new w 34 #[.string t0, .int .i64 t1, .bool t2, .int .i64 t3, .int .i64 t4, .int .i64 t5])
  have hH0 := Lib.hid (h.below hb0)
  have hb0' := Lib.hid hb0
  have hck := Lib.hid (fun wy => check_any ⟨t0, t1, t2, t3, t4, t5⟩ wy)
  have hl0 := Lib.hid (LTu.refl h.lk)
  have hvs := h.2.2.2.1.sr
  obtain ⟨A0, cp0, hv, _⟩ := hvs
  subst hv
  have tu : (t2 != x.up) = false := by rw [hu]; simp
  have tu2 : (t2 == x.up) = true := by rw [hu]; simp
  rw [hz] at hck
  have hnl : x.names.length ≤ 8 := by have := ho.n; have := ho.c.ten; omega
  have ho' := Lib.hid ho
  have his := hi
  clear h hb0 ho hz hu hi
  go_enter Tryz.func17, Tryz.ntmps17
  go_wp2_with fail
  refine (hck.out _).mono ?_
  rintro e w1 ⟨rfl, hB⟩
  have hB1 := Lib.hid (bw_below hb0'.out hB)
  have hblk1 := Lib.hid (hblk0.out.below hB)
  have hH1 := Lib.hid (hH0.out.below hB)
  clear hB hb0' hblk0 hH0 hck
  have e2 : w1.cell? ⟨w.heap.size, 2, none⟩ = some (.bool t2) := (hblk1.out.cell 2).trans rfl
  have d2 : w1.cell? ⟨b, 2, none⟩ = some (.bool x.up) := (hH1.out.cell 2).trans rfl
  have d1 : w1.cell? ⟨b, 1, none⟩ = some (.slice A0 x.names.length cp0) := (hH1.out.cell 1).trans rfl
  have e0 : w1.cell? ⟨w.heap.size, 0, none⟩ = some (.string t0) := (hblk1.out.cell 0).trans rfl
  have hco := Lib.hid (contains_any w1.drew.drew (.slice A0 x.names.length cp0) x.names t0 (show SR w1.drew.drew _ _ from (hH1.out.2.2.2.1).sr) (by omega))
  go_wp2
  refine start_ (n := 12) (S := fun w' => w'.cell? ⟨w.heap.size, 2, none⟩ = some (.bool t2) ∧ w'.cell? ⟨b, 2, none⟩ = some (.bool x.up)) (ds := []) (m_ 12 0) (by kernel_rfl) rfl (by kernel_rfl) ⟨e2, d2⟩ (fun hHeld => ?_)
  refine pu_ 0 (some 14) (m_ 12 1) rfl rfl (by kernel_rfl) (fun _ _ _ h => h) (by rfl) (by intro w'; go_simp; with_reducible rfl) (by simp only [Act.put, List.setIfInBounds_toArray, List.set_cons_zero, List.set_cons_succ, i64_w, i32_w]; rfl) ?_
  refine pu_ 1 (some 15) (m_ 12 3) rfl rfl (by kernel_rfl) (fun _ _ _ h => h) (by rfl) (by intro w'; go_simp; with_reducible rfl) (by simp only [Act.put, List.setIfInBounds_toArray, List.set_cons_zero, List.set_cons_succ, i64_w, i32_w]; rfl) ?_
  refine pu_ 2 (some 16) (m_ 12 7) rfl rfl (by kernel_rfl) (fun _ _ _ h => h) (by rfl) (by intro w'; go_simp; with_reducible rfl) (by simp only [Act.put, List.setIfInBounds_toArray, List.set_cons_zero, List.set_cons_succ, i64_w, i32_w]; rfl) ?_
  refine pu_ 3 (some 17) (m_ 12 15) rfl rfl (by kernel_rfl) (fun _ _ _ h => h) (by rfl) (by intro w'; go_simp; with_reducible rfl) (by simp only [Act.put, List.setIfInBounds_toArray, List.set_cons_zero, List.set_cons_succ, i64_w, i32_w]; rfl) ?_
  refine pu_ 5 (some 19) (m_ 12 47) rfl rfl (by kernel_rfl) (fun _ _ _ h => h) (by rfl) (by intro w'; go_simp; with_reducible rfl) (by simp only [Act.put, List.setIfInBounds_toArray, List.set_cons_zero, List.set_cons_succ, i64_w, i32_w]; rfl) ?_
  refine pu_ 6 (some 20) (m_ 12 111) rfl rfl (by kernel_rfl) (fun _ _ _ h => h) (by rfl) (by intro w'; go_simp; with_reducible rfl) (by simp only [Act.put, List.setIfInBounds_toArray, List.set_cons_zero, List.set_cons_succ, i64_w, i32_w]; rfl) ?_
  refine pu_ 7 (some 21) (m_ 12 239) rfl rfl (by kernel_rfl) (fun _ _ _ h => h) (by rfl) (by intro w'; go_simp; with_reducible rfl) (by simp only [Act.put, List.setIfInBounds_toArray, List.set_cons_zero, List.set_cons_succ, i64_w, i32_w]; rfl) ?_
  refine tk_ 4 (some 18) (m_ 12 255) rfl rfl (by kernel_rfl) (fun _ _ _ h => h) (by rfl) (by rintro w' ⟨s0, s1⟩; go_simp; with_reducible rfl) hHeld (by simp only [Act.put, List.setIfInBounds_toArray, List.set_cons_zero, List.set_cons_succ, i64_w, i32_w]; rfl) ?_
  refine tk_ 8 (some 22) (m_ 12 511) rfl rfl (by kernel_rfl) (fun _ _ _ h => h) (by rfl) (by rintro w' ⟨s0, s1⟩; go_simp; with_reducible rfl) hHeld (by simp only [Act.put, List.setIfInBounds_toArray, List.set_cons_zero, List.set_cons_succ, i64_w, i32_w]; rfl) ?_
  refine pu_ 9 (some 23) (m_ 12 1023) rfl rfl (by kernel_rfl) (fun _ _ _ h => h) (by rfl) (by intro w'; go_simp; with_reducible rfl) (by simp only [Act.put, List.setIfInBounds_toArray, List.set_cons_zero, List.set_cons_succ, i64_w, i32_w]; rfl) ?_
  refine pu_ 10 (some 24) (m_ 12 2047) rfl rfl (by kernel_rfl) (fun _ _ _ h => h) (by rfl) (by intro w'; go_simp; with_reducible rfl) (by simp only [Act.put, List.setIfInBounds_toArray, List.set_cons_zero, List.set_cons_succ, i64_w, i32_w]; rfl) ?_
  refine pu_ 11 (some 13) (m_ 12 4095) rfl rfl (by kernel_rfl) (fun _ _ _ h => h) (by rfl) (by intro w'; go_simp; with_reducible rfl) (by simp only [Act.put, List.setIfInBounds_toArray, List.set_cons_zero, List.set_cons_succ, i64_w, i32_w]; rfl) ?_
  refine done_ (by kernel_rfl) ?_
  clear hHeld
  go_wp2
  refine start_ (n := 8) (S := fun w' => w'.cell? ⟨b, 1, none⟩ = some (.slice A0 x.names.length cp0) ∧ w'.cell? ⟨w.heap.size, 0, none⟩ = some (.string t0)) (ds := []) (m_ 8 0) (by kernel_rfl) rfl (by kernel_rfl) ⟨d1, e0⟩ (fun hHeld => ?_)
  refine pu_ 0 (some 27) (m_ 8 1) rfl rfl (by kernel_rfl) (fun _ _ _ h => h) (by rfl) (by intro w'; go_simp; with_reducible rfl) (by simp only [Act.put, List.setIfInBounds_toArray, List.set_cons_zero, List.set_cons_succ, i64_w, i32_w]; rfl) ?_
  refine pu_ 1 (some 28) (m_ 8 3) rfl rfl (by kernel_rfl) (fun _ _ _ h => h) (by rfl) (by intro w'; go_simp; with_reducible rfl) (by simp only [Act.put, List.setIfInBounds_toArray, List.set_cons_zero, List.set_cons_succ, i64_w, i32_w]; rfl) ?_
  refine pu_ 2 (some 29) (m_ 8 7) rfl rfl (by kernel_rfl) (fun _ _ _ h => h) (by rfl) (by intro w'; go_simp; with_reducible rfl) (by simp only [Act.put, List.setIfInBounds_toArray, List.set_cons_zero, List.set_cons_succ, i64_w, i32_w]; rfl) ?_
  refine pu_ 4 (some 31) (m_ 8 23) rfl rfl (by kernel_rfl) (fun _ _ _ h => h) (by rfl) (by intro w'; go_simp; with_reducible rfl) (by simp only [Act.put, List.setIfInBounds_toArray, List.set_cons_zero, List.set_cons_succ, i64_w, i32_w]; rfl) ?_
  refine tk_ 3 (some 30) (m_ 8 31) rfl rfl (by kernel_rfl) (fun _ _ _ h => h) (by rfl) (by rintro w' ⟨s0, s1⟩; go_simp; with_reducible rfl) hHeld (by simp only [Act.put, List.setIfInBounds_toArray, List.set_cons_zero, List.set_cons_succ, i64_w, i32_w]; rfl) ?_
  refine tk_ 5 (some 32) (m_ 8 63) rfl rfl (by kernel_rfl) (fun _ _ _ h => h) (by rfl) (by rintro w' ⟨s0, s1⟩; go_simp; with_reducible rfl) hHeld (by simp only [Act.put, List.setIfInBounds_toArray, List.set_cons_zero, List.set_cons_succ, i64_w, i32_w]; rfl) ?_
  refine one_ (i := 6) (N := some 33) (m_ 8 127) rfl rfl (by kernel_rfl) (by decide) (fun K hK => ?_)
  refine goes_ Tryz.func33 (by kernel_rfl) rfl #[.slice A0 x.names.length cp0, .string t0] (by rfl) rfl rfl (by simp only [List.map_toArray, List.map_cons, List.map_nil]; rfl) ?_
  with_reducible refine (hco.out).mono ?_
  rintro e w2 ⟨rfl, rfl⟩
  rw [his]
  refine ⟨_, rfl, ?_⟩
  refine hK.out _ _ ⟨d1, e0⟩ (fun hHeld => ?_)
  clear hK K
  refine norm_ (a' := ?_) ?_ ?_
  rotate_left
  · show Act.put _ (some 33) _ = _
    simp only [Act.put, List.setIfInBounds_toArray, List.set_cons_zero, List.set_cons_succ, i64_w, i32_w]
    rfl
  refine pu_ 7 (some 26) (m_ 8 255) rfl rfl (by kernel_rfl) (fun _ _ _ h => h) (by rfl) (by intro w'; go_simp; with_reducible rfl) (by simp only [Act.put, List.setIfInBounds_toArray, List.set_cons_zero, List.set_cons_succ, i64_w, i32_w]; rfl) ?_
  refine done_ (by kernel_rfl) ?_
  clear hHeld e2 d2 d1 e0 hco
  have hr := Lib.hid (show LTu w F w1.drew.drew b x from hl0.out.trans (fun F' hL => LTu.below (w := w) hL hB1.out.drew.drew))
  clear hH1 hblk1 hB1
  go_wp2
  go_ret
  exact ⟨rfl, hr.out⟩
theorem add_full (h : LK w F b x) (ho : OkK x M Q) (t0 : ByteArray) (t1 : Int) (t2 : Bool) (t3 t4 t5 now : Int) (hz : chk ⟨t0, t1, t2, t3, t4, t5⟩ = 0) (hu : t2 = x.up) (hi : (idxN x.names t0).isSome = false) (hf : 8 ≤ x.names.length) :
    Calls Tryz.prog 17 #[ptr b, .agg #[.string t0, .int .i64 t1, .bool t2, .int .i64 t3, .int .i64 t4, .int .i64 t5], .int .i64 now] w fun e w' => e = .returned (.int .i64 (110)) ∧ LTu w F w' b (x) := by
  obtain ⟨G, c, D, v, h⟩ := h
  have hb0 := (Below.refl w.heap.size w).alloc (Nat.le_refl _) (.cells #[.string t0, .int .i64 t1, .bool t2, .int .i64 t3, .int .i64 t4, .int .i64 t5] 34)
  have hblk0 := Lib.hid (Blk.new w 34 #[.string t0, .int .i64 t1, .bool t2, .int .i64 t3, .int .i64 t4, .int .i64 t5])
  have hH0 := Lib.hid (h.below hb0)
  have hb0' := Lib.hid hb0
  have hck := Lib.hid (fun wy => check_any ⟨t0, t1, t2, t3, t4, t5⟩ wy)
  have hl0 := Lib.hid (LTu.refl h.lk)
  have hvs := h.2.2.2.1.sr
  obtain ⟨A0, cp0, hv, _⟩ := hvs
  subst hv
  have tu : (t2 != x.up) = false := by rw [hu]; simp
  have tu2 : (t2 == x.up) = true := by rw [hu]; simp
  rw [hz] at hck
  have hnl : x.names.length ≤ 8 := by have := ho.n; have := ho.c.ten; omega
  have ho' := Lib.hid ho
  have his := hi
  have tf : decide ((8 : Int) ≤ (x.names.length : Int)) = true := decide_eq_true (by omega)
  clear h hb0 ho hz hu hi
  go_enter Tryz.func17, Tryz.ntmps17
  go_wp2_with fail
  refine (hck.out _).mono ?_
  rintro e w1 ⟨rfl, hB⟩
  have hB1 := Lib.hid (bw_below hb0'.out hB)
  have hblk1 := Lib.hid (hblk0.out.below hB)
  have hH1 := Lib.hid (hH0.out.below hB)
  clear hB hb0' hblk0 hH0 hck
  have e2 : w1.cell? ⟨w.heap.size, 2, none⟩ = some (.bool t2) := (hblk1.out.cell 2).trans rfl
  have d2 : w1.cell? ⟨b, 2, none⟩ = some (.bool x.up) := (hH1.out.cell 2).trans rfl
  have d1 : w1.cell? ⟨b, 1, none⟩ = some (.slice A0 x.names.length cp0) := (hH1.out.cell 1).trans rfl
  have e0 : w1.cell? ⟨w.heap.size, 0, none⟩ = some (.string t0) := (hblk1.out.cell 0).trans rfl
  have hco := Lib.hid (contains_any w1.drew.drew (.slice A0 x.names.length cp0) x.names t0 (show SR w1.drew.drew _ _ from (hH1.out.2.2.2.1).sr) (by omega))
  go_wp2
  refine start_ (n := 12) (S := fun w' => w'.cell? ⟨w.heap.size, 2, none⟩ = some (.bool t2) ∧ w'.cell? ⟨b, 2, none⟩ = some (.bool x.up)) (ds := []) (m_ 12 0) (by kernel_rfl) rfl (by kernel_rfl) ⟨e2, d2⟩ (fun hHeld => ?_)
  refine pu_ 0 (some 14) (m_ 12 1) rfl rfl (by kernel_rfl) (fun _ _ _ h => h) (by rfl) (by intro w'; go_simp; with_reducible rfl) (by simp only [Act.put, List.setIfInBounds_toArray, List.set_cons_zero, List.set_cons_succ, i64_w, i32_w]; rfl) ?_
  refine pu_ 1 (some 15) (m_ 12 3) rfl rfl (by kernel_rfl) (fun _ _ _ h => h) (by rfl) (by intro w'; go_simp; with_reducible rfl) (by simp only [Act.put, List.setIfInBounds_toArray, List.set_cons_zero, List.set_cons_succ, i64_w, i32_w]; rfl) ?_
  refine pu_ 2 (some 16) (m_ 12 7) rfl rfl (by kernel_rfl) (fun _ _ _ h => h) (by rfl) (by intro w'; go_simp; with_reducible rfl) (by simp only [Act.put, List.setIfInBounds_toArray, List.set_cons_zero, List.set_cons_succ, i64_w, i32_w]; rfl) ?_
  refine pu_ 3 (some 17) (m_ 12 15) rfl rfl (by kernel_rfl) (fun _ _ _ h => h) (by rfl) (by intro w'; go_simp; with_reducible rfl) (by simp only [Act.put, List.setIfInBounds_toArray, List.set_cons_zero, List.set_cons_succ, i64_w, i32_w]; rfl) ?_
  refine pu_ 5 (some 19) (m_ 12 47) rfl rfl (by kernel_rfl) (fun _ _ _ h => h) (by rfl) (by intro w'; go_simp; with_reducible rfl) (by simp only [Act.put, List.setIfInBounds_toArray, List.set_cons_zero, List.set_cons_succ, i64_w, i32_w]; rfl) ?_
  refine pu_ 6 (some 20) (m_ 12 111) rfl rfl (by kernel_rfl) (fun _ _ _ h => h) (by rfl) (by intro w'; go_simp; with_reducible rfl) (by simp only [Act.put, List.setIfInBounds_toArray, List.set_cons_zero, List.set_cons_succ, i64_w, i32_w]; rfl) ?_
  refine pu_ 7 (some 21) (m_ 12 239) rfl rfl (by kernel_rfl) (fun _ _ _ h => h) (by rfl) (by intro w'; go_simp; with_reducible rfl) (by simp only [Act.put, List.setIfInBounds_toArray, List.set_cons_zero, List.set_cons_succ, i64_w, i32_w]; rfl) ?_
  refine tk_ 4 (some 18) (m_ 12 255) rfl rfl (by kernel_rfl) (fun _ _ _ h => h) (by rfl) (by rintro w' ⟨s0, s1⟩; go_simp; with_reducible rfl) hHeld (by simp only [Act.put, List.setIfInBounds_toArray, List.set_cons_zero, List.set_cons_succ, i64_w, i32_w]; rfl) ?_
  refine tk_ 8 (some 22) (m_ 12 511) rfl rfl (by kernel_rfl) (fun _ _ _ h => h) (by rfl) (by rintro w' ⟨s0, s1⟩; go_simp; with_reducible rfl) hHeld (by simp only [Act.put, List.setIfInBounds_toArray, List.set_cons_zero, List.set_cons_succ, i64_w, i32_w]; rfl) ?_
  refine pu_ 9 (some 23) (m_ 12 1023) rfl rfl (by kernel_rfl) (fun _ _ _ h => h) (by rfl) (by intro w'; go_simp; with_reducible rfl) (by simp only [Act.put, List.setIfInBounds_toArray, List.set_cons_zero, List.set_cons_succ, i64_w, i32_w]; rfl) ?_
  refine pu_ 10 (some 24) (m_ 12 2047) rfl rfl (by kernel_rfl) (fun _ _ _ h => h) (by rfl) (by intro w'; go_simp; with_reducible rfl) (by simp only [Act.put, List.setIfInBounds_toArray, List.set_cons_zero, List.set_cons_succ, i64_w, i32_w]; rfl) ?_
  refine pu_ 11 (some 13) (m_ 12 4095) rfl rfl (by kernel_rfl) (fun _ _ _ h => h) (by rfl) (by intro w'; go_simp; with_reducible rfl) (by simp only [Act.put, List.setIfInBounds_toArray, List.set_cons_zero, List.set_cons_succ, i64_w, i32_w]; rfl) ?_
  refine done_ (by kernel_rfl) ?_
  clear hHeld
  go_wp2
  refine start_ (n := 8) (S := fun w' => w'.cell? ⟨b, 1, none⟩ = some (.slice A0 x.names.length cp0) ∧ w'.cell? ⟨w.heap.size, 0, none⟩ = some (.string t0)) (ds := []) (m_ 8 0) (by kernel_rfl) rfl (by kernel_rfl) ⟨d1, e0⟩ (fun hHeld => ?_)
  refine pu_ 0 (some 27) (m_ 8 1) rfl rfl (by kernel_rfl) (fun _ _ _ h => h) (by rfl) (by intro w'; go_simp; with_reducible rfl) (by simp only [Act.put, List.setIfInBounds_toArray, List.set_cons_zero, List.set_cons_succ, i64_w, i32_w]; rfl) ?_
  refine pu_ 1 (some 28) (m_ 8 3) rfl rfl (by kernel_rfl) (fun _ _ _ h => h) (by rfl) (by intro w'; go_simp; with_reducible rfl) (by simp only [Act.put, List.setIfInBounds_toArray, List.set_cons_zero, List.set_cons_succ, i64_w, i32_w]; rfl) ?_
  refine pu_ 2 (some 29) (m_ 8 7) rfl rfl (by kernel_rfl) (fun _ _ _ h => h) (by rfl) (by intro w'; go_simp; with_reducible rfl) (by simp only [Act.put, List.setIfInBounds_toArray, List.set_cons_zero, List.set_cons_succ, i64_w, i32_w]; rfl) ?_
  refine pu_ 4 (some 31) (m_ 8 23) rfl rfl (by kernel_rfl) (fun _ _ _ h => h) (by rfl) (by intro w'; go_simp; with_reducible rfl) (by simp only [Act.put, List.setIfInBounds_toArray, List.set_cons_zero, List.set_cons_succ, i64_w, i32_w]; rfl) ?_
  refine tk_ 3 (some 30) (m_ 8 31) rfl rfl (by kernel_rfl) (fun _ _ _ h => h) (by rfl) (by rintro w' ⟨s0, s1⟩; go_simp; with_reducible rfl) hHeld (by simp only [Act.put, List.setIfInBounds_toArray, List.set_cons_zero, List.set_cons_succ, i64_w, i32_w]; rfl) ?_
  refine tk_ 5 (some 32) (m_ 8 63) rfl rfl (by kernel_rfl) (fun _ _ _ h => h) (by rfl) (by rintro w' ⟨s0, s1⟩; go_simp; with_reducible rfl) hHeld (by simp only [Act.put, List.setIfInBounds_toArray, List.set_cons_zero, List.set_cons_succ, i64_w, i32_w]; rfl) ?_
  refine one_ (i := 6) (N := some 33) (m_ 8 127) rfl rfl (by kernel_rfl) (by decide) (fun K hK => ?_)
  refine goes_ Tryz.func33 (by kernel_rfl) rfl #[.slice A0 x.names.length cp0, .string t0] (by rfl) rfl rfl (by simp only [List.map_toArray, List.map_cons, List.map_nil]; rfl) ?_
  with_reducible refine (hco.out).mono ?_
  rintro e w2 ⟨rfl, rfl⟩
  rw [his]
  refine ⟨_, rfl, ?_⟩
  refine hK.out _ _ ⟨d1, e0⟩ (fun hHeld => ?_)
  clear hK K
  refine norm_ (a' := ?_) ?_ ?_
  rotate_left
  · show Act.put _ (some 33) _ = _
    simp only [Act.put, List.setIfInBounds_toArray, List.set_cons_zero, List.set_cons_succ, i64_w, i32_w]
    rfl
  refine pu_ 7 (some 26) (m_ 8 255) rfl rfl (by kernel_rfl) (fun _ _ _ h => h) (by rfl) (by intro w'; go_simp; with_reducible rfl) (by simp only [Act.put, List.setIfInBounds_toArray, List.set_cons_zero, List.set_cons_succ, i64_w, i32_w]; rfl) ?_
  refine done_ (by kernel_rfl) ?_
  clear hHeld e2 d2 e0 hco
  have hr := Lib.hid (show LTu w F w1.drew.drew b x from hl0.out.trans (fun F' hL => LTu.below (w := w) hL hB1.out.drew.drew))
  clear hH1 hblk1 hB1
  go_wp2
  go_ret
  exact ⟨rfl, hr.out⟩
theorem LKG.drew {G : Nat → Prop} {c : Nat} {D : Lay} {v : Value} (h : LKG w F b x G c D v) : LKG w.drew F b x G c D v := h.below (Below.refl _ _).drew
theorem drawn_w (n : Int) (h0 : 0 ≤ n) (h1 : n ≤ 1000000000) : IntKind.u64.wrap n = n ∧ wrap64 (n + 1) = n + 1 := by
  constructor
  · rw [IntKind.wrap_u64]; omega
  · unfold wrap64; omega
theorem nums_one (w : World) (n : Int) (h0 : 0 ≤ n) (h1 : n ≤ 1000000000) : Ref02.Nums .u64 (w.alloc (.cells #[.int .u64 n] 23)) (.slice (some ⟨w.heap.size, 0, none⟩) 1 1) [n] := by
  refine ⟨_, 1, 1, rfl, rfl, (by show (1 : Nat) ≤ 9223372036854775807; decide), fun y hy => ?_, fun _ => ⟨w.heap.size, 0, rfl, fun j y hj => ?_⟩, fun e => by cases e⟩
  · rw [List.mem_singleton.1 hy]
    unfold Lit.wf
    rw [Bool.and_eq_true, decide_eq_true_eq, decide_eq_true_eq]
    have e1 : IntKind.u64.min = 0 := by decide
    have e2 : IntKind.u64.max = 18446744073709551615 := by decide
    rw [e1, e2]
    omega
  · rw [Nat.zero_add]
    rcases j with _ | j
    · cases hj
      exact (Blk.new w 23 #[.int .u64 n]).cell 0
    · simp at hj
theorem own_slice {base : Nat} {e : TypeId} {size : Nat} {v : Value} {n : Nat} {xs : List Value} (h : w.ownsRow base e size v n xs) : ∃ A c, v = .slice A n c := by
  rcases h.2 with ⟨rfl, h0⟩ | ⟨g, cap, cur, rfl, _⟩
  · exact ⟨none, 0, by rw [h0]⟩
  · exact ⟨_, cap, rfl⟩
theorem grow_b {G : Nat → Prop} {c : Nat} {D : Lay} {v : Value} {w8 : World} {o : Obj} (h : LKG w F b x G c D v) (hg : (w.alloc o).grownBy w8 v.ownBlock) : w8.heap[b]? = w.heap[b]? := by
  have hb := h.1
  refine (hg.block b (by simp; have := hb.lt; omega) (fun e => ?_)).trans (Below.heap_alloc w o b hb.lt)
  obtain ⟨cs, hvb⟩ := h.2.2.2.1.typed e.symm
  exact absurd (hb.ty hvb) (by decide)
theorem frozen_of_block {w8 : World} {i : Nat} (h : w8.heap[b]? = w.heap[b]?) : w8.frozen? ⟨b, i, none⟩ = w.frozen? ⟨b, i, none⟩ := by
  simp [World.frozen?, h]
set_option maxHeartbeats 2000000 in
theorem add_in (h : LK w F b x) (ho : OkK x M Q) (t0 : ByteArray) (t1 : Int) (t2 : Bool) (t3 t4 t5 now : Int) (hz : chk ⟨t0, t1, t2, t3, t4, t5⟩ = 0) (hu : t2 = x.up) (hi : (idxN x.names t0).isSome = false) (hf : x.names.length < 8) :
    Calls Tryz.prog 17 #[ptr b, .agg #[.string t0, .int .i64 t1, .bool t2, .int .i64 t3, .int .i64 t4, .int .i64 t5], .int .i64 now] w fun e w' => e = .returned (.int .i64 (0)) ∧ LTu w F w' b (addK x ⟨t0, t1, t2, t3, t4, t5⟩ now) := by
  obtain ⟨G, c, D, v, h⟩ := h
  have hb0 := (Below.refl w.heap.size w).alloc (Nat.le_refl _) (.cells #[.string t0, .int .i64 t1, .bool t2, .int .i64 t3, .int .i64 t4, .int .i64 t5] 34)
  have hblk0 := Lib.hid (Blk.new w 34 #[.string t0, .int .i64 t1, .bool t2, .int .i64 t3, .int .i64 t4, .int .i64 t5])
  have hH0 := Lib.hid (h.below hb0)
  have hb0' := Lib.hid hb0
  have hck := Lib.hid (fun wy => check_any ⟨t0, t1, t2, t3, t4, t5⟩ wy)
  have hl0 := Lib.hid (LTu.refl h.lk)
  have hvs := h.2.2.2.1.sr
  obtain ⟨A0, cp0, hv, _⟩ := hvs
  subst hv
  have tu : (t2 != x.up) = false := by rw [hu]; simp
  have tu2 : (t2 == x.up) = true := by rw [hu]; simp
  rw [hz] at hck
  have hnl : x.names.length ≤ 8 := by have := ho.n; have := ho.c.ten; omega
  have ho' := Lib.hid ho
  have his := hi
  have tf : decide ((8 : Int) ≤ (x.names.length : Int)) = false := decide_eq_false (by omega)
  have hdw := Lib.hid (drawn_w x.drawn ho.d0 ho.d1)
  have hoc := Lib.hid ho.c
  have hadds : addsB x ⟨t0, t1, t2, t3, t4, t5⟩ = true := by
    unfold addsB
    rw [decide_eq_true (show chk ⟨t0, t1, t2, t3, t4, t5⟩ = 0 ∧ t2 = x.up from ⟨hz, hu⟩), hi, decide_eq_true hf]
    rfl
  have hadd : Hid (∀ T, drawK x ⟨t0, t1, t2, t3, t4, t5⟩ = T → addK x ⟨t0, t1, t2, t3, t4, t5⟩ now = { x with c := insC x.c x.names.length T (Ref02.stepI (dieK x)) now, names := x.names ++ [t0], drawn := x.drawn + 1 }) := Lib.hid (fun T e => by unfold addK; rw [if_pos hadds, e])
  have hstr0 := Lib.hid (fun (wy : World) => Dice.stream_any x.seed (.slice (some ⟨wy.heap.size, 0, none⟩) 1 1) [x.drawn] (wy.alloc (.cells #[.int .u64 x.drawn] 23)).drew ho.s0 ho.s1 ((nums_one wy x.drawn ho.d0 ho.d1).below (Below.refl _ _).drew))
  clear h hb0 ho hz hu hi hadds
  go_enter Tryz.func17, Tryz.ntmps17
  go_wp2_with fail
  refine (hck.out _).mono ?_
  rintro e w1 ⟨rfl, hB⟩
  have hB1 := Lib.hid (bw_below hb0'.out hB)
  have hblk1 := Lib.hid (hblk0.out.below hB)
  have hH1 := Lib.hid (hH0.out.below hB)
  clear hB hb0' hblk0 hH0 hck
  have e2 : w1.cell? ⟨w.heap.size, 2, none⟩ = some (.bool t2) := (hblk1.out.cell 2).trans rfl
  have d2 : w1.cell? ⟨b, 2, none⟩ = some (.bool x.up) := (hH1.out.cell 2).trans rfl
  have d1 : w1.cell? ⟨b, 1, none⟩ = some (.slice A0 x.names.length cp0) := (hH1.out.cell 1).trans rfl
  have e0 : w1.cell? ⟨w.heap.size, 0, none⟩ = some (.string t0) := (hblk1.out.cell 0).trans rfl
  have hco := Lib.hid (contains_any w1.drew.drew (.slice A0 x.names.length cp0) x.names t0 (show SR w1.drew.drew _ _ from (hH1.out.2.2.2.1).sr) (by omega))
  go_wp2
  refine start_ (n := 12) (S := fun w' => w'.cell? ⟨w.heap.size, 2, none⟩ = some (.bool t2) ∧ w'.cell? ⟨b, 2, none⟩ = some (.bool x.up)) (ds := []) (m_ 12 0) (by kernel_rfl) rfl (by kernel_rfl) ⟨e2, d2⟩ (fun hHeld => ?_)
  refine pu_ 0 (some 14) (m_ 12 1) rfl rfl (by kernel_rfl) (fun _ _ _ h => h) (by rfl) (by intro w'; go_simp; with_reducible rfl) (by simp only [Act.put, List.setIfInBounds_toArray, List.set_cons_zero, List.set_cons_succ, i64_w, i32_w]; rfl) ?_
  refine pu_ 1 (some 15) (m_ 12 3) rfl rfl (by kernel_rfl) (fun _ _ _ h => h) (by rfl) (by intro w'; go_simp; with_reducible rfl) (by simp only [Act.put, List.setIfInBounds_toArray, List.set_cons_zero, List.set_cons_succ, i64_w, i32_w]; rfl) ?_
  refine pu_ 2 (some 16) (m_ 12 7) rfl rfl (by kernel_rfl) (fun _ _ _ h => h) (by rfl) (by intro w'; go_simp; with_reducible rfl) (by simp only [Act.put, List.setIfInBounds_toArray, List.set_cons_zero, List.set_cons_succ, i64_w, i32_w]; rfl) ?_
  refine pu_ 3 (some 17) (m_ 12 15) rfl rfl (by kernel_rfl) (fun _ _ _ h => h) (by rfl) (by intro w'; go_simp; with_reducible rfl) (by simp only [Act.put, List.setIfInBounds_toArray, List.set_cons_zero, List.set_cons_succ, i64_w, i32_w]; rfl) ?_
  refine pu_ 5 (some 19) (m_ 12 47) rfl rfl (by kernel_rfl) (fun _ _ _ h => h) (by rfl) (by intro w'; go_simp; with_reducible rfl) (by simp only [Act.put, List.setIfInBounds_toArray, List.set_cons_zero, List.set_cons_succ, i64_w, i32_w]; rfl) ?_
  refine pu_ 6 (some 20) (m_ 12 111) rfl rfl (by kernel_rfl) (fun _ _ _ h => h) (by rfl) (by intro w'; go_simp; with_reducible rfl) (by simp only [Act.put, List.setIfInBounds_toArray, List.set_cons_zero, List.set_cons_succ, i64_w, i32_w]; rfl) ?_
  refine pu_ 7 (some 21) (m_ 12 239) rfl rfl (by kernel_rfl) (fun _ _ _ h => h) (by rfl) (by intro w'; go_simp; with_reducible rfl) (by simp only [Act.put, List.setIfInBounds_toArray, List.set_cons_zero, List.set_cons_succ, i64_w, i32_w]; rfl) ?_
  refine tk_ 4 (some 18) (m_ 12 255) rfl rfl (by kernel_rfl) (fun _ _ _ h => h) (by rfl) (by rintro w' ⟨s0, s1⟩; go_simp; with_reducible rfl) hHeld (by simp only [Act.put, List.setIfInBounds_toArray, List.set_cons_zero, List.set_cons_succ, i64_w, i32_w]; rfl) ?_
  refine tk_ 8 (some 22) (m_ 12 511) rfl rfl (by kernel_rfl) (fun _ _ _ h => h) (by rfl) (by rintro w' ⟨s0, s1⟩; go_simp; with_reducible rfl) hHeld (by simp only [Act.put, List.setIfInBounds_toArray, List.set_cons_zero, List.set_cons_succ, i64_w, i32_w]; rfl) ?_
  refine pu_ 9 (some 23) (m_ 12 1023) rfl rfl (by kernel_rfl) (fun _ _ _ h => h) (by rfl) (by intro w'; go_simp; with_reducible rfl) (by simp only [Act.put, List.setIfInBounds_toArray, List.set_cons_zero, List.set_cons_succ, i64_w, i32_w]; rfl) ?_
  refine pu_ 10 (some 24) (m_ 12 2047) rfl rfl (by kernel_rfl) (fun _ _ _ h => h) (by rfl) (by intro w'; go_simp; with_reducible rfl) (by simp only [Act.put, List.setIfInBounds_toArray, List.set_cons_zero, List.set_cons_succ, i64_w, i32_w]; rfl) ?_
  refine pu_ 11 (some 13) (m_ 12 4095) rfl rfl (by kernel_rfl) (fun _ _ _ h => h) (by rfl) (by intro w'; go_simp; with_reducible rfl) (by simp only [Act.put, List.setIfInBounds_toArray, List.set_cons_zero, List.set_cons_succ, i64_w, i32_w]; rfl) ?_
  refine done_ (by kernel_rfl) ?_
  clear hHeld
  go_wp2
  refine start_ (n := 8) (S := fun w' => w'.cell? ⟨b, 1, none⟩ = some (.slice A0 x.names.length cp0) ∧ w'.cell? ⟨w.heap.size, 0, none⟩ = some (.string t0)) (ds := []) (m_ 8 0) (by kernel_rfl) rfl (by kernel_rfl) ⟨d1, e0⟩ (fun hHeld => ?_)
  refine pu_ 0 (some 27) (m_ 8 1) rfl rfl (by kernel_rfl) (fun _ _ _ h => h) (by rfl) (by intro w'; go_simp; with_reducible rfl) (by simp only [Act.put, List.setIfInBounds_toArray, List.set_cons_zero, List.set_cons_succ, i64_w, i32_w]; rfl) ?_
  refine pu_ 1 (some 28) (m_ 8 3) rfl rfl (by kernel_rfl) (fun _ _ _ h => h) (by rfl) (by intro w'; go_simp; with_reducible rfl) (by simp only [Act.put, List.setIfInBounds_toArray, List.set_cons_zero, List.set_cons_succ, i64_w, i32_w]; rfl) ?_
  refine pu_ 2 (some 29) (m_ 8 7) rfl rfl (by kernel_rfl) (fun _ _ _ h => h) (by rfl) (by intro w'; go_simp; with_reducible rfl) (by simp only [Act.put, List.setIfInBounds_toArray, List.set_cons_zero, List.set_cons_succ, i64_w, i32_w]; rfl) ?_
  refine pu_ 4 (some 31) (m_ 8 23) rfl rfl (by kernel_rfl) (fun _ _ _ h => h) (by rfl) (by intro w'; go_simp; with_reducible rfl) (by simp only [Act.put, List.setIfInBounds_toArray, List.set_cons_zero, List.set_cons_succ, i64_w, i32_w]; rfl) ?_
  refine tk_ 3 (some 30) (m_ 8 31) rfl rfl (by kernel_rfl) (fun _ _ _ h => h) (by rfl) (by rintro w' ⟨s0, s1⟩; go_simp; with_reducible rfl) hHeld (by simp only [Act.put, List.setIfInBounds_toArray, List.set_cons_zero, List.set_cons_succ, i64_w, i32_w]; rfl) ?_
  refine tk_ 5 (some 32) (m_ 8 63) rfl rfl (by kernel_rfl) (fun _ _ _ h => h) (by rfl) (by rintro w' ⟨s0, s1⟩; go_simp; with_reducible rfl) hHeld (by simp only [Act.put, List.setIfInBounds_toArray, List.set_cons_zero, List.set_cons_succ, i64_w, i32_w]; rfl) ?_
  refine one_ (i := 6) (N := some 33) (m_ 8 127) rfl rfl (by kernel_rfl) (by decide) (fun K hK => ?_)
  refine goes_ Tryz.func33 (by kernel_rfl) rfl #[.slice A0 x.names.length cp0, .string t0] (by rfl) rfl rfl (by simp only [List.map_toArray, List.map_cons, List.map_nil]; rfl) ?_
  with_reducible refine (hco.out).mono ?_
  rintro e w2 ⟨rfl, rfl⟩
  rw [his]
  refine ⟨_, rfl, ?_⟩
  refine hK.out _ _ ⟨d1, e0⟩ (fun hHeld => ?_)
  clear hK K
  refine norm_ (a' := ?_) ?_ ?_
  rotate_left
  · show Act.put _ (some 33) _ = _
    simp only [Act.put, List.setIfInBounds_toArray, List.set_cons_zero, List.set_cons_succ, i64_w, i32_w]
    rfl
  refine pu_ 7 (some 26) (m_ 8 255) rfl rfl (by kernel_rfl) (fun _ _ _ h => h) (by rfl) (by intro w'; go_simp; with_reducible rfl) (by simp only [Act.put, List.setIfInBounds_toArray, List.set_cons_zero, List.set_cons_succ, i64_w, i32_w]; rfl) ?_
  refine done_ (by kernel_rfl) ?_
  clear hHeld e2 d2 e0 hco
  have hB2 := Lib.hid (show Below w.heap.size w w1.drew.drew from hB1.out.drew.drew)
  have H2 := Lib.hid (hH1.out.drew.drew)
  have hq2 := Lib.hid (hblk1.out.below ((Below.refl _ _).drew.drew))
  clear hB1 hH1 hblk1 d1
  generalize w1.drew.drew = W1 at *
  have d1 : W1.cell? ⟨b, 1, none⟩ = some (.slice A0 x.names.length cp0) := (H2.out.cell 1).trans rfl
  have k3 : W1.cell? ⟨b, 3, none⟩ = some (.int .u64 x.seed) := (H2.out.cell 3).trans rfl
  have k4 : W1.cell? ⟨b, 4, none⟩ = some (.int .i64 x.drawn) := (H2.out.cell 4).trans rfl
  have k5 : W1.cell? ⟨w.heap.size, 3, none⟩ = some (.int .i64 t3) := (hq2.out.cell 3).trans rfl
  have hcw := hdw.out.1
  have hstr := Lib.hid (hstr0.out W1)
  go_wp2
  refine start_ (n := 19) (S := fun w' => w'.cell? ⟨b, 3, none⟩ = some (.int .u64 x.seed) ∧ w'.cell? ⟨b, 4, none⟩ = some (.int .i64 x.drawn) ∧ w'.cell? ⟨w.heap.size, 3, none⟩ = some (.int .i64 t3)) (ds := []) (m_ 19 0) (by kernel_rfl) rfl (by kernel_rfl) ⟨k3, k4, k5⟩ (fun hHeld => ?_)
  refine pu_ 0 (some 42) (m_ 19 1) rfl rfl (by kernel_rfl) (fun _ _ _ h => h) (by rfl) (by intro w'; go_simp; with_reducible rfl) (by simp only [Act.put, List.setIfInBounds_toArray, List.set_cons_zero, List.set_cons_succ, i64_w, i32_w]; rfl) ?_
  refine pu_ 1 (some 43) (m_ 19 3) rfl rfl (by kernel_rfl) (fun _ _ _ h => h) (by rfl) (by intro w'; go_simp; with_reducible rfl) (by simp only [Act.put, List.setIfInBounds_toArray, List.set_cons_zero, List.set_cons_succ, i64_w, i32_w]; rfl) ?_
  refine pu_ 2 (some 44) (m_ 19 7) rfl rfl (by kernel_rfl) (fun _ _ _ h => h) (by rfl) (by intro w'; go_simp; with_reducible rfl) (by simp only [Act.put, List.setIfInBounds_toArray, List.set_cons_zero, List.set_cons_succ, i64_w, i32_w]; rfl) ?_
  refine pu_ 4 (some 46) (m_ 19 23) rfl rfl (by kernel_rfl) (fun _ _ _ h => h) (by rfl) (by intro w'; go_simp; with_reducible rfl) (by simp only [Act.put, List.setIfInBounds_toArray, List.set_cons_zero, List.set_cons_succ, i64_w, i32_w]; rfl) ?_
  refine pu_ 5 (some 47) (m_ 19 55) rfl rfl (by kernel_rfl) (fun _ _ _ h => h) (by rfl) (by intro w'; go_simp; with_reducible rfl) (by simp only [Act.put, List.setIfInBounds_toArray, List.set_cons_zero, List.set_cons_succ, i64_w, i32_w]; rfl) ?_
  refine pu_ 6 (some 48) (m_ 19 119) rfl rfl (by kernel_rfl) (fun _ _ _ h => h) (by rfl) (by intro w'; go_simp; with_reducible rfl) (by simp only [Act.put, List.setIfInBounds_toArray, List.set_cons_zero, List.set_cons_succ, i64_w, i32_w]; rfl) ?_
  refine pu_ 11 (some 53) (m_ 19 2167) rfl rfl (by kernel_rfl) (fun _ _ _ h => h) (by rfl) (by intro w'; go_simp; with_reducible rfl) (by simp only [Act.put, List.setIfInBounds_toArray, List.set_cons_zero, List.set_cons_succ, i64_w, i32_w]; rfl) ?_
  refine tk_ 3 (some 45) (m_ 19 2175) rfl rfl (by kernel_rfl) (fun _ _ _ h => h) (by rfl) (by rintro w' ⟨s0, s1, s2⟩; go_simp; with_reducible rfl) hHeld (by simp only [Act.put, List.setIfInBounds_toArray, List.set_cons_zero, List.set_cons_succ, i64_w, i32_w]; rfl) ?_
  refine tk_ 7 (some 49) (m_ 19 2303) rfl rfl (by kernel_rfl) (fun _ _ _ h => h) (by rfl) (by rintro w' ⟨s0, s1, s2⟩; go_simp; with_reducible rfl) hHeld (by simp only [Act.put, List.setIfInBounds_toArray, List.set_cons_zero, List.set_cons_succ, i64_w, i32_w]; rfl) ?_
  refine pu_ 8 (some 50) (m_ 19 2559) rfl rfl (by kernel_rfl) (fun _ _ _ h => h) (by rfl) (by intro w'; go_simp; with_reducible rfl) (by simp only [Act.put, List.setIfInBounds_toArray, List.set_cons_zero, List.set_cons_succ, i64_w, i32_w]; rfl) ?_
  refine tk_ 12 (some 54) (m_ 19 6655) rfl rfl (by kernel_rfl) (fun _ _ _ h => h) (by rfl) (by rintro w' ⟨s0, s1, s2⟩; go_simp; with_reducible rfl) hHeld (by simp only [Act.put, List.setIfInBounds_toArray, List.set_cons_zero, List.set_cons_succ, i64_w, i32_w]; rfl) ?_
  refine one_ (i := 9) (N := some 51) (m_ 19 7167) rfl rfl (by kernel_rfl) (by decide) (fun K hK => ?_)
  refine value_ (w1 := ?_) (v := ?_) (by rfl) rfl ?_ ?_
  rotate_left 2
  · go_simp
    constructor
    · rfl
    · rfl
  have j3 := bcells (((Below.refl W1.heap.size W1).alloc (Nat.le_refl _) (.cells #[.int .u64 x.drawn] 23)).drew) k3
  have j4 := bcells (((Below.refl W1.heap.size W1).alloc (Nat.le_refl _) (.cells #[.int .u64 x.drawn] 23)).drew) k4
  have j5 := bcells (((Below.refl W1.heap.size W1).alloc (Nat.le_refl _) (.cells #[.int .u64 x.drawn] 23)).drew) k5
  refine hK.out _ _ ⟨j3, j4, j5⟩ (fun hHeld => ?_)
  clear hK K
  refine norm_ (a' := ?_) ?_ ?_
  rotate_left
  · show Act.put _ (some 51) _ = _
    simp only [Act.put, List.setIfInBounds_toArray, List.set_cons_zero, List.set_cons_succ, i64_w, i32_w]
    rfl
  refine one_ (i := 10) (N := some 52) (m_ 19 8191) rfl rfl (by kernel_rfl) (by decide) (fun K hK => ?_)
  refine goes_ Tryz.func35 (by kernel_rfl) rfl #[.int .u64 x.seed, .slice (some ⟨W1.heap.size, 0, none⟩) 1 1] (by rfl) rfl rfl (by simp only [List.map_toArray, List.map_cons, List.map_nil]; rfl) ?_
  with_reducible refine (hstr.out).mono ?_
  rintro e w3 ⟨rfl, hB⟩
  have i3 := bcells hB j3
  have i4 := bcells hB j4
  have i5 := bcells hB j5
  have hB3 := Lib.hid ((((Below.refl W1.heap.size W1).alloc (Nat.le_refl _) (.cells #[.int .u64 x.drawn] 23)).drew).trans (hB.mono (by show W1.heap.size ≤ (W1.alloc (.cells #[.int .u64 x.drawn] 23)).heap.size; simp)))
  clear hB j3 j4 j5
  refine ⟨_, rfl, ?_⟩
  refine hK.out _ _ ⟨i3, i4, i5⟩ (fun hHeld => ?_)
  clear hK K
  refine norm_ (a' := ?_) ?_ ?_
  rotate_left
  · show Act.put _ (some 52) _ = _
    simp only [Act.put, List.setIfInBounds_toArray, List.set_cons_zero, List.set_cons_succ, i64_w, i32_w]
    rfl
  refine one_ (i := 13) (N := some 55) (m_ 19 16383) rfl rfl (by kernel_rfl) (by decide) (fun K hK => ?_)
  refine goes_ Tryz.func34 (by kernel_rfl) rfl #[.int .u64 (Ref02.streamI (Ref02.mixI (Ref02.stepI x.seed)) [x.drawn]), .int .i64 t3] (by rfl) rfl rfl (by simp only [List.map_toArray, List.map_cons, List.map_nil]; rfl) ?_
  with_reducible refine ((Dice.percent_any _ t3 w3)).mono ?_
  rintro e w4 ⟨rfl, rfl⟩
  refine ⟨_, rfl, ?_⟩
  refine hK.out _ _ ⟨i3, i4, i5⟩ (fun hHeld => ?_)
  clear hK K
  refine norm_ (a' := ?_) ?_ ?_
  rotate_left
  · show Act.put _ (some 55) _ = _
    simp only [Act.put, List.setIfInBounds_toArray, List.set_cons_zero, List.set_cons_succ, i64_w, i32_w]
    rfl
  refine pu_ 14 (some 41) (m_ 19 32767) rfl rfl (by kernel_rfl) (fun _ _ _ h => h) (by rfl) (by intro w'; go_simp; with_reducible rfl) (by simp only [Act.put, List.setIfInBounds_toArray, List.set_cons_zero, List.set_cons_succ, i64_w, i32_w]; rfl) ?_
  refine pu_ 15 (some 56) (m_ 19 65535) rfl rfl (by kernel_rfl) (fun _ _ _ h => h) (by rfl) (by intro w'; go_simp; with_reducible rfl) (by simp only [Act.put, List.setIfInBounds_toArray, List.set_cons_zero, List.set_cons_succ, i64_w, i32_w]; rfl) ?_
  refine pu_ 16 (some 57) (m_ 19 131071) rfl rfl (by kernel_rfl) (fun _ _ _ h => h) (by rfl) (by intro w'; go_simp; with_reducible rfl) (by simp only [Act.put, List.setIfInBounds_toArray, List.set_cons_zero, List.set_cons_succ, i64_w, i32_w]; rfl) ?_
  refine pu_ 17 (some 8) (m_ 19 262143) rfl rfl (by kernel_rfl) (fun _ _ _ h => h) (by rfl) (by intro w'; go_simp; with_reducible rfl) (by simp only [Act.put, List.setIfInBounds_toArray, List.set_cons_zero, List.set_cons_succ, i64_w, i32_w]; rfl) ?_
  refine pu_ 18 (some 9) (m_ 19 524287) rfl rfl (by kernel_rfl) (fun _ _ _ h => h) (by rfl) (by intro w'; go_simp; with_reducible rfl) (by simp only [Act.put, List.setIfInBounds_toArray, List.set_cons_zero, List.set_cons_succ, i64_w, i32_w]; rfl) ?_
  refine done_ (by kernel_rfl) ?_
  clear hHeld k3 k4 k5 hstr hstr0 i3 i4 i5 d1
  have H3 := Lib.hid (H2.out.below hB3.out)
  have hq3 := Lib.hid (hq2.out.below hB3.out)
  have hBw := Lib.hid (hB2.out.trans (hB3.out.mono hB2.out.size))
  clear H2 hq2 hB2 hB3 hcw
  have d4 : w3.cell? ⟨b, 4, none⟩ = some (.int .i64 x.drawn) := (H3.out.cell 4).trans rfl
  have f4 := H3.out.free 4
  have u0 : w3.cell? ⟨w.heap.size, 0, none⟩ = some (.string t0) := (hq3.out.cell 0).trans rfl
  have hbne : b ≠ w.heap.size := H3.out.1.ne hq3.out (by decide)
  have hset5 := H3.out.set 4 (.int .i64 (x.drawn + 1)) { x with drawn := x.drawn + 1 } rfl rfl rfl
  have H5 := Lib.hid hset5.1
  have hq5 := Lib.hid (hq3.out.far (p := ⟨b, 4, none⟩) (fun e => hbne e.symm) (.int .i64 (x.drawn + 1)))
  have hD5 := Lib.hid (show Did F w (w3.setCell ⟨b, 4, none⟩ (.int .i64 (x.drawn + 1))) ∧ Stem F F w from by
    obtain ⟨F0, hL0, hd0, hs0⟩ := hl0.out
    exact ⟨(Did.of_below hBw.out).setCell (p := ⟨b, 4, none⟩) (.inl hset5.2) _, Stem.refl _ _⟩)
  have hdw2 := hdw.out.2
  have hdie0 : Hid (Ref02.hiI (Ref02.streamI (Ref02.mixI (Ref02.stepI x.seed)) [x.drawn]) 100 = Ref02.hiI (dieK x) 100) := Lib.hid rfl
  have hst0 : Hid (Ref02.stepI (Ref02.streamI (Ref02.mixI (Ref02.stepI x.seed)) [x.drawn]) = Ref02.stepI (dieK x)) := Lib.hid rfl
  rw [hdie0.out, hst0.out]
  clear H3 hq3 hset5 hBw
  generalize hst : Ref02.stepI (dieK x) = st
  have hst := Lib.hid hst
  by_cases hdie : Ref02.hiI (dieK x) 100 < t3
  · have td : decide (Ref02.hiI (dieK x) 100 < t3) = true := decide_eq_true hdie
    have hdk : Hid (drawK x ⟨t0, t1, t2, t3, t4, t5⟩ = ⟨t0, t1, t2, t3, t4, t5⟩) := Lib.hid (by unfold drawK; rw [if_pos hdie])
    clear hdie
    go_wp2
    have H6 := H5
    have hq6 := hq5
    have hD6 := hD5
    clear H5 hq5 hD5 d4 f4 u0 hdw2
    generalize w3.setCell ⟨b, 4, none⟩ (.int .i64 (x.drawn + 1)) = w6 at *
    have r0 : w6.cell? ⟨b, 0, none⟩ = some (ptr c) := (H6.out.cell 0).trans rfl
    have r1 : w6.cell? ⟨b, 1, none⟩ = some (.slice A0 x.names.length cp0) := (H6.out.cell 1).trans rfl
    have u0 : w6.cell? ⟨w.heap.size, 0, none⟩ = some (.string t0) := (hq6.out.cell 0).trans rfl
    have u1 : w6.cell? ⟨w.heap.size, 1, none⟩ = some (.int .i64 t1) := (hq6.out.cell 1).trans rfl
    have u2 : w6.cell? ⟨w.heap.size, 2, none⟩ = some (.bool t2) := (hq6.out.cell 2).trans rfl
    have u3 : w6.cell? ⟨w.heap.size, 3, none⟩ = some (.int .i64 t3) := (hq6.out.cell 3).trans rfl
    have u4 : w6.cell? ⟨w.heap.size, 4, none⟩ = some (.int .i64 t4) := (hq6.out.cell 4).trans rfl
    have u5 : w6.cell? ⟨w.heap.size, 5, none⟩ = some (.int .i64 t5) := (hq6.out.cell 5).trans rfl
    have hins := Lib.hid (cInsert_any H6.out.drew.2.1 hoc.out H6.out.2.2.1 (x.names.length : Int) ⟨t0, t1, t2, t3, t4, t5⟩ st now)
    have hqb7 := Lib.hid (fun (w7 : World) (hd : Did F w6.drew w7) => Blk.did (w := w6.drew) hq6.out hd (H6.out.lk.off hq6.out (by decide)))
    refine start_ (n := 13) (S := fun w' => w'.cell? ⟨b, 0, none⟩ = some (ptr c) ∧ w'.cell? ⟨b, 1, none⟩ = some (.slice A0 x.names.length cp0) ∧ w'.cell? ⟨w.heap.size, 0, none⟩ = some (.string t0) ∧ w'.cell? ⟨w.heap.size, 1, none⟩ = some (.int .i64 t1) ∧ w'.cell? ⟨w.heap.size, 2, none⟩ = some (.bool t2) ∧ w'.cell? ⟨w.heap.size, 3, none⟩ = some (.int .i64 t3) ∧ w'.cell? ⟨w.heap.size, 4, none⟩ = some (.int .i64 t4) ∧ w'.cell? ⟨w.heap.size, 5, none⟩ = some (.int .i64 t5)) (ds := []) (m_ 13 0) (by kernel_rfl) rfl (by kernel_rfl) ⟨r0, r1, u0, u1, u2, u3, u4, u5⟩ (fun hHeld => ?_)
    refine pu_ 0 (some 70) (m_ 13 1) rfl rfl (by kernel_rfl) (fun _ _ _ h => h) (by rfl) (by intro w'; go_simp; with_reducible rfl) (by simp only [Act.put, List.setIfInBounds_toArray, List.set_cons_zero, List.set_cons_succ, i64_w, i32_w]; rfl) ?_
    refine pu_ 1 (some 71) (m_ 13 3) rfl rfl (by kernel_rfl) (fun _ _ _ h => h) (by rfl) (by intro w'; go_simp; with_reducible rfl) (by simp only [Act.put, List.setIfInBounds_toArray, List.set_cons_zero, List.set_cons_succ, i64_w, i32_w]; rfl) ?_
    refine pu_ 2 (some 72) (m_ 13 7) rfl rfl (by kernel_rfl) (fun _ _ _ h => h) (by rfl) (by intro w'; go_simp; with_reducible rfl) (by simp only [Act.put, List.setIfInBounds_toArray, List.set_cons_zero, List.set_cons_succ, i64_w, i32_w]; rfl) ?_
    refine pu_ 4 (some 74) (m_ 13 23) rfl rfl (by kernel_rfl) (fun _ _ _ h => h) (by rfl) (by intro w'; go_simp; with_reducible rfl) (by simp only [Act.put, List.setIfInBounds_toArray, List.set_cons_zero, List.set_cons_succ, i64_w, i32_w]; rfl) ?_
    refine pu_ 5 (some 75) (m_ 13 55) rfl rfl (by kernel_rfl) (fun _ _ _ h => h) (by rfl) (by intro w'; go_simp; with_reducible rfl) (by simp only [Act.put, List.setIfInBounds_toArray, List.set_cons_zero, List.set_cons_succ, i64_w, i32_w]; rfl) ?_
    refine pu_ 6 (some 76) (m_ 13 119) rfl rfl (by kernel_rfl) (fun _ _ _ h => h) (by rfl) (by intro w'; go_simp; with_reducible rfl) (by simp only [Act.put, List.setIfInBounds_toArray, List.set_cons_zero, List.set_cons_succ, i64_w, i32_w]; rfl) ?_
    refine pu_ 10 (some 80) (m_ 13 1143) rfl rfl (by kernel_rfl) (fun _ _ _ h => h) (by rfl) (by intro w'; go_simp; with_reducible rfl) (by simp only [Act.put, List.setIfInBounds_toArray, List.set_cons_zero, List.set_cons_succ, i64_w, i32_w]; rfl) ?_
    refine pu_ 11 (some 81) (m_ 13 3191) rfl rfl (by kernel_rfl) (fun _ _ _ h => h) (by rfl) (by intro w'; go_simp; with_reducible rfl) (by simp only [Act.put, List.setIfInBounds_toArray, List.set_cons_zero, List.set_cons_succ, i64_w, i32_w]; rfl) ?_
    refine tk_ 3 (some 73) (m_ 13 3199) rfl rfl (by kernel_rfl) (fun _ _ _ h => h) (by rfl) (by rintro w' ⟨s0, s1, s2, s3, s4, s5, s6, s7⟩; go_simp; with_reducible rfl) hHeld (by simp only [Act.put, List.setIfInBounds_toArray, List.set_cons_zero, List.set_cons_succ, i64_w, i32_w]; rfl) ?_
    refine tk_ 7 (some 77) (m_ 13 3327) rfl rfl (by kernel_rfl) (fun _ _ _ h => h) (by rfl) (by rintro w' ⟨s0, s1, s2, s3, s4, s5, s6, s7⟩; go_simp; with_reducible rfl) hHeld (by simp only [Act.put, List.setIfInBounds_toArray, List.set_cons_zero, List.set_cons_succ, i64_w, i32_w]; rfl) ?_
    refine pu_ 8 (some 78) (m_ 13 3583) rfl rfl (by kernel_rfl) (fun _ _ _ h => h) (by rfl) (by intro w'; go_simp; with_reducible rfl) (by simp only [Act.put, List.setIfInBounds_toArray, List.set_cons_zero, List.set_cons_succ, i64_w, i32_w]; rfl) ?_
    refine tk_ 9 (some 79) (m_ 13 4095) rfl rfl (by kernel_rfl) (fun _ _ _ h => h) (by rfl) (by rintro w' ⟨s0, s1, s2, s3, s4, s5, s6, s7⟩; go_simp; with_reducible rfl) hHeld (by simp only [Act.put, List.setIfInBounds_toArray, List.set_cons_zero, List.set_cons_succ, i64_w, i32_w]; rfl) ?_
    refine one_ (i := 12) (N := some 82) (m_ 13 8191) rfl rfl (by kernel_rfl) (by decide) (fun K hK => ?_)
    refine goes_ Tryz.func36 (by kernel_rfl) rfl #[ptr c, .int .i64 x.names.length, .agg #[.string t0, .int .i64 t1, .bool t2, .int .i64 t3, .int .i64 t4, .int .i64 t5], .int .u64 st, .int .i64 now] (by rfl) rfl rfl (by simp only [List.map_toArray, List.map_cons, List.map_nil]; rfl) ?_
    with_reducible refine (hins.out).mono ?_
    rintro e w7 ⟨rfl, hT⟩
    obtain ⟨F7, G7, D7, h7, hd7, hs7⟩ := H6.out.drew.turn hT
    have r0 : w7.cell? ⟨b, 0, none⟩ = some (ptr c) := (h7.cell 0).trans rfl
    have r1 : w7.cell? ⟨b, 1, none⟩ = some (.slice A0 x.names.length cp0) := (h7.cell 1).trans rfl
    have hq7 := hqb7.out w7 hd7
    have rq0 := (hq7.cell 0).trans rfl
    have rq1 := (hq7.cell 1).trans rfl
    have rq2 := (hq7.cell 2).trans rfl
    have rq3 := (hq7.cell 3).trans rfl
    have rq4 := (hq7.cell 4).trans rfl
    have rq5 := (hq7.cell 5).trans rfl
    simp only [List.getElem?_toArray, List.getElem?_cons_zero, List.getElem?_cons_succ] at rq0 rq1 rq2 rq3 rq4 rq5
    have H7 := Lib.hid h7
    have hDS7 := Lib.hid (And.intro hd7 hs7)
    clear hT h7 hd7 hs7 hq7
    refine ⟨_, rfl, ?_⟩
    refine hK.out _ _ ⟨r0, r1, rq0, rq1, rq2, rq3, rq4, rq5⟩ (fun hHeld => ?_)
    clear hK K
    refine norm_ (a' := ?_) ?_ ?_
    rotate_left
    · show Act.put _ (some 82) _ = _
      simp only [Act.put, List.setIfInBounds_toArray, List.set_cons_zero, List.set_cons_succ, i64_w, i32_w]
      rfl
    refine done_ (by kernel_rfl) ?_
    clear hHeld r0 r1 u0 u1 u2 u3 u4 u5 rq0 rq1 rq2 rq3 rq4 rq5
    have r1 : w7.cell? ⟨b, 1, none⟩ = some (.slice A0 x.names.length cp0) := (H7.out.cell 1).trans rfl
    have hown : w7.ownsRow 0 9 1 (.slice A0 x.names.length cp0) x.names.length (x.names.map Value.string) := (H7.out.2.2.2.1).owns
    have hsz7 : w.heap.size ≤ w7.heap.size := Nat.le_trans hD6.out.1.size hDS7.out.1.size
    obtain ⟨i0, hi1, hz0, hz1, hz2⟩ := info_parts info_st
    go_wp2_with (at_builtin; refine wpList_append_own_at _ rfl _ _ 51 rfl 0 9 i0 (.string ⟨#[]⟩) 1 16 Tryz.underlying51 hi1 hz0 hz1 hz2 rfl (by decide) _ _ _ rfl (hown.alloc _) ⟨w7.heap.size, 0, none⟩ 1 1 [.string t0] rfl rfl (cell_one_new _ _ _) (by simp [Value.oneCell']) (by unfold maxLen; omega) (by omega) (by omega) ?_; intro v' w8 hO hG _ hat; obtain ⟨A8, c8, rfl⟩ := own_slice hO; have hG' := Lib.hid hG; have hO' := Lib.hid hO; have hat' := Lib.hid hat; have b8 : w8.cell? ⟨b, 1, none⟩ = some (.slice A0 x.names.length cp0) := (World.cell?_of_block (a := ⟨b, 1, none⟩) (grow_b H7.out hG)).trans r1; have fb8 : w8.frozen? ⟨b, 1, none⟩ = false := (frozen_of_block (grow_b H7.out hG)).trans (H7.out.free 1); clear hG hO hat)
    have hD8 : Did (fun j => (Value.slice A0 x.names.length cp0).ownBlock = some j) w7 w8 := (((Did.refl _ w7).alloc _).trans (Stem.refl _ _) (Did.of_grown hG'.out (fun j e => .inl e)))
    have hN8 : NV w8 (.slice A8 (x.names.length + 1) c8) (x.names ++ [t0]) := NV.of_owns (base := 0) (by rw [List.length_append, List.map_append]; exact hO'.out)
    have hset := H7.out.names hD8 hN8 (fun j e => by
      rcases hat'.out with q | q
      · exact .inl (q ▸ e)
      · rw [q] at e
        injection e with e
        exact .inr (by rw [← e]; simp))
    have hr := Lib.hid (show LTu w F (w8.setCell ⟨b, 1, none⟩ (.slice A8 (x.names.length + 1) c8)) b (addK x ⟨t0, t1, t2, t3, t4, t5⟩ now) from by
      rw [hadd.out _ hdk.out, show Ref02.stepI (dieK x) = st from hst.out]
      exact LTu.next hD6.out.1 hD6.out.2 (LTu.next ((Did.refl F w6).drew.trans (Stem.refl _ _) hDS7.out.1) (show Stem F F7 w6 from fun j hj => hDS7.out.2 j hj) ⟨_, hset.1.lk, hset.2.1, hset.2.2⟩))
    clear hset hN8 hD8 hG' hO' hat' H7 hDS7 H6 hD6
    go_ret
    exact ⟨rfl, hr.out⟩
  · have td : decide (Ref02.hiI (dieK x) 100 < t3) = false := decide_eq_false hdie
    have hdk : Hid (drawK x ⟨t0, t1, t2, t3, t4, t5⟩ = ⟨⟨#[]⟩, 0, false, 0, 0, 0⟩) := Lib.hid (by unfold drawK; rw [if_neg hdie]; rfl)
    clear hdie
    have v0 := (hq5.out.cell 0).trans rfl
    have v1 := (hq5.out.cell 1).trans rfl
    have v2 := (hq5.out.cell 2).trans rfl
    have v3 := (hq5.out.cell 3).trans rfl
    have v4 := (hq5.out.cell 4).trans rfl
    have v5 := (hq5.out.cell 5).trans rfl
    simp only [List.getElem?_toArray, List.getElem?_cons_zero, List.getElem?_cons_succ] at v0 v1 v2 v3 v4 v5
    have fv0 := hq5.out.free 0
    have fv1 := hq5.out.free 1
    have fv2 := hq5.out.free 2
    have fv3 := hq5.out.free 3
    have fv4 := hq5.out.free 4
    have fv5 := hq5.out.free 5
    go_upto_region 12 with (fail)
    generalize hw5 : w3.setCell ⟨b, 4, none⟩ (.int .i64 (x.drawn + 1)) = w5 at *
    clear d4 f4 u0 hdw2
    have hb6 := (((((hq5.out.set_ 0 (.string ⟨#[]⟩)).set_ 1 (.int .i64 0)).set_ 2 (.bool false)).set_ 3 (.int .i64 0)).set_ 4 (.int .i64 0)).set_ 5 (.int .i64 0)
    have hq6 := Lib.hid (show Blk _ w.heap.size 34 #[.string ⟨#[]⟩, .int .i64 0, .bool false, .int .i64 0, .int .i64 0, .int .i64 0] from hb6)
    have k1 := H5.out.far hq5.out (by decide) 0 (.string ⟨#[]⟩)
    have b1 := hq5.out.set_ 0 (.string ⟨#[]⟩)
    have k2 := k1.far b1 (by decide) 1 (.int .i64 0)
    have b2 := b1.set_ 1 (.int .i64 0)
    have k3 := k2.far b2 (by decide) 2 (.bool false)
    have b3 := b2.set_ 2 (.bool false)
    have k4 := k3.far b3 (by decide) 3 (.int .i64 0)
    have b4 := b3.set_ 3 (.int .i64 0)
    have k5 := k4.far b4 (by decide) 4 (.int .i64 0)
    have b5 := b4.set_ 4 (.int .i64 0)
    have H6 := Lib.hid (k5.far b5 (by decide) 5 (.int .i64 0))
    have hD6 := Lib.hid (show Did F w _ ∧ Stem F F w from ⟨(((((hD5.out.1.setCell (p := ⟨w.heap.size, 0, none⟩) (.inr (Nat.le_refl _)) (.string ⟨#[]⟩)).setCell (p := ⟨w.heap.size, 1, none⟩) (.inr (Nat.le_refl _)) (.int .i64 0)).setCell (p := ⟨w.heap.size, 2, none⟩) (.inr (Nat.le_refl _)) (.bool false)).setCell (p := ⟨w.heap.size, 3, none⟩) (.inr (Nat.le_refl _)) (.int .i64 0)).setCell (p := ⟨w.heap.size, 4, none⟩) (.inr (Nat.le_refl _)) (.int .i64 0)).setCell (p := ⟨w.heap.size, 5, none⟩) (.inr (Nat.le_refl _)) (.int .i64 0), Stem.refl _ _⟩)
    clear hb6 k1 b1 k2 b2 k3 b3 k4 b4 k5 b5 H5 hq5 hD5
    go_wp2
    clear v0 v1 v2 v3 v4 v5 fv0 fv1 fv2 fv3 fv4 fv5
    generalize (((((w5.setCell ⟨w.heap.size, 0, none⟩ (.string ⟨#[]⟩)).setCell ⟨w.heap.size, 1, none⟩ (.int .i64 0)).setCell ⟨w.heap.size, 2, none⟩ (.bool false)).setCell ⟨w.heap.size, 3, none⟩ (.int .i64 0)).setCell ⟨w.heap.size, 4, none⟩ (.int .i64 0)).setCell ⟨w.heap.size, 5, none⟩ (.int .i64 0) = w6 at *
    have r0 : w6.cell? ⟨b, 0, none⟩ = some (ptr c) := (H6.out.cell 0).trans rfl
    have r1 : w6.cell? ⟨b, 1, none⟩ = some (.slice A0 x.names.length cp0) := (H6.out.cell 1).trans rfl
    have u0 : w6.cell? ⟨w.heap.size, 0, none⟩ = some (.string ⟨#[]⟩) := (hq6.out.cell 0).trans rfl
    have u1 : w6.cell? ⟨w.heap.size, 1, none⟩ = some (.int .i64 0) := (hq6.out.cell 1).trans rfl
    have u2 : w6.cell? ⟨w.heap.size, 2, none⟩ = some (.bool false) := (hq6.out.cell 2).trans rfl
    have u3 : w6.cell? ⟨w.heap.size, 3, none⟩ = some (.int .i64 0) := (hq6.out.cell 3).trans rfl
    have u4 : w6.cell? ⟨w.heap.size, 4, none⟩ = some (.int .i64 0) := (hq6.out.cell 4).trans rfl
    have u5 : w6.cell? ⟨w.heap.size, 5, none⟩ = some (.int .i64 0) := (hq6.out.cell 5).trans rfl
    have hins := Lib.hid (cInsert_any H6.out.drew.2.1 hoc.out H6.out.2.2.1 (x.names.length : Int) ⟨⟨#[]⟩, 0, false, 0, 0, 0⟩ st now)
    have hqb7 := Lib.hid (fun (w7 : World) (hd : Did F w6.drew w7) => Blk.did (w := w6.drew) hq6.out hd (H6.out.lk.off hq6.out (by decide)))
    refine start_ (n := 13) (S := fun w' => w'.cell? ⟨b, 0, none⟩ = some (ptr c) ∧ w'.cell? ⟨b, 1, none⟩ = some (.slice A0 x.names.length cp0) ∧ w'.cell? ⟨w.heap.size, 0, none⟩ = some (.string ⟨#[]⟩) ∧ w'.cell? ⟨w.heap.size, 1, none⟩ = some (.int .i64 0) ∧ w'.cell? ⟨w.heap.size, 2, none⟩ = some (.bool false) ∧ w'.cell? ⟨w.heap.size, 3, none⟩ = some (.int .i64 0) ∧ w'.cell? ⟨w.heap.size, 4, none⟩ = some (.int .i64 0) ∧ w'.cell? ⟨w.heap.size, 5, none⟩ = some (.int .i64 0)) (ds := []) (m_ 13 0) (by kernel_rfl) rfl (by kernel_rfl) ⟨r0, r1, u0, u1, u2, u3, u4, u5⟩ (fun hHeld => ?_)
    refine pu_ 0 (some 70) (m_ 13 1) rfl rfl (by kernel_rfl) (fun _ _ _ h => h) (by rfl) (by intro w'; go_simp; with_reducible rfl) (by simp only [Act.put, List.setIfInBounds_toArray, List.set_cons_zero, List.set_cons_succ, i64_w, i32_w]; rfl) ?_
    refine pu_ 1 (some 71) (m_ 13 3) rfl rfl (by kernel_rfl) (fun _ _ _ h => h) (by rfl) (by intro w'; go_simp; with_reducible rfl) (by simp only [Act.put, List.setIfInBounds_toArray, List.set_cons_zero, List.set_cons_succ, i64_w, i32_w]; rfl) ?_
    refine pu_ 2 (some 72) (m_ 13 7) rfl rfl (by kernel_rfl) (fun _ _ _ h => h) (by rfl) (by intro w'; go_simp; with_reducible rfl) (by simp only [Act.put, List.setIfInBounds_toArray, List.set_cons_zero, List.set_cons_succ, i64_w, i32_w]; rfl) ?_
    refine pu_ 4 (some 74) (m_ 13 23) rfl rfl (by kernel_rfl) (fun _ _ _ h => h) (by rfl) (by intro w'; go_simp; with_reducible rfl) (by simp only [Act.put, List.setIfInBounds_toArray, List.set_cons_zero, List.set_cons_succ, i64_w, i32_w]; rfl) ?_
    refine pu_ 5 (some 75) (m_ 13 55) rfl rfl (by kernel_rfl) (fun _ _ _ h => h) (by rfl) (by intro w'; go_simp; with_reducible rfl) (by simp only [Act.put, List.setIfInBounds_toArray, List.set_cons_zero, List.set_cons_succ, i64_w, i32_w]; rfl) ?_
    refine pu_ 6 (some 76) (m_ 13 119) rfl rfl (by kernel_rfl) (fun _ _ _ h => h) (by rfl) (by intro w'; go_simp; with_reducible rfl) (by simp only [Act.put, List.setIfInBounds_toArray, List.set_cons_zero, List.set_cons_succ, i64_w, i32_w]; rfl) ?_
    refine pu_ 10 (some 80) (m_ 13 1143) rfl rfl (by kernel_rfl) (fun _ _ _ h => h) (by rfl) (by intro w'; go_simp; with_reducible rfl) (by simp only [Act.put, List.setIfInBounds_toArray, List.set_cons_zero, List.set_cons_succ, i64_w, i32_w]; rfl) ?_
    refine pu_ 11 (some 81) (m_ 13 3191) rfl rfl (by kernel_rfl) (fun _ _ _ h => h) (by rfl) (by intro w'; go_simp; with_reducible rfl) (by simp only [Act.put, List.setIfInBounds_toArray, List.set_cons_zero, List.set_cons_succ, i64_w, i32_w]; rfl) ?_
    refine tk_ 3 (some 73) (m_ 13 3199) rfl rfl (by kernel_rfl) (fun _ _ _ h => h) (by rfl) (by rintro w' ⟨s0, s1, s2, s3, s4, s5, s6, s7⟩; go_simp; with_reducible rfl) hHeld (by simp only [Act.put, List.setIfInBounds_toArray, List.set_cons_zero, List.set_cons_succ, i64_w, i32_w]; rfl) ?_
    refine tk_ 7 (some 77) (m_ 13 3327) rfl rfl (by kernel_rfl) (fun _ _ _ h => h) (by rfl) (by rintro w' ⟨s0, s1, s2, s3, s4, s5, s6, s7⟩; go_simp; with_reducible rfl) hHeld (by simp only [Act.put, List.setIfInBounds_toArray, List.set_cons_zero, List.set_cons_succ, i64_w, i32_w]; rfl) ?_
    refine pu_ 8 (some 78) (m_ 13 3583) rfl rfl (by kernel_rfl) (fun _ _ _ h => h) (by rfl) (by intro w'; go_simp; with_reducible rfl) (by simp only [Act.put, List.setIfInBounds_toArray, List.set_cons_zero, List.set_cons_succ, i64_w, i32_w]; rfl) ?_
    refine tk_ 9 (some 79) (m_ 13 4095) rfl rfl (by kernel_rfl) (fun _ _ _ h => h) (by rfl) (by rintro w' ⟨s0, s1, s2, s3, s4, s5, s6, s7⟩; go_simp; with_reducible rfl) hHeld (by simp only [Act.put, List.setIfInBounds_toArray, List.set_cons_zero, List.set_cons_succ, i64_w, i32_w]; rfl) ?_
    refine one_ (i := 12) (N := some 82) (m_ 13 8191) rfl rfl (by kernel_rfl) (by decide) (fun K hK => ?_)
    refine goes_ Tryz.func36 (by kernel_rfl) rfl #[ptr c, .int .i64 x.names.length, .agg #[.string ⟨#[]⟩, .int .i64 0, .bool false, .int .i64 0, .int .i64 0, .int .i64 0], .int .u64 st, .int .i64 now] (by rfl) rfl rfl (by simp only [List.map_toArray, List.map_cons, List.map_nil]; rfl) ?_
    with_reducible refine (hins.out).mono ?_
    rintro e w7 ⟨rfl, hT⟩
    obtain ⟨F7, G7, D7, h7, hd7, hs7⟩ := H6.out.drew.turn hT
    have r0 : w7.cell? ⟨b, 0, none⟩ = some (ptr c) := (h7.cell 0).trans rfl
    have r1 : w7.cell? ⟨b, 1, none⟩ = some (.slice A0 x.names.length cp0) := (h7.cell 1).trans rfl
    have hq7 := hqb7.out w7 hd7
    have rq0 := (hq7.cell 0).trans rfl
    have rq1 := (hq7.cell 1).trans rfl
    have rq2 := (hq7.cell 2).trans rfl
    have rq3 := (hq7.cell 3).trans rfl
    have rq4 := (hq7.cell 4).trans rfl
    have rq5 := (hq7.cell 5).trans rfl
    simp only [List.getElem?_toArray, List.getElem?_cons_zero, List.getElem?_cons_succ] at rq0 rq1 rq2 rq3 rq4 rq5
    have H7 := Lib.hid h7
    have hDS7 := Lib.hid (And.intro hd7 hs7)
    clear hT h7 hd7 hs7 hq7
    refine ⟨_, rfl, ?_⟩
    refine hK.out _ _ ⟨r0, r1, rq0, rq1, rq2, rq3, rq4, rq5⟩ (fun hHeld => ?_)
    clear hK K
    refine norm_ (a' := ?_) ?_ ?_
    rotate_left
    · show Act.put _ (some 82) _ = _
      simp only [Act.put, List.setIfInBounds_toArray, List.set_cons_zero, List.set_cons_succ, i64_w, i32_w]
      rfl
    refine done_ (by kernel_rfl) ?_
    clear hHeld r0 r1 u0 u1 u2 u3 u4 u5 rq0 rq1 rq2 rq3 rq4 rq5
    have r1 : w7.cell? ⟨b, 1, none⟩ = some (.slice A0 x.names.length cp0) := (H7.out.cell 1).trans rfl
    have hown : w7.ownsRow 0 9 1 (.slice A0 x.names.length cp0) x.names.length (x.names.map Value.string) := (H7.out.2.2.2.1).owns
    have hsz7 : w.heap.size ≤ w7.heap.size := Nat.le_trans hD6.out.1.size hDS7.out.1.size
    obtain ⟨i0, hi1, hz0, hz1, hz2⟩ := info_parts info_st
    go_wp2_with (at_builtin; refine wpList_append_own_at _ rfl _ _ 51 rfl 0 9 i0 (.string ⟨#[]⟩) 1 16 Tryz.underlying51 hi1 hz0 hz1 hz2 rfl (by decide) _ _ _ rfl (hown.alloc _) ⟨w7.heap.size, 0, none⟩ 1 1 [.string t0] rfl rfl (cell_one_new _ _ _) (by simp [Value.oneCell']) (by unfold maxLen; omega) (by omega) (by omega) ?_; intro v' w8 hO hG _ hat; obtain ⟨A8, c8, rfl⟩ := own_slice hO; have hG' := Lib.hid hG; have hO' := Lib.hid hO; have hat' := Lib.hid hat; have b8 : w8.cell? ⟨b, 1, none⟩ = some (.slice A0 x.names.length cp0) := (World.cell?_of_block (a := ⟨b, 1, none⟩) (grow_b H7.out hG)).trans r1; have fb8 : w8.frozen? ⟨b, 1, none⟩ = false := (frozen_of_block (grow_b H7.out hG)).trans (H7.out.free 1); clear hG hO hat)
    have hD8 : Did (fun j => (Value.slice A0 x.names.length cp0).ownBlock = some j) w7 w8 := (((Did.refl _ w7).alloc _).trans (Stem.refl _ _) (Did.of_grown hG'.out (fun j e => .inl e)))
    have hN8 : NV w8 (.slice A8 (x.names.length + 1) c8) (x.names ++ [t0]) := NV.of_owns (base := 0) (by rw [List.length_append, List.map_append]; exact hO'.out)
    have hset := H7.out.names hD8 hN8 (fun j e => by
      rcases hat'.out with q | q
      · exact .inl (q ▸ e)
      · rw [q] at e
        injection e with e
        exact .inr (by rw [← e]; simp))
    have hr := Lib.hid (show LTu w F (w8.setCell ⟨b, 1, none⟩ (.slice A8 (x.names.length + 1) c8)) b (addK x ⟨t0, t1, t2, t3, t4, t5⟩ now) from by
      rw [hadd.out _ hdk.out, show Ref02.stepI (dieK x) = st from hst.out]
      exact LTu.next hD6.out.1 hD6.out.2 (LTu.next ((Did.refl F w6).drew.trans (Stem.refl _ _) hDS7.out.1) (show Stem F F7 w6 from fun j hj => hDS7.out.2 j hj) ⟨_, hset.1.lk, hset.2.1, hset.2.2⟩))
    clear hset hN8 hD8 hG' hO' hat' H7 hDS7 H6 hD6
    go_ret
    exact ⟨rfl, hr.out⟩
theorem kAdd_any (h : LK w F b x) (ho : OkK x M Q) (t : Tox) (now : Int) :
    Calls Tryz.prog 17 #[ptr b, t.v, .int .i64 now] w fun e w' => e = .returned (.int .i64 (addE x t)) ∧ LTu w F w' b (addK x t now) := by
  obtain ⟨t0, t1, t2, t3, t4, t5⟩ := t
  have keep : ∀ (c1 : addsB x ⟨t0, t1, t2, t3, t4, t5⟩ = false), addK x ⟨t0, t1, t2, t3, t4, t5⟩ now = x := fun c1 => by unfold addK; rw [c1]; rfl
  by_cases hz : chk ⟨t0, t1, t2, t3, t4, t5⟩ = 0
  · by_cases hu : t2 = x.up
    · have hE : addE x ⟨t0, t1, t2, t3, t4, t5⟩ = if (idxN x.names t0).isSome = true then 141 else if 8 ≤ x.names.length then 110 else 0 := by
        unfold addE
        rw [if_neg (by rintro (e | e); exact e hz; exact e hu)]
      rw [hE]
      cases hi : (idxN x.names t0).isSome with
      | true =>
        rw [if_pos rfl, keep (by unfold addsB; rw [hi]; simp)]
        exact add_there h ho t0 t1 t2 t3 t4 t5 now hz hu hi
      | false =>
        rw [if_neg (by decide)]
        by_cases hf : 8 ≤ x.names.length
        · rw [if_pos hf, keep (by unfold addsB; rw [decide_eq_false (show ¬ x.names.length < 8 by omega)]; simp)]
          exact add_full h ho t0 t1 t2 t3 t4 t5 now hz hu hi hf
        · rw [if_neg hf]
          exact add_in h ho t0 t1 t2 t3 t4 t5 now hz hu hi (by omega)
    · have hE : addE x ⟨t0, t1, t2, t3, t4, t5⟩ = 0 := by unfold addE; rw [if_pos (.inr hu)]; exact hz
      rw [hE, keep (by unfold addsB; rw [decide_eq_false (show ¬ (chk ⟨t0, t1, t2, t3, t4, t5⟩ = 0 ∧ t2 = x.up) from fun e => hu e.2)]; rfl)]
      exact add_other h ho t0 t1 t2 t3 t4 t5 now hz hu
  · have hE : addE x ⟨t0, t1, t2, t3, t4, t5⟩ = chk ⟨t0, t1, t2, t3, t4, t5⟩ := by unfold addE; rw [if_pos (.inl hz)]
    rw [hE, keep (by unfold addsB; rw [decide_eq_false (show ¬ (chk ⟨t0, t1, t2, t3, t4, t5⟩ = 0 ∧ t2 = x.up) from fun e => hz e.1)]; rfl)]
    exact add_bad h ho t0 t1 t2 t3 t4 t5 now hz
end Go.Proofs.YtoiibmcbjjnpbaaGreat.Link
namespace Go.Proofs.YtoiibmcbjjnpbaaGreat.Link
open Go.RowKit Mem Tick Cargo Toxic Stage Chain
open Go.Proofs.YtoiibmcbjjnpbaaGreatW.PrintLast Pu
set_option maxRecDepth 100000
set_option linter.unusedVariables false
set_option linter.unusedSimpArgs false
variable {w w' w1 : World} {F : Nat → Prop} {b : Nat} {x y : Lk} {M Q : Int}
theorem chg_bad (h : LK w F b x) (ho : OkK x M Q) (hM : M ≤ 1000000000) (t0 : ByteArray) (t1 : Int) (t2 : Bool) (t3 t4 t5 now : Int) (hz : chk ⟨t0, t1, t2, t3, t4, t5⟩ ≠ 0) :
    Calls Tryz.prog 23 #[ptr b, .agg #[.string t0, .int .i64 t1, .bool t2, .int .i64 t3, .int .i64 t4, .int .i64 t5], .int .i64 now] w fun e w' => e = .returned (.int .i64 (chk ⟨t0, t1, t2, t3, t4, t5⟩)) ∧ LTu w F w' b (x) := by
  obtain ⟨G, c, D, v, h⟩ := h
  have hvs := h.2.2.2.1.sr
  obtain ⟨A0, cp0, hv, _⟩ := hvs
  subst hv
  have hnl : x.names.length ≤ 8 := by have := ho.n; have := ho.c.ten; omega
  have hb0 := (Below.refl w.heap.size w).alloc (Nat.le_refl _) (.cells #[.string t0, .int .i64 t1, .bool t2, .int .i64 t3, .int .i64 t4, .int .i64 t5] 34)
  have hblk0 := Lib.hid (Blk.new w 34 #[.string t0, .int .i64 t1, .bool t2, .int .i64 t3, .int .i64 t4, .int .i64 t5])
  have hH0 := Lib.hid (h.below hb0)
  have hb0' := Lib.hid hb0
  have hck := Lib.hid (fun wy => check_any ⟨t0, t1, t2, t3, t4, t5⟩ wy)
  have hl0 := Lib.hid (LTu.refl h.lk)
  have tz : (chk ⟨t0, t1, t2, t3, t4, t5⟩ != 0) = true := by simpa using hz
  obtain ⟨I0, hI0⟩ : ∃ I0, idxI x.names t0 = I0 := ⟨_, rfl⟩
  have his := Lib.hid hI0
  clear hI0
  clear h hb0 ho hz
  generalize hE : chk ⟨t0, t1, t2, t3, t4, t5⟩ = E at *
  go_enter Tryz.func23, Tryz.ntmps23
  go_wp2_with fail
  refine (hck.out _).mono ?_
  rintro e w1 ⟨rfl, hB⟩
  have hB1 := Lib.hid (bw_below hb0'.out hB)
  have hblk1 := Lib.hid (hblk0.out.below hB)
  have hH1 := Lib.hid (hH0.out.below hB)
  clear hB hb0' hblk0 hH0 hck
  have e2 : w1.cell? ⟨w.heap.size, 2, none⟩ = some (.bool t2) := (hblk1.out.cell 2).trans rfl
  have d2 : w1.cell? ⟨b, 2, none⟩ = some (.bool x.up) := (hH1.out.cell 2).trans rfl
  have d1 : w1.cell? ⟨b, 1, none⟩ = some (.slice A0 x.names.length cp0) := (hH1.out.cell 1).trans rfl
  have e0 : w1.cell? ⟨w.heap.size, 0, none⟩ = some (.string t0) := (hblk1.out.cell 0).trans rfl
  have hix := Lib.hid (index_any w1.drew (.slice A0 x.names.length cp0) x.names t0 (show SR w1.drew _ _ from (hH1.out.2.2.2.1).sr) (by omega))
  go_wp2
  refine start_ (n := 8) (S := fun w' => w'.cell? ⟨b, 1, none⟩ = some (.slice A0 x.names.length cp0) ∧ w'.cell? ⟨w.heap.size, 0, none⟩ = some (.string t0)) (ds := []) (m_ 8 0) (by kernel_rfl) rfl (by kernel_rfl) ⟨d1, e0⟩ (fun hHeld => ?_)
  refine pu_ 0 (some 11) (m_ 8 1) rfl rfl (by kernel_rfl) (fun _ _ _ h => h) (by rfl) (by intro w'; go_simp; with_reducible rfl) (by simp only [Act.put, List.setIfInBounds_toArray, List.set_cons_zero, List.set_cons_succ, i64_w, i32_w]; rfl) ?_
  refine pu_ 1 (some 12) (m_ 8 3) rfl rfl (by kernel_rfl) (fun _ _ _ h => h) (by rfl) (by intro w'; go_simp; with_reducible rfl) (by simp only [Act.put, List.setIfInBounds_toArray, List.set_cons_zero, List.set_cons_succ, i64_w, i32_w]; rfl) ?_
  refine pu_ 2 (some 13) (m_ 8 7) rfl rfl (by kernel_rfl) (fun _ _ _ h => h) (by rfl) (by intro w'; go_simp; with_reducible rfl) (by simp only [Act.put, List.setIfInBounds_toArray, List.set_cons_zero, List.set_cons_succ, i64_w, i32_w]; rfl) ?_
  refine pu_ 4 (some 15) (m_ 8 23) rfl rfl (by kernel_rfl) (fun _ _ _ h => h) (by rfl) (by intro w'; go_simp; with_reducible rfl) (by simp only [Act.put, List.setIfInBounds_toArray, List.set_cons_zero, List.set_cons_succ, i64_w, i32_w]; rfl) ?_
  refine tk_ 3 (some 14) (m_ 8 31) rfl rfl (by kernel_rfl) (fun _ _ _ h => h) (by rfl) (by rintro w' ⟨s0, s1⟩; go_simp; with_reducible rfl) hHeld (by simp only [Act.put, List.setIfInBounds_toArray, List.set_cons_zero, List.set_cons_succ, i64_w, i32_w]; rfl) ?_
  refine tk_ 5 (some 16) (m_ 8 63) rfl rfl (by kernel_rfl) (fun _ _ _ h => h) (by rfl) (by rintro w' ⟨s0, s1⟩; go_simp; with_reducible rfl) hHeld (by simp only [Act.put, List.setIfInBounds_toArray, List.set_cons_zero, List.set_cons_succ, i64_w, i32_w]; rfl) ?_
  refine one_ (i := 6) (N := some 17) (m_ 8 127) rfl rfl (by kernel_rfl) (by decide) (fun K hK => ?_)
  refine goes_ Tryz.func42 (by kernel_rfl) rfl #[.slice A0 x.names.length cp0, .string t0] (by rfl) rfl rfl (by simp only [List.map_toArray, List.map_cons, List.map_nil]; rfl) ?_
  with_reducible refine (hix.out).mono ?_
  rintro e w2 ⟨rfl, rfl⟩
  rw [his.out]
  refine ⟨_, rfl, ?_⟩
  refine hK.out _ _ ⟨d1, e0⟩ (fun hHeld => ?_)
  clear hK K
  refine norm_ (a' := ?_) ?_ ?_
  rotate_left
  · show Act.put _ (some 17) _ = _
    simp only [Act.put, List.setIfInBounds_toArray, List.set_cons_zero, List.set_cons_succ, i64_w, i32_w]
    rfl
  refine pu_ 7 (some 8) (m_ 8 255) rfl rfl (by kernel_rfl) (fun _ _ _ h => h) (by rfl) (by intro w'; go_simp; with_reducible rfl) (by simp only [Act.put, List.setIfInBounds_toArray, List.set_cons_zero, List.set_cons_succ, i64_w, i32_w]; rfl) ?_
  refine done_ (by kernel_rfl) ?_
  clear hHeld
  go_wp2
  refine start_ (n := 12) (S := fun w' => True) (ds := []) (m_ 12 0) (by kernel_rfl) rfl (by kernel_rfl) trivial (fun hHeld => ?_)
  refine pu_ 0 (some 19) (m_ 12 1) rfl rfl (by kernel_rfl) (fun _ _ _ h => h) (by rfl) (by intro w'; go_simp; with_reducible rfl) (by simp only [Act.put, List.setIfInBounds_toArray, List.set_cons_zero, List.set_cons_succ, i64_w, i32_w]; rfl) ?_
  refine pu_ 1 (some 20) (m_ 12 3) rfl rfl (by kernel_rfl) (fun _ _ _ h => h) (by rfl) (by intro w'; go_simp; with_reducible rfl) (by simp only [Act.put, List.setIfInBounds_toArray, List.set_cons_zero, List.set_cons_succ, i64_w, i32_w]; rfl) ?_
  refine pu_ 2 (some 21) (m_ 12 7) rfl rfl (by kernel_rfl) (fun _ _ _ h => h) (by rfl) (by intro w'; go_simp; with_reducible rfl) (by simp only [Act.put, List.setIfInBounds_toArray, List.set_cons_zero, List.set_cons_succ, i64_w, i32_w]; rfl) ?_
  refine po_ 3 (some 22) (m_ 12 15) rfl rfl (by kernel_rfl) (fun _ _ _ h => h) (by rfl) (by simp only [Act.put, List.setIfInBounds_toArray, List.set_cons_zero, List.set_cons_succ, i64_w, i32_w]; rfl) ?_
  refine po_ 4 (some 23) (m_ 12 31) rfl rfl (by kernel_rfl) (fun _ _ _ h => h) (by rfl) (by simp only [Act.put, List.setIfInBounds_toArray, List.set_cons_zero, List.set_cons_succ, i64_w, i32_w]; rfl) ?_
  refine po_ 5 (some 24) (m_ 12 63) rfl rfl (by kernel_rfl) (fun _ _ _ h => h) (by rfl) (by simp only [Act.put, List.setIfInBounds_toArray, List.set_cons_zero, List.set_cons_succ, i64_w, i32_w]; rfl) ?_
  refine po_ 6 (some 25) (m_ 12 127) rfl rfl (by kernel_rfl) (fun _ _ _ h => h) (by rfl) (by simp only [Act.put, List.setIfInBounds_toArray, List.set_cons_zero, List.set_cons_succ, i64_w, i32_w]; rfl) ?_
  refine po_ 7 (some 26) (m_ 12 255) rfl rfl (by kernel_rfl) (fun _ _ _ h => h) (by rfl) (by simp only [Act.put, List.setIfInBounds_toArray, List.set_cons_zero, List.set_cons_succ, i64_w, i32_w]; rfl) ?_
  refine po_ 8 (some 27) (m_ 12 511) rfl rfl (by kernel_rfl) (fun _ _ _ h => h) (by rfl) (by simp only [Act.put, List.setIfInBounds_toArray, List.set_cons_zero, List.set_cons_succ, i64_w, i32_w]; rfl) ?_
  refine po_ 9 (some 28) (m_ 12 1023) rfl rfl (by kernel_rfl) (fun _ _ _ h => h) (by rfl) (by simp only [Act.put, List.setIfInBounds_toArray, List.set_cons_zero, List.set_cons_succ, i64_w, i32_w]; rfl) ?_
  refine pu_ 10 (some 29) (m_ 12 2047) rfl rfl (by kernel_rfl) (fun _ _ _ h => h) (by rfl) (by intro w'; go_simp; with_reducible rfl) (by simp only [Act.put, List.setIfInBounds_toArray, List.set_cons_zero, List.set_cons_succ, i64_w, i32_w]; rfl) ?_
  refine pu_ 11 (some 18) (m_ 12 4095) rfl rfl (by kernel_rfl) (fun _ _ _ h => h) (by rfl) (by intro w'; go_simp; with_reducible rfl) (by simp only [Act.put, List.setIfInBounds_toArray, List.set_cons_zero, List.set_cons_succ, i64_w, i32_w]; rfl) ?_
  refine done_ (by kernel_rfl) ?_
  clear hHeld e2 d2 d1 e0 hix
  have hr := Lib.hid (show LTu w F w1.drew.drew b x from hl0.out.trans (fun F' hL => LTu.below (w := w) hL hB1.out.drew.drew))
  clear hH1 hblk1 hB1
  go_wp2
  go_ret
  exact ⟨rfl, hr.out⟩
theorem chg_other (h : LK w F b x) (ho : OkK x M Q) (hM : M ≤ 1000000000) (t0 : ByteArray) (t1 : Int) (t2 : Bool) (t3 t4 t5 now : Int) (hz : chk ⟨t0, t1, t2, t3, t4, t5⟩ = 0) (hu : t2 ≠ x.up) :
    Calls Tryz.prog 23 #[ptr b, .agg #[.string t0, .int .i64 t1, .bool t2, .int .i64 t3, .int .i64 t4, .int .i64 t5], .int .i64 now] w fun e w' => e = .returned (.int .i64 (0)) ∧ LTu w F w' b (x) := by
  obtain ⟨G, c, D, v, h⟩ := h
  have hvs := h.2.2.2.1.sr
  obtain ⟨A0, cp0, hv, _⟩ := hvs
  subst hv
  have hnl : x.names.length ≤ 8 := by have := ho.n; have := ho.c.ten; omega
  have hb0 := (Below.refl w.heap.size w).alloc (Nat.le_refl _) (.cells #[.string t0, .int .i64 t1, .bool t2, .int .i64 t3, .int .i64 t4, .int .i64 t5] 34)
  have hblk0 := Lib.hid (Blk.new w 34 #[.string t0, .int .i64 t1, .bool t2, .int .i64 t3, .int .i64 t4, .int .i64 t5])
  have hH0 := Lib.hid (h.below hb0)
  have hb0' := Lib.hid hb0
  have hck := Lib.hid (fun wy => check_any ⟨t0, t1, t2, t3, t4, t5⟩ wy)
  have hl0 := Lib.hid (LTu.refl h.lk)
  have tu : (t2 != x.up) = true := by simpa using hu
  have tu2 : (t2 == x.up) = false := by simpa using hu
  obtain ⟨I0, hI0⟩ : ∃ I0, idxI x.names t0 = I0 := ⟨_, rfl⟩
  have his := Lib.hid hI0
  clear hI0
  rw [hz] at hck
  clear h hb0 ho hz hu
  go_enter Tryz.func23, Tryz.ntmps23
  go_wp2_with fail
  refine (hck.out _).mono ?_
  rintro e w1 ⟨rfl, hB⟩
  have hB1 := Lib.hid (bw_below hb0'.out hB)
  have hblk1 := Lib.hid (hblk0.out.below hB)
  have hH1 := Lib.hid (hH0.out.below hB)
  clear hB hb0' hblk0 hH0 hck
  have e2 : w1.cell? ⟨w.heap.size, 2, none⟩ = some (.bool t2) := (hblk1.out.cell 2).trans rfl
  have d2 : w1.cell? ⟨b, 2, none⟩ = some (.bool x.up) := (hH1.out.cell 2).trans rfl
  have d1 : w1.cell? ⟨b, 1, none⟩ = some (.slice A0 x.names.length cp0) := (hH1.out.cell 1).trans rfl
  have e0 : w1.cell? ⟨w.heap.size, 0, none⟩ = some (.string t0) := (hblk1.out.cell 0).trans rfl
  have hix := Lib.hid (index_any w1.drew (.slice A0 x.names.length cp0) x.names t0 (show SR w1.drew _ _ from (hH1.out.2.2.2.1).sr) (by omega))
  go_wp2
  refine start_ (n := 8) (S := fun w' => w'.cell? ⟨b, 1, none⟩ = some (.slice A0 x.names.length cp0) ∧ w'.cell? ⟨w.heap.size, 0, none⟩ = some (.string t0)) (ds := []) (m_ 8 0) (by kernel_rfl) rfl (by kernel_rfl) ⟨d1, e0⟩ (fun hHeld => ?_)
  refine pu_ 0 (some 11) (m_ 8 1) rfl rfl (by kernel_rfl) (fun _ _ _ h => h) (by rfl) (by intro w'; go_simp; with_reducible rfl) (by simp only [Act.put, List.setIfInBounds_toArray, List.set_cons_zero, List.set_cons_succ, i64_w, i32_w]; rfl) ?_
  refine pu_ 1 (some 12) (m_ 8 3) rfl rfl (by kernel_rfl) (fun _ _ _ h => h) (by rfl) (by intro w'; go_simp; with_reducible rfl) (by simp only [Act.put, List.setIfInBounds_toArray, List.set_cons_zero, List.set_cons_succ, i64_w, i32_w]; rfl) ?_
  refine pu_ 2 (some 13) (m_ 8 7) rfl rfl (by kernel_rfl) (fun _ _ _ h => h) (by rfl) (by intro w'; go_simp; with_reducible rfl) (by simp only [Act.put, List.setIfInBounds_toArray, List.set_cons_zero, List.set_cons_succ, i64_w, i32_w]; rfl) ?_
  refine pu_ 4 (some 15) (m_ 8 23) rfl rfl (by kernel_rfl) (fun _ _ _ h => h) (by rfl) (by intro w'; go_simp; with_reducible rfl) (by simp only [Act.put, List.setIfInBounds_toArray, List.set_cons_zero, List.set_cons_succ, i64_w, i32_w]; rfl) ?_
  refine tk_ 3 (some 14) (m_ 8 31) rfl rfl (by kernel_rfl) (fun _ _ _ h => h) (by rfl) (by rintro w' ⟨s0, s1⟩; go_simp; with_reducible rfl) hHeld (by simp only [Act.put, List.setIfInBounds_toArray, List.set_cons_zero, List.set_cons_succ, i64_w, i32_w]; rfl) ?_
  refine tk_ 5 (some 16) (m_ 8 63) rfl rfl (by kernel_rfl) (fun _ _ _ h => h) (by rfl) (by rintro w' ⟨s0, s1⟩; go_simp; with_reducible rfl) hHeld (by simp only [Act.put, List.setIfInBounds_toArray, List.set_cons_zero, List.set_cons_succ, i64_w, i32_w]; rfl) ?_
  refine one_ (i := 6) (N := some 17) (m_ 8 127) rfl rfl (by kernel_rfl) (by decide) (fun K hK => ?_)
  refine goes_ Tryz.func42 (by kernel_rfl) rfl #[.slice A0 x.names.length cp0, .string t0] (by rfl) rfl rfl (by simp only [List.map_toArray, List.map_cons, List.map_nil]; rfl) ?_
  with_reducible refine (hix.out).mono ?_
  rintro e w2 ⟨rfl, rfl⟩
  rw [his.out]
  refine ⟨_, rfl, ?_⟩
  refine hK.out _ _ ⟨d1, e0⟩ (fun hHeld => ?_)
  clear hK K
  refine norm_ (a' := ?_) ?_ ?_
  rotate_left
  · show Act.put _ (some 17) _ = _
    simp only [Act.put, List.setIfInBounds_toArray, List.set_cons_zero, List.set_cons_succ, i64_w, i32_w]
    rfl
  refine pu_ 7 (some 8) (m_ 8 255) rfl rfl (by kernel_rfl) (fun _ _ _ h => h) (by rfl) (by intro w'; go_simp; with_reducible rfl) (by simp only [Act.put, List.setIfInBounds_toArray, List.set_cons_zero, List.set_cons_succ, i64_w, i32_w]; rfl) ?_
  refine done_ (by kernel_rfl) ?_
  clear hHeld
  go_wp2
  refine start_ (n := 12) (S := fun w' => w'.cell? ⟨w.heap.size, 2, none⟩ = some (.bool t2) ∧ w'.cell? ⟨b, 2, none⟩ = some (.bool x.up)) (ds := []) (m_ 12 0) (by kernel_rfl) rfl (by kernel_rfl) ⟨e2, d2⟩ (fun hHeld => ?_)
  refine pu_ 0 (some 19) (m_ 12 1) rfl rfl (by kernel_rfl) (fun _ _ _ h => h) (by rfl) (by intro w'; go_simp; with_reducible rfl) (by simp only [Act.put, List.setIfInBounds_toArray, List.set_cons_zero, List.set_cons_succ, i64_w, i32_w]; rfl) ?_
  refine pu_ 1 (some 20) (m_ 12 3) rfl rfl (by kernel_rfl) (fun _ _ _ h => h) (by rfl) (by intro w'; go_simp; with_reducible rfl) (by simp only [Act.put, List.setIfInBounds_toArray, List.set_cons_zero, List.set_cons_succ, i64_w, i32_w]; rfl) ?_
  refine pu_ 2 (some 21) (m_ 12 7) rfl rfl (by kernel_rfl) (fun _ _ _ h => h) (by rfl) (by intro w'; go_simp; with_reducible rfl) (by simp only [Act.put, List.setIfInBounds_toArray, List.set_cons_zero, List.set_cons_succ, i64_w, i32_w]; rfl) ?_
  refine pu_ 3 (some 22) (m_ 12 15) rfl rfl (by kernel_rfl) (fun _ _ _ h => h) (by rfl) (by intro w'; go_simp; with_reducible rfl) (by simp only [Act.put, List.setIfInBounds_toArray, List.set_cons_zero, List.set_cons_succ, i64_w, i32_w]; rfl) ?_
  refine pu_ 5 (some 24) (m_ 12 47) rfl rfl (by kernel_rfl) (fun _ _ _ h => h) (by rfl) (by intro w'; go_simp; with_reducible rfl) (by simp only [Act.put, List.setIfInBounds_toArray, List.set_cons_zero, List.set_cons_succ, i64_w, i32_w]; rfl) ?_
  refine pu_ 6 (some 25) (m_ 12 111) rfl rfl (by kernel_rfl) (fun _ _ _ h => h) (by rfl) (by intro w'; go_simp; with_reducible rfl) (by simp only [Act.put, List.setIfInBounds_toArray, List.set_cons_zero, List.set_cons_succ, i64_w, i32_w]; rfl) ?_
  refine pu_ 7 (some 26) (m_ 12 239) rfl rfl (by kernel_rfl) (fun _ _ _ h => h) (by rfl) (by intro w'; go_simp; with_reducible rfl) (by simp only [Act.put, List.setIfInBounds_toArray, List.set_cons_zero, List.set_cons_succ, i64_w, i32_w]; rfl) ?_
  refine tk_ 4 (some 23) (m_ 12 255) rfl rfl (by kernel_rfl) (fun _ _ _ h => h) (by rfl) (by rintro w' ⟨s0, s1⟩; go_simp; with_reducible rfl) hHeld (by simp only [Act.put, List.setIfInBounds_toArray, List.set_cons_zero, List.set_cons_succ, i64_w, i32_w]; rfl) ?_
  refine tk_ 8 (some 27) (m_ 12 511) rfl rfl (by kernel_rfl) (fun _ _ _ h => h) (by rfl) (by rintro w' ⟨s0, s1⟩; go_simp; with_reducible rfl) hHeld (by simp only [Act.put, List.setIfInBounds_toArray, List.set_cons_zero, List.set_cons_succ, i64_w, i32_w]; rfl) ?_
  refine pu_ 9 (some 28) (m_ 12 1023) rfl rfl (by kernel_rfl) (fun _ _ _ h => h) (by rfl) (by intro w'; go_simp; with_reducible rfl) (by simp only [Act.put, List.setIfInBounds_toArray, List.set_cons_zero, List.set_cons_succ, i64_w, i32_w]; rfl) ?_
  refine pu_ 10 (some 29) (m_ 12 2047) rfl rfl (by kernel_rfl) (fun _ _ _ h => h) (by rfl) (by intro w'; go_simp; with_reducible rfl) (by simp only [Act.put, List.setIfInBounds_toArray, List.set_cons_zero, List.set_cons_succ, i64_w, i32_w]; rfl) ?_
  refine pu_ 11 (some 18) (m_ 12 4095) rfl rfl (by kernel_rfl) (fun _ _ _ h => h) (by rfl) (by intro w'; go_simp; with_reducible rfl) (by simp only [Act.put, List.setIfInBounds_toArray, List.set_cons_zero, List.set_cons_succ, i64_w, i32_w]; rfl) ?_
  refine done_ (by kernel_rfl) ?_
  clear hHeld e2 d2 d1 e0 hix
  have hr := Lib.hid (show LTu w F w1.drew.drew b x from hl0.out.trans (fun F' hL => LTu.below (w := w) hL hB1.out.drew.drew))
  clear hH1 hblk1 hB1
  go_wp2
  go_ret
  exact ⟨rfl, hr.out⟩
theorem chg_none (h : LK w F b x) (ho : OkK x M Q) (hM : M ≤ 1000000000) (t0 : ByteArray) (t1 : Int) (t2 : Bool) (t3 t4 t5 now : Int) (hz : chk ⟨t0, t1, t2, t3, t4, t5⟩ = 0) (hu : t2 = x.up) (hi : idxN x.names t0 = none) :
    Calls Tryz.prog 23 #[ptr b, .agg #[.string t0, .int .i64 t1, .bool t2, .int .i64 t3, .int .i64 t4, .int .i64 t5], .int .i64 now] w fun e w' => e = .returned (.int .i64 (142)) ∧ LTu w F w' b (x) := by
  obtain ⟨G, c, D, v, h⟩ := h
  have hvs := h.2.2.2.1.sr
  obtain ⟨A0, cp0, hv, _⟩ := hvs
  subst hv
  have hnl : x.names.length ≤ 8 := by have := ho.n; have := ho.c.ten; omega
  have hb0 := (Below.refl w.heap.size w).alloc (Nat.le_refl _) (.cells #[.string t0, .int .i64 t1, .bool t2, .int .i64 t3, .int .i64 t4, .int .i64 t5] 34)
  have hblk0 := Lib.hid (Blk.new w 34 #[.string t0, .int .i64 t1, .bool t2, .int .i64 t3, .int .i64 t4, .int .i64 t5])
  have hH0 := Lib.hid (h.below hb0)
  have hb0' := Lib.hid hb0
  have hck := Lib.hid (fun wy => check_any ⟨t0, t1, t2, t3, t4, t5⟩ wy)
  have hl0 := Lib.hid (LTu.refl h.lk)
  have tu : (t2 != x.up) = false := by rw [hu]; simp
  have tu2 : (t2 == x.up) = true := by rw [hu]; simp
  have his : Hid (idxI x.names t0 = -1) := Lib.hid (by unfold idxI; rw [hi])
  rw [hz] at hck
  clear h hb0 ho hz hu hi
  go_enter Tryz.func23, Tryz.ntmps23
  go_wp2_with fail
  refine (hck.out _).mono ?_
  rintro e w1 ⟨rfl, hB⟩
  have hB1 := Lib.hid (bw_below hb0'.out hB)
  have hblk1 := Lib.hid (hblk0.out.below hB)
  have hH1 := Lib.hid (hH0.out.below hB)
  clear hB hb0' hblk0 hH0 hck
  have e2 : w1.cell? ⟨w.heap.size, 2, none⟩ = some (.bool t2) := (hblk1.out.cell 2).trans rfl
  have d2 : w1.cell? ⟨b, 2, none⟩ = some (.bool x.up) := (hH1.out.cell 2).trans rfl
  have d1 : w1.cell? ⟨b, 1, none⟩ = some (.slice A0 x.names.length cp0) := (hH1.out.cell 1).trans rfl
  have e0 : w1.cell? ⟨w.heap.size, 0, none⟩ = some (.string t0) := (hblk1.out.cell 0).trans rfl
  have hix := Lib.hid (index_any w1.drew (.slice A0 x.names.length cp0) x.names t0 (show SR w1.drew _ _ from (hH1.out.2.2.2.1).sr) (by omega))
  go_wp2
  refine start_ (n := 8) (S := fun w' => w'.cell? ⟨b, 1, none⟩ = some (.slice A0 x.names.length cp0) ∧ w'.cell? ⟨w.heap.size, 0, none⟩ = some (.string t0)) (ds := []) (m_ 8 0) (by kernel_rfl) rfl (by kernel_rfl) ⟨d1, e0⟩ (fun hHeld => ?_)
  refine pu_ 0 (some 11) (m_ 8 1) rfl rfl (by kernel_rfl) (fun _ _ _ h => h) (by rfl) (by intro w'; go_simp; with_reducible rfl) (by simp only [Act.put, List.setIfInBounds_toArray, List.set_cons_zero, List.set_cons_succ, i64_w, i32_w]; rfl) ?_
  refine pu_ 1 (some 12) (m_ 8 3) rfl rfl (by kernel_rfl) (fun _ _ _ h => h) (by rfl) (by intro w'; go_simp; with_reducible rfl) (by simp only [Act.put, List.setIfInBounds_toArray, List.set_cons_zero, List.set_cons_succ, i64_w, i32_w]; rfl) ?_
  refine pu_ 2 (some 13) (m_ 8 7) rfl rfl (by kernel_rfl) (fun _ _ _ h => h) (by rfl) (by intro w'; go_simp; with_reducible rfl) (by simp only [Act.put, List.setIfInBounds_toArray, List.set_cons_zero, List.set_cons_succ, i64_w, i32_w]; rfl) ?_
  refine pu_ 4 (some 15) (m_ 8 23) rfl rfl (by kernel_rfl) (fun _ _ _ h => h) (by rfl) (by intro w'; go_simp; with_reducible rfl) (by simp only [Act.put, List.setIfInBounds_toArray, List.set_cons_zero, List.set_cons_succ, i64_w, i32_w]; rfl) ?_
  refine tk_ 3 (some 14) (m_ 8 31) rfl rfl (by kernel_rfl) (fun _ _ _ h => h) (by rfl) (by rintro w' ⟨s0, s1⟩; go_simp; with_reducible rfl) hHeld (by simp only [Act.put, List.setIfInBounds_toArray, List.set_cons_zero, List.set_cons_succ, i64_w, i32_w]; rfl) ?_
  refine tk_ 5 (some 16) (m_ 8 63) rfl rfl (by kernel_rfl) (fun _ _ _ h => h) (by rfl) (by rintro w' ⟨s0, s1⟩; go_simp; with_reducible rfl) hHeld (by simp only [Act.put, List.setIfInBounds_toArray, List.set_cons_zero, List.set_cons_succ, i64_w, i32_w]; rfl) ?_
  refine one_ (i := 6) (N := some 17) (m_ 8 127) rfl rfl (by kernel_rfl) (by decide) (fun K hK => ?_)
  refine goes_ Tryz.func42 (by kernel_rfl) rfl #[.slice A0 x.names.length cp0, .string t0] (by rfl) rfl rfl (by simp only [List.map_toArray, List.map_cons, List.map_nil]; rfl) ?_
  with_reducible refine (hix.out).mono ?_
  rintro e w2 ⟨rfl, rfl⟩
  rw [his.out]
  refine ⟨_, rfl, ?_⟩
  refine hK.out _ _ ⟨d1, e0⟩ (fun hHeld => ?_)
  clear hK K
  refine norm_ (a' := ?_) ?_ ?_
  rotate_left
  · show Act.put _ (some 17) _ = _
    simp only [Act.put, List.setIfInBounds_toArray, List.set_cons_zero, List.set_cons_succ, i64_w, i32_w]
    rfl
  refine pu_ 7 (some 8) (m_ 8 255) rfl rfl (by kernel_rfl) (fun _ _ _ h => h) (by rfl) (by intro w'; go_simp; with_reducible rfl) (by simp only [Act.put, List.setIfInBounds_toArray, List.set_cons_zero, List.set_cons_succ, i64_w, i32_w]; rfl) ?_
  refine done_ (by kernel_rfl) ?_
  clear hHeld
  go_wp2
  refine start_ (n := 12) (S := fun w' => w'.cell? ⟨w.heap.size, 2, none⟩ = some (.bool t2) ∧ w'.cell? ⟨b, 2, none⟩ = some (.bool x.up)) (ds := []) (m_ 12 0) (by kernel_rfl) rfl (by kernel_rfl) ⟨e2, d2⟩ (fun hHeld => ?_)
  refine pu_ 0 (some 19) (m_ 12 1) rfl rfl (by kernel_rfl) (fun _ _ _ h => h) (by rfl) (by intro w'; go_simp; with_reducible rfl) (by simp only [Act.put, List.setIfInBounds_toArray, List.set_cons_zero, List.set_cons_succ, i64_w, i32_w]; rfl) ?_
  refine pu_ 1 (some 20) (m_ 12 3) rfl rfl (by kernel_rfl) (fun _ _ _ h => h) (by rfl) (by intro w'; go_simp; with_reducible rfl) (by simp only [Act.put, List.setIfInBounds_toArray, List.set_cons_zero, List.set_cons_succ, i64_w, i32_w]; rfl) ?_
  refine pu_ 2 (some 21) (m_ 12 7) rfl rfl (by kernel_rfl) (fun _ _ _ h => h) (by rfl) (by intro w'; go_simp; with_reducible rfl) (by simp only [Act.put, List.setIfInBounds_toArray, List.set_cons_zero, List.set_cons_succ, i64_w, i32_w]; rfl) ?_
  refine pu_ 3 (some 22) (m_ 12 15) rfl rfl (by kernel_rfl) (fun _ _ _ h => h) (by rfl) (by intro w'; go_simp; with_reducible rfl) (by simp only [Act.put, List.setIfInBounds_toArray, List.set_cons_zero, List.set_cons_succ, i64_w, i32_w]; rfl) ?_
  refine pu_ 5 (some 24) (m_ 12 47) rfl rfl (by kernel_rfl) (fun _ _ _ h => h) (by rfl) (by intro w'; go_simp; with_reducible rfl) (by simp only [Act.put, List.setIfInBounds_toArray, List.set_cons_zero, List.set_cons_succ, i64_w, i32_w]; rfl) ?_
  refine pu_ 6 (some 25) (m_ 12 111) rfl rfl (by kernel_rfl) (fun _ _ _ h => h) (by rfl) (by intro w'; go_simp; with_reducible rfl) (by simp only [Act.put, List.setIfInBounds_toArray, List.set_cons_zero, List.set_cons_succ, i64_w, i32_w]; rfl) ?_
  refine pu_ 7 (some 26) (m_ 12 239) rfl rfl (by kernel_rfl) (fun _ _ _ h => h) (by rfl) (by intro w'; go_simp; with_reducible rfl) (by simp only [Act.put, List.setIfInBounds_toArray, List.set_cons_zero, List.set_cons_succ, i64_w, i32_w]; rfl) ?_
  refine tk_ 4 (some 23) (m_ 12 255) rfl rfl (by kernel_rfl) (fun _ _ _ h => h) (by rfl) (by rintro w' ⟨s0, s1⟩; go_simp; with_reducible rfl) hHeld (by simp only [Act.put, List.setIfInBounds_toArray, List.set_cons_zero, List.set_cons_succ, i64_w, i32_w]; rfl) ?_
  refine tk_ 8 (some 27) (m_ 12 511) rfl rfl (by kernel_rfl) (fun _ _ _ h => h) (by rfl) (by rintro w' ⟨s0, s1⟩; go_simp; with_reducible rfl) hHeld (by simp only [Act.put, List.setIfInBounds_toArray, List.set_cons_zero, List.set_cons_succ, i64_w, i32_w]; rfl) ?_
  refine pu_ 9 (some 28) (m_ 12 1023) rfl rfl (by kernel_rfl) (fun _ _ _ h => h) (by rfl) (by intro w'; go_simp; with_reducible rfl) (by simp only [Act.put, List.setIfInBounds_toArray, List.set_cons_zero, List.set_cons_succ, i64_w, i32_w]; rfl) ?_
  refine pu_ 10 (some 29) (m_ 12 2047) rfl rfl (by kernel_rfl) (fun _ _ _ h => h) (by rfl) (by intro w'; go_simp; with_reducible rfl) (by simp only [Act.put, List.setIfInBounds_toArray, List.set_cons_zero, List.set_cons_succ, i64_w, i32_w]; rfl) ?_
  refine pu_ 11 (some 18) (m_ 12 4095) rfl rfl (by kernel_rfl) (fun _ _ _ h => h) (by rfl) (by intro w'; go_simp; with_reducible rfl) (by simp only [Act.put, List.setIfInBounds_toArray, List.set_cons_zero, List.set_cons_succ, i64_w, i32_w]; rfl) ?_
  refine done_ (by kernel_rfl) ?_
  clear hHeld e2 d2 d1 e0 hix
  have hr := Lib.hid (show LTu w F w1.drew.drew b x from hl0.out.trans (fun F' hL => LTu.below (w := w) hL hB1.out.drew.drew))
  clear hH1 hblk1 hB1
  go_wp2
  go_ret
  exact ⟨rfl, hr.out⟩
theorem chg_pass (h : LK w F b x) (ho : OkK x M Q) (hM : M ≤ 1000000000) (t0 : ByteArray) (t1 : Int) (t2 : Bool) (t3 t4 t5 now : Int) (hz : chk ⟨t0, t1, t2, t3, t4, t5⟩ = 0) (hu : t2 = x.up) (i : Nat) (hi : idxN x.names t0 = some i) (q0 : ByteArray) (q1 : Int) (q2 : Bool) (q3 q4 q5 : Int) (hti : (toxs x.c)[i]? = some ⟨q0, q1, q2, q3, q4, q5⟩) (hp : passB ⟨q0, q1, q2, q3, q4, q5⟩ = true) :
    Calls Tryz.prog 23 #[ptr b, .agg #[.string t0, .int .i64 t1, .bool t2, .int .i64 t3, .int .i64 t4, .int .i64 t5], .int .i64 now] w fun e w' => e = .returned (.int .i64 (0)) ∧ LTu w F w' b (x) := by
  obtain ⟨G, c, D, v, h⟩ := h
  have hvs := h.2.2.2.1.sr
  obtain ⟨A0, cp0, hv, _⟩ := hvs
  subst hv
  have hnl : x.names.length ≤ 8 := by have := ho.n; have := ho.c.ten; omega
  have hb0 := (Below.refl w.heap.size w).alloc (Nat.le_refl _) (.cells #[.string t0, .int .i64 t1, .bool t2, .int .i64 t3, .int .i64 t4, .int .i64 t5] 34)
  have hblk0 := Lib.hid (Blk.new w 34 #[.string t0, .int .i64 t1, .bool t2, .int .i64 t3, .int .i64 t4, .int .i64 t5])
  have hH0 := Lib.hid (h.below hb0)
  have hb0' := Lib.hid hb0
  have hck := Lib.hid (fun wy => check_any ⟨t0, t1, t2, t3, t4, t5⟩ wy)
  have hl0 := Lib.hid (LTu.refl h.lk)
  have tu : (t2 != x.up) = false := by rw [hu]; simp
  have tu2 : (t2 == x.up) = true := by rw [hu]; simp
  have his : Hid (idxI x.names t0 = (i : Int)) := Lib.hid (by unfold idxI; rw [hi])
  rw [hz] at hck
  have hilt := idx_lt hi
  have hneg : decide ((i : Int) < 0) = false := decide_eq_false (by omega)
  have hnames := ho.n
  have htl := toxs_length x.c ho.c.two
  have hoc := Lib.hid ho.c
  have hq : ∀ W : World, (binOp .eql 34 (.agg #[.string q0, .int .i64 q1, .bool q2, .int .i64 q3, .int .i64 q4, .int .i64 q5]) (.agg #[.string ⟨#[]⟩, .int .i64 0, .bool false, .int .i64 0, .int .i64 0, .int .i64 0])).run Tryz.prog W = .ok (.bool true) W := fun W => by
    rw [eql_tox]; unfold passB noTox at hp; rw [hp]
  have hguard := eqguard_tox
  clear h hb0 ho hz hu hi hp
  go_enter Tryz.func23, Tryz.ntmps23
  go_wp2_with fail
  refine (hck.out _).mono ?_
  rintro e w1 ⟨rfl, hB⟩
  have hB1 := Lib.hid (bw_below hb0'.out hB)
  have hblk1 := Lib.hid (hblk0.out.below hB)
  have hH1 := Lib.hid (hH0.out.below hB)
  clear hB hb0' hblk0 hH0 hck
  have e2 : w1.cell? ⟨w.heap.size, 2, none⟩ = some (.bool t2) := (hblk1.out.cell 2).trans rfl
  have d2 : w1.cell? ⟨b, 2, none⟩ = some (.bool x.up) := (hH1.out.cell 2).trans rfl
  have d1 : w1.cell? ⟨b, 1, none⟩ = some (.slice A0 x.names.length cp0) := (hH1.out.cell 1).trans rfl
  have e0 : w1.cell? ⟨w.heap.size, 0, none⟩ = some (.string t0) := (hblk1.out.cell 0).trans rfl
  have hix := Lib.hid (index_any w1.drew (.slice A0 x.names.length cp0) x.names t0 (show SR w1.drew _ _ from (hH1.out.2.2.2.1).sr) (by omega))
  go_wp2
  refine start_ (n := 8) (S := fun w' => w'.cell? ⟨b, 1, none⟩ = some (.slice A0 x.names.length cp0) ∧ w'.cell? ⟨w.heap.size, 0, none⟩ = some (.string t0)) (ds := []) (m_ 8 0) (by kernel_rfl) rfl (by kernel_rfl) ⟨d1, e0⟩ (fun hHeld => ?_)
  refine pu_ 0 (some 11) (m_ 8 1) rfl rfl (by kernel_rfl) (fun _ _ _ h => h) (by rfl) (by intro w'; go_simp; with_reducible rfl) (by simp only [Act.put, List.setIfInBounds_toArray, List.set_cons_zero, List.set_cons_succ, i64_w, i32_w]; rfl) ?_
  refine pu_ 1 (some 12) (m_ 8 3) rfl rfl (by kernel_rfl) (fun _ _ _ h => h) (by rfl) (by intro w'; go_simp; with_reducible rfl) (by simp only [Act.put, List.setIfInBounds_toArray, List.set_cons_zero, List.set_cons_succ, i64_w, i32_w]; rfl) ?_
  refine pu_ 2 (some 13) (m_ 8 7) rfl rfl (by kernel_rfl) (fun _ _ _ h => h) (by rfl) (by intro w'; go_simp; with_reducible rfl) (by simp only [Act.put, List.setIfInBounds_toArray, List.set_cons_zero, List.set_cons_succ, i64_w, i32_w]; rfl) ?_
  refine pu_ 4 (some 15) (m_ 8 23) rfl rfl (by kernel_rfl) (fun _ _ _ h => h) (by rfl) (by intro w'; go_simp; with_reducible rfl) (by simp only [Act.put, List.setIfInBounds_toArray, List.set_cons_zero, List.set_cons_succ, i64_w, i32_w]; rfl) ?_
  refine tk_ 3 (some 14) (m_ 8 31) rfl rfl (by kernel_rfl) (fun _ _ _ h => h) (by rfl) (by rintro w' ⟨s0, s1⟩; go_simp; with_reducible rfl) hHeld (by simp only [Act.put, List.setIfInBounds_toArray, List.set_cons_zero, List.set_cons_succ, i64_w, i32_w]; rfl) ?_
  refine tk_ 5 (some 16) (m_ 8 63) rfl rfl (by kernel_rfl) (fun _ _ _ h => h) (by rfl) (by rintro w' ⟨s0, s1⟩; go_simp; with_reducible rfl) hHeld (by simp only [Act.put, List.setIfInBounds_toArray, List.set_cons_zero, List.set_cons_succ, i64_w, i32_w]; rfl) ?_
  refine one_ (i := 6) (N := some 17) (m_ 8 127) rfl rfl (by kernel_rfl) (by decide) (fun K hK => ?_)
  refine goes_ Tryz.func42 (by kernel_rfl) rfl #[.slice A0 x.names.length cp0, .string t0] (by rfl) rfl rfl (by simp only [List.map_toArray, List.map_cons, List.map_nil]; rfl) ?_
  with_reducible refine (hix.out).mono ?_
  rintro e w2 ⟨rfl, rfl⟩
  rw [his.out]
  refine ⟨_, rfl, ?_⟩
  refine hK.out _ _ ⟨d1, e0⟩ (fun hHeld => ?_)
  clear hK K
  refine norm_ (a' := ?_) ?_ ?_
  rotate_left
  · show Act.put _ (some 17) _ = _
    simp only [Act.put, List.setIfInBounds_toArray, List.set_cons_zero, List.set_cons_succ, i64_w, i32_w]
    rfl
  refine pu_ 7 (some 8) (m_ 8 255) rfl rfl (by kernel_rfl) (fun _ _ _ h => h) (by rfl) (by intro w'; go_simp; with_reducible rfl) (by simp only [Act.put, List.setIfInBounds_toArray, List.set_cons_zero, List.set_cons_succ, i64_w, i32_w]; rfl) ?_
  refine done_ (by kernel_rfl) ?_
  clear hHeld
  go_wp2
  refine start_ (n := 12) (S := fun w' => w'.cell? ⟨w.heap.size, 2, none⟩ = some (.bool t2) ∧ w'.cell? ⟨b, 2, none⟩ = some (.bool x.up)) (ds := []) (m_ 12 0) (by kernel_rfl) rfl (by kernel_rfl) ⟨e2, d2⟩ (fun hHeld => ?_)
  refine pu_ 0 (some 19) (m_ 12 1) rfl rfl (by kernel_rfl) (fun _ _ _ h => h) (by rfl) (by intro w'; go_simp; with_reducible rfl) (by simp only [Act.put, List.setIfInBounds_toArray, List.set_cons_zero, List.set_cons_succ, i64_w, i32_w]; rfl) ?_
  refine pu_ 1 (some 20) (m_ 12 3) rfl rfl (by kernel_rfl) (fun _ _ _ h => h) (by rfl) (by intro w'; go_simp; with_reducible rfl) (by simp only [Act.put, List.setIfInBounds_toArray, List.set_cons_zero, List.set_cons_succ, i64_w, i32_w]; rfl) ?_
  refine pu_ 2 (some 21) (m_ 12 7) rfl rfl (by kernel_rfl) (fun _ _ _ h => h) (by rfl) (by intro w'; go_simp; with_reducible rfl) (by simp only [Act.put, List.setIfInBounds_toArray, List.set_cons_zero, List.set_cons_succ, i64_w, i32_w]; rfl) ?_
  refine pu_ 3 (some 22) (m_ 12 15) rfl rfl (by kernel_rfl) (fun _ _ _ h => h) (by rfl) (by intro w'; go_simp; with_reducible rfl) (by simp only [Act.put, List.setIfInBounds_toArray, List.set_cons_zero, List.set_cons_succ, i64_w, i32_w]; rfl) ?_
  refine pu_ 5 (some 24) (m_ 12 47) rfl rfl (by kernel_rfl) (fun _ _ _ h => h) (by rfl) (by intro w'; go_simp; with_reducible rfl) (by simp only [Act.put, List.setIfInBounds_toArray, List.set_cons_zero, List.set_cons_succ, i64_w, i32_w]; rfl) ?_
  refine pu_ 6 (some 25) (m_ 12 111) rfl rfl (by kernel_rfl) (fun _ _ _ h => h) (by rfl) (by intro w'; go_simp; with_reducible rfl) (by simp only [Act.put, List.setIfInBounds_toArray, List.set_cons_zero, List.set_cons_succ, i64_w, i32_w]; rfl) ?_
  refine pu_ 7 (some 26) (m_ 12 239) rfl rfl (by kernel_rfl) (fun _ _ _ h => h) (by rfl) (by intro w'; go_simp; with_reducible rfl) (by simp only [Act.put, List.setIfInBounds_toArray, List.set_cons_zero, List.set_cons_succ, i64_w, i32_w]; rfl) ?_
  refine tk_ 4 (some 23) (m_ 12 255) rfl rfl (by kernel_rfl) (fun _ _ _ h => h) (by rfl) (by rintro w' ⟨s0, s1⟩; go_simp; with_reducible rfl) hHeld (by simp only [Act.put, List.setIfInBounds_toArray, List.set_cons_zero, List.set_cons_succ, i64_w, i32_w]; rfl) ?_
  refine tk_ 8 (some 27) (m_ 12 511) rfl rfl (by kernel_rfl) (fun _ _ _ h => h) (by rfl) (by rintro w' ⟨s0, s1⟩; go_simp; with_reducible rfl) hHeld (by simp only [Act.put, List.setIfInBounds_toArray, List.set_cons_zero, List.set_cons_succ, i64_w, i32_w]; rfl) ?_
  refine pu_ 9 (some 28) (m_ 12 1023) rfl rfl (by kernel_rfl) (fun _ _ _ h => h) (by rfl) (by intro w'; go_simp; with_reducible rfl) (by simp only [Act.put, List.setIfInBounds_toArray, List.set_cons_zero, List.set_cons_succ, i64_w, i32_w]; rfl) ?_
  refine pu_ 10 (some 29) (m_ 12 2047) rfl rfl (by kernel_rfl) (fun _ _ _ h => h) (by rfl) (by intro w'; go_simp; with_reducible rfl) (by simp only [Act.put, List.setIfInBounds_toArray, List.set_cons_zero, List.set_cons_succ, i64_w, i32_w]; rfl) ?_
  refine pu_ 11 (some 18) (m_ 12 4095) rfl rfl (by kernel_rfl) (fun _ _ _ h => h) (by rfl) (by intro w'; go_simp; with_reducible rfl) (by simp only [Act.put, List.setIfInBounds_toArray, List.set_cons_zero, List.set_cons_succ, i64_w, i32_w]; rfl) ?_
  refine done_ (by kernel_rfl) ?_
  clear hHeld e2 d2 d1 e0 hix
  have H2 := Lib.hid (hH1.out.drew.drew)
  have hq2 := Lib.hid (hblk1.out.below ((Below.refl _ _).drew.drew))
  have hB2 := Lib.hid (show Below w.heap.size w w1.drew.drew from hB1.out.drew.drew)
  clear hH1 hblk1 hB1
  generalize w1.drew.drew = W1 at *
  have r0 : W1.cell? ⟨b, 0, none⟩ = some (ptr c) := (H2.out.cell 0).trans rfl
  have htx := Lib.hid (cToxics_any H2.out.2.1 hoc.out.two hoc.out.ten)
  go_wp2_with fail
  refine htx.out.mono ?_
  rintro e w3 ⟨A3, cp3, rfl, hTR, hnw, hB⟩
  obtain ⟨g3, rfl, -, htc⟩ := hTR (by intro e; rw [e] at htl; simp at htl; omega)
  have y0 : w3.cell? ⟨g3, i * 6, none⟩ = some (.string q0) := htc (i * 6 + 0) _ ((tcells_get _ i 0 _ hti (by decide)).trans rfl)
  have y1 : w3.cell? ⟨g3, i * 6 + 1, none⟩ = some (.int .i64 q1) := htc (i * 6 + 1) _ ((tcells_get _ i 1 _ hti (by decide)).trans rfl)
  have y2 : w3.cell? ⟨g3, i * 6 + 2, none⟩ = some (.bool q2) := htc (i * 6 + 2) _ ((tcells_get _ i 2 _ hti (by decide)).trans rfl)
  have y3 : w3.cell? ⟨g3, i * 6 + 3, none⟩ = some (.int .i64 q3) := htc (i * 6 + 3) _ ((tcells_get _ i 3 _ hti (by decide)).trans rfl)
  have y4 : w3.cell? ⟨g3, i * 6 + 4, none⟩ = some (.int .i64 q4) := htc (i * 6 + 4) _ ((tcells_get _ i 4 _ hti (by decide)).trans rfl)
  have y5 : w3.cell? ⟨g3, i * 6 + 5, none⟩ = some (.int .i64 q5) := htc (i * 6 + 5) _ ((tcells_get _ i 5 _ hti (by decide)).trans rfl)
  have H3 := Lib.hid (H2.out.below hB)
  have hq3 := Lib.hid (hq2.out.below hB)
  have hB3 := Lib.hid (hB2.out.trans (hB.mono hB2.out.size))
  have hin1 : i < x.c.l.length - 2 := by omega
  have hin2 : (i : Int) < ((x.c.l.length - 2 : Nat) : Int) := by omega
  have hin3 : (0 : Int) ≤ (i : Int) := by omega
  have hti' := Lib.hid hti
  clear hTR htc hB H2 hq2 hB2 htx hnw r0 hti htl hnames
  have hr := Lib.hid (show LTu w F w3 b x from hl0.out.trans (fun F' hL => LTu.below (w := w) hL hB3.out))
  clear H3 hq3 hB3
  go_wp2
  go_ret
  exact ⟨rfl, hr.out⟩
set_option maxHeartbeats 1000000 in
theorem chg_ok (h : LK w F b x) (ho : OkK x M Q) (hM : M ≤ 1000000000) (t0 : ByteArray) (t1 : Int) (t2 : Bool) (t3 t4 t5 now : Int) (hz : chk ⟨t0, t1, t2, t3, t4, t5⟩ = 0) (hu : t2 = x.up) (i : Nat) (hi : idxN x.names t0 = some i) (q0 : ByteArray) (q1 : Int) (q2 : Bool) (q3 q4 q5 : Int) (hti : (toxs x.c)[i]? = some ⟨q0, q1, q2, q3, q4, q5⟩) (hp : passB ⟨q0, q1, q2, q3, q4, q5⟩ = false) :
    Calls Tryz.prog 23 #[ptr b, .agg #[.string t0, .int .i64 t1, .bool t2, .int .i64 t3, .int .i64 t4, .int .i64 t5], .int .i64 now] w fun e w' => e = .returned (.int .i64 (updCE x.c i ⟨t0, t1, t2, t3, t4, t5⟩)) ∧ LTu w F w' b ({ x with c := updC x.c i ⟨t0, t1, t2, t3, t4, t5⟩ now }) := by
  obtain ⟨G, c, D, v, h⟩ := h
  have hvs := h.2.2.2.1.sr
  obtain ⟨A0, cp0, hv, _⟩ := hvs
  subst hv
  have hnl : x.names.length ≤ 8 := by have := ho.n; have := ho.c.ten; omega
  have hb0 := (Below.refl w.heap.size w).alloc (Nat.le_refl _) (.cells #[.string t0, .int .i64 t1, .bool t2, .int .i64 t3, .int .i64 t4, .int .i64 t5] 34)
  have hblk0 := Lib.hid (Blk.new w 34 #[.string t0, .int .i64 t1, .bool t2, .int .i64 t3, .int .i64 t4, .int .i64 t5])
  have hH0 := Lib.hid (h.below hb0)
  have hb0' := Lib.hid hb0
  have hck := Lib.hid (fun wy => check_any ⟨t0, t1, t2, t3, t4, t5⟩ wy)
  have hl0 := Lib.hid (LTu.refl h.lk)
  have tu : (t2 != x.up) = false := by rw [hu]; simp
  have tu2 : (t2 == x.up) = true := by rw [hu]; simp
  have his : Hid (idxI x.names t0 = (i : Int)) := Lib.hid (by unfold idxI; rw [hi])
  rw [hz] at hck
  have hilt := idx_lt hi
  have hneg : decide ((i : Int) < 0) = false := decide_eq_false (by omega)
  have hnames := ho.n
  have htl := toxs_length x.c ho.c.two
  have hoc := Lib.hid ho.c
  have hq : ∀ W : World, (binOp .eql 34 (.agg #[.string q0, .int .i64 q1, .bool q2, .int .i64 q3, .int .i64 q4, .int .i64 q5]) (.agg #[.string ⟨#[]⟩, .int .i64 0, .bool false, .int .i64 0, .int .i64 0, .int .i64 0])).run Tryz.prog W = .ok (.bool false) W := fun W => by
    rw [eql_tox]; unfold passB noTox at hp; rw [hp]
  have hguard := eqguard_tox
  clear h hb0 ho hz hu hi hp
  go_enter Tryz.func23, Tryz.ntmps23
  go_wp2_with fail
  refine (hck.out _).mono ?_
  rintro e w1 ⟨rfl, hB⟩
  have hB1 := Lib.hid (bw_below hb0'.out hB)
  have hblk1 := Lib.hid (hblk0.out.below hB)
  have hH1 := Lib.hid (hH0.out.below hB)
  clear hB hb0' hblk0 hH0 hck
  have e2 : w1.cell? ⟨w.heap.size, 2, none⟩ = some (.bool t2) := (hblk1.out.cell 2).trans rfl
  have d2 : w1.cell? ⟨b, 2, none⟩ = some (.bool x.up) := (hH1.out.cell 2).trans rfl
  have d1 : w1.cell? ⟨b, 1, none⟩ = some (.slice A0 x.names.length cp0) := (hH1.out.cell 1).trans rfl
  have e0 : w1.cell? ⟨w.heap.size, 0, none⟩ = some (.string t0) := (hblk1.out.cell 0).trans rfl
  have hix := Lib.hid (index_any w1.drew (.slice A0 x.names.length cp0) x.names t0 (show SR w1.drew _ _ from (hH1.out.2.2.2.1).sr) (by omega))
  go_wp2
  refine start_ (n := 8) (S := fun w' => w'.cell? ⟨b, 1, none⟩ = some (.slice A0 x.names.length cp0) ∧ w'.cell? ⟨w.heap.size, 0, none⟩ = some (.string t0)) (ds := []) (m_ 8 0) (by kernel_rfl) rfl (by kernel_rfl) ⟨d1, e0⟩ (fun hHeld => ?_)
  refine pu_ 0 (some 11) (m_ 8 1) rfl rfl (by kernel_rfl) (fun _ _ _ h => h) (by rfl) (by intro w'; go_simp; with_reducible rfl) (by simp only [Act.put, List.setIfInBounds_toArray, List.set_cons_zero, List.set_cons_succ, i64_w, i32_w]; rfl) ?_
  refine pu_ 1 (some 12) (m_ 8 3) rfl rfl (by kernel_rfl) (fun _ _ _ h => h) (by rfl) (by intro w'; go_simp; with_reducible rfl) (by simp only [Act.put, List.setIfInBounds_toArray, List.set_cons_zero, List.set_cons_succ, i64_w, i32_w]; rfl) ?_
  refine pu_ 2 (some 13) (m_ 8 7) rfl rfl (by kernel_rfl) (fun _ _ _ h => h) (by rfl) (by intro w'; go_simp; with_reducible rfl) (by simp only [Act.put, List.setIfInBounds_toArray, List.set_cons_zero, List.set_cons_succ, i64_w, i32_w]; rfl) ?_
  refine pu_ 4 (some 15) (m_ 8 23) rfl rfl (by kernel_rfl) (fun _ _ _ h => h) (by rfl) (by intro w'; go_simp; with_reducible rfl) (by simp only [Act.put, List.setIfInBounds_toArray, List.set_cons_zero, List.set_cons_succ, i64_w, i32_w]; rfl) ?_
  refine tk_ 3 (some 14) (m_ 8 31) rfl rfl (by kernel_rfl) (fun _ _ _ h => h) (by rfl) (by rintro w' ⟨s0, s1⟩; go_simp; with_reducible rfl) hHeld (by simp only [Act.put, List.setIfInBounds_toArray, List.set_cons_zero, List.set_cons_succ, i64_w, i32_w]; rfl) ?_
  refine tk_ 5 (some 16) (m_ 8 63) rfl rfl (by kernel_rfl) (fun _ _ _ h => h) (by rfl) (by rintro w' ⟨s0, s1⟩; go_simp; with_reducible rfl) hHeld (by simp only [Act.put, List.setIfInBounds_toArray, List.set_cons_zero, List.set_cons_succ, i64_w, i32_w]; rfl) ?_
  refine one_ (i := 6) (N := some 17) (m_ 8 127) rfl rfl (by kernel_rfl) (by decide) (fun K hK => ?_)
  refine goes_ Tryz.func42 (by kernel_rfl) rfl #[.slice A0 x.names.length cp0, .string t0] (by rfl) rfl rfl (by simp only [List.map_toArray, List.map_cons, List.map_nil]; rfl) ?_
  with_reducible refine (hix.out).mono ?_
  rintro e w2 ⟨rfl, rfl⟩
  rw [his.out]
  refine ⟨_, rfl, ?_⟩
  refine hK.out _ _ ⟨d1, e0⟩ (fun hHeld => ?_)
  clear hK K
  refine norm_ (a' := ?_) ?_ ?_
  rotate_left
  · show Act.put _ (some 17) _ = _
    simp only [Act.put, List.setIfInBounds_toArray, List.set_cons_zero, List.set_cons_succ, i64_w, i32_w]
    rfl
  refine pu_ 7 (some 8) (m_ 8 255) rfl rfl (by kernel_rfl) (fun _ _ _ h => h) (by rfl) (by intro w'; go_simp; with_reducible rfl) (by simp only [Act.put, List.setIfInBounds_toArray, List.set_cons_zero, List.set_cons_succ, i64_w, i32_w]; rfl) ?_
  refine done_ (by kernel_rfl) ?_
  clear hHeld
  go_wp2
  refine start_ (n := 12) (S := fun w' => w'.cell? ⟨w.heap.size, 2, none⟩ = some (.bool t2) ∧ w'.cell? ⟨b, 2, none⟩ = some (.bool x.up)) (ds := []) (m_ 12 0) (by kernel_rfl) rfl (by kernel_rfl) ⟨e2, d2⟩ (fun hHeld => ?_)
  refine pu_ 0 (some 19) (m_ 12 1) rfl rfl (by kernel_rfl) (fun _ _ _ h => h) (by rfl) (by intro w'; go_simp; with_reducible rfl) (by simp only [Act.put, List.setIfInBounds_toArray, List.set_cons_zero, List.set_cons_succ, i64_w, i32_w]; rfl) ?_
  refine pu_ 1 (some 20) (m_ 12 3) rfl rfl (by kernel_rfl) (fun _ _ _ h => h) (by rfl) (by intro w'; go_simp; with_reducible rfl) (by simp only [Act.put, List.setIfInBounds_toArray, List.set_cons_zero, List.set_cons_succ, i64_w, i32_w]; rfl) ?_
  refine pu_ 2 (some 21) (m_ 12 7) rfl rfl (by kernel_rfl) (fun _ _ _ h => h) (by rfl) (by intro w'; go_simp; with_reducible rfl) (by simp only [Act.put, List.setIfInBounds_toArray, List.set_cons_zero, List.set_cons_succ, i64_w, i32_w]; rfl) ?_
  refine pu_ 3 (some 22) (m_ 12 15) rfl rfl (by kernel_rfl) (fun _ _ _ h => h) (by rfl) (by intro w'; go_simp; with_reducible rfl) (by simp only [Act.put, List.setIfInBounds_toArray, List.set_cons_zero, List.set_cons_succ, i64_w, i32_w]; rfl) ?_
  refine pu_ 5 (some 24) (m_ 12 47) rfl rfl (by kernel_rfl) (fun _ _ _ h => h) (by rfl) (by intro w'; go_simp; with_reducible rfl) (by simp only [Act.put, List.setIfInBounds_toArray, List.set_cons_zero, List.set_cons_succ, i64_w, i32_w]; rfl) ?_
  refine pu_ 6 (some 25) (m_ 12 111) rfl rfl (by kernel_rfl) (fun _ _ _ h => h) (by rfl) (by intro w'; go_simp; with_reducible rfl) (by simp only [Act.put, List.setIfInBounds_toArray, List.set_cons_zero, List.set_cons_succ, i64_w, i32_w]; rfl) ?_
  refine pu_ 7 (some 26) (m_ 12 239) rfl rfl (by kernel_rfl) (fun _ _ _ h => h) (by rfl) (by intro w'; go_simp; with_reducible rfl) (by simp only [Act.put, List.setIfInBounds_toArray, List.set_cons_zero, List.set_cons_succ, i64_w, i32_w]; rfl) ?_
  refine tk_ 4 (some 23) (m_ 12 255) rfl rfl (by kernel_rfl) (fun _ _ _ h => h) (by rfl) (by rintro w' ⟨s0, s1⟩; go_simp; with_reducible rfl) hHeld (by simp only [Act.put, List.setIfInBounds_toArray, List.set_cons_zero, List.set_cons_succ, i64_w, i32_w]; rfl) ?_
  refine tk_ 8 (some 27) (m_ 12 511) rfl rfl (by kernel_rfl) (fun _ _ _ h => h) (by rfl) (by rintro w' ⟨s0, s1⟩; go_simp; with_reducible rfl) hHeld (by simp only [Act.put, List.setIfInBounds_toArray, List.set_cons_zero, List.set_cons_succ, i64_w, i32_w]; rfl) ?_
  refine pu_ 9 (some 28) (m_ 12 1023) rfl rfl (by kernel_rfl) (fun _ _ _ h => h) (by rfl) (by intro w'; go_simp; with_reducible rfl) (by simp only [Act.put, List.setIfInBounds_toArray, List.set_cons_zero, List.set_cons_succ, i64_w, i32_w]; rfl) ?_
  refine pu_ 10 (some 29) (m_ 12 2047) rfl rfl (by kernel_rfl) (fun _ _ _ h => h) (by rfl) (by intro w'; go_simp; with_reducible rfl) (by simp only [Act.put, List.setIfInBounds_toArray, List.set_cons_zero, List.set_cons_succ, i64_w, i32_w]; rfl) ?_
  refine pu_ 11 (some 18) (m_ 12 4095) rfl rfl (by kernel_rfl) (fun _ _ _ h => h) (by rfl) (by intro w'; go_simp; with_reducible rfl) (by simp only [Act.put, List.setIfInBounds_toArray, List.set_cons_zero, List.set_cons_succ, i64_w, i32_w]; rfl) ?_
  refine done_ (by kernel_rfl) ?_
  clear hHeld e2 d2 d1 e0 hix
  have H2 := Lib.hid (hH1.out.drew.drew)
  have hq2 := Lib.hid (hblk1.out.below ((Below.refl _ _).drew.drew))
  have hB2 := Lib.hid (show Below w.heap.size w w1.drew.drew from hB1.out.drew.drew)
  clear hH1 hblk1 hB1
  generalize w1.drew.drew = W1 at *
  have r0 : W1.cell? ⟨b, 0, none⟩ = some (ptr c) := (H2.out.cell 0).trans rfl
  have htx := Lib.hid (cToxics_any H2.out.2.1 hoc.out.two hoc.out.ten)
  go_wp2_with fail
  refine htx.out.mono ?_
  rintro e w3 ⟨A3, cp3, rfl, hTR, hnw, hB⟩
  obtain ⟨g3, rfl, -, htc⟩ := hTR (by intro e; rw [e] at htl; simp at htl; omega)
  have y0 : w3.cell? ⟨g3, i * 6, none⟩ = some (.string q0) := htc (i * 6 + 0) _ ((tcells_get _ i 0 _ hti (by decide)).trans rfl)
  have y1 : w3.cell? ⟨g3, i * 6 + 1, none⟩ = some (.int .i64 q1) := htc (i * 6 + 1) _ ((tcells_get _ i 1 _ hti (by decide)).trans rfl)
  have y2 : w3.cell? ⟨g3, i * 6 + 2, none⟩ = some (.bool q2) := htc (i * 6 + 2) _ ((tcells_get _ i 2 _ hti (by decide)).trans rfl)
  have y3 : w3.cell? ⟨g3, i * 6 + 3, none⟩ = some (.int .i64 q3) := htc (i * 6 + 3) _ ((tcells_get _ i 3 _ hti (by decide)).trans rfl)
  have y4 : w3.cell? ⟨g3, i * 6 + 4, none⟩ = some (.int .i64 q4) := htc (i * 6 + 4) _ ((tcells_get _ i 4 _ hti (by decide)).trans rfl)
  have y5 : w3.cell? ⟨g3, i * 6 + 5, none⟩ = some (.int .i64 q5) := htc (i * 6 + 5) _ ((tcells_get _ i 5 _ hti (by decide)).trans rfl)
  have H3 := Lib.hid (H2.out.below hB)
  have hq3 := Lib.hid (hq2.out.below hB)
  have hB3 := Lib.hid (hB2.out.trans (hB.mono hB2.out.size))
  have hin1 : i < x.c.l.length - 2 := by omega
  have hin2 : (i : Int) < ((x.c.l.length - 2 : Nat) : Int) := by omega
  have hin3 : (0 : Int) ≤ (i : Int) := by omega
  have hti' := Lib.hid hti
  clear hTR htc hB H2 hq2 hB2 htx hnw r0 hti htl hnames
  have r0 : w3.cell? ⟨b, 0, none⟩ = some (ptr c) := (H3.out.cell 0).trans rfl
  have u0 : w3.cell? ⟨w.heap.size, 0, none⟩ = some (.string t0) := (hq3.out.cell 0).trans rfl
  have u1 : w3.cell? ⟨w.heap.size, 1, none⟩ = some (.int .i64 t1) := (hq3.out.cell 1).trans rfl
  have u2 : w3.cell? ⟨w.heap.size, 2, none⟩ = some (.bool t2) := (hq3.out.cell 2).trans rfl
  have u3 : w3.cell? ⟨w.heap.size, 3, none⟩ = some (.int .i64 t3) := (hq3.out.cell 3).trans rfl
  have u4 : w3.cell? ⟨w.heap.size, 4, none⟩ = some (.int .i64 t4) := (hq3.out.cell 4).trans rfl
  have u5 : w3.cell? ⟨w.heap.size, 5, none⟩ = some (.int .i64 t5) := (hq3.out.cell 5).trans rfl
  have hup := Lib.hid (cUpdate_any H3.out.drew.2.1 hoc.out (i : Int) ⟨t0, t1, t2, t3, t4, t5⟩ now hM)
  go_wp2
  refine start_ (n := 9) (S := fun w' => w'.cell? ⟨b, 0, none⟩ = some (ptr c) ∧ w'.cell? ⟨w.heap.size, 0, none⟩ = some (.string t0) ∧ w'.cell? ⟨w.heap.size, 1, none⟩ = some (.int .i64 t1) ∧ w'.cell? ⟨w.heap.size, 2, none⟩ = some (.bool t2) ∧ w'.cell? ⟨w.heap.size, 3, none⟩ = some (.int .i64 t3) ∧ w'.cell? ⟨w.heap.size, 4, none⟩ = some (.int .i64 t4) ∧ w'.cell? ⟨w.heap.size, 5, none⟩ = some (.int .i64 t5)) (ds := []) (m_ 9 0) (by kernel_rfl) rfl (by kernel_rfl) ⟨r0, u0, u1, u2, u3, u4, u5⟩ (fun hHeld => ?_)
  refine pu_ 0 (some 45) (m_ 9 1) rfl rfl (by kernel_rfl) (fun _ _ _ h => h) (by rfl) (by intro w'; go_simp; with_reducible rfl) (by simp only [Act.put, List.setIfInBounds_toArray, List.set_cons_zero, List.set_cons_succ, i64_w, i32_w]; rfl) ?_
  refine pu_ 1 (some 46) (m_ 9 3) rfl rfl (by kernel_rfl) (fun _ _ _ h => h) (by rfl) (by intro w'; go_simp; with_reducible rfl) (by simp only [Act.put, List.setIfInBounds_toArray, List.set_cons_zero, List.set_cons_succ, i64_w, i32_w]; rfl) ?_
  refine pu_ 2 (some 47) (m_ 9 7) rfl rfl (by kernel_rfl) (fun _ _ _ h => h) (by rfl) (by intro w'; go_simp; with_reducible rfl) (by simp only [Act.put, List.setIfInBounds_toArray, List.set_cons_zero, List.set_cons_succ, i64_w, i32_w]; rfl) ?_
  refine pu_ 4 (some 49) (m_ 9 23) rfl rfl (by kernel_rfl) (fun _ _ _ h => h) (by rfl) (by intro w'; go_simp; with_reducible rfl) (by simp only [Act.put, List.setIfInBounds_toArray, List.set_cons_zero, List.set_cons_succ, i64_w, i32_w]; rfl) ?_
  refine pu_ 6 (some 51) (m_ 9 87) rfl rfl (by kernel_rfl) (fun _ _ _ h => h) (by rfl) (by intro w'; go_simp; with_reducible rfl) (by simp only [Act.put, List.setIfInBounds_toArray, List.set_cons_zero, List.set_cons_succ, i64_w, i32_w]; rfl) ?_
  refine tk_ 3 (some 48) (m_ 9 95) rfl rfl (by kernel_rfl) (fun _ _ _ h => h) (by rfl) (by rintro w' ⟨s0, s1, s2, s3, s4, s5, s6⟩; go_simp; with_reducible rfl) hHeld (by simp only [Act.put, List.setIfInBounds_toArray, List.set_cons_zero, List.set_cons_succ, i64_w, i32_w]; rfl) ?_
  refine tk_ 5 (some 50) (m_ 9 127) rfl rfl (by kernel_rfl) (fun _ _ _ h => h) (by rfl) (by rintro w' ⟨s0, s1, s2, s3, s4, s5, s6⟩; go_simp; with_reducible rfl) hHeld (by simp only [Act.put, List.setIfInBounds_toArray, List.set_cons_zero, List.set_cons_succ, i64_w, i32_w]; rfl) ?_
  refine one_ (i := 7) (N := some 52) (m_ 9 255) rfl rfl (by kernel_rfl) (by decide) (fun K hK => ?_)
  refine goes_ Tryz.func46 (by kernel_rfl) rfl #[ptr c, .int .i64 i, .agg #[.string t0, .int .i64 t1, .bool t2, .int .i64 t3, .int .i64 t4, .int .i64 t5], .int .i64 now] (by rfl) rfl rfl (by simp only [List.map_toArray, List.map_cons, List.map_nil]; rfl) ?_
  with_reducible refine (hup.out).mono ?_
  rintro e w7 ⟨rfl, hT⟩
  obtain ⟨F7, G7, D7, h7, hd7, hs7⟩ := H3.out.drew.turn (hT.tuD H3.out.2.2.1)
  have z0 : w7.cell? ⟨b, 0, none⟩ = some (ptr c) := (h7.cell 0).trans rfl
  have hq7 := Blk.did (w := w3.drew) hq3.out hd7 (H3.out.lk.off hq3.out (by decide))
  have zz0 := (hq7.cell 0).trans rfl
  have zz1 := (hq7.cell 1).trans rfl
  have zz2 := (hq7.cell 2).trans rfl
  have zz3 := (hq7.cell 3).trans rfl
  have zz4 := (hq7.cell 4).trans rfl
  have zz5 := (hq7.cell 5).trans rfl
  simp only [List.getElem?_toArray, List.getElem?_cons_zero, List.getElem?_cons_succ] at zz0 zz1 zz2 zz3 zz4 zz5
  have H7 := Lib.hid h7
  have hDS7 := Lib.hid (And.intro hd7 hs7)
  clear hT h7 hd7 hs7 hq7
  refine ⟨_, rfl, ?_⟩
  refine hK.out _ _ ⟨z0, zz0, zz1, zz2, zz3, zz4, zz5⟩ (fun hHeld => ?_)
  clear hK K
  refine norm_ (a' := ?_) ?_ ?_
  rotate_left
  · show Act.put _ (some 52) _ = _
    simp only [Act.put, List.setIfInBounds_toArray, List.set_cons_zero, List.set_cons_succ, i64_w, i32_w]
    rfl
  refine pu_ 8 (some 6) (m_ 9 511) rfl rfl (by kernel_rfl) (fun _ _ _ h => h) (by rfl) (by intro w'; go_simp; with_reducible rfl) (by simp only [Act.put, List.setIfInBounds_toArray, List.set_cons_zero, List.set_cons_succ, i64_w, i32_w]; rfl) ?_
  refine done_ (by kernel_rfl) ?_
  clear hHeld r0 u0 u1 u2 u3 u4 u5 z0 zz0 zz1 zz2 zz3 zz4 zz5 y0 y1 y2 y3 y4 y5
  have hr := Lib.hid (show LTu w F w7 b { x with c := updC x.c i ⟨t0, t1, t2, t3, t4, t5⟩ now } from by
    obtain ⟨F0, hL0, hd0, hs0⟩ := hl0.out
    exact LTu.next ((Did.of_below hB3.out).drew.trans (Stem.refl _ _) hDS7.out.1) (show Stem F F7 w from fun j hj => (hDS7.out.2 j hj).imp id (fun e => Nat.le_trans hB3.out.size e)) ⟨F7, H7.out.lk, Did.refl _ _, Stem.refl _ _⟩)
  clear H7 hDS7 H3 hq3 hB3 hup
  go_wp2
  go_ret
  exact ⟨rfl, hr.out⟩
theorem kChange_any (h : LK w F b x) (ho : OkK x M Q) (hM : M ≤ 1000000000) (t : Tox) (now : Int) :
    Calls Tryz.prog 23 #[ptr b, t.v, .int .i64 now] w fun e w' => e = .returned (.int .i64 (chgE x t)) ∧ LTu w F w' b (chgK x t now) := by
  obtain ⟨t0, t1, t2, t3, t4, t5⟩ := t
  unfold chgE chgK chgB
  by_cases hz : chk ⟨t0, t1, t2, t3, t4, t5⟩ = 0
  · by_cases hu : t2 = x.up
    · rw [if_neg (by rintro (e | e); exact e hz; exact e hu), if_neg (by rintro (e | e); exact e hz; exact e hu)]
      show Calls _ _ _ _ _
      cases hi : idxN x.names t0 with
      | none =>
        simp only [hi]
        exact chg_none h ho hM t0 t1 t2 t3 t4 t5 now hz hu hi
      | some i =>
        have hilt := idx_lt hi
        have hn := ho.n
        have htl := toxs_length x.c ho.c.two
        have hti : (toxs x.c)[i]? = some (toxs x.c)[i] := List.getElem?_eq_getElem (by omega)
        generalize (toxs x.c)[i]'(by omega) = T at *
        obtain ⟨q0, q1, q2, q3, q4, q5⟩ := T
        simp only [hi, hti]
        cases hp : passB ⟨q0, q1, q2, q3, q4, q5⟩ with
        | true => simp only [Option.elim, hp, if_true]; exact chg_pass h ho hM t0 t1 t2 t3 t4 t5 now hz hu i hi q0 q1 q2 q3 q4 q5 hti hp
        | false => simp only [Option.elim, hp]; exact chg_ok h ho hM t0 t1 t2 t3 t4 t5 now hz hu i hi q0 q1 q2 q3 q4 q5 hti hp
    · rw [if_pos (.inr hu), if_pos (.inr hu), hz]
      exact chg_other h ho hM t0 t1 t2 t3 t4 t5 now hz hu
  · rw [if_pos (.inl hz), if_pos (.inl hz)]
    exact chg_bad h ho hM t0 t1 t2 t3 t4 t5 now hz
end Go.Proofs.YtoiibmcbjjnpbaaGreat.Link
namespace Go.Proofs.YtoiibmcbjjnpbaaGreat.Link
open Go.RowKit Mem Tick Cargo Toxic Stage Chain
set_option maxRecDepth 100000
set_option linter.unusedVariables false
set_option linter.unusedSimpArgs false
def Toxs (w : World) (v : Value) (l : List Tox) : Prop :=
  ∃ a cap, v = .slice a l.length cap ∧ l.length ≤ 9223372036854775807 ∧ l.length ≤ cap ∧ (l ≠ [] → ∃ g o, a = some ⟨g, o, none⟩ ∧ ∀ j t, l[j]? = some t → w.cell? ⟨g, o + j * 6, none⟩ = some (.string t.name) ∧ w.cell? ⟨g, o + j * 6 + 1, none⟩ = some (.int .i64 t.kind) ∧ w.cell? ⟨g, o + j * 6 + 2, none⟩ = some (.bool t.up) ∧ w.cell? ⟨g, o + j * 6 + 3, none⟩ = some (.int .i64 t.often) ∧ w.cell? ⟨g, o + j * 6 + 4, none⟩ = some (.int .i64 t.a) ∧ w.cell? ⟨g, o + j * 6 + 5, none⟩ = some (.int .i64 t.b))
theorem Toxs.below {w w' : World} {v : Value} {l : List Tox} (h : Toxs w v l) (hb : Below w.heap.size w w') : Toxs w' v l := by
  obtain ⟨a, cap, h1, h2, h3, h4⟩ := h
  refine ⟨a, cap, h1, h2, h3, fun hn => ?_⟩
  obtain ⟨g, o, e, hc⟩ := h4 hn
  refine ⟨g, o, e, fun j t ht => ?_⟩
  obtain ⟨c0, c1, c2, c3, c4, c5⟩ := hc j t ht
  exact ⟨bcells hb c0, bcells hb c1, bcells hb c2, bcells hb c3, bcells hb c4, bcells hb c5⟩
theorem same_any (t : Tox) (g : Nat) (n : ByteArray) (w : World) (hc : w.cell? ⟨g, 0, none⟩ = some (.string n)) :
    Calls Tryz.prog 32 #[t.v, ptr g] w fun e w' => e = .returned (.bool (t.name.toList == n.toList)) ∧ Below w.heap.size w w' := by
  obtain ⟨t0, t1, t2, t3, t4, t5⟩ := t
  have hl := World.block_lt_of_cell? w _ hc
  have hl2 : g < w.heap.size := hl
  have hne : g ≠ w.heap.size := by omega
  have hB := Lib.hid ((Below.refl w.heap.size w).alloc (Nat.le_refl _) (.cells #[.string t0, .int .i64 t1, .bool t2, .int .i64 t3, .int .i64 t4, .int .i64 t5] 34))
  have hc2 := bcells hB.out hc
  go_enter Tryz.func32, Tryz.ntmps32
  go_wp2
  go_ret
  exact ⟨rfl, hB.out⟩
def hasB (l : List Tox) (n : ByteArray) : Bool := l.any fun x => x.name.toList == n.toList
theorem hasB_succ {l : List Tox} {k : Nat} {t : Tox} (h : l[k]? = some t) (n : ByteArray) : hasB (l.take (k + 1)) n = (hasB (l.take k) n || (t.name.toList == n.toList)) := by
  unfold hasB
  rw [List.take_add_one, h, List.any_append]
  simp
theorem indexF_any (w : World) (v : Value) (l : List Tox) (g : Nat) (n : ByteArray) (hv : Toxs w v l) (hc : w.cell? ⟨g, 0, none⟩ = some (.string n)) :
    Calls Tryz.prog 55 #[v, .func (.func 32) #[] #[ptr g]] w fun e w' => (∃ i : Int, e = .returned (.int .i64 i) ∧ (decide (0 ≤ i) = hasB l n)) ∧ Below w.heap.size w w' := by
  obtain ⟨a, cap, rfl, hmx, hcp, hA⟩ := hv
  have hs := Lib.hid (fun (t : Tox) (wy : World) (hb : Below w.heap.size w wy) => same_any t g n wy (bcells hb hc))
  clear hc
  go_enter Tryz.func55, Tryz.ntmps55
  go_wp2
  go_loopw [8] (fun iv wr => ∃ k : Nat, k ≤ l.length ∧ iv = .int .i64 k ∧ Below w.heap.size w wr ∧ hasB (l.take k) n = false) (fun iv _ => l.length - (intOf iv).toNat)
  case atStart => exact ⟨0, by omega, rfl, Below.refl _ _, rfl⟩
  case round =>
    obtain ⟨k, hk, rfl, hB, hno⟩ := hrel
    by_cases hlt : k < l.length
    · obtain ⟨g2, o, rfl, hc⟩ := hA (by intro h; subst h; simp at hlt)
      have hx : l[k]? = some l[k] := List.getElem?_eq_getElem hlt
      obtain ⟨d0, d1, d2, d3, d4, d5⟩ := hc k _ hx
      have hsucc := Lib.hid (hasB_succ hx n)
      rw [hno, Bool.false_or] at hsucc
      have hmem := Lib.hid (show ∀ (t : Tox), l[k]? = some t → (t.name.toList == n.toList) = true → hasB l n = true from fun t ht e => List.any_eq_true.2 ⟨t, List.mem_of_getElem? ht, e⟩)
      have hx' := Lib.hid hx
      generalize l[k] = p at *
      obtain ⟨t0, t1, t2, t3, t4, t5⟩ := p
      dsimp only at *
      have d0' := bcells hB d0
      have d1' := bcells hB d1
      have d2' := bcells hB d2
      have d3' := bcells hB d3
      have d4' := bcells hB d4
      have d5' := bcells hB d5
      have hB' := Lib.hid hB
      clear hc hx hA d0 d1 d2 d3 d4 d5 hB hno
      go_wp2_with fail
      refine (hs.out ⟨t0, t1, t2, t3, t4, t5⟩ _ hB'.out).mono ?_
      rintro e w2 ⟨rfl, hB2⟩
      have hB3 := Lib.hid (bw_below hB'.out hB2)
      clear hB2
      cases he : (t0.toList == n.toList) with
      | true =>
        have hr := Lib.hid (show hasB l n = true from hmem.out _ hx'.out he)
        clear hsucc hmem he
        go_wp2
        go_ret
        exact ⟨⟨_, rfl, by rw [hr.out]; simp⟩, hB3.out⟩
      | false =>
        have hr := Lib.hid (show hasB (l.take (k + 1)) n = false from by rw [hsucc.out]; exact he)
        clear hsucc hmem he
        go_wp2
        go_roundw
        case rel => exact ⟨k + 1, by omega, by go_num, hB3.out, hr.out⟩
        case measure => simp [intOf]; omega
    · have hk2 : k = l.length := by omega
      subst hk2
      have hnl : ¬ (l.length < l.length) := by omega
      rw [List.take_length] at hno
      have hr := Lib.hid hno
      clear hno hA
      go_wp2
      go_ret
      exact ⟨⟨_, rfl, by rw [hr.out]; rfl⟩, hB⟩
theorem containsF_any (w : World) (v : Value) (l : List Tox) (g : Nat) (n : ByteArray) (hv : Toxs w v l) (hc : w.cell? ⟨g, 0, none⟩ = some (.string n)) :
    Calls Tryz.prog 31 #[v, .func (.func 32) #[] #[ptr g]] w fun e w' => e = .returned (.bool (hasB l n)) ∧ Below w.heap.size w w' := by
  have hh := Lib.hid (indexF_any w v l g n hv hc)
  clear hv hc
  go_enter Tryz.func31, Tryz.ntmps31
  go_wp2_with fail
  refine hh.out.mono ?_
  rintro e w2 ⟨⟨i, rfl, hi⟩, hB2⟩
  have hi' := Lib.hid hi
  have hB3 := Lib.hid hB2
  clear hh hi hB2
  go_wp2
  go_ret
  exact ⟨by rw [← hi'.out]; rfl, hB3.out⟩
theorem Toxs.take {w : World} {a : Option Addr} {cap : Nat} {l : List Tox} (h : Toxs w (.slice a l.length cap) l) {k : Nat} (hk : k ≤ l.length) : Toxs w (.slice a k cap) (l.take k) := by
  obtain ⟨a', cap', he, h2, h3, h4⟩ := h
  injection he with e1 e2 e3
  subst e1 e3
  have hl : (l.take k).length = k := by rw [List.length_take]; omega
  refine ⟨a, cap, by rw [hl], by omega, by omega, fun hn => ?_⟩
  obtain ⟨g, o, e, hc⟩ := h4 (by rintro rfl; simp at hn)
  refine ⟨g, o, e, fun j t ht => hc j t ?_⟩
  rw [List.getElem?_take] at ht
  split at ht
  · exact ht
  · cases ht
def dblN (l : List Tox) : Nat → Bool
  | 0 => false
  | k + 1 => dblN l k || (match l[k]? with | some t => hasB (l.take k) t.name | none => false)
def dblB (l : List Tox) : Bool := dblN l l.length
theorem dblN_mono {l : List Tox} {k m : Nat} (h : dblN l k = true) (hm : k ≤ m) : dblN l m = true := by
  induction m with
  | zero => have : k = 0 := by omega
            subst this; exact h
  | succ m ih =>
    by_cases e : k = m + 1
    · subst e; exact h
    · unfold dblN; rw [ih (by omega)]; rfl
theorem doubles_any (w : World) (v : Value) (l : List Tox) (hv : Toxs w v l) :
    Calls Tryz.prog 16 #[v] w fun e w' => e = .returned (.bool (dblB l)) ∧ Below w.heap.size w w' := by
  have hv0 := Lib.hid hv
  obtain ⟨a, cap, rfl, hmx, hcp, hA⟩ := hv
  go_enter Tryz.func16, Tryz.ntmps16
  go_wp2
  go_loopw [7] (fun iv wr => ∃ k : Nat, k ≤ l.length ∧ iv = .int .i64 k ∧ Below w.heap.size w wr ∧ dblN l k = false) (fun iv _ => l.length - (intOf iv).toNat)
  case atStart => exact ⟨0, by omega, rfl, Below.refl _ _, rfl⟩
  case round =>
    obtain ⟨k, hk, rfl, hB, hno⟩ := hrel
    by_cases hlt : k < l.length
    · have hpre := Lib.hid ((hv0.out.below hB).take hk)
      obtain ⟨g2, o, rfl, hc⟩ := hA (by intro h; subst h; simp at hlt)
      have hx : l[k]? = some l[k] := List.getElem?_eq_getElem hlt
      obtain ⟨d0, d1, d2, d3, d4, d5⟩ := hc k _ hx
      have hsucc := Lib.hid (show dblN l (k + 1) = hasB (l.take k) (l[k]).name from by show (dblN l k || _) = _; rw [hno, hx]; rfl)
      generalize l[k] = p at *
      obtain ⟨t0, t1, t2, t3, t4, t5⟩ := p
      dsimp only at *
      have d0' := bcells hB d0
      have d1' := bcells hB d1
      have d2' := bcells hB d2
      have d3' := bcells hB d3
      have d4' := bcells hB d4
      have d5' := bcells hB d5
      have hB1 := Lib.hid (hB.alloc hB.size (.cells #[.string t0, .int .i64 t1, .bool t2, .int .i64 t3, .int .i64 t4, .int .i64 t5] 34))
      have hcon := Lib.hid (containsF_any (wr.alloc (.cells #[.string t0, .int .i64 t1, .bool t2, .int .i64 t3, .int .i64 t4, .int .i64 t5] 34)) (.slice (some ⟨g2, o, none⟩) k cap) (l.take k) wr.heap.size t0 (hpre.out.below ((Below.refl _ _).alloc (Nat.le_refl _) _)) (((Blk.new wr 34 #[.string t0, .int .i64 t1, .bool t2, .int .i64 t3, .int .i64 t4, .int .i64 t5]).cell 0).trans rfl))
      have hkc : k ≤ cap := by omega
      have hkc2 : (k : Int) ≤ (cap : Int) := by omega
      have hmono := Lib.hid (fun h => show dblB l = true from dblN_mono (l := l) (k := k + 1) h (by omega))
      clear hc hx hA d0 d1 d2 d3 d4 d5 hB hno hpre
      go_wp2_with fail
      refine hcon.out.mono ?_
      rintro e w2 ⟨rfl, hB2⟩
      have hB3 := Lib.hid (bw_below hB1.out hB2)
      clear hB2 hB1
      cases he : hasB (l.take k) t0 with
      | true =>
        have hr := Lib.hid (hmono.out (by rw [hsucc.out]; exact he))
        clear hsucc hmono he hcon
        go_wp2
        go_ret
        exact ⟨by rw [hr.out]; rfl, hB3.out⟩
      | false =>
        have hr := Lib.hid (show dblN l (k + 1) = false from by rw [hsucc.out]; exact he)
        clear hsucc hmono he hcon
        go_wp2
        go_roundw
        case rel => exact ⟨k + 1, by omega, by go_num, hB3.out, hr.out⟩
        case measure => simp [intOf]; omega
    · have hk2 : k = l.length := by omega
      subst hk2
      have hnl : ¬ (l.length < l.length) := by omega
      have hr := Lib.hid (show dblB l = false from hno)
      clear hno hA
      go_wp2
      go_ret
      exact ⟨by rw [hr.out]; rfl, hB⟩
/-! what lives -/
def LiveK (w wr : World) (b : Nat) (x : Lk) : Prop := ∃ F, LK wr F b x ∧ (∀ j, F j → w.heap.size ≤ j) ∧ Below w.heap.size w wr
def KeepK (wr w2 : World) : Prop := ∀ g t cs, Blk wr g t cs → t ∉ lts → Blk w2 g t cs
variable {w wr w2 w1 : World} {F : Nat → Prop} {b : Nat} {x y : Lk} {M Q : Int}
theorem LiveK.old (h : LiveK w wr b x) : Below w.heap.size w wr := by obtain ⟨F, _, _, hb⟩ := h; exact hb
theorem LiveK.below (h : LiveK w wr b x) (hb : Below wr.heap.size wr w2) : LiveK w w2 b x := by
  obtain ⟨F, hC, hF, hB⟩ := h
  exact ⟨F, hC.below hb, hF, hB.trans (hb.mono hB.size)⟩
theorem LiveK.turn (hC : LK wr F b x) (hF : ∀ j, F j → w.heap.size ≤ j) (hB : Below w.heap.size w wr) (h : LTu wr F w2 b y) : LiveK w w2 b y ∧ KeepK wr w2 := by
  obtain ⟨F', hC2, hd, hs⟩ := h
  exact ⟨⟨F', hC2, fun j hj => (hs j hj).elim (hF j) (fun h => Nat.le_trans hB.size h), hB.trans (hd.below hB.size hF)⟩, fun g t cs hb ht => hb.did hd (hC.off hb ht)⟩
def firstE : List Tox → Int
  | [] => 0
  | t :: r => if chk t ≠ 0 then chk t else firstE r
theorem first_succ {l : List Tox} {k : Nat} {t : Tox} (h : l[k]? = some t) (hk : firstE (l.take k) = 0) : firstE (l.take (k + 1)) = chk t := by
  induction l generalizing k with
  | nil => simp at h
  | cons u r ih =>
    cases k with
    | zero =>
      injection h with h
      subst h
      simp [firstE]
      intro e
      omega
    | succ k =>
      simp only [List.take_succ_cons, firstE] at hk ⊢
      split at hk
      · omega
      · rename_i hu
        rw [if_neg hu]
        exact ih h hk
theorem first_mono {l : List Tox} {k : Nat} (h : firstE (l.take k) ≠ 0) : firstE l = firstE (l.take k) := by
  induction l generalizing k with
  | nil => simp
  | cons u r ih =>
    cases k with
    | zero => exact absurd rfl h
    | succ k =>
      simp only [List.take_succ_cons, firstE] at h ⊢
      split at h
      · rename_i hu; rw [if_pos hu, if_pos hu]
      · rename_i hu; rw [if_neg hu, if_neg hu]; exact ih h
def linkE (l : List Tox) (room : Int) : Int := if roomOk room = false ∨ 8 < l.length then 1 else if firstE l ≠ 0 then firstE l else if dblB l = true then 141 else 0
def link0 (up : Bool) (seed room now : Int) : Lk := ⟨newC room now, [], up, seed, 0, 0, 0, false⟩
def linkN (l : List Tox) (up : Bool) (seed room now : Int) : Lk := l.foldl (fun x t => addK x t now) (link0 up seed room now)
theorem ok_link0 (up : Bool) (seed room now : Int) (h : roomOk room = true) (h0 : 0 ≤ seed) (h1 : seed < 18446744073709551616) : OkK (link0 up seed room now) 0 0 :=
  ⟨ok_newC room now h, rfl, Int.le_refl 0, (by decide : (0 : Int) ≤ 1000000000), h0, h1, Int.le_refl 0, Int.le_refl 0⟩
theorem drawn_add (x : Lk) (t : Tox) (now : Int) : (addK x t now).drawn ≤ x.drawn + 1 := by
  unfold addK
  split
  · exact Int.le_refl _
  · omega
theorem ok_fold (now : Int) : ∀ (l : List Tox) (x : Lk), OkK x 0 0 → x.drawn + l.length ≤ 1000 → OkK (l.foldl (fun x t => addK x t now) x) 0 0 ∧ (l.foldl (fun x t => addK x t now) x).drawn ≤ x.drawn + l.length
  | [], x, h, hd => ⟨h, by simp⟩
  | t :: r, x, h, hd => by
    rw [List.length_cons] at hd
    have h1 := drawn_add x t now
    obtain ⟨h2, h3⟩ := ok_fold now r (addK x t now) (h.add (Int.le_refl 0) (by omega) t now) (by omega)
    exact ⟨h2, by rw [List.foldl_cons, List.length_cons]; omega⟩
theorem ok_linkN (l : List Tox) (up : Bool) (seed room now : Int) (h : roomOk room = true) (h0 : 0 ≤ seed) (h1 : seed < 18446744073709551616) (hl : l.length ≤ 8) : OkK (linkN l up seed room now) 0 0 ∧ (linkN l up seed room now).drawn ≤ 8 := by
  have := ok_fold now l _ (ok_link0 up seed room now h h0 h1) (by show (0 : Int) + l.length ≤ 1000; omega)
  exact ⟨this.1, by have h2 := this.2; have h3 : (link0 up seed room now).drawn = 0 := rfl; unfold linkN; omega⟩
theorem new_bad (v : Value) (l : List Tox) (up : Bool) (seed room now : Int) (w : World) (hv : Toxs w v l) (hr : roomOk room = false) :
    Calls Tryz.prog 6 #[v, .bool up, .int .u64 seed, .int .i64 room, .int .i64 now] w fun e w' => e = .returned (.tuple #[.pointer none, .int .i64 (1)]) ∧ Below w.heap.size w w' := by
  have hn := Lib.hid (cNew_bad room now w hr)
  clear hv
  go_enter Tryz.func6, Tryz.ntmps6
  go_wp2_with fail
  refine hn.out.mono ?_
  rintro e w1 ⟨rfl, hB⟩
  have hB1 := Lib.hid hB
  clear hn hB
  go_wp2
  go_ret2
  exact ⟨rfl, hB1.out⟩
theorem new_long (v : Value) (l : List Tox) (up : Bool) (seed room now : Int) (w : World) (hv : Toxs w v l) (hr : roomOk room = true) (hl : 8 < l.length) :
    Calls Tryz.prog 6 #[v, .bool up, .int .u64 seed, .int .i64 room, .int .i64 now] w fun e w' => e = .returned (.tuple #[.pointer none, .int .i64 (1)]) ∧ Below w.heap.size w w' := by
  have hn := Lib.hid (cNew_any room now w hr)
  obtain ⟨a, cap, rfl, hmx, hcp, hA⟩ := hv
  have tl : decide ((8 : Int) < (l.length : Int)) = true := decide_eq_true (by omega)
  clear hA
  go_enter Tryz.func6, Tryz.ntmps6
  go_wp2_with fail
  refine hn.out.mono ?_
  rintro e w1 ⟨c, F, D, rfl, hC, hF, hcp2, hB⟩
  have hB1 := Lib.hid hB
  clear hn hB hC hF hcp2
  go_wp2
  go_ret2
  exact ⟨rfl, hB1.out⟩
theorem new_chk (v : Value) (l : List Tox) (up : Bool) (seed room now : Int) (w : World) (hv : Toxs w v l) (hr : roomOk room = true) (hl : l.length ≤ 8) (hf : firstE l ≠ 0) :
    Calls Tryz.prog 6 #[v, .bool up, .int .u64 seed, .int .i64 room, .int .i64 now] w fun e w' => e = .returned (.tuple #[.pointer none, .int .i64 (firstE l)]) ∧ Below w.heap.size w w' := by
  have hn := Lib.hid (cNew_any room now w hr)
  have hv0 := Lib.hid hv
  obtain ⟨a, cap, rfl, hmx, hcp, hA⟩ := hv
  have tl : decide ((8 : Int) < (l.length : Int)) = false := decide_eq_false (by omega)
  go_enter Tryz.func6, Tryz.ntmps6
  go_wp2_with fail
  refine hn.out.mono ?_
  rintro e w1 ⟨c, F, D, rfl, hC, hF, hcp2, hB⟩
  have hBw1 := Lib.hid hB
  have hCh := Lib.hid (And.intro hC (And.intro hF hcp2))
  clear hn hB hC hF hcp2
  go_wp2
  go_loopw [35] (fun iv wr => ∃ k : Nat, k ≤ l.length ∧ iv = .int .i64 k ∧ Below w1.heap.size w1 wr ∧ firstE (l.take k) = 0) (fun iv _ => l.length - (intOf iv).toNat)
  case atStart => exact ⟨0, by omega, rfl, Below.refl _ _, rfl⟩
  case round =>
    obtain ⟨k, hk, rfl, hB, hno⟩ := hrel
    by_cases hlt : k < l.length
    · obtain ⟨g2, o, rfl, hc⟩ := hA (by intro h; subst h; simp at hlt)
      have hx : l[k]? = some l[k] := List.getElem?_eq_getElem hlt
      obtain ⟨d0, d1, d2, d3, d4, d5⟩ := hc k _ hx
      have hsucc := Lib.hid (first_succ hx hno)
      have hmono := Lib.hid (fun h => first_mono (l := l) (k := k + 1) h)
      generalize l[k] = p at *
      obtain ⟨t0, t1, t2, t3, t4, t5⟩ := p
      dsimp only at *
      have hBw := hBw1.out.trans (hB.mono hBw1.out.size)
      have d0' := bcells hBw d0
      have d1' := bcells hBw d1
      have d2' := bcells hBw d2
      have d3' := bcells hBw d3
      have d4' := bcells hBw d4
      have d5' := bcells hBw d5
      have hB' := Lib.hid (hB.alloc hB.size (.cells #[.string t0, .int .i64 t1, .bool t2, .int .i64 t3, .int .i64 t4, .int .i64 t5] 34))
      have hck := Lib.hid (fun wy => check_any ⟨t0, t1, t2, t3, t4, t5⟩ wy)
      clear hc hx hA d0 d1 d2 d3 d4 d5 hB hno hBw
      go_wp2_with fail
      refine (hck.out _).mono ?_
      rintro e w2 ⟨rfl, hB2⟩
      have hB3 := Lib.hid (bw_below hB'.out hB2)
      clear hB2 hB' hck
      by_cases he : chk ⟨t0, t1, t2, t3, t4, t5⟩ = 0
      · have hr := Lib.hid (show firstE (l.take (k + 1)) = 0 from by rw [hsucc.out]; exact he)
        rw [he]
        clear hsucc hmono he
        go_wp2
        go_roundw
        case rel => exact ⟨k + 1, by omega, by go_num, hB3.out, hr.out⟩
        case measure => simp [intOf]; omega
      · have te : (chk ⟨t0, t1, t2, t3, t4, t5⟩ != 0) = true := by simpa using he
        have hr := Lib.hid (show firstE l = chk ⟨t0, t1, t2, t3, t4, t5⟩ from by have := hmono.out (by rw [hsucc.out]; exact he); rw [hsucc.out] at this; exact this)
        clear hsucc hmono he
        go_wp2
        go_ret2
        exact ⟨by rw [hr.out]; rfl, bw_below hBw1.out hB3.out⟩
    · have hk2 : k = l.length := by omega
      subst hk2
      have hnl : ¬ (l.length < l.length) := by omega
      rw [List.take_length] at hno
      exact absurd hno hf
theorem new_dbl (v : Value) (l : List Tox) (up : Bool) (seed room now : Int) (w : World) (hv : Toxs w v l) (hr : roomOk room = true) (hl : l.length ≤ 8) (hf : firstE l = 0) (hd : dblB l = true) :
    Calls Tryz.prog 6 #[v, .bool up, .int .u64 seed, .int .i64 room, .int .i64 now] w fun e w' => e = .returned (.tuple #[.pointer none, .int .i64 (141)]) ∧ Below w.heap.size w w' := by
  have hn := Lib.hid (cNew_any room now w hr)
  have hv0 := Lib.hid hv
  obtain ⟨a, cap, rfl, hmx, hcp, hA⟩ := hv
  have tl : decide ((8 : Int) < (l.length : Int)) = false := decide_eq_false (by omega)
  go_enter Tryz.func6, Tryz.ntmps6
  go_wp2_with fail
  refine hn.out.mono ?_
  rintro e w1 ⟨c, F, D, rfl, hC, hF, hcp2, hB⟩
  have hBw1 := Lib.hid hB
  have hCh := Lib.hid (And.intro hC (And.intro hF hcp2))
  clear hn hB hC hF hcp2
  go_wp2
  go_loopw [35] (fun iv wr => ∃ k : Nat, k ≤ l.length ∧ iv = .int .i64 k ∧ Below w1.heap.size w1 wr ∧ firstE (l.take k) = 0) (fun iv _ => l.length - (intOf iv).toNat)
  case atStart => exact ⟨0, by omega, rfl, Below.refl _ _, rfl⟩
  case round =>
    obtain ⟨k, hk, rfl, hB, hno⟩ := hrel
    by_cases hlt : k < l.length
    · obtain ⟨g2, o, rfl, hc⟩ := hA (by intro h; subst h; simp at hlt)
      have hx : l[k]? = some l[k] := List.getElem?_eq_getElem hlt
      obtain ⟨d0, d1, d2, d3, d4, d5⟩ := hc k _ hx
      have hsucc := Lib.hid (first_succ hx hno)
      have hmono := Lib.hid (fun h => first_mono (l := l) (k := k + 1) h)
      generalize l[k] = p at *
      obtain ⟨t0, t1, t2, t3, t4, t5⟩ := p
      dsimp only at *
      have hBw := hBw1.out.trans (hB.mono hBw1.out.size)
      have d0' := bcells hBw d0
      have d1' := bcells hBw d1
      have d2' := bcells hBw d2
      have d3' := bcells hBw d3
      have d4' := bcells hBw d4
      have d5' := bcells hBw d5
      have hB' := Lib.hid (hB.alloc hB.size (.cells #[.string t0, .int .i64 t1, .bool t2, .int .i64 t3, .int .i64 t4, .int .i64 t5] 34))
      have hck := Lib.hid (fun wy => check_any ⟨t0, t1, t2, t3, t4, t5⟩ wy)
      clear hc hx hA d0 d1 d2 d3 d4 d5 hB hno hBw
      go_wp2_with fail
      refine (hck.out _).mono ?_
      rintro e w2 ⟨rfl, hB2⟩
      have hB3 := Lib.hid (bw_below hB'.out hB2)
      clear hB2 hB' hck
      by_cases he : chk ⟨t0, t1, t2, t3, t4, t5⟩ = 0
      · have hr := Lib.hid (show firstE (l.take (k + 1)) = 0 from by rw [hsucc.out]; exact he)
        rw [he]
        clear hsucc hmono he
        go_wp2
        go_roundw
        case rel => exact ⟨k + 1, by omega, by go_num, hB3.out, hr.out⟩
        case measure => simp [intOf]; omega
      · have te : (chk ⟨t0, t1, t2, t3, t4, t5⟩ != 0) = true := by simpa using he
        have hr := Lib.hid (show firstE l = chk ⟨t0, t1, t2, t3, t4, t5⟩ from by have := hmono.out (by rw [hsucc.out]; exact he); rw [hsucc.out] at this; exact this)
        clear hsucc hmono he
        exact absurd (hr.out.symm.trans hf) (by simpa using te)
    · have hk2 : k = l.length := by omega
      subst hk2
      have hnl : ¬ (l.length < l.length) := by omega
      rw [List.take_length] at hno
      have hdb := Lib.hid (doubles_any wr (.slice a l.length cap) l (hv0.out.below (hBw1.out.trans (hB.mono hBw1.out.size))))
      rw [hd] at hdb
      have hB' := Lib.hid (bw_below hBw1.out hB)
      clear hA hB hno
      go_wp2_with fail
      refine hdb.out.mono ?_
      rintro e w2 ⟨rfl, hB2⟩
      have hB3 := Lib.hid (bw_below hB'.out hB2)
      clear hB2 hdb
      go_wp2
      go_ret2
      exact ⟨rfl, hB3.out⟩
set_option maxHeartbeats 1000000 in
theorem new_ok (v : Value) (l : List Tox) (up : Bool) (seed room now : Int) (w : World) (hv : Toxs w v l) (hr : roomOk room = true) (hl : l.length ≤ 8) (hf : firstE l = 0) (hd : dblB l = false) (h0 : 0 ≤ seed) (h1 : seed < 18446744073709551616) :
    Calls Tryz.prog 6 #[v, .bool up, .int .u64 seed, .int .i64 room, .int .i64 now] w fun e w' => ∃ b, e = .returned (.tuple #[ptr b, .int .i64 0]) ∧ LiveK w w' b (linkN l up seed room now) := by
  have hn := Lib.hid (cNew_any room now w hr)
  have hv0 := Lib.hid hv
  obtain ⟨a, cap, rfl, hmx, hcp, hA⟩ := hv
  have tl : decide ((8 : Int) < (l.length : Int)) = false := decide_eq_false (by omega)
  go_enter Tryz.func6, Tryz.ntmps6
  go_wp2_with fail
  refine hn.out.mono ?_
  rintro e w1 ⟨c, F, D, rfl, hC, hF, hcp2, hB⟩
  have hBw1 := Lib.hid hB
  have hCh := Lib.hid (And.intro hC (And.intro hF hcp2))
  clear hn hB hC hF hcp2
  go_wp2
  go_loopw [35] (fun iv wr => ∃ k : Nat, k ≤ l.length ∧ iv = .int .i64 k ∧ Below w1.heap.size w1 wr ∧ firstE (l.take k) = 0) (fun iv _ => l.length - (intOf iv).toNat)
  case atStart => exact ⟨0, by omega, rfl, Below.refl _ _, rfl⟩
  case round =>
    obtain ⟨k, hk, rfl, hB, hno⟩ := hrel
    by_cases hlt : k < l.length
    · obtain ⟨g2, o, rfl, hc⟩ := hA (by intro h; subst h; simp at hlt)
      have hx : l[k]? = some l[k] := List.getElem?_eq_getElem hlt
      obtain ⟨d0, d1, d2, d3, d4, d5⟩ := hc k _ hx
      have hsucc := Lib.hid (first_succ hx hno)
      have hmono := Lib.hid (fun h => first_mono (l := l) (k := k + 1) h)
      generalize l[k] = p at *
      obtain ⟨t0, t1, t2, t3, t4, t5⟩ := p
      dsimp only at *
      have hBw := hBw1.out.trans (hB.mono hBw1.out.size)
      have d0' := bcells hBw d0
      have d1' := bcells hBw d1
      have d2' := bcells hBw d2
      have d3' := bcells hBw d3
      have d4' := bcells hBw d4
      have d5' := bcells hBw d5
      have hB' := Lib.hid (hB.alloc hB.size (.cells #[.string t0, .int .i64 t1, .bool t2, .int .i64 t3, .int .i64 t4, .int .i64 t5] 34))
      have hck := Lib.hid (fun wy => check_any ⟨t0, t1, t2, t3, t4, t5⟩ wy)
      clear hc hx hA d0 d1 d2 d3 d4 d5 hB hno hBw
      go_wp2_with fail
      refine (hck.out _).mono ?_
      rintro e w2 ⟨rfl, hB2⟩
      have hB3 := Lib.hid (bw_below hB'.out hB2)
      clear hB2 hB' hck
      by_cases he : chk ⟨t0, t1, t2, t3, t4, t5⟩ = 0
      · have hr := Lib.hid (show firstE (l.take (k + 1)) = 0 from by rw [hsucc.out]; exact he)
        rw [he]
        clear hsucc hmono he
        go_wp2
        go_roundw
        case rel => exact ⟨k + 1, by omega, by go_num, hB3.out, hr.out⟩
        case measure => simp [intOf]; omega
      · have te : (chk ⟨t0, t1, t2, t3, t4, t5⟩ != 0) = true := by simpa using he
        have hr := Lib.hid (show firstE l = chk ⟨t0, t1, t2, t3, t4, t5⟩ from by have := hmono.out (by rw [hsucc.out]; exact he); rw [hsucc.out] at this; exact this)
        clear hsucc hmono he
        exact absurd (hr.out.symm.trans hf) (by simpa using te)
    · have hk2 : k = l.length := by omega
      subst hk2
      have hnl : ¬ (l.length < l.length) := by omega
      rw [List.take_length] at hno
      have hdb := Lib.hid (doubles_any wr (.slice a l.length cap) l (hv0.out.below (hBw1.out.trans (hB.mono hBw1.out.size))))
      rw [hd] at hdb
      have hB' := Lib.hid (bw_below hBw1.out hB)
      have hCr := Lib.hid (hCh.out.1.below hB)
      clear hB hno
      go_wp2_with fail
      refine hdb.out.mono ?_
      rintro e w2 ⟨rfl, hB2⟩
      have hB3 := Lib.hid (bw_below hB'.out hB2)
      have hC2 := Lib.hid (hCr.out.below hB2)
      have hBL := (Below.refl w2.heap.size w2).alloc (Nat.le_refl _) (.cells #[ptr c, .slice none 0 0, .bool up, .int .u64 seed, .int .i64 0, .int .i64 0, .int .i64 0, .int .i64 0, .int .i64 0, .bool false] 53)
      have hL0 := Lib.hid (show LiveK w (w2.alloc (.cells #[ptr c, .slice none 0 0, .bool up, .int .u64 seed, .int .i64 0, .int .i64 0, .int .i64 0, .int .i64 0, .int .i64 0, .bool false] 53)) w2.heap.size (link0 up seed room now) from
        ⟨fun j => j = w2.heap.size ∨ F j ∨ (Value.slice none 0 0).ownBlock = some j, ⟨F, c, D, .slice none 0 0, Blk.new w2 _ _, hC2.out.below hBL, hCh.out.2.2, .inl ⟨rfl, rfl⟩, fun j => Iff.rfl⟩, (fun j hj => by
          rcases hj with rfl | hj | hj
          · exact hB3.out.size
          · exact hCh.out.2.1 j hj
          · cases hj), hB3.out.alloc hB3.out.size _⟩)
      clear hB2 hdb hBL hB' hCr
      go_wp2
      go_loopw [54] (fun iv wr => ∃ k : Nat, k ≤ l.length ∧ iv = .int .i64 k ∧ LiveK w wr w2.heap.size (linkN (l.take k) up seed room now)) (fun iv _ => l.length - (intOf iv).toNat)
      case atStart => exact ⟨0, by omega, rfl, hL0.out⟩
      case round =>
        obtain ⟨k, hk, rfl, hL⟩ := hrel
        clear hL0
        by_cases hlt : k < l.length
        · obtain ⟨g2, o, rfl, hc⟩ := hA (by intro h; subst h; simp at hlt)
          have hx : l[k]? = some l[k] := List.getElem?_eq_getElem hlt
          obtain ⟨d0, d1, d2, d3, d4, d5⟩ := hc k _ hx
          have hok := Lib.hid (ok_linkN (l.take k) up seed room now hr h0 h1 (by rw [List.length_take]; omega)).1
          have hsucc := Lib.hid (show linkN (l.take (k + 1)) up seed room now = addK (linkN (l.take k) up seed room now) l[k] now from by unfold linkN; rw [List.take_add_one, hx, List.foldl_append]; rfl)
          generalize l[k] = p at *
          obtain ⟨t0, t1, t2, t3, t4, t5⟩ := p
          dsimp only at *
          have hBw := hL.old
          have d0' := bcells hBw d0
          have d1' := bcells hBw d1
          have d2' := bcells hBw d2
          have d3' := bcells hBw d3
          have d4' := bcells hBw d4
          have d5' := bcells hBw d5
          have hL' := Lib.hid (hL.below ((Below.refl wr.heap.size wr).alloc (Nat.le_refl _) (.cells #[.string t0, .int .i64 t1, .bool t2, .int .i64 t3, .int .i64 t4, .int .i64 t5] 34)))
          clear hc hx hA d0 d1 d2 d3 d4 d5 hL hBw
          generalize linkN (l.take k) up seed room now = x0 at *
          obtain ⟨F0, hLK, hF0, hB0⟩ := hL'.out
          have hadd := Lib.hid (kAdd_any hLK hok.out ⟨t0, t1, t2, t3, t4, t5⟩ now)
          have hFB := Lib.hid (And.intro hLK (And.intro hF0 hB0))
          clear hLK hF0 hB0 hL'
          go_wp2_with fail
          refine hadd.out.mono ?_
          rintro e w4 ⟨rfl, hT⟩
          have hL4 := Lib.hid (LiveK.turn hFB.out.1 hFB.out.2.1 hFB.out.2.2 hT).1
          clear hT hadd hFB
          go_wp2
          go_roundw
          case rel => exact ⟨k + 1, by omega, by go_num, by rw [hsucc.out]; exact hL4.out⟩
          case measure => simp [intOf]; omega
        · have hk2 : k = l.length := by omega
          subst hk2
          have hnl : ¬ (l.length < l.length) := by omega
          rw [List.take_length] at hL
          have hr := Lib.hid hL
          clear hA hL
          go_wp2
          go_ret2
          exact ⟨_, rfl, hr.out⟩
end Go.Proofs.YtoiibmcbjjnpbaaGreat.Link
namespace Go.Proofs.YtoiibmcbjjnpbaaGreat.Link
open Go.RowKit Mem Tick Cargo Toxic Stage Chain
set_option linter.unusedVariables false
set_option linter.unusedSimpArgs false
def EndZ (x : Ch) : Prop := x.state ≠ 0 → x.state = 2 ∨ ∃ a, x.l[x.l.length - 1]? = some a ∧ a.s.state ≠ 0
theorem look_stays {s : Sg} (n : Int) (h : s.state ≠ 0) : (lookP s n).state ≠ 0 := by
  rcases look_cases s n with e | ⟨e, _⟩
  · rw [e]; exact h
  · exact absurd e h
variable {c : Ch}
theorem EndZ.none (h : EndZ c) (hs : c.state ≠ 0) (n m : Int) : takeCB c n m = ⟨#[]⟩ := by
  unfold takeCB
  rcases h hs with e | ⟨a, ha, h1⟩
  · rw [if_pos e]
  · split
    · rfl
    · rw [ha]
      show takeB a.s n m = _
      unfold takeB
      rw [if_pos (.inl (look_stays n h1))]
variable {x : Lk}
end Go.Proofs.YtoiibmcbjjnpbaaGreat.Link
namespace Go.Proofs.YtoiibmcbjjnpbaaGreat.Link
open Go.RowKit Mem Tick Cargo Toxic Stage Chain
set_option linter.unusedVariables false
set_option linter.unusedSimpArgs false
def ofWay (L : List Tox) (up : Bool) : List Tox := L.filter fun t => t.up == up
theorem ofWay_snoc (L : List Tox) (t : Tox) (up : Bool) : ofWay (L ++ [t]) up = if t.up = up then ofWay L up ++ [t] else ofWay L up := by
  unfold ofWay
  rw [List.filter_append]
  by_cases h : t.up = up
  · rw [if_pos h]; simp [h]
  · rw [if_neg h]; simp [h]
def DrR (t d : Tox) : Prop := (d = t ∨ d = noTox) ∧ (t.often = 100 → d = t) ∧ (t.often = 0 → d = noTox)
def DrL (l d : List Tox) : Prop := d.length = l.length ∧ ∀ (i : Nat) (t u : Tox), l[i]? = some t → d[i]? = some u → DrR t u
theorem DrL.snoc {l d : List Tox} (h : DrL l d) {t u : Tox} (hr : DrR t u) : DrL (l ++ [t]) (d ++ [u]) := by
  refine ⟨by simp [h.1], fun i t' u' h1 h2 => ?_⟩
  by_cases hi : i < l.length
  · rw [List.getElem?_append_left hi] at h1
    rw [List.getElem?_append_left (by rw [h.1]; exact hi)] at h2
    exact h.2 i t' u' h1 h2
  · rw [List.getElem?_append_right (by omega)] at h1
    rw [List.getElem?_append_right (by rw [h.1]; omega), h.1] at h2
    have : i - l.length = 0 := Decidable.byContradiction fun e => by
      rw [List.getElem?_eq_none (by simp; omega)] at h1; cases h1
    rw [this] at h1 h2
    simp at h1 h2
    subst h1 h2
    exact hr
theorem draw_drr (x : Lk) (t : Tox) : DrR t (drawK x t) := by
  have hb := Ref02.hiI_bd (dieK x) 100 (by decide)
  unfold drawK
  split
  · rename_i h
    exact ⟨.inl rfl, fun _ => rfl, fun e => by omega⟩
  · rename_i h
    exact ⟨.inr rfl, fun e => by omega, fun _ => rfl⟩
def fresh (room now : Int) (p : Tox × Int) : Pa := ⟨newS p.1 p.2 room now, false⟩
structure NewI (L : List Tox) (up : Bool) (room now : Int) (x : Lk) : Prop where
  up_ : x.up = up
  names : x.names = (ofWay L up).map fun t => t.name
  l : ∃ ds : List (Tox × Int), x.c.l = ((noTox, 0) :: ds ++ [(noTox, 0)]).map (fresh room now) ∧ DrL (ofWay L up) (ds.map fun p => p.1)
  st : x.c.state = 0
  sh : x.c.shut = false
  lost : x.c.lost = 0
  rm : x.c.room = room
  dn : x.done = false
theorem newI_0 (up : Bool) (seed room now : Int) : NewI [] up room now (link0 up seed room now) :=
  ⟨rfl, rfl, ⟨[], rfl, rfl, fun i t u h => by simp [ofWay] at h⟩, rfl, rfl, rfl, rfl, rfl⟩
theorem newE_ok {t : Tox} {room : Int} (h : passB t = true ∨ chk t = 0) (hr : roomOk room = true) : newE t room = 0 := by
  unfold newE
  rw [if_neg (by rintro ⟨e1, e2⟩; rcases h with e | e; rw [e] at e1; cases e1; exact e2 e), if_neg (by rw [hr]; simp)]
theorem NewI.add {L : List Tox} {up : Bool} {room now : Int} {x : Lk} (h : NewI L up room now x) (hr : roomOk room = true) (t : Tox) (hc : chk t = 0) (hb : hasB L t.name = false) (h8 : L.length < 8) : NewI (L ++ [t]) up room now (addK x t now) := by
  obtain ⟨ds, hl, hd⟩ := h.l
  have hlen : (ofWay L up).length ≤ L.length := List.length_filter_le _ _
  have hnl : x.names.length = (ofWay L up).length := by rw [h.names, List.length_map]
  have hdl : ds.length = (ofWay L up).length := by have := hd.1; simpa using this
  by_cases hu : t.up = up
  · have hn : idxN x.names t.name = none := by
      apply idx_none
      intro j y hj hy
      rw [h.names, List.getElem?_map] at hy
      obtain ⟨u, hu1, rfl⟩ := Option.map_eq_some_iff.1 hy
      have hm : u ∈ L := (List.mem_filter.1 (List.mem_of_getElem? hu1)).1
      unfold hasB at hb
      have := List.any_eq_false.1 hb u hm
      simp only [beq_iff_eq] at this ⊢
      simp
      exact fun e => this e.symm
    have ha : addsB x t = true := by
      unfold addsB
      rw [hn, decide_eq_true (show chk t = 0 ∧ t.up = x.up from ⟨hc, by rw [h.up_]; exact hu⟩), decide_eq_true (show x.names.length < 8 by omega)]
      rfl
    have hadd : addK x t now = { x with c := insC x.c x.names.length (drawK x t) (Ref02.stepI (dieK x)) now, names := x.names ++ [t.name], drawn := x.drawn + 1 } := by unfold addK; rw [if_pos ha]
    have hE : insE x.c (x.names.length : Int) (drawK x t) = 0 := by
      unfold insE
      have hp : noPlace x.c (x.names.length : Int) = false := by
        unfold noPlace
        rw [hl]
        simp
        omega
      rw [hp, h.rm]
      exact newE_ok (draw_ok x t hc) hr
    have hbk : x.c.l[(x.names.length : Int).toNat + 1]? = some (fresh room now (noTox, 0)) := by
      rw [hl, List.getElem?_map, show (x.names.length : Int).toNat + 1 = ((noTox, (0 : Int)) :: ds).length from by simp; omega, List.getElem?_append_right (Nat.le_refl _), Nat.sub_self]
      rfl
    have hins : insC x.c x.names.length (drawK x t) (Ref02.stepI (dieK x)) now = { x.c with l := ((noTox, 0) :: (ds ++ [(drawK x t, Ref02.stepI (dieK x))]) ++ [(noTox, 0)]).map (fresh room now) } := by
      unfold insC
      rw [hE, if_neg (by decide), hbk]
      dsimp only
      rw [show (fresh room now (noTox, 0)).cl = false from rfl, if_neg (by decide), h.rm]
      congr 1
      rw [hl, ← List.map_take, ← List.map_drop, show (x.names.length : Int).toNat + 1 = ((noTox, (0 : Int)) :: ds).length from by simp; omega, List.take_left, List.drop_left]
      simp [fresh]
    rw [hadd, hins]
    refine ⟨h.up_, ?_, ⟨ds ++ [(drawK x t, Ref02.stepI (dieK x))], rfl, ?_⟩, h.st, h.sh, h.lost, h.rm, h.dn⟩
    · show x.names ++ [t.name] = _
      rw [ofWay_snoc, if_pos hu, h.names, List.map_append]; rfl
    · rw [ofWay_snoc, if_pos hu, List.map_append]
      exact hd.snoc (draw_drr x t)
  · have ha : addsB x t = false := by
      unfold addsB
      rw [decide_eq_false (show ¬ (chk t = 0 ∧ t.up = x.up) from fun e => hu (by rw [← h.up_]; exact e.2))]
      rfl
    have hadd : addK x t now = x := by unfold addK; rw [ha]; rfl
    rw [hadd]
    refine ⟨h.up_, ?_, ⟨ds, hl, ?_⟩, h.st, h.sh, h.lost, h.rm, h.dn⟩
    · rw [ofWay_snoc, if_neg hu]; exact h.names
    · rw [ofWay_snoc, if_neg hu]; exact hd
theorem first_all : ∀ {l : List Tox}, firstE l = 0 → ∀ t ∈ l, chk t = 0
  | u :: r, h, t, ht => by
    unfold firstE at h
    split at h
    · rename_i e; exact absurd h e
    · rename_i e
      rcases List.mem_cons.1 ht with rfl | ht
      · exact Decidable.byContradiction e
      · exact first_all h t ht
theorem dbl_none {l : List Tox} (h : dblB l = false) {k : Nat} {t : Tox} (hk : l[k]? = some t) : hasB (l.take k) t.name = false := by
  cases e : hasB (l.take k) t.name with
  | false => rfl
  | true =>
    have h1 : dblN l (k + 1) = true := by unfold dblN; rw [hk]; simp [e]
    have := dblN_mono h1 (show k + 1 ≤ l.length from (List.getElem?_eq_some_iff.1 hk).1)
    unfold dblB at h
    rw [this] at h
    cases h
theorem linkE_0 {l : List Tox} {room : Int} (h : linkE l room = 0) : roomOk room = true ∧ l.length ≤ 8 ∧ firstE l = 0 ∧ dblB l = false := by
  unfold linkE at h
  split at h
  · exact absurd h (by decide)
  rename_i h2
  split at h
  · rename_i h3; exact absurd h h3
  rename_i h3
  split at h
  · exact absurd h (by decide)
  rename_i h4
  refine ⟨?_, by omega, by simpa using h3, by simpa using h4⟩
  cases e : roomOk room with
  | true => rfl
  | false => exact absurd (.inl e) h2
theorem newI_linkN (L : List Tox) (up : Bool) (seed room now : Int) (h : linkE L room = 0) : NewI L up room now (linkN L up seed room now) := by
  obtain ⟨hr, h8, hf, hd⟩ := linkE_0 h
  have key : ∀ k, k ≤ L.length → NewI (L.take k) up room now (linkN (L.take k) up seed room now) := by
    intro k
    induction k with
    | zero => intro _; exact newI_0 up seed room now
    | succ k ih =>
      intro hk
      have hx : L[k]? = some L[k] := List.getElem?_eq_getElem (by omega)
      have e : L.take (k + 1) = L.take k ++ [L[k]] := by rw [List.take_add_one, hx]; rfl
      rw [e]
      have e2 : linkN (L.take k ++ [L[k]]) up seed room now = addK (linkN (L.take k) up seed room now) L[k] now := by unfold linkN; rw [List.foldl_append]; rfl
      rw [e2]
      exact (ih (by omega)).add hr _ (first_all hf _ (List.mem_of_getElem? hx)) (dbl_none hd hx) (by rw [List.length_take]; omega)
  have := key L.length (Nat.le_refl _)
  rwa [List.take_length] at this
/-! lags -/
def musts (L : List Tox) (up : Bool) (lag : Int) : Int := L.foldl (fun lag t => if t.kind = 1 ∧ t.often = 100 ∧ t.up = up then Tick.add lag (t.a - t.b) else lag) lag
theorem musts_snoc (L : List Tox) (t : Tox) (up : Bool) (lag : Int) : musts (L ++ [t]) up lag = if t.kind = 1 ∧ t.often = 100 ∧ t.up = up then Tick.add (musts L up lag) (t.a - t.b) else musts L up lag := by
  unfold musts; rw [List.foldl_append]; rfl
def lagD : List Tox → Int
  | [] => 0
  | t :: r => lagT t + lagD r
def mustD : List Tox → Int
  | [] => 0
  | t :: r => (if t.often = 100 then lagT t else 0) + mustD r
theorem mustD_le : ∀ (l d : List Tox), DrL l d → mustD l ≤ lagD d
  | [], [], h => Int.le_refl _
  | [], u :: d, h => by have := h.1; simp at this
  | t :: l, [], h => by have := h.1; simp at this
  | t :: l, u :: d, h => by
    have ih := mustD_le l d ⟨by have := h.1; simpa using this, fun i a b h1 h2 => h.2 (i + 1) a b (by simpa using h1) (by simpa using h2)⟩
    have h0 := h.2 0 t u rfl rfl
    have h1 := lagT_nn u
    simp only [mustD, lagD]
    split
    · rename_i e
      rw [h0.2.1 e]
      omega
    · omega
theorem lagS_fresh (room now : Int) : ∀ ps : List (Tox × Int), lagS (ps.map (fresh room now)) = lagD (ps.map fun p => p.1)
  | [] => rfl
  | p :: r => by
    have e : (fresh room now p).s.t = p.1 := by show (newS p.1 p.2 room now).t = p.1; unfold newS; split <;> rfl
    rw [List.map_cons, lagS, List.map_cons, lagD, lagS_fresh room now r, e]
theorem lagD_app : ∀ a b : List Tox, lagD (a ++ b) = lagD a + lagD b
  | [], b => by simp [lagD]
  | p :: r, b => by simp only [List.cons_append, lagD, lagD_app r b]; omega
theorem lag_noTox : lagT noTox = 0 := rfl
theorem musts_le (up : Bool) : ∀ (L : List Tox) (lag : Int), 0 ≤ lag → 0 ≤ musts L up lag ∧ musts L up lag ≤ lag + mustD (ofWay L up)
  | [], lag, h => ⟨h, by simp [musts, ofWay, mustD]⟩
  | t :: L, lag, h => by
    have hc : musts (t :: L) up lag = musts L up (if t.kind = 1 ∧ t.often = 100 ∧ t.up = up then Tick.add lag (t.a - t.b) else lag) := rfl
    rw [hc]
    have hl := lagT_nn t
    by_cases hm : t.kind = 1 ∧ t.often = 100 ∧ t.up = up
    · rw [if_pos hm]
      have h0 : 0 ≤ Tick.add lag (t.a - t.b) := (nr_bd _).1
      have ih := musts_le up L _ h0
      have e : ofWay (t :: L) up = t :: ofWay L up := by simp [ofWay, hm.2.2]
      rw [e, mustD, if_pos hm.2.1]
      have hle : Tick.add lag (t.a - t.b) ≤ lag + lagT t := by
        unfold Tick.add lagT
        rw [if_pos hm.1]
        have b1 := nr_bd (t.a - t.b)
        have b2 : nr lag ≤ lag := by unfold nr; split <;> (try split) <;> omega
        have b3 := nr_bd lag
        generalize nr (t.a - t.b) = y at *
        generalize nr lag = z at *
        have : nr (z + y) ≤ z + y := by unfold nr; split <;> (try split) <;> omega
        omega
      omega
    · rw [if_neg hm]
      have ih := musts_le up L lag h
      have : mustD (ofWay L up) ≤ mustD (ofWay (t :: L) up) := by
        by_cases hu : t.up = up
        · have e : ofWay (t :: L) up = t :: ofWay L up := by simp [ofWay, hu]
          rw [e, mustD]
          split <;> omega
        · have e : ofWay (t :: L) up = ofWay L up := by simp [ofWay, hu]
          rw [e]; exact Int.le_refl _
      omega
theorem lags_linkN (L : List Tox) (up : Bool) (seed room now : Int) (h : linkE L room = 0) : 0 ≤ musts L up 0 ∧ musts L up 0 ≤ lagS (linkN L up seed room now).c.l := by
  obtain ⟨ds, hl, hd⟩ := (newI_linkN L up seed room now h).l
  have h1 := musts_le up L 0 (Int.le_refl 0)
  have h2 := mustD_le _ _ hd
  refine ⟨h1.1, ?_⟩
  rw [hl, lagS_fresh, List.map_append, List.map_cons, lagD_app, List.map_cons, lagD, lagD, List.map_nil, lagD, lag_noTox]
  omega
theorem lagC_linkN (L : List Tox) (up : Bool) (seed room : Int) (h : linkE L room = 0) (hok : ∀ a ∈ (linkN L up seed room 0).c.l, Ok a.s) : LagC 0 (linkN L up seed room 0).c [] 0 := by
  obtain ⟨ds, hl, hd⟩ := (newI_linkN L up seed room 0 h).l
  refine ⟨[], [], rfl, ?_, fun e => absurd rfl e⟩
  rw [hl] at hok ⊢
  generalize ((noTox, (0 : Int)) :: ds ++ [(noTox, 0)]) = ps at hok
  have key : ∀ (ps : List (Tox × Int)) (b : Int), (∀ a ∈ ps.map (fresh room 0), Ok a.s) → LagL 0 b (ps.map (fresh room 0)) [] := by
    intro ps
    induction ps with
    | nil => intro b _; rfl
    | cons p r ih =>
      intro b ho
      refine ⟨⟨ho _ (List.mem_cons_self ..), ?_⟩, [], [], rfl, ih _ fun a ha => ho a (List.mem_cons_of_mem _ ha), ?_⟩
      · show (newS p.1 p.2 room 0).clock ≤ 0
        have : (newS p.1 p.2 room 0).clock = Tick.add 0 0 := by unfold newS; split <;> rfl
        rw [this]; decide
      · have : (newS p.1 p.2 room 0).c = ([], 0) := by unfold newS; split <;> rfl
        show F2 _ _ (dues (newS p.1 p.2 room 0).c.1)
        rw [this]; exact F2.nil
  exact key ps 0 hok
/-! a link's calls without toxics -/
theorem LagC.does {N : Int} {x : Lk} {A : List Int} {k : Nat} (hN : 0 ≤ N) (hN1 : N ≤ 1099511627776) (hk : k ≤ A.length) (h : LagC N x.c A k) (o : Op) (ho : o.now = N) (h3 : o.kind ≤ 3) :
    LagC N (doesK x o).c (A ++ List.replicate (inK x o).size N) (k + (outK x o).size) ∧ lagS (doesK x o).c.l = lagS x.c.l ∧ (∀ j t, k ≤ j → j < k + (outK x o).size → A[j]? = some t → min (t + lagS x.c.l) 1099511627776 ≤ N) ∧ k + (outK x o).size ≤ (A ++ List.replicate (inK x o).size N).length := by
  have e0 : A ++ List.replicate (⟨#[]⟩ : ByteArray).size N = A := by show A ++ [] = A; exact List.append_nil A
  unfold doesK inK outK
  by_cases k0 : o.kind = 0
  · rw [if_pos k0, if_pos k0, if_neg (by omega), putN_size, ho]
    have := LagC.put hN hN1 hk h o.s
    exact ⟨this.1, this.2, fun j t h1 h2 => absurd (show j < k from h2) (by omega), by rw [List.length_append]; show k ≤ _; omega⟩
  rw [if_neg k0, if_neg k0]
  by_cases k1 : o.kind = 1
  · rw [if_pos k1, if_neg (by omega), ho]
    have := LagC.close hN hN1 h
    exact ⟨by rw [e0]; exact this.1, this.2, fun j t h1 h2 => absurd (show j < k from h2) (by omega), by rw [List.length_append]; show k ≤ _; omega⟩
  rw [if_neg k1]
  by_cases k2 : o.kind = 2
  · rw [if_pos k2, if_neg (by omega)]
    exact ⟨by rw [e0]; exact h.brk, lagS_break _, fun j t h1 h2 => absurd (show j < k from h2) (by omega), by rw [List.length_append]; show k ≤ _; omega⟩
  rw [if_neg k2]
  by_cases k3 : o.kind = 3
  · rw [if_pos k3, if_pos k3, ho]
    have s1 := LagC.step hN hN1 h
    have s2 := LagC.take hN hN1 s1.1 o.n
    have s3 := LagC.step hN hN1 s2.1
    rw [s1.2] at s2
    refine ⟨?_, s3.2.trans s2.2.1, s2.2.2.1, ?_⟩
    · show LagC N (stepX x N o.n) (A ++ List.replicate (⟨#[]⟩ : ByteArray).size N) (k + (stepB x N o.n).size)
      have e : A ++ List.replicate (⟨#[]⟩ : ByteArray).size N = A := by show A ++ [] = A; exact List.append_nil A
      rw [e]
      exact s3.1
    · rw [List.length_append]
      by_cases hz : 0 < (stepB x N o.n).size
      · have := s2.2.2.2 hz
        show k + (takeCB (stepC N x.c) N o.n).size ≤ _
        omega
      · omega
  rw [if_neg k3, if_neg k3, if_neg (by omega), if_neg (by omega), if_neg (by omega)]
  exact ⟨by rw [e0]; exact h, rfl, fun j t h1 h2 => absurd (show j < k from h2) (by omega), by rw [List.length_append]; show k ≤ _; omega⟩
end Go.Proofs.YtoiibmcbjjnpbaaGreat.Link
namespace Go.Proofs.YtoiibmcbjjnpbaaGreat.Link
open Go.RowKit Mem Tick Cargo Toxic Stage Chain
set_option maxRecDepth 100000
set_option linter.unusedVariables false
set_option linter.unusedSimpArgs false
def opBytes (x : Op) : Nat := x.s.size + x.t.name.size
def Script (w : World) (v : Value) (l : List Op) : Prop :=
  ∃ a cap, v = .slice a l.length cap ∧ l.length ≤ 9223372036854775807 ∧ (∀ x ∈ l, x.s.size ≤ 140737488351232 ∧ x.t.name.size ≤ 140737488351232) ∧
    (l ≠ [] → ∃ b o, a = some ⟨b, o, none⟩ ∧ ∀ j x, l[j]? = some x → w.cell? ⟨b, o + j * 10, none⟩ = some (.int .i64 x.kind) ∧ w.cell? ⟨b, o + j * 10 + 1, none⟩ = some (.int .i64 x.now) ∧ w.cell? ⟨b, o + j * 10 + 2, none⟩ = some (.int .i64 x.n) ∧ w.cell? ⟨b, o + j * 10 + 3, none⟩ = some (.string x.s) ∧ w.cell? ⟨b, o + j * 10 + 4, none⟩ = some (.string x.t.name) ∧ w.cell? ⟨b, o + j * 10 + 5, none⟩ = some (.int .i64 x.t.kind) ∧ w.cell? ⟨b, o + j * 10 + 6, none⟩ = some (.bool x.t.up) ∧ w.cell? ⟨b, o + j * 10 + 7, none⟩ = some (.int .i64 x.t.often) ∧ w.cell? ⟨b, o + j * 10 + 8, none⟩ = some (.int .i64 x.t.a) ∧ w.cell? ⟨b, o + j * 10 + 9, none⟩ = some (.int .i64 x.t.b))
theorem Script.below {w w' : World} {v : Value} {l : List Op} (h : Script w v l) (hb : Below w.heap.size w w') : Script w' v l := by
  obtain ⟨a, cap, h1, h2, h3, h4⟩ := h
  refine ⟨a, cap, h1, h2, h3, fun hn => ?_⟩
  obtain ⟨b, o, e, hc⟩ := h4 hn
  refine ⟨b, o, e, fun j x hx => ?_⟩
  obtain ⟨c0, c1, c2, c3, c4, c5, c6, c7, c8, c9⟩ := hc j x hx
  exact ⟨bcells hb c0, bcells hb c1, bcells hb c2, bcells hb c3, bcells hb c4, bcells hb c5, bcells hb c6, bcells hb c7, bcells hb c8, bcells hb c9⟩
def bytesOf : List Op → Nat
  | [] => 0
  | x :: r => opBytes x + bytesOf r
theorem bytesOf_append (a b : List Op) : bytesOf (a ++ b) = bytesOf a + bytesOf b := by induction a with | nil => simp [bytesOf] | cons p r ih => simp [bytesOf, ih]; omega
theorem bytesOf_take (l : List Op) (k : Nat) (x : Op) (h : l[k]? = some x) : bytesOf (l.take (k + 1)) = bytesOf (l.take k) + opBytes x := by
  rw [List.take_add_one, h, bytesOf_append]; simp [bytesOf]
theorem bytesOf_le (l : List Op) (k : Nat) : bytesOf (l.take k) ≤ bytesOf l := by
  have := bytesOf_append (l.take k) (l.drop k)
  rw [List.take_append_drop] at this; omega
theorem bytesOf_max (l : List Op) (h : ∀ x ∈ l, x.s.size ≤ 140737488351232 ∧ x.t.name.size ≤ 140737488351232) : bytesOf l ≤ l.length * 281474976702464 := by
  induction l with
  | nil => simp [bytesOf]
  | cons x r ih =>
    have h1 := h x (List.mem_cons_self ..)
    have h2 := ih fun y hy => h y (List.mem_cons_of_mem _ hy)
    simp only [bytesOf, List.length_cons, opBytes]; omega
theorem bytes_s (l : List Op) (k : Nat) (p : Op) (h : l[k]? = some p) : bytesOf (l.take (k + 1)) = bytesOf (l.take k) + (p.s.size + p.t.name.size) := bytesOf_take l k p h
def fewK (n : Nat) (l : List Op) : Bool := decide (n ≤ 12) && (decide (l.length ≤ 60) && decide (bytesOf l ≤ 2000))
theorem few_short (sa : Option Addr) (sn sc : Nat) (up : Bool) (seed room : Int) (v : Value) (l : List Op) (w : World) (hsn : sn ≤ 9223372036854775807) (hv : Script w v l) (hsmall : l.length ≤ 60) :
    Calls Tryz.prog 7 #[.agg #[.slice sa sn sc, .bool up, .int .u64 seed, .int .i64 room], v] w fun e w' => e = .returned (.bool (fewK sn l)) ∧ Below w.heap.size w w' := by
  obtain ⟨a, cap, rfl, hm, hs, hA⟩ := hv
  have hmx := bytesOf_max l hs
  have hd : decide ((l.length : Int) ≤ 60) = true := decide_eq_true (by omega)
  have hB0 := Lib.hid ((Below.refl w.heap.size w).alloc (Nat.le_refl _) (.cells #[.slice sa sn sc, .bool up, .int .u64 seed, .int .i64 room] 25))
  have hX0 := Lib.hid (Blk.new w 25 #[.slice sa sn sc, .bool up, .int .u64 seed, .int .i64 room])
  clear hs
  go_enter Tryz.func7, Tryz.ntmps7
  go_wp2
  go_loopw [5, 10] (fun nv iv wr => ∃ k : Nat, k ≤ l.length ∧ iv = .int .i64 k ∧ nv = .int .i64 (bytesOf (l.take k)) ∧ Below w.heap.size w wr ∧ Blk wr w.heap.size 25 #[.slice sa sn sc, .bool up, .int .u64 seed, .int .i64 room]) (fun _ iv _ => l.length - (intOf iv).toNat)
  case atStart => exact ⟨0, by omega, rfl, by simp [bytesOf], hB0.out, hX0.out⟩
  case round =>
    obtain ⟨k, hk, rfl, rfl, hB, hX⟩ := hrel
    by_cases hlt : k < l.length
    · obtain ⟨g, o, rfl, hc⟩ := hA (by intro h; subst h; simp at hlt)
      have hx : l[k]? = some l[k] := List.getElem?_eq_getElem hlt
      obtain ⟨d0, d1, d2, d3, d4, d5, d6, d7, d8, d9⟩ := hc k _ hx
      have hs := Lib.hid (bytes_s l k _ hx)
      have hle := bytesOf_le l (k + 1)
      rw [hs.out] at hle
      generalize l[k] = p at *
      obtain ⟨p0, p1, p2, p3, ⟨t0, t1, t2, t3, t4, t5⟩⟩ := p
      dsimp only at *
      have d0' := bcells hB d0
      have d1' := bcells hB d1
      have d2' := bcells hB d2
      have d3' := bcells hB d3
      have d4' := bcells hB d4
      have d5' := bcells hB d5
      have d6' := bcells hB d6
      have d7' := bcells hB d7
      have d8' := bcells hB d8
      have d9' := bcells hB d9
      generalize hs1 : bytesOf (l.take (k + 1)) = s1 at *
      have hs1' := Lib.hid hs1
      generalize bytesOf (l.take k) = s0 at *
      have hsz := hB.size
      have hX' := Lib.hid hX
      clear hc hx hA d0 d1 d2 d3 d4 d5 d6 d7 d8 d9 hs1 hX
      go_wp2
      go_roundw
      case rel => exact ⟨k + 1, by omega, by go_num, by rw [hs1'.out, hs.out]; go_num, hB.alloc hB.size _, hX'.out.below ((Below.refl _ _).alloc (Nat.le_refl _) _)⟩
      case measure => simp [intOf]; omega
    · have hk2 : k = l.length := by omega
      subst hk2
      have hnl : ¬ (l.length < l.length) := by omega
      rw [List.take_length]
      have c0 : wr.cell? ⟨w.heap.size, 0, none⟩ = some (.slice sa sn sc) := (hX.cell 0).trans rfl
      clear hA hX
      by_cases h12 : sn ≤ 12
      · have t12 : decide ((sn : Int) ≤ 12) = true := decide_eq_true (by omega)
        have e1 : fewK sn l = decide (bytesOf l ≤ 2000) := by unfold fewK; rw [decide_eq_true h12, decide_eq_true hsmall]; simp
        have e1' := Lib.hid e1
        clear e1
        go_wp2
        go_ret
        exact ⟨by rw [e1'.out]; simp; omega, hB⟩
      · have t12 : decide ((sn : Int) ≤ 12) = false := decide_eq_false (by omega)
        have e1 : fewK sn l = false := by unfold fewK; rw [decide_eq_false h12]; rfl
        have e1' := Lib.hid e1
        clear e1
        go_wp2
        go_ret
        exact ⟨by rw [e1'.out]; rfl, hB⟩
theorem few_long (sa : Option Addr) (sn sc : Nat) (up : Bool) (seed room : Int) (v : Value) (l : List Op) (w : World) (hsn : sn ≤ 9223372036854775807) (hv : Script w v l) (hbig : 60 < l.length) :
    Calls Tryz.prog 7 #[.agg #[.slice sa sn sc, .bool up, .int .u64 seed, .int .i64 room], v] w fun e w' => e = .returned (.bool false) ∧ Below w.heap.size w w' := by
  obtain ⟨a, cap, rfl, hm, hs, hA⟩ := hv
  have hd : decide ((l.length : Int) ≤ 60) = false := decide_eq_false (by omega)
  have hB0 := Lib.hid ((Below.refl w.heap.size w).alloc (Nat.le_refl _) (.cells #[.slice sa sn sc, .bool up, .int .u64 seed, .int .i64 room] 25))
  have hX0 := Lib.hid (Blk.new w 25 #[.slice sa sn sc, .bool up, .int .u64 seed, .int .i64 room])
  clear hs
  go_enter Tryz.func7, Tryz.ntmps7
  go_wp2
  go_loopw [5, 10] (fun nv iv wr => ∃ (k : Nat) (y : Int), k ≤ l.length ∧ iv = .int .i64 k ∧ nv = .int .i64 y ∧ Below w.heap.size w wr ∧ Blk wr w.heap.size 25 #[.slice sa sn sc, .bool up, .int .u64 seed, .int .i64 room]) (fun _ iv _ => l.length - (intOf iv).toNat)
  case atStart => exact ⟨0, 0, by omega, rfl, rfl, hB0.out, hX0.out⟩
  case round =>
    obtain ⟨k, y, hk, rfl, rfl, hB, hX⟩ := hrel
    by_cases hlt : k < l.length
    · obtain ⟨g, o, rfl, hc⟩ := hA (by intro h; subst h; simp at hlt)
      have hx : l[k]? = some l[k] := List.getElem?_eq_getElem hlt
      obtain ⟨d0, d1, d2, d3, d4, d5, d6, d7, d8, d9⟩ := hc k _ hx
      generalize l[k] = p at *
      obtain ⟨p0, p1, p2, p3, ⟨t0, t1, t2, t3, t4, t5⟩⟩ := p
      dsimp only at *
      have d0' := bcells hB d0
      have d1' := bcells hB d1
      have d2' := bcells hB d2
      have d3' := bcells hB d3
      have d4' := bcells hB d4
      have d5' := bcells hB d5
      have d6' := bcells hB d6
      have d7' := bcells hB d7
      have d8' := bcells hB d8
      have d9' := bcells hB d9
      have hsz := hB.size
      have hX' := Lib.hid hX
      clear hc hx hA d0 d1 d2 d3 d4 d5 d6 d7 d8 d9 hX
      go_wp2
      go_roundw
      case rel => exact ⟨k + 1, _, by omega, by go_num, rfl, hB.alloc hB.size _, hX'.out.below ((Below.refl _ _).alloc (Nat.le_refl _) _)⟩
      case measure => simp [intOf]; omega
    · have hk2 : k = l.length := by omega
      subst hk2
      have hnl : ¬ (l.length < l.length) := by omega
      have c0 : wr.cell? ⟨w.heap.size, 0, none⟩ = some (.slice sa sn sc) := (hX.cell 0).trans rfl
      clear hA hX
      by_cases h12 : sn ≤ 12
      · have t12 : decide ((sn : Int) ≤ 12) = true := decide_eq_true (by omega)
        go_wp2
        go_ret
        exact ⟨rfl, hB⟩
      · have t12 : decide ((sn : Int) ≤ 12) = false := decide_eq_false (by omega)
        go_wp2
        go_ret
        exact ⟨rfl, hB⟩
theorem few_any (sa : Option Addr) (sn sc : Nat) (up : Bool) (seed room : Int) (v : Value) (l : List Op) (w : World) (hsn : sn ≤ 9223372036854775807) (hv : Script w v l) :
    Calls Tryz.prog 7 #[.agg #[.slice sa sn sc, .bool up, .int .u64 seed, .int .i64 room], v] w fun e w' => e = .returned (.bool (fewK sn l)) ∧ Below w.heap.size w w' := by
  by_cases h : l.length ≤ 60
  · exact few_short sa sn sc up seed room v l w hsn hv h
  · have e : fewK sn l = false := by unfold fewK; rw [decide_eq_false h]; simp
    rw [e]
    exact few_long sa sn sc up seed room v l w hsn hv (by omega)
variable {w w' : World} {F : Nat → Prop} {b : Nat} {x : Lk}
def DoesQ (F : Nat → Prop) (b : Nat) (w : World) (y : Lk) (a : Ans) (e : Ending) (w' : World) : Prop := e = .returned (Ans.v a) ∧ LTu w F w' b y
theorem does_0 (h : LK w F b x) (nw n : Int) (z tn : ByteArray) (tk : Int) (tu : Bool) (tf ta tb : Int) {M Q : Int} (ho : OkK x M Q) (hM : M + z.size ≤ 1000000000) (hs : x.sent + z.size ≤ 1000000000) :
    Calls Tryz.prog 9 #[ptr b, .agg #[.int .i64 0, .int .i64 nw, .int .i64 n, .string z, .string tn, .int .i64 tk, .bool tu, .int .i64 tf, .int .i64 ta, .int .i64 tb]] w (DoesQ F b w (sendK x nw z) ((putCN x.c nw z, ⟨#[]⟩, 0))) := by
  have hcv := conv_str z
  have hB := (((Below.refl w.heap.size w).alloc (Nat.le_refl _) (.cells #[.int .i64 0, .int .i64 nw, .int .i64 n, .string z, .string tn, .int .i64 tk, .bool tu, .int .i64 tf, .int .i64 ta, .int .i64 tb] 36)).alloc (by simp) (.cells #[.int .i64 0, .string ⟨#[]⟩, .int .i64 0] 38)).alloc (by simp; omega) (.cells #[.int .i64 0, .string ⟨#[]⟩, .int .i64 0] 38)
  have hR := Lib.hid ((Blk.new (w.alloc (.cells #[.int .i64 0, .int .i64 nw, .int .i64 n, .string z, .string tn, .int .i64 tk, .bool tu, .int .i64 tf, .int .i64 ta, .int .i64 tb] 36)) 38 #[.int .i64 0, .string ⟨#[]⟩, .int .i64 0]).below ((Below.refl _ _).alloc (Nat.le_refl _) (.cells #[.int .i64 0, .string ⟨#[]⟩, .int .i64 0] 38)))
  have hA := Lib.hid (Blk.new ((w.alloc (.cells #[.int .i64 0, .int .i64 nw, .int .i64 n, .string z, .string tn, .int .i64 tk, .bool tu, .int .i64 tf, .int .i64 ta, .int .i64 tb] 36)).alloc (.cells #[.int .i64 0, .string ⟨#[]⟩, .int .i64 0] 38)) 38 #[.int .i64 0, .string ⟨#[]⟩, .int .i64 0])
  have H := Lib.hid (h.below hB)
  have HB := Lib.hid hB
  have hlt := fun j (hj : F j) => Lib.hid (h.lt hj)
  have hBy := Lib.hid (bytes_below (((w.alloc (.cells #[.int .i64 0, .int .i64 nw, .int .i64 n, .string z, .string tn, .int .i64 tk, .bool tu, .int .i64 tf, .int .i64 ta, .int .i64 tb] 36)).alloc (.cells #[.int .i64 0, .string ⟨#[]⟩, .int .i64 0] 38)).alloc (.cells #[.int .i64 0, .string ⟨#[]⟩, .int .i64 0] 38)) z)
  have hBS := Lib.hid (bytes_new (((w.alloc (.cells #[.int .i64 0, .int .i64 nw, .int .i64 n, .string z, .string tn, .int .i64 tk, .bool tu, .int .i64 tf, .int .i64 ta, .int .i64 tb] 36)).alloc (.cells #[.int .i64 0, .string ⟨#[]⟩, .int .i64 0] 38)).alloc (.cells #[.int .i64 0, .string ⟨#[]⟩, .int .i64 0] 38)) z)
  have hcap3 := fun (W : World) => grownCap_ge W z.size 0 5
  have hlt3 : (((w.alloc (.cells #[.int .i64 0, .int .i64 nw, .int .i64 n, .string z, .string tn, .int .i64 tk, .bool tu, .int .i64 tf, .int .i64 ta, .int .i64 tb] 36)).alloc (.cells #[.int .i64 0, .string ⟨#[]⟩, .int .i64 0] 38)).alloc (.cells #[.int .i64 0, .string ⟨#[]⟩, .int .i64 0] 38)).heap.size = w.heap.size + 3 := by simp
  clear h hB
  go_enter Tryz.func9, Tryz.ntmps9
  go_wp2_with fail
  refine (kSend_any (H.out.below hBy.out) ho nw _ _ z (hcap3 _) (by simpa using hBS.out) (fun g o e hF => by have := (hlt g hF).out; injection e with e; injection e with e; subst e; (try simp at this); omega) hM hs).mono ?_
  rintro e w1 ⟨rfl, hTD⟩
  obtain ⟨F', hC, hD, hS⟩ := hTD
  have hdB := Lib.hid ((Did.of_below (F := F) hBy.out).trans (Stem.refl _ _) hD)
  have qT := Lib.hid (show Stem F F' w from (Stem.refl F w).trans (Nat.le_trans HB.out.size hBy.out.size) hS)
  have qS := Lib.hid hC
  have qD := Lib.hid (show Did F w w1 from (Did.of_below HB.out).trans (Stem.refl _ _) hdB.out)
  have qA := Lib.hid (hA.out.did hdB.out (fun c => by have := (hlt _ c).out; simp at this; omega))
  have qR := Lib.hid (hR.out.did hdB.out (fun c => by have := (hlt _ c).out; simp at this; omega))
  rw [World.size_alloc, World.size_alloc] at qA
  rw [World.size_alloc] at qR
  clear hA hR H HB hlt hC hD hS hBy hBS hcap3 hcv hdB hlt3
  have a0 : w1.cell? ⟨w.heap.size + 2, 0, none⟩ = some (.int .i64 0) := (qA.out.cell 0).trans rfl
  have a1 : w1.cell? ⟨w.heap.size + 2, 1, none⟩ = some (.string ⟨#[]⟩) := (qA.out.cell 1).trans rfl
  have a2 : w1.cell? ⟨w.heap.size + 2, 2, none⟩ = some (.int .i64 0) := (qA.out.cell 2).trans rfl
  have r0 : w1.cell? ⟨w.heap.size + 1, 0, none⟩ = some (.int .i64 0) := (qR.out.cell 0).trans rfl
  have r1 : w1.cell? ⟨w.heap.size + 1, 1, none⟩ = some (.string ⟨#[]⟩) := (qR.out.cell 1).trans rfl
  have r2 : w1.cell? ⟨w.heap.size + 1, 2, none⟩ = some (.int .i64 0) := (qR.out.cell 2).trans rfl
  have fa0 := qA.out.free 0
  have fa1 := qA.out.free 1
  have fa2 := qA.out.free 2
  have fr0 := qR.out.free 0
  have fr1 := qR.out.free 1
  have fr2 := qR.out.free 2
  have la : w.heap.size + 2 < w1.heap.size := qA.out.lt
  have lr : w.heap.size + 1 < w1.heap.size := qR.out.lt
  go_wp2
  refine bodyPost_ret (v := (.agg #[.int .i64 (putCN x.c nw z), .string ⟨#[]⟩, .int .i64 0])) (by simp [results, Tryz.results9, go_sem, a0, a1, a2, r0, r1, r2, la, lr]) rfl ⟨rfl, F', ?_, ?_, qT.out⟩
  · have s0 := (qS.out.far qA.out (by decide) 0 (.int .i64 (putCN x.c nw z)))
    have b0 := (qR.out.far (p := ⟨w.heap.size + 2, 0, none⟩) (by show w.heap.size + 1 ≠ w.heap.size + 2; omega) (.int .i64 (putCN x.c nw z)))
    have s1 := s0.far b0 (by decide) 0 (.int .i64 (putCN x.c nw z))
    have b1 := b0.set_ 0 (.int .i64 (putCN x.c nw z))
    have s2 := s1.far b1 (by decide) 1 (.string ⟨#[]⟩)
    have b2 := b1.set_ 1 (.string ⟨#[]⟩)
    exact s2.far b2 (by decide) 2 (.int .i64 0)
  · exact ((((qD.out.setCell (p := ⟨w.heap.size + 2, 0, none⟩) (.inr (by show w.heap.size ≤ w.heap.size + 2; omega)) (.int .i64 (putCN x.c nw z)))).setCell (p := ⟨w.heap.size + 1, 0, none⟩) (.inr (by show w.heap.size ≤ w.heap.size + 1; omega)) _).setCell (p := ⟨w.heap.size + 1, 1, none⟩) (.inr (by show w.heap.size ≤ w.heap.size + 1; omega)) _).setCell (p := ⟨w.heap.size + 1, 2, none⟩) (.inr (by show w.heap.size ≤ w.heap.size + 1; omega)) _
theorem does_1 (h : LK w F b x) (nw n : Int) (z tn : ByteArray) (tk : Int) (tu : Bool) (tf ta tb : Int) {M Q : Int} (ho : OkK x M Q) :
    Calls Tryz.prog 9 #[ptr b, .agg #[.int .i64 1, .int .i64 nw, .int .i64 n, .string z, .string tn, .int .i64 tk, .bool tu, .int .i64 tf, .int .i64 ta, .int .i64 tb]] w (DoesQ F b w (finishK x nw) ((0, ⟨#[]⟩, 0))) := by
  have hB := (((Below.refl w.heap.size w).alloc (Nat.le_refl _) (.cells #[.int .i64 1, .int .i64 nw, .int .i64 n, .string z, .string tn, .int .i64 tk, .bool tu, .int .i64 tf, .int .i64 ta, .int .i64 tb] 36)).alloc (by simp) (.cells #[.int .i64 0, .string ⟨#[]⟩, .int .i64 0] 38)).alloc (by simp; omega) (.cells #[.int .i64 0, .string ⟨#[]⟩, .int .i64 0] 38)
  have hR := Lib.hid ((Blk.new (w.alloc (.cells #[.int .i64 1, .int .i64 nw, .int .i64 n, .string z, .string tn, .int .i64 tk, .bool tu, .int .i64 tf, .int .i64 ta, .int .i64 tb] 36)) 38 #[.int .i64 0, .string ⟨#[]⟩, .int .i64 0]).below ((Below.refl _ _).alloc (Nat.le_refl _) (.cells #[.int .i64 0, .string ⟨#[]⟩, .int .i64 0] 38)))
  have hA := Lib.hid (Blk.new ((w.alloc (.cells #[.int .i64 1, .int .i64 nw, .int .i64 n, .string z, .string tn, .int .i64 tk, .bool tu, .int .i64 tf, .int .i64 ta, .int .i64 tb] 36)).alloc (.cells #[.int .i64 0, .string ⟨#[]⟩, .int .i64 0] 38)) 38 #[.int .i64 0, .string ⟨#[]⟩, .int .i64 0])
  have H := Lib.hid (h.below hB)
  have HB := Lib.hid hB
  have hlt := fun j (hj : F j) => Lib.hid (h.lt hj)
  clear h hB
  go_enter Tryz.func9, Tryz.ntmps9
  go_wp2_with fail
  refine (kFinish_any H.out ho nw).mono ?_
  rintro e w1 ⟨rfl, hTD⟩
  obtain ⟨F', hC, hD, hS⟩ := hTD
  have qT := Lib.hid ((Stem.refl F w).trans HB.out.size hS)
  have qS := Lib.hid hC
  have qD := Lib.hid (show Did F w w1 from (Did.of_below HB.out).trans (Stem.refl _ _) hD)
  have qA := Lib.hid (hA.out.did hD (fun c => by have := (hlt _ c).out; simp at this; omega))
  have qR := Lib.hid (hR.out.did hD (fun c => by have := (hlt _ c).out; simp at this; omega))
  rw [World.size_alloc, World.size_alloc] at qA
  rw [World.size_alloc] at qR
  clear hA hR H HB hlt hC hD hS
  have a0 : w1.cell? ⟨w.heap.size + 2, 0, none⟩ = some (.int .i64 0) := (qA.out.cell 0).trans rfl
  have a1 : w1.cell? ⟨w.heap.size + 2, 1, none⟩ = some (.string ⟨#[]⟩) := (qA.out.cell 1).trans rfl
  have a2 : w1.cell? ⟨w.heap.size + 2, 2, none⟩ = some (.int .i64 0) := (qA.out.cell 2).trans rfl
  have r0 : w1.cell? ⟨w.heap.size + 1, 0, none⟩ = some (.int .i64 0) := (qR.out.cell 0).trans rfl
  have r1 : w1.cell? ⟨w.heap.size + 1, 1, none⟩ = some (.string ⟨#[]⟩) := (qR.out.cell 1).trans rfl
  have r2 : w1.cell? ⟨w.heap.size + 1, 2, none⟩ = some (.int .i64 0) := (qR.out.cell 2).trans rfl
  have fa0 := qA.out.free 0
  have fa1 := qA.out.free 1
  have fa2 := qA.out.free 2
  have fr0 := qR.out.free 0
  have fr1 := qR.out.free 1
  have fr2 := qR.out.free 2
  have la : w.heap.size + 2 < w1.heap.size := qA.out.lt
  have lr : w.heap.size + 1 < w1.heap.size := qR.out.lt
  go_wp2
  refine bodyPost_ret (v := (.agg #[.int .i64 0, .string ⟨#[]⟩, .int .i64 0])) (by simp [results, Tryz.results9, go_sem, a0, a1, a2, r0, r1, r2, la, lr]) rfl ⟨rfl, F', ?_, ?_, qT.out⟩
  · have s0 := qS.out
    have b0 := qR.out
    have s1 := s0.far b0 (by decide) 0 (.int .i64 0)
    have b1 := b0.set_ 0 (.int .i64 0)
    have s2 := s1.far b1 (by decide) 1 (.string ⟨#[]⟩)
    have b2 := b1.set_ 1 (.string ⟨#[]⟩)
    exact s2.far b2 (by decide) 2 (.int .i64 0)
  · exact (((qD.out).setCell (p := ⟨w.heap.size + 1, 0, none⟩) (.inr (by show w.heap.size ≤ w.heap.size + 1; omega)) _).setCell (p := ⟨w.heap.size + 1, 1, none⟩) (.inr (by show w.heap.size ≤ w.heap.size + 1; omega)) _).setCell (p := ⟨w.heap.size + 1, 2, none⟩) (.inr (by show w.heap.size ≤ w.heap.size + 1; omega)) _
theorem does_2 (h : LK w F b x) (nw n : Int) (z tn : ByteArray) (tk : Int) (tu : Bool) (tf ta tb : Int) {M Q : Int} (ho : OkK x M Q) (hM : M ≤ 1000000000) :
    Calls Tryz.prog 9 #[ptr b, .agg #[.int .i64 2, .int .i64 nw, .int .i64 n, .string z, .string tn, .int .i64 tk, .bool tu, .int .i64 tf, .int .i64 ta, .int .i64 tb]] w (DoesQ F b w (cutK x) ((0, ⟨#[]⟩, 0))) := by
  have hB := (((Below.refl w.heap.size w).alloc (Nat.le_refl _) (.cells #[.int .i64 2, .int .i64 nw, .int .i64 n, .string z, .string tn, .int .i64 tk, .bool tu, .int .i64 tf, .int .i64 ta, .int .i64 tb] 36)).alloc (by simp) (.cells #[.int .i64 0, .string ⟨#[]⟩, .int .i64 0] 38)).alloc (by simp; omega) (.cells #[.int .i64 0, .string ⟨#[]⟩, .int .i64 0] 38)
  have hR := Lib.hid ((Blk.new (w.alloc (.cells #[.int .i64 2, .int .i64 nw, .int .i64 n, .string z, .string tn, .int .i64 tk, .bool tu, .int .i64 tf, .int .i64 ta, .int .i64 tb] 36)) 38 #[.int .i64 0, .string ⟨#[]⟩, .int .i64 0]).below ((Below.refl _ _).alloc (Nat.le_refl _) (.cells #[.int .i64 0, .string ⟨#[]⟩, .int .i64 0] 38)))
  have hA := Lib.hid (Blk.new ((w.alloc (.cells #[.int .i64 2, .int .i64 nw, .int .i64 n, .string z, .string tn, .int .i64 tk, .bool tu, .int .i64 tf, .int .i64 ta, .int .i64 tb] 36)).alloc (.cells #[.int .i64 0, .string ⟨#[]⟩, .int .i64 0] 38)) 38 #[.int .i64 0, .string ⟨#[]⟩, .int .i64 0])
  have H := Lib.hid (h.below hB)
  have HB := Lib.hid hB
  have hlt := fun j (hj : F j) => Lib.hid (h.lt hj)
  clear h hB
  go_enter Tryz.func9, Tryz.ntmps9
  go_wp2_with fail
  refine (kCut_any H.out ho hM nw).mono ?_
  rintro e w1 ⟨rfl, hTD⟩
  obtain ⟨F', hC, hD, hS⟩ := hTD
  have qT := Lib.hid ((Stem.refl F w).trans HB.out.size hS)
  have qS := Lib.hid hC
  have qD := Lib.hid (show Did F w w1 from (Did.of_below HB.out).trans (Stem.refl _ _) hD)
  have qA := Lib.hid (hA.out.did hD (fun c => by have := (hlt _ c).out; simp at this; omega))
  have qR := Lib.hid (hR.out.did hD (fun c => by have := (hlt _ c).out; simp at this; omega))
  rw [World.size_alloc, World.size_alloc] at qA
  rw [World.size_alloc] at qR
  clear hA hR H HB hlt hC hD hS
  have a0 : w1.cell? ⟨w.heap.size + 2, 0, none⟩ = some (.int .i64 0) := (qA.out.cell 0).trans rfl
  have a1 : w1.cell? ⟨w.heap.size + 2, 1, none⟩ = some (.string ⟨#[]⟩) := (qA.out.cell 1).trans rfl
  have a2 : w1.cell? ⟨w.heap.size + 2, 2, none⟩ = some (.int .i64 0) := (qA.out.cell 2).trans rfl
  have r0 : w1.cell? ⟨w.heap.size + 1, 0, none⟩ = some (.int .i64 0) := (qR.out.cell 0).trans rfl
  have r1 : w1.cell? ⟨w.heap.size + 1, 1, none⟩ = some (.string ⟨#[]⟩) := (qR.out.cell 1).trans rfl
  have r2 : w1.cell? ⟨w.heap.size + 1, 2, none⟩ = some (.int .i64 0) := (qR.out.cell 2).trans rfl
  have fa0 := qA.out.free 0
  have fa1 := qA.out.free 1
  have fa2 := qA.out.free 2
  have fr0 := qR.out.free 0
  have fr1 := qR.out.free 1
  have fr2 := qR.out.free 2
  have la : w.heap.size + 2 < w1.heap.size := qA.out.lt
  have lr : w.heap.size + 1 < w1.heap.size := qR.out.lt
  go_wp2
  refine bodyPost_ret (v := (.agg #[.int .i64 0, .string ⟨#[]⟩, .int .i64 0])) (by simp [results, Tryz.results9, go_sem, a0, a1, a2, r0, r1, r2, la, lr]) rfl ⟨rfl, F', ?_, ?_, qT.out⟩
  · have s0 := qS.out
    have b0 := qR.out
    have s1 := s0.far b0 (by decide) 0 (.int .i64 0)
    have b1 := b0.set_ 0 (.int .i64 0)
    have s2 := s1.far b1 (by decide) 1 (.string ⟨#[]⟩)
    have b2 := b1.set_ 1 (.string ⟨#[]⟩)
    exact s2.far b2 (by decide) 2 (.int .i64 0)
  · exact (((qD.out).setCell (p := ⟨w.heap.size + 1, 0, none⟩) (.inr (by show w.heap.size ≤ w.heap.size + 1; omega)) _).setCell (p := ⟨w.heap.size + 1, 1, none⟩) (.inr (by show w.heap.size ≤ w.heap.size + 1; omega)) _).setCell (p := ⟨w.heap.size + 1, 2, none⟩) (.inr (by show w.heap.size ≤ w.heap.size + 1; omega)) _
theorem does_3 (h : LK w F b x) (nw n : Int) (z tn : ByteArray) (tk : Int) (tu : Bool) (tf ta tb : Int) {M Q : Int} (ho : OkK x M Q) (hM : M ≤ 1000000) (hQ : Q ≤ 100000000) (hg : x.got + M ≤ 1000000000) :
    Calls Tryz.prog 9 #[ptr b, .agg #[.int .i64 3, .int .i64 nw, .int .i64 n, .string z, .string tn, .int .i64 tk, .bool tu, .int .i64 tf, .int .i64 ta, .int .i64 tb]] w (DoesQ F b w (stepK x nw n) ((stepE x nw n, stepB x nw n, 0))) := by
  have hB := (((Below.refl w.heap.size w).alloc (Nat.le_refl _) (.cells #[.int .i64 3, .int .i64 nw, .int .i64 n, .string z, .string tn, .int .i64 tk, .bool tu, .int .i64 tf, .int .i64 ta, .int .i64 tb] 36)).alloc (by simp) (.cells #[.int .i64 0, .string ⟨#[]⟩, .int .i64 0] 38)).alloc (by simp; omega) (.cells #[.int .i64 0, .string ⟨#[]⟩, .int .i64 0] 38)
  have hR := Lib.hid ((Blk.new (w.alloc (.cells #[.int .i64 3, .int .i64 nw, .int .i64 n, .string z, .string tn, .int .i64 tk, .bool tu, .int .i64 tf, .int .i64 ta, .int .i64 tb] 36)) 38 #[.int .i64 0, .string ⟨#[]⟩, .int .i64 0]).below ((Below.refl _ _).alloc (Nat.le_refl _) (.cells #[.int .i64 0, .string ⟨#[]⟩, .int .i64 0] 38)))
  have hA := Lib.hid (Blk.new ((w.alloc (.cells #[.int .i64 3, .int .i64 nw, .int .i64 n, .string z, .string tn, .int .i64 tk, .bool tu, .int .i64 tf, .int .i64 ta, .int .i64 tb] 36)).alloc (.cells #[.int .i64 0, .string ⟨#[]⟩, .int .i64 0] 38)) 38 #[.int .i64 0, .string ⟨#[]⟩, .int .i64 0])
  have H := Lib.hid (h.below hB)
  have HB := Lib.hid hB
  have hlt := fun j (hj : F j) => Lib.hid (h.lt hj)
  clear h hB
  go_enter Tryz.func9, Tryz.ntmps9
  go_wp2_with fail
  refine (kStep_any H.out ho hM hQ hg nw n).mono ?_
  rintro e w1 ⟨A, cap, F1, rfl, hbs, hnw, hk1, hk2, hk3, hk4⟩
  have hcv := conv_bytes cap hbs
  have hTD : LTu (((w.alloc (.cells #[.int .i64 3, .int .i64 nw, .int .i64 n, .string z, .string tn, .int .i64 tk, .bool tu, .int .i64 tf, .int .i64 ta, .int .i64 tb] 36)).alloc (.cells #[.int .i64 0, .string ⟨#[]⟩, .int .i64 0] 38)).alloc (.cells #[.int .i64 0, .string ⟨#[]⟩, .int .i64 0] 38)) F w1 b (stepK x nw n) := ⟨F1, hk1, hk2, hk3⟩
  clear hbs hnw hk1 hk2 hk3 hk4
  obtain ⟨F', hC, hD, hS⟩ := hTD
  have qT := Lib.hid ((Stem.refl F w).trans HB.out.size hS)
  have qS := Lib.hid hC
  have qD := Lib.hid (show Did F w w1 from (Did.of_below HB.out).trans (Stem.refl _ _) hD)
  have qA := Lib.hid (hA.out.did hD (fun c => by have := (hlt _ c).out; simp at this; omega))
  have qR := Lib.hid (hR.out.did hD (fun c => by have := (hlt _ c).out; simp at this; omega))
  rw [World.size_alloc, World.size_alloc] at qA
  rw [World.size_alloc] at qR
  clear hA hR H HB hlt hC hD hS
  have a0 : w1.cell? ⟨w.heap.size + 2, 0, none⟩ = some (.int .i64 0) := (qA.out.cell 0).trans rfl
  have a1 : w1.cell? ⟨w.heap.size + 2, 1, none⟩ = some (.string ⟨#[]⟩) := (qA.out.cell 1).trans rfl
  have a2 : w1.cell? ⟨w.heap.size + 2, 2, none⟩ = some (.int .i64 0) := (qA.out.cell 2).trans rfl
  have r0 : w1.cell? ⟨w.heap.size + 1, 0, none⟩ = some (.int .i64 0) := (qR.out.cell 0).trans rfl
  have r1 : w1.cell? ⟨w.heap.size + 1, 1, none⟩ = some (.string ⟨#[]⟩) := (qR.out.cell 1).trans rfl
  have r2 : w1.cell? ⟨w.heap.size + 1, 2, none⟩ = some (.int .i64 0) := (qR.out.cell 2).trans rfl
  have fa0 := qA.out.free 0
  have fa1 := qA.out.free 1
  have fa2 := qA.out.free 2
  have fr0 := qR.out.free 0
  have fr1 := qR.out.free 1
  have fr2 := qR.out.free 2
  have la : w.heap.size + 2 < w1.heap.size := qA.out.lt
  have lr : w.heap.size + 1 < w1.heap.size := qR.out.lt
  go_wp2
  refine bodyPost_ret (v := (.agg #[.int .i64 (stepE x nw n), .string (stepB x nw n), .int .i64 0])) (by simp [results, Tryz.results9, go_sem, a0, a1, a2, r0, r1, r2, la, lr]) rfl ⟨rfl, F', ?_, ?_, qT.out⟩
  · have s0 := ((qS.out.far qA.out (by decide) 1 (.string (stepB x nw n))).far (qA.out.set_ 1 (.string (stepB x nw n))) (by decide) 0 (.int .i64 (stepE x nw n)))
    have b0 := ((qR.out.far (p := ⟨w.heap.size + 2, 1, none⟩) (by show w.heap.size + 1 ≠ w.heap.size + 2; omega) (.string (stepB x nw n))).far (p := ⟨w.heap.size + 2, 0, none⟩) (by show w.heap.size + 1 ≠ w.heap.size + 2; omega) (.int .i64 (stepE x nw n)))
    have s1 := s0.far b0 (by decide) 0 (.int .i64 (stepE x nw n))
    have b1 := b0.set_ 0 (.int .i64 (stepE x nw n))
    have s2 := s1.far b1 (by decide) 1 (.string (stepB x nw n))
    have b2 := b1.set_ 1 (.string (stepB x nw n))
    exact s2.far b2 (by decide) 2 (.int .i64 0)
  · exact (((((qD.out.setCell (p := ⟨w.heap.size + 2, 1, none⟩) (.inr (by show w.heap.size ≤ w.heap.size + 2; omega)) (.string (stepB x nw n))).setCell (p := ⟨w.heap.size + 2, 0, none⟩) (.inr (by show w.heap.size ≤ w.heap.size + 2; omega)) (.int .i64 (stepE x nw n)))).setCell (p := ⟨w.heap.size + 1, 0, none⟩) (.inr (by show w.heap.size ≤ w.heap.size + 1; omega)) _).setCell (p := ⟨w.heap.size + 1, 1, none⟩) (.inr (by show w.heap.size ≤ w.heap.size + 1; omega)) _).setCell (p := ⟨w.heap.size + 1, 2, none⟩) (.inr (by show w.heap.size ≤ w.heap.size + 1; omega)) _
theorem does_4 (h : LK w F b x) (nw n : Int) (z tn : ByteArray) (tk : Int) (tu : Bool) (tf ta tb : Int) {M Q : Int} (ho : OkK x M Q) :
    Calls Tryz.prog 9 #[ptr b, .agg #[.int .i64 4, .int .i64 nw, .int .i64 n, .string z, .string tn, .int .i64 tk, .bool tu, .int .i64 tf, .int .i64 ta, .int .i64 tb]] w (DoesQ F b w (addK x ⟨tn, tk, tu, tf, ta, tb⟩ nw) ((0, ⟨#[]⟩, addE x ⟨tn, tk, tu, tf, ta, tb⟩))) := by
  have hB := (((Below.refl w.heap.size w).alloc (Nat.le_refl _) (.cells #[.int .i64 4, .int .i64 nw, .int .i64 n, .string z, .string tn, .int .i64 tk, .bool tu, .int .i64 tf, .int .i64 ta, .int .i64 tb] 36)).alloc (by simp) (.cells #[.int .i64 0, .string ⟨#[]⟩, .int .i64 0] 38)).alloc (by simp; omega) (.cells #[.int .i64 0, .string ⟨#[]⟩, .int .i64 0] 38)
  have hR := Lib.hid ((Blk.new (w.alloc (.cells #[.int .i64 4, .int .i64 nw, .int .i64 n, .string z, .string tn, .int .i64 tk, .bool tu, .int .i64 tf, .int .i64 ta, .int .i64 tb] 36)) 38 #[.int .i64 0, .string ⟨#[]⟩, .int .i64 0]).below ((Below.refl _ _).alloc (Nat.le_refl _) (.cells #[.int .i64 0, .string ⟨#[]⟩, .int .i64 0] 38)))
  have hA := Lib.hid (Blk.new ((w.alloc (.cells #[.int .i64 4, .int .i64 nw, .int .i64 n, .string z, .string tn, .int .i64 tk, .bool tu, .int .i64 tf, .int .i64 ta, .int .i64 tb] 36)).alloc (.cells #[.int .i64 0, .string ⟨#[]⟩, .int .i64 0] 38)) 38 #[.int .i64 0, .string ⟨#[]⟩, .int .i64 0])
  have H := Lib.hid (h.below hB)
  have HB := Lib.hid hB
  have hlt := fun j (hj : F j) => Lib.hid (h.lt hj)
  clear h hB
  go_enter Tryz.func9, Tryz.ntmps9
  go_wp2_with fail
  refine (kAdd_any H.out ho ⟨tn, tk, tu, tf, ta, tb⟩ nw).mono ?_
  rintro e w1 ⟨rfl, hTD⟩
  obtain ⟨F', hC, hD, hS⟩ := hTD
  have qT := Lib.hid ((Stem.refl F w).trans HB.out.size hS)
  have qS := Lib.hid hC
  have qD := Lib.hid (show Did F w w1 from (Did.of_below HB.out).trans (Stem.refl _ _) hD)
  have qA := Lib.hid (hA.out.did hD (fun c => by have := (hlt _ c).out; simp at this; omega))
  have qR := Lib.hid (hR.out.did hD (fun c => by have := (hlt _ c).out; simp at this; omega))
  rw [World.size_alloc, World.size_alloc] at qA
  rw [World.size_alloc] at qR
  clear hA hR H HB hlt hC hD hS
  have a0 : w1.cell? ⟨w.heap.size + 2, 0, none⟩ = some (.int .i64 0) := (qA.out.cell 0).trans rfl
  have a1 : w1.cell? ⟨w.heap.size + 2, 1, none⟩ = some (.string ⟨#[]⟩) := (qA.out.cell 1).trans rfl
  have a2 : w1.cell? ⟨w.heap.size + 2, 2, none⟩ = some (.int .i64 0) := (qA.out.cell 2).trans rfl
  have r0 : w1.cell? ⟨w.heap.size + 1, 0, none⟩ = some (.int .i64 0) := (qR.out.cell 0).trans rfl
  have r1 : w1.cell? ⟨w.heap.size + 1, 1, none⟩ = some (.string ⟨#[]⟩) := (qR.out.cell 1).trans rfl
  have r2 : w1.cell? ⟨w.heap.size + 1, 2, none⟩ = some (.int .i64 0) := (qR.out.cell 2).trans rfl
  have fa0 := qA.out.free 0
  have fa1 := qA.out.free 1
  have fa2 := qA.out.free 2
  have fr0 := qR.out.free 0
  have fr1 := qR.out.free 1
  have fr2 := qR.out.free 2
  have la : w.heap.size + 2 < w1.heap.size := qA.out.lt
  have lr : w.heap.size + 1 < w1.heap.size := qR.out.lt
  go_wp2
  refine bodyPost_ret (v := (.agg #[.int .i64 0, .string ⟨#[]⟩, .int .i64 (addE x ⟨tn, tk, tu, tf, ta, tb⟩)])) (by simp [results, Tryz.results9, go_sem, a0, a1, a2, r0, r1, r2, la, lr]) rfl ⟨rfl, F', ?_, ?_, qT.out⟩
  · have s0 := (qS.out.far qA.out (by decide) 2 (.int .i64 (addE x ⟨tn, tk, tu, tf, ta, tb⟩)))
    have b0 := (qR.out.far (p := ⟨w.heap.size + 2, 2, none⟩) (by show w.heap.size + 1 ≠ w.heap.size + 2; omega) (.int .i64 (addE x ⟨tn, tk, tu, tf, ta, tb⟩)))
    have s1 := s0.far b0 (by decide) 0 (.int .i64 0)
    have b1 := b0.set_ 0 (.int .i64 0)
    have s2 := s1.far b1 (by decide) 1 (.string ⟨#[]⟩)
    have b2 := b1.set_ 1 (.string ⟨#[]⟩)
    exact s2.far b2 (by decide) 2 (.int .i64 (addE x ⟨tn, tk, tu, tf, ta, tb⟩))
  · exact ((((qD.out.setCell (p := ⟨w.heap.size + 2, 2, none⟩) (.inr (by show w.heap.size ≤ w.heap.size + 2; omega)) (.int .i64 (addE x ⟨tn, tk, tu, tf, ta, tb⟩)))).setCell (p := ⟨w.heap.size + 1, 0, none⟩) (.inr (by show w.heap.size ≤ w.heap.size + 1; omega)) _).setCell (p := ⟨w.heap.size + 1, 1, none⟩) (.inr (by show w.heap.size ≤ w.heap.size + 1; omega)) _).setCell (p := ⟨w.heap.size + 1, 2, none⟩) (.inr (by show w.heap.size ≤ w.heap.size + 1; omega)) _
theorem does_5 (h : LK w F b x) (nw n : Int) (z tn : ByteArray) (tk : Int) (tu : Bool) (tf ta tb : Int) {M Q : Int} (ho : OkK x M Q) (hM : M ≤ 1000000000) :
    Calls Tryz.prog 9 #[ptr b, .agg #[.int .i64 5, .int .i64 nw, .int .i64 n, .string z, .string tn, .int .i64 tk, .bool tu, .int .i64 tf, .int .i64 ta, .int .i64 tb]] w (DoesQ F b w (dropK x z nw) ((0, ⟨#[]⟩, dropE x z))) := by
  have hB := (((Below.refl w.heap.size w).alloc (Nat.le_refl _) (.cells #[.int .i64 5, .int .i64 nw, .int .i64 n, .string z, .string tn, .int .i64 tk, .bool tu, .int .i64 tf, .int .i64 ta, .int .i64 tb] 36)).alloc (by simp) (.cells #[.int .i64 0, .string ⟨#[]⟩, .int .i64 0] 38)).alloc (by simp; omega) (.cells #[.int .i64 0, .string ⟨#[]⟩, .int .i64 0] 38)
  have hR := Lib.hid ((Blk.new (w.alloc (.cells #[.int .i64 5, .int .i64 nw, .int .i64 n, .string z, .string tn, .int .i64 tk, .bool tu, .int .i64 tf, .int .i64 ta, .int .i64 tb] 36)) 38 #[.int .i64 0, .string ⟨#[]⟩, .int .i64 0]).below ((Below.refl _ _).alloc (Nat.le_refl _) (.cells #[.int .i64 0, .string ⟨#[]⟩, .int .i64 0] 38)))
  have hA := Lib.hid (Blk.new ((w.alloc (.cells #[.int .i64 5, .int .i64 nw, .int .i64 n, .string z, .string tn, .int .i64 tk, .bool tu, .int .i64 tf, .int .i64 ta, .int .i64 tb] 36)).alloc (.cells #[.int .i64 0, .string ⟨#[]⟩, .int .i64 0] 38)) 38 #[.int .i64 0, .string ⟨#[]⟩, .int .i64 0])
  have H := Lib.hid (h.below hB)
  have HB := Lib.hid hB
  have hlt := fun j (hj : F j) => Lib.hid (h.lt hj)
  clear h hB
  go_enter Tryz.func9, Tryz.ntmps9
  go_wp2_with fail
  refine (kDrop_any H.out ho hM z nw).mono ?_
  rintro e w1 ⟨rfl, hTD⟩
  obtain ⟨F', hC, hD, hS⟩ := hTD
  have qT := Lib.hid ((Stem.refl F w).trans HB.out.size hS)
  have qS := Lib.hid hC
  have qD := Lib.hid (show Did F w w1 from (Did.of_below HB.out).trans (Stem.refl _ _) hD)
  have qA := Lib.hid (hA.out.did hD (fun c => by have := (hlt _ c).out; simp at this; omega))
  have qR := Lib.hid (hR.out.did hD (fun c => by have := (hlt _ c).out; simp at this; omega))
  rw [World.size_alloc, World.size_alloc] at qA
  rw [World.size_alloc] at qR
  clear hA hR H HB hlt hC hD hS
  have a0 : w1.cell? ⟨w.heap.size + 2, 0, none⟩ = some (.int .i64 0) := (qA.out.cell 0).trans rfl
  have a1 : w1.cell? ⟨w.heap.size + 2, 1, none⟩ = some (.string ⟨#[]⟩) := (qA.out.cell 1).trans rfl
  have a2 : w1.cell? ⟨w.heap.size + 2, 2, none⟩ = some (.int .i64 0) := (qA.out.cell 2).trans rfl
  have r0 : w1.cell? ⟨w.heap.size + 1, 0, none⟩ = some (.int .i64 0) := (qR.out.cell 0).trans rfl
  have r1 : w1.cell? ⟨w.heap.size + 1, 1, none⟩ = some (.string ⟨#[]⟩) := (qR.out.cell 1).trans rfl
  have r2 : w1.cell? ⟨w.heap.size + 1, 2, none⟩ = some (.int .i64 0) := (qR.out.cell 2).trans rfl
  have fa0 := qA.out.free 0
  have fa1 := qA.out.free 1
  have fa2 := qA.out.free 2
  have fr0 := qR.out.free 0
  have fr1 := qR.out.free 1
  have fr2 := qR.out.free 2
  have la : w.heap.size + 2 < w1.heap.size := qA.out.lt
  have lr : w.heap.size + 1 < w1.heap.size := qR.out.lt
  go_wp2
  refine bodyPost_ret (v := (.agg #[.int .i64 0, .string ⟨#[]⟩, .int .i64 (dropE x z)])) (by simp [results, Tryz.results9, go_sem, a0, a1, a2, r0, r1, r2, la, lr]) rfl ⟨rfl, F', ?_, ?_, qT.out⟩
  · have s0 := (qS.out.far qA.out (by decide) 2 (.int .i64 (dropE x z)))
    have b0 := (qR.out.far (p := ⟨w.heap.size + 2, 2, none⟩) (by show w.heap.size + 1 ≠ w.heap.size + 2; omega) (.int .i64 (dropE x z)))
    have s1 := s0.far b0 (by decide) 0 (.int .i64 0)
    have b1 := b0.set_ 0 (.int .i64 0)
    have s2 := s1.far b1 (by decide) 1 (.string ⟨#[]⟩)
    have b2 := b1.set_ 1 (.string ⟨#[]⟩)
    exact s2.far b2 (by decide) 2 (.int .i64 (dropE x z))
  · exact ((((qD.out.setCell (p := ⟨w.heap.size + 2, 2, none⟩) (.inr (by show w.heap.size ≤ w.heap.size + 2; omega)) (.int .i64 (dropE x z)))).setCell (p := ⟨w.heap.size + 1, 0, none⟩) (.inr (by show w.heap.size ≤ w.heap.size + 1; omega)) _).setCell (p := ⟨w.heap.size + 1, 1, none⟩) (.inr (by show w.heap.size ≤ w.heap.size + 1; omega)) _).setCell (p := ⟨w.heap.size + 1, 2, none⟩) (.inr (by show w.heap.size ≤ w.heap.size + 1; omega)) _
theorem does_6 (h : LK w F b x) (nw n : Int) (z tn : ByteArray) (tk : Int) (tu : Bool) (tf ta tb : Int) {M Q : Int} (ho : OkK x M Q) (hM : M ≤ 1000000000) :
    Calls Tryz.prog 9 #[ptr b, .agg #[.int .i64 6, .int .i64 nw, .int .i64 n, .string z, .string tn, .int .i64 tk, .bool tu, .int .i64 tf, .int .i64 ta, .int .i64 tb]] w (DoesQ F b w (chgK x ⟨tn, tk, tu, tf, ta, tb⟩ nw) ((0, ⟨#[]⟩, chgE x ⟨tn, tk, tu, tf, ta, tb⟩))) := by
  have hB := (((Below.refl w.heap.size w).alloc (Nat.le_refl _) (.cells #[.int .i64 6, .int .i64 nw, .int .i64 n, .string z, .string tn, .int .i64 tk, .bool tu, .int .i64 tf, .int .i64 ta, .int .i64 tb] 36)).alloc (by simp) (.cells #[.int .i64 0, .string ⟨#[]⟩, .int .i64 0] 38)).alloc (by simp; omega) (.cells #[.int .i64 0, .string ⟨#[]⟩, .int .i64 0] 38)
  have hR := Lib.hid ((Blk.new (w.alloc (.cells #[.int .i64 6, .int .i64 nw, .int .i64 n, .string z, .string tn, .int .i64 tk, .bool tu, .int .i64 tf, .int .i64 ta, .int .i64 tb] 36)) 38 #[.int .i64 0, .string ⟨#[]⟩, .int .i64 0]).below ((Below.refl _ _).alloc (Nat.le_refl _) (.cells #[.int .i64 0, .string ⟨#[]⟩, .int .i64 0] 38)))
  have hA := Lib.hid (Blk.new ((w.alloc (.cells #[.int .i64 6, .int .i64 nw, .int .i64 n, .string z, .string tn, .int .i64 tk, .bool tu, .int .i64 tf, .int .i64 ta, .int .i64 tb] 36)).alloc (.cells #[.int .i64 0, .string ⟨#[]⟩, .int .i64 0] 38)) 38 #[.int .i64 0, .string ⟨#[]⟩, .int .i64 0])
  have H := Lib.hid (h.below hB)
  have HB := Lib.hid hB
  have hlt := fun j (hj : F j) => Lib.hid (h.lt hj)
  clear h hB
  go_enter Tryz.func9, Tryz.ntmps9
  go_wp2_with fail
  refine (kChange_any H.out ho hM ⟨tn, tk, tu, tf, ta, tb⟩ nw).mono ?_
  rintro e w1 ⟨rfl, hTD⟩
  obtain ⟨F', hC, hD, hS⟩ := hTD
  have qT := Lib.hid ((Stem.refl F w).trans HB.out.size hS)
  have qS := Lib.hid hC
  have qD := Lib.hid (show Did F w w1 from (Did.of_below HB.out).trans (Stem.refl _ _) hD)
  have qA := Lib.hid (hA.out.did hD (fun c => by have := (hlt _ c).out; simp at this; omega))
  have qR := Lib.hid (hR.out.did hD (fun c => by have := (hlt _ c).out; simp at this; omega))
  rw [World.size_alloc, World.size_alloc] at qA
  rw [World.size_alloc] at qR
  clear hA hR H HB hlt hC hD hS
  have a0 : w1.cell? ⟨w.heap.size + 2, 0, none⟩ = some (.int .i64 0) := (qA.out.cell 0).trans rfl
  have a1 : w1.cell? ⟨w.heap.size + 2, 1, none⟩ = some (.string ⟨#[]⟩) := (qA.out.cell 1).trans rfl
  have a2 : w1.cell? ⟨w.heap.size + 2, 2, none⟩ = some (.int .i64 0) := (qA.out.cell 2).trans rfl
  have r0 : w1.cell? ⟨w.heap.size + 1, 0, none⟩ = some (.int .i64 0) := (qR.out.cell 0).trans rfl
  have r1 : w1.cell? ⟨w.heap.size + 1, 1, none⟩ = some (.string ⟨#[]⟩) := (qR.out.cell 1).trans rfl
  have r2 : w1.cell? ⟨w.heap.size + 1, 2, none⟩ = some (.int .i64 0) := (qR.out.cell 2).trans rfl
  have fa0 := qA.out.free 0
  have fa1 := qA.out.free 1
  have fa2 := qA.out.free 2
  have fr0 := qR.out.free 0
  have fr1 := qR.out.free 1
  have fr2 := qR.out.free 2
  have la : w.heap.size + 2 < w1.heap.size := qA.out.lt
  have lr : w.heap.size + 1 < w1.heap.size := qR.out.lt
  go_wp2
  refine bodyPost_ret (v := (.agg #[.int .i64 0, .string ⟨#[]⟩, .int .i64 (chgE x ⟨tn, tk, tu, tf, ta, tb⟩)])) (by simp [results, Tryz.results9, go_sem, a0, a1, a2, r0, r1, r2, la, lr]) rfl ⟨rfl, F', ?_, ?_, qT.out⟩
  · have s0 := (qS.out.far qA.out (by decide) 2 (.int .i64 (chgE x ⟨tn, tk, tu, tf, ta, tb⟩)))
    have b0 := (qR.out.far (p := ⟨w.heap.size + 2, 2, none⟩) (by show w.heap.size + 1 ≠ w.heap.size + 2; omega) (.int .i64 (chgE x ⟨tn, tk, tu, tf, ta, tb⟩)))
    have s1 := s0.far b0 (by decide) 0 (.int .i64 0)
    have b1 := b0.set_ 0 (.int .i64 0)
    have s2 := s1.far b1 (by decide) 1 (.string ⟨#[]⟩)
    have b2 := b1.set_ 1 (.string ⟨#[]⟩)
    exact s2.far b2 (by decide) 2 (.int .i64 (chgE x ⟨tn, tk, tu, tf, ta, tb⟩))
  · exact ((((qD.out.setCell (p := ⟨w.heap.size + 2, 2, none⟩) (.inr (by show w.heap.size ≤ w.heap.size + 2; omega)) (.int .i64 (chgE x ⟨tn, tk, tu, tf, ta, tb⟩)))).setCell (p := ⟨w.heap.size + 1, 0, none⟩) (.inr (by show w.heap.size ≤ w.heap.size + 1; omega)) _).setCell (p := ⟨w.heap.size + 1, 1, none⟩) (.inr (by show w.heap.size ≤ w.heap.size + 1; omega)) _).setCell (p := ⟨w.heap.size + 1, 2, none⟩) (.inr (by show w.heap.size ≤ w.heap.size + 1; omega)) _
theorem does_else (h : LK w F b x) (kd : Int) (nw n : Int) (z tn : ByteArray) (tk : Int) (tu : Bool) (tf ta tb : Int) (h0 : kd ≠ 0) (h1 : kd ≠ 1) (h2 : kd ≠ 2) (h3 : kd ≠ 3) (h4 : kd ≠ 4) (h5 : kd ≠ 5) (h6 : kd ≠ 6) :
    Calls Tryz.prog 9 #[ptr b, .agg #[.int .i64 kd, .int .i64 nw, .int .i64 n, .string z, .string tn, .int .i64 tk, .bool tu, .int .i64 tf, .int .i64 ta, .int .i64 tb]] w (DoesQ F b w (x) ((0, ⟨#[]⟩, 0))) := by
  have d0 : (kd == 0) = false := by simpa using h0
  have d1 : (kd == 1) = false := by simpa using h1
  have d2 : (kd == 2) = false := by simpa using h2
  have d3 : (kd == 3) = false := by simpa using h3
  have d4 : (kd == 4) = false := by simpa using h4
  have d5 : (kd == 5) = false := by simpa using h5
  have d6 : (kd == 6) = false := by simpa using h6
  clear h0 h1 h2 h3 h4 h5 h6
  have hB := (((Below.refl w.heap.size w).alloc (Nat.le_refl _) (.cells #[.int .i64 kd, .int .i64 nw, .int .i64 n, .string z, .string tn, .int .i64 tk, .bool tu, .int .i64 tf, .int .i64 ta, .int .i64 tb] 36)).alloc (by simp) (.cells #[.int .i64 0, .string ⟨#[]⟩, .int .i64 0] 38)).alloc (by simp; omega) (.cells #[.int .i64 0, .string ⟨#[]⟩, .int .i64 0] 38)
  have hR := Lib.hid ((Blk.new (w.alloc (.cells #[.int .i64 kd, .int .i64 nw, .int .i64 n, .string z, .string tn, .int .i64 tk, .bool tu, .int .i64 tf, .int .i64 ta, .int .i64 tb] 36)) 38 #[.int .i64 0, .string ⟨#[]⟩, .int .i64 0]).below ((Below.refl _ _).alloc (Nat.le_refl _) (.cells #[.int .i64 0, .string ⟨#[]⟩, .int .i64 0] 38)))
  have hA := Lib.hid (Blk.new ((w.alloc (.cells #[.int .i64 kd, .int .i64 nw, .int .i64 n, .string z, .string tn, .int .i64 tk, .bool tu, .int .i64 tf, .int .i64 ta, .int .i64 tb] 36)).alloc (.cells #[.int .i64 0, .string ⟨#[]⟩, .int .i64 0] 38)) 38 #[.int .i64 0, .string ⟨#[]⟩, .int .i64 0])
  have H := Lib.hid (h.below hB)
  have HB := Lib.hid hB
  have hlt := fun j (hj : F j) => Lib.hid (h.lt hj)
  clear h hB
  go_enter Tryz.func9, Tryz.ntmps9
  have hF1 := H.out
  have hT := Stem.refl F w
  have qS := Lib.hid hF1
  have qT := Lib.hid hT
  have qD := Lib.hid (Did.of_below (F := F) HB.out)
  clear hA hR H HB hlt hF1 hT
  go_wp2
  exact bodyPost_ret (v := .agg #[.int .i64 0, .string ⟨#[]⟩, .int .i64 0]) (by simp [results, Tryz.results9, go_sem]) rfl ⟨rfl, F, qS.out, qD.out, qT.out⟩
theorem does_any (h : LK w F b x) {M Q : Int} (ho : OkK x M Q) (o : Op) (hM : M + o.s.size ≤ 1000000) (hQ : Q ≤ 100000000) (hs : x.sent ≤ 1000000) (hg : x.got ≤ 1000000) :
    Calls Tryz.prog 9 #[ptr b, .agg #[.int .i64 o.kind, .int .i64 o.now, .int .i64 o.n, .string o.s, .string o.t.name, .int .i64 o.t.kind, .bool o.t.up, .int .i64 o.t.often, .int .i64 o.t.a, .int .i64 o.t.b]] w (DoesQ F b w (doesK x o) (doesA x o)) := by
  have hM0 : 0 ≤ M := by have := ho.c.held; omega
  obtain ⟨kd, nw, n, z, ⟨tn, tk, tu, tf, ta, tb⟩⟩ := o
  unfold doesK doesA
  dsimp only at hM ⊢
  have hM1 : M + z.size ≤ 1000000000 := by omega
  have hM2 : M ≤ 1000000000 := by omega
  have hM3 : M ≤ 1000000 := by omega
  have hs1 : x.sent + z.size ≤ 1000000000 := by omega
  have hg1 : x.got + M ≤ 1000000000 := by omega
  by_cases h0 : kd = 0
  · subst h0; simp only [if_pos]; exact does_0 h nw n z tn tk tu tf ta tb ho hM1 hs1
  by_cases h1 : kd = 1
  · subst h1; exact does_1 h nw n z tn tk tu tf ta tb ho
  by_cases h2 : kd = 2
  · subst h2; exact does_2 h nw n z tn tk tu tf ta tb ho hM2
  by_cases h3 : kd = 3
  · subst h3; exact does_3 h nw n z tn tk tu tf ta tb ho hM3 hQ hg1
  by_cases h4 : kd = 4
  · subst h4; exact does_4 h nw n z tn tk tu tf ta tb ho
  by_cases h5 : kd = 5
  · subst h5; exact does_5 h nw n z tn tk tu tf ta tb ho hM2
  by_cases h6 : kd = 6
  · subst h6; exact does_6 h nw n z tn tk tu tf ta tb ho hM2
  simp only [if_neg h0, if_neg h1, if_neg h2, if_neg h3, if_neg h4, if_neg h5, if_neg h6]
  exact does_else h kd nw n z tn tk tu tf ta tb h0 h1 h2 h3 h4 h5 h6
end Go.Proofs.YtoiibmcbjjnpbaaGreat.Link
namespace Go.Proofs.YtoiibmcbjjnpbaaGreat.Link
open Go.RowKit Mem Tick Cargo Toxic Stage Chain
set_option maxRecDepth 100000
set_option linter.unusedVariables false
set_option linter.unusedSimpArgs false
variable {w wr w2 w1 : World} {F : Nat → Prop} {b : Nat} {x y : Lk} {M Q : Int}
theorem live_does (h : LiveK w wr b x) (ho : OkK x M Q) (o : Op) (hM : M + o.s.size ≤ 1000000) (hQ : Q ≤ 100000000) (hs : x.sent ≤ 1000000) (hg : x.got ≤ 1000000) :
    Calls Tryz.prog 9 #[ptr b, .agg #[.int .i64 o.kind, .int .i64 o.now, .int .i64 o.n, .string o.s, .string o.t.name, .int .i64 o.t.kind, .bool o.t.up, .int .i64 o.t.often, .int .i64 o.t.a, .int .i64 o.t.b]] wr fun e w2 => e = .returned (Ans.v (doesA x o)) ∧ LiveK w w2 b (doesK x o) ∧ KeepK wr w2 := by
  obtain ⟨F, hC, hF, hB⟩ := h
  exact (does_any hC ho o hM hQ hs hg).mono fun e w2 ⟨he, hT⟩ => ⟨he, LiveK.turn hC hF hB hT⟩
theorem live_counts (h : LiveK w wr b x) (ho : OkK x M Q) (hM : M ≤ 1000000000) :
    Calls Tryz.prog 10 #[ptr b] wr fun e w2 => e = .returned (countsV x) ∧ LiveK w w2 b x ∧ Below wr.heap.size wr w2 := by
  have h' := h
  obtain ⟨F, hC, _⟩ := h
  exact (kCounts_any hC ho hM).mono fun e w2 ⟨he, hb⟩ => ⟨he, h'.below hb, hb⟩
theorem live_done (h : LiveK w wr b x) :
    Calls Tryz.prog 11 #[ptr b] wr fun e w2 => e = .returned (.bool x.done) ∧ wr = w2 := by
  obtain ⟨F, hC, _⟩ := h
  exact kDone_any hC
theorem off_later {A : Option Addr} {s : ByteArray} {F' : Nat → Prop} (hb : BS w A s) (hp : 0 < s.size) (ho : BS.Off A F) (hs : Stem F F' w) : BS.Off A F' := fun g o e hg => by
  rcases hs g hg with q | q
  · exact ho g o e q
  · exact absurd (bs_lt hb hp e) (Nat.not_lt.2 q)
/-! alive -/
def K0 : Lk := link0 true 7 9 0
def K1 : Lk := sendK K0 0 sAB
def K2 : Lk := finishK K1 0
def K3 : Lk := stepK K2 0 1
def K4 : Lk := stepK K3 0 9
def K5 : Lk := stepK K4 0 9
theorem al1 : putCN K0.c 0 sAB = 2 := by kernel_rfl
theorem al2 : stepB K2 0 1 = ⟨#[97]⟩ ∧ stepE K2 0 1 = 0 := by constructor <;> kernel_rfl
theorem al3 : stepB K3 0 9 = ⟨#[98]⟩ ∧ stepE K3 0 9 = 1 := by constructor <;> kernel_rfl
theorem al4 : (stepB K4 0 9).size = 0 ∧ stepE K4 0 9 = 0 := by constructor <;> kernel_rfl
theorem al5 : K5.done = true ∧ K5.sent = 2 ∧ K5.got = 2 ∧ heldL K5.c.l = 0 ∧ K5.c.lost = 0 := by refine ⟨?_, ?_, ?_, ?_, ?_⟩ <;> kernel_rfl
theorem al6 : K0.sent = 0 ∧ K2.got = 0 ∧ K3.got = 1 ∧ K4.got = 2 := by refine ⟨?_, ?_, ?_, ?_⟩ <;> kernel_rfl
theorem ok0 : OkK K0 0 0 := ok_link0 true 7 9 0 (by decide) (by decide) (by decide)
theorem ok1 : OkK K1 2 0 := (ok0.send 0 sAB).more (by decide) (by decide)
theorem ok2 : OkK K2 2 0 := ⟨ok_close ok1.c 0, by show K1.names.length + 2 = (closeC K1.c 0).l.length; rw [close_len]; exact ok1.n, ok1.d0, ok1.d1, ok1.s0, ok1.s1, ok1.g0, ok1.t0⟩
theorem ok3 : OkK K3 2 60 := (ok2.step 0 1).more (by decide) (by decide)
theorem ok4 : OkK K4 2 120 := (ok3.step 0 9).more (by decide) (by decide)
theorem ok5 : OkK K5 2 180 := (ok4.step 0 9).more (by decide) (by decide)
theorem toxs_nil (w : World) : Toxs w (.slice none 0 0) [] := ⟨none, 0, rfl, by decide, Nat.le_refl _, fun h => absurd rfl h⟩
set_option maxHeartbeats 1000000 in
theorem alive_any (w : World) : Calls Tryz.prog 8 #[] w fun e w' => e = .returned (.bool true) ∧ Below w.heap.size w w' := by
  have hn := Lib.hid (new_ok (.slice none 0 0) [] true 7 9 0 w (toxs_nil w) (by decide) (by decide) rfl rfl (by decide) (by decide))
  go_enter Tryz.func8, Tryz.ntmps8
  go_wp2_with fail
  refine hn.out.mono ?_
  rintro e w0 ⟨b, rfl, F0, hL, hF, hB⟩
  have HL := Lib.hid (show LK w0 F0 b K0 from hL)
  have HF := Lib.hid (And.intro hF hB)
  clear hn hL hF hB
  have k1 := Lib.run_convert_bytes_const (P := Tryz.prog) w0 56 5 #[.int .u8 97, .int .u8 98] 2 2 Tryz.underlying56 Tryz.underlying5
  go_wp2_with fail
  refine (kSend_any (HL.out.below ((Below.refl w0.heap.size w0).alloc (Nat.le_refl _) _)) ok0 0 _ 2 sAB (by decide) (sAB_of w0) (fun g o e hg => by injection e with e; injection e with e; have := HL.out.lt hg; omega) (by decide) (by rw [al6.1]; decide)).mono ?_
  rintro e w1 ⟨rfl, F1, hL1, hD1, hS1⟩
  rw [al1]
  have HL1 := Lib.hid (show LK w1 F1 b K1 from hL1)
  have hD1' := Lib.hid (show Did F0 w0 w1 from ((Did.refl F0 w0).alloc _).trans (Stem.refl _ _) hD1)
  have hS1' := Lib.hid (show Stem F0 F1 w0 from fun j hj => (hS1 j hj).imp id (fun e => by have := (Below.heap_alloc w0); simp at e; omega))
  clear k1 hL1 hD1 hS1 HL
  go_wp2_with fail
  refine (kFinish_any HL1.out ok1 0).mono ?_
  rintro e w2 ⟨rfl, F2, hL2, hD2, hS2⟩
  have HL2 := Lib.hid (show LK w2 F2 b K2 from hL2)
  have hD2' := Lib.hid (hD1'.out.trans hS1'.out hD2)
  have hS2' := Lib.hid (hS1'.out.trans hD1'.out.size hS2)
  clear hL2 hD2 hS2 HL1 hD1' hS1'
  go_wp2_with fail
  refine (kStep_any HL2.out ok2 (by decide) (by decide) (by rw [al6.2.1]; decide) 0 1).mono ?_
  rintro e w3 ⟨A3, c3, F3, rfl, hb3, hn3, hL3, hD3, hS3, ho3⟩
  rw [al2.1] at hb3 ho3 ⊢
  rw [al2.2]
  have HL3 := Lib.hid (show LK w3 F3 b K3 from hL3)
  have hD3' := Lib.hid (hD2'.out.trans hS2'.out hD3)
  have hS3' := Lib.hid (hS2'.out.trans hD2'.out.size hS3)
  have HB3 := Lib.hid (And.intro hb3 (ho3 (by decide)))
  clear hL3 hD3 hS3 HL2 hD2' hS2' hb3 ho3 hn3
  go_wp2_with fail
  refine (kStep_any HL3.out ok3 (by decide) (by decide) (by rw [al6.2.2.1]; decide) 0 9).mono ?_
  rintro e w4 ⟨A4, c4, F4, rfl, hb4, hn4, hL4, hD4, hS4, ho4⟩
  rw [al3.1] at hb4 ho4 ⊢
  rw [al3.2]
  have HL4 := Lib.hid (show LK w4 F4 b K4 from hL4)
  have hD4' := Lib.hid (hD3'.out.trans hS3'.out hD4)
  have hS4' := Lib.hid (hS3'.out.trans hD3'.out.size hS4)
  have HB4 := Lib.hid (And.intro hb4 (ho4 (by decide)))
  have HB34 := Lib.hid (And.intro (BS_did HB3.out.1 HB3.out.2 hD4) (off_later HB3.out.1 (by decide) HB3.out.2 hS4))
  clear hL4 hD4 hS4 HL3 hD3' hS3' hb4 ho4 hn4 HB3
  go_wp2_with fail
  refine (kStep_any HL4.out ok4 (by decide) (by decide) (by rw [al6.2.2.2]; decide) 0 9).mono ?_
  rintro e w5 ⟨A5, c5, F5, rfl, -, -, hL5, hD5, hS5, -⟩
  rw [al4.1, al4.2]
  have HL5 := Lib.hid (show LiveK w w5 b K5 from ⟨F5, hL5, fun j hj => (hS4'.out.trans hD4'.out.size hS5 j hj).elim (HF.out.1 j) (fun e => Nat.le_trans HF.out.2.size e), HF.out.2.trans ((hD4'.out.trans hS4'.out hD5).below HF.out.2.size HF.out.1)⟩)
  have hcv3 : (convert 56 9 (.slice A3 1 c3)).run Tryz.prog w5 = .ok (.string ⟨#[97]⟩) w5 := conv_bytes c3 (BS_did HB34.out.1 HB34.out.2 hD5)
  have hcv4 : (convert 56 9 (.slice A4 1 c4)).run Tryz.prog w5 = .ok (.string ⟨#[98]⟩) w5 := conv_bytes c4 (BS_did HB4.out.1 HB4.out.2 hD5)
  have l1 : K5.done = true := al5.1
  have l2 : countsV K5 = .agg #[.int .i64 2, .int .i64 2, .int .i64 0, .int .i64 0] := by unfold countsV; rw [al5.2.1, al5.2.2.1, al5.2.2.2.1, al5.2.2.2.2]; rfl
  clear hL5 hD5 hS5 HL4 hD4' hS4' HB4 HB34
  go_wp2_with (first
    | (go_at_call 11; (with_reducible refine (live_done HL5.out).mono ?_); rintro e w6 ⟨rfl, rfl⟩; rw [l1])
    | (go_at_call 10; (with_reducible refine (live_counts HL5.out ok5 (by decide)).mono ?_); rintro e w7 ⟨rfl, hL, -⟩; rw [l2]; have H7 := Lib.hid hL; clear hL))
  go_ret
  exact ⟨by simp, H7.out.old⟩
end Go.Proofs.YtoiibmcbjjnpbaaGreat.Link
namespace Go.Proofs.YtoiibmcbjjnpbaaGreat.Link
open Go.RowKit Mem Tick Cargo Toxic Stage Chain
set_option maxRecDepth 100000
set_option linter.unusedVariables false
set_option linter.unusedSimpArgs false
def Seats (w : World) (v : Value) (L : List Tox) (up : Bool) (seed room : Int) : Prop :=
  ∃ sa sc, v = .agg #[.slice sa L.length sc, .bool up, .int .u64 seed, .int .i64 room] ∧ Toxs w (.slice sa L.length sc) L ∧ 0 ≤ seed ∧ seed < 18446744073709551616
theorem live_new {w wr : World} {sa : Option Addr} {sc : Nat} {L : List Tox} (up : Bool) (seed room now : Int) (hv : Toxs w (.slice sa L.length sc) L) (h : linkE L room = 0) (h0 : 0 ≤ seed) (h1 : seed < 18446744073709551616) (hB : Below w.heap.size w wr) :
    Calls Tryz.prog 6 #[.slice sa L.length sc, .bool up, .int .u64 seed, .int .i64 room, .int .i64 now] wr fun e w' => ∃ b, e = .returned (.tuple #[ptr b, .int .i64 0]) ∧ LiveK w w' b (linkN L up seed room now) := by
  unfold linkE at h
  split at h
  · exact absurd h (by decide)
  rename_i h2
  split at h
  · rename_i h3; exact absurd h h3
  rename_i h3
  split at h
  · exact absurd h (by decide)
  rename_i h4
  have hr : roomOk room = true := by cases e : roomOk room with | true => rfl | false => exact absurd (.inl e) h2
  refine (new_ok _ L up seed room now wr (hv.below hB) hr (by omega) (by simpa using h3) (by simpa using h4) h0 h1).mono ?_
  rintro e w1 ⟨b, rfl, F, hL, hF, hB1⟩
  exact ⟨b, rfl, F, hL, fun j hj => Nat.le_trans hB.size (hF j hj), bw_below hB hB1⟩
theorem bad_new {wr : World} {v : Value} {L : List Tox} (up : Bool) (seed room now : Int) (hv : Toxs wr v L) (h : linkE L room ≠ 0) :
    Calls Tryz.prog 6 #[v, .bool up, .int .u64 seed, .int .i64 room, .int .i64 now] wr fun e w' => e = .returned (.tuple #[.pointer none, .int .i64 (linkE L room)]) ∧ Below wr.heap.size wr w' := by
  unfold linkE at h ⊢
  cases hr : roomOk room with
  | false => rw [if_pos (.inl rfl)]; exact new_bad v L up seed room now wr hv hr
  | true =>
    by_cases hl : 8 < L.length
    · rw [if_pos (.inr hl)]; exact new_long v L up seed room now wr hv hr hl
    have e1 : ¬ ((true = false) ∨ 8 < L.length) := by rintro (e | e); cases e; exact hl e
    rw [hr, if_neg e1] at h
    rw [if_neg e1]
    by_cases hf : firstE L = 0
    · rw [if_neg (by simpa using hf)] at h ⊢
      cases hd : dblB L with
      | true => rw [if_pos rfl]; exact new_dbl v L up seed room now wr hv hr (by omega) hf hd
      | false => rw [hd] at h; exact absurd rfl h
    · rw [if_pos hf]; exact new_chk v L up seed room now wr hv hr (by omega) hf
structure OkJ (x : Lk) (l : List Op) (k : Nat) : Prop where
  ok : OkK x (bytesOf (l.take k)) (60000 * k)
  dr : x.drawn ≤ 8 + k
theorem kk_link0 (up : Bool) (seed room now : Int) : KK (link0 up seed room now) ⟨#[]⟩ ⟨#[]⟩ := ⟨km_new room now, rfl, rfl⟩
theorem kk_fold (now : Int) : ∀ (l : List Tox) (x : Lk), KK x ⟨#[]⟩ ⟨#[]⟩ → KK (l.foldl (fun x t => addK x t now) x) ⟨#[]⟩ ⟨#[]⟩
  | [], _, h => h
  | t :: l, x, h => kk_fold now l _ (by
      show KK (addK x t now) ⟨#[]⟩ ⟨#[]⟩
      unfold addK
      split
      · exact ⟨km_ins h.km _ _ _ _, h.sent, h.got⟩
      · exact h)
theorem kk_linkN (l : List Tox) (up : Bool) (seed room now : Int) : KK (linkN l up seed room now) ⟨#[]⟩ ⟨#[]⟩ := kk_fold now l _ (kk_link0 up seed room now)
theorem okJ_linkN (L : List Tox) (up : Bool) (seed room now : Int) (h : linkE L room = 0) (h0 : 0 ≤ seed) (h1 : seed < 18446744073709551616) (l : List Op) : OkJ (linkN L up seed room now) l 0 := by
  unfold linkE at h
  split at h
  · exact absurd h (by decide)
  rename_i h2
  have hr : roomOk room = true := by cases e : roomOk room with | true => rfl | false => exact absurd (.inl e) h2
  have := ok_linkN L up seed room now hr h0 h1 (by omega)
  exact ⟨this.1.more (by simp [bytesOf]) (by omega), by have := this.2; omega⟩
theorem inK_le (x : Lk) (p : Op) : (inK x p).size ≤ p.s.size := by
  unfold inK
  split
  · rw [putN_size]; exact putCN_le _ _ _
  · exact Nat.zero_le _
end Go.Proofs.YtoiibmcbjjnpbaaGreat.Link
namespace Go.Proofs.YtoiibmcbjjnpbaaGreat.Link
open Go.RowKit Mem Tick Cargo Toxic Stage Chain
set_option maxRecDepth 100000
set_option linter.unusedVariables false
set_option linter.unusedSimpArgs false
theorem own_keepK {w1 w2 : World} {B e n m : Nat} {v : Value} {xs : List Value} (h : w1.ownsRow B e n v m xs) (hk : KeepK w1 w2) (he : e ∉ lts) : w2.ownsRow B e n v m xs := by
  obtain ⟨hl, h⟩ := h
  rcases h with ⟨rfl, h0⟩ | ⟨g, cap, cur, rfl, hg, hh, hnc, hcap, hsz, htake⟩
  · exact ⟨hl, .inl ⟨rfl, h0⟩⟩
  · exact ⟨hl, .inr ⟨g, cap, cur, rfl, hg, hk _ _ _ hh he, hnc, hcap, hsz, htake⟩⟩
theorem LiveK.grown {w wr w2 : World} {b : Nat} {x : Lk} (h : LiveK w wr b x) {B e n m : Nat} {v : Value} {xs : List Value} (ho : wr.ownsRow B e n v m xs) (hB : w.heap.size ≤ B) (he : e ∉ lts) (hG : wr.grownBy w2 v.ownBlock) : LiveK w w2 b x := by
  obtain ⟨F, hC, hF, hb⟩ := h
  have hne : ∀ j, F j → some j ≠ v.ownBlock := by
    intro j hj e1
    obtain ⟨hl, h⟩ := ho
    rcases h with ⟨rfl, h0⟩ | ⟨g, cap, cur, rfl, hg, hh, hnc, hcap, hsz, htake⟩
    · simp [Value.ownBlock] at e1
    · simp [Value.ownBlock] at e1
      subst e1
      exact hC.off hh he hj
  refine ⟨F, hC.kept fun j hj => hG.block j (hC.lt hj) (hne j hj), hF, hb.grown hG hb.size fun j c => ?_⟩
  have := (ho.lt j c).1
  omega
theorem own_belowK {B : Nat} {e : TypeId} {k : Nat} {v : Value} {n : Nat} {xs : List Value} {w w' : World} (h : w.ownsRow B e k v n xs) (hb : Below w.heap.size w w') : w'.ownsRow B e k v n xs :=
  h.kept (row := none) ⟨hb.os, hb.tape, hb.output, hb.size, fun j hj _ => hb.block j hj⟩ (by cases hv : v.ownBlock <;> simp)
abbrev ints (l : List Int) : List Value := l.map (Value.int .i64)
theorem own_cellK {w : World} {B e : Nat} {v : Value} {l : List Int} (h : w.ownsRow B e 1 v l.length (l.map (Value.int .i64))) (i : Nat) (x : Int) (hx : l[i]? = some x) : ∃ ga cap, v = .slice (some ⟨ga, 0, none⟩) l.length cap ∧ w.cell? ⟨ga, i, none⟩ = some (.int .i64 x) := by
  obtain ⟨hl, h⟩ := h
  rcases h with ⟨rfl, h0⟩ | ⟨g, cap, cur, rfl, hg, hh, hnc, hcap, hsz, htake⟩
  · have : l = [] := by simpa using h0
    subst this; simp at hx
  · refine ⟨g, cap, rfl, ?_⟩
    have hlt := (List.getElem?_eq_some_iff.1 hx).1
    have e1 : (cur.toList.take (l.length * 1))[i]? = some (.int .i64 x) := by
      rw [htake, List.getElem?_map, hx]; rfl
    rw [List.getElem?_take, if_pos (by omega)] at e1
    simp only [World.cell?, hh]
    simpa using e1
theorem info_int : (Tryz.prog.info? 3).map (fun i => (i.zero, i.size, i.bytes)) = some (some (.int .i64 0), 1, 8) := by kernel_rfl
/-! the chain's state is 0, 1, or 2 -/
theorem cnt_put {c : Ch} (h : CntI c) (n : Int) (b : ByteArray) : CntI (putC c n b) := (h.does ⟨0, n, 0, b, noTox, 0⟩).1
theorem cnt_close {c : Ch} (h : CntI c) (n : Int) : CntI (closeC c n) := (h.does ⟨1, n, 0, ⟨#[]⟩, noTox, 0⟩).1
theorem cnt_break {c : Ch} (h : CntI c) : CntI (breakC c) := (h.does ⟨2, 0, 0, ⟨#[]⟩, noTox, 0⟩).1
theorem cnt_step {c : Ch} (h : CntI c) (n : Int) : CntI (stepC n c) := (h.does ⟨3, n, 0, ⟨#[]⟩, noTox, 0⟩).1
theorem cnt_take {c : Ch} (h : CntI c) (n m : Int) : CntI (takeC c n m) := (h.does ⟨4, n, m, ⟨#[]⟩, noTox, 0⟩).1
theorem cnt_ins {c : Ch} (h : CntI c) (at_ : Int) (t : Tox) (seed now : Int) : CntI (insC c at_ t seed now) := (h.does ⟨5, now, at_, ⟨#[]⟩, t, seed⟩).1
theorem cnt_fold (now : Int) : ∀ (l : List Tox) (x : Lk), CntI x.c → CntI (l.foldl (fun x t => addK x t now) x).c
  | [], _, h => h
  | t :: l, x, h => cnt_fold now l _ (by
      show CntI (addK x t now).c
      unfold addK
      split
      · exact cnt_ins h _ _ _ _
      · exact h)
theorem cnt_linkN (L : List Tox) (up : Bool) (seed room now : Int) : CntI (linkN L up seed room now).c := cnt_fold now L _ (cnt_new room now)
theorem cnt_does {x : Lk} (h : CntI x.c) (o : Op) (h3 : o.kind ≤ 3) : CntI (doesK x o).c ∧ 0 ≤ (doesA x o).1 ∧ (o.kind ≠ 0 → (doesA x o).1 ≤ 2) := by
  unfold doesK doesA
  by_cases k0 : o.kind = 0
  · rw [if_pos k0, if_pos k0]
    exact ⟨cnt_put h _ _, by show (0 : Int) ≤ (putCN x.c o.now o.s : Int); omega, fun e => absurd k0 e⟩
  rw [if_neg k0, if_neg k0]
  by_cases k1 : o.kind = 1
  · rw [if_pos k1, if_pos k1]; exact ⟨cnt_close h _, Int.le_refl 0, fun _ => by show (0 : Int) ≤ 2; decide⟩
  rw [if_neg k1, if_neg k1]
  by_cases k2 : o.kind = 2
  · rw [if_pos k2, if_pos k2]; exact ⟨cnt_break h, Int.le_refl 0, fun _ => by show (0 : Int) ≤ 2; decide⟩
  rw [if_neg k2, if_neg k2]
  by_cases k3 : o.kind = 3
  · rw [if_pos k3, if_pos k3]
    have hs := cnt_step (cnt_take (cnt_step h o.now) o.now o.n) o.now
    refine ⟨hs, ?_, fun _ => ?_⟩
    · show 0 ≤ stepE x o.now o.n
      unfold stepE
      split
      · exact hs.st.1
      · decide
    · show stepE x o.now o.n ≤ 2
      unfold stepE
      split
      · exact hs.st.2
      · decide
  rw [if_neg k3, if_neg k3, if_neg (by omega), if_neg (by omega), if_neg (by omega), if_neg (by omega), if_neg (by omega), if_neg (by omega)]
  exact ⟨h, Int.le_refl 0, fun _ => by show (0 : Int) ≤ 2; decide⟩

theorem OkJ.nextO {x : Lk} {l : List Op} {k : Nat} {p : Op} (h : OkJ x l k) (hx : l[k]? = some p) (hb : bytesOf l ≤ 2000) (hl : l.length ≤ 60) (q : Op) (hq : q.s = p.s) : OkJ (doesK x q) l (k + 1) := by
  have h1 := bytes_s l k p hx
  have h2 := bytesOf_le l (k + 1)
  have hk : k < l.length := (List.getElem?_eq_some_iff.1 hx).1
  have hd := h.dr
  refine ⟨(h.ok.does (by omega) (by omega) q).more ?_ ?_, ?_⟩
  · rw [hq]; omega
  · rw [hq]; omega
  · have := (drawn_does x q).1; omega
theorem OkJ.skip {x : Lk} {l : List Op} {k : Nat} {p : Op} (h : OkJ x l k) (hx : l[k]? = some p) : OkJ x l (k + 1) := by
  have h1 := bytes_s l k p hx
  have hd := h.dr
  exact ⟨h.ok.more (by omega) (by omega), by omega⟩
theorem outK_is (x : Lk) (q : Op) : (doesA x q).2.1 = outK x q := by
  unfold doesA outK
  repeat' split
  all_goals first | rfl | (exfalso; omega)
theorem inK_is (x : Lk) (q : Op) (h : q.kind = 0) : (doesA x q).1 = ((inK x q).size : Int) := by
  unfold doesA inK
  rw [if_pos h, if_pos h, putN_size]
theorem inK_none (x : Lk) (q : Op) (h : q.kind ≠ 0) : inK x q = ⟨#[]⟩ := by unfold inK; rw [if_neg h]
theorem add_le' (t lag : Int) (h0 : 0 ≤ t) (h1 : 0 ≤ lag) : Tick.add t lag ≤ min (t + lag) 1099511627776 := by
  have b1 := nr_bd t
  have b2 := nr_bd lag
  have c1 : nr t ≤ t := by unfold nr; split <;> (try split) <;> omega
  have c2 : nr lag ≤ lag := by unfold nr; split <;> (try split) <;> omega
  have b3 := nr_bd (nr t + nr lag)
  have c3 : nr (nr t + nr lag) ≤ nr t + nr lag := by
    have hz : 0 ≤ nr t + nr lag := by omega
    generalize nr t + nr lag = z at *
    unfold nr; split <;> (try split) <;> omega
  unfold Tick.add
  omega
theorem musts_take {L : List Tox} {k : Nat} {t : Tox} (h : L[k]? = some t) (up : Bool) : musts (L.take (k + 1)) up 0 = if t.kind = 1 ∧ t.often = 100 ∧ t.up = up then Tick.add (musts (L.take k) up 0) (t.a - t.b) else musts (L.take k) up 0 := by
  rw [List.take_add_one, h]; exact musts_snoc (L.take k) t up 0
theorem outK_none (x : Lk) (q : Op) (h : q.kind ≠ 3) : outK x q = ⟨#[]⟩ := by unfold outK; rw [if_neg h]
theorem blk_grown {w1 w2 : World} {B e n m g t : Nat} {v : Value} {xs : List Value} {cs : Array Value} (ho : w1.ownsRow B e n v m xs) (hb : Blk w1 g t cs) (hne : t ≠ e) (hG : w1.grownBy w2 v.ownBlock) : Blk w2 g t cs := by
  refine (hG.block g hb.lt fun e1 => ?_).trans hb
  obtain ⟨hl, h⟩ := ho
  rcases h with ⟨rfl, h0⟩ | ⟨g', cap, cur, rfl, hg, hh, hnc, hcap, hsz, htake⟩
  · simp [Value.ownBlock] at e1
  · simp [Value.ownBlock] at e1
    subst e1
    unfold Blk at hb
    rw [hh] at hb
    injection hb with hb
    injection hb with _ hb
    exact hne hb.symm
theorem rep_snoc (j : Nat) (N : Int) : List.replicate (j + 1) N = List.replicate j N ++ [N] := List.replicate_succ' ..
theorem LinkLags_none (sa : Option Addr) (sc : Nat) (L : List Tox) (up : Bool) (seed room : Int) (v : Value) (l : List Op) (w : World) (hs : Toxs w (.slice sa L.length sc) L) (h0 : 0 ≤ seed) (h1 : seed < 18446744073709551616) (hv : Script w v l) (hr : linkE L room ≠ 0) :
    Calls Tryz.prog 5 #[.agg #[.slice sa L.length sc, .bool up, .int .u64 seed, .int .i64 room], v] w fun e w' => e = .returned (.bool true) ∧ Below w.heap.size w w' := by
  obtain ⟨w0, e0, B0, X0⟩ : ∃ w0, Hid (w.alloc (.cells #[.slice sa L.length sc, .bool up, .int .u64 seed, .int .i64 room] 25) = w0) ∧ Hid (Below w.heap.size w w0) ∧ Hid (Blk w0 w.heap.size 25 #[.slice sa L.length sc, .bool up, .int .u64 seed, .int .i64 room]) := ⟨_, Lib.hid rfl, Lib.hid ((Below.refl _ _).alloc (Nat.le_refl _) _), Lib.hid (Blk.new w _ _)⟩
  have hn := Lib.hid (bad_new up seed room 0 (hs.below B0.out) hr)
  have te : (linkE L room != 0) = true := by simpa using hr
  clear hs hr
  go_enter Tryz.func5, Tryz.ntmps5
  go_wp2_with fail
  rw [e0.out]
  refine hn.out.mono ?_
  rintro e w1 ⟨rfl, hB⟩
  have hB1 := Lib.hid (bw_below B0.out hB)
  clear hn hB
  go_wp2_with (go_at_call 8; (with_reducible refine (alive_any _).mono ?_); rintro e w2 ⟨rfl, hB2⟩; have hB2' := Lib.hid hB2; clear hB2)
  go_ret
  exact ⟨rfl, bw_below hB1.out hB2'.out⟩
theorem LinkLags_long (sa : Option Addr) (sc : Nat) (L : List Tox) (up : Bool) (seed room : Int) (v : Value) (l : List Op) (w : World) (hs : Toxs w (.slice sa L.length sc) L) (h0 : 0 ≤ seed) (h1 : seed < 18446744073709551616) (hv : Script w v l) (hr : linkE L room = 0) (hf : fewK L.length l = false) :
    Calls Tryz.prog 5 #[.agg #[.slice sa L.length sc, .bool up, .int .u64 seed, .int .i64 room], v] w fun e w' => e = .returned (.bool true) ∧ Below w.heap.size w w' := by
  obtain ⟨w0, e0, B0, X0⟩ : ∃ w0, Hid (w.alloc (.cells #[.slice sa L.length sc, .bool up, .int .u64 seed, .int .i64 room] 25) = w0) ∧ Hid (Below w.heap.size w w0) ∧ Hid (Blk w0 w.heap.size 25 #[.slice sa L.length sc, .bool up, .int .u64 seed, .int .i64 room]) := ⟨_, Lib.hid rfl, Lib.hid ((Below.refl _ _).alloc (Nat.le_refl _) _), Lib.hid (Blk.new w _ _)⟩
  have hn := Lib.hid (live_new up seed room 0 (hs.below B0.out) hr h0 h1 (Below.refl w0.heap.size w0))
  have hmx : L.length ≤ 9223372036854775807 := by obtain ⟨_, _, _, e, _⟩ := hs; exact e
  have hv' := Lib.hid (hv.below B0.out)
  have hf' := Lib.hid hf
  clear hr hv hf hs
  go_enter Tryz.func5, Tryz.ntmps5
  go_wp2_with fail
  rw [e0.out]
  refine hn.out.mono ?_
  rintro e w1 ⟨c, rfl, hL⟩
  have hB1 := Lib.hid hL.old
  have x0 := (X0.out.below hB1.out).cell 0
  have x1 := (X0.out.below hB1.out).cell 1
  have x2 := (X0.out.below hB1.out).cell 2
  have x3 := (X0.out.below hB1.out).cell 3
  have xb := (X0.out.below hB1.out).lt
  clear hn hL
  go_wp2_with fail
  refine (few_any sa L.length sc up seed room v l _ hmx (hv'.out.below hB1.out)).mono ?_
  rintro e w2 ⟨rfl, hB⟩
  rw [hf'.out]
  have hB2 := Lib.hid (bw_below hB1.out hB)
  clear hB
  go_wp2_with (go_at_call 8; (with_reducible refine (alive_any _).mono ?_); rintro e w2 ⟨rfl, hB2⟩; have hB2' := Lib.hid hB2; clear hB2)
  go_ret
  exact ⟨rfl, bw_below B0.out (bw_below hB2.out hB2'.out)⟩
set_option maxHeartbeats 2000000 in
theorem LinkLags_yes (sa : Option Addr) (sc : Nat) (L : List Tox) (up : Bool) (seed room : Int) (v : Value) (l : List Op) (w : World) (hs : Toxs w (.slice sa L.length sc) L) (h0 : 0 ≤ seed) (h1 : seed < 18446744073709551616) (hv : Script w v l) (hr : linkE L room = 0) (hf : fewK L.length l = true) :
    Calls Tryz.prog 5 #[.agg #[.slice sa L.length sc, .bool up, .int .u64 seed, .int .i64 room], v] w fun e w' => e = .returned (.bool true) ∧ Below w.heap.size w w' := by
  obtain ⟨w0, e0, B0, X0⟩ : ∃ w0, Hid (w.alloc (.cells #[.slice sa L.length sc, .bool up, .int .u64 seed, .int .i64 room] 25) = w0) ∧ Hid (Below w.heap.size w w0) ∧ Hid (Blk w0 w.heap.size 25 #[.slice sa L.length sc, .bool up, .int .u64 seed, .int .i64 room]) := ⟨_, Lib.hid rfl, Lib.hid ((Below.refl _ _).alloc (Nat.le_refl _) _), Lib.hid (Blk.new w _ _)⟩
  have hn := Lib.hid (live_new up seed room 0 (hs.below B0.out) hr h0 h1 (Below.refl w0.heap.size w0))
  have hmx : L.length ≤ 9223372036854775807 := by obtain ⟨_, _, _, e, _⟩ := hs; exact e
  have hok0 := Lib.hid (okJ_linkN L up seed room 0 hr h0 h1 l)
  have hv' := Lib.hid (hv.below B0.out)
  have hf' := Lib.hid hf
  have hn5 : bytesOf l ≤ 2000 := by simp [fewK] at hf; exact hf.2.2
  have hl2 : l.length ≤ 60 := by simp [fewK] at hf; exact hf.2.1
  obtain ⟨a, cap, rfl, hmx2, -, hA⟩ := hv
  have hx0 := Lib.hid (And.intro (kk_linkN L up seed room 0) (And.intro (lags_linkN L up seed room 0 hr) (And.intro (lagC_linkN L up seed room hr (fun a ha => ((okJ_linkN L up seed room 0 hr h0 h1 []).ok.c.ok a ha).1)) (cnt_linkN L up seed room 0))))
  have hs' := Lib.hid (hs.below B0.out)
  have hall := Lib.hid (first_all (linkE_0 hr).2.2.1)
  generalize hK0 : linkN L up seed room 0 = K0 at *
  clear hr hf hs hK0
  go_enter Tryz.func5, Tryz.ntmps5
  go_wp2_with fail
  rw [e0.out]
  refine hn.out.mono ?_
  rintro e w1 ⟨c, rfl, hL⟩
  have H1 := Lib.hid hL
  have x0 := (X0.out.below hL.old).cell 0
  have x1 := (X0.out.below hL.old).cell 1
  have x2 := (X0.out.below hL.old).cell 2
  have x3 := (X0.out.below hL.old).cell 3
  have xb := (X0.out.below hL.old).lt
  clear hn hL
  go_wp2_with fail
  refine (few_any sa L.length sc up seed room _ l _ hmx (hv'.out.below H1.out.old)).mono ?_
  rintro e w2 ⟨rfl, hB⟩
  rw [hf'.out]
  have H2 := Lib.hid (H1.out.below hB)
  clear hB H1
  have X2 := X0.out.below H2.out.old
  clear x0 x1 x2 x3 xb
  have xb := X2.lt
  have x0 : w2.cell? ⟨w.heap.size, 0, none⟩ = some (.slice sa L.length sc) := (X2.cell 0).trans rfl
  have x1 : w2.cell? ⟨w.heap.size, 1, none⟩ = some (.bool up) := (X2.cell 1).trans rfl
  have x2 : w2.cell? ⟨w.heap.size, 2, none⟩ = some (.int .u64 seed) := (X2.cell 2).trans rfl
  have x3 : w2.cell? ⟨w.heap.size, 3, none⟩ = some (.int .i64 room) := (X2.cell 3).trans rfl
  have X2' := Lib.hid X2
  clear X2
  go_wp2
  go_loopw [7, 44] (fun lv iv wr => ∃ k : Nat, k ≤ L.length ∧ iv = .int .i64 k ∧ lv = .int .i64 (musts (L.take k) up 0) ∧ LiveK w0 wr c K0 ∧ Blk wr w.heap.size 25 #[.slice sa L.length sc, .bool up, .int .u64 seed, .int .i64 room]) (fun _ iv _ => L.length - (intOf iv).toNat)
  case atStart => exact ⟨0, by omega, rfl, rfl, H2.out, X2'.out⟩
  case round =>
    obtain ⟨k, hk, rfl, rfl, hL, hX⟩ := hrel
    clear H2 X2' x0 x1 x2 x3 xb
    by_cases hlt : k < L.length
    · obtain ⟨sa', sc', e1, -, -, hTA⟩ := hs'.out
      injection e1 with e1 e2 e3
      subst e1 e3
      obtain ⟨g, oo, rfl, hc⟩ := hTA (by intro h; subst h; simp at hlt)
      have hx : L[k]? = some L[k] := List.getElem?_eq_getElem hlt
      obtain ⟨d0, d1, d2, d3, d4, d5⟩ := hc k _ hx
      have hck := tox_parts (.inr (hall.out L[k] (List.getElem_mem hlt)))
      have hms := Lib.hid (musts_take hx up)
      generalize L[k] = p at *
      obtain ⟨t0, t1, t2, t3, t4, t5⟩ := p
      dsimp only at *
      have hold := hL.old
      have d0' := bcells hold d0
      have d1' := bcells hold d1
      have d2' := bcells hold d2
      have d3' := bcells hold d3
      have d4' := bcells hold d4
      have d5' := bcells hold d5
      have x1 : wr.cell? ⟨w.heap.size, 1, none⟩ = some (.bool up) := (hX.cell 1).trans rfl
      have xb := hX.lt
      have hBx : Below wr.heap.size wr (wr.alloc (.cells #[.string t0, .int .i64 t1, .bool t2, .int .i64 t3, .int .i64 t4, .int .i64 t5] 34)) := (Below.refl _ _).alloc (Nat.le_refl _) _
      have hL' := Lib.hid (hL.below hBx)
      have hX' := Lib.hid (hX.below hBx)
      have hwr : wrap64 (t4 - t5) = t4 - t5 := by unfold wrap64; omega
      generalize musts (L.take k) up 0 = lag at *
      clear hc hx hTA hold hL hX hck hBx d0 d1 d2 d3 d4 d5
      by_cases k1 : t1 = 1
      · have e1 : (t1 == 1) = true := by simpa using k1
        by_cases k2 : t3 = 100
        · have e2 : (t3 == 100) = true := by simpa using k2
          by_cases k3 : t2 = up
          · have e3 : (t2 == up) = true := by simpa using k3
            have hm2 := Lib.hid (show musts (L.take (k + 1)) up 0 = Tick.add lag (t4 - t5) from by rw [hms.out, if_pos ⟨k1, k2, k3⟩])
            clear k1 k2 k3 hms
            go_wp2_with (go_at_call 12; (with_reducible refine (Ref01.add_any lag (t4 - t5) _).mono ?_); rintro e w3 ⟨rfl, rfl⟩)
            go_roundw
            case rel => exact ⟨k + 1, by omega, by go_num, by rw [hm2.out], hL'.out, hX'.out⟩
            case measure => simp [intOf]; omega
          · have e3 : (t2 == up) = false := by simpa using k3
            have hm2 := Lib.hid (show musts (L.take (k + 1)) up 0 = lag from by rw [hms.out, if_neg (fun e => k3 e.2.2)])
            clear k1 k2 k3 hms hwr
            go_wp2
            go_roundw
            case rel => exact ⟨k + 1, by omega, by go_num, by rw [hm2.out], hL'.out, hX'.out⟩
            case measure => simp [intOf]; omega
        · have e2 : (t3 == 100) = false := by simpa using k2
          have hm2 := Lib.hid (show musts (L.take (k + 1)) up 0 = lag from by rw [hms.out, if_neg (fun e => k2 e.2.1)])
          clear k1 k2 hms hwr
          go_wp2
          go_roundw
          case rel => exact ⟨k + 1, by omega, by go_num, by rw [hm2.out], hL'.out, hX'.out⟩
          case measure => simp [intOf]; omega
      · have e1 : (t1 == 1) = false := by simpa using k1
        have hm2 := Lib.hid (show musts (L.take (k + 1)) up 0 = lag from by rw [hms.out, if_neg (fun e => k1 e.1)])
        clear k1 hms hwr
        go_wp2
        go_roundw
        case rel => exact ⟨k + 1, by omega, by go_num, by rw [hm2.out], hL'.out, hX'.out⟩
        case measure => simp [intOf]; omega
    · have hk2 : k = L.length := by omega
      subst hk2
      have hnl : ¬ (L.length < L.length) := by omega
      rw [List.take_length]
      have HL := Lib.hid hL
      clear hL hX
      obtain ⟨hkk0, hlgL, hlc, hcn⟩ := hx0.out
      generalize hlag : musts L up 0 = lag at *
      have hS0 := Lib.hid (show lagS K0.c.l = lagS K0.c.l from rfl)
      obtain ⟨LS, hLS⟩ : ∃ LS, Hid (lagS K0.c.l = LS) := ⟨_, Lib.hid rfl⟩
      rw [hLS.out] at hlgL
      have hst := Lib.hid (And.intro hkk0 (And.intro hlc hcn))
      obtain ⟨i0, hi, hz0, hz1, hz2⟩ := info_parts info_int
      clear hkk0 hlc hcn hx0 hlag hS0
      go_wp2
      go_loopw [10, 11, 12, 73] (fun nv ov av iv wr => ∃ (k : Nat) (x : Lk) (i o : ByteArray) (now : Int) (at_ : List Int), k ≤ l.length ∧ iv = .int .i64 k ∧ nv = .int .i64 now ∧ ov = .int .i64 (o.size : Nat) ∧ wr.ownsRow w0.heap.size 3 1 av at_.length (ints at_) ∧ LiveK w0 wr c x ∧ OkJ x l k ∧ KK x i o ∧ i.size ≤ bytesOf (l.take k) ∧ at_.length = i.size ∧ LagC now x.c at_ o.size ∧ lagS x.c.l = LS ∧ CntI x.c ∧ (0 ≤ now ∧ now ≤ 1099511627776) ∧ ∀ t ∈ at_, 0 ≤ t) (fun _ _ _ iv _ => l.length - (intOf iv).toNat)
      case atStart => exact ⟨0, K0, ⟨#[]⟩, ⟨#[]⟩, 0, [], by omega, rfl, rfl, rfl, World.ownsRow_nil _ _ _ _, HL.out, hok0.out, hst.out.1, Nat.zero_le _, rfl, hst.out.2.1, hLS.out, hst.out.2.2, ⟨by decide, by decide⟩, fun t ht => by simp at ht⟩
      case round =>
        obtain ⟨k, x, i, o, now, at_, hk, rfl, rfl, rfl, hO, hL, hok, hkk, hin, hal, hlc, hls, hcn, hnow, hpos⟩ := hrel
        clear HL hst
        by_cases hlt : k < l.length
        · obtain ⟨g, oo, rfl, hc⟩ := hA (by intro h; subst h; simp at hlt)
          have hx : l[k]? = some l[k] := List.getElem?_eq_getElem hlt
          obtain ⟨d0, d1, d2, d3, d4, d5, d6, d7, d8, d9⟩ := hc k _ hx
          have hbt := bytes_s l k _ hx
          have hble := bytesOf_le l (k + 1)
          rw [hbt] at hble
          have hbt' := Lib.hid hbt
          have hnextO := Lib.hid (fun q hq => hok.nextO hx hn5 hl2 q hq)
          have hskip := Lib.hid (hok.skip hx)
          clear hbt
          generalize l[k] = p at *
          obtain ⟨p0, p1, p2, p3, ⟨t0, t1, t2, t3, t4, t5⟩⟩ := p
          dsimp only at *
          have hold := hL.old
          have d0' := bcells (bw_below B0.out hold) d0
          have d1' := bcells (bw_below B0.out hold) d1
          have d2' := bcells (bw_below B0.out hold) d2
          have d3' := bcells (bw_below B0.out hold) d3
          have d4' := bcells (bw_below B0.out hold) d4
          have d5' := bcells (bw_below B0.out hold) d5
          have d6' := bcells (bw_below B0.out hold) d6
          have d7' := bcells (bw_below B0.out hold) d7
          have d8' := bcells (bw_below B0.out hold) d8
          have d9' := bcells (bw_below B0.out hold) d9
          have hL' := Lib.hid hL
          have hok' := Lib.hid hok.ok
          have hszw : w.heap.size ≤ wr.heap.size := Nat.le_trans B0.out.size hold.size
          have hM0 : (bytesOf (l.take k) : Int) + p3.size ≤ 1000000 := by omega
          have hQ0 : (60000 * k : Int) ≤ 100000000 := by omega
          have hse0 : x.sent ≤ 1000000 := by have := hkk.sent; have := bytesOf_le l k; omega
          have hge0 : x.got ≤ 1000000 := by have h1 := hkk.got; have := (keep_pre hkk.km.1).1; have := bytesOf_le l k; omega
          have hoi := (keep_pre hkk.km.1).1
          have hnr := nr_bd p1
          obtain ⟨N, hNE⟩ : ∃ N, Hid (max now (nr p1) = N) := ⟨_, Lib.hid rfl⟩
          have hN := Lib.hid (show now ≤ N ∧ 0 ≤ N ∧ N ≤ 1099511627776 from by rw [← hNE.out]; omega)
          have hlcN := Lib.hid (hlc.mono hN.out.1)
          have hO' := Lib.hid hO
          obtain ⟨Aa, ca, rfl⟩ : ∃ A c, u12 = .slice A at_.length c := by
            obtain ⟨hl, h⟩ := hO
            rcases h with ⟨rfl, h0⟩ | ⟨g, cap, cur, rfl, _⟩
            · have : at_ = [] := by simpa using h0
              subst this; exact ⟨none, 0, rfl⟩
            · exact ⟨_, _, rfl⟩
          have hst := Lib.hid (And.intro hkk (And.intro hin (And.intro hal (And.intro hls (And.intro hcn hpos)))))
          have hBx : Below wr.heap.size wr (wr.alloc (.cells #[.int .i64 p0, .int .i64 N, .int .i64 p2, .string p3, .string t0, .int .i64 t1, .bool t2, .int .i64 t3, .int .i64 t4, .int .i64 t5] 36)) := (Below.refl _ _).alloc (Nat.le_refl _) _
          have HBx := Lib.hid hBx
          clear hc hx hA hkk hin hal hlc hls hcn hnow hpos hO hold hL hok hnr hBx d0 d1 d2 d3 d4 d5 d6 d7 d8 d9
          by_cases h3 : 3 < p0
          · have tk3 : decide ((3 : Int) < p0) = true := decide_eq_true h3
            clear h3
            go_wp2_with (go_at_call 13; (with_reducible refine (Ref01.near_any p1 _).mono ?_); rintro e w3 ⟨rfl, rfl⟩)
            rw [hNE.out]
            obtain ⟨hkk, hin, hal, hls, hcn, hpos⟩ := hst.out
            go_roundw
            case rel => exact ⟨k + 1, x, i, o, N, at_, by omega, by go_num, rfl, rfl, own_belowK hO'.out HBx.out, hL'.out.below HBx.out, hskip.out, hkk, by rw [hbt'.out]; omega, hal, hlcN.out, hls, hcn, hN.out.2, hpos⟩
            case measure => simp [intOf]; omega
          · have tk3 : decide ((3 : Int) < p0) = false := decide_eq_false h3
            go_wp2_with (go_at_call 13; (with_reducible refine (Ref01.near_any p1 _).mono ?_); rintro e w3 ⟨rfl, rfl⟩)
            rw [hNE.out]
            obtain ⟨hkk, hin, hal, hls, hcn, hpos⟩ := hst.out
            have hkn := Lib.hid (hkk.does ⟨p0, N, p2, p3, ⟨t0, t1, t2, t3, t4, t5⟩⟩)
            have hlg := Lib.hid (LagC.does hN.out.2.1 hN.out.2.2 (by omega) hlcN.out ⟨p0, N, p2, p3, ⟨t0, t1, t2, t3, t4, t5⟩⟩ rfl (show p0 ≤ 3 by omega))
            have hcd := Lib.hid (cnt_does hcn ⟨p0, N, p2, p3, ⟨t0, t1, t2, t3, t4, t5⟩⟩ (show p0 ≤ 3 by omega))
            have hia := Lib.hid (inK_is x ⟨p0, N, p2, p3, ⟨t0, t1, t2, t3, t4, t5⟩⟩)
            have hin0 := Lib.hid (inK_none x ⟨p0, N, p2, p3, ⟨t0, t1, t2, t3, t4, t5⟩⟩)
            have hil := inK_le x ⟨p0, N, p2, p3, ⟨t0, t1, t2, t3, t4, t5⟩⟩
            have hout := Lib.hid (outK_is x ⟨p0, N, p2, p3, ⟨t0, t1, t2, t3, t4, t5⟩⟩)
            have hoz := Lib.hid (fun e => outK_none x ⟨p0, N, p2, p3, ⟨t0, t1, t2, t3, t4, t5⟩⟩ e)
            have hnext := Lib.hid (hnextO.out ⟨p0, N, p2, p3, ⟨t0, t1, t2, t3, t4, t5⟩⟩ rfl)
            have hst' := Lib.hid (And.intro hin (And.intro hal (And.intro hls hpos)))
            clear hkk hin hal hls hcn hpos hst hskip hnextO h3
            have hBx : Below wr.heap.size wr (wr.alloc (.cells #[.int .i64 p0, .int .i64 N, .int .i64 p2, .string p3, .string t0, .int .i64 t1, .bool t2, .int .i64 t3, .int .i64 t4, .int .i64 t5] 36)) := (Below.refl _ _).alloc (Nat.le_refl _) _
            refine (live_does (hL'.out.below hBx) hok'.out ⟨p0, N, p2, p3, ⟨t0, t1, t2, t3, t4, t5⟩⟩ hM0 hQ0 hse0 hge0).mono ?_
            rintro e w3 ⟨rfl, hL3, hK3⟩
            have HX3 := Lib.hid (hK3 _ _ _ (Blk.new wr 36 #[.int .i64 p0, .int .i64 N, .int .i64 p2, .string p3, .string t0, .int .i64 t1, .bool t2, .int .i64 t3, .int .i64 t4, .int .i64 t5]) (by decide))
            have HL3 := Lib.hid hL3
            have hKK := Lib.hid hK3
            clear hL3 hK3 hBx hL'
            try dsimp only at hkn hlg hcd hia hin0 hil hout hoz
            generalize doesK x ⟨p0, N, p2, p3, ⟨t0, t1, t2, t3, t4, t5⟩⟩ = y at *
            generalize doesA x ⟨p0, N, p2, p3, ⟨t0, t1, t2, t3, t4, t5⟩⟩ = an at *
            generalize inK x ⟨p0, N, p2, p3, ⟨t0, t1, t2, t3, t4, t5⟩⟩ = ic at *
            generalize outK x ⟨p0, N, p2, p3, ⟨t0, t1, t2, t3, t4, t5⟩⟩ = oc at *
            obtain ⟨a0, a1, a2⟩ := an
            dsimp only at *
            obtain rfl := hout.out
            have HO3 := Lib.hid (own_keepK (own_belowK hO'.out HBx.out) hKK.out (by decide))
            clear hok' hout hO' HBx hKK hlcN
            have HA := Lib.hid (Blk.new w3 38 #[.int .i64 a0, .string a1, .int .i64 a2])
            have hBA : Below w3.heap.size w3 (w3.alloc (.cells #[.int .i64 a0, .string a1, .int .i64 a2] 38)) := (Below.refl _ _).alloc (Nat.le_refl _) _
            have HX4 := Lib.hid (HX3.out.below hBA)
            have HL4 := Lib.hid (HL3.out.below hBA)
            have HO4 := Lib.hid (own_belowK HO3.out hBA)
            have r0 : w3.cell? ⟨wr.heap.size, 0, none⟩ = some (.int .i64 p0) := (HX3.out.cell 0).trans rfl
            have hbw := HX3.out.lt
            have haw : w3.heap.size < (w3.alloc (.cells #[.int .i64 a0, .string a1, .int .i64 a2] 38)).heap.size := HA.out.lt
            obtain ⟨w4, e4⟩ : ∃ w4, Hid (w3.alloc (.cells #[.int .i64 a0, .string a1, .int .i64 a2] 38) = w4) := ⟨_, Lib.hid rfl⟩
            rw [e4.out] at HA HX4 HL4 HO4 haw
            clear HX3 HL3 HO3 hBA d0' d1' d2' d3' d4' d5' d6' d7' d8' d9' hszw
            go_wp2
            rw [e4.out]
            clear r0 e4
            generalize wr.heap.size = bo at *
            generalize w3.heap.size = ao at *
            obtain ⟨hin, hal, hls, hpos⟩ := hst'.out
            obtain ⟨hg1, hg2, hg3, hg4⟩ := hlg.out
            obtain ⟨hc1, hc2, hc3⟩ := hcd.out
            have hsz4 : w0.heap.size ≤ w4.heap.size := HL4.out.old.size
            have hinn : (i ++ ic).size ≤ bytesOf (l.take (k + 1)) := by rw [hbt'.out, ByteArray.size_append]; omega
            have hpos2 : ∀ t ∈ at_ ++ List.replicate ic.size N, 0 ≤ t := fun t ht => by
              rcases List.mem_append.1 ht with h | h
              · exact hpos t h
              · rw [List.eq_of_mem_replicate h]; exact hN.out.2.1
            by_cases k0 : p0 = 0
            · have e0 := hia.out k0
              subst e0
              have ez := hoz.out (by omega)
              subst ez
              have hd0 : (p0 == 0) = true := by simpa using k0
              have hM3 : i.size + ic.size ≤ 2000 := by rw [ByteArray.size_append] at hinn; have := bytesOf_le l (k + 1); omega
              have HE := Lib.hid (And.intro hkn.out (And.intro hg1 (And.intro hg2 (And.intro hc1 (And.intro hinn hpos2)))))
              have HH := Lib.hid (And.intro hal hls)
              clear k0 hkn hg1 hg2 hg3 hg4 hc1 hc2 hc3 hinn hpos2 hlg hcd hia hoz hin0 hin hpos hst' hil hal hls
              have rx : w4.cell? ⟨bo, 0, none⟩ = some (.int .i64 p0) := (HX4.out.cell 0).trans rfl
              have ry : w4.cell? ⟨ao, 1, none⟩ = some (.string ⟨#[]⟩) := (HA.out.cell 1).trans rfl
              go_loopw [12, 92] (fun av jv wQ => ∃ j : Nat, j ≤ ic.size ∧ jv = .int .i64 j ∧ wQ.ownsRow w0.heap.size 3 1 av (at_.length + j) (ints (at_ ++ List.replicate j N)) ∧ LiveK w0 wQ c y ∧ Blk wQ bo 36 #[.int .i64 p0, .int .i64 N, .int .i64 p2, .string p3, .string t0, .int .i64 t1, .bool t2, .int .i64 t3, .int .i64 t4, .int .i64 t5] ∧ Blk wQ ao 38 #[.int .i64 ic.size, .string ⟨#[]⟩, .int .i64 a2]) (fun _ jv _ => ic.size - (intOf jv).toNat)
              case atStart => exact ⟨0, by omega, rfl, by simpa [ints] using HO4.out, HL4.out, HX4.out, HA.out⟩
              case round =>
                obtain ⟨j, hj, rfl, oJ, LJ, XJ, AJ⟩ := hrel
                clear HO4 HL4 HX4 HA rx ry haw hsz4
                have hlJ : at_.length ≤ 2000 := by have := HH.out.1; omega
                have hszJ : w0.heap.size ≤ wr.heap.size := LJ.old.size
                have rx : wr.cell? ⟨bo, 0, none⟩ = some (.int .i64 p0) := (XJ.cell 0).trans rfl
                have ry : wr.cell? ⟨ao, 1, none⟩ = some (.string ⟨#[]⟩) := (AJ.cell 1).trans rfl
                have hblt := XJ.lt
                have halt := AJ.lt
                by_cases hjz : j < ic.size
                · have hBz : Below wr.heap.size wr (wr.alloc (.cells #[.int .i64 N] 3)) := (Below.refl _ _).alloc (Nat.le_refl _) _
                  have HLJ := Lib.hid (LJ.below hBz)
                  have HXJ := Lib.hid (XJ.below hBz)
                  have HAJ := Lib.hid (AJ.below hBz)
                  clear LJ XJ AJ hBz
                  go_wp2_with (at_builtin; refine wpList_append_own_at _ rfl _ _ 44 rfl w0.heap.size 3 i0 (.int .i64 0) 1 8 Tryz.underlying44 hi hz0 hz1 hz2 rfl (by decide) _ _ _ rfl (oJ.alloc _) ⟨wr.heap.size, 0, none⟩ 1 1 [.int .i64 N] rfl rfl (cell_one_new _ _ _) (by simp [Value.oneCell']) (by unfold maxLen; omega) (by omega) (by simp; omega) ?_
                               intro vA wA oA gA _ pA
                               have LA := Lib.hid (HLJ.out.grown (oJ.alloc (.cells #[.int .i64 N] 3)) (Nat.le_refl _) (by decide) gA)
                               have XA := Lib.hid (blk_grown (oJ.alloc (.cells #[.int .i64 N] 3)) HXJ.out (by decide) gA)
                               have AA := Lib.hid (blk_grown (oJ.alloc (.cells #[.int .i64 N] 3)) HAJ.out (by decide) gA)
                               clear gA pA oJ HLJ HXJ HAJ)
                  go_roundw
                  case rel => exact ⟨j + 1, by omega, by go_num, by rw [rep_snoc]; simpa [ints, Nat.add_assoc] using oA, LA.out, XA.out, AA.out⟩
                  case measure => simp [intOf]; omega
                · have hnl : ¬ (j < ic.size) := hjz
                  obtain rfl : j = ic.size := by omega
                  have HL9 := Lib.hid LJ
                  have HO9 := Lib.hid oJ
                  clear LJ XJ AJ oJ hd0
                  go_wp2
                  go_loop [11, 105] (fun ov jv => jv = .int .i64 0 ∧ ov = .int .i64 (o.size : Nat)) (fun _ _ => 0)
                  case atStart => exact ⟨rfl, rfl⟩
                  case round =>
                    obtain ⟨rfl, rfl⟩ := hrel
                    obtain ⟨kkn, g1, g2, c1, inn, pos⟩ := HE.out
                    obtain ⟨hal, hls⟩ := HH.out
                    rw [app_nil] at kkn
                    have HG := Lib.hid (And.intro kkn (And.intro g1 (And.intro g2 (And.intro c1 (And.intro inn (And.intro pos (And.intro hal hls)))))))
                    clear kkn g1 g2 c1 inn pos hal hls
                    go_wp2
                    obtain ⟨kkn, g1, g2, c1, inn, pos, hal, hls⟩ := HG.out
                    go_roundw
                    case rel => exact ⟨k + 1, y, i ++ ic, o, N, at_ ++ List.replicate ic.size N, by omega, by go_num, rfl, rfl, by simpa using HO9.out, HL9.out, hnext.out, kkn, inn, by simp [ByteArray.size_append, hal], g1, g2.trans hls, c1, hN.out.2, pos⟩
                    case measure => simp [intOf]; omega
            · have ez := hin0.out k0
              subst ez
              have hd0 : (p0 == 0) = false := by simpa using k0
              have h2 := hc3 k0
              obtain ⟨na, rfl⟩ : ∃ n : Nat, a0 = n := ⟨a0.toNat, by omega⟩
              have rx : w4.cell? ⟨bo, 0, none⟩ = some (.int .i64 p0) := (HX4.out.cell 0).trans rfl
              have ry : w4.cell? ⟨ao, 1, none⟩ = some (.string a1) := (HA.out.cell 1).trans rfl
              go_loop [12, 92] (fun av jv => ∃ j : Nat, j ≤ na ∧ jv = .int .i64 j ∧ av = .slice Aa at_.length ca) (fun _ jv => na - (intOf jv).toNat)
              case atStart => exact ⟨0, by omega, rfl, rfl⟩
              case round =>
                obtain ⟨j, hj, rfl, rfl⟩ := hrel
                by_cases hjz : j < na
                · go_wp2
                  go_round
                  case rel => exact ⟨j + 1, by omega, by go_num, rfl⟩
                  case measure => simp [intOf]; omega
                · have hnl : ¬ (j < na) := hjz
                  obtain rfl : j = na := by omega
                  have e0 : List.replicate (⟨#[]⟩ : ByteArray).size N = [] := rfl
                  rw [e0, List.append_nil] at hg1 hg4 hpos2
                  rw [app_nil] at hinn
                  have kkn := hkn.out
                  rw [app_nil] at kkn
                  have hM3 : o.size + a1.size ≤ at_.length := hg4
                  have hM4 : at_.length ≤ 2000 := by have := bytesOf_le l (k + 1); omega
                  have hlag := Lib.hid (show lag ≤ lagS x.c.l by omega)
                  have HG := Lib.hid (And.intro kkn (And.intro hg1 (And.intro hg2 (And.intro hc1 (And.intro hinn (And.intro hpos2 (And.intro hal hls)))))))
                  have H3 := Lib.hid hg3
                  clear kkn hg1 hg2 hg3 hg4 hc1 hc2 hc3 hinn hpos2 hal hls hpos hin hkn hia hin0 hoz hst' hil h2 hcd k0 hd0
                  have HLg := Lib.hid hlgL
                  clear hlgL
                  go_wp2
                  go_loop [11, 105] (fun ov jv => ∃ j m : Nat, j ≤ a1.size ∧ m = o.size + j ∧ jv = .int .i64 j ∧ ov = .int .i64 m) (fun _ jv => a1.size - (intOf jv).toNat)
                  case atStart => exact ⟨0, o.size, by omega, rfl, rfl, rfl⟩
                  case round =>
                    obtain ⟨q, m, hq, hm, rfl, rfl⟩ := hrel
                    by_cases hqz : q < a1.size
                    · have hml : m < at_.length := by omega
                      have hxt : at_[m]? = some at_[m] := List.getElem?_eq_getElem hml
                      obtain ⟨ga, cap2, e1, hcell⟩ := own_cellK HO4.out m _ hxt
                      injection e1 with e1 e2 e3
                      subst e1
                      have htp := HG.out.2.2.2.2.2.1 _ (List.getElem_mem hml)
                      have h33 := H3.out m _ (by omega) (by omega) hxt
                      generalize at_[m] = t at *
                      have hal1 := add_le' t lag htp (by have := HLg.out; omega)
                      have hdec : decide (N < Tick.add t lag) = false := decide_eq_false (by have := hlag.out; omega)
                      have hgq : decide ((at_.length : Int) ≤ (m : Int)) = false := decide_eq_false (by omega)
                      have hm' := Lib.hid hm
                      subst e3
                      clear hal1 h33 htp hm e2 hxt
                      go_wp2_with (go_at_call 12; (with_reducible refine (Ref01.add_any t lag _).mono ?_); rintro e w3 ⟨rfl, rfl⟩)
                      go_round
                      case rel => exact ⟨q + 1, m + 1, by omega, by have := hm'.out; omega, by go_num, by go_num⟩
                      case measure => simp [intOf]; omega
                    · have hnl : ¬ (q < a1.size) := hqz
                      obtain rfl : q = a1.size := by omega
                      go_wp2
                      obtain ⟨kkn, g1, g2, c1, inn, pos, hal, hls⟩ := HG.out
                      go_roundw
                      case rel => exact ⟨k + 1, y, i, o ++ a1, N, at_, by omega, by go_num, rfl, by rw [ByteArray.size_append, hm], HO4.out, HL4.out, hnext.out, kkn, inn, hal, by rw [ByteArray.size_append]; exact g1, g2.trans hls, c1, hN.out.2, pos⟩
                      case measure => simp [intOf]; omega
        · have hk2 : k = l.length := by omega
          subst hk2
          have hnl : ¬ (l.length < l.length) := by omega
          have hL' := Lib.hid hL
          clear hL hA
          go_wp2_with (go_at_call 8; (with_reducible refine (alive_any _).mono ?_); rintro e w2 ⟨rfl, hB2⟩; have HL2 := Lib.hid (hL'.out.below hB2); clear hB2)
          go_ret
          exact ⟨by simp, bw_below B0.out HL2.out.old⟩
theorem LinkLags_any (sv : Value) (L : List Tox) (up : Bool) (seed room : Int) (v : Value) (l : List Op) (w : World) (hs : Seats w sv L up seed room) (hv : Script w v l) :
    Calls Tryz.prog 5 #[sv, v] w fun e w' => e = .returned (.bool true) ∧ Below w.heap.size w w' := by
  obtain ⟨sa, sc, rfl, hs, h0, h1⟩ := hs
  by_cases hr : linkE L room = 0
  · cases h : fewK L.length l with
    | false => exact LinkLags_long sa sc L up seed room v l w hs h0 h1 hv hr h
    | true => exact LinkLags_yes sa sc L up seed room v l w hs h0 h1 hv hr h
  · exact LinkLags_none sa sc L up seed room v l w hs h0 h1 hv hr
end Go.Proofs.YtoiibmcbjjnpbaaGreat.Link
