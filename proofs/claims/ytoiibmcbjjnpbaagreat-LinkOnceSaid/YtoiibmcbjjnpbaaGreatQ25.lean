/- A link's Add (chapter 12). Conditions: as LinkB's. -/
import Derived.Maps.AppendAt
import Derived.Test.YtoiibmcbjjnpbaaGreatQ24
import Derived.Test.YtoiibmcbjjnpbaaGreatQ16
import Derived.Lib.SlBytesConst
namespace Go.Proofs.YtoiibmcbjjnpbaaGreat.Link
open Go.RowKit Mem Tick Cargo Toxic Stage Chain
open Go.Proofs.YtoiibmcbjjnpbaaGreatW.PrintLast Pu
set_option maxRecDepth 100000
set_option linter.unusedVariables false
set_option linter.unusedSimpArgs false
variable {w w' w1 : World} {F : Nat → Prop} {b : Nat} {x y : Lk} {M Q : Int}
theorem LKG.below {G : Nat → Prop} {c : Nat} {D : Lay} {v : Value} (h : LKG w F b x G c D v) (hb : Below w.heap.size w w') : LKG w' F b x G c D v := by
  have hl : ∀ j, F j → j < w.heap.size := fun j hj => h.lk.lt hj
  obtain ⟨h1, h2, h3, h4, h5⟩ := h
  exact ⟨h1.below hb, h2.below hb, h3, h4.kept fun j hj => hb.block j (hl j ((h5 j).2 (.inr (.inr hj)))), h5⟩
theorem LKG.far {G : Nat → Prop} {c : Nat} {D : Lay} {v : Value} (h : LKG w F b x G c D v) {g : Nat} {t : TypeId} {cs : Array Value} (hb : Blk w g t cs) (ht : t ∉ lts) (i : Nat) (u : Value) : LKG (w.setCell ⟨g, i, none⟩ u) F b x G c D v := by
  have hg : ¬ F g := h.lk.off hb ht
  obtain ⟨h1, h2, h3, h4, h5⟩ := h
  have hk : ∀ j, F j → (w.setCell ⟨g, i, none⟩ u).heap[j]? = w.heap[j]? := fun j hj => Below.heap_setCell w ⟨g, i, none⟩ u j fun e => hg (by have e' : j = g := e; exact e' ▸ hj)
  exact ⟨(hk b ((h5 b).2 (.inl rfl))).trans h1, h2.kept fun j hj => hk j ((h5 j).2 (.inr (.inl hj))), h3, h4.kept fun j hj => hk j ((h5 j).2 (.inr (.inr hj))), h5⟩
theorem add_bad (h : LK w F b x) (ho : OkK x M Q) (t0 : ByteArray) (t1 : Int) (t2 : Bool) (t3 t4 t5 now : Int) (hz : chk ⟨t0, t1, t2, t3, t4, t5⟩ ≠ 0) :
    Calls Tryz.prog 17 #[ptr b, .agg #[.string t0, .int .i64 t1, .bool t2, .int .i64 t3, .int .i64 t4, .int .i64 t5], .int .i64 now] w fun e w' => e = .returned (.int .i64 (chk ⟨t0, t1, t2, t3, t4, t5⟩)) ∧ LTu w F w' b (x) := by
  obtain ⟨G, c, D, v, h⟩ := h
  have hb0 := (Below.refl w.heap.size w).alloc (Nat.le_refl _) (.cells #[.string t0, .int .i64 t1, .bool t2, .int .i64 t3, .int .i64 t4, .int .i64 t5] 34)
  have hblk0 := Lib.hid (Blk.new w 34 #[.string t0, .int .i64 t1, .bool t2, .int .i64 t3, .int .i64 t4, .int .i64 t5])
  have hH0 := Lib.hid (h.below hb0)
  have hb0' := Lib.hid hb0
  have hck := Lib.hid (fun wy => check_any ⟨t0, t1, t2, t3, t4, t5⟩ wy)
  have hl0 := Lib.hid (LTu.refl h.lk)
  have tz : (chk ⟨t0, t1, t2, t3, t4, t5⟩ != 0) = true := by simpa using hz
  clear h hb0 ho hz
  generalize hE : chk ⟨t0, t1, t2, t3, t4, t5⟩ = E at *
  go_enter Tryz.func17, Tryz.ntmps17
  go_wp2_with fail
  refine (hck.out _).mono ?_
  rintro e w1 ⟨rfl, hB⟩
  have hB1 := Lib.hid (bw_below hb0'.out hB)
  have hblk1 := Lib.hid (hblk0.out.below hB)
  have hH1 := Lib.hid (hH0.out.below hB)
  clear hB hb0' hblk0 hH0 hck
  go_wp2
  refine start_ (n := 12) (S := fun w' => True) (ds := []) (m_ 12 0) (by kernel_rfl) rfl (by kernel_rfl) trivial (fun hHeld => ?_)
  refine pu_ 0 (some 14) (m_ 12 1) rfl rfl (by kernel_rfl) (fun _ _ _ h => h) (by rfl) (by intro w'; go_simp; with_reducible rfl) (by simp only [Act.put, List.setIfInBounds_toArray, List.set_cons_zero, List.set_cons_succ, i64_w, i32_w]; rfl) ?_
  refine pu_ 1 (some 15) (m_ 12 3) rfl rfl (by kernel_rfl) (fun _ _ _ h => h) (by rfl) (by intro w'; go_simp; with_reducible rfl) (by simp only [Act.put, List.setIfInBounds_toArray, List.set_cons_zero, List.set_cons_succ, i64_w, i32_w]; rfl) ?_
  refine pu_ 2 (some 16) (m_ 12 7) rfl rfl (by kernel_rfl) (fun _ _ _ h => h) (by rfl) (by intro w'; go_simp; with_reducible rfl) (by simp only [Act.put, List.setIfInBounds_toArray, List.set_cons_zero, List.set_cons_succ, i64_w, i32_w]; rfl) ?_
  refine po_ 3 (some 17) (m_ 12 15) rfl rfl (by kernel_rfl) (fun _ _ _ h => h) (by rfl) (by simp only [Act.put, List.setIfInBounds_toArray, List.set_cons_zero, List.set_cons_succ, i64_w, i32_w]; rfl) ?_
  refine po_ 4 (some 18) (m_ 12 31) rfl rfl (by kernel_rfl) (fun _ _ _ h => h) (by rfl) (by simp only [Act.put, List.setIfInBounds_toArray, List.set_cons_zero, List.set_cons_succ, i64_w, i32_w]; rfl) ?_
  refine po_ 5 (some 19) (m_ 12 63) rfl rfl (by kernel_rfl) (fun _ _ _ h => h) (by rfl) (by simp only [Act.put, List.setIfInBounds_toArray, List.set_cons_zero, List.set_cons_succ, i64_w, i32_w]; rfl) ?_
  refine po_ 6 (some 20) (m_ 12 127) rfl rfl (by kernel_rfl) (fun _ _ _ h => h) (by rfl) (by simp only [Act.put, List.setIfInBounds_toArray, List.set_cons_zero, List.set_cons_succ, i64_w, i32_w]; rfl) ?_
  refine po_ 7 (some 21) (m_ 12 255) rfl rfl (by kernel_rfl) (fun _ _ _ h => h) (by rfl) (by simp only [Act.put, List.setIfInBounds_toArray, List.set_cons_zero, List.set_cons_succ, i64_w, i32_w]; rfl) ?_
  refine po_ 8 (some 22) (m_ 12 511) rfl rfl (by kernel_rfl) (fun _ _ _ h => h) (by rfl) (by simp only [Act.put, List.setIfInBounds_toArray, List.set_cons_zero, List.set_cons_succ, i64_w, i32_w]; rfl) ?_
  refine po_ 9 (some 23) (m_ 12 1023) rfl rfl (by kernel_rfl) (fun _ _ _ h => h) (by rfl) (by simp only [Act.put, List.setIfInBounds_toArray, List.set_cons_zero, List.set_cons_succ, i64_w, i32_w]; rfl) ?_
  refine pu_ 10 (some 24) (m_ 12 2047) rfl rfl (by kernel_rfl) (fun _ _ _ h => h) (by rfl) (by intro w'; go_simp; with_reducible rfl) (by simp only [Act.put, List.setIfInBounds_toArray, List.set_cons_zero, List.set_cons_succ, i64_w, i32_w]; rfl) ?_
  refine pu_ 11 (some 13) (m_ 12 4095) rfl rfl (by kernel_rfl) (fun _ _ _ h => h) (by rfl) (by intro w'; go_simp; with_reducible rfl) (by simp only [Act.put, List.setIfInBounds_toArray, List.set_cons_zero, List.set_cons_succ, i64_w, i32_w]; rfl) ?_
  refine done_ (by kernel_rfl) ?_
  clear hHeld
  have hr := Lib.hid (show LTu w F w1.drew b x from hl0.out.trans (fun F' hL => LTu.below (w := w) hL hB1.out.drew))
  clear hH1 hblk1 hB1
  go_wp2
  go_ret
  exact ⟨rfl, hr.out⟩
theorem add_other (h : LK w F b x) (ho : OkK x M Q) (t0 : ByteArray) (t1 : Int) (t2 : Bool) (t3 t4 t5 now : Int) (hz : chk ⟨t0, t1, t2, t3, t4, t5⟩ = 0) (hu : t2 ≠ x.up) :
    Calls Tryz.prog 17 #[ptr b, .agg #[.string t0, .int .i64 t1, .bool t2, .int .i64 t3, .int .i64 t4, .int .i64 t5], .int .i64 now] w fun e w' => e = .returned (.int .i64 (0)) ∧ LTu w F w' b (x) := by
  obtain ⟨G, c, D, v, h⟩ := h
  have hb0 := (Below.refl w.heap.size w).alloc (Nat.le_refl _) (.cells #[.string t0, .int .i64 t1, .bool t2, .int .i64 t3, .int .i64 t4, .int .i64 t5] 34)
  have hblk0 := Lib.hid (Blk.new w 34 #[.string t0, .int .i64 t1, .bool t2, .int .i64 t3, .int .i64 t4, .int .i64 t5])
  have hH0 := Lib.hid (h.below hb0)
  have hb0' := Lib.hid hb0
  have hck := Lib.hid (fun wy => check_any ⟨t0, t1, t2, t3, t4, t5⟩ wy)
  have hl0 := Lib.hid (LTu.refl h.lk)
  have tu : (t2 != x.up) = true := by simpa using hu
  have tu2 : (t2 == x.up) = false := by simpa using hu
  rw [hz] at hck
  clear h hb0 ho hz hu
  go_enter Tryz.func17, Tryz.ntmps17
  go_wp2_with fail
  refine (hck.out _).mono ?_
  rintro e w1 ⟨rfl, hB⟩
  have hB1 := Lib.hid (bw_below hb0'.out hB)
  have hblk1 := Lib.hid (hblk0.out.below hB)
  have hH1 := Lib.hid (hH0.out.below hB)
  clear hB hb0' hblk0 hH0 hck
  have e2 : w1.cell? ⟨w.heap.size, 2, none⟩ = some (.bool t2) := (hblk1.out.cell 2).trans rfl
  have d2 : w1.cell? ⟨b, 2, none⟩ = some (.bool x.up) := (hH1.out.cell 2).trans rfl
  go_wp2
  refine start_ (n := 12) (S := fun w' => w'.cell? ⟨w.heap.size, 2, none⟩ = some (.bool t2) ∧ w'.cell? ⟨b, 2, none⟩ = some (.bool x.up)) (ds := []) (m_ 12 0) (by kernel_rfl) rfl (by kernel_rfl) ⟨e2, d2⟩ (fun hHeld => ?_)
  refine pu_ 0 (some 14) (m_ 12 1) rfl rfl (by kernel_rfl) (fun _ _ _ h => h) (by rfl) (by intro w'; go_simp; with_reducible rfl) (by simp only [Act.put, List.setIfInBounds_toArray, List.set_cons_zero, List.set_cons_succ, i64_w, i32_w]; rfl) ?_
  refine pu_ 1 (some 15) (m_ 12 3) rfl rfl (by kernel_rfl) (fun _ _ _ h => h) (by rfl) (by intro w'; go_simp; with_reducible rfl) (by simp only [Act.put, List.setIfInBounds_toArray, List.set_cons_zero, List.set_cons_succ, i64_w, i32_w]; rfl) ?_
  refine pu_ 2 (some 16) (m_ 12 7) rfl rfl (by kernel_rfl) (fun _ _ _ h => h) (by rfl) (by intro w'; go_simp; with_reducible rfl) (by simp only [Act.put, List.setIfInBounds_toArray, List.set_cons_zero, List.set_cons_succ, i64_w, i32_w]; rfl) ?_
  refine pu_ 3 (some 17) (m_ 12 15) rfl rfl (by kernel_rfl) (fun _ _ _ h => h) (by rfl) (by intro w'; go_simp; with_reducible rfl) (by simp only [Act.put, List.setIfInBounds_toArray, List.set_cons_zero, List.set_cons_succ, i64_w, i32_w]; rfl) ?_
  refine pu_ 5 (some 19) (m_ 12 47) rfl rfl (by kernel_rfl) (fun _ _ _ h => h) (by rfl) (by intro w'; go_simp; with_reducible rfl) (by simp only [Act.put, List.setIfInBounds_toArray, List.set_cons_zero, List.set_cons_succ, i64_w, i32_w]; rfl) ?_
  refine pu_ 6 (some 20) (m_ 12 111) rfl rfl (by kernel_rfl) (fun _ _ _ h => h) (by rfl) (by intro w'; go_simp; with_reducible rfl) (by simp only [Act.put, List.setIfInBounds_toArray, List.set_cons_zero, List.set_cons_succ, i64_w, i32_w]; rfl) ?_
  refine pu_ 7 (some 21) (m_ 12 239) rfl rfl (by kernel_rfl) (fun _ _ _ h => h) (by rfl) (by intro w'; go_simp; with_reducible rfl) (by simp only [Act.put, List.setIfInBounds_toArray, List.set_cons_zero, List.set_cons_succ, i64_w, i32_w]; rfl) ?_
  refine tk_ 4 (some 18) (m_ 12 255) rfl rfl (by kernel_rfl) (fun _ _ _ h => h) (by rfl) (by rintro w' ⟨s0, s1⟩; go_simp; with_reducible rfl) hHeld (by simp only [Act.put, List.setIfInBounds_toArray, List.set_cons_zero, List.set_cons_succ, i64_w, i32_w]; rfl) ?_
  refine tk_ 8 (some 22) (m_ 12 511) rfl rfl (by kernel_rfl) (fun _ _ _ h => h) (by rfl) (by rintro w' ⟨s0, s1⟩; go_simp; with_reducible rfl) hHeld (by simp only [Act.put, List.setIfInBounds_toArray, List.set_cons_zero, List.set_cons_succ, i64_w, i32_w]; rfl) ?_
  refine pu_ 9 (some 23) (m_ 12 1023) rfl rfl (by kernel_rfl) (fun _ _ _ h => h) (by rfl) (by intro w'; go_simp; with_reducible rfl) (by simp only [Act.put, List.setIfInBounds_toArray, List.set_cons_zero, List.set_cons_succ, i64_w, i32_w]; rfl) ?_
  refine pu_ 10 (some 24) (m_ 12 2047) rfl rfl (by kernel_rfl) (fun _ _ _ h => h) (by rfl) (by intro w'; go_simp; with_reducible rfl) (by simp only [Act.put, List.setIfInBounds_toArray, List.set_cons_zero, List.set_cons_succ, i64_w, i32_w]; rfl) ?_
  refine pu_ 11 (some 13) (m_ 12 4095) rfl rfl (by kernel_rfl) (fun _ _ _ h => h) (by rfl) (by intro w'; go_simp; with_reducible rfl) (by simp only [Act.put, List.setIfInBounds_toArray, List.set_cons_zero, List.set_cons_succ, i64_w, i32_w]; rfl) ?_
  refine done_ (by kernel_rfl) ?_
  clear hHeld e2 d2
  have hr := Lib.hid (show LTu w F w1.drew b x from hl0.out.trans (fun F' hL => LTu.below (w := w) hL hB1.out.drew))
  clear hH1 hblk1 hB1
  go_wp2
  go_ret
  exact ⟨rfl, hr.out⟩
theorem add_there (h : LK w F b x) (ho : OkK x M Q) (t0 : ByteArray) (t1 : Int) (t2 : Bool) (t3 t4 t5 now : Int) (hz : chk ⟨t0, t1, t2, t3, t4, t5⟩ = 0) (hu : t2 = x.up) (hi : (idxN x.names t0).isSome = true) :
    Calls Tryz.prog 17 #[ptr b, .agg #[.string t0, .int .i64 t1, .bool t2, .int .i64 t3, .int .i64 t4, .int .i64 t5], .int .i64 now] w fun e w' => e = .returned (.int .i64 (141)) ∧ LTu w F w' b (x) := by
  obtain ⟨G, c, D, v, h⟩ := h
  have hb0 := (Below.refl w.heap.size w).alloc (Nat.le_refl _) (.cells #[.string t0, .int .i64 t1, .bool t2, .int .i64 t3, .int .i64 t4, .int .i64 t5] 34)
  have hblk0 := Lib.hid (Blk.new w 34 #[.string t0, .int .i64 t1, .bool t2, .int .i64 t3, .int .i64 t4, .int .i64 t5])
  have hH0 := Lib.hid (h.below hb0)
  have hb0' := Lib.hid hb0
  have hck := Lib.hid (fun wy => check_any ⟨t0, t1, t2, t3, t4, t5⟩ wy)
  have hl0 := Lib.hid (LTu.refl h.lk)
  have hvs := h.2.2.2.1.sr
  obtain ⟨A0, cp0, hv, _⟩ := hvs
  subst hv
  have tu : (t2 != x.up) = false := by rw [hu]; simp
  have tu2 : (t2 == x.up) = true := by rw [hu]; simp
  rw [hz] at hck
  have hnl : x.names.length ≤ 8 := by have := ho.n; have := ho.c.ten; omega
  have ho' := Lib.hid ho
  have his := hi
  clear h hb0 ho hz hu hi
  go_enter Tryz.func17, Tryz.ntmps17
  go_wp2_with fail
  refine (hck.out _).mono ?_
  rintro e w1 ⟨rfl, hB⟩
  have hB1 := Lib.hid (bw_below hb0'.out hB)
  have hblk1 := Lib.hid (hblk0.out.below hB)
  have hH1 := Lib.hid (hH0.out.below hB)
  clear hB hb0' hblk0 hH0 hck
  have e2 : w1.cell? ⟨w.heap.size, 2, none⟩ = some (.bool t2) := (hblk1.out.cell 2).trans rfl
  have d2 : w1.cell? ⟨b, 2, none⟩ = some (.bool x.up) := (hH1.out.cell 2).trans rfl
  have d1 : w1.cell? ⟨b, 1, none⟩ = some (.slice A0 x.names.length cp0) := (hH1.out.cell 1).trans rfl
  have e0 : w1.cell? ⟨w.heap.size, 0, none⟩ = some (.string t0) := (hblk1.out.cell 0).trans rfl
  have hco := Lib.hid (contains_any w1.drew.drew (.slice A0 x.names.length cp0) x.names t0 (show SR w1.drew.drew _ _ from (hH1.out.2.2.2.1).sr) (by omega))
  go_wp2
  refine start_ (n := 12) (S := fun w' => w'.cell? ⟨w.heap.size, 2, none⟩ = some (.bool t2) ∧ w'.cell? ⟨b, 2, none⟩ = some (.bool x.up)) (ds := []) (m_ 12 0) (by kernel_rfl) rfl (by kernel_rfl) ⟨e2, d2⟩ (fun hHeld => ?_)
  refine pu_ 0 (some 14) (m_ 12 1) rfl rfl (by kernel_rfl) (fun _ _ _ h => h) (by rfl) (by intro w'; go_simp; with_reducible rfl) (by simp only [Act.put, List.setIfInBounds_toArray, List.set_cons_zero, List.set_cons_succ, i64_w, i32_w]; rfl) ?_
  refine pu_ 1 (some 15) (m_ 12 3) rfl rfl (by kernel_rfl) (fun _ _ _ h => h) (by rfl) (by intro w'; go_simp; with_reducible rfl) (by simp only [Act.put, List.setIfInBounds_toArray, List.set_cons_zero, List.set_cons_succ, i64_w, i32_w]; rfl) ?_
  refine pu_ 2 (some 16) (m_ 12 7) rfl rfl (by kernel_rfl) (fun _ _ _ h => h) (by rfl) (by intro w'; go_simp; with_reducible rfl) (by simp only [Act.put, List.setIfInBounds_toArray, List.set_cons_zero, List.set_cons_succ, i64_w, i32_w]; rfl) ?_
  refine pu_ 3 (some 17) (m_ 12 15) rfl rfl (by kernel_rfl) (fun _ _ _ h => h) (by rfl) (by intro w'; go_simp; with_reducible rfl) (by simp only [Act.put, List.setIfInBounds_toArray, List.set_cons_zero, List.set_cons_succ, i64_w, i32_w]; rfl) ?_
  refine pu_ 5 (some 19) (m_ 12 47) rfl rfl (by kernel_rfl) (fun _ _ _ h => h) (by rfl) (by intro w'; go_simp; with_reducible rfl) (by simp only [Act.put, List.setIfInBounds_toArray, List.set_cons_zero, List.set_cons_succ, i64_w, i32_w]; rfl) ?_
  refine pu_ 6 (some 20) (m_ 12 111) rfl rfl (by kernel_rfl) (fun _ _ _ h => h) (by rfl) (by intro w'; go_simp; with_reducible rfl) (by simp only [Act.put, List.setIfInBounds_toArray, List.set_cons_zero, List.set_cons_succ, i64_w, i32_w]; rfl) ?_
  refine pu_ 7 (some 21) (m_ 12 239) rfl rfl (by kernel_rfl) (fun _ _ _ h => h) (by rfl) (by intro w'; go_simp; with_reducible rfl) (by simp only [Act.put, List.setIfInBounds_toArray, List.set_cons_zero, List.set_cons_succ, i64_w, i32_w]; rfl) ?_
  refine tk_ 4 (some 18) (m_ 12 255) rfl rfl (by kernel_rfl) (fun _ _ _ h => h) (by rfl) (by rintro w' ⟨s0, s1⟩; go_simp; with_reducible rfl) hHeld (by simp only [Act.put, List.setIfInBounds_toArray, List.set_cons_zero, List.set_cons_succ, i64_w, i32_w]; rfl) ?_
  refine tk_ 8 (some 22) (m_ 12 511) rfl rfl (by kernel_rfl) (fun _ _ _ h => h) (by rfl) (by rintro w' ⟨s0, s1⟩; go_simp; with_reducible rfl) hHeld (by simp only [Act.put, List.setIfInBounds_toArray, List.set_cons_zero, List.set_cons_succ, i64_w, i32_w]; rfl) ?_
  refine pu_ 9 (some 23) (m_ 12 1023) rfl rfl (by kernel_rfl) (fun _ _ _ h => h) (by rfl) (by intro w'; go_simp; with_reducible rfl) (by simp only [Act.put, List.setIfInBounds_toArray, List.set_cons_zero, List.set_cons_succ, i64_w, i32_w]; rfl) ?_
  refine pu_ 10 (some 24) (m_ 12 2047) rfl rfl (by kernel_rfl) (fun _ _ _ h => h) (by rfl) (by intro w'; go_simp; with_reducible rfl) (by simp only [Act.put, List.setIfInBounds_toArray, List.set_cons_zero, List.set_cons_succ, i64_w, i32_w]; rfl) ?_
  refine pu_ 11 (some 13) (m_ 12 4095) rfl rfl (by kernel_rfl) (fun _ _ _ h => h) (by rfl) (by intro w'; go_simp; with_reducible rfl) (by simp only [Act.put, List.setIfInBounds_toArray, List.set_cons_zero, List.set_cons_succ, i64_w, i32_w]; rfl) ?_
  refine done_ (by kernel_rfl) ?_
  clear hHeld
  go_wp2
  refine start_ (n := 8) (S := fun w' => w'.cell? ⟨b, 1, none⟩ = some (.slice A0 x.names.length cp0) ∧ w'.cell? ⟨w.heap.size, 0, none⟩ = some (.string t0)) (ds := []) (m_ 8 0) (by kernel_rfl) rfl (by kernel_rfl) ⟨d1, e0⟩ (fun hHeld => ?_)
  refine pu_ 0 (some 27) (m_ 8 1) rfl rfl (by kernel_rfl) (fun _ _ _ h => h) (by rfl) (by intro w'; go_simp; with_reducible rfl) (by simp only [Act.put, List.setIfInBounds_toArray, List.set_cons_zero, List.set_cons_succ, i64_w, i32_w]; rfl) ?_
  refine pu_ 1 (some 28) (m_ 8 3) rfl rfl (by kernel_rfl) (fun _ _ _ h => h) (by rfl) (by intro w'; go_simp; with_reducible rfl) (by simp only [Act.put, List.setIfInBounds_toArray, List.set_cons_zero, List.set_cons_succ, i64_w, i32_w]; rfl) ?_
  refine pu_ 2 (some 29) (m_ 8 7) rfl rfl (by kernel_rfl) (fun _ _ _ h => h) (by rfl) (by intro w'; go_simp; with_reducible rfl) (by simp only [Act.put, List.setIfInBounds_toArray, List.set_cons_zero, List.set_cons_succ, i64_w, i32_w]; rfl) ?_
  refine pu_ 4 (some 31) (m_ 8 23) rfl rfl (by kernel_rfl) (fun _ _ _ h => h) (by rfl) (by intro w'; go_simp; with_reducible rfl) (by simp only [Act.put, List.setIfInBounds_toArray, List.set_cons_zero, List.set_cons_succ, i64_w, i32_w]; rfl) ?_
  refine tk_ 3 (some 30) (m_ 8 31) rfl rfl (by kernel_rfl) (fun _ _ _ h => h) (by rfl) (by rintro w' ⟨s0, s1⟩; go_simp; with_reducible rfl) hHeld (by simp only [Act.put, List.setIfInBounds_toArray, List.set_cons_zero, List.set_cons_succ, i64_w, i32_w]; rfl) ?_
  refine tk_ 5 (some 32) (m_ 8 63) rfl rfl (by kernel_rfl) (fun _ _ _ h => h) (by rfl) (by rintro w' ⟨s0, s1⟩; go_simp; with_reducible rfl) hHeld (by simp only [Act.put, List.setIfInBounds_toArray, List.set_cons_zero, List.set_cons_succ, i64_w, i32_w]; rfl) ?_
  refine one_ (i := 6) (N := some 33) (m_ 8 127) rfl rfl (by kernel_rfl) (by decide) (fun K hK => ?_)
  refine goes_ Tryz.func33 (by kernel_rfl) rfl #[.slice A0 x.names.length cp0, .string t0] (by rfl) rfl rfl (by simp only [List.map_toArray, List.map_cons, List.map_nil]; rfl) ?_
  with_reducible refine (hco.out).mono ?_
  rintro e w2 ⟨rfl, rfl⟩
  rw [his]
  refine ⟨_, rfl, ?_⟩
  refine hK.out _ _ ⟨d1, e0⟩ (fun hHeld => ?_)
  clear hK K
  refine norm_ (a' := ?_) ?_ ?_
  rotate_left
  · show Act.put _ (some 33) _ = _
    simp only [Act.put, List.setIfInBounds_toArray, List.set_cons_zero, List.set_cons_succ, i64_w, i32_w]
    rfl
  refine pu_ 7 (some 26) (m_ 8 255) rfl rfl (by kernel_rfl) (fun _ _ _ h => h) (by rfl) (by intro w'; go_simp; with_reducible rfl) (by simp only [Act.put, List.setIfInBounds_toArray, List.set_cons_zero, List.set_cons_succ, i64_w, i32_w]; rfl) ?_
  refine done_ (by kernel_rfl) ?_
  clear hHeld e2 d2 d1 e0 hco
  have hr := Lib.hid (show LTu w F w1.drew.drew b x from hl0.out.trans (fun F' hL => LTu.below (w := w) hL hB1.out.drew.drew))
  clear hH1 hblk1 hB1
  go_wp2
  go_ret
  exact ⟨rfl, hr.out⟩
theorem add_full (h : LK w F b x) (ho : OkK x M Q) (t0 : ByteArray) (t1 : Int) (t2 : Bool) (t3 t4 t5 now : Int) (hz : chk ⟨t0, t1, t2, t3, t4, t5⟩ = 0) (hu : t2 = x.up) (hi : (idxN x.names t0).isSome = false) (hf : 8 ≤ x.names.length) :
    Calls Tryz.prog 17 #[ptr b, .agg #[.string t0, .int .i64 t1, .bool t2, .int .i64 t3, .int .i64 t4, .int .i64 t5], .int .i64 now] w fun e w' => e = .returned (.int .i64 (110)) ∧ LTu w F w' b (x) := by
  obtain ⟨G, c, D, v, h⟩ := h
  have hb0 := (Below.refl w.heap.size w).alloc (Nat.le_refl _) (.cells #[.string t0, .int .i64 t1, .bool t2, .int .i64 t3, .int .i64 t4, .int .i64 t5] 34)
  have hblk0 := Lib.hid (Blk.new w 34 #[.string t0, .int .i64 t1, .bool t2, .int .i64 t3, .int .i64 t4, .int .i64 t5])
  have hH0 := Lib.hid (h.below hb0)
  have hb0' := Lib.hid hb0
  have hck := Lib.hid (fun wy => check_any ⟨t0, t1, t2, t3, t4, t5⟩ wy)
  have hl0 := Lib.hid (LTu.refl h.lk)
  have hvs := h.2.2.2.1.sr
  obtain ⟨A0, cp0, hv, _⟩ := hvs
  subst hv
  have tu : (t2 != x.up) = false := by rw [hu]; simp
  have tu2 : (t2 == x.up) = true := by rw [hu]; simp
  rw [hz] at hck
  have hnl : x.names.length ≤ 8 := by have := ho.n; have := ho.c.ten; omega
  have ho' := Lib.hid ho
  have his := hi
  have tf : decide ((8 : Int) ≤ (x.names.length : Int)) = true := decide_eq_true (by omega)
  clear h hb0 ho hz hu hi
  go_enter Tryz.func17, Tryz.ntmps17
  go_wp2_with fail
  refine (hck.out _).mono ?_
  rintro e w1 ⟨rfl, hB⟩
  have hB1 := Lib.hid (bw_below hb0'.out hB)
  have hblk1 := Lib.hid (hblk0.out.below hB)
  have hH1 := Lib.hid (hH0.out.below hB)
  clear hB hb0' hblk0 hH0 hck
  have e2 : w1.cell? ⟨w.heap.size, 2, none⟩ = some (.bool t2) := (hblk1.out.cell 2).trans rfl
  have d2 : w1.cell? ⟨b, 2, none⟩ = some (.bool x.up) := (hH1.out.cell 2).trans rfl
  have d1 : w1.cell? ⟨b, 1, none⟩ = some (.slice A0 x.names.length cp0) := (hH1.out.cell 1).trans rfl
  have e0 : w1.cell? ⟨w.heap.size, 0, none⟩ = some (.string t0) := (hblk1.out.cell 0).trans rfl
  have hco := Lib.hid (contains_any w1.drew.drew (.slice A0 x.names.length cp0) x.names t0 (show SR w1.drew.drew _ _ from (hH1.out.2.2.2.1).sr) (by omega))
  go_wp2
  refine start_ (n := 12) (S := fun w' => w'.cell? ⟨w.heap.size, 2, none⟩ = some (.bool t2) ∧ w'.cell? ⟨b, 2, none⟩ = some (.bool x.up)) (ds := []) (m_ 12 0) (by kernel_rfl) rfl (by kernel_rfl) ⟨e2, d2⟩ (fun hHeld => ?_)
  refine pu_ 0 (some 14) (m_ 12 1) rfl rfl (by kernel_rfl) (fun _ _ _ h => h) (by rfl) (by intro w'; go_simp; with_reducible rfl) (by simp only [Act.put, List.setIfInBounds_toArray, List.set_cons_zero, List.set_cons_succ, i64_w, i32_w]; rfl) ?_
  refine pu_ 1 (some 15) (m_ 12 3) rfl rfl (by kernel_rfl) (fun _ _ _ h => h) (by rfl) (by intro w'; go_simp; with_reducible rfl) (by simp only [Act.put, List.setIfInBounds_toArray, List.set_cons_zero, List.set_cons_succ, i64_w, i32_w]; rfl) ?_
  refine pu_ 2 (some 16) (m_ 12 7) rfl rfl (by kernel_rfl) (fun _ _ _ h => h) (by rfl) (by intro w'; go_simp; with_reducible rfl) (by simp only [Act.put, List.setIfInBounds_toArray, List.set_cons_zero, List.set_cons_succ, i64_w, i32_w]; rfl) ?_
  refine pu_ 3 (some 17) (m_ 12 15) rfl rfl (by kernel_rfl) (fun _ _ _ h => h) (by rfl) (by intro w'; go_simp; with_reducible rfl) (by simp only [Act.put, List.setIfInBounds_toArray, List.set_cons_zero, List.set_cons_succ, i64_w, i32_w]; rfl) ?_
  refine pu_ 5 (some 19) (m_ 12 47) rfl rfl (by kernel_rfl) (fun _ _ _ h => h) (by rfl) (by intro w'; go_simp; with_reducible rfl) (by simp only [Act.put, List.setIfInBounds_toArray, List.set_cons_zero, List.set_cons_succ, i64_w, i32_w]; rfl) ?_
  refine pu_ 6 (some 20) (m_ 12 111) rfl rfl (by kernel_rfl) (fun _ _ _ h => h) (by rfl) (by intro w'; go_simp; with_reducible rfl) (by simp only [Act.put, List.setIfInBounds_toArray, List.set_cons_zero, List.set_cons_succ, i64_w, i32_w]; rfl) ?_
  refine pu_ 7 (some 21) (m_ 12 239) rfl rfl (by kernel_rfl) (fun _ _ _ h => h) (by rfl) (by intro w'; go_simp; with_reducible rfl) (by simp only [Act.put, List.setIfInBounds_toArray, List.set_cons_zero, List.set_cons_succ, i64_w, i32_w]; rfl) ?_
  refine tk_ 4 (some 18) (m_ 12 255) rfl rfl (by kernel_rfl) (fun _ _ _ h => h) (by rfl) (by rintro w' ⟨s0, s1⟩; go_simp; with_reducible rfl) hHeld (by simp only [Act.put, List.setIfInBounds_toArray, List.set_cons_zero, List.set_cons_succ, i64_w, i32_w]; rfl) ?_
  refine tk_ 8 (some 22) (m_ 12 511) rfl rfl (by kernel_rfl) (fun _ _ _ h => h) (by rfl) (by rintro w' ⟨s0, s1⟩; go_simp; with_reducible rfl) hHeld (by simp only [Act.put, List.setIfInBounds_toArray, List.set_cons_zero, List.set_cons_succ, i64_w, i32_w]; rfl) ?_
  refine pu_ 9 (some 23) (m_ 12 1023) rfl rfl (by kernel_rfl) (fun _ _ _ h => h) (by rfl) (by intro w'; go_simp; with_reducible rfl) (by simp only [Act.put, List.setIfInBounds_toArray, List.set_cons_zero, List.set_cons_succ, i64_w, i32_w]; rfl) ?_
  refine pu_ 10 (some 24) (m_ 12 2047) rfl rfl (by kernel_rfl) (fun _ _ _ h => h) (by rfl) (by intro w'; go_simp; with_reducible rfl) (by simp only [Act.put, List.setIfInBounds_toArray, List.set_cons_zero, List.set_cons_succ, i64_w, i32_w]; rfl) ?_
  refine pu_ 11 (some 13) (m_ 12 4095) rfl rfl (by kernel_rfl) (fun _ _ _ h => h) (by rfl) (by intro w'; go_simp; with_reducible rfl) (by simp only [Act.put, List.setIfInBounds_toArray, List.set_cons_zero, List.set_cons_succ, i64_w, i32_w]; rfl) ?_
  refine done_ (by kernel_rfl) ?_
  clear hHeld
  go_wp2
  refine start_ (n := 8) (S := fun w' => w'.cell? ⟨b, 1, none⟩ = some (.slice A0 x.names.length cp0) ∧ w'.cell? ⟨w.heap.size, 0, none⟩ = some (.string t0)) (ds := []) (m_ 8 0) (by kernel_rfl) rfl (by kernel_rfl) ⟨d1, e0⟩ (fun hHeld => ?_)
  refine pu_ 0 (some 27) (m_ 8 1) rfl rfl (by kernel_rfl) (fun _ _ _ h => h) (by rfl) (by intro w'; go_simp; with_reducible rfl) (by simp only [Act.put, List.setIfInBounds_toArray, List.set_cons_zero, List.set_cons_succ, i64_w, i32_w]; rfl) ?_
  refine pu_ 1 (some 28) (m_ 8 3) rfl rfl (by kernel_rfl) (fun _ _ _ h => h) (by rfl) (by intro w'; go_simp; with_reducible rfl) (by simp only [Act.put, List.setIfInBounds_toArray, List.set_cons_zero, List.set_cons_succ, i64_w, i32_w]; rfl) ?_
  refine pu_ 2 (some 29) (m_ 8 7) rfl rfl (by kernel_rfl) (fun _ _ _ h => h) (by rfl) (by intro w'; go_simp; with_reducible rfl) (by simp only [Act.put, List.setIfInBounds_toArray, List.set_cons_zero, List.set_cons_succ, i64_w, i32_w]; rfl) ?_
  refine pu_ 4 (some 31) (m_ 8 23) rfl rfl (by kernel_rfl) (fun _ _ _ h => h) (by rfl) (by intro w'; go_simp; with_reducible rfl) (by simp only [Act.put, List.setIfInBounds_toArray, List.set_cons_zero, List.set_cons_succ, i64_w, i32_w]; rfl) ?_
  refine tk_ 3 (some 30) (m_ 8 31) rfl rfl (by kernel_rfl) (fun _ _ _ h => h) (by rfl) (by rintro w' ⟨s0, s1⟩; go_simp; with_reducible rfl) hHeld (by simp only [Act.put, List.setIfInBounds_toArray, List.set_cons_zero, List.set_cons_succ, i64_w, i32_w]; rfl) ?_
  refine tk_ 5 (some 32) (m_ 8 63) rfl rfl (by kernel_rfl) (fun _ _ _ h => h) (by rfl) (by rintro w' ⟨s0, s1⟩; go_simp; with_reducible rfl) hHeld (by simp only [Act.put, List.setIfInBounds_toArray, List.set_cons_zero, List.set_cons_succ, i64_w, i32_w]; rfl) ?_
  refine one_ (i := 6) (N := some 33) (m_ 8 127) rfl rfl (by kernel_rfl) (by decide) (fun K hK => ?_)
  refine goes_ Tryz.func33 (by kernel_rfl) rfl #[.slice A0 x.names.length cp0, .string t0] (by rfl) rfl rfl (by simp only [List.map_toArray, List.map_cons, List.map_nil]; rfl) ?_
  with_reducible refine (hco.out).mono ?_
  rintro e w2 ⟨rfl, rfl⟩
  rw [his]
  refine ⟨_, rfl, ?_⟩
  refine hK.out _ _ ⟨d1, e0⟩ (fun hHeld => ?_)
  clear hK K
  refine norm_ (a' := ?_) ?_ ?_
  rotate_left
  · show Act.put _ (some 33) _ = _
    simp only [Act.put, List.setIfInBounds_toArray, List.set_cons_zero, List.set_cons_succ, i64_w, i32_w]
    rfl
  refine pu_ 7 (some 26) (m_ 8 255) rfl rfl (by kernel_rfl) (fun _ _ _ h => h) (by rfl) (by intro w'; go_simp; with_reducible rfl) (by simp only [Act.put, List.setIfInBounds_toArray, List.set_cons_zero, List.set_cons_succ, i64_w, i32_w]; rfl) ?_
  refine done_ (by kernel_rfl) ?_
  clear hHeld e2 d2 e0 hco
  have hr := Lib.hid (show LTu w F w1.drew.drew b x from hl0.out.trans (fun F' hL => LTu.below (w := w) hL hB1.out.drew.drew))
  clear hH1 hblk1 hB1
  go_wp2
  go_ret
  exact ⟨rfl, hr.out⟩
theorem LKG.drew {G : Nat → Prop} {c : Nat} {D : Lay} {v : Value} (h : LKG w F b x G c D v) : LKG w.drew F b x G c D v := h.below (Below.refl _ _).drew
theorem drawn_w (n : Int) (h0 : 0 ≤ n) (h1 : n ≤ 1000000000) : IntKind.u64.wrap n = n ∧ wrap64 (n + 1) = n + 1 := by
  constructor
  · rw [IntKind.wrap_u64]; omega
  · unfold wrap64; omega
theorem nums_one (w : World) (n : Int) (h0 : 0 ≤ n) (h1 : n ≤ 1000000000) : Ref02.Nums .u64 (w.alloc (.cells #[.int .u64 n] 23)) (.slice (some ⟨w.heap.size, 0, none⟩) 1 1) [n] := by
  refine ⟨_, 1, 1, rfl, rfl, (by show (1 : Nat) ≤ 9223372036854775807; decide), fun y hy => ?_, fun _ => ⟨w.heap.size, 0, rfl, fun j y hj => ?_⟩, fun e => by cases e⟩
  · rw [List.mem_singleton.1 hy]
    unfold Lit.wf
    rw [Bool.and_eq_true, decide_eq_true_eq, decide_eq_true_eq]
    have e1 : IntKind.u64.min = 0 := by decide
    have e2 : IntKind.u64.max = 18446744073709551615 := by decide
    rw [e1, e2]
    omega
  · rw [Nat.zero_add]
    rcases j with _ | j
    · cases hj
      exact (Blk.new w 23 #[.int .u64 n]).cell 0
    · simp at hj
theorem own_slice {base : Nat} {e : TypeId} {size : Nat} {v : Value} {n : Nat} {xs : List Value} (h : w.ownsRow base e size v n xs) : ∃ A c, v = .slice A n c := by
  rcases h.2 with ⟨rfl, h0⟩ | ⟨g, cap, cur, rfl, _⟩
  · exact ⟨none, 0, by rw [h0]⟩
  · exact ⟨_, cap, rfl⟩
theorem grow_b {G : Nat → Prop} {c : Nat} {D : Lay} {v : Value} {w8 : World} {o : Obj} (h : LKG w F b x G c D v) (hg : (w.alloc o).grownBy w8 v.ownBlock) : w8.heap[b]? = w.heap[b]? := by
  have hb := h.1
  refine (hg.block b (by simp; have := hb.lt; omega) (fun e => ?_)).trans (Below.heap_alloc w o b hb.lt)
  obtain ⟨cs, hvb⟩ := h.2.2.2.1.typed e.symm
  exact absurd (hb.ty hvb) (by decide)
theorem frozen_of_block {w8 : World} {i : Nat} (h : w8.heap[b]? = w.heap[b]?) : w8.frozen? ⟨b, i, none⟩ = w.frozen? ⟨b, i, none⟩ := by
  simp [World.frozen?, h]
set_option maxHeartbeats 2000000 in
theorem add_in (h : LK w F b x) (ho : OkK x M Q) (t0 : ByteArray) (t1 : Int) (t2 : Bool) (t3 t4 t5 now : Int) (hz : chk ⟨t0, t1, t2, t3, t4, t5⟩ = 0) (hu : t2 = x.up) (hi : (idxN x.names t0).isSome = false) (hf : x.names.length < 8) :
    Calls Tryz.prog 17 #[ptr b, .agg #[.string t0, .int .i64 t1, .bool t2, .int .i64 t3, .int .i64 t4, .int .i64 t5], .int .i64 now] w fun e w' => e = .returned (.int .i64 (0)) ∧ LTu w F w' b (addK x ⟨t0, t1, t2, t3, t4, t5⟩ now) := by
  obtain ⟨G, c, D, v, h⟩ := h
  have hb0 := (Below.refl w.heap.size w).alloc (Nat.le_refl _) (.cells #[.string t0, .int .i64 t1, .bool t2, .int .i64 t3, .int .i64 t4, .int .i64 t5] 34)
  have hblk0 := Lib.hid (Blk.new w 34 #[.string t0, .int .i64 t1, .bool t2, .int .i64 t3, .int .i64 t4, .int .i64 t5])
  have hH0 := Lib.hid (h.below hb0)
  have hb0' := Lib.hid hb0
  have hck := Lib.hid (fun wy => check_any ⟨t0, t1, t2, t3, t4, t5⟩ wy)
  have hl0 := Lib.hid (LTu.refl h.lk)
  have hvs := h.2.2.2.1.sr
  obtain ⟨A0, cp0, hv, _⟩ := hvs
  subst hv
  have tu : (t2 != x.up) = false := by rw [hu]; simp
  have tu2 : (t2 == x.up) = true := by rw [hu]; simp
  rw [hz] at hck
  have hnl : x.names.length ≤ 8 := by have := ho.n; have := ho.c.ten; omega
  have ho' := Lib.hid ho
  have his := hi
  have tf : decide ((8 : Int) ≤ (x.names.length : Int)) = false := decide_eq_false (by omega)
  have hdw := Lib.hid (drawn_w x.drawn ho.d0 ho.d1)
  have hoc := Lib.hid ho.c
  have hadds : addsB x ⟨t0, t1, t2, t3, t4, t5⟩ = true := by
    unfold addsB
    rw [decide_eq_true (show chk ⟨t0, t1, t2, t3, t4, t5⟩ = 0 ∧ t2 = x.up from ⟨hz, hu⟩), hi, decide_eq_true hf]
    rfl
  have hadd : Hid (∀ T, drawK x ⟨t0, t1, t2, t3, t4, t5⟩ = T → addK x ⟨t0, t1, t2, t3, t4, t5⟩ now = { x with c := insC x.c x.names.length T (Ref02.stepI (dieK x)) now, names := x.names ++ [t0], drawn := x.drawn + 1 }) := Lib.hid (fun T e => by unfold addK; rw [if_pos hadds, e])
  have hstr0 := Lib.hid (fun (wy : World) => Dice.stream_any x.seed (.slice (some ⟨wy.heap.size, 0, none⟩) 1 1) [x.drawn] (wy.alloc (.cells #[.int .u64 x.drawn] 23)).drew ho.s0 ho.s1 ((nums_one wy x.drawn ho.d0 ho.d1).below (Below.refl _ _).drew))
  clear h hb0 ho hz hu hi hadds
  go_enter Tryz.func17, Tryz.ntmps17
  go_wp2_with fail
  refine (hck.out _).mono ?_
  rintro e w1 ⟨rfl, hB⟩
  have hB1 := Lib.hid (bw_below hb0'.out hB)
  have hblk1 := Lib.hid (hblk0.out.below hB)
  have hH1 := Lib.hid (hH0.out.below hB)
  clear hB hb0' hblk0 hH0 hck
  have e2 : w1.cell? ⟨w.heap.size, 2, none⟩ = some (.bool t2) := (hblk1.out.cell 2).trans rfl
  have d2 : w1.cell? ⟨b, 2, none⟩ = some (.bool x.up) := (hH1.out.cell 2).trans rfl
  have d1 : w1.cell? ⟨b, 1, none⟩ = some (.slice A0 x.names.length cp0) := (hH1.out.cell 1).trans rfl
  have e0 : w1.cell? ⟨w.heap.size, 0, none⟩ = some (.string t0) := (hblk1.out.cell 0).trans rfl
  have hco := Lib.hid (contains_any w1.drew.drew (.slice A0 x.names.length cp0) x.names t0 (show SR w1.drew.drew _ _ from (hH1.out.2.2.2.1).sr) (by omega))
  go_wp2
  refine start_ (n := 12) (S := fun w' => w'.cell? ⟨w.heap.size, 2, none⟩ = some (.bool t2) ∧ w'.cell? ⟨b, 2, none⟩ = some (.bool x.up)) (ds := []) (m_ 12 0) (by kernel_rfl) rfl (by kernel_rfl) ⟨e2, d2⟩ (fun hHeld => ?_)
  refine pu_ 0 (some 14) (m_ 12 1) rfl rfl (by kernel_rfl) (fun _ _ _ h => h) (by rfl) (by intro w'; go_simp; with_reducible rfl) (by simp only [Act.put, List.setIfInBounds_toArray, List.set_cons_zero, List.set_cons_succ, i64_w, i32_w]; rfl) ?_
  refine pu_ 1 (some 15) (m_ 12 3) rfl rfl (by kernel_rfl) (fun _ _ _ h => h) (by rfl) (by intro w'; go_simp; with_reducible rfl) (by simp only [Act.put, List.setIfInBounds_toArray, List.set_cons_zero, List.set_cons_succ, i64_w, i32_w]; rfl) ?_
  refine pu_ 2 (some 16) (m_ 12 7) rfl rfl (by kernel_rfl) (fun _ _ _ h => h) (by rfl) (by intro w'; go_simp; with_reducible rfl) (by simp only [Act.put, List.setIfInBounds_toArray, List.set_cons_zero, List.set_cons_succ, i64_w, i32_w]; rfl) ?_
  refine pu_ 3 (some 17) (m_ 12 15) rfl rfl (by kernel_rfl) (fun _ _ _ h => h) (by rfl) (by intro w'; go_simp; with_reducible rfl) (by simp only [Act.put, List.setIfInBounds_toArray, List.set_cons_zero, List.set_cons_succ, i64_w, i32_w]; rfl) ?_
  refine pu_ 5 (some 19) (m_ 12 47) rfl rfl (by kernel_rfl) (fun _ _ _ h => h) (by rfl) (by intro w'; go_simp; with_reducible rfl) (by simp only [Act.put, List.setIfInBounds_toArray, List.set_cons_zero, List.set_cons_succ, i64_w, i32_w]; rfl) ?_
  refine pu_ 6 (some 20) (m_ 12 111) rfl rfl (by kernel_rfl) (fun _ _ _ h => h) (by rfl) (by intro w'; go_simp; with_reducible rfl) (by simp only [Act.put, List.setIfInBounds_toArray, List.set_cons_zero, List.set_cons_succ, i64_w, i32_w]; rfl) ?_
  refine pu_ 7 (some 21) (m_ 12 239) rfl rfl (by kernel_rfl) (fun _ _ _ h => h) (by rfl) (by intro w'; go_simp; with_reducible rfl) (by simp only [Act.put, List.setIfInBounds_toArray, List.set_cons_zero, List.set_cons_succ, i64_w, i32_w]; rfl) ?_
  refine tk_ 4 (some 18) (m_ 12 255) rfl rfl (by kernel_rfl) (fun _ _ _ h => h) (by rfl) (by rintro w' ⟨s0, s1⟩; go_simp; with_reducible rfl) hHeld (by simp only [Act.put, List.setIfInBounds_toArray, List.set_cons_zero, List.set_cons_succ, i64_w, i32_w]; rfl) ?_
  refine tk_ 8 (some 22) (m_ 12 511) rfl rfl (by kernel_rfl) (fun _ _ _ h => h) (by rfl) (by rintro w' ⟨s0, s1⟩; go_simp; with_reducible rfl) hHeld (by simp only [Act.put, List.setIfInBounds_toArray, List.set_cons_zero, List.set_cons_succ, i64_w, i32_w]; rfl) ?_
  refine pu_ 9 (some 23) (m_ 12 1023) rfl rfl (by kernel_rfl) (fun _ _ _ h => h) (by rfl) (by intro w'; go_simp; with_reducible rfl) (by simp only [Act.put, List.setIfInBounds_toArray, List.set_cons_zero, List.set_cons_succ, i64_w, i32_w]; rfl) ?_
  refine pu_ 10 (some 24) (m_ 12 2047) rfl rfl (by kernel_rfl) (fun _ _ _ h => h) (by rfl) (by intro w'; go_simp; with_reducible rfl) (by simp only [Act.put, List.setIfInBounds_toArray, List.set_cons_zero, List.set_cons_succ, i64_w, i32_w]; rfl) ?_
  refine pu_ 11 (some 13) (m_ 12 4095) rfl rfl (by kernel_rfl) (fun _ _ _ h => h) (by rfl) (by intro w'; go_simp; with_reducible rfl) (by simp only [Act.put, List.setIfInBounds_toArray, List.set_cons_zero, List.set_cons_succ, i64_w, i32_w]; rfl) ?_
  refine done_ (by kernel_rfl) ?_
  clear hHeld
  go_wp2
  refine start_ (n := 8) (S := fun w' => w'.cell? ⟨b, 1, none⟩ = some (.slice A0 x.names.length cp0) ∧ w'.cell? ⟨w.heap.size, 0, none⟩ = some (.string t0)) (ds := []) (m_ 8 0) (by kernel_rfl) rfl (by kernel_rfl) ⟨d1, e0⟩ (fun hHeld => ?_)
  refine pu_ 0 (some 27) (m_ 8 1) rfl rfl (by kernel_rfl) (fun _ _ _ h => h) (by rfl) (by intro w'; go_simp; with_reducible rfl) (by simp only [Act.put, List.setIfInBounds_toArray, List.set_cons_zero, List.set_cons_succ, i64_w, i32_w]; rfl) ?_
  refine pu_ 1 (some 28) (m_ 8 3) rfl rfl (by kernel_rfl) (fun _ _ _ h => h) (by rfl) (by intro w'; go_simp; with_reducible rfl) (by simp only [Act.put, List.setIfInBounds_toArray, List.set_cons_zero, List.set_cons_succ, i64_w, i32_w]; rfl) ?_
  refine pu_ 2 (some 29) (m_ 8 7) rfl rfl (by kernel_rfl) (fun _ _ _ h => h) (by rfl) (by intro w'; go_simp; with_reducible rfl) (by simp only [Act.put, List.setIfInBounds_toArray, List.set_cons_zero, List.set_cons_succ, i64_w, i32_w]; rfl) ?_
  refine pu_ 4 (some 31) (m_ 8 23) rfl rfl (by kernel_rfl) (fun _ _ _ h => h) (by rfl) (by intro w'; go_simp; with_reducible rfl) (by simp only [Act.put, List.setIfInBounds_toArray, List.set_cons_zero, List.set_cons_succ, i64_w, i32_w]; rfl) ?_
  refine tk_ 3 (some 30) (m_ 8 31) rfl rfl (by kernel_rfl) (fun _ _ _ h => h) (by rfl) (by rintro w' ⟨s0, s1⟩; go_simp; with_reducible rfl) hHeld (by simp only [Act.put, List.setIfInBounds_toArray, List.set_cons_zero, List.set_cons_succ, i64_w, i32_w]; rfl) ?_
  refine tk_ 5 (some 32) (m_ 8 63) rfl rfl (by kernel_rfl) (fun _ _ _ h => h) (by rfl) (by rintro w' ⟨s0, s1⟩; go_simp; with_reducible rfl) hHeld (by simp only [Act.put, List.setIfInBounds_toArray, List.set_cons_zero, List.set_cons_succ, i64_w, i32_w]; rfl) ?_
  refine one_ (i := 6) (N := some 33) (m_ 8 127) rfl rfl (by kernel_rfl) (by decide) (fun K hK => ?_)
  refine goes_ Tryz.func33 (by kernel_rfl) rfl #[.slice A0 x.names.length cp0, .string t0] (by rfl) rfl rfl (by simp only [List.map_toArray, List.map_cons, List.map_nil]; rfl) ?_
  with_reducible refine (hco.out).mono ?_
  rintro e w2 ⟨rfl, rfl⟩
  rw [his]
  refine ⟨_, rfl, ?_⟩
  refine hK.out _ _ ⟨d1, e0⟩ (fun hHeld => ?_)
  clear hK K
  refine norm_ (a' := ?_) ?_ ?_
  rotate_left
  · show Act.put _ (some 33) _ = _
    simp only [Act.put, List.setIfInBounds_toArray, List.set_cons_zero, List.set_cons_succ, i64_w, i32_w]
    rfl
  refine pu_ 7 (some 26) (m_ 8 255) rfl rfl (by kernel_rfl) (fun _ _ _ h => h) (by rfl) (by intro w'; go_simp; with_reducible rfl) (by simp only [Act.put, List.setIfInBounds_toArray, List.set_cons_zero, List.set_cons_succ, i64_w, i32_w]; rfl) ?_
  refine done_ (by kernel_rfl) ?_
  clear hHeld e2 d2 e0 hco
  have hB2 := Lib.hid (show Below w.heap.size w w1.drew.drew from hB1.out.drew.drew)
  have H2 := Lib.hid (hH1.out.drew.drew)
  have hq2 := Lib.hid (hblk1.out.below ((Below.refl _ _).drew.drew))
  clear hB1 hH1 hblk1 d1
  generalize w1.drew.drew = W1 at *
  have d1 : W1.cell? ⟨b, 1, none⟩ = some (.slice A0 x.names.length cp0) := (H2.out.cell 1).trans rfl
  have k3 : W1.cell? ⟨b, 3, none⟩ = some (.int .u64 x.seed) := (H2.out.cell 3).trans rfl
  have k4 : W1.cell? ⟨b, 4, none⟩ = some (.int .i64 x.drawn) := (H2.out.cell 4).trans rfl
  have k5 : W1.cell? ⟨w.heap.size, 3, none⟩ = some (.int .i64 t3) := (hq2.out.cell 3).trans rfl
  have hcw := hdw.out.1
  have hstr := Lib.hid (hstr0.out W1)
  go_wp2
  refine start_ (n := 19) (S := fun w' => w'.cell? ⟨b, 3, none⟩ = some (.int .u64 x.seed) ∧ w'.cell? ⟨b, 4, none⟩ = some (.int .i64 x.drawn) ∧ w'.cell? ⟨w.heap.size, 3, none⟩ = some (.int .i64 t3)) (ds := []) (m_ 19 0) (by kernel_rfl) rfl (by kernel_rfl) ⟨k3, k4, k5⟩ (fun hHeld => ?_)
  refine pu_ 0 (some 42) (m_ 19 1) rfl rfl (by kernel_rfl) (fun _ _ _ h => h) (by rfl) (by intro w'; go_simp; with_reducible rfl) (by simp only [Act.put, List.setIfInBounds_toArray, List.set_cons_zero, List.set_cons_succ, i64_w, i32_w]; rfl) ?_
  refine pu_ 1 (some 43) (m_ 19 3) rfl rfl (by kernel_rfl) (fun _ _ _ h => h) (by rfl) (by intro w'; go_simp; with_reducible rfl) (by simp only [Act.put, List.setIfInBounds_toArray, List.set_cons_zero, List.set_cons_succ, i64_w, i32_w]; rfl) ?_
  refine pu_ 2 (some 44) (m_ 19 7) rfl rfl (by kernel_rfl) (fun _ _ _ h => h) (by rfl) (by intro w'; go_simp; with_reducible rfl) (by simp only [Act.put, List.setIfInBounds_toArray, List.set_cons_zero, List.set_cons_succ, i64_w, i32_w]; rfl) ?_
  refine pu_ 4 (some 46) (m_ 19 23) rfl rfl (by kernel_rfl) (fun _ _ _ h => h) (by rfl) (by intro w'; go_simp; with_reducible rfl) (by simp only [Act.put, List.setIfInBounds_toArray, List.set_cons_zero, List.set_cons_succ, i64_w, i32_w]; rfl) ?_
  refine pu_ 5 (some 47) (m_ 19 55) rfl rfl (by kernel_rfl) (fun _ _ _ h => h) (by rfl) (by intro w'; go_simp; with_reducible rfl) (by simp only [Act.put, List.setIfInBounds_toArray, List.set_cons_zero, List.set_cons_succ, i64_w, i32_w]; rfl) ?_
  refine pu_ 6 (some 48) (m_ 19 119) rfl rfl (by kernel_rfl) (fun _ _ _ h => h) (by rfl) (by intro w'; go_simp; with_reducible rfl) (by simp only [Act.put, List.setIfInBounds_toArray, List.set_cons_zero, List.set_cons_succ, i64_w, i32_w]; rfl) ?_
  refine pu_ 11 (some 53) (m_ 19 2167) rfl rfl (by kernel_rfl) (fun _ _ _ h => h) (by rfl) (by intro w'; go_simp; with_reducible rfl) (by simp only [Act.put, List.setIfInBounds_toArray, List.set_cons_zero, List.set_cons_succ, i64_w, i32_w]; rfl) ?_
  refine tk_ 3 (some 45) (m_ 19 2175) rfl rfl (by kernel_rfl) (fun _ _ _ h => h) (by rfl) (by rintro w' ⟨s0, s1, s2⟩; go_simp; with_reducible rfl) hHeld (by simp only [Act.put, List.setIfInBounds_toArray, List.set_cons_zero, List.set_cons_succ, i64_w, i32_w]; rfl) ?_
  refine tk_ 7 (some 49) (m_ 19 2303) rfl rfl (by kernel_rfl) (fun _ _ _ h => h) (by rfl) (by rintro w' ⟨s0, s1, s2⟩; go_simp; with_reducible rfl) hHeld (by simp only [Act.put, List.setIfInBounds_toArray, List.set_cons_zero, List.set_cons_succ, i64_w, i32_w]; rfl) ?_
  refine pu_ 8 (some 50) (m_ 19 2559) rfl rfl (by kernel_rfl) (fun _ _ _ h => h) (by rfl) (by intro w'; go_simp; with_reducible rfl) (by simp only [Act.put, List.setIfInBounds_toArray, List.set_cons_zero, List.set_cons_succ, i64_w, i32_w]; rfl) ?_
  refine tk_ 12 (some 54) (m_ 19 6655) rfl rfl (by kernel_rfl) (fun _ _ _ h => h) (by rfl) (by rintro w' ⟨s0, s1, s2⟩; go_simp; with_reducible rfl) hHeld (by simp only [Act.put, List.setIfInBounds_toArray, List.set_cons_zero, List.set_cons_succ, i64_w, i32_w]; rfl) ?_
  refine one_ (i := 9) (N := some 51) (m_ 19 7167) rfl rfl (by kernel_rfl) (by decide) (fun K hK => ?_)
  refine value_ (w1 := ?_) (v := ?_) (by rfl) rfl ?_ ?_
  rotate_left 2
  · go_simp
    constructor
    · rfl
    · rfl
  have j3 := bcells (((Below.refl W1.heap.size W1).alloc (Nat.le_refl _) (.cells #[.int .u64 x.drawn] 23)).drew) k3
  have j4 := bcells (((Below.refl W1.heap.size W1).alloc (Nat.le_refl _) (.cells #[.int .u64 x.drawn] 23)).drew) k4
  have j5 := bcells (((Below.refl W1.heap.size W1).alloc (Nat.le_refl _) (.cells #[.int .u64 x.drawn] 23)).drew) k5
  refine hK.out _ _ ⟨j3, j4, j5⟩ (fun hHeld => ?_)
  clear hK K
  refine norm_ (a' := ?_) ?_ ?_
  rotate_left
  · show Act.put _ (some 51) _ = _
    simp only [Act.put, List.setIfInBounds_toArray, List.set_cons_zero, List.set_cons_succ, i64_w, i32_w]
    rfl
  refine one_ (i := 10) (N := some 52) (m_ 19 8191) rfl rfl (by kernel_rfl) (by decide) (fun K hK => ?_)
  refine goes_ Tryz.func35 (by kernel_rfl) rfl #[.int .u64 x.seed, .slice (some ⟨W1.heap.size, 0, none⟩) 1 1] (by rfl) rfl rfl (by simp only [List.map_toArray, List.map_cons, List.map_nil]; rfl) ?_
  with_reducible refine (hstr.out).mono ?_
  rintro e w3 ⟨rfl, hB⟩
  have i3 := bcells hB j3
  have i4 := bcells hB j4
  have i5 := bcells hB j5
  have hB3 := Lib.hid ((((Below.refl W1.heap.size W1).alloc (Nat.le_refl _) (.cells #[.int .u64 x.drawn] 23)).drew).trans (hB.mono (by show W1.heap.size ≤ (W1.alloc (.cells #[.int .u64 x.drawn] 23)).heap.size; simp)))
  clear hB j3 j4 j5
  refine ⟨_, rfl, ?_⟩
  refine hK.out _ _ ⟨i3, i4, i5⟩ (fun hHeld => ?_)
  clear hK K
  refine norm_ (a' := ?_) ?_ ?_
  rotate_left
  · show Act.put _ (some 52) _ = _
    simp only [Act.put, List.setIfInBounds_toArray, List.set_cons_zero, List.set_cons_succ, i64_w, i32_w]
    rfl
  refine one_ (i := 13) (N := some 55) (m_ 19 16383) rfl rfl (by kernel_rfl) (by decide) (fun K hK => ?_)
  refine goes_ Tryz.func34 (by kernel_rfl) rfl #[.int .u64 (Ref02.streamI (Ref02.mixI (Ref02.stepI x.seed)) [x.drawn]), .int .i64 t3] (by rfl) rfl rfl (by simp only [List.map_toArray, List.map_cons, List.map_nil]; rfl) ?_
  with_reducible refine ((Dice.percent_any _ t3 w3)).mono ?_
  rintro e w4 ⟨rfl, rfl⟩
  refine ⟨_, rfl, ?_⟩
  refine hK.out _ _ ⟨i3, i4, i5⟩ (fun hHeld => ?_)
  clear hK K
  refine norm_ (a' := ?_) ?_ ?_
  rotate_left
  · show Act.put _ (some 55) _ = _
    simp only [Act.put, List.setIfInBounds_toArray, List.set_cons_zero, List.set_cons_succ, i64_w, i32_w]
    rfl
  refine pu_ 14 (some 41) (m_ 19 32767) rfl rfl (by kernel_rfl) (fun _ _ _ h => h) (by rfl) (by intro w'; go_simp; with_reducible rfl) (by simp only [Act.put, List.setIfInBounds_toArray, List.set_cons_zero, List.set_cons_succ, i64_w, i32_w]; rfl) ?_
  refine pu_ 15 (some 56) (m_ 19 65535) rfl rfl (by kernel_rfl) (fun _ _ _ h => h) (by rfl) (by intro w'; go_simp; with_reducible rfl) (by simp only [Act.put, List.setIfInBounds_toArray, List.set_cons_zero, List.set_cons_succ, i64_w, i32_w]; rfl) ?_
  refine pu_ 16 (some 57) (m_ 19 131071) rfl rfl (by kernel_rfl) (fun _ _ _ h => h) (by rfl) (by intro w'; go_simp; with_reducible rfl) (by simp only [Act.put, List.setIfInBounds_toArray, List.set_cons_zero, List.set_cons_succ, i64_w, i32_w]; rfl) ?_
  refine pu_ 17 (some 8) (m_ 19 262143) rfl rfl (by kernel_rfl) (fun _ _ _ h => h) (by rfl) (by intro w'; go_simp; with_reducible rfl) (by simp only [Act.put, List.setIfInBounds_toArray, List.set_cons_zero, List.set_cons_succ, i64_w, i32_w]; rfl) ?_
  refine pu_ 18 (some 9) (m_ 19 524287) rfl rfl (by kernel_rfl) (fun _ _ _ h => h) (by rfl) (by intro w'; go_simp; with_reducible rfl) (by simp only [Act.put, List.setIfInBounds_toArray, List.set_cons_zero, List.set_cons_succ, i64_w, i32_w]; rfl) ?_
  refine done_ (by kernel_rfl) ?_
  clear hHeld k3 k4 k5 hstr hstr0 i3 i4 i5 d1
  have H3 := Lib.hid (H2.out.below hB3.out)
  have hq3 := Lib.hid (hq2.out.below hB3.out)
  have hBw := Lib.hid (hB2.out.trans (hB3.out.mono hB2.out.size))
  clear H2 hq2 hB2 hB3 hcw
  have d4 : w3.cell? ⟨b, 4, none⟩ = some (.int .i64 x.drawn) := (H3.out.cell 4).trans rfl
  have f4 := H3.out.free 4
  have u0 : w3.cell? ⟨w.heap.size, 0, none⟩ = some (.string t0) := (hq3.out.cell 0).trans rfl
  have hbne : b ≠ w.heap.size := H3.out.1.ne hq3.out (by decide)
  have hset5 := H3.out.set 4 (.int .i64 (x.drawn + 1)) { x with drawn := x.drawn + 1 } rfl rfl rfl
  have H5 := Lib.hid hset5.1
  have hq5 := Lib.hid (hq3.out.far (p := ⟨b, 4, none⟩) (fun e => hbne e.symm) (.int .i64 (x.drawn + 1)))
  have hD5 := Lib.hid (show Did F w (w3.setCell ⟨b, 4, none⟩ (.int .i64 (x.drawn + 1))) ∧ Stem F F w from by
    obtain ⟨F0, hL0, hd0, hs0⟩ := hl0.out
    exact ⟨(Did.of_below hBw.out).setCell (p := ⟨b, 4, none⟩) (.inl hset5.2) _, Stem.refl _ _⟩)
  have hdw2 := hdw.out.2
  have hdie0 : Hid (Ref02.hiI (Ref02.streamI (Ref02.mixI (Ref02.stepI x.seed)) [x.drawn]) 100 = Ref02.hiI (dieK x) 100) := Lib.hid rfl
  have hst0 : Hid (Ref02.stepI (Ref02.streamI (Ref02.mixI (Ref02.stepI x.seed)) [x.drawn]) = Ref02.stepI (dieK x)) := Lib.hid rfl
  rw [hdie0.out, hst0.out]
  clear H3 hq3 hset5 hBw
  generalize hst : Ref02.stepI (dieK x) = st
  have hst := Lib.hid hst
  by_cases hdie : Ref02.hiI (dieK x) 100 < t3
  · have td : decide (Ref02.hiI (dieK x) 100 < t3) = true := decide_eq_true hdie
    have hdk : Hid (drawK x ⟨t0, t1, t2, t3, t4, t5⟩ = ⟨t0, t1, t2, t3, t4, t5⟩) := Lib.hid (by unfold drawK; rw [if_pos hdie])
    clear hdie
    go_wp2
    have H6 := H5
    have hq6 := hq5
    have hD6 := hD5
    clear H5 hq5 hD5 d4 f4 u0 hdw2
    generalize w3.setCell ⟨b, 4, none⟩ (.int .i64 (x.drawn + 1)) = w6 at *
    have r0 : w6.cell? ⟨b, 0, none⟩ = some (ptr c) := (H6.out.cell 0).trans rfl
    have r1 : w6.cell? ⟨b, 1, none⟩ = some (.slice A0 x.names.length cp0) := (H6.out.cell 1).trans rfl
    have u0 : w6.cell? ⟨w.heap.size, 0, none⟩ = some (.string t0) := (hq6.out.cell 0).trans rfl
    have u1 : w6.cell? ⟨w.heap.size, 1, none⟩ = some (.int .i64 t1) := (hq6.out.cell 1).trans rfl
    have u2 : w6.cell? ⟨w.heap.size, 2, none⟩ = some (.bool t2) := (hq6.out.cell 2).trans rfl
    have u3 : w6.cell? ⟨w.heap.size, 3, none⟩ = some (.int .i64 t3) := (hq6.out.cell 3).trans rfl
    have u4 : w6.cell? ⟨w.heap.size, 4, none⟩ = some (.int .i64 t4) := (hq6.out.cell 4).trans rfl
    have u5 : w6.cell? ⟨w.heap.size, 5, none⟩ = some (.int .i64 t5) := (hq6.out.cell 5).trans rfl
    have hins := Lib.hid (cInsert_any H6.out.drew.2.1 hoc.out H6.out.2.2.1 (x.names.length : Int) ⟨t0, t1, t2, t3, t4, t5⟩ st now)
    have hqb7 := Lib.hid (fun (w7 : World) (hd : Did F w6.drew w7) => Blk.did (w := w6.drew) hq6.out hd (H6.out.lk.off hq6.out (by decide)))
    refine start_ (n := 13) (S := fun w' => w'.cell? ⟨b, 0, none⟩ = some (ptr c) ∧ w'.cell? ⟨b, 1, none⟩ = some (.slice A0 x.names.length cp0) ∧ w'.cell? ⟨w.heap.size, 0, none⟩ = some (.string t0) ∧ w'.cell? ⟨w.heap.size, 1, none⟩ = some (.int .i64 t1) ∧ w'.cell? ⟨w.heap.size, 2, none⟩ = some (.bool t2) ∧ w'.cell? ⟨w.heap.size, 3, none⟩ = some (.int .i64 t3) ∧ w'.cell? ⟨w.heap.size, 4, none⟩ = some (.int .i64 t4) ∧ w'.cell? ⟨w.heap.size, 5, none⟩ = some (.int .i64 t5)) (ds := []) (m_ 13 0) (by kernel_rfl) rfl (by kernel_rfl) ⟨r0, r1, u0, u1, u2, u3, u4, u5⟩ (fun hHeld => ?_)
    refine pu_ 0 (some 70) (m_ 13 1) rfl rfl (by kernel_rfl) (fun _ _ _ h => h) (by rfl) (by intro w'; go_simp; with_reducible rfl) (by simp only [Act.put, List.setIfInBounds_toArray, List.set_cons_zero, List.set_cons_succ, i64_w, i32_w]; rfl) ?_
    refine pu_ 1 (some 71) (m_ 13 3) rfl rfl (by kernel_rfl) (fun _ _ _ h => h) (by rfl) (by intro w'; go_simp; with_reducible rfl) (by simp only [Act.put, List.setIfInBounds_toArray, List.set_cons_zero, List.set_cons_succ, i64_w, i32_w]; rfl) ?_
    refine pu_ 2 (some 72) (m_ 13 7) rfl rfl (by kernel_rfl) (fun _ _ _ h => h) (by rfl) (by intro w'; go_simp; with_reducible rfl) (by simp only [Act.put, List.setIfInBounds_toArray, List.set_cons_zero, List.set_cons_succ, i64_w, i32_w]; rfl) ?_
    refine pu_ 4 (some 74) (m_ 13 23) rfl rfl (by kernel_rfl) (fun _ _ _ h => h) (by rfl) (by intro w'; go_simp; with_reducible rfl) (by simp only [Act.put, List.setIfInBounds_toArray, List.set_cons_zero, List.set_cons_succ, i64_w, i32_w]; rfl) ?_
    refine pu_ 5 (some 75) (m_ 13 55) rfl rfl (by kernel_rfl) (fun _ _ _ h => h) (by rfl) (by intro w'; go_simp; with_reducible rfl) (by simp only [Act.put, List.setIfInBounds_toArray, List.set_cons_zero, List.set_cons_succ, i64_w, i32_w]; rfl) ?_
    refine pu_ 6 (some 76) (m_ 13 119) rfl rfl (by kernel_rfl) (fun _ _ _ h => h) (by rfl) (by intro w'; go_simp; with_reducible rfl) (by simp only [Act.put, List.setIfInBounds_toArray, List.set_cons_zero, List.set_cons_succ, i64_w, i32_w]; rfl) ?_
    refine pu_ 10 (some 80) (m_ 13 1143) rfl rfl (by kernel_rfl) (fun _ _ _ h => h) (by rfl) (by intro w'; go_simp; with_reducible rfl) (by simp only [Act.put, List.setIfInBounds_toArray, List.set_cons_zero, List.set_cons_succ, i64_w, i32_w]; rfl) ?_
    refine pu_ 11 (some 81) (m_ 13 3191) rfl rfl (by kernel_rfl) (fun _ _ _ h => h) (by rfl) (by intro w'; go_simp; with_reducible rfl) (by simp only [Act.put, List.setIfInBounds_toArray, List.set_cons_zero, List.set_cons_succ, i64_w, i32_w]; rfl) ?_
    refine tk_ 3 (some 73) (m_ 13 3199) rfl rfl (by kernel_rfl) (fun _ _ _ h => h) (by rfl) (by rintro w' ⟨s0, s1, s2, s3, s4, s5, s6, s7⟩; go_simp; with_reducible rfl) hHeld (by simp only [Act.put, List.setIfInBounds_toArray, List.set_cons_zero, List.set_cons_succ, i64_w, i32_w]; rfl) ?_
    refine tk_ 7 (some 77) (m_ 13 3327) rfl rfl (by kernel_rfl) (fun _ _ _ h => h) (by rfl) (by rintro w' ⟨s0, s1, s2, s3, s4, s5, s6, s7⟩; go_simp; with_reducible rfl) hHeld (by simp only [Act.put, List.setIfInBounds_toArray, List.set_cons_zero, List.set_cons_succ, i64_w, i32_w]; rfl) ?_
    refine pu_ 8 (some 78) (m_ 13 3583) rfl rfl (by kernel_rfl) (fun _ _ _ h => h) (by rfl) (by intro w'; go_simp; with_reducible rfl) (by simp only [Act.put, List.setIfInBounds_toArray, List.set_cons_zero, List.set_cons_succ, i64_w, i32_w]; rfl) ?_
    refine tk_ 9 (some 79) (m_ 13 4095) rfl rfl (by kernel_rfl) (fun _ _ _ h => h) (by rfl) (by rintro w' ⟨s0, s1, s2, s3, s4, s5, s6, s7⟩; go_simp; with_reducible rfl) hHeld (by simp only [Act.put, List.setIfInBounds_toArray, List.set_cons_zero, List.set_cons_succ, i64_w, i32_w]; rfl) ?_
    refine one_ (i := 12) (N := some 82) (m_ 13 8191) rfl rfl (by kernel_rfl) (by decide) (fun K hK => ?_)
    refine goes_ Tryz.func36 (by kernel_rfl) rfl #[ptr c, .int .i64 x.names.length, .agg #[.string t0, .int .i64 t1, .bool t2, .int .i64 t3, .int .i64 t4, .int .i64 t5], .int .u64 st, .int .i64 now] (by rfl) rfl rfl (by simp only [List.map_toArray, List.map_cons, List.map_nil]; rfl) ?_
    with_reducible refine (hins.out).mono ?_
    rintro e w7 ⟨rfl, hT⟩
    obtain ⟨F7, G7, D7, h7, hd7, hs7⟩ := H6.out.drew.turn hT
    have r0 : w7.cell? ⟨b, 0, none⟩ = some (ptr c) := (h7.cell 0).trans rfl
    have r1 : w7.cell? ⟨b, 1, none⟩ = some (.slice A0 x.names.length cp0) := (h7.cell 1).trans rfl
    have hq7 := hqb7.out w7 hd7
    have rq0 := (hq7.cell 0).trans rfl
    have rq1 := (hq7.cell 1).trans rfl
    have rq2 := (hq7.cell 2).trans rfl
    have rq3 := (hq7.cell 3).trans rfl
    have rq4 := (hq7.cell 4).trans rfl
    have rq5 := (hq7.cell 5).trans rfl
    simp only [List.getElem?_toArray, List.getElem?_cons_zero, List.getElem?_cons_succ] at rq0 rq1 rq2 rq3 rq4 rq5
    have H7 := Lib.hid h7
    have hDS7 := Lib.hid (And.intro hd7 hs7)
    clear hT h7 hd7 hs7 hq7
    refine ⟨_, rfl, ?_⟩
    refine hK.out _ _ ⟨r0, r1, rq0, rq1, rq2, rq3, rq4, rq5⟩ (fun hHeld => ?_)
    clear hK K
    refine norm_ (a' := ?_) ?_ ?_
    rotate_left
    · show Act.put _ (some 82) _ = _
      simp only [Act.put, List.setIfInBounds_toArray, List.set_cons_zero, List.set_cons_succ, i64_w, i32_w]
      rfl
    refine done_ (by kernel_rfl) ?_
    clear hHeld r0 r1 u0 u1 u2 u3 u4 u5 rq0 rq1 rq2 rq3 rq4 rq5
    have r1 : w7.cell? ⟨b, 1, none⟩ = some (.slice A0 x.names.length cp0) := (H7.out.cell 1).trans rfl
    have hown : w7.ownsRow 0 9 1 (.slice A0 x.names.length cp0) x.names.length (x.names.map Value.string) := (H7.out.2.2.2.1).owns
    have hsz7 : w.heap.size ≤ w7.heap.size := Nat.le_trans hD6.out.1.size hDS7.out.1.size
    obtain ⟨i0, hi1, hz0, hz1, hz2⟩ := info_parts info_st
    go_wp2_with (at_builtin; refine wpList_append_own_at _ rfl _ _ 51 rfl 0 9 i0 (.string ⟨#[]⟩) 1 16 Tryz.underlying51 hi1 hz0 hz1 hz2 rfl (by decide) _ _ _ rfl (hown.alloc _) ⟨w7.heap.size, 0, none⟩ 1 1 [.string t0] rfl rfl (cell_one_new _ _ _) (by simp [Value.oneCell']) (by unfold maxLen; omega) (by omega) (by omega) ?_; intro v' w8 hO hG _ hat; obtain ⟨A8, c8, rfl⟩ := own_slice hO; have hG' := Lib.hid hG; have hO' := Lib.hid hO; have hat' := Lib.hid hat; have b8 : w8.cell? ⟨b, 1, none⟩ = some (.slice A0 x.names.length cp0) := (World.cell?_of_block (a := ⟨b, 1, none⟩) (grow_b H7.out hG)).trans r1; have fb8 : w8.frozen? ⟨b, 1, none⟩ = false := (frozen_of_block (grow_b H7.out hG)).trans (H7.out.free 1); clear hG hO hat)
    have hD8 : Did (fun j => (Value.slice A0 x.names.length cp0).ownBlock = some j) w7 w8 := (((Did.refl _ w7).alloc _).trans (Stem.refl _ _) (Did.of_grown hG'.out (fun j e => .inl e)))
    have hN8 : NV w8 (.slice A8 (x.names.length + 1) c8) (x.names ++ [t0]) := NV.of_owns (base := 0) (by rw [List.length_append, List.map_append]; exact hO'.out)
    have hset := H7.out.names hD8 hN8 (fun j e => by
      rcases hat'.out with q | q
      · exact .inl (q ▸ e)
      · rw [q] at e
        injection e with e
        exact .inr (by rw [← e]; simp))
    have hr := Lib.hid (show LTu w F (w8.setCell ⟨b, 1, none⟩ (.slice A8 (x.names.length + 1) c8)) b (addK x ⟨t0, t1, t2, t3, t4, t5⟩ now) from by
      rw [hadd.out _ hdk.out, show Ref02.stepI (dieK x) = st from hst.out]
      exact LTu.next hD6.out.1 hD6.out.2 (LTu.next ((Did.refl F w6).drew.trans (Stem.refl _ _) hDS7.out.1) (show Stem F F7 w6 from fun j hj => hDS7.out.2 j hj) ⟨_, hset.1.lk, hset.2.1, hset.2.2⟩))
    clear hset hN8 hD8 hG' hO' hat' H7 hDS7 H6 hD6
    go_ret
    exact ⟨rfl, hr.out⟩
  · have td : decide (Ref02.hiI (dieK x) 100 < t3) = false := decide_eq_false hdie
    have hdk : Hid (drawK x ⟨t0, t1, t2, t3, t4, t5⟩ = ⟨⟨#[]⟩, 0, false, 0, 0, 0⟩) := Lib.hid (by unfold drawK; rw [if_neg hdie]; rfl)
    clear hdie
    have v0 := (hq5.out.cell 0).trans rfl
    have v1 := (hq5.out.cell 1).trans rfl
    have v2 := (hq5.out.cell 2).trans rfl
    have v3 := (hq5.out.cell 3).trans rfl
    have v4 := (hq5.out.cell 4).trans rfl
    have v5 := (hq5.out.cell 5).trans rfl
    simp only [List.getElem?_toArray, List.getElem?_cons_zero, List.getElem?_cons_succ] at v0 v1 v2 v3 v4 v5
    have fv0 := hq5.out.free 0
    have fv1 := hq5.out.free 1
    have fv2 := hq5.out.free 2
    have fv3 := hq5.out.free 3
    have fv4 := hq5.out.free 4
    have fv5 := hq5.out.free 5
    go_upto_region 12 with (fail)
    generalize hw5 : w3.setCell ⟨b, 4, none⟩ (.int .i64 (x.drawn + 1)) = w5 at *
    clear d4 f4 u0 hdw2
    have hb6 := (((((hq5.out.set_ 0 (.string ⟨#[]⟩)).set_ 1 (.int .i64 0)).set_ 2 (.bool false)).set_ 3 (.int .i64 0)).set_ 4 (.int .i64 0)).set_ 5 (.int .i64 0)
    have hq6 := Lib.hid (show Blk _ w.heap.size 34 #[.string ⟨#[]⟩, .int .i64 0, .bool false, .int .i64 0, .int .i64 0, .int .i64 0] from hb6)
    have k1 := H5.out.far hq5.out (by decide) 0 (.string ⟨#[]⟩)
    have b1 := hq5.out.set_ 0 (.string ⟨#[]⟩)
    have k2 := k1.far b1 (by decide) 1 (.int .i64 0)
    have b2 := b1.set_ 1 (.int .i64 0)
    have k3 := k2.far b2 (by decide) 2 (.bool false)
    have b3 := b2.set_ 2 (.bool false)
    have k4 := k3.far b3 (by decide) 3 (.int .i64 0)
    have b4 := b3.set_ 3 (.int .i64 0)
    have k5 := k4.far b4 (by decide) 4 (.int .i64 0)
    have b5 := b4.set_ 4 (.int .i64 0)
    have H6 := Lib.hid (k5.far b5 (by decide) 5 (.int .i64 0))
    have hD6 := Lib.hid (show Did F w _ ∧ Stem F F w from ⟨(((((hD5.out.1.setCell (p := ⟨w.heap.size, 0, none⟩) (.inr (Nat.le_refl _)) (.string ⟨#[]⟩)).setCell (p := ⟨w.heap.size, 1, none⟩) (.inr (Nat.le_refl _)) (.int .i64 0)).setCell (p := ⟨w.heap.size, 2, none⟩) (.inr (Nat.le_refl _)) (.bool false)).setCell (p := ⟨w.heap.size, 3, none⟩) (.inr (Nat.le_refl _)) (.int .i64 0)).setCell (p := ⟨w.heap.size, 4, none⟩) (.inr (Nat.le_refl _)) (.int .i64 0)).setCell (p := ⟨w.heap.size, 5, none⟩) (.inr (Nat.le_refl _)) (.int .i64 0), Stem.refl _ _⟩)
    clear hb6 k1 b1 k2 b2 k3 b3 k4 b4 k5 b5 H5 hq5 hD5
    go_wp2
    clear v0 v1 v2 v3 v4 v5 fv0 fv1 fv2 fv3 fv4 fv5
    generalize (((((w5.setCell ⟨w.heap.size, 0, none⟩ (.string ⟨#[]⟩)).setCell ⟨w.heap.size, 1, none⟩ (.int .i64 0)).setCell ⟨w.heap.size, 2, none⟩ (.bool false)).setCell ⟨w.heap.size, 3, none⟩ (.int .i64 0)).setCell ⟨w.heap.size, 4, none⟩ (.int .i64 0)).setCell ⟨w.heap.size, 5, none⟩ (.int .i64 0) = w6 at *
    have r0 : w6.cell? ⟨b, 0, none⟩ = some (ptr c) := (H6.out.cell 0).trans rfl
    have r1 : w6.cell? ⟨b, 1, none⟩ = some (.slice A0 x.names.length cp0) := (H6.out.cell 1).trans rfl
    have u0 : w6.cell? ⟨w.heap.size, 0, none⟩ = some (.string ⟨#[]⟩) := (hq6.out.cell 0).trans rfl
    have u1 : w6.cell? ⟨w.heap.size, 1, none⟩ = some (.int .i64 0) := (hq6.out.cell 1).trans rfl
    have u2 : w6.cell? ⟨w.heap.size, 2, none⟩ = some (.bool false) := (hq6.out.cell 2).trans rfl
    have u3 : w6.cell? ⟨w.heap.size, 3, none⟩ = some (.int .i64 0) := (hq6.out.cell 3).trans rfl
    have u4 : w6.cell? ⟨w.heap.size, 4, none⟩ = some (.int .i64 0) := (hq6.out.cell 4).trans rfl
    have u5 : w6.cell? ⟨w.heap.size, 5, none⟩ = some (.int .i64 0) := (hq6.out.cell 5).trans rfl
    have hins := Lib.hid (cInsert_any H6.out.drew.2.1 hoc.out H6.out.2.2.1 (x.names.length : Int) ⟨⟨#[]⟩, 0, false, 0, 0, 0⟩ st now)
    have hqb7 := Lib.hid (fun (w7 : World) (hd : Did F w6.drew w7) => Blk.did (w := w6.drew) hq6.out hd (H6.out.lk.off hq6.out (by decide)))
    refine start_ (n := 13) (S := fun w' => w'.cell? ⟨b, 0, none⟩ = some (ptr c) ∧ w'.cell? ⟨b, 1, none⟩ = some (.slice A0 x.names.length cp0) ∧ w'.cell? ⟨w.heap.size, 0, none⟩ = some (.string ⟨#[]⟩) ∧ w'.cell? ⟨w.heap.size, 1, none⟩ = some (.int .i64 0) ∧ w'.cell? ⟨w.heap.size, 2, none⟩ = some (.bool false) ∧ w'.cell? ⟨w.heap.size, 3, none⟩ = some (.int .i64 0) ∧ w'.cell? ⟨w.heap.size, 4, none⟩ = some (.int .i64 0) ∧ w'.cell? ⟨w.heap.size, 5, none⟩ = some (.int .i64 0)) (ds := []) (m_ 13 0) (by kernel_rfl) rfl (by kernel_rfl) ⟨r0, r1, u0, u1, u2, u3, u4, u5⟩ (fun hHeld => ?_)
    refine pu_ 0 (some 70) (m_ 13 1) rfl rfl (by kernel_rfl) (fun _ _ _ h => h) (by rfl) (by intro w'; go_simp; with_reducible rfl) (by simp only [Act.put, List.setIfInBounds_toArray, List.set_cons_zero, List.set_cons_succ, i64_w, i32_w]; rfl) ?_
    refine pu_ 1 (some 71) (m_ 13 3) rfl rfl (by kernel_rfl) (fun _ _ _ h => h) (by rfl) (by intro w'; go_simp; with_reducible rfl) (by simp only [Act.put, List.setIfInBounds_toArray, List.set_cons_zero, List.set_cons_succ, i64_w, i32_w]; rfl) ?_
    refine pu_ 2 (some 72) (m_ 13 7) rfl rfl (by kernel_rfl) (fun _ _ _ h => h) (by rfl) (by intro w'; go_simp; with_reducible rfl) (by simp only [Act.put, List.setIfInBounds_toArray, List.set_cons_zero, List.set_cons_succ, i64_w, i32_w]; rfl) ?_
    refine pu_ 4 (some 74) (m_ 13 23) rfl rfl (by kernel_rfl) (fun _ _ _ h => h) (by rfl) (by intro w'; go_simp; with_reducible rfl) (by simp only [Act.put, List.setIfInBounds_toArray, List.set_cons_zero, List.set_cons_succ, i64_w, i32_w]; rfl) ?_
    refine pu_ 5 (some 75) (m_ 13 55) rfl rfl (by kernel_rfl) (fun _ _ _ h => h) (by rfl) (by intro w'; go_simp; with_reducible rfl) (by simp only [Act.put, List.setIfInBounds_toArray, List.set_cons_zero, List.set_cons_succ, i64_w, i32_w]; rfl) ?_
    refine pu_ 6 (some 76) (m_ 13 119) rfl rfl (by kernel_rfl) (fun _ _ _ h => h) (by rfl) (by intro w'; go_simp; with_reducible rfl) (by simp only [Act.put, List.setIfInBounds_toArray, List.set_cons_zero, List.set_cons_succ, i64_w, i32_w]; rfl) ?_
    refine pu_ 10 (some 80) (m_ 13 1143) rfl rfl (by kernel_rfl) (fun _ _ _ h => h) (by rfl) (by intro w'; go_simp; with_reducible rfl) (by simp only [Act.put, List.setIfInBounds_toArray, List.set_cons_zero, List.set_cons_succ, i64_w, i32_w]; rfl) ?_
    refine pu_ 11 (some 81) (m_ 13 3191) rfl rfl (by kernel_rfl) (fun _ _ _ h => h) (by rfl) (by intro w'; go_simp; with_reducible rfl) (by simp only [Act.put, List.setIfInBounds_toArray, List.set_cons_zero, List.set_cons_succ, i64_w, i32_w]; rfl) ?_
    refine tk_ 3 (some 73) (m_ 13 3199) rfl rfl (by kernel_rfl) (fun _ _ _ h => h) (by rfl) (by rintro w' ⟨s0, s1, s2, s3, s4, s5, s6, s7⟩; go_simp; with_reducible rfl) hHeld (by simp only [Act.put, List.setIfInBounds_toArray, List.set_cons_zero, List.set_cons_succ, i64_w, i32_w]; rfl) ?_
    refine tk_ 7 (some 77) (m_ 13 3327) rfl rfl (by kernel_rfl) (fun _ _ _ h => h) (by rfl) (by rintro w' ⟨s0, s1, s2, s3, s4, s5, s6, s7⟩; go_simp; with_reducible rfl) hHeld (by simp only [Act.put, List.setIfInBounds_toArray, List.set_cons_zero, List.set_cons_succ, i64_w, i32_w]; rfl) ?_
    refine pu_ 8 (some 78) (m_ 13 3583) rfl rfl (by kernel_rfl) (fun _ _ _ h => h) (by rfl) (by intro w'; go_simp; with_reducible rfl) (by simp only [Act.put, List.setIfInBounds_toArray, List.set_cons_zero, List.set_cons_succ, i64_w, i32_w]; rfl) ?_
    refine tk_ 9 (some 79) (m_ 13 4095) rfl rfl (by kernel_rfl) (fun _ _ _ h => h) (by rfl) (by rintro w' ⟨s0, s1, s2, s3, s4, s5, s6, s7⟩; go_simp; with_reducible rfl) hHeld (by simp only [Act.put, List.setIfInBounds_toArray, List.set_cons_zero, List.set_cons_succ, i64_w, i32_w]; rfl) ?_
    refine one_ (i := 12) (N := some 82) (m_ 13 8191) rfl rfl (by kernel_rfl) (by decide) (fun K hK => ?_)
    refine goes_ Tryz.func36 (by kernel_rfl) rfl #[ptr c, .int .i64 x.names.length, .agg #[.string ⟨#[]⟩, .int .i64 0, .bool false, .int .i64 0, .int .i64 0, .int .i64 0], .int .u64 st, .int .i64 now] (by rfl) rfl rfl (by simp only [List.map_toArray, List.map_cons, List.map_nil]; rfl) ?_
    with_reducible refine (hins.out).mono ?_
    rintro e w7 ⟨rfl, hT⟩
    obtain ⟨F7, G7, D7, h7, hd7, hs7⟩ := H6.out.drew.turn hT
    have r0 : w7.cell? ⟨b, 0, none⟩ = some (ptr c) := (h7.cell 0).trans rfl
    have r1 : w7.cell? ⟨b, 1, none⟩ = some (.slice A0 x.names.length cp0) := (h7.cell 1).trans rfl
    have hq7 := hqb7.out w7 hd7
    have rq0 := (hq7.cell 0).trans rfl
    have rq1 := (hq7.cell 1).trans rfl
    have rq2 := (hq7.cell 2).trans rfl
    have rq3 := (hq7.cell 3).trans rfl
    have rq4 := (hq7.cell 4).trans rfl
    have rq5 := (hq7.cell 5).trans rfl
    simp only [List.getElem?_toArray, List.getElem?_cons_zero, List.getElem?_cons_succ] at rq0 rq1 rq2 rq3 rq4 rq5
    have H7 := Lib.hid h7
    have hDS7 := Lib.hid (And.intro hd7 hs7)
    clear hT h7 hd7 hs7 hq7
    refine ⟨_, rfl, ?_⟩
    refine hK.out _ _ ⟨r0, r1, rq0, rq1, rq2, rq3, rq4, rq5⟩ (fun hHeld => ?_)
    clear hK K
    refine norm_ (a' := ?_) ?_ ?_
    rotate_left
    · show Act.put _ (some 82) _ = _
      simp only [Act.put, List.setIfInBounds_toArray, List.set_cons_zero, List.set_cons_succ, i64_w, i32_w]
      rfl
    refine done_ (by kernel_rfl) ?_
    clear hHeld r0 r1 u0 u1 u2 u3 u4 u5 rq0 rq1 rq2 rq3 rq4 rq5
    have r1 : w7.cell? ⟨b, 1, none⟩ = some (.slice A0 x.names.length cp0) := (H7.out.cell 1).trans rfl
    have hown : w7.ownsRow 0 9 1 (.slice A0 x.names.length cp0) x.names.length (x.names.map Value.string) := (H7.out.2.2.2.1).owns
    have hsz7 : w.heap.size ≤ w7.heap.size := Nat.le_trans hD6.out.1.size hDS7.out.1.size
    obtain ⟨i0, hi1, hz0, hz1, hz2⟩ := info_parts info_st
    go_wp2_with (at_builtin; refine wpList_append_own_at _ rfl _ _ 51 rfl 0 9 i0 (.string ⟨#[]⟩) 1 16 Tryz.underlying51 hi1 hz0 hz1 hz2 rfl (by decide) _ _ _ rfl (hown.alloc _) ⟨w7.heap.size, 0, none⟩ 1 1 [.string t0] rfl rfl (cell_one_new _ _ _) (by simp [Value.oneCell']) (by unfold maxLen; omega) (by omega) (by omega) ?_; intro v' w8 hO hG _ hat; obtain ⟨A8, c8, rfl⟩ := own_slice hO; have hG' := Lib.hid hG; have hO' := Lib.hid hO; have hat' := Lib.hid hat; have b8 : w8.cell? ⟨b, 1, none⟩ = some (.slice A0 x.names.length cp0) := (World.cell?_of_block (a := ⟨b, 1, none⟩) (grow_b H7.out hG)).trans r1; have fb8 : w8.frozen? ⟨b, 1, none⟩ = false := (frozen_of_block (grow_b H7.out hG)).trans (H7.out.free 1); clear hG hO hat)
    have hD8 : Did (fun j => (Value.slice A0 x.names.length cp0).ownBlock = some j) w7 w8 := (((Did.refl _ w7).alloc _).trans (Stem.refl _ _) (Did.of_grown hG'.out (fun j e => .inl e)))
    have hN8 : NV w8 (.slice A8 (x.names.length + 1) c8) (x.names ++ [t0]) := NV.of_owns (base := 0) (by rw [List.length_append, List.map_append]; exact hO'.out)
    have hset := H7.out.names hD8 hN8 (fun j e => by
      rcases hat'.out with q | q
      · exact .inl (q ▸ e)
      · rw [q] at e
        injection e with e
        exact .inr (by rw [← e]; simp))
    have hr := Lib.hid (show LTu w F (w8.setCell ⟨b, 1, none⟩ (.slice A8 (x.names.length + 1) c8)) b (addK x ⟨t0, t1, t2, t3, t4, t5⟩ now) from by
      rw [hadd.out _ hdk.out, show Ref02.stepI (dieK x) = st from hst.out]
      exact LTu.next hD6.out.1 hD6.out.2 (LTu.next ((Did.refl F w6).drew.trans (Stem.refl _ _) hDS7.out.1) (show Stem F F7 w6 from fun j hj => hDS7.out.2 j hj) ⟨_, hset.1.lk, hset.2.1, hset.2.2⟩))
    clear hset hN8 hD8 hG' hO' hat' H7 hDS7 H6 hD6
    go_ret
    exact ⟨rfl, hr.out⟩
theorem kAdd_any (h : LK w F b x) (ho : OkK x M Q) (t : Tox) (now : Int) :
    Calls Tryz.prog 17 #[ptr b, t.v, .int .i64 now] w fun e w' => e = .returned (.int .i64 (addE x t)) ∧ LTu w F w' b (addK x t now) := by
  obtain ⟨t0, t1, t2, t3, t4, t5⟩ := t
  have keep : ∀ (c1 : addsB x ⟨t0, t1, t2, t3, t4, t5⟩ = false), addK x ⟨t0, t1, t2, t3, t4, t5⟩ now = x := fun c1 => by unfold addK; rw [c1]; rfl
  by_cases hz : chk ⟨t0, t1, t2, t3, t4, t5⟩ = 0
  · by_cases hu : t2 = x.up
    · have hE : addE x ⟨t0, t1, t2, t3, t4, t5⟩ = if (idxN x.names t0).isSome = true then 141 else if 8 ≤ x.names.length then 110 else 0 := by
        unfold addE
        rw [if_neg (by rintro (e | e); exact e hz; exact e hu)]
      rw [hE]
      cases hi : (idxN x.names t0).isSome with
      | true =>
        rw [if_pos rfl, keep (by unfold addsB; rw [hi]; simp)]
        exact add_there h ho t0 t1 t2 t3 t4 t5 now hz hu hi
      | false =>
        rw [if_neg (by decide)]
        by_cases hf : 8 ≤ x.names.length
        · rw [if_pos hf, keep (by unfold addsB; rw [decide_eq_false (show ¬ x.names.length < 8 by omega)]; simp)]
          exact add_full h ho t0 t1 t2 t3 t4 t5 now hz hu hi hf
        · rw [if_neg hf]
          exact add_in h ho t0 t1 t2 t3 t4 t5 now hz hu hi (by omega)
    · have hE : addE x ⟨t0, t1, t2, t3, t4, t5⟩ = 0 := by unfold addE; rw [if_pos (.inr hu)]; exact hz
      rw [hE, keep (by unfold addsB; rw [decide_eq_false (show ¬ (chk ⟨t0, t1, t2, t3, t4, t5⟩ = 0 ∧ t2 = x.up) from fun e => hu e.2)]; rfl)]
      exact add_other h ho t0 t1 t2 t3 t4 t5 now hz hu
  · have hE : addE x ⟨t0, t1, t2, t3, t4, t5⟩ = chk ⟨t0, t1, t2, t3, t4, t5⟩ := by unfold addE; rw [if_pos (.inl hz)]
    rw [hE, keep (by unfold addsB; rw [decide_eq_false (show ¬ (chk ⟨t0, t1, t2, t3, t4, t5⟩ = 0 ∧ t2 = x.up) from fun e => hz e.1)]; rfl)]
    exact add_bad h ho t0 t1 t2 t3 t4 t5 now hz
end Go.Proofs.YtoiibmcbjjnpbaaGreat.Link
namespace Go.Proofs.YtoiibmcbjjnpbaaGreat.Link
open Go.RowKit Mem Tick Cargo Toxic Stage Chain
open Go.Proofs.YtoiibmcbjjnpbaaGreatW.PrintLast Pu
set_option maxRecDepth 100000
set_option linter.unusedVariables false
set_option linter.unusedSimpArgs false
variable {w w' w1 : World} {F : Nat → Prop} {b : Nat} {x y : Lk} {M Q : Int}
theorem chg_bad (h : LK w F b x) (ho : OkK x M Q) (hM : M ≤ 1000000000) (t0 : ByteArray) (t1 : Int) (t2 : Bool) (t3 t4 t5 now : Int) (hz : chk ⟨t0, t1, t2, t3, t4, t5⟩ ≠ 0) :
    Calls Tryz.prog 23 #[ptr b, .agg #[.string t0, .int .i64 t1, .bool t2, .int .i64 t3, .int .i64 t4, .int .i64 t5], .int .i64 now] w fun e w' => e = .returned (.int .i64 (chk ⟨t0, t1, t2, t3, t4, t5⟩)) ∧ LTu w F w' b (x) := by
  obtain ⟨G, c, D, v, h⟩ := h
  have hvs := h.2.2.2.1.sr
  obtain ⟨A0, cp0, hv, _⟩ := hvs
  subst hv
  have hnl : x.names.length ≤ 8 := by have := ho.n; have := ho.c.ten; omega
  have hb0 := (Below.refl w.heap.size w).alloc (Nat.le_refl _) (.cells #[.string t0, .int .i64 t1, .bool t2, .int .i64 t3, .int .i64 t4, .int .i64 t5] 34)
  have hblk0 := Lib.hid (Blk.new w 34 #[.string t0, .int .i64 t1, .bool t2, .int .i64 t3, .int .i64 t4, .int .i64 t5])
  have hH0 := Lib.hid (h.below hb0)
  have hb0' := Lib.hid hb0
  have hck := Lib.hid (fun wy => check_any ⟨t0, t1, t2, t3, t4, t5⟩ wy)
  have hl0 := Lib.hid (LTu.refl h.lk)
  have tz : (chk ⟨t0, t1, t2, t3, t4, t5⟩ != 0) = true := by simpa using hz
  obtain ⟨I0, hI0⟩ : ∃ I0, idxI x.names t0 = I0 := ⟨_, rfl⟩
  have his := Lib.hid hI0
  clear hI0
  clear h hb0 ho hz
  generalize hE : chk ⟨t0, t1, t2, t3, t4, t5⟩ = E at *
  go_enter Tryz.func23, Tryz.ntmps23
  go_wp2_with fail
  refine (hck.out _).mono ?_
  rintro e w1 ⟨rfl, hB⟩
  have hB1 := Lib.hid (bw_below hb0'.out hB)
  have hblk1 := Lib.hid (hblk0.out.below hB)
  have hH1 := Lib.hid (hH0.out.below hB)
  clear hB hb0' hblk0 hH0 hck
  have e2 : w1.cell? ⟨w.heap.size, 2, none⟩ = some (.bool t2) := (hblk1.out.cell 2).trans rfl
  have d2 : w1.cell? ⟨b, 2, none⟩ = some (.bool x.up) := (hH1.out.cell 2).trans rfl
  have d1 : w1.cell? ⟨b, 1, none⟩ = some (.slice A0 x.names.length cp0) := (hH1.out.cell 1).trans rfl
  have e0 : w1.cell? ⟨w.heap.size, 0, none⟩ = some (.string t0) := (hblk1.out.cell 0).trans rfl
  have hix := Lib.hid (index_any w1.drew (.slice A0 x.names.length cp0) x.names t0 (show SR w1.drew _ _ from (hH1.out.2.2.2.1).sr) (by omega))
  go_wp2
  refine start_ (n := 8) (S := fun w' => w'.cell? ⟨b, 1, none⟩ = some (.slice A0 x.names.length cp0) ∧ w'.cell? ⟨w.heap.size, 0, none⟩ = some (.string t0)) (ds := []) (m_ 8 0) (by kernel_rfl) rfl (by kernel_rfl) ⟨d1, e0⟩ (fun hHeld => ?_)
  refine pu_ 0 (some 11) (m_ 8 1) rfl rfl (by kernel_rfl) (fun _ _ _ h => h) (by rfl) (by intro w'; go_simp; with_reducible rfl) (by simp only [Act.put, List.setIfInBounds_toArray, List.set_cons_zero, List.set_cons_succ, i64_w, i32_w]; rfl) ?_
  refine pu_ 1 (some 12) (m_ 8 3) rfl rfl (by kernel_rfl) (fun _ _ _ h => h) (by rfl) (by intro w'; go_simp; with_reducible rfl) (by simp only [Act.put, List.setIfInBounds_toArray, List.set_cons_zero, List.set_cons_succ, i64_w, i32_w]; rfl) ?_
  refine pu_ 2 (some 13) (m_ 8 7) rfl rfl (by kernel_rfl) (fun _ _ _ h => h) (by rfl) (by intro w'; go_simp; with_reducible rfl) (by simp only [Act.put, List.setIfInBounds_toArray, List.set_cons_zero, List.set_cons_succ, i64_w, i32_w]; rfl) ?_
  refine pu_ 4 (some 15) (m_ 8 23) rfl rfl (by kernel_rfl) (fun _ _ _ h => h) (by rfl) (by intro w'; go_simp; with_reducible rfl) (by simp only [Act.put, List.setIfInBounds_toArray, List.set_cons_zero, List.set_cons_succ, i64_w, i32_w]; rfl) ?_
  refine tk_ 3 (some 14) (m_ 8 31) rfl rfl (by kernel_rfl) (fun _ _ _ h => h) (by rfl) (by rintro w' ⟨s0, s1⟩; go_simp; with_reducible rfl) hHeld (by simp only [Act.put, List.setIfInBounds_toArray, List.set_cons_zero, List.set_cons_succ, i64_w, i32_w]; rfl) ?_
  refine tk_ 5 (some 16) (m_ 8 63) rfl rfl (by kernel_rfl) (fun _ _ _ h => h) (by rfl) (by rintro w' ⟨s0, s1⟩; go_simp; with_reducible rfl) hHeld (by simp only [Act.put, List.setIfInBounds_toArray, List.set_cons_zero, List.set_cons_succ, i64_w, i32_w]; rfl) ?_
  refine one_ (i := 6) (N := some 17) (m_ 8 127) rfl rfl (by kernel_rfl) (by decide) (fun K hK => ?_)
  refine goes_ Tryz.func42 (by kernel_rfl) rfl #[.slice A0 x.names.length cp0, .string t0] (by rfl) rfl rfl (by simp only [List.map_toArray, List.map_cons, List.map_nil]; rfl) ?_
  with_reducible refine (hix.out).mono ?_
  rintro e w2 ⟨rfl, rfl⟩
  rw [his.out]
  refine ⟨_, rfl, ?_⟩
  refine hK.out _ _ ⟨d1, e0⟩ (fun hHeld => ?_)
  clear hK K
  refine norm_ (a' := ?_) ?_ ?_
  rotate_left
  · show Act.put _ (some 17) _ = _
    simp only [Act.put, List.setIfInBounds_toArray, List.set_cons_zero, List.set_cons_succ, i64_w, i32_w]
    rfl
  refine pu_ 7 (some 8) (m_ 8 255) rfl rfl (by kernel_rfl) (fun _ _ _ h => h) (by rfl) (by intro w'; go_simp; with_reducible rfl) (by simp only [Act.put, List.setIfInBounds_toArray, List.set_cons_zero, List.set_cons_succ, i64_w, i32_w]; rfl) ?_
  refine done_ (by kernel_rfl) ?_
  clear hHeld
  go_wp2
  refine start_ (n := 12) (S := fun w' => True) (ds := []) (m_ 12 0) (by kernel_rfl) rfl (by kernel_rfl) trivial (fun hHeld => ?_)
  refine pu_ 0 (some 19) (m_ 12 1) rfl rfl (by kernel_rfl) (fun _ _ _ h => h) (by rfl) (by intro w'; go_simp; with_reducible rfl) (by simp only [Act.put, List.setIfInBounds_toArray, List.set_cons_zero, List.set_cons_succ, i64_w, i32_w]; rfl) ?_
  refine pu_ 1 (some 20) (m_ 12 3) rfl rfl (by kernel_rfl) (fun _ _ _ h => h) (by rfl) (by intro w'; go_simp; with_reducible rfl) (by simp only [Act.put, List.setIfInBounds_toArray, List.set_cons_zero, List.set_cons_succ, i64_w, i32_w]; rfl) ?_
  refine pu_ 2 (some 21) (m_ 12 7) rfl rfl (by kernel_rfl) (fun _ _ _ h => h) (by rfl) (by intro w'; go_simp; with_reducible rfl) (by simp only [Act.put, List.setIfInBounds_toArray, List.set_cons_zero, List.set_cons_succ, i64_w, i32_w]; rfl) ?_
  refine po_ 3 (some 22) (m_ 12 15) rfl rfl (by kernel_rfl) (fun _ _ _ h => h) (by rfl) (by simp only [Act.put, List.setIfInBounds_toArray, List.set_cons_zero, List.set_cons_succ, i64_w, i32_w]; rfl) ?_
  refine po_ 4 (some 23) (m_ 12 31) rfl rfl (by kernel_rfl) (fun _ _ _ h => h) (by rfl) (by simp only [Act.put, List.setIfInBounds_toArray, List.set_cons_zero, List.set_cons_succ, i64_w, i32_w]; rfl) ?_
  refine po_ 5 (some 24) (m_ 12 63) rfl rfl (by kernel_rfl) (fun _ _ _ h => h) (by rfl) (by simp only [Act.put, List.setIfInBounds_toArray, List.set_cons_zero, List.set_cons_succ, i64_w, i32_w]; rfl) ?_
  refine po_ 6 (some 25) (m_ 12 127) rfl rfl (by kernel_rfl) (fun _ _ _ h => h) (by rfl) (by simp only [Act.put, List.setIfInBounds_toArray, List.set_cons_zero, List.set_cons_succ, i64_w, i32_w]; rfl) ?_
  refine po_ 7 (some 26) (m_ 12 255) rfl rfl (by kernel_rfl) (fun _ _ _ h => h) (by rfl) (by simp only [Act.put, List.setIfInBounds_toArray, List.set_cons_zero, List.set_cons_succ, i64_w, i32_w]; rfl) ?_
  refine po_ 8 (some 27) (m_ 12 511) rfl rfl (by kernel_rfl) (fun _ _ _ h => h) (by rfl) (by simp only [Act.put, List.setIfInBounds_toArray, List.set_cons_zero, List.set_cons_succ, i64_w, i32_w]; rfl) ?_
  refine po_ 9 (some 28) (m_ 12 1023) rfl rfl (by kernel_rfl) (fun _ _ _ h => h) (by rfl) (by simp only [Act.put, List.setIfInBounds_toArray, List.set_cons_zero, List.set_cons_succ, i64_w, i32_w]; rfl) ?_
  refine pu_ 10 (some 29) (m_ 12 2047) rfl rfl (by kernel_rfl) (fun _ _ _ h => h) (by rfl) (by intro w'; go_simp; with_reducible rfl) (by simp only [Act.put, List.setIfInBounds_toArray, List.set_cons_zero, List.set_cons_succ, i64_w, i32_w]; rfl) ?_
  refine pu_ 11 (some 18) (m_ 12 4095) rfl rfl (by kernel_rfl) (fun _ _ _ h => h) (by rfl) (by intro w'; go_simp; with_reducible rfl) (by simp only [Act.put, List.setIfInBounds_toArray, List.set_cons_zero, List.set_cons_succ, i64_w, i32_w]; rfl) ?_
  refine done_ (by kernel_rfl) ?_
  clear hHeld e2 d2 d1 e0 hix
  have hr := Lib.hid (show LTu w F w1.drew.drew b x from hl0.out.trans (fun F' hL => LTu.below (w := w) hL hB1.out.drew.drew))
  clear hH1 hblk1 hB1
  go_wp2
  go_ret
  exact ⟨rfl, hr.out⟩
theorem chg_other (h : LK w F b x) (ho : OkK x M Q) (hM : M ≤ 1000000000) (t0 : ByteArray) (t1 : Int) (t2 : Bool) (t3 t4 t5 now : Int) (hz : chk ⟨t0, t1, t2, t3, t4, t5⟩ = 0) (hu : t2 ≠ x.up) :
    Calls Tryz.prog 23 #[ptr b, .agg #[.string t0, .int .i64 t1, .bool t2, .int .i64 t3, .int .i64 t4, .int .i64 t5], .int .i64 now] w fun e w' => e = .returned (.int .i64 (0)) ∧ LTu w F w' b (x) := by
  obtain ⟨G, c, D, v, h⟩ := h
  have hvs := h.2.2.2.1.sr
  obtain ⟨A0, cp0, hv, _⟩ := hvs
  subst hv
  have hnl : x.names.length ≤ 8 := by have := ho.n; have := ho.c.ten; omega
  have hb0 := (Below.refl w.heap.size w).alloc (Nat.le_refl _) (.cells #[.string t0, .int .i64 t1, .bool t2, .int .i64 t3, .int .i64 t4, .int .i64 t5] 34)
  have hblk0 := Lib.hid (Blk.new w 34 #[.string t0, .int .i64 t1, .bool t2, .int .i64 t3, .int .i64 t4, .int .i64 t5])
  have hH0 := Lib.hid (h.below hb0)
  have hb0' := Lib.hid hb0
  have hck := Lib.hid (fun wy => check_any ⟨t0, t1, t2, t3, t4, t5⟩ wy)
  have hl0 := Lib.hid (LTu.refl h.lk)
  have tu : (t2 != x.up) = true := by simpa using hu
  have tu2 : (t2 == x.up) = false := by simpa using hu
  obtain ⟨I0, hI0⟩ : ∃ I0, idxI x.names t0 = I0 := ⟨_, rfl⟩
  have his := Lib.hid hI0
  clear hI0
  rw [hz] at hck
  clear h hb0 ho hz hu
  go_enter Tryz.func23, Tryz.ntmps23
  go_wp2_with fail
  refine (hck.out _).mono ?_
  rintro e w1 ⟨rfl, hB⟩
  have hB1 := Lib.hid (bw_below hb0'.out hB)
  have hblk1 := Lib.hid (hblk0.out.below hB)
  have hH1 := Lib.hid (hH0.out.below hB)
  clear hB hb0' hblk0 hH0 hck
  have e2 : w1.cell? ⟨w.heap.size, 2, none⟩ = some (.bool t2) := (hblk1.out.cell 2).trans rfl
  have d2 : w1.cell? ⟨b, 2, none⟩ = some (.bool x.up) := (hH1.out.cell 2).trans rfl
  have d1 : w1.cell? ⟨b, 1, none⟩ = some (.slice A0 x.names.length cp0) := (hH1.out.cell 1).trans rfl
  have e0 : w1.cell? ⟨w.heap.size, 0, none⟩ = some (.string t0) := (hblk1.out.cell 0).trans rfl
  have hix := Lib.hid (index_any w1.drew (.slice A0 x.names.length cp0) x.names t0 (show SR w1.drew _ _ from (hH1.out.2.2.2.1).sr) (by omega))
  go_wp2
  refine start_ (n := 8) (S := fun w' => w'.cell? ⟨b, 1, none⟩ = some (.slice A0 x.names.length cp0) ∧ w'.cell? ⟨w.heap.size, 0, none⟩ = some (.string t0)) (ds := []) (m_ 8 0) (by kernel_rfl) rfl (by kernel_rfl) ⟨d1, e0⟩ (fun hHeld => ?_)
  refine pu_ 0 (some 11) (m_ 8 1) rfl rfl (by kernel_rfl) (fun _ _ _ h => h) (by rfl) (by intro w'; go_simp; with_reducible rfl) (by simp only [Act.put, List.setIfInBounds_toArray, List.set_cons_zero, List.set_cons_succ, i64_w, i32_w]; rfl) ?_
  refine pu_ 1 (some 12) (m_ 8 3) rfl rfl (by kernel_rfl) (fun _ _ _ h => h) (by rfl) (by intro w'; go_simp; with_reducible rfl) (by simp only [Act.put, List.setIfInBounds_toArray, List.set_cons_zero, List.set_cons_succ, i64_w, i32_w]; rfl) ?_
  refine pu_ 2 (some 13) (m_ 8 7) rfl rfl (by kernel_rfl) (fun _ _ _ h => h) (by rfl) (by intro w'; go_simp; with_reducible rfl) (by simp only [Act.put, List.setIfInBounds_toArray, List.set_cons_zero, List.set_cons_succ, i64_w, i32_w]; rfl) ?_
  refine pu_ 4 (some 15) (m_ 8 23) rfl rfl (by kernel_rfl) (fun _ _ _ h => h) (by rfl) (by intro w'; go_simp; with_reducible rfl) (by simp only [Act.put, List.setIfInBounds_toArray, List.set_cons_zero, List.set_cons_succ, i64_w, i32_w]; rfl) ?_
  refine tk_ 3 (some 14) (m_ 8 31) rfl rfl (by kernel_rfl) (fun _ _ _ h => h) (by rfl) (by rintro w' ⟨s0, s1⟩; go_simp; with_reducible rfl) hHeld (by simp only [Act.put, List.setIfInBounds_toArray, List.set_cons_zero, List.set_cons_succ, i64_w, i32_w]; rfl) ?_
  refine tk_ 5 (some 16) (m_ 8 63) rfl rfl (by kernel_rfl) (fun _ _ _ h => h) (by rfl) (by rintro w' ⟨s0, s1⟩; go_simp; with_reducible rfl) hHeld (by simp only [Act.put, List.setIfInBounds_toArray, List.set_cons_zero, List.set_cons_succ, i64_w, i32_w]; rfl) ?_
  refine one_ (i := 6) (N := some 17) (m_ 8 127) rfl rfl (by kernel_rfl) (by decide) (fun K hK => ?_)
  refine goes_ Tryz.func42 (by kernel_rfl) rfl #[.slice A0 x.names.length cp0, .string t0] (by rfl) rfl rfl (by simp only [List.map_toArray, List.map_cons, List.map_nil]; rfl) ?_
  with_reducible refine (hix.out).mono ?_
  rintro e w2 ⟨rfl, rfl⟩
  rw [his.out]
  refine ⟨_, rfl, ?_⟩
  refine hK.out _ _ ⟨d1, e0⟩ (fun hHeld => ?_)
  clear hK K
  refine norm_ (a' := ?_) ?_ ?_
  rotate_left
  · show Act.put _ (some 17) _ = _
    simp only [Act.put, List.setIfInBounds_toArray, List.set_cons_zero, List.set_cons_succ, i64_w, i32_w]
    rfl
  refine pu_ 7 (some 8) (m_ 8 255) rfl rfl (by kernel_rfl) (fun _ _ _ h => h) (by rfl) (by intro w'; go_simp; with_reducible rfl) (by simp only [Act.put, List.setIfInBounds_toArray, List.set_cons_zero, List.set_cons_succ, i64_w, i32_w]; rfl) ?_
  refine done_ (by kernel_rfl) ?_
  clear hHeld
  go_wp2
  refine start_ (n := 12) (S := fun w' => w'.cell? ⟨w.heap.size, 2, none⟩ = some (.bool t2) ∧ w'.cell? ⟨b, 2, none⟩ = some (.bool x.up)) (ds := []) (m_ 12 0) (by kernel_rfl) rfl (by kernel_rfl) ⟨e2, d2⟩ (fun hHeld => ?_)
  refine pu_ 0 (some 19) (m_ 12 1) rfl rfl (by kernel_rfl) (fun _ _ _ h => h) (by rfl) (by intro w'; go_simp; with_reducible rfl) (by simp only [Act.put, List.setIfInBounds_toArray, List.set_cons_zero, List.set_cons_succ, i64_w, i32_w]; rfl) ?_
  refine pu_ 1 (some 20) (m_ 12 3) rfl rfl (by kernel_rfl) (fun _ _ _ h => h) (by rfl) (by intro w'; go_simp; with_reducible rfl) (by simp only [Act.put, List.setIfInBounds_toArray, List.set_cons_zero, List.set_cons_succ, i64_w, i32_w]; rfl) ?_
  refine pu_ 2 (some 21) (m_ 12 7) rfl rfl (by kernel_rfl) (fun _ _ _ h => h) (by rfl) (by intro w'; go_simp; with_reducible rfl) (by simp only [Act.put, List.setIfInBounds_toArray, List.set_cons_zero, List.set_cons_succ, i64_w, i32_w]; rfl) ?_
  refine pu_ 3 (some 22) (m_ 12 15) rfl rfl (by kernel_rfl) (fun _ _ _ h => h) (by rfl) (by intro w'; go_simp; with_reducible rfl) (by simp only [Act.put, List.setIfInBounds_toArray, List.set_cons_zero, List.set_cons_succ, i64_w, i32_w]; rfl) ?_
  refine pu_ 5 (some 24) (m_ 12 47) rfl rfl (by kernel_rfl) (fun _ _ _ h => h) (by rfl) (by intro w'; go_simp; with_reducible rfl) (by simp only [Act.put, List.setIfInBounds_toArray, List.set_cons_zero, List.set_cons_succ, i64_w, i32_w]; rfl) ?_
  refine pu_ 6 (some 25) (m_ 12 111) rfl rfl (by kernel_rfl) (fun _ _ _ h => h) (by rfl) (by intro w'; go_simp; with_reducible rfl) (by simp only [Act.put, List.setIfInBounds_toArray, List.set_cons_zero, List.set_cons_succ, i64_w, i32_w]; rfl) ?_
  refine pu_ 7 (some 26) (m_ 12 239) rfl rfl (by kernel_rfl) (fun _ _ _ h => h) (by rfl) (by intro w'; go_simp; with_reducible rfl) (by simp only [Act.put, List.setIfInBounds_toArray, List.set_cons_zero, List.set_cons_succ, i64_w, i32_w]; rfl) ?_
  refine tk_ 4 (some 23) (m_ 12 255) rfl rfl (by kernel_rfl) (fun _ _ _ h => h) (by rfl) (by rintro w' ⟨s0, s1⟩; go_simp; with_reducible rfl) hHeld (by simp only [Act.put, List.setIfInBounds_toArray, List.set_cons_zero, List.set_cons_succ, i64_w, i32_w]; rfl) ?_
  refine tk_ 8 (some 27) (m_ 12 511) rfl rfl (by kernel_rfl) (fun _ _ _ h => h) (by rfl) (by rintro w' ⟨s0, s1⟩; go_simp; with_reducible rfl) hHeld (by simp only [Act.put, List.setIfInBounds_toArray, List.set_cons_zero, List.set_cons_succ, i64_w, i32_w]; rfl) ?_
  refine pu_ 9 (some 28) (m_ 12 1023) rfl rfl (by kernel_rfl) (fun _ _ _ h => h) (by rfl) (by intro w'; go_simp; with_reducible rfl) (by simp only [Act.put, List.setIfInBounds_toArray, List.set_cons_zero, List.set_cons_succ, i64_w, i32_w]; rfl) ?_
  refine pu_ 10 (some 29) (m_ 12 2047) rfl rfl (by kernel_rfl) (fun _ _ _ h => h) (by rfl) (by intro w'; go_simp; with_reducible rfl) (by simp only [Act.put, List.setIfInBounds_toArray, List.set_cons_zero, List.set_cons_succ, i64_w, i32_w]; rfl) ?_
  refine pu_ 11 (some 18) (m_ 12 4095) rfl rfl (by kernel_rfl) (fun _ _ _ h => h) (by rfl) (by intro w'; go_simp; with_reducible rfl) (by simp only [Act.put, List.setIfInBounds_toArray, List.set_cons_zero, List.set_cons_succ, i64_w, i32_w]; rfl) ?_
  refine done_ (by kernel_rfl) ?_
  clear hHeld e2 d2 d1 e0 hix
  have hr := Lib.hid (show LTu w F w1.drew.drew b x from hl0.out.trans (fun F' hL => LTu.below (w := w) hL hB1.out.drew.drew))
  clear hH1 hblk1 hB1
  go_wp2
  go_ret
  exact ⟨rfl, hr.out⟩
theorem chg_none (h : LK w F b x) (ho : OkK x M Q) (hM : M ≤ 1000000000) (t0 : ByteArray) (t1 : Int) (t2 : Bool) (t3 t4 t5 now : Int) (hz : chk ⟨t0, t1, t2, t3, t4, t5⟩ = 0) (hu : t2 = x.up) (hi : idxN x.names t0 = none) :
    Calls Tryz.prog 23 #[ptr b, .agg #[.string t0, .int .i64 t1, .bool t2, .int .i64 t3, .int .i64 t4, .int .i64 t5], .int .i64 now] w fun e w' => e = .returned (.int .i64 (142)) ∧ LTu w F w' b (x) := by
  obtain ⟨G, c, D, v, h⟩ := h
  have hvs := h.2.2.2.1.sr
  obtain ⟨A0, cp0, hv, _⟩ := hvs
  subst hv
  have hnl : x.names.length ≤ 8 := by have := ho.n; have := ho.c.ten; omega
  have hb0 := (Below.refl w.heap.size w).alloc (Nat.le_refl _) (.cells #[.string t0, .int .i64 t1, .bool t2, .int .i64 t3, .int .i64 t4, .int .i64 t5] 34)
  have hblk0 := Lib.hid (Blk.new w 34 #[.string t0, .int .i64 t1, .bool t2, .int .i64 t3, .int .i64 t4, .int .i64 t5])
  have hH0 := Lib.hid (h.below hb0)
  have hb0' := Lib.hid hb0
  have hck := Lib.hid (fun wy => check_any ⟨t0, t1, t2, t3, t4, t5⟩ wy)
  have hl0 := Lib.hid (LTu.refl h.lk)
  have tu : (t2 != x.up) = false := by rw [hu]; simp
  have tu2 : (t2 == x.up) = true := by rw [hu]; simp
  have his : Hid (idxI x.names t0 = -1) := Lib.hid (by unfold idxI; rw [hi])
  rw [hz] at hck
  clear h hb0 ho hz hu hi
  go_enter Tryz.func23, Tryz.ntmps23
  go_wp2_with fail
  refine (hck.out _).mono ?_
  rintro e w1 ⟨rfl, hB⟩
  have hB1 := Lib.hid (bw_below hb0'.out hB)
  have hblk1 := Lib.hid (hblk0.out.below hB)
  have hH1 := Lib.hid (hH0.out.below hB)
  clear hB hb0' hblk0 hH0 hck
  have e2 : w1.cell? ⟨w.heap.size, 2, none⟩ = some (.bool t2) := (hblk1.out.cell 2).trans rfl
  have d2 : w1.cell? ⟨b, 2, none⟩ = some (.bool x.up) := (hH1.out.cell 2).trans rfl
  have d1 : w1.cell? ⟨b, 1, none⟩ = some (.slice A0 x.names.length cp0) := (hH1.out.cell 1).trans rfl
  have e0 : w1.cell? ⟨w.heap.size, 0, none⟩ = some (.string t0) := (hblk1.out.cell 0).trans rfl
  have hix := Lib.hid (index_any w1.drew (.slice A0 x.names.length cp0) x.names t0 (show SR w1.drew _ _ from (hH1.out.2.2.2.1).sr) (by omega))
  go_wp2
  refine start_ (n := 8) (S := fun w' => w'.cell? ⟨b, 1, none⟩ = some (.slice A0 x.names.length cp0) ∧ w'.cell? ⟨w.heap.size, 0, none⟩ = some (.string t0)) (ds := []) (m_ 8 0) (by kernel_rfl) rfl (by kernel_rfl) ⟨d1, e0⟩ (fun hHeld => ?_)
  refine pu_ 0 (some 11) (m_ 8 1) rfl rfl (by kernel_rfl) (fun _ _ _ h => h) (by rfl) (by intro w'; go_simp; with_reducible rfl) (by simp only [Act.put, List.setIfInBounds_toArray, List.set_cons_zero, List.set_cons_succ, i64_w, i32_w]; rfl) ?_
  refine pu_ 1 (some 12) (m_ 8 3) rfl rfl (by kernel_rfl) (fun _ _ _ h => h) (by rfl) (by intro w'; go_simp; with_reducible rfl) (by simp only [Act.put, List.setIfInBounds_toArray, List.set_cons_zero, List.set_cons_succ, i64_w, i32_w]; rfl) ?_
  refine pu_ 2 (some 13) (m_ 8 7) rfl rfl (by kernel_rfl) (fun _ _ _ h => h) (by rfl) (by intro w'; go_simp; with_reducible rfl) (by simp only [Act.put, List.setIfInBounds_toArray, List.set_cons_zero, List.set_cons_succ, i64_w, i32_w]; rfl) ?_
  refine pu_ 4 (some 15) (m_ 8 23) rfl rfl (by kernel_rfl) (fun _ _ _ h => h) (by rfl) (by intro w'; go_simp; with_reducible rfl) (by simp only [Act.put, List.setIfInBounds_toArray, List.set_cons_zero, List.set_cons_succ, i64_w, i32_w]; rfl) ?_
  refine tk_ 3 (some 14) (m_ 8 31) rfl rfl (by kernel_rfl) (fun _ _ _ h => h) (by rfl) (by rintro w' ⟨s0, s1⟩; go_simp; with_reducible rfl) hHeld (by simp only [Act.put, List.setIfInBounds_toArray, List.set_cons_zero, List.set_cons_succ, i64_w, i32_w]; rfl) ?_
  refine tk_ 5 (some 16) (m_ 8 63) rfl rfl (by kernel_rfl) (fun _ _ _ h => h) (by rfl) (by rintro w' ⟨s0, s1⟩; go_simp; with_reducible rfl) hHeld (by simp only [Act.put, List.setIfInBounds_toArray, List.set_cons_zero, List.set_cons_succ, i64_w, i32_w]; rfl) ?_
  refine one_ (i := 6) (N := some 17) (m_ 8 127) rfl rfl (by kernel_rfl) (by decide) (fun K hK => ?_)
  refine goes_ Tryz.func42 (by kernel_rfl) rfl #[.slice A0 x.names.length cp0, .string t0] (by rfl) rfl rfl (by simp only [List.map_toArray, List.map_cons, List.map_nil]; rfl) ?_
  with_reducible refine (hix.out).mono ?_
  rintro e w2 ⟨rfl, rfl⟩
  rw [his.out]
  refine ⟨_, rfl, ?_⟩
  refine hK.out _ _ ⟨d1, e0⟩ (fun hHeld => ?_)
  clear hK K
  refine norm_ (a' := ?_) ?_ ?_
  rotate_left
  · show Act.put _ (some 17) _ = _
    simp only [Act.put, List.setIfInBounds_toArray, List.set_cons_zero, List.set_cons_succ, i64_w, i32_w]
    rfl
  refine pu_ 7 (some 8) (m_ 8 255) rfl rfl (by kernel_rfl) (fun _ _ _ h => h) (by rfl) (by intro w'; go_simp; with_reducible rfl) (by simp only [Act.put, List.setIfInBounds_toArray, List.set_cons_zero, List.set_cons_succ, i64_w, i32_w]; rfl) ?_
  refine done_ (by kernel_rfl) ?_
  clear hHeld
  go_wp2
  refine start_ (n := 12) (S := fun w' => w'.cell? ⟨w.heap.size, 2, none⟩ = some (.bool t2) ∧ w'.cell? ⟨b, 2, none⟩ = some (.bool x.up)) (ds := []) (m_ 12 0) (by kernel_rfl) rfl (by kernel_rfl) ⟨e2, d2⟩ (fun hHeld => ?_)
  refine pu_ 0 (some 19) (m_ 12 1) rfl rfl (by kernel_rfl) (fun _ _ _ h => h) (by rfl) (by intro w'; go_simp; with_reducible rfl) (by simp only [Act.put, List.setIfInBounds_toArray, List.set_cons_zero, List.set_cons_succ, i64_w, i32_w]; rfl) ?_
  refine pu_ 1 (some 20) (m_ 12 3) rfl rfl (by kernel_rfl) (fun _ _ _ h => h) (by rfl) (by intro w'; go_simp; with_reducible rfl) (by simp only [Act.put, List.setIfInBounds_toArray, List.set_cons_zero, List.set_cons_succ, i64_w, i32_w]; rfl) ?_
  refine pu_ 2 (some 21) (m_ 12 7) rfl rfl (by kernel_rfl) (fun _ _ _ h => h) (by rfl) (by intro w'; go_simp; with_reducible rfl) (by simp only [Act.put, List.setIfInBounds_toArray, List.set_cons_zero, List.set_cons_succ, i64_w, i32_w]; rfl) ?_
  refine pu_ 3 (some 22) (m_ 12 15) rfl rfl (by kernel_rfl) (fun _ _ _ h => h) (by rfl) (by intro w'; go_simp; with_reducible rfl) (by simp only [Act.put, List.setIfInBounds_toArray, List.set_cons_zero, List.set_cons_succ, i64_w, i32_w]; rfl) ?_
  refine pu_ 5 (some 24) (m_ 12 47) rfl rfl (by kernel_rfl) (fun _ _ _ h => h) (by rfl) (by intro w'; go_simp; with_reducible rfl) (by simp only [Act.put, List.setIfInBounds_toArray, List.set_cons_zero, List.set_cons_succ, i64_w, i32_w]; rfl) ?_
  refine pu_ 6 (some 25) (m_ 12 111) rfl rfl (by kernel_rfl) (fun _ _ _ h => h) (by rfl) (by intro w'; go_simp; with_reducible rfl) (by simp only [Act.put, List.setIfInBounds_toArray, List.set_cons_zero, List.set_cons_succ, i64_w, i32_w]; rfl) ?_
  refine pu_ 7 (some 26) (m_ 12 239) rfl rfl (by kernel_rfl) (fun _ _ _ h => h) (by rfl) (by intro w'; go_simp; with_reducible rfl) (by simp only [Act.put, List.setIfInBounds_toArray, List.set_cons_zero, List.set_cons_succ, i64_w, i32_w]; rfl) ?_
  refine tk_ 4 (some 23) (m_ 12 255) rfl rfl (by kernel_rfl) (fun _ _ _ h => h) (by rfl) (by rintro w' ⟨s0, s1⟩; go_simp; with_reducible rfl) hHeld (by simp only [Act.put, List.setIfInBounds_toArray, List.set_cons_zero, List.set_cons_succ, i64_w, i32_w]; rfl) ?_
  refine tk_ 8 (some 27) (m_ 12 511) rfl rfl (by kernel_rfl) (fun _ _ _ h => h) (by rfl) (by rintro w' ⟨s0, s1⟩; go_simp; with_reducible rfl) hHeld (by simp only [Act.put, List.setIfInBounds_toArray, List.set_cons_zero, List.set_cons_succ, i64_w, i32_w]; rfl) ?_
  refine pu_ 9 (some 28) (m_ 12 1023) rfl rfl (by kernel_rfl) (fun _ _ _ h => h) (by rfl) (by intro w'; go_simp; with_reducible rfl) (by simp only [Act.put, List.setIfInBounds_toArray, List.set_cons_zero, List.set_cons_succ, i64_w, i32_w]; rfl) ?_
  refine pu_ 10 (some 29) (m_ 12 2047) rfl rfl (by kernel_rfl) (fun _ _ _ h => h) (by rfl) (by intro w'; go_simp; with_reducible rfl) (by simp only [Act.put, List.setIfInBounds_toArray, List.set_cons_zero, List.set_cons_succ, i64_w, i32_w]; rfl) ?_
  refine pu_ 11 (some 18) (m_ 12 4095) rfl rfl (by kernel_rfl) (fun _ _ _ h => h) (by rfl) (by intro w'; go_simp; with_reducible rfl) (by simp only [Act.put, List.setIfInBounds_toArray, List.set_cons_zero, List.set_cons_succ, i64_w, i32_w]; rfl) ?_
  refine done_ (by kernel_rfl) ?_
  clear hHeld e2 d2 d1 e0 hix
  have hr := Lib.hid (show LTu w F w1.drew.drew b x from hl0.out.trans (fun F' hL => LTu.below (w := w) hL hB1.out.drew.drew))
  clear hH1 hblk1 hB1
  go_wp2
  go_ret
  exact ⟨rfl, hr.out⟩
theorem chg_pass (h : LK w F b x) (ho : OkK x M Q) (hM : M ≤ 1000000000) (t0 : ByteArray) (t1 : Int) (t2 : Bool) (t3 t4 t5 now : Int) (hz : chk ⟨t0, t1, t2, t3, t4, t5⟩ = 0) (hu : t2 = x.up) (i : Nat) (hi : idxN x.names t0 = some i) (q0 : ByteArray) (q1 : Int) (q2 : Bool) (q3 q4 q5 : Int) (hti : (toxs x.c)[i]? = some ⟨q0, q1, q2, q3, q4, q5⟩) (hp : passB ⟨q0, q1, q2, q3, q4, q5⟩ = true) :
    Calls Tryz.prog 23 #[ptr b, .agg #[.string t0, .int .i64 t1, .bool t2, .int .i64 t3, .int .i64 t4, .int .i64 t5], .int .i64 now] w fun e w' => e = .returned (.int .i64 (0)) ∧ LTu w F w' b (x) := by
  obtain ⟨G, c, D, v, h⟩ := h
  have hvs := h.2.2.2.1.sr
  obtain ⟨A0, cp0, hv, _⟩ := hvs
  subst hv
  have hnl : x.names.length ≤ 8 := by have := ho.n; have := ho.c.ten; omega
  have hb0 := (Below.refl w.heap.size w).alloc (Nat.le_refl _) (.cells #[.string t0, .int .i64 t1, .bool t2, .int .i64 t3, .int .i64 t4, .int .i64 t5] 34)
  have hblk0 := Lib.hid (Blk.new w 34 #[.string t0, .int .i64 t1, .bool t2, .int .i64 t3, .int .i64 t4, .int .i64 t5])
  have hH0 := Lib.hid (h.below hb0)
  have hb0' := Lib.hid hb0
  have hck := Lib.hid (fun wy => check_any ⟨t0, t1, t2, t3, t4, t5⟩ wy)
  have hl0 := Lib.hid (LTu.refl h.lk)
  have tu : (t2 != x.up) = false := by rw [hu]; simp
  have tu2 : (t2 == x.up) = true := by rw [hu]; simp
  have his : Hid (idxI x.names t0 = (i : Int)) := Lib.hid (by unfold idxI; rw [hi])
  rw [hz] at hck
  have hilt := idx_lt hi
  have hneg : decide ((i : Int) < 0) = false := decide_eq_false (by omega)
  have hnames := ho.n
  have htl := toxs_length x.c ho.c.two
  have hoc := Lib.hid ho.c
  have hq : ∀ W : World, (binOp .eql 34 (.agg #[.string q0, .int .i64 q1, .bool q2, .int .i64 q3, .int .i64 q4, .int .i64 q5]) (.agg #[.string ⟨#[]⟩, .int .i64 0, .bool false, .int .i64 0, .int .i64 0, .int .i64 0])).run Tryz.prog W = .ok (.bool true) W := fun W => by
    rw [eql_tox]; unfold passB noTox at hp; rw [hp]
  have hguard := eqguard_tox
  clear h hb0 ho hz hu hi hp
  go_enter Tryz.func23, Tryz.ntmps23
  go_wp2_with fail
  refine (hck.out _).mono ?_
  rintro e w1 ⟨rfl, hB⟩
  have hB1 := Lib.hid (bw_below hb0'.out hB)
  have hblk1 := Lib.hid (hblk0.out.below hB)
  have hH1 := Lib.hid (hH0.out.below hB)
  clear hB hb0' hblk0 hH0 hck
  have e2 : w1.cell? ⟨w.heap.size, 2, none⟩ = some (.bool t2) := (hblk1.out.cell 2).trans rfl
  have d2 : w1.cell? ⟨b, 2, none⟩ = some (.bool x.up) := (hH1.out.cell 2).trans rfl
  have d1 : w1.cell? ⟨b, 1, none⟩ = some (.slice A0 x.names.length cp0) := (hH1.out.cell 1).trans rfl
  have e0 : w1.cell? ⟨w.heap.size, 0, none⟩ = some (.string t0) := (hblk1.out.cell 0).trans rfl
  have hix := Lib.hid (index_any w1.drew (.slice A0 x.names.length cp0) x.names t0 (show SR w1.drew _ _ from (hH1.out.2.2.2.1).sr) (by omega))
  go_wp2
  refine start_ (n := 8) (S := fun w' => w'.cell? ⟨b, 1, none⟩ = some (.slice A0 x.names.length cp0) ∧ w'.cell? ⟨w.heap.size, 0, none⟩ = some (.string t0)) (ds := []) (m_ 8 0) (by kernel_rfl) rfl (by kernel_rfl) ⟨d1, e0⟩ (fun hHeld => ?_)
  refine pu_ 0 (some 11) (m_ 8 1) rfl rfl (by kernel_rfl) (fun _ _ _ h => h) (by rfl) (by intro w'; go_simp; with_reducible rfl) (by simp only [Act.put, List.setIfInBounds_toArray, List.set_cons_zero, List.set_cons_succ, i64_w, i32_w]; rfl) ?_
  refine pu_ 1 (some 12) (m_ 8 3) rfl rfl (by kernel_rfl) (fun _ _ _ h => h) (by rfl) (by intro w'; go_simp; with_reducible rfl) (by simp only [Act.put, List.setIfInBounds_toArray, List.set_cons_zero, List.set_cons_succ, i64_w, i32_w]; rfl) ?_
  refine pu_ 2 (some 13) (m_ 8 7) rfl rfl (by kernel_rfl) (fun _ _ _ h => h) (by rfl) (by intro w'; go_simp; with_reducible rfl) (by simp only [Act.put, List.setIfInBounds_toArray, List.set_cons_zero, List.set_cons_succ, i64_w, i32_w]; rfl) ?_
  refine pu_ 4 (some 15) (m_ 8 23) rfl rfl (by kernel_rfl) (fun _ _ _ h => h) (by rfl) (by intro w'; go_simp; with_reducible rfl) (by simp only [Act.put, List.setIfInBounds_toArray, List.set_cons_zero, List.set_cons_succ, i64_w, i32_w]; rfl) ?_
  refine tk_ 3 (some 14) (m_ 8 31) rfl rfl (by kernel_rfl) (fun _ _ _ h => h) (by rfl) (by rintro w' ⟨s0, s1⟩; go_simp; with_reducible rfl) hHeld (by simp only [Act.put, List.setIfInBounds_toArray, List.set_cons_zero, List.set_cons_succ, i64_w, i32_w]; rfl) ?_
  refine tk_ 5 (some 16) (m_ 8 63) rfl rfl (by kernel_rfl) (fun _ _ _ h => h) (by rfl) (by rintro w' ⟨s0, s1⟩; go_simp; with_reducible rfl) hHeld (by simp only [Act.put, List.setIfInBounds_toArray, List.set_cons_zero, List.set_cons_succ, i64_w, i32_w]; rfl) ?_
  refine one_ (i := 6) (N := some 17) (m_ 8 127) rfl rfl (by kernel_rfl) (by decide) (fun K hK => ?_)
  refine goes_ Tryz.func42 (by kernel_rfl) rfl #[.slice A0 x.names.length cp0, .string t0] (by rfl) rfl rfl (by simp only [List.map_toArray, List.map_cons, List.map_nil]; rfl) ?_
  with_reducible refine (hix.out).mono ?_
  rintro e w2 ⟨rfl, rfl⟩
  rw [his.out]
  refine ⟨_, rfl, ?_⟩
  refine hK.out _ _ ⟨d1, e0⟩ (fun hHeld => ?_)
  clear hK K
  refine norm_ (a' := ?_) ?_ ?_
  rotate_left
  · show Act.put _ (some 17) _ = _
    simp only [Act.put, List.setIfInBounds_toArray, List.set_cons_zero, List.set_cons_succ, i64_w, i32_w]
    rfl
  refine pu_ 7 (some 8) (m_ 8 255) rfl rfl (by kernel_rfl) (fun _ _ _ h => h) (by rfl) (by intro w'; go_simp; with_reducible rfl) (by simp only [Act.put, List.setIfInBounds_toArray, List.set_cons_zero, List.set_cons_succ, i64_w, i32_w]; rfl) ?_
  refine done_ (by kernel_rfl) ?_
  clear hHeld
  go_wp2
  refine start_ (n := 12) (S := fun w' => w'.cell? ⟨w.heap.size, 2, none⟩ = some (.bool t2) ∧ w'.cell? ⟨b, 2, none⟩ = some (.bool x.up)) (ds := []) (m_ 12 0) (by kernel_rfl) rfl (by kernel_rfl) ⟨e2, d2⟩ (fun hHeld => ?_)
  refine pu_ 0 (some 19) (m_ 12 1) rfl rfl (by kernel_rfl) (fun _ _ _ h => h) (by rfl) (by intro w'; go_simp; with_reducible rfl) (by simp only [Act.put, List.setIfInBounds_toArray, List.set_cons_zero, List.set_cons_succ, i64_w, i32_w]; rfl) ?_
  refine pu_ 1 (some 20) (m_ 12 3) rfl rfl (by kernel_rfl) (fun _ _ _ h => h) (by rfl) (by intro w'; go_simp; with_reducible rfl) (by simp only [Act.put, List.setIfInBounds_toArray, List.set_cons_zero, List.set_cons_succ, i64_w, i32_w]; rfl) ?_
  refine pu_ 2 (some 21) (m_ 12 7) rfl rfl (by kernel_rfl) (fun _ _ _ h => h) (by rfl) (by intro w'; go_simp; with_reducible rfl) (by simp only [Act.put, List.setIfInBounds_toArray, List.set_cons_zero, List.set_cons_succ, i64_w, i32_w]; rfl) ?_
  refine pu_ 3 (some 22) (m_ 12 15) rfl rfl (by kernel_rfl) (fun _ _ _ h => h) (by rfl) (by intro w'; go_simp; with_reducible rfl) (by simp only [Act.put, List.setIfInBounds_toArray, List.set_cons_zero, List.set_cons_succ, i64_w, i32_w]; rfl) ?_
  refine pu_ 5 (some 24) (m_ 12 47) rfl rfl (by kernel_rfl) (fun _ _ _ h => h) (by rfl) (by intro w'; go_simp; with_reducible rfl) (by simp only [Act.put, List.setIfInBounds_toArray, List.set_cons_zero, List.set_cons_succ, i64_w, i32_w]; rfl) ?_
  refine pu_ 6 (some 25) (m_ 12 111) rfl rfl (by kernel_rfl) (fun _ _ _ h => h) (by rfl) (by intro w'; go_simp; with_reducible rfl) (by simp only [Act.put, List.setIfInBounds_toArray, List.set_cons_zero, List.set_cons_succ, i64_w, i32_w]; rfl) ?_
  refine pu_ 7 (some 26) (m_ 12 239) rfl rfl (by kernel_rfl) (fun _ _ _ h => h) (by rfl) (by intro w'; go_simp; with_reducible rfl) (by simp only [Act.put, List.setIfInBounds_toArray, List.set_cons_zero, List.set_cons_succ, i64_w, i32_w]; rfl) ?_
  refine tk_ 4 (some 23) (m_ 12 255) rfl rfl (by kernel_rfl) (fun _ _ _ h => h) (by rfl) (by rintro w' ⟨s0, s1⟩; go_simp; with_reducible rfl) hHeld (by simp only [Act.put, List.setIfInBounds_toArray, List.set_cons_zero, List.set_cons_succ, i64_w, i32_w]; rfl) ?_
  refine tk_ 8 (some 27) (m_ 12 511) rfl rfl (by kernel_rfl) (fun _ _ _ h => h) (by rfl) (by rintro w' ⟨s0, s1⟩; go_simp; with_reducible rfl) hHeld (by simp only [Act.put, List.setIfInBounds_toArray, List.set_cons_zero, List.set_cons_succ, i64_w, i32_w]; rfl) ?_
  refine pu_ 9 (some 28) (m_ 12 1023) rfl rfl (by kernel_rfl) (fun _ _ _ h => h) (by rfl) (by intro w'; go_simp; with_reducible rfl) (by simp only [Act.put, List.setIfInBounds_toArray, List.set_cons_zero, List.set_cons_succ, i64_w, i32_w]; rfl) ?_
  refine pu_ 10 (some 29) (m_ 12 2047) rfl rfl (by kernel_rfl) (fun _ _ _ h => h) (by rfl) (by intro w'; go_simp; with_reducible rfl) (by simp only [Act.put, List.setIfInBounds_toArray, List.set_cons_zero, List.set_cons_succ, i64_w, i32_w]; rfl) ?_
  refine pu_ 11 (some 18) (m_ 12 4095) rfl rfl (by kernel_rfl) (fun _ _ _ h => h) (by rfl) (by intro w'; go_simp; with_reducible rfl) (by simp only [Act.put, List.setIfInBounds_toArray, List.set_cons_zero, List.set_cons_succ, i64_w, i32_w]; rfl) ?_
  refine done_ (by kernel_rfl) ?_
  clear hHeld e2 d2 d1 e0 hix
  have H2 := Lib.hid (hH1.out.drew.drew)
  have hq2 := Lib.hid (hblk1.out.below ((Below.refl _ _).drew.drew))
  have hB2 := Lib.hid (show Below w.heap.size w w1.drew.drew from hB1.out.drew.drew)
  clear hH1 hblk1 hB1
  generalize w1.drew.drew = W1 at *
  have r0 : W1.cell? ⟨b, 0, none⟩ = some (ptr c) := (H2.out.cell 0).trans rfl
  have htx := Lib.hid (cToxics_any H2.out.2.1 hoc.out.two hoc.out.ten)
  go_wp2_with fail
  refine htx.out.mono ?_
  rintro e w3 ⟨A3, cp3, rfl, hTR, hnw, hB⟩
  obtain ⟨g3, rfl, -, htc⟩ := hTR (by intro e; rw [e] at htl; simp at htl; omega)
  have y0 : w3.cell? ⟨g3, i * 6, none⟩ = some (.string q0) := htc (i * 6 + 0) _ ((tcells_get _ i 0 _ hti (by decide)).trans rfl)
  have y1 : w3.cell? ⟨g3, i * 6 + 1, none⟩ = some (.int .i64 q1) := htc (i * 6 + 1) _ ((tcells_get _ i 1 _ hti (by decide)).trans rfl)
  have y2 : w3.cell? ⟨g3, i * 6 + 2, none⟩ = some (.bool q2) := htc (i * 6 + 2) _ ((tcells_get _ i 2 _ hti (by decide)).trans rfl)
  have y3 : w3.cell? ⟨g3, i * 6 + 3, none⟩ = some (.int .i64 q3) := htc (i * 6 + 3) _ ((tcells_get _ i 3 _ hti (by decide)).trans rfl)
  have y4 : w3.cell? ⟨g3, i * 6 + 4, none⟩ = some (.int .i64 q4) := htc (i * 6 + 4) _ ((tcells_get _ i 4 _ hti (by decide)).trans rfl)
  have y5 : w3.cell? ⟨g3, i * 6 + 5, none⟩ = some (.int .i64 q5) := htc (i * 6 + 5) _ ((tcells_get _ i 5 _ hti (by decide)).trans rfl)
  have H3 := Lib.hid (H2.out.below hB)
  have hq3 := Lib.hid (hq2.out.below hB)
  have hB3 := Lib.hid (hB2.out.trans (hB.mono hB2.out.size))
  have hin1 : i < x.c.l.length - 2 := by omega
  have hin2 : (i : Int) < ((x.c.l.length - 2 : Nat) : Int) := by omega
  have hin3 : (0 : Int) ≤ (i : Int) := by omega
  have hti' := Lib.hid hti
  clear hTR htc hB H2 hq2 hB2 htx hnw r0 hti htl hnames
  have hr := Lib.hid (show LTu w F w3 b x from hl0.out.trans (fun F' hL => LTu.below (w := w) hL hB3.out))
  clear H3 hq3 hB3
  go_wp2
  go_ret
  exact ⟨rfl, hr.out⟩
set_option maxHeartbeats 1000000 in
theorem chg_ok (h : LK w F b x) (ho : OkK x M Q) (hM : M ≤ 1000000000) (t0 : ByteArray) (t1 : Int) (t2 : Bool) (t3 t4 t5 now : Int) (hz : chk ⟨t0, t1, t2, t3, t4, t5⟩ = 0) (hu : t2 = x.up) (i : Nat) (hi : idxN x.names t0 = some i) (q0 : ByteArray) (q1 : Int) (q2 : Bool) (q3 q4 q5 : Int) (hti : (toxs x.c)[i]? = some ⟨q0, q1, q2, q3, q4, q5⟩) (hp : passB ⟨q0, q1, q2, q3, q4, q5⟩ = false) :
    Calls Tryz.prog 23 #[ptr b, .agg #[.string t0, .int .i64 t1, .bool t2, .int .i64 t3, .int .i64 t4, .int .i64 t5], .int .i64 now] w fun e w' => e = .returned (.int .i64 (updCE x.c i ⟨t0, t1, t2, t3, t4, t5⟩)) ∧ LTu w F w' b ({ x with c := updC x.c i ⟨t0, t1, t2, t3, t4, t5⟩ now }) := by
  obtain ⟨G, c, D, v, h⟩ := h
  have hvs := h.2.2.2.1.sr
  obtain ⟨A0, cp0, hv, _⟩ := hvs
  subst hv
  have hnl : x.names.length ≤ 8 := by have := ho.n; have := ho.c.ten; omega
  have hb0 := (Below.refl w.heap.size w).alloc (Nat.le_refl _) (.cells #[.string t0, .int .i64 t1, .bool t2, .int .i64 t3, .int .i64 t4, .int .i64 t5] 34)
  have hblk0 := Lib.hid (Blk.new w 34 #[.string t0, .int .i64 t1, .bool t2, .int .i64 t3, .int .i64 t4, .int .i64 t5])
  have hH0 := Lib.hid (h.below hb0)
  have hb0' := Lib.hid hb0
  have hck := Lib.hid (fun wy => check_any ⟨t0, t1, t2, t3, t4, t5⟩ wy)
  have hl0 := Lib.hid (LTu.refl h.lk)
  have tu : (t2 != x.up) = false := by rw [hu]; simp
  have tu2 : (t2 == x.up) = true := by rw [hu]; simp
  have his : Hid (idxI x.names t0 = (i : Int)) := Lib.hid (by unfold idxI; rw [hi])
  rw [hz] at hck
  have hilt := idx_lt hi
  have hneg : decide ((i : Int) < 0) = false := decide_eq_false (by omega)
  have hnames := ho.n
  have htl := toxs_length x.c ho.c.two
  have hoc := Lib.hid ho.c
  have hq : ∀ W : World, (binOp .eql 34 (.agg #[.string q0, .int .i64 q1, .bool q2, .int .i64 q3, .int .i64 q4, .int .i64 q5]) (.agg #[.string ⟨#[]⟩, .int .i64 0, .bool false, .int .i64 0, .int .i64 0, .int .i64 0])).run Tryz.prog W = .ok (.bool false) W := fun W => by
    rw [eql_tox]; unfold passB noTox at hp; rw [hp]
  have hguard := eqguard_tox
  clear h hb0 ho hz hu hi hp
  go_enter Tryz.func23, Tryz.ntmps23
  go_wp2_with fail
  refine (hck.out _).mono ?_
  rintro e w1 ⟨rfl, hB⟩
  have hB1 := Lib.hid (bw_below hb0'.out hB)
  have hblk1 := Lib.hid (hblk0.out.below hB)
  have hH1 := Lib.hid (hH0.out.below hB)
  clear hB hb0' hblk0 hH0 hck
  have e2 : w1.cell? ⟨w.heap.size, 2, none⟩ = some (.bool t2) := (hblk1.out.cell 2).trans rfl
  have d2 : w1.cell? ⟨b, 2, none⟩ = some (.bool x.up) := (hH1.out.cell 2).trans rfl
  have d1 : w1.cell? ⟨b, 1, none⟩ = some (.slice A0 x.names.length cp0) := (hH1.out.cell 1).trans rfl
  have e0 : w1.cell? ⟨w.heap.size, 0, none⟩ = some (.string t0) := (hblk1.out.cell 0).trans rfl
  have hix := Lib.hid (index_any w1.drew (.slice A0 x.names.length cp0) x.names t0 (show SR w1.drew _ _ from (hH1.out.2.2.2.1).sr) (by omega))
  go_wp2
  refine start_ (n := 8) (S := fun w' => w'.cell? ⟨b, 1, none⟩ = some (.slice A0 x.names.length cp0) ∧ w'.cell? ⟨w.heap.size, 0, none⟩ = some (.string t0)) (ds := []) (m_ 8 0) (by kernel_rfl) rfl (by kernel_rfl) ⟨d1, e0⟩ (fun hHeld => ?_)
  refine pu_ 0 (some 11) (m_ 8 1) rfl rfl (by kernel_rfl) (fun _ _ _ h => h) (by rfl) (by intro w'; go_simp; with_reducible rfl) (by simp only [Act.put, List.setIfInBounds_toArray, List.set_cons_zero, List.set_cons_succ, i64_w, i32_w]; rfl) ?_
  refine pu_ 1 (some 12) (m_ 8 3) rfl rfl (by kernel_rfl) (fun _ _ _ h => h) (by rfl) (by intro w'; go_simp; with_reducible rfl) (by simp only [Act.put, List.setIfInBounds_toArray, List.set_cons_zero, List.set_cons_succ, i64_w, i32_w]; rfl) ?_
  refine pu_ 2 (some 13) (m_ 8 7) rfl rfl (by kernel_rfl) (fun _ _ _ h => h) (by rfl) (by intro w'; go_simp; with_reducible rfl) (by simp only [Act.put, List.setIfInBounds_toArray, List.set_cons_zero, List.set_cons_succ, i64_w, i32_w]; rfl) ?_
  refine pu_ 4 (some 15) (m_ 8 23) rfl rfl (by kernel_rfl) (fun _ _ _ h => h) (by rfl) (by intro w'; go_simp; with_reducible rfl) (by simp only [Act.put, List.setIfInBounds_toArray, List.set_cons_zero, List.set_cons_succ, i64_w, i32_w]; rfl) ?_
  refine tk_ 3 (some 14) (m_ 8 31) rfl rfl (by kernel_rfl) (fun _ _ _ h => h) (by rfl) (by rintro w' ⟨s0, s1⟩; go_simp; with_reducible rfl) hHeld (by simp only [Act.put, List.setIfInBounds_toArray, List.set_cons_zero, List.set_cons_succ, i64_w, i32_w]; rfl) ?_
  refine tk_ 5 (some 16) (m_ 8 63) rfl rfl (by kernel_rfl) (fun _ _ _ h => h) (by rfl) (by rintro w' ⟨s0, s1⟩; go_simp; with_reducible rfl) hHeld (by simp only [Act.put, List.setIfInBounds_toArray, List.set_cons_zero, List.set_cons_succ, i64_w, i32_w]; rfl) ?_
  refine one_ (i := 6) (N := some 17) (m_ 8 127) rfl rfl (by kernel_rfl) (by decide) (fun K hK => ?_)
  refine goes_ Tryz.func42 (by kernel_rfl) rfl #[.slice A0 x.names.length cp0, .string t0] (by rfl) rfl rfl (by simp only [List.map_toArray, List.map_cons, List.map_nil]; rfl) ?_
  with_reducible refine (hix.out).mono ?_
  rintro e w2 ⟨rfl, rfl⟩
  rw [his.out]
  refine ⟨_, rfl, ?_⟩
  refine hK.out _ _ ⟨d1, e0⟩ (fun hHeld => ?_)
  clear hK K
  refine norm_ (a' := ?_) ?_ ?_
  rotate_left
  · show Act.put _ (some 17) _ = _
    simp only [Act.put, List.setIfInBounds_toArray, List.set_cons_zero, List.set_cons_succ, i64_w, i32_w]
    rfl
  refine pu_ 7 (some 8) (m_ 8 255) rfl rfl (by kernel_rfl) (fun _ _ _ h => h) (by rfl) (by intro w'; go_simp; with_reducible rfl) (by simp only [Act.put, List.setIfInBounds_toArray, List.set_cons_zero, List.set_cons_succ, i64_w, i32_w]; rfl) ?_
  refine done_ (by kernel_rfl) ?_
  clear hHeld
  go_wp2
  refine start_ (n := 12) (S := fun w' => w'.cell? ⟨w.heap.size, 2, none⟩ = some (.bool t2) ∧ w'.cell? ⟨b, 2, none⟩ = some (.bool x.up)) (ds := []) (m_ 12 0) (by kernel_rfl) rfl (by kernel_rfl) ⟨e2, d2⟩ (fun hHeld => ?_)
  refine pu_ 0 (some 19) (m_ 12 1) rfl rfl (by kernel_rfl) (fun _ _ _ h => h) (by rfl) (by intro w'; go_simp; with_reducible rfl) (by simp only [Act.put, List.setIfInBounds_toArray, List.set_cons_zero, List.set_cons_succ, i64_w, i32_w]; rfl) ?_
  refine pu_ 1 (some 20) (m_ 12 3) rfl rfl (by kernel_rfl) (fun _ _ _ h => h) (by rfl) (by intro w'; go_simp; with_reducible rfl) (by simp only [Act.put, List.setIfInBounds_toArray, List.set_cons_zero, List.set_cons_succ, i64_w, i32_w]; rfl) ?_
  refine pu_ 2 (some 21) (m_ 12 7) rfl rfl (by kernel_rfl) (fun _ _ _ h => h) (by rfl) (by intro w'; go_simp; with_reducible rfl) (by simp only [Act.put, List.setIfInBounds_toArray, List.set_cons_zero, List.set_cons_succ, i64_w, i32_w]; rfl) ?_
  refine pu_ 3 (some 22) (m_ 12 15) rfl rfl (by kernel_rfl) (fun _ _ _ h => h) (by rfl) (by intro w'; go_simp; with_reducible rfl) (by simp only [Act.put, List.setIfInBounds_toArray, List.set_cons_zero, List.set_cons_succ, i64_w, i32_w]; rfl) ?_
  refine pu_ 5 (some 24) (m_ 12 47) rfl rfl (by kernel_rfl) (fun _ _ _ h => h) (by rfl) (by intro w'; go_simp; with_reducible rfl) (by simp only [Act.put, List.setIfInBounds_toArray, List.set_cons_zero, List.set_cons_succ, i64_w, i32_w]; rfl) ?_
  refine pu_ 6 (some 25) (m_ 12 111) rfl rfl (by kernel_rfl) (fun _ _ _ h => h) (by rfl) (by intro w'; go_simp; with_reducible rfl) (by simp only [Act.put, List.setIfInBounds_toArray, List.set_cons_zero, List.set_cons_succ, i64_w, i32_w]; rfl) ?_
  refine pu_ 7 (some 26) (m_ 12 239) rfl rfl (by kernel_rfl) (fun _ _ _ h => h) (by rfl) (by intro w'; go_simp; with_reducible rfl) (by simp only [Act.put, List.setIfInBounds_toArray, List.set_cons_zero, List.set_cons_succ, i64_w, i32_w]; rfl) ?_
  refine tk_ 4 (some 23) (m_ 12 255) rfl rfl (by kernel_rfl) (fun _ _ _ h => h) (by rfl) (by rintro w' ⟨s0, s1⟩; go_simp; with_reducible rfl) hHeld (by simp only [Act.put, List.setIfInBounds_toArray, List.set_cons_zero, List.set_cons_succ, i64_w, i32_w]; rfl) ?_
  refine tk_ 8 (some 27) (m_ 12 511) rfl rfl (by kernel_rfl) (fun _ _ _ h => h) (by rfl) (by rintro w' ⟨s0, s1⟩; go_simp; with_reducible rfl) hHeld (by simp only [Act.put, List.setIfInBounds_toArray, List.set_cons_zero, List.set_cons_succ, i64_w, i32_w]; rfl) ?_
  refine pu_ 9 (some 28) (m_ 12 1023) rfl rfl (by kernel_rfl) (fun _ _ _ h => h) (by rfl) (by intro w'; go_simp; with_reducible rfl) (by simp only [Act.put, List.setIfInBounds_toArray, List.set_cons_zero, List.set_cons_succ, i64_w, i32_w]; rfl) ?_
  refine pu_ 10 (some 29) (m_ 12 2047) rfl rfl (by kernel_rfl) (fun _ _ _ h => h) (by rfl) (by intro w'; go_simp; with_reducible rfl) (by simp only [Act.put, List.setIfInBounds_toArray, List.set_cons_zero, List.set_cons_succ, i64_w, i32_w]; rfl) ?_
  refine pu_ 11 (some 18) (m_ 12 4095) rfl rfl (by kernel_rfl) (fun _ _ _ h => h) (by rfl) (by intro w'; go_simp; with_reducible rfl) (by simp only [Act.put, List.setIfInBounds_toArray, List.set_cons_zero, List.set_cons_succ, i64_w, i32_w]; rfl) ?_
  refine done_ (by kernel_rfl) ?_
  clear hHeld e2 d2 d1 e0 hix
  have H2 := Lib.hid (hH1.out.drew.drew)
  have hq2 := Lib.hid (hblk1.out.below ((Below.refl _ _).drew.drew))
  have hB2 := Lib.hid (show Below w.heap.size w w1.drew.drew from hB1.out.drew.drew)
  clear hH1 hblk1 hB1
  generalize w1.drew.drew = W1 at *
  have r0 : W1.cell? ⟨b, 0, none⟩ = some (ptr c) := (H2.out.cell 0).trans rfl
  have htx := Lib.hid (cToxics_any H2.out.2.1 hoc.out.two hoc.out.ten)
  go_wp2_with fail
  refine htx.out.mono ?_
  rintro e w3 ⟨A3, cp3, rfl, hTR, hnw, hB⟩
  obtain ⟨g3, rfl, -, htc⟩ := hTR (by intro e; rw [e] at htl; simp at htl; omega)
  have y0 : w3.cell? ⟨g3, i * 6, none⟩ = some (.string q0) := htc (i * 6 + 0) _ ((tcells_get _ i 0 _ hti (by decide)).trans rfl)
  have y1 : w3.cell? ⟨g3, i * 6 + 1, none⟩ = some (.int .i64 q1) := htc (i * 6 + 1) _ ((tcells_get _ i 1 _ hti (by decide)).trans rfl)
  have y2 : w3.cell? ⟨g3, i * 6 + 2, none⟩ = some (.bool q2) := htc (i * 6 + 2) _ ((tcells_get _ i 2 _ hti (by decide)).trans rfl)
  have y3 : w3.cell? ⟨g3, i * 6 + 3, none⟩ = some (.int .i64 q3) := htc (i * 6 + 3) _ ((tcells_get _ i 3 _ hti (by decide)).trans rfl)
  have y4 : w3.cell? ⟨g3, i * 6 + 4, none⟩ = some (.int .i64 q4) := htc (i * 6 + 4) _ ((tcells_get _ i 4 _ hti (by decide)).trans rfl)
  have y5 : w3.cell? ⟨g3, i * 6 + 5, none⟩ = some (.int .i64 q5) := htc (i * 6 + 5) _ ((tcells_get _ i 5 _ hti (by decide)).trans rfl)
  have H3 := Lib.hid (H2.out.below hB)
  have hq3 := Lib.hid (hq2.out.below hB)
  have hB3 := Lib.hid (hB2.out.trans (hB.mono hB2.out.size))
  have hin1 : i < x.c.l.length - 2 := by omega
  have hin2 : (i : Int) < ((x.c.l.length - 2 : Nat) : Int) := by omega
  have hin3 : (0 : Int) ≤ (i : Int) := by omega
  have hti' := Lib.hid hti
  clear hTR htc hB H2 hq2 hB2 htx hnw r0 hti htl hnames
  have r0 : w3.cell? ⟨b, 0, none⟩ = some (ptr c) := (H3.out.cell 0).trans rfl
  have u0 : w3.cell? ⟨w.heap.size, 0, none⟩ = some (.string t0) := (hq3.out.cell 0).trans rfl
  have u1 : w3.cell? ⟨w.heap.size, 1, none⟩ = some (.int .i64 t1) := (hq3.out.cell 1).trans rfl
  have u2 : w3.cell? ⟨w.heap.size, 2, none⟩ = some (.bool t2) := (hq3.out.cell 2).trans rfl
  have u3 : w3.cell? ⟨w.heap.size, 3, none⟩ = some (.int .i64 t3) := (hq3.out.cell 3).trans rfl
  have u4 : w3.cell? ⟨w.heap.size, 4, none⟩ = some (.int .i64 t4) := (hq3.out.cell 4).trans rfl
  have u5 : w3.cell? ⟨w.heap.size, 5, none⟩ = some (.int .i64 t5) := (hq3.out.cell 5).trans rfl
  have hup := Lib.hid (cUpdate_any H3.out.drew.2.1 hoc.out (i : Int) ⟨t0, t1, t2, t3, t4, t5⟩ now hM)
  go_wp2
  refine start_ (n := 9) (S := fun w' => w'.cell? ⟨b, 0, none⟩ = some (ptr c) ∧ w'.cell? ⟨w.heap.size, 0, none⟩ = some (.string t0) ∧ w'.cell? ⟨w.heap.size, 1, none⟩ = some (.int .i64 t1) ∧ w'.cell? ⟨w.heap.size, 2, none⟩ = some (.bool t2) ∧ w'.cell? ⟨w.heap.size, 3, none⟩ = some (.int .i64 t3) ∧ w'.cell? ⟨w.heap.size, 4, none⟩ = some (.int .i64 t4) ∧ w'.cell? ⟨w.heap.size, 5, none⟩ = some (.int .i64 t5)) (ds := []) (m_ 9 0) (by kernel_rfl) rfl (by kernel_rfl) ⟨r0, u0, u1, u2, u3, u4, u5⟩ (fun hHeld => ?_)
  refine pu_ 0 (some 45) (m_ 9 1) rfl rfl (by kernel_rfl) (fun _ _ _ h => h) (by rfl) (by intro w'; go_simp; with_reducible rfl) (by simp only [Act.put, List.setIfInBounds_toArray, List.set_cons_zero, List.set_cons_succ, i64_w, i32_w]; rfl) ?_
  refine pu_ 1 (some 46) (m_ 9 3) rfl rfl (by kernel_rfl) (fun _ _ _ h => h) (by rfl) (by intro w'; go_simp; with_reducible rfl) (by simp only [Act.put, List.setIfInBounds_toArray, List.set_cons_zero, List.set_cons_succ, i64_w, i32_w]; rfl) ?_
  refine pu_ 2 (some 47) (m_ 9 7) rfl rfl (by kernel_rfl) (fun _ _ _ h => h) (by rfl) (by intro w'; go_simp; with_reducible rfl) (by simp only [Act.put, List.setIfInBounds_toArray, List.set_cons_zero, List.set_cons_succ, i64_w, i32_w]; rfl) ?_
  refine pu_ 4 (some 49) (m_ 9 23) rfl rfl (by kernel_rfl) (fun _ _ _ h => h) (by rfl) (by intro w'; go_simp; with_reducible rfl) (by simp only [Act.put, List.setIfInBounds_toArray, List.set_cons_zero, List.set_cons_succ, i64_w, i32_w]; rfl) ?_
  refine pu_ 6 (some 51) (m_ 9 87) rfl rfl (by kernel_rfl) (fun _ _ _ h => h) (by rfl) (by intro w'; go_simp; with_reducible rfl) (by simp only [Act.put, List.setIfInBounds_toArray, List.set_cons_zero, List.set_cons_succ, i64_w, i32_w]; rfl) ?_
  refine tk_ 3 (some 48) (m_ 9 95) rfl rfl (by kernel_rfl) (fun _ _ _ h => h) (by rfl) (by rintro w' ⟨s0, s1, s2, s3, s4, s5, s6⟩; go_simp; with_reducible rfl) hHeld (by simp only [Act.put, List.setIfInBounds_toArray, List.set_cons_zero, List.set_cons_succ, i64_w, i32_w]; rfl) ?_
  refine tk_ 5 (some 50) (m_ 9 127) rfl rfl (by kernel_rfl) (fun _ _ _ h => h) (by rfl) (by rintro w' ⟨s0, s1, s2, s3, s4, s5, s6⟩; go_simp; with_reducible rfl) hHeld (by simp only [Act.put, List.setIfInBounds_toArray, List.set_cons_zero, List.set_cons_succ, i64_w, i32_w]; rfl) ?_
  refine one_ (i := 7) (N := some 52) (m_ 9 255) rfl rfl (by kernel_rfl) (by decide) (fun K hK => ?_)
  refine goes_ Tryz.func46 (by kernel_rfl) rfl #[ptr c, .int .i64 i, .agg #[.string t0, .int .i64 t1, .bool t2, .int .i64 t3, .int .i64 t4, .int .i64 t5], .int .i64 now] (by rfl) rfl rfl (by simp only [List.map_toArray, List.map_cons, List.map_nil]; rfl) ?_
  with_reducible refine (hup.out).mono ?_
  rintro e w7 ⟨rfl, hT⟩
  obtain ⟨F7, G7, D7, h7, hd7, hs7⟩ := H3.out.drew.turn (hT.tuD H3.out.2.2.1)
  have z0 : w7.cell? ⟨b, 0, none⟩ = some (ptr c) := (h7.cell 0).trans rfl
  have hq7 := Blk.did (w := w3.drew) hq3.out hd7 (H3.out.lk.off hq3.out (by decide))
  have zz0 := (hq7.cell 0).trans rfl
  have zz1 := (hq7.cell 1).trans rfl
  have zz2 := (hq7.cell 2).trans rfl
  have zz3 := (hq7.cell 3).trans rfl
  have zz4 := (hq7.cell 4).trans rfl
  have zz5 := (hq7.cell 5).trans rfl
  simp only [List.getElem?_toArray, List.getElem?_cons_zero, List.getElem?_cons_succ] at zz0 zz1 zz2 zz3 zz4 zz5
  have H7 := Lib.hid h7
  have hDS7 := Lib.hid (And.intro hd7 hs7)
  clear hT h7 hd7 hs7 hq7
  refine ⟨_, rfl, ?_⟩
  refine hK.out _ _ ⟨z0, zz0, zz1, zz2, zz3, zz4, zz5⟩ (fun hHeld => ?_)
  clear hK K
  refine norm_ (a' := ?_) ?_ ?_
  rotate_left
  · show Act.put _ (some 52) _ = _
    simp only [Act.put, List.setIfInBounds_toArray, List.set_cons_zero, List.set_cons_succ, i64_w, i32_w]
    rfl
  refine pu_ 8 (some 6) (m_ 9 511) rfl rfl (by kernel_rfl) (fun _ _ _ h => h) (by rfl) (by intro w'; go_simp; with_reducible rfl) (by simp only [Act.put, List.setIfInBounds_toArray, List.set_cons_zero, List.set_cons_succ, i64_w, i32_w]; rfl) ?_
  refine done_ (by kernel_rfl) ?_
  clear hHeld r0 u0 u1 u2 u3 u4 u5 z0 zz0 zz1 zz2 zz3 zz4 zz5 y0 y1 y2 y3 y4 y5
  have hr := Lib.hid (show LTu w F w7 b { x with c := updC x.c i ⟨t0, t1, t2, t3, t4, t5⟩ now } from by
    obtain ⟨F0, hL0, hd0, hs0⟩ := hl0.out
    exact LTu.next ((Did.of_below hB3.out).drew.trans (Stem.refl _ _) hDS7.out.1) (show Stem F F7 w from fun j hj => (hDS7.out.2 j hj).imp id (fun e => Nat.le_trans hB3.out.size e)) ⟨F7, H7.out.lk, Did.refl _ _, Stem.refl _ _⟩)
  clear H7 hDS7 H3 hq3 hB3 hup
  go_wp2
  go_ret
  exact ⟨rfl, hr.out⟩
theorem kChange_any (h : LK w F b x) (ho : OkK x M Q) (hM : M ≤ 1000000000) (t : Tox) (now : Int) :
    Calls Tryz.prog 23 #[ptr b, t.v, .int .i64 now] w fun e w' => e = .returned (.int .i64 (chgE x t)) ∧ LTu w F w' b (chgK x t now) := by
  obtain ⟨t0, t1, t2, t3, t4, t5⟩ := t
  unfold chgE chgK chgB
  by_cases hz : chk ⟨t0, t1, t2, t3, t4, t5⟩ = 0
  · by_cases hu : t2 = x.up
    · rw [if_neg (by rintro (e | e); exact e hz; exact e hu), if_neg (by rintro (e | e); exact e hz; exact e hu)]
      show Calls _ _ _ _ _
      cases hi : idxN x.names t0 with
      | none =>
        simp only [hi]
        exact chg_none h ho hM t0 t1 t2 t3 t4 t5 now hz hu hi
      | some i =>
        have hilt := idx_lt hi
        have hn := ho.n
        have htl := toxs_length x.c ho.c.two
        have hti : (toxs x.c)[i]? = some (toxs x.c)[i] := List.getElem?_eq_getElem (by omega)
        generalize (toxs x.c)[i]'(by omega) = T at *
        obtain ⟨q0, q1, q2, q3, q4, q5⟩ := T
        simp only [hi, hti]
        cases hp : passB ⟨q0, q1, q2, q3, q4, q5⟩ with
        | true => simp only [Option.elim, hp, if_true]; exact chg_pass h ho hM t0 t1 t2 t3 t4 t5 now hz hu i hi q0 q1 q2 q3 q4 q5 hti hp
        | false => simp only [Option.elim, hp]; exact chg_ok h ho hM t0 t1 t2 t3 t4 t5 now hz hu i hi q0 q1 q2 q3 q4 q5 hti hp
    · rw [if_pos (.inr hu), if_pos (.inr hu), hz]
      exact chg_other h ho hM t0 t1 t2 t3 t4 t5 now hz hu
  · rw [if_pos (.inl hz), if_pos (.inl hz)]
    exact chg_bad h ho hM t0 t1 t2 t3 t4 t5 now hz
end Go.Proofs.YtoiibmcbjjnpbaaGreat.Link
namespace Go.Proofs.YtoiibmcbjjnpbaaGreat.Link
open Go.RowKit Mem Tick Cargo Toxic Stage Chain
set_option maxRecDepth 100000
set_option linter.unusedVariables false
set_option linter.unusedSimpArgs false
def Toxs (w : World) (v : Value) (l : List Tox) : Prop :=
  ∃ a cap, v = .slice a l.length cap ∧ l.length ≤ 9223372036854775807 ∧ l.length ≤ cap ∧ (l ≠ [] → ∃ g o, a = some ⟨g, o, none⟩ ∧ ∀ j t, l[j]? = some t → w.cell? ⟨g, o + j * 6, none⟩ = some (.string t.name) ∧ w.cell? ⟨g, o + j * 6 + 1, none⟩ = some (.int .i64 t.kind) ∧ w.cell? ⟨g, o + j * 6 + 2, none⟩ = some (.bool t.up) ∧ w.cell? ⟨g, o + j * 6 + 3, none⟩ = some (.int .i64 t.often) ∧ w.cell? ⟨g, o + j * 6 + 4, none⟩ = some (.int .i64 t.a) ∧ w.cell? ⟨g, o + j * 6 + 5, none⟩ = some (.int .i64 t.b))
theorem Toxs.below {w w' : World} {v : Value} {l : List Tox} (h : Toxs w v l) (hb : Below w.heap.size w w') : Toxs w' v l := by
  obtain ⟨a, cap, h1, h2, h3, h4⟩ := h
  refine ⟨a, cap, h1, h2, h3, fun hn => ?_⟩
  obtain ⟨g, o, e, hc⟩ := h4 hn
  refine ⟨g, o, e, fun j t ht => ?_⟩
  obtain ⟨c0, c1, c2, c3, c4, c5⟩ := hc j t ht
  exact ⟨bcells hb c0, bcells hb c1, bcells hb c2, bcells hb c3, bcells hb c4, bcells hb c5⟩
theorem same_any (t : Tox) (g : Nat) (n : ByteArray) (w : World) (hc : w.cell? ⟨g, 0, none⟩ = some (.string n)) :
    Calls Tryz.prog 32 #[t.v, ptr g] w fun e w' => e = .returned (.bool (t.name.toList == n.toList)) ∧ Below w.heap.size w w' := by
  obtain ⟨t0, t1, t2, t3, t4, t5⟩ := t
  have hl := World.block_lt_of_cell? w _ hc
  have hl2 : g < w.heap.size := hl
  have hne : g ≠ w.heap.size := by omega
  have hB := Lib.hid ((Below.refl w.heap.size w).alloc (Nat.le_refl _) (.cells #[.string t0, .int .i64 t1, .bool t2, .int .i64 t3, .int .i64 t4, .int .i64 t5] 34))
  have hc2 := bcells hB.out hc
  go_enter Tryz.func32, Tryz.ntmps32
  go_wp2
  go_ret
  exact ⟨rfl, hB.out⟩
def hasB (l : List Tox) (n : ByteArray) : Bool := l.any fun x => x.name.toList == n.toList
theorem hasB_succ {l : List Tox} {k : Nat} {t : Tox} (h : l[k]? = some t) (n : ByteArray) : hasB (l.take (k + 1)) n = (hasB (l.take k) n || (t.name.toList == n.toList)) := by
  unfold hasB
  rw [List.take_add_one, h, List.any_append]
  simp
theorem indexF_any (w : World) (v : Value) (l : List Tox) (g : Nat) (n : ByteArray) (hv : Toxs w v l) (hc : w.cell? ⟨g, 0, none⟩ = some (.string n)) :
    Calls Tryz.prog 55 #[v, .func (.func 32) #[] #[ptr g]] w fun e w' => (∃ i : Int, e = .returned (.int .i64 i) ∧ (decide (0 ≤ i) = hasB l n)) ∧ Below w.heap.size w w' := by
  obtain ⟨a, cap, rfl, hmx, hcp, hA⟩ := hv
  have hs := Lib.hid (fun (t : Tox) (wy : World) (hb : Below w.heap.size w wy) => same_any t g n wy (bcells hb hc))
  clear hc
  go_enter Tryz.func55, Tryz.ntmps55
  go_wp2
  go_loopw [8] (fun iv wr => ∃ k : Nat, k ≤ l.length ∧ iv = .int .i64 k ∧ Below w.heap.size w wr ∧ hasB (l.take k) n = false) (fun iv _ => l.length - (intOf iv).toNat)
  case atStart => exact ⟨0, by omega, rfl, Below.refl _ _, rfl⟩
  case round =>
    obtain ⟨k, hk, rfl, hB, hno⟩ := hrel
    by_cases hlt : k < l.length
    · obtain ⟨g2, o, rfl, hc⟩ := hA (by intro h; subst h; simp at hlt)
      have hx : l[k]? = some l[k] := List.getElem?_eq_getElem hlt
      obtain ⟨d0, d1, d2, d3, d4, d5⟩ := hc k _ hx
      have hsucc := Lib.hid (hasB_succ hx n)
      rw [hno, Bool.false_or] at hsucc
      have hmem := Lib.hid (show ∀ (t : Tox), l[k]? = some t → (t.name.toList == n.toList) = true → hasB l n = true from fun t ht e => List.any_eq_true.2 ⟨t, List.mem_of_getElem? ht, e⟩)
      have hx' := Lib.hid hx
      generalize l[k] = p at *
      obtain ⟨t0, t1, t2, t3, t4, t5⟩ := p
      dsimp only at *
      have d0' := bcells hB d0
      have d1' := bcells hB d1
      have d2' := bcells hB d2
      have d3' := bcells hB d3
      have d4' := bcells hB d4
      have d5' := bcells hB d5
      have hB' := Lib.hid hB
      clear hc hx hA d0 d1 d2 d3 d4 d5 hB hno
      go_wp2_with fail
      refine (hs.out ⟨t0, t1, t2, t3, t4, t5⟩ _ hB'.out).mono ?_
      rintro e w2 ⟨rfl, hB2⟩
      have hB3 := Lib.hid (bw_below hB'.out hB2)
      clear hB2
      cases he : (t0.toList == n.toList) with
      | true =>
        have hr := Lib.hid (show hasB l n = true from hmem.out _ hx'.out he)
        clear hsucc hmem he
        go_wp2
        go_ret
        exact ⟨⟨_, rfl, by rw [hr.out]; simp⟩, hB3.out⟩
      | false =>
        have hr := Lib.hid (show hasB (l.take (k + 1)) n = false from by rw [hsucc.out]; exact he)
        clear hsucc hmem he
        go_wp2
        go_roundw
        case rel => exact ⟨k + 1, by omega, by go_num, hB3.out, hr.out⟩
        case measure => simp [intOf]; omega
    · have hk2 : k = l.length := by omega
      subst hk2
      have hnl : ¬ (l.length < l.length) := by omega
      rw [List.take_length] at hno
      have hr := Lib.hid hno
      clear hno hA
      go_wp2
      go_ret
      exact ⟨⟨_, rfl, by rw [hr.out]; rfl⟩, hB⟩
theorem containsF_any (w : World) (v : Value) (l : List Tox) (g : Nat) (n : ByteArray) (hv : Toxs w v l) (hc : w.cell? ⟨g, 0, none⟩ = some (.string n)) :
    Calls Tryz.prog 31 #[v, .func (.func 32) #[] #[ptr g]] w fun e w' => e = .returned (.bool (hasB l n)) ∧ Below w.heap.size w w' := by
  have hh := Lib.hid (indexF_any w v l g n hv hc)
  clear hv hc
  go_enter Tryz.func31, Tryz.ntmps31
  go_wp2_with fail
  refine hh.out.mono ?_
  rintro e w2 ⟨⟨i, rfl, hi⟩, hB2⟩
  have hi' := Lib.hid hi
  have hB3 := Lib.hid hB2
  clear hh hi hB2
  go_wp2
  go_ret
  exact ⟨by rw [← hi'.out]; rfl, hB3.out⟩
theorem Toxs.take {w : World} {a : Option Addr} {cap : Nat} {l : List Tox} (h : Toxs w (.slice a l.length cap) l) {k : Nat} (hk : k ≤ l.length) : Toxs w (.slice a k cap) (l.take k) := by
  obtain ⟨a', cap', he, h2, h3, h4⟩ := h
  injection he with e1 e2 e3
  subst e1 e3
  have hl : (l.take k).length = k := by rw [List.length_take]; omega
  refine ⟨a, cap, by rw [hl], by omega, by omega, fun hn => ?_⟩
  obtain ⟨g, o, e, hc⟩ := h4 (by rintro rfl; simp at hn)
  refine ⟨g, o, e, fun j t ht => hc j t ?_⟩
  rw [List.getElem?_take] at ht
  split at ht
  · exact ht
  · cases ht
def dblN (l : List Tox) : Nat → Bool
  | 0 => false
  | k + 1 => dblN l k || (match l[k]? with | some t => hasB (l.take k) t.name | none => false)
def dblB (l : List Tox) : Bool := dblN l l.length
theorem dblN_mono {l : List Tox} {k m : Nat} (h : dblN l k = true) (hm : k ≤ m) : dblN l m = true := by
  induction m with
  | zero => have : k = 0 := by omega
            subst this; exact h
  | succ m ih =>
    by_cases e : k = m + 1
    · subst e; exact h
    · unfold dblN; rw [ih (by omega)]; rfl
theorem doubles_any (w : World) (v : Value) (l : List Tox) (hv : Toxs w v l) :
    Calls Tryz.prog 16 #[v] w fun e w' => e = .returned (.bool (dblB l)) ∧ Below w.heap.size w w' := by
  have hv0 := Lib.hid hv
  obtain ⟨a, cap, rfl, hmx, hcp, hA⟩ := hv
  go_enter Tryz.func16, Tryz.ntmps16
  go_wp2
  go_loopw [7] (fun iv wr => ∃ k : Nat, k ≤ l.length ∧ iv = .int .i64 k ∧ Below w.heap.size w wr ∧ dblN l k = false) (fun iv _ => l.length - (intOf iv).toNat)
  case atStart => exact ⟨0, by omega, rfl, Below.refl _ _, rfl⟩
  case round =>
    obtain ⟨k, hk, rfl, hB, hno⟩ := hrel
    by_cases hlt : k < l.length
    · have hpre := Lib.hid ((hv0.out.below hB).take hk)
      obtain ⟨g2, o, rfl, hc⟩ := hA (by intro h; subst h; simp at hlt)
      have hx : l[k]? = some l[k] := List.getElem?_eq_getElem hlt
      obtain ⟨d0, d1, d2, d3, d4, d5⟩ := hc k _ hx
      have hsucc := Lib.hid (show dblN l (k + 1) = hasB (l.take k) (l[k]).name from by show (dblN l k || _) = _; rw [hno, hx]; rfl)
      generalize l[k] = p at *
      obtain ⟨t0, t1, t2, t3, t4, t5⟩ := p
      dsimp only at *
      have d0' := bcells hB d0
      have d1' := bcells hB d1
      have d2' := bcells hB d2
      have d3' := bcells hB d3
      have d4' := bcells hB d4
      have d5' := bcells hB d5
      have hB1 := Lib.hid (hB.alloc hB.size (.cells #[.string t0, .int .i64 t1, .bool t2, .int .i64 t3, .int .i64 t4, .int .i64 t5] 34))
      have hcon := Lib.hid (containsF_any (wr.alloc (.cells #[.string t0, .int .i64 t1, .bool t2, .int .i64 t3, .int .i64 t4, .int .i64 t5] 34)) (.slice (some ⟨g2, o, none⟩) k cap) (l.take k) wr.heap.size t0 (hpre.out.below ((Below.refl _ _).alloc (Nat.le_refl _) _)) (((Blk.new wr 34 #[.string t0, .int .i64 t1, .bool t2, .int .i64 t3, .int .i64 t4, .int .i64 t5]).cell 0).trans rfl))
      have hkc : k ≤ cap := by omega
      have hkc2 : (k : Int) ≤ (cap : Int) := by omega
      have hmono := Lib.hid (fun h => show dblB l = true from dblN_mono (l := l) (k := k + 1) h (by omega))
      clear hc hx hA d0 d1 d2 d3 d4 d5 hB hno hpre
      go_wp2_with fail
      refine hcon.out.mono ?_
      rintro e w2 ⟨rfl, hB2⟩
      have hB3 := Lib.hid (bw_below hB1.out hB2)
      clear hB2 hB1
      cases he : hasB (l.take k) t0 with
      | true =>
        have hr := Lib.hid (hmono.out (by rw [hsucc.out]; exact he))
        clear hsucc hmono he hcon
        go_wp2
        go_ret
        exact ⟨by rw [hr.out]; rfl, hB3.out⟩
      | false =>
        have hr := Lib.hid (show dblN l (k + 1) = false from by rw [hsucc.out]; exact he)
        clear hsucc hmono he hcon
        go_wp2
        go_roundw
        case rel => exact ⟨k + 1, by omega, by go_num, hB3.out, hr.out⟩
        case measure => simp [intOf]; omega
    · have hk2 : k = l.length := by omega
      subst hk2
      have hnl : ¬ (l.length < l.length) := by omega
      have hr := Lib.hid (show dblB l = false from hno)
      clear hno hA
      go_wp2
      go_ret
      exact ⟨by rw [hr.out]; rfl, hB⟩
/-! what lives -/
def LiveK (w wr : World) (b : Nat) (x : Lk) : Prop := ∃ F, LK wr F b x ∧ (∀ j, F j → w.heap.size ≤ j) ∧ Below w.heap.size w wr
def KeepK (wr w2 : World) : Prop := ∀ g t cs, Blk wr g t cs → t ∉ lts → Blk w2 g t cs
variable {w wr w2 w1 : World} {F : Nat → Prop} {b : Nat} {x y : Lk} {M Q : Int}
theorem LiveK.old (h : LiveK w wr b x) : Below w.heap.size w wr := by obtain ⟨F, _, _, hb⟩ := h; exact hb
theorem LiveK.below (h : LiveK w wr b x) (hb : Below wr.heap.size wr w2) : LiveK w w2 b x := by
  obtain ⟨F, hC, hF, hB⟩ := h
  exact ⟨F, hC.below hb, hF, hB.trans (hb.mono hB.size)⟩
theorem LiveK.turn (hC : LK wr F b x) (hF : ∀ j, F j → w.heap.size ≤ j) (hB : Below w.heap.size w wr) (h : LTu wr F w2 b y) : LiveK w w2 b y ∧ KeepK wr w2 := by
  obtain ⟨F', hC2, hd, hs⟩ := h
  exact ⟨⟨F', hC2, fun j hj => (hs j hj).elim (hF j) (fun h => Nat.le_trans hB.size h), hB.trans (hd.below hB.size hF)⟩, fun g t cs hb ht => hb.did hd (hC.off hb ht)⟩
def firstE : List Tox → Int
  | [] => 0
  | t :: r => if chk t ≠ 0 then chk t else firstE r
theorem first_succ {l : List Tox} {k : Nat} {t : Tox} (h : l[k]? = some t) (hk : firstE (l.take k) = 0) : firstE (l.take (k + 1)) = chk t := by
  induction l generalizing k with
  | nil => simp at h
  | cons u r ih =>
    cases k with
    | zero =>
      injection h with h
      subst h
      simp [firstE]
      intro e
      omega
    | succ k =>
      simp only [List.take_succ_cons, firstE] at hk ⊢
      split at hk
      · omega
      · rename_i hu
        rw [if_neg hu]
        exact ih h hk
theorem first_mono {l : List Tox} {k : Nat} (h : firstE (l.take k) ≠ 0) : firstE l = firstE (l.take k) := by
  induction l generalizing k with
  | nil => simp
  | cons u r ih =>
    cases k with
    | zero => exact absurd rfl h
    | succ k =>
      simp only [List.take_succ_cons, firstE] at h ⊢
      split at h
      · rename_i hu; rw [if_pos hu, if_pos hu]
      · rename_i hu; rw [if_neg hu, if_neg hu]; exact ih h
def linkE (l : List Tox) (room : Int) : Int := if roomOk room = false ∨ 8 < l.length then 1 else if firstE l ≠ 0 then firstE l else if dblB l = true then 141 else 0
def link0 (up : Bool) (seed room now : Int) : Lk := ⟨newC room now, [], up, seed, 0, 0, 0, false⟩
def linkN (l : List Tox) (up : Bool) (seed room now : Int) : Lk := l.foldl (fun x t => addK x t now) (link0 up seed room now)
theorem ok_link0 (up : Bool) (seed room now : Int) (h : roomOk room = true) (h0 : 0 ≤ seed) (h1 : seed < 18446744073709551616) : OkK (link0 up seed room now) 0 0 :=
  ⟨ok_newC room now h, rfl, Int.le_refl 0, (by decide : (0 : Int) ≤ 1000000000), h0, h1, Int.le_refl 0, Int.le_refl 0⟩
theorem drawn_add (x : Lk) (t : Tox) (now : Int) : (addK x t now).drawn ≤ x.drawn + 1 := by
  unfold addK
  split
  · exact Int.le_refl _
  · omega
theorem ok_fold (now : Int) : ∀ (l : List Tox) (x : Lk), OkK x 0 0 → x.drawn + l.length ≤ 1000 → OkK (l.foldl (fun x t => addK x t now) x) 0 0 ∧ (l.foldl (fun x t => addK x t now) x).drawn ≤ x.drawn + l.length
  | [], x, h, hd => ⟨h, by simp⟩
  | t :: r, x, h, hd => by
    rw [List.length_cons] at hd
    have h1 := drawn_add x t now
    obtain ⟨h2, h3⟩ := ok_fold now r (addK x t now) (h.add (Int.le_refl 0) (by omega) t now) (by omega)
    exact ⟨h2, by rw [List.foldl_cons, List.length_cons]; omega⟩
theorem ok_linkN (l : List Tox) (up : Bool) (seed room now : Int) (h : roomOk room = true) (h0 : 0 ≤ seed) (h1 : seed < 18446744073709551616) (hl : l.length ≤ 8) : OkK (linkN l up seed room now) 0 0 ∧ (linkN l up seed room now).drawn ≤ 8 := by
  have := ok_fold now l _ (ok_link0 up seed room now h h0 h1) (by show (0 : Int) + l.length ≤ 1000; omega)
  exact ⟨this.1, by have h2 := this.2; have h3 : (link0 up seed room now).drawn = 0 := rfl; unfold linkN; omega⟩
theorem new_bad (v : Value) (l : List Tox) (up : Bool) (seed room now : Int) (w : World) (hv : Toxs w v l) (hr : roomOk room = false) :
    Calls Tryz.prog 6 #[v, .bool up, .int .u64 seed, .int .i64 room, .int .i64 now] w fun e w' => e = .returned (.tuple #[.pointer none, .int .i64 (1)]) ∧ Below w.heap.size w w' := by
  have hn := Lib.hid (cNew_bad room now w hr)
  clear hv
  go_enter Tryz.func6, Tryz.ntmps6
  go_wp2_with fail
  refine hn.out.mono ?_
  rintro e w1 ⟨rfl, hB⟩
  have hB1 := Lib.hid hB
  clear hn hB
  go_wp2
  go_ret2
  exact ⟨rfl, hB1.out⟩
theorem new_long (v : Value) (l : List Tox) (up : Bool) (seed room now : Int) (w : World) (hv : Toxs w v l) (hr : roomOk room = true) (hl : 8 < l.length) :
    Calls Tryz.prog 6 #[v, .bool up, .int .u64 seed, .int .i64 room, .int .i64 now] w fun e w' => e = .returned (.tuple #[.pointer none, .int .i64 (1)]) ∧ Below w.heap.size w w' := by
  have hn := Lib.hid (cNew_any room now w hr)
  obtain ⟨a, cap, rfl, hmx, hcp, hA⟩ := hv
  have tl : decide ((8 : Int) < (l.length : Int)) = true := decide_eq_true (by omega)
  clear hA
  go_enter Tryz.func6, Tryz.ntmps6
  go_wp2_with fail
  refine hn.out.mono ?_
  rintro e w1 ⟨c, F, D, rfl, hC, hF, hcp2, hB⟩
  have hB1 := Lib.hid hB
  clear hn hB hC hF hcp2
  go_wp2
  go_ret2
  exact ⟨rfl, hB1.out⟩
theorem new_chk (v : Value) (l : List Tox) (up : Bool) (seed room now : Int) (w : World) (hv : Toxs w v l) (hr : roomOk room = true) (hl : l.length ≤ 8) (hf : firstE l ≠ 0) :
    Calls Tryz.prog 6 #[v, .bool up, .int .u64 seed, .int .i64 room, .int .i64 now] w fun e w' => e = .returned (.tuple #[.pointer none, .int .i64 (firstE l)]) ∧ Below w.heap.size w w' := by
  have hn := Lib.hid (cNew_any room now w hr)
  have hv0 := Lib.hid hv
  obtain ⟨a, cap, rfl, hmx, hcp, hA⟩ := hv
  have tl : decide ((8 : Int) < (l.length : Int)) = false := decide_eq_false (by omega)
  go_enter Tryz.func6, Tryz.ntmps6
  go_wp2_with fail
  refine hn.out.mono ?_
  rintro e w1 ⟨c, F, D, rfl, hC, hF, hcp2, hB⟩
  have hBw1 := Lib.hid hB
  have hCh := Lib.hid (And.intro hC (And.intro hF hcp2))
  clear hn hB hC hF hcp2
  go_wp2
  go_loopw [35] (fun iv wr => ∃ k : Nat, k ≤ l.length ∧ iv = .int .i64 k ∧ Below w1.heap.size w1 wr ∧ firstE (l.take k) = 0) (fun iv _ => l.length - (intOf iv).toNat)
  case atStart => exact ⟨0, by omega, rfl, Below.refl _ _, rfl⟩
  case round =>
    obtain ⟨k, hk, rfl, hB, hno⟩ := hrel
    by_cases hlt : k < l.length
    · obtain ⟨g2, o, rfl, hc⟩ := hA (by intro h; subst h; simp at hlt)
      have hx : l[k]? = some l[k] := List.getElem?_eq_getElem hlt
      obtain ⟨d0, d1, d2, d3, d4, d5⟩ := hc k _ hx
      have hsucc := Lib.hid (first_succ hx hno)
      have hmono := Lib.hid (fun h => first_mono (l := l) (k := k + 1) h)
      generalize l[k] = p at *
      obtain ⟨t0, t1, t2, t3, t4, t5⟩ := p
      dsimp only at *
      have hBw := hBw1.out.trans (hB.mono hBw1.out.size)
      have d0' := bcells hBw d0
      have d1' := bcells hBw d1
      have d2' := bcells hBw d2
      have d3' := bcells hBw d3
      have d4' := bcells hBw d4
      have d5' := bcells hBw d5
      have hB' := Lib.hid (hB.alloc hB.size (.cells #[.string t0, .int .i64 t1, .bool t2, .int .i64 t3, .int .i64 t4, .int .i64 t5] 34))
      have hck := Lib.hid (fun wy => check_any ⟨t0, t1, t2, t3, t4, t5⟩ wy)
      clear hc hx hA d0 d1 d2 d3 d4 d5 hB hno hBw
      go_wp2_with fail
      refine (hck.out _).mono ?_
      rintro e w2 ⟨rfl, hB2⟩
      have hB3 := Lib.hid (bw_below hB'.out hB2)
      clear hB2 hB' hck
      by_cases he : chk ⟨t0, t1, t2, t3, t4, t5⟩ = 0
      · have hr := Lib.hid (show firstE (l.take (k + 1)) = 0 from by rw [hsucc.out]; exact he)
        rw [he]
        clear hsucc hmono he
        go_wp2
        go_roundw
        case rel => exact ⟨k + 1, by omega, by go_num, hB3.out, hr.out⟩
        case measure => simp [intOf]; omega
      · have te : (chk ⟨t0, t1, t2, t3, t4, t5⟩ != 0) = true := by simpa using he
        have hr := Lib.hid (show firstE l = chk ⟨t0, t1, t2, t3, t4, t5⟩ from by have := hmono.out (by rw [hsucc.out]; exact he); rw [hsucc.out] at this; exact this)
        clear hsucc hmono he
        go_wp2
        go_ret2
        exact ⟨by rw [hr.out]; rfl, bw_below hBw1.out hB3.out⟩
    · have hk2 : k = l.length := by omega
      subst hk2
      have hnl : ¬ (l.length < l.length) := by omega
      rw [List.take_length] at hno
      exact absurd hno hf
theorem new_dbl (v : Value) (l : List Tox) (up : Bool) (seed room now : Int) (w : World) (hv : Toxs w v l) (hr : roomOk room = true) (hl : l.length ≤ 8) (hf : firstE l = 0) (hd : dblB l = true) :
    Calls Tryz.prog 6 #[v, .bool up, .int .u64 seed, .int .i64 room, .int .i64 now] w fun e w' => e = .returned (.tuple #[.pointer none, .int .i64 (141)]) ∧ Below w.heap.size w w' := by
  have hn := Lib.hid (cNew_any room now w hr)
  have hv0 := Lib.hid hv
  obtain ⟨a, cap, rfl, hmx, hcp, hA⟩ := hv
  have tl : decide ((8 : Int) < (l.length : Int)) = false := decide_eq_false (by omega)
  go_enter Tryz.func6, Tryz.ntmps6
  go_wp2_with fail
  refine hn.out.mono ?_
  rintro e w1 ⟨c, F, D, rfl, hC, hF, hcp2, hB⟩
  have hBw1 := Lib.hid hB
  have hCh := Lib.hid (And.intro hC (And.intro hF hcp2))
  clear hn hB hC hF hcp2
  go_wp2
  go_loopw [35] (fun iv wr => ∃ k : Nat, k ≤ l.length ∧ iv = .int .i64 k ∧ Below w1.heap.size w1 wr ∧ firstE (l.take k) = 0) (fun iv _ => l.length - (intOf iv).toNat)
  case atStart => exact ⟨0, by omega, rfl, Below.refl _ _, rfl⟩
  case round =>
    obtain ⟨k, hk, rfl, hB, hno⟩ := hrel
    by_cases hlt : k < l.length
    · obtain ⟨g2, o, rfl, hc⟩ := hA (by intro h; subst h; simp at hlt)
      have hx : l[k]? = some l[k] := List.getElem?_eq_getElem hlt
      obtain ⟨d0, d1, d2, d3, d4, d5⟩ := hc k _ hx
      have hsucc := Lib.hid (first_succ hx hno)
      have hmono := Lib.hid (fun h => first_mono (l := l) (k := k + 1) h)
      generalize l[k] = p at *
      obtain ⟨t0, t1, t2, t3, t4, t5⟩ := p
      dsimp only at *
      have hBw := hBw1.out.trans (hB.mono hBw1.out.size)
      have d0' := bcells hBw d0
      have d1' := bcells hBw d1
      have d2' := bcells hBw d2
      have d3' := bcells hBw d3
      have d4' := bcells hBw d4
      have d5' := bcells hBw d5
      have hB' := Lib.hid (hB.alloc hB.size (.cells #[.string t0, .int .i64 t1, .bool t2, .int .i64 t3, .int .i64 t4, .int .i64 t5] 34))
      have hck := Lib.hid (fun wy => check_any ⟨t0, t1, t2, t3, t4, t5⟩ wy)
      clear hc hx hA d0 d1 d2 d3 d4 d5 hB hno hBw
      go_wp2_with fail
      refine (hck.out _).mono ?_
      rintro e w2 ⟨rfl, hB2⟩
      have hB3 := Lib.hid (bw_below hB'.out hB2)
      clear hB2 hB' hck
      by_cases he : chk ⟨t0, t1, t2, t3, t4, t5⟩ = 0
      · have hr := Lib.hid (show firstE (l.take (k + 1)) = 0 from by rw [hsucc.out]; exact he)
        rw [he]
        clear hsucc hmono he
        go_wp2
        go_roundw
        case rel => exact ⟨k + 1, by omega, by go_num, hB3.out, hr.out⟩
        case measure => simp [intOf]; omega
      · have te : (chk ⟨t0, t1, t2, t3, t4, t5⟩ != 0) = true := by simpa using he
        have hr := Lib.hid (show firstE l = chk ⟨t0, t1, t2, t3, t4, t5⟩ from by have := hmono.out (by rw [hsucc.out]; exact he); rw [hsucc.out] at this; exact this)
        clear hsucc hmono he
        exact absurd (hr.out.symm.trans hf) (by simpa using te)
    · have hk2 : k = l.length := by omega
      subst hk2
      have hnl : ¬ (l.length < l.length) := by omega
      rw [List.take_length] at hno
      have hdb := Lib.hid (doubles_any wr (.slice a l.length cap) l (hv0.out.below (hBw1.out.trans (hB.mono hBw1.out.size))))
      rw [hd] at hdb
      have hB' := Lib.hid (bw_below hBw1.out hB)
      clear hA hB hno
      go_wp2_with fail
      refine hdb.out.mono ?_
      rintro e w2 ⟨rfl, hB2⟩
      have hB3 := Lib.hid (bw_below hB'.out hB2)
      clear hB2 hdb
      go_wp2
      go_ret2
      exact ⟨rfl, hB3.out⟩
set_option maxHeartbeats 1000000 in
theorem new_ok (v : Value) (l : List Tox) (up : Bool) (seed room now : Int) (w : World) (hv : Toxs w v l) (hr : roomOk room = true) (hl : l.length ≤ 8) (hf : firstE l = 0) (hd : dblB l = false) (h0 : 0 ≤ seed) (h1 : seed < 18446744073709551616) :
    Calls Tryz.prog 6 #[v, .bool up, .int .u64 seed, .int .i64 room, .int .i64 now] w fun e w' => ∃ b, e = .returned (.tuple #[ptr b, .int .i64 0]) ∧ LiveK w w' b (linkN l up seed room now) := by
  have hn := Lib.hid (cNew_any room now w hr)
  have hv0 := Lib.hid hv
  obtain ⟨a, cap, rfl, hmx, hcp, hA⟩ := hv
  have tl : decide ((8 : Int) < (l.length : Int)) = false := decide_eq_false (by omega)
  go_enter Tryz.func6, Tryz.ntmps6
  go_wp2_with fail
  refine hn.out.mono ?_
  rintro e w1 ⟨c, F, D, rfl, hC, hF, hcp2, hB⟩
  have hBw1 := Lib.hid hB
  have hCh := Lib.hid (And.intro hC (And.intro hF hcp2))
  clear hn hB hC hF hcp2
  go_wp2
  go_loopw [35] (fun iv wr => ∃ k : Nat, k ≤ l.length ∧ iv = .int .i64 k ∧ Below w1.heap.size w1 wr ∧ firstE (l.take k) = 0) (fun iv _ => l.length - (intOf iv).toNat)
  case atStart => exact ⟨0, by omega, rfl, Below.refl _ _, rfl⟩
  case round =>
    obtain ⟨k, hk, rfl, hB, hno⟩ := hrel
    by_cases hlt : k < l.length
    · obtain ⟨g2, o, rfl, hc⟩ := hA (by intro h; subst h; simp at hlt)
      have hx : l[k]? = some l[k] := List.getElem?_eq_getElem hlt
      obtain ⟨d0, d1, d2, d3, d4, d5⟩ := hc k _ hx
      have hsucc := Lib.hid (first_succ hx hno)
      have hmono := Lib.hid (fun h => first_mono (l := l) (k := k + 1) h)
      generalize l[k] = p at *
      obtain ⟨t0, t1, t2, t3, t4, t5⟩ := p
      dsimp only at *
      have hBw := hBw1.out.trans (hB.mono hBw1.out.size)
      have d0' := bcells hBw d0
      have d1' := bcells hBw d1
      have d2' := bcells hBw d2
      have d3' := bcells hBw d3
      have d4' := bcells hBw d4
      have d5' := bcells hBw d5
      have hB' := Lib.hid (hB.alloc hB.size (.cells #[.string t0, .int .i64 t1, .bool t2, .int .i64 t3, .int .i64 t4, .int .i64 t5] 34))
      have hck := Lib.hid (fun wy => check_any ⟨t0, t1, t2, t3, t4, t5⟩ wy)
      clear hc hx hA d0 d1 d2 d3 d4 d5 hB hno hBw
      go_wp2_with fail
      refine (hck.out _).mono ?_
      rintro e w2 ⟨rfl, hB2⟩
      have hB3 := Lib.hid (bw_below hB'.out hB2)
      clear hB2 hB' hck
      by_cases he : chk ⟨t0, t1, t2, t3, t4, t5⟩ = 0
      · have hr := Lib.hid (show firstE (l.take (k + 1)) = 0 from by rw [hsucc.out]; exact he)
        rw [he]
        clear hsucc hmono he
        go_wp2
        go_roundw
        case rel => exact ⟨k + 1, by omega, by go_num, hB3.out, hr.out⟩
        case measure => simp [intOf]; omega
      · have te : (chk ⟨t0, t1, t2, t3, t4, t5⟩ != 0) = true := by simpa using he
        have hr := Lib.hid (show firstE l = chk ⟨t0, t1, t2, t3, t4, t5⟩ from by have := hmono.out (by rw [hsucc.out]; exact he); rw [hsucc.out] at this; exact this)
        clear hsucc hmono he
        exact absurd (hr.out.symm.trans hf) (by simpa using te)
    · have hk2 : k = l.length := by omega
      subst hk2
      have hnl : ¬ (l.length < l.length) := by omega
      rw [List.take_length] at hno
      have hdb := Lib.hid (doubles_any wr (.slice a l.length cap) l (hv0.out.below (hBw1.out.trans (hB.mono hBw1.out.size))))
      rw [hd] at hdb
      have hB' := Lib.hid (bw_below hBw1.out hB)
      have hCr := Lib.hid (hCh.out.1.below hB)
      clear hB hno
      go_wp2_with fail
      refine hdb.out.mono ?_
      rintro e w2 ⟨rfl, hB2⟩
      have hB3 := Lib.hid (bw_below hB'.out hB2)
      have hC2 := Lib.hid (hCr.out.below hB2)
      have hBL := (Below.refl w2.heap.size w2).alloc (Nat.le_refl _) (.cells #[ptr c, .slice none 0 0, .bool up, .int .u64 seed, .int .i64 0, .int .i64 0, .int .i64 0, .int .i64 0, .int .i64 0, .bool false] 53)
      have hL0 := Lib.hid (show LiveK w (w2.alloc (.cells #[ptr c, .slice none 0 0, .bool up, .int .u64 seed, .int .i64 0, .int .i64 0, .int .i64 0, .int .i64 0, .int .i64 0, .bool false] 53)) w2.heap.size (link0 up seed room now) from
        ⟨fun j => j = w2.heap.size ∨ F j ∨ (Value.slice none 0 0).ownBlock = some j, ⟨F, c, D, .slice none 0 0, Blk.new w2 _ _, hC2.out.below hBL, hCh.out.2.2, .inl ⟨rfl, rfl⟩, fun j => Iff.rfl⟩, (fun j hj => by
          rcases hj with rfl | hj | hj
          · exact hB3.out.size
          · exact hCh.out.2.1 j hj
          · cases hj), hB3.out.alloc hB3.out.size _⟩)
      clear hB2 hdb hBL hB' hCr
      go_wp2
      go_loopw [54] (fun iv wr => ∃ k : Nat, k ≤ l.length ∧ iv = .int .i64 k ∧ LiveK w wr w2.heap.size (linkN (l.take k) up seed room now)) (fun iv _ => l.length - (intOf iv).toNat)
      case atStart => exact ⟨0, by omega, rfl, hL0.out⟩
      case round =>
        obtain ⟨k, hk, rfl, hL⟩ := hrel
        clear hL0
        by_cases hlt : k < l.length
        · obtain ⟨g2, o, rfl, hc⟩ := hA (by intro h; subst h; simp at hlt)
          have hx : l[k]? = some l[k] := List.getElem?_eq_getElem hlt
          obtain ⟨d0, d1, d2, d3, d4, d5⟩ := hc k _ hx
          have hok := Lib.hid (ok_linkN (l.take k) up seed room now hr h0 h1 (by rw [List.length_take]; omega)).1
          have hsucc := Lib.hid (show linkN (l.take (k + 1)) up seed room now = addK (linkN (l.take k) up seed room now) l[k] now from by unfold linkN; rw [List.take_add_one, hx, List.foldl_append]; rfl)
          generalize l[k] = p at *
          obtain ⟨t0, t1, t2, t3, t4, t5⟩ := p
          dsimp only at *
          have hBw := hL.old
          have d0' := bcells hBw d0
          have d1' := bcells hBw d1
          have d2' := bcells hBw d2
          have d3' := bcells hBw d3
          have d4' := bcells hBw d4
          have d5' := bcells hBw d5
          have hL' := Lib.hid (hL.below ((Below.refl wr.heap.size wr).alloc (Nat.le_refl _) (.cells #[.string t0, .int .i64 t1, .bool t2, .int .i64 t3, .int .i64 t4, .int .i64 t5] 34)))
          clear hc hx hA d0 d1 d2 d3 d4 d5 hL hBw
          generalize linkN (l.take k) up seed room now = x0 at *
          obtain ⟨F0, hLK, hF0, hB0⟩ := hL'.out
          have hadd := Lib.hid (kAdd_any hLK hok.out ⟨t0, t1, t2, t3, t4, t5⟩ now)
          have hFB := Lib.hid (And.intro hLK (And.intro hF0 hB0))
          clear hLK hF0 hB0 hL'
          go_wp2_with fail
          refine hadd.out.mono ?_
          rintro e w4 ⟨rfl, hT⟩
          have hL4 := Lib.hid (LiveK.turn hFB.out.1 hFB.out.2.1 hFB.out.2.2 hT).1
          clear hT hadd hFB
          go_wp2
          go_roundw
          case rel => exact ⟨k + 1, by omega, by go_num, by rw [hsucc.out]; exact hL4.out⟩
          case measure => simp [intOf]; omega
        · have hk2 : k = l.length := by omega
          subst hk2
          have hnl : ¬ (l.length < l.length) := by omega
          rw [List.take_length] at hL
          have hr := Lib.hid hL
          clear hA hL
          go_wp2
          go_ret2
          exact ⟨_, rfl, hr.out⟩
end Go.Proofs.YtoiibmcbjjnpbaaGreat.Link
namespace Go.Proofs.YtoiibmcbjjnpbaaGreat.Link
open Go.RowKit Mem Tick Cargo Toxic Stage Chain
set_option linter.unusedVariables false
set_option linter.unusedSimpArgs false
def EndZ (x : Ch) : Prop := x.state ≠ 0 → x.state = 2 ∨ ∃ a, x.l[x.l.length - 1]? = some a ∧ a.s.state ≠ 0
theorem look_stays {s : Sg} (n : Int) (h : s.state ≠ 0) : (lookP s n).state ≠ 0 := by
  rcases look_cases s n with e | ⟨e, _⟩
  · rw [e]; exact h
  · exact absurd e h
theorem ins_state (c : Ch) (at_ : Int) (t : Tox) (seed now : Int) : (insC c at_ t seed now).state = c.state := by
  unfold insC; repeat' split
  all_goals rfl
theorem rem_state (c : Ch) (at_ now : Int) : (remC c at_ now).state = c.state := by
  unfold remC remAt; repeat' split
  all_goals rfl
theorem upd_state (c : Ch) (at_ : Int) (t : Tox) (now : Int) : (updC c at_ t now).state = c.state := by
  unfold updC; repeat' split
  all_goals rfl
theorem put_state (c : Ch) (n : Int) (b : ByteArray) : (putC c n b).state = c.state := by
  unfold putC; repeat' split
  all_goals rfl
theorem close_state (c : Ch) (n : Int) : (closeC c n).state = c.state := by
  unfold closeC; repeat' split
  all_goals rfl
theorem take_state (c : Ch) (n m : Int) : (takeC c n m).state = c.state := by
  unfold takeC; repeat' split
  all_goals rfl
variable {c : Ch}
theorem EndZ.put (h : EndZ c) (n : Int) (b : ByteArray) : EndZ (putC c n b) := by
  by_cases hs : c.state = 0
  · intro h2
    have e : (putC c n b).state = c.state := put_state c n b
    rw [e] at h2
    exact absurd hs h2
  · have e : putC c n b = c := by unfold putC; rw [if_pos (.inr hs)]
    rw [e]; exact h
theorem EndZ.close (h : EndZ c) (n : Int) : EndZ (closeC c n) := by
  by_cases hs : c.state = 0
  · intro h2
    have e : (closeC c n).state = c.state := close_state c n
    rw [e] at h2
    exact absurd hs h2
  · have e : closeC c n = c := by unfold closeC; rw [if_neg hs]
    rw [e]; exact h
theorem EndZ.brk (h : EndZ c) : EndZ (breakC c) := by
  unfold breakC
  split
  · exact h
  · exact fun _ => .inl rfl
theorem EndZ.step (h : EndZ c) (n : Int) : EndZ (stepC n c) := by
  by_cases hs : c.state = 0
  · intro h2
    rcases state_step n c hs with ⟨h3, _⟩ | ⟨x1, a, ha, he, hst, _, _⟩ | ⟨h3, _⟩
    · exact .inl h3
    · right
      rw [hst] at h2
      refine ⟨lookA n a, ?_, h2⟩
      rw [he]
      unfold lastC
      rw [ha]
      show (x1.l.set (x1.l.length - 1) (lookA n a))[(x1.l.set (x1.l.length - 1) (lookA n a)).length - 1]? = _
      rw [List.length_set, List.getElem?_set_self (List.getElem?_eq_some_iff.1 ha).1]
    · exact absurd h3 h2
  · have e : stepC n c = c := by unfold stepC; rw [if_pos hs]
    rw [e]; exact h
theorem EndZ.take (h : EndZ c) (n m : Int) : EndZ (takeC c n m) := by
  unfold takeC
  split
  · exact h
  split
  · rename_i a ha
    intro h2
    rcases h h2 with e | ⟨a', ha', hs⟩
    · exact .inl e
    · right
      obtain rfl : a = a' := by rw [ha] at ha'; injection ha'
      refine ⟨⟨takeS a.s n m, a.cl⟩, ?_, ?_⟩
      · show (c.l.set (c.l.length - 1) _)[(c.l.set (c.l.length - 1) _).length - 1]? = _
        rw [List.length_set, List.getElem?_set_self (List.getElem?_eq_some_iff.1 ha).1]
      · show (takeS a.s n m).state ≠ 0
        rw [(take_st _ _ _).2.2.1]
        exact look_stays n hs
  · exact h
theorem EndZ.ins (h : EndZ c) (at_ : Int) (t : Tox) (seed now : Int) : EndZ (insC c at_ t seed now) := by
  unfold insC
  split
  · exact h
  split
  · rename_i b hb
    have hi := (List.getElem?_eq_some_iff.1 hb).1
    intro h2
    rcases h h2 with e | ⟨a, ha, hs⟩
    · exact .inl e
    · right
      refine ⟨a, ?_, hs⟩
      have hl : (c.l.take (at_.toNat + 1)).length = at_.toNat + 1 := by rw [List.length_take]; omega
      show (c.l.take (at_.toNat + 1) ++ _ :: c.l.drop (at_.toNat + 1))[(c.l.take (at_.toNat + 1) ++ _ :: c.l.drop (at_.toNat + 1)).length - 1]? = _
      rw [List.length_append, List.length_cons, List.length_drop, hl, List.getElem?_append_right (by omega), hl, show at_.toNat + 1 + (c.l.length - (at_.toNat + 1) + 1) - 1 - (at_.toNat + 1) = (c.l.length - 1 - (at_.toNat + 1)) + 1 from by omega, List.getElem?_cons_succ, List.getElem?_drop, show at_.toNat + 1 + (c.l.length - 1 - (at_.toNat + 1)) = c.l.length - 1 from by omega]
      exact ha
  · exact h
theorem drain_st (a : Pa) : (drainA a).s.state = a.s.state := by
  show (drainP a.s).state = a.s.state
  unfold drainP
  first | rfl | (split <;> rfl)
theorem lose_st (n : Nat) (l : List Pa) (j : Nat) (a : Pa) (h : l[j]? = some a) : ∃ a', (loseL n l)[j]? = some a' ∧ a'.s.state = a.s.state := by
  by_cases hj : j < n
  · have hl := (List.getElem?_eq_some_iff.1 h).1
    refine ⟨drainA a, ?_, drain_st a⟩
    unfold loseL
    rw [List.getElem?_append_left (by rw [List.length_map, List.length_take]; omega), List.getElem?_map, List.getElem?_take, if_pos hj, h]
    rfl
  · exact ⟨a, (lose_get (by omega)).trans h, rfl⟩
theorem EndZ.rem (h : EndZ c) (at_ now : Int) : EndZ (remC c at_ now) := by
  unfold remC
  split
  · rename_i hb
    have hb' : 0 ≤ at_ ∧ at_ < (c.l.length : Int) - 2 := by simpa [isB] using hb
    generalize hi : at_.toNat + 1 = i
    have hi2 : i + 1 < c.l.length := by omega
    unfold remAt
    split
    · rename_i p q hp hq
      intro h2
      rcases h h2 with e | ⟨a, ha, hs⟩
      · exact .inl e
      · right
        dsimp only
        generalize hG : (held p.s : Int) - ((held (forceP q.s now (cat p.s.c.1)) : Int) - held q.s) = G
        have key : ∀ (L : List Pa) (b : Pa), L.length = c.l.length → (∃ a1, L[c.l.length - 1]? = some a1 ∧ a1.s.state ≠ 0) → (i + 1 = c.l.length - 1 → b.s.state ≠ 0) → ∃ a1, ((L.set (i + 1) b).eraseIdx i)[((L.set (i + 1) b).eraseIdx i).length - 1]? = some a1 ∧ a1.s.state ≠ 0 := by
          intro L b hL ⟨a1, h1, h1s⟩ hbs
          have hlen : ((L.set (i + 1) b).eraseIdx i).length = c.l.length - 1 := by rw [List.length_eraseIdx, List.length_set, if_pos (by omega), hL]
          rw [hlen, List.getElem?_eraseIdx_of_ge (by omega), show c.l.length - 1 - 1 + 1 = c.l.length - 1 from by omega]
          by_cases hq1 : i + 1 = c.l.length - 1
          · exact ⟨b, by rw [hq1]; exact List.getElem?_set_self (by omega), hbs hq1⟩
          · exact ⟨a1, by rw [List.getElem?_set_ne hq1]; exact h1, h1s⟩
        have hfs : i + 1 = c.l.length - 1 → (forceP q.s now (cat p.s.c.1)).state ≠ 0 := fun e => by
          rw [e, ha] at hq
          injection hq with hq
          rw [(force_st _ _ _).2.2.1, ← hq]
          exact look_stays now hs
        have h1 : ∃ a1, ((c.l.set i (drainA p)).set (i + 1) ⟨forceP q.s now (cat p.s.c.1), q.cl⟩)[c.l.length - 1]? = some a1 ∧ a1.s.state ≠ 0 := by
          by_cases hq1 : i + 1 = c.l.length - 1
          · exact ⟨_, by rw [← hq1, List.getElem?_set_self (by rw [List.length_set]; omega)], hfs hq1⟩
          · exact ⟨a, by rw [List.getElem?_set_ne hq1, List.getElem?_set_ne (by omega)]; exact ha, hs⟩
        refine key _ _ ?_ ?_ ?_
        · split
          · rw [loseL_length, List.length_set, List.length_set]
          · rw [List.length_set, List.length_set]
        · split
          · obtain ⟨a1, g1, g2⟩ := h1
            obtain ⟨a2, g3, g4⟩ := lose_st i _ _ _ g1
            exact ⟨a2, g3, by rw [g4]; exact g2⟩
          · exact h1
        · intro e
          split
          · show (closeP (forceP q.s now (cat p.s.c.1)) now).state ≠ 0
            rw [(close_st _ _).2.2.1]
            exact hfs e
          · exact hfs e
    · exact h
  · exact h
theorem EndZ.upd (h : EndZ c) (at_ : Int) (t : Tox) (now : Int) : EndZ (updC c at_ t now) := by
  unfold updC
  split
  · rename_i hb
    have hb' : 0 ≤ at_ ∧ at_ < (c.l.length : Int) - 2 := by simpa [isB] using hb
    split
    · intro h2
      rcases h h2 with e | ⟨a, ha, hs⟩
      · exact .inl e
      · right
        refine ⟨a, ?_, hs⟩
        show (c.l.set (at_.toNat + 1) _)[(c.l.set (at_.toNat + 1) _).length - 1]? = _
        rw [List.length_set, List.getElem?_set_ne (by omega)]
        exact ha
    · exact h
  · exact h
theorem EndZ.none (h : EndZ c) (hs : c.state ≠ 0) (n m : Int) : takeCB c n m = ⟨#[]⟩ := by
  unfold takeCB
  rcases h hs with e | ⟨a, ha, h1⟩
  · rw [if_pos e]
  · split
    · rfl
    · rw [ha]
      show takeB a.s n m = _
      unfold takeB
      rw [if_pos (.inl (look_stays n h1))]
structure OnceI (x : Lk) : Prop where
  z : EndZ x.c
  d : x.done = true → x.c.state ≠ 0
variable {x : Lk}
theorem step_stays (c : Ch) (n : Int) (h : c.state ≠ 0) : stepC n c = c := by unfold stepC; rw [if_pos h]
theorem break_stays (c : Ch) (h : c.state ≠ 0) : (breakC c).state ≠ 0 := by
  unfold breakC
  split
  · exact h
  · show (2 : Int) ≠ 0; decide
theorem stepX_stays (x : Lk) (n m : Int) (h : x.c.state ≠ 0) : (stepX x n m).state ≠ 0 := by
  unfold stepX
  rw [step_stays _ n h, step_stays _ n (by rw [take_state]; exact h), take_state]
  exact h
theorem OnceI.add (h : OnceI x) (t : Tox) (now : Int) : OnceI (addK x t now) := by
  unfold addK
  split
  · exact ⟨h.z.ins _ _ _ _, fun e => by show (insC _ _ _ _ _).state ≠ 0; rw [ins_state]; exact h.d e⟩
  · exact h
theorem OnceI.does (h : OnceI x) (o : Op) : OnceI (doesK x o) := by
  unfold doesK
  split
  · exact ⟨h.z.put _ _, fun e => by show (putC _ _ _).state ≠ 0; rw [put_state]; exact h.d e⟩
  split
  · exact ⟨h.z.close _, fun e => by show (closeC _ _).state ≠ 0; rw [close_state]; exact h.d e⟩
  split
  · exact ⟨h.z.brk, fun e => break_stays _ (h.d e)⟩
  split
  · refine ⟨((h.z.step _).take _ _).step _, fun e => ?_⟩
    show (stepX x o.now o.n).state ≠ 0
    cases hd : x.done with
    | true => exact stepX_stays _ _ _ (h.d hd)
    | false =>
      have e2 : (x.done || tellB x o.now o.n) = true := e
      rw [hd, Bool.false_or] at e2
      unfold tellB at e2
      simpa [hd] using e2
  split
  · exact h.add _ _
  split
  · unfold dropK
    split
    · exact ⟨h.z.rem _ _, fun e => by show (remC _ _ _).state ≠ 0; rw [rem_state]; exact h.d e⟩
    · exact h
  split
  · unfold chgK
    split
    · exact ⟨h.z.upd _ _ _, fun e => by show (updC _ _ _ _).state ≠ 0; rw [upd_state]; exact h.d e⟩
    · exact h
  · exact h
theorem once_new (up : Bool) (seed room now : Int) : OnceI (link0 up seed room now) := ⟨fun h => absurd rfl h, fun h => by cases h⟩
theorem once_fold (now : Int) : ∀ (l : List Tox) (x : Lk), OnceI x ∧ x.done = false → OnceI (l.foldl (fun x t => addK x t now) x) ∧ (l.foldl (fun x t => addK x t now) x).done = false
  | [], _, h => h
  | t :: l, x, h => once_fold now l _ ⟨h.1.add t now, by
      show (addK x t now).done = false
      unfold addK
      split
      · exact h.2
      · exact h.2⟩
theorem once_linkN (l : List Tox) (up : Bool) (seed room now : Int) : OnceI (linkN l up seed room now) ∧ (linkN l up seed room now).done = false := once_fold now l _ ⟨once_new up seed room now, rfl⟩
theorem done_else (x : Lk) (o : Op) (h : o.kind ≠ 3) : (doesK x o).done = x.done := by
  unfold doesK addK dropK chgK
  repeat' split
  all_goals first | rfl | contradiction
theorem once_say (h : OnceI x) (o : Op) : (x.done = true → (doesA x o).2.1 = ⟨#[]⟩ ∧ (doesK x o).done = true ∧ (o.kind = 0 → (doesA x o).1 = 0) ∧ (o.kind = 3 → (doesA x o).1 = 0)) ∧ (x.done = false → o.kind = 3 → (doesK x o).done = decide ((doesA x o).1 ≠ 0)) ∧ (o.kind ≠ 3 → (doesK x o).done = x.done) := by
  refine ⟨fun hd => ?_, fun hd hk => ?_, done_else x o⟩
  · have hs := h.d hd
    by_cases k3 : o.kind = 3
    · have ea : doesA x o = (stepE x o.now o.n, stepB x o.now o.n, 0) := by unfold doesA; rw [if_neg (by omega), if_neg (by omega), if_neg (by omega), if_pos k3]
      have ek : (doesK x o).done = (x.done || tellB x o.now o.n) := by unfold doesK; rw [if_neg (by omega), if_neg (by omega), if_neg (by omega), if_pos k3]; rfl
      rw [ea, ek, hd]
      refine ⟨?_, rfl, fun e => by omega, fun _ => ?_⟩
      · show takeCB (stepC o.now x.c) o.now o.n = _
        rw [step_stays _ _ hs]
        exact h.z.none hs _ _
      · show stepE x o.now o.n = 0
        unfold stepE tellB
        rw [hd]
        rfl
    · rw [done_else x o k3, hd]
      refine ⟨?_, rfl, fun e => ?_, fun e => absurd e k3⟩
      · unfold doesA
        repeat' split
        all_goals first | rfl | contradiction
      · unfold doesA
        rw [if_pos e]
        show ((putCN x.c o.now o.s : Nat) : Int) = 0
        rw [putCN_shut _ _ _ (.inr hs)]
        rfl
  · have ea : (doesA x o).1 = stepE x o.now o.n := by unfold doesA; rw [if_neg (by omega), if_neg (by omega), if_neg (by omega), if_pos hk]
    have ek : (doesK x o).done = (x.done || tellB x o.now o.n) := by unfold doesK; rw [if_neg (by omega), if_neg (by omega), if_neg (by omega), if_pos hk]; rfl
    rw [ea, ek, hd, Bool.false_or]
    unfold stepE
    by_cases ht : tellB x o.now o.n = true
    · rw [if_pos ht, ht]
      unfold tellB at ht
      simp [hd] at ht
      simp [ht]
    · rw [if_neg ht]
      simpa using ht
end Go.Proofs.YtoiibmcbjjnpbaaGreat.Link
namespace Go.Proofs.YtoiibmcbjjnpbaaGreat.Link
open Go.RowKit Mem Tick Cargo Toxic Stage Chain
set_option maxRecDepth 100000
set_option linter.unusedVariables false
set_option linter.unusedSimpArgs false
def Op.cells (x : Op) : Array Value := #[.int .i64 x.kind, .int .i64 x.now, .int .i64 x.n, .string x.s, .string x.t.name, .int .i64 x.t.kind, .bool x.t.up, .int .i64 x.t.often, .int .i64 x.t.a, .int .i64 x.t.b]
abbrev Op.v (x : Op) : Value := .agg #[.int .i64 x.kind, .int .i64 x.now, .int .i64 x.n, .string x.s, .string x.t.name, .int .i64 x.t.kind, .bool x.t.up, .int .i64 x.t.often, .int .i64 x.t.a, .int .i64 x.t.b]
def opBytes (x : Op) : Nat := x.s.size + x.t.name.size
def Script (w : World) (v : Value) (l : List Op) : Prop :=
  ∃ a cap, v = .slice a l.length cap ∧ l.length ≤ 9223372036854775807 ∧ (∀ x ∈ l, x.s.size ≤ 140737488351232 ∧ x.t.name.size ≤ 140737488351232) ∧
    (l ≠ [] → ∃ b o, a = some ⟨b, o, none⟩ ∧ ∀ j x, l[j]? = some x → w.cell? ⟨b, o + j * 10, none⟩ = some (.int .i64 x.kind) ∧ w.cell? ⟨b, o + j * 10 + 1, none⟩ = some (.int .i64 x.now) ∧ w.cell? ⟨b, o + j * 10 + 2, none⟩ = some (.int .i64 x.n) ∧ w.cell? ⟨b, o + j * 10 + 3, none⟩ = some (.string x.s) ∧ w.cell? ⟨b, o + j * 10 + 4, none⟩ = some (.string x.t.name) ∧ w.cell? ⟨b, o + j * 10 + 5, none⟩ = some (.int .i64 x.t.kind) ∧ w.cell? ⟨b, o + j * 10 + 6, none⟩ = some (.bool x.t.up) ∧ w.cell? ⟨b, o + j * 10 + 7, none⟩ = some (.int .i64 x.t.often) ∧ w.cell? ⟨b, o + j * 10 + 8, none⟩ = some (.int .i64 x.t.a) ∧ w.cell? ⟨b, o + j * 10 + 9, none⟩ = some (.int .i64 x.t.b))
theorem Script.below {w w' : World} {v : Value} {l : List Op} (h : Script w v l) (hb : Below w.heap.size w w') : Script w' v l := by
  obtain ⟨a, cap, h1, h2, h3, h4⟩ := h
  refine ⟨a, cap, h1, h2, h3, fun hn => ?_⟩
  obtain ⟨b, o, e, hc⟩ := h4 hn
  refine ⟨b, o, e, fun j x hx => ?_⟩
  obtain ⟨c0, c1, c2, c3, c4, c5, c6, c7, c8, c9⟩ := hc j x hx
  exact ⟨bcells hb c0, bcells hb c1, bcells hb c2, bcells hb c3, bcells hb c4, bcells hb c5, bcells hb c6, bcells hb c7, bcells hb c8, bcells hb c9⟩
def bytesOf : List Op → Nat
  | [] => 0
  | x :: r => opBytes x + bytesOf r
theorem bytesOf_append (a b : List Op) : bytesOf (a ++ b) = bytesOf a + bytesOf b := by induction a with | nil => simp [bytesOf] | cons p r ih => simp [bytesOf, ih]; omega
theorem bytesOf_take (l : List Op) (k : Nat) (x : Op) (h : l[k]? = some x) : bytesOf (l.take (k + 1)) = bytesOf (l.take k) + opBytes x := by
  rw [List.take_add_one, h, bytesOf_append]; simp [bytesOf]
theorem bytesOf_le (l : List Op) (k : Nat) : bytesOf (l.take k) ≤ bytesOf l := by
  have := bytesOf_append (l.take k) (l.drop k)
  rw [List.take_append_drop] at this; omega
theorem bytesOf_max (l : List Op) (h : ∀ x ∈ l, x.s.size ≤ 140737488351232 ∧ x.t.name.size ≤ 140737488351232) : bytesOf l ≤ l.length * 281474976702464 := by
  induction l with
  | nil => simp [bytesOf]
  | cons x r ih =>
    have h1 := h x (List.mem_cons_self ..)
    have h2 := ih fun y hy => h y (List.mem_cons_of_mem _ hy)
    simp only [bytesOf, List.length_cons, opBytes]; omega
theorem bytes_s (l : List Op) (k : Nat) (p : Op) (h : l[k]? = some p) : bytesOf (l.take (k + 1)) = bytesOf (l.take k) + (p.s.size + p.t.name.size) := bytesOf_take l k p h
def fewK (n : Nat) (l : List Op) : Bool := decide (n ≤ 12) && (decide (l.length ≤ 60) && decide (bytesOf l ≤ 2000))
theorem few_short (sa : Option Addr) (sn sc : Nat) (up : Bool) (seed room : Int) (v : Value) (l : List Op) (w : World) (hsn : sn ≤ 9223372036854775807) (hv : Script w v l) (hsmall : l.length ≤ 60) :
    Calls Tryz.prog 7 #[.agg #[.slice sa sn sc, .bool up, .int .u64 seed, .int .i64 room], v] w fun e w' => e = .returned (.bool (fewK sn l)) ∧ Below w.heap.size w w' := by
  obtain ⟨a, cap, rfl, hm, hs, hA⟩ := hv
  have hmx := bytesOf_max l hs
  have hd : decide ((l.length : Int) ≤ 60) = true := decide_eq_true (by omega)
  have hB0 := Lib.hid ((Below.refl w.heap.size w).alloc (Nat.le_refl _) (.cells #[.slice sa sn sc, .bool up, .int .u64 seed, .int .i64 room] 25))
  have hX0 := Lib.hid (Blk.new w 25 #[.slice sa sn sc, .bool up, .int .u64 seed, .int .i64 room])
  clear hs
  go_enter Tryz.func7, Tryz.ntmps7
  go_wp2
  go_loopw [5, 10] (fun nv iv wr => ∃ k : Nat, k ≤ l.length ∧ iv = .int .i64 k ∧ nv = .int .i64 (bytesOf (l.take k)) ∧ Below w.heap.size w wr ∧ Blk wr w.heap.size 25 #[.slice sa sn sc, .bool up, .int .u64 seed, .int .i64 room]) (fun _ iv _ => l.length - (intOf iv).toNat)
  case atStart => exact ⟨0, by omega, rfl, by simp [bytesOf], hB0.out, hX0.out⟩
  case round =>
    obtain ⟨k, hk, rfl, rfl, hB, hX⟩ := hrel
    by_cases hlt : k < l.length
    · obtain ⟨g, o, rfl, hc⟩ := hA (by intro h; subst h; simp at hlt)
      have hx : l[k]? = some l[k] := List.getElem?_eq_getElem hlt
      obtain ⟨d0, d1, d2, d3, d4, d5, d6, d7, d8, d9⟩ := hc k _ hx
      have hs := Lib.hid (bytes_s l k _ hx)
      have hle := bytesOf_le l (k + 1)
      rw [hs.out] at hle
      generalize l[k] = p at *
      obtain ⟨p0, p1, p2, p3, ⟨t0, t1, t2, t3, t4, t5⟩⟩ := p
      dsimp only at *
      have d0' := bcells hB d0
      have d1' := bcells hB d1
      have d2' := bcells hB d2
      have d3' := bcells hB d3
      have d4' := bcells hB d4
      have d5' := bcells hB d5
      have d6' := bcells hB d6
      have d7' := bcells hB d7
      have d8' := bcells hB d8
      have d9' := bcells hB d9
      generalize hs1 : bytesOf (l.take (k + 1)) = s1 at *
      have hs1' := Lib.hid hs1
      generalize bytesOf (l.take k) = s0 at *
      have hsz := hB.size
      have hX' := Lib.hid hX
      clear hc hx hA d0 d1 d2 d3 d4 d5 d6 d7 d8 d9 hs1 hX
      go_wp2
      go_roundw
      case rel => exact ⟨k + 1, by omega, by go_num, by rw [hs1'.out, hs.out]; go_num, hB.alloc hB.size _, hX'.out.below ((Below.refl _ _).alloc (Nat.le_refl _) _)⟩
      case measure => simp [intOf]; omega
    · have hk2 : k = l.length := by omega
      subst hk2
      have hnl : ¬ (l.length < l.length) := by omega
      rw [List.take_length]
      have c0 : wr.cell? ⟨w.heap.size, 0, none⟩ = some (.slice sa sn sc) := (hX.cell 0).trans rfl
      clear hA hX
      by_cases h12 : sn ≤ 12
      · have t12 : decide ((sn : Int) ≤ 12) = true := decide_eq_true (by omega)
        have e1 : fewK sn l = decide (bytesOf l ≤ 2000) := by unfold fewK; rw [decide_eq_true h12, decide_eq_true hsmall]; simp
        have e1' := Lib.hid e1
        clear e1
        go_wp2
        go_ret
        exact ⟨by rw [e1'.out]; simp; omega, hB⟩
      · have t12 : decide ((sn : Int) ≤ 12) = false := decide_eq_false (by omega)
        have e1 : fewK sn l = false := by unfold fewK; rw [decide_eq_false h12]; rfl
        have e1' := Lib.hid e1
        clear e1
        go_wp2
        go_ret
        exact ⟨by rw [e1'.out]; rfl, hB⟩
theorem few_long (sa : Option Addr) (sn sc : Nat) (up : Bool) (seed room : Int) (v : Value) (l : List Op) (w : World) (hsn : sn ≤ 9223372036854775807) (hv : Script w v l) (hbig : 60 < l.length) :
    Calls Tryz.prog 7 #[.agg #[.slice sa sn sc, .bool up, .int .u64 seed, .int .i64 room], v] w fun e w' => e = .returned (.bool false) ∧ Below w.heap.size w w' := by
  obtain ⟨a, cap, rfl, hm, hs, hA⟩ := hv
  have hd : decide ((l.length : Int) ≤ 60) = false := decide_eq_false (by omega)
  have hB0 := Lib.hid ((Below.refl w.heap.size w).alloc (Nat.le_refl _) (.cells #[.slice sa sn sc, .bool up, .int .u64 seed, .int .i64 room] 25))
  have hX0 := Lib.hid (Blk.new w 25 #[.slice sa sn sc, .bool up, .int .u64 seed, .int .i64 room])
  clear hs
  go_enter Tryz.func7, Tryz.ntmps7
  go_wp2
  go_loopw [5, 10] (fun nv iv wr => ∃ (k : Nat) (y : Int), k ≤ l.length ∧ iv = .int .i64 k ∧ nv = .int .i64 y ∧ Below w.heap.size w wr ∧ Blk wr w.heap.size 25 #[.slice sa sn sc, .bool up, .int .u64 seed, .int .i64 room]) (fun _ iv _ => l.length - (intOf iv).toNat)
  case atStart => exact ⟨0, 0, by omega, rfl, rfl, hB0.out, hX0.out⟩
  case round =>
    obtain ⟨k, y, hk, rfl, rfl, hB, hX⟩ := hrel
    by_cases hlt : k < l.length
    · obtain ⟨g, o, rfl, hc⟩ := hA (by intro h; subst h; simp at hlt)
      have hx : l[k]? = some l[k] := List.getElem?_eq_getElem hlt
      obtain ⟨d0, d1, d2, d3, d4, d5, d6, d7, d8, d9⟩ := hc k _ hx
      generalize l[k] = p at *
      obtain ⟨p0, p1, p2, p3, ⟨t0, t1, t2, t3, t4, t5⟩⟩ := p
      dsimp only at *
      have d0' := bcells hB d0
      have d1' := bcells hB d1
      have d2' := bcells hB d2
      have d3' := bcells hB d3
      have d4' := bcells hB d4
      have d5' := bcells hB d5
      have d6' := bcells hB d6
      have d7' := bcells hB d7
      have d8' := bcells hB d8
      have d9' := bcells hB d9
      have hsz := hB.size
      have hX' := Lib.hid hX
      clear hc hx hA d0 d1 d2 d3 d4 d5 d6 d7 d8 d9 hX
      go_wp2
      go_roundw
      case rel => exact ⟨k + 1, _, by omega, by go_num, rfl, hB.alloc hB.size _, hX'.out.below ((Below.refl _ _).alloc (Nat.le_refl _) _)⟩
      case measure => simp [intOf]; omega
    · have hk2 : k = l.length := by omega
      subst hk2
      have hnl : ¬ (l.length < l.length) := by omega
      have c0 : wr.cell? ⟨w.heap.size, 0, none⟩ = some (.slice sa sn sc) := (hX.cell 0).trans rfl
      clear hA hX
      by_cases h12 : sn ≤ 12
      · have t12 : decide ((sn : Int) ≤ 12) = true := decide_eq_true (by omega)
        go_wp2
        go_ret
        exact ⟨rfl, hB⟩
      · have t12 : decide ((sn : Int) ≤ 12) = false := decide_eq_false (by omega)
        go_wp2
        go_ret
        exact ⟨rfl, hB⟩
theorem few_any (sa : Option Addr) (sn sc : Nat) (up : Bool) (seed room : Int) (v : Value) (l : List Op) (w : World) (hsn : sn ≤ 9223372036854775807) (hv : Script w v l) :
    Calls Tryz.prog 7 #[.agg #[.slice sa sn sc, .bool up, .int .u64 seed, .int .i64 room], v] w fun e w' => e = .returned (.bool (fewK sn l)) ∧ Below w.heap.size w w' := by
  by_cases h : l.length ≤ 60
  · exact few_short sa sn sc up seed room v l w hsn hv h
  · have e : fewK sn l = false := by unfold fewK; rw [decide_eq_false h]; simp
    rw [e]
    exact few_long sa sn sc up seed room v l w hsn hv (by omega)
variable {w w' : World} {F : Nat → Prop} {b : Nat} {x : Lk}
def DoesQ (F : Nat → Prop) (b : Nat) (w : World) (y : Lk) (a : Ans) (e : Ending) (w' : World) : Prop := e = .returned (Ans.v a) ∧ LTu w F w' b y
theorem does_0 (h : LK w F b x) (nw n : Int) (z tn : ByteArray) (tk : Int) (tu : Bool) (tf ta tb : Int) {M Q : Int} (ho : OkK x M Q) (hM : M + z.size ≤ 1000000000) (hs : x.sent + z.size ≤ 1000000000) :
    Calls Tryz.prog 9 #[ptr b, .agg #[.int .i64 0, .int .i64 nw, .int .i64 n, .string z, .string tn, .int .i64 tk, .bool tu, .int .i64 tf, .int .i64 ta, .int .i64 tb]] w (DoesQ F b w (sendK x nw z) ((putCN x.c nw z, ⟨#[]⟩, 0))) := by
  have hcv := conv_str z
  have hB := (((Below.refl w.heap.size w).alloc (Nat.le_refl _) (.cells #[.int .i64 0, .int .i64 nw, .int .i64 n, .string z, .string tn, .int .i64 tk, .bool tu, .int .i64 tf, .int .i64 ta, .int .i64 tb] 36)).alloc (by simp) (.cells #[.int .i64 0, .string ⟨#[]⟩, .int .i64 0] 38)).alloc (by simp; omega) (.cells #[.int .i64 0, .string ⟨#[]⟩, .int .i64 0] 38)
  have hR := Lib.hid ((Blk.new (w.alloc (.cells #[.int .i64 0, .int .i64 nw, .int .i64 n, .string z, .string tn, .int .i64 tk, .bool tu, .int .i64 tf, .int .i64 ta, .int .i64 tb] 36)) 38 #[.int .i64 0, .string ⟨#[]⟩, .int .i64 0]).below ((Below.refl _ _).alloc (Nat.le_refl _) (.cells #[.int .i64 0, .string ⟨#[]⟩, .int .i64 0] 38)))
  have hA := Lib.hid (Blk.new ((w.alloc (.cells #[.int .i64 0, .int .i64 nw, .int .i64 n, .string z, .string tn, .int .i64 tk, .bool tu, .int .i64 tf, .int .i64 ta, .int .i64 tb] 36)).alloc (.cells #[.int .i64 0, .string ⟨#[]⟩, .int .i64 0] 38)) 38 #[.int .i64 0, .string ⟨#[]⟩, .int .i64 0])
  have H := Lib.hid (h.below hB)
  have HB := Lib.hid hB
  have hlt := fun j (hj : F j) => Lib.hid (h.lt hj)
  have hBy := Lib.hid (bytes_below (((w.alloc (.cells #[.int .i64 0, .int .i64 nw, .int .i64 n, .string z, .string tn, .int .i64 tk, .bool tu, .int .i64 tf, .int .i64 ta, .int .i64 tb] 36)).alloc (.cells #[.int .i64 0, .string ⟨#[]⟩, .int .i64 0] 38)).alloc (.cells #[.int .i64 0, .string ⟨#[]⟩, .int .i64 0] 38)) z)
  have hBS := Lib.hid (bytes_new (((w.alloc (.cells #[.int .i64 0, .int .i64 nw, .int .i64 n, .string z, .string tn, .int .i64 tk, .bool tu, .int .i64 tf, .int .i64 ta, .int .i64 tb] 36)).alloc (.cells #[.int .i64 0, .string ⟨#[]⟩, .int .i64 0] 38)).alloc (.cells #[.int .i64 0, .string ⟨#[]⟩, .int .i64 0] 38)) z)
  have hcap3 := fun (W : World) => grownCap_ge W z.size 0 5
  have hlt3 : (((w.alloc (.cells #[.int .i64 0, .int .i64 nw, .int .i64 n, .string z, .string tn, .int .i64 tk, .bool tu, .int .i64 tf, .int .i64 ta, .int .i64 tb] 36)).alloc (.cells #[.int .i64 0, .string ⟨#[]⟩, .int .i64 0] 38)).alloc (.cells #[.int .i64 0, .string ⟨#[]⟩, .int .i64 0] 38)).heap.size = w.heap.size + 3 := by simp
  clear h hB
  go_enter Tryz.func9, Tryz.ntmps9
  go_wp2_with fail
  refine (kSend_any (H.out.below hBy.out) ho nw _ _ z (hcap3 _) (by simpa using hBS.out) (fun g o e hF => by have := (hlt g hF).out; injection e with e; injection e with e; subst e; (try simp at this); omega) hM hs).mono ?_
  rintro e w1 ⟨rfl, hTD⟩
  obtain ⟨F', hC, hD, hS⟩ := hTD
  have hdB := Lib.hid ((Did.of_below (F := F) hBy.out).trans (Stem.refl _ _) hD)
  have qT := Lib.hid (show Stem F F' w from (Stem.refl F w).trans (Nat.le_trans HB.out.size hBy.out.size) hS)
  have qS := Lib.hid hC
  have qD := Lib.hid (show Did F w w1 from (Did.of_below HB.out).trans (Stem.refl _ _) hdB.out)
  have qA := Lib.hid (hA.out.did hdB.out (fun c => by have := (hlt _ c).out; simp at this; omega))
  have qR := Lib.hid (hR.out.did hdB.out (fun c => by have := (hlt _ c).out; simp at this; omega))
  rw [World.size_alloc, World.size_alloc] at qA
  rw [World.size_alloc] at qR
  clear hA hR H HB hlt hC hD hS hBy hBS hcap3 hcv hdB hlt3
  have a0 : w1.cell? ⟨w.heap.size + 2, 0, none⟩ = some (.int .i64 0) := (qA.out.cell 0).trans rfl
  have a1 : w1.cell? ⟨w.heap.size + 2, 1, none⟩ = some (.string ⟨#[]⟩) := (qA.out.cell 1).trans rfl
  have a2 : w1.cell? ⟨w.heap.size + 2, 2, none⟩ = some (.int .i64 0) := (qA.out.cell 2).trans rfl
  have r0 : w1.cell? ⟨w.heap.size + 1, 0, none⟩ = some (.int .i64 0) := (qR.out.cell 0).trans rfl
  have r1 : w1.cell? ⟨w.heap.size + 1, 1, none⟩ = some (.string ⟨#[]⟩) := (qR.out.cell 1).trans rfl
  have r2 : w1.cell? ⟨w.heap.size + 1, 2, none⟩ = some (.int .i64 0) := (qR.out.cell 2).trans rfl
  have fa0 := qA.out.free 0
  have fa1 := qA.out.free 1
  have fa2 := qA.out.free 2
  have fr0 := qR.out.free 0
  have fr1 := qR.out.free 1
  have fr2 := qR.out.free 2
  have la : w.heap.size + 2 < w1.heap.size := qA.out.lt
  have lr : w.heap.size + 1 < w1.heap.size := qR.out.lt
  go_wp2
  refine bodyPost_ret (v := (.agg #[.int .i64 (putCN x.c nw z), .string ⟨#[]⟩, .int .i64 0])) (by simp [results, Tryz.results9, go_sem, a0, a1, a2, r0, r1, r2, la, lr]) rfl ⟨rfl, F', ?_, ?_, qT.out⟩
  · have s0 := (qS.out.far qA.out (by decide) 0 (.int .i64 (putCN x.c nw z)))
    have b0 := (qR.out.far (p := ⟨w.heap.size + 2, 0, none⟩) (by show w.heap.size + 1 ≠ w.heap.size + 2; omega) (.int .i64 (putCN x.c nw z)))
    have s1 := s0.far b0 (by decide) 0 (.int .i64 (putCN x.c nw z))
    have b1 := b0.set_ 0 (.int .i64 (putCN x.c nw z))
    have s2 := s1.far b1 (by decide) 1 (.string ⟨#[]⟩)
    have b2 := b1.set_ 1 (.string ⟨#[]⟩)
    exact s2.far b2 (by decide) 2 (.int .i64 0)
  · exact ((((qD.out.setCell (p := ⟨w.heap.size + 2, 0, none⟩) (.inr (by show w.heap.size ≤ w.heap.size + 2; omega)) (.int .i64 (putCN x.c nw z)))).setCell (p := ⟨w.heap.size + 1, 0, none⟩) (.inr (by show w.heap.size ≤ w.heap.size + 1; omega)) _).setCell (p := ⟨w.heap.size + 1, 1, none⟩) (.inr (by show w.heap.size ≤ w.heap.size + 1; omega)) _).setCell (p := ⟨w.heap.size + 1, 2, none⟩) (.inr (by show w.heap.size ≤ w.heap.size + 1; omega)) _
theorem does_1 (h : LK w F b x) (nw n : Int) (z tn : ByteArray) (tk : Int) (tu : Bool) (tf ta tb : Int) {M Q : Int} (ho : OkK x M Q) :
    Calls Tryz.prog 9 #[ptr b, .agg #[.int .i64 1, .int .i64 nw, .int .i64 n, .string z, .string tn, .int .i64 tk, .bool tu, .int .i64 tf, .int .i64 ta, .int .i64 tb]] w (DoesQ F b w (finishK x nw) ((0, ⟨#[]⟩, 0))) := by
  have hB := (((Below.refl w.heap.size w).alloc (Nat.le_refl _) (.cells #[.int .i64 1, .int .i64 nw, .int .i64 n, .string z, .string tn, .int .i64 tk, .bool tu, .int .i64 tf, .int .i64 ta, .int .i64 tb] 36)).alloc (by simp) (.cells #[.int .i64 0, .string ⟨#[]⟩, .int .i64 0] 38)).alloc (by simp; omega) (.cells #[.int .i64 0, .string ⟨#[]⟩, .int .i64 0] 38)
  have hR := Lib.hid ((Blk.new (w.alloc (.cells #[.int .i64 1, .int .i64 nw, .int .i64 n, .string z, .string tn, .int .i64 tk, .bool tu, .int .i64 tf, .int .i64 ta, .int .i64 tb] 36)) 38 #[.int .i64 0, .string ⟨#[]⟩, .int .i64 0]).below ((Below.refl _ _).alloc (Nat.le_refl _) (.cells #[.int .i64 0, .string ⟨#[]⟩, .int .i64 0] 38)))
  have hA := Lib.hid (Blk.new ((w.alloc (.cells #[.int .i64 1, .int .i64 nw, .int .i64 n, .string z, .string tn, .int .i64 tk, .bool tu, .int .i64 tf, .int .i64 ta, .int .i64 tb] 36)).alloc (.cells #[.int .i64 0, .string ⟨#[]⟩, .int .i64 0] 38)) 38 #[.int .i64 0, .string ⟨#[]⟩, .int .i64 0])
  have H := Lib.hid (h.below hB)
  have HB := Lib.hid hB
  have hlt := fun j (hj : F j) => Lib.hid (h.lt hj)
  clear h hB
  go_enter Tryz.func9, Tryz.ntmps9
  go_wp2_with fail
  refine (kFinish_any H.out ho nw).mono ?_
  rintro e w1 ⟨rfl, hTD⟩
  obtain ⟨F', hC, hD, hS⟩ := hTD
  have qT := Lib.hid ((Stem.refl F w).trans HB.out.size hS)
  have qS := Lib.hid hC
  have qD := Lib.hid (show Did F w w1 from (Did.of_below HB.out).trans (Stem.refl _ _) hD)
  have qA := Lib.hid (hA.out.did hD (fun c => by have := (hlt _ c).out; simp at this; omega))
  have qR := Lib.hid (hR.out.did hD (fun c => by have := (hlt _ c).out; simp at this; omega))
  rw [World.size_alloc, World.size_alloc] at qA
  rw [World.size_alloc] at qR
  clear hA hR H HB hlt hC hD hS
  have a0 : w1.cell? ⟨w.heap.size + 2, 0, none⟩ = some (.int .i64 0) := (qA.out.cell 0).trans rfl
  have a1 : w1.cell? ⟨w.heap.size + 2, 1, none⟩ = some (.string ⟨#[]⟩) := (qA.out.cell 1).trans rfl
  have a2 : w1.cell? ⟨w.heap.size + 2, 2, none⟩ = some (.int .i64 0) := (qA.out.cell 2).trans rfl
  have r0 : w1.cell? ⟨w.heap.size + 1, 0, none⟩ = some (.int .i64 0) := (qR.out.cell 0).trans rfl
  have r1 : w1.cell? ⟨w.heap.size + 1, 1, none⟩ = some (.string ⟨#[]⟩) := (qR.out.cell 1).trans rfl
  have r2 : w1.cell? ⟨w.heap.size + 1, 2, none⟩ = some (.int .i64 0) := (qR.out.cell 2).trans rfl
  have fa0 := qA.out.free 0
  have fa1 := qA.out.free 1
  have fa2 := qA.out.free 2
  have fr0 := qR.out.free 0
  have fr1 := qR.out.free 1
  have fr2 := qR.out.free 2
  have la : w.heap.size + 2 < w1.heap.size := qA.out.lt
  have lr : w.heap.size + 1 < w1.heap.size := qR.out.lt
  go_wp2
  refine bodyPost_ret (v := (.agg #[.int .i64 0, .string ⟨#[]⟩, .int .i64 0])) (by simp [results, Tryz.results9, go_sem, a0, a1, a2, r0, r1, r2, la, lr]) rfl ⟨rfl, F', ?_, ?_, qT.out⟩
  · have s0 := qS.out
    have b0 := qR.out
    have s1 := s0.far b0 (by decide) 0 (.int .i64 0)
    have b1 := b0.set_ 0 (.int .i64 0)
    have s2 := s1.far b1 (by decide) 1 (.string ⟨#[]⟩)
    have b2 := b1.set_ 1 (.string ⟨#[]⟩)
    exact s2.far b2 (by decide) 2 (.int .i64 0)
  · exact (((qD.out).setCell (p := ⟨w.heap.size + 1, 0, none⟩) (.inr (by show w.heap.size ≤ w.heap.size + 1; omega)) _).setCell (p := ⟨w.heap.size + 1, 1, none⟩) (.inr (by show w.heap.size ≤ w.heap.size + 1; omega)) _).setCell (p := ⟨w.heap.size + 1, 2, none⟩) (.inr (by show w.heap.size ≤ w.heap.size + 1; omega)) _
theorem does_2 (h : LK w F b x) (nw n : Int) (z tn : ByteArray) (tk : Int) (tu : Bool) (tf ta tb : Int) {M Q : Int} (ho : OkK x M Q) (hM : M ≤ 1000000000) :
    Calls Tryz.prog 9 #[ptr b, .agg #[.int .i64 2, .int .i64 nw, .int .i64 n, .string z, .string tn, .int .i64 tk, .bool tu, .int .i64 tf, .int .i64 ta, .int .i64 tb]] w (DoesQ F b w (cutK x) ((0, ⟨#[]⟩, 0))) := by
  have hB := (((Below.refl w.heap.size w).alloc (Nat.le_refl _) (.cells #[.int .i64 2, .int .i64 nw, .int .i64 n, .string z, .string tn, .int .i64 tk, .bool tu, .int .i64 tf, .int .i64 ta, .int .i64 tb] 36)).alloc (by simp) (.cells #[.int .i64 0, .string ⟨#[]⟩, .int .i64 0] 38)).alloc (by simp; omega) (.cells #[.int .i64 0, .string ⟨#[]⟩, .int .i64 0] 38)
  have hR := Lib.hid ((Blk.new (w.alloc (.cells #[.int .i64 2, .int .i64 nw, .int .i64 n, .string z, .string tn, .int .i64 tk, .bool tu, .int .i64 tf, .int .i64 ta, .int .i64 tb] 36)) 38 #[.int .i64 0, .string ⟨#[]⟩, .int .i64 0]).below ((Below.refl _ _).alloc (Nat.le_refl _) (.cells #[.int .i64 0, .string ⟨#[]⟩, .int .i64 0] 38)))
  have hA := Lib.hid (Blk.new ((w.alloc (.cells #[.int .i64 2, .int .i64 nw, .int .i64 n, .string z, .string tn, .int .i64 tk, .bool tu, .int .i64 tf, .int .i64 ta, .int .i64 tb] 36)).alloc (.cells #[.int .i64 0, .string ⟨#[]⟩, .int .i64 0] 38)) 38 #[.int .i64 0, .string ⟨#[]⟩, .int .i64 0])
  have H := Lib.hid (h.below hB)
  have HB := Lib.hid hB
  have hlt := fun j (hj : F j) => Lib.hid (h.lt hj)
  clear h hB
  go_enter Tryz.func9, Tryz.ntmps9
  go_wp2_with fail
  refine (kCut_any H.out ho hM nw).mono ?_
  rintro e w1 ⟨rfl, hTD⟩
  obtain ⟨F', hC, hD, hS⟩ := hTD
  have qT := Lib.hid ((Stem.refl F w).trans HB.out.size hS)
  have qS := Lib.hid hC
  have qD := Lib.hid (show Did F w w1 from (Did.of_below HB.out).trans (Stem.refl _ _) hD)
  have qA := Lib.hid (hA.out.did hD (fun c => by have := (hlt _ c).out; simp at this; omega))
  have qR := Lib.hid (hR.out.did hD (fun c => by have := (hlt _ c).out; simp at this; omega))
  rw [World.size_alloc, World.size_alloc] at qA
  rw [World.size_alloc] at qR
  clear hA hR H HB hlt hC hD hS
  have a0 : w1.cell? ⟨w.heap.size + 2, 0, none⟩ = some (.int .i64 0) := (qA.out.cell 0).trans rfl
  have a1 : w1.cell? ⟨w.heap.size + 2, 1, none⟩ = some (.string ⟨#[]⟩) := (qA.out.cell 1).trans rfl
  have a2 : w1.cell? ⟨w.heap.size + 2, 2, none⟩ = some (.int .i64 0) := (qA.out.cell 2).trans rfl
  have r0 : w1.cell? ⟨w.heap.size + 1, 0, none⟩ = some (.int .i64 0) := (qR.out.cell 0).trans rfl
  have r1 : w1.cell? ⟨w.heap.size + 1, 1, none⟩ = some (.string ⟨#[]⟩) := (qR.out.cell 1).trans rfl
  have r2 : w1.cell? ⟨w.heap.size + 1, 2, none⟩ = some (.int .i64 0) := (qR.out.cell 2).trans rfl
  have fa0 := qA.out.free 0
  have fa1 := qA.out.free 1
  have fa2 := qA.out.free 2
  have fr0 := qR.out.free 0
  have fr1 := qR.out.free 1
  have fr2 := qR.out.free 2
  have la : w.heap.size + 2 < w1.heap.size := qA.out.lt
  have lr : w.heap.size + 1 < w1.heap.size := qR.out.lt
  go_wp2
  refine bodyPost_ret (v := (.agg #[.int .i64 0, .string ⟨#[]⟩, .int .i64 0])) (by simp [results, Tryz.results9, go_sem, a0, a1, a2, r0, r1, r2, la, lr]) rfl ⟨rfl, F', ?_, ?_, qT.out⟩
  · have s0 := qS.out
    have b0 := qR.out
    have s1 := s0.far b0 (by decide) 0 (.int .i64 0)
    have b1 := b0.set_ 0 (.int .i64 0)
    have s2 := s1.far b1 (by decide) 1 (.string ⟨#[]⟩)
    have b2 := b1.set_ 1 (.string ⟨#[]⟩)
    exact s2.far b2 (by decide) 2 (.int .i64 0)
  · exact (((qD.out).setCell (p := ⟨w.heap.size + 1, 0, none⟩) (.inr (by show w.heap.size ≤ w.heap.size + 1; omega)) _).setCell (p := ⟨w.heap.size + 1, 1, none⟩) (.inr (by show w.heap.size ≤ w.heap.size + 1; omega)) _).setCell (p := ⟨w.heap.size + 1, 2, none⟩) (.inr (by show w.heap.size ≤ w.heap.size + 1; omega)) _
theorem does_3 (h : LK w F b x) (nw n : Int) (z tn : ByteArray) (tk : Int) (tu : Bool) (tf ta tb : Int) {M Q : Int} (ho : OkK x M Q) (hM : M ≤ 1000000) (hQ : Q ≤ 100000000) (hg : x.got + M ≤ 1000000000) :
    Calls Tryz.prog 9 #[ptr b, .agg #[.int .i64 3, .int .i64 nw, .int .i64 n, .string z, .string tn, .int .i64 tk, .bool tu, .int .i64 tf, .int .i64 ta, .int .i64 tb]] w (DoesQ F b w (stepK x nw n) ((stepE x nw n, stepB x nw n, 0))) := by
  have hB := (((Below.refl w.heap.size w).alloc (Nat.le_refl _) (.cells #[.int .i64 3, .int .i64 nw, .int .i64 n, .string z, .string tn, .int .i64 tk, .bool tu, .int .i64 tf, .int .i64 ta, .int .i64 tb] 36)).alloc (by simp) (.cells #[.int .i64 0, .string ⟨#[]⟩, .int .i64 0] 38)).alloc (by simp; omega) (.cells #[.int .i64 0, .string ⟨#[]⟩, .int .i64 0] 38)
  have hR := Lib.hid ((Blk.new (w.alloc (.cells #[.int .i64 3, .int .i64 nw, .int .i64 n, .string z, .string tn, .int .i64 tk, .bool tu, .int .i64 tf, .int .i64 ta, .int .i64 tb] 36)) 38 #[.int .i64 0, .string ⟨#[]⟩, .int .i64 0]).below ((Below.refl _ _).alloc (Nat.le_refl _) (.cells #[.int .i64 0, .string ⟨#[]⟩, .int .i64 0] 38)))
  have hA := Lib.hid (Blk.new ((w.alloc (.cells #[.int .i64 3, .int .i64 nw, .int .i64 n, .string z, .string tn, .int .i64 tk, .bool tu, .int .i64 tf, .int .i64 ta, .int .i64 tb] 36)).alloc (.cells #[.int .i64 0, .string ⟨#[]⟩, .int .i64 0] 38)) 38 #[.int .i64 0, .string ⟨#[]⟩, .int .i64 0])
  have H := Lib.hid (h.below hB)
  have HB := Lib.hid hB
  have hlt := fun j (hj : F j) => Lib.hid (h.lt hj)
  clear h hB
  go_enter Tryz.func9, Tryz.ntmps9
  go_wp2_with fail
  refine (kStep_any H.out ho hM hQ hg nw n).mono ?_
  rintro e w1 ⟨A, cap, F1, rfl, hbs, hnw, hk1, hk2, hk3, hk4⟩
  have hcv := conv_bytes cap hbs
  have hTD : LTu (((w.alloc (.cells #[.int .i64 3, .int .i64 nw, .int .i64 n, .string z, .string tn, .int .i64 tk, .bool tu, .int .i64 tf, .int .i64 ta, .int .i64 tb] 36)).alloc (.cells #[.int .i64 0, .string ⟨#[]⟩, .int .i64 0] 38)).alloc (.cells #[.int .i64 0, .string ⟨#[]⟩, .int .i64 0] 38)) F w1 b (stepK x nw n) := ⟨F1, hk1, hk2, hk3⟩
  clear hbs hnw hk1 hk2 hk3 hk4
  obtain ⟨F', hC, hD, hS⟩ := hTD
  have qT := Lib.hid ((Stem.refl F w).trans HB.out.size hS)
  have qS := Lib.hid hC
  have qD := Lib.hid (show Did F w w1 from (Did.of_below HB.out).trans (Stem.refl _ _) hD)
  have qA := Lib.hid (hA.out.did hD (fun c => by have := (hlt _ c).out; simp at this; omega))
  have qR := Lib.hid (hR.out.did hD (fun c => by have := (hlt _ c).out; simp at this; omega))
  rw [World.size_alloc, World.size_alloc] at qA
  rw [World.size_alloc] at qR
  clear hA hR H HB hlt hC hD hS
  have a0 : w1.cell? ⟨w.heap.size + 2, 0, none⟩ = some (.int .i64 0) := (qA.out.cell 0).trans rfl
  have a1 : w1.cell? ⟨w.heap.size + 2, 1, none⟩ = some (.string ⟨#[]⟩) := (qA.out.cell 1).trans rfl
  have a2 : w1.cell? ⟨w.heap.size + 2, 2, none⟩ = some (.int .i64 0) := (qA.out.cell 2).trans rfl
  have r0 : w1.cell? ⟨w.heap.size + 1, 0, none⟩ = some (.int .i64 0) := (qR.out.cell 0).trans rfl
  have r1 : w1.cell? ⟨w.heap.size + 1, 1, none⟩ = some (.string ⟨#[]⟩) := (qR.out.cell 1).trans rfl
  have r2 : w1.cell? ⟨w.heap.size + 1, 2, none⟩ = some (.int .i64 0) := (qR.out.cell 2).trans rfl
  have fa0 := qA.out.free 0
  have fa1 := qA.out.free 1
  have fa2 := qA.out.free 2
  have fr0 := qR.out.free 0
  have fr1 := qR.out.free 1
  have fr2 := qR.out.free 2
  have la : w.heap.size + 2 < w1.heap.size := qA.out.lt
  have lr : w.heap.size + 1 < w1.heap.size := qR.out.lt
  go_wp2
  refine bodyPost_ret (v := (.agg #[.int .i64 (stepE x nw n), .string (stepB x nw n), .int .i64 0])) (by simp [results, Tryz.results9, go_sem, a0, a1, a2, r0, r1, r2, la, lr]) rfl ⟨rfl, F', ?_, ?_, qT.out⟩
  · have s0 := ((qS.out.far qA.out (by decide) 1 (.string (stepB x nw n))).far (qA.out.set_ 1 (.string (stepB x nw n))) (by decide) 0 (.int .i64 (stepE x nw n)))
    have b0 := ((qR.out.far (p := ⟨w.heap.size + 2, 1, none⟩) (by show w.heap.size + 1 ≠ w.heap.size + 2; omega) (.string (stepB x nw n))).far (p := ⟨w.heap.size + 2, 0, none⟩) (by show w.heap.size + 1 ≠ w.heap.size + 2; omega) (.int .i64 (stepE x nw n)))
    have s1 := s0.far b0 (by decide) 0 (.int .i64 (stepE x nw n))
    have b1 := b0.set_ 0 (.int .i64 (stepE x nw n))
    have s2 := s1.far b1 (by decide) 1 (.string (stepB x nw n))
    have b2 := b1.set_ 1 (.string (stepB x nw n))
    exact s2.far b2 (by decide) 2 (.int .i64 0)
  · exact (((((qD.out.setCell (p := ⟨w.heap.size + 2, 1, none⟩) (.inr (by show w.heap.size ≤ w.heap.size + 2; omega)) (.string (stepB x nw n))).setCell (p := ⟨w.heap.size + 2, 0, none⟩) (.inr (by show w.heap.size ≤ w.heap.size + 2; omega)) (.int .i64 (stepE x nw n)))).setCell (p := ⟨w.heap.size + 1, 0, none⟩) (.inr (by show w.heap.size ≤ w.heap.size + 1; omega)) _).setCell (p := ⟨w.heap.size + 1, 1, none⟩) (.inr (by show w.heap.size ≤ w.heap.size + 1; omega)) _).setCell (p := ⟨w.heap.size + 1, 2, none⟩) (.inr (by show w.heap.size ≤ w.heap.size + 1; omega)) _
theorem does_4 (h : LK w F b x) (nw n : Int) (z tn : ByteArray) (tk : Int) (tu : Bool) (tf ta tb : Int) {M Q : Int} (ho : OkK x M Q) :
    Calls Tryz.prog 9 #[ptr b, .agg #[.int .i64 4, .int .i64 nw, .int .i64 n, .string z, .string tn, .int .i64 tk, .bool tu, .int .i64 tf, .int .i64 ta, .int .i64 tb]] w (DoesQ F b w (addK x ⟨tn, tk, tu, tf, ta, tb⟩ nw) ((0, ⟨#[]⟩, addE x ⟨tn, tk, tu, tf, ta, tb⟩))) := by
  have hB := (((Below.refl w.heap.size w).alloc (Nat.le_refl _) (.cells #[.int .i64 4, .int .i64 nw, .int .i64 n, .string z, .string tn, .int .i64 tk, .bool tu, .int .i64 tf, .int .i64 ta, .int .i64 tb] 36)).alloc (by simp) (.cells #[.int .i64 0, .string ⟨#[]⟩, .int .i64 0] 38)).alloc (by simp; omega) (.cells #[.int .i64 0, .string ⟨#[]⟩, .int .i64 0] 38)
  have hR := Lib.hid ((Blk.new (w.alloc (.cells #[.int .i64 4, .int .i64 nw, .int .i64 n, .string z, .string tn, .int .i64 tk, .bool tu, .int .i64 tf, .int .i64 ta, .int .i64 tb] 36)) 38 #[.int .i64 0, .string ⟨#[]⟩, .int .i64 0]).below ((Below.refl _ _).alloc (Nat.le_refl _) (.cells #[.int .i64 0, .string ⟨#[]⟩, .int .i64 0] 38)))
  have hA := Lib.hid (Blk.new ((w.alloc (.cells #[.int .i64 4, .int .i64 nw, .int .i64 n, .string z, .string tn, .int .i64 tk, .bool tu, .int .i64 tf, .int .i64 ta, .int .i64 tb] 36)).alloc (.cells #[.int .i64 0, .string ⟨#[]⟩, .int .i64 0] 38)) 38 #[.int .i64 0, .string ⟨#[]⟩, .int .i64 0])
  have H := Lib.hid (h.below hB)
  have HB := Lib.hid hB
  have hlt := fun j (hj : F j) => Lib.hid (h.lt hj)
  clear h hB
  go_enter Tryz.func9, Tryz.ntmps9
  go_wp2_with fail
  refine (kAdd_any H.out ho ⟨tn, tk, tu, tf, ta, tb⟩ nw).mono ?_
  rintro e w1 ⟨rfl, hTD⟩
  obtain ⟨F', hC, hD, hS⟩ := hTD
  have qT := Lib.hid ((Stem.refl F w).trans HB.out.size hS)
  have qS := Lib.hid hC
  have qD := Lib.hid (show Did F w w1 from (Did.of_below HB.out).trans (Stem.refl _ _) hD)
  have qA := Lib.hid (hA.out.did hD (fun c => by have := (hlt _ c).out; simp at this; omega))
  have qR := Lib.hid (hR.out.did hD (fun c => by have := (hlt _ c).out; simp at this; omega))
  rw [World.size_alloc, World.size_alloc] at qA
  rw [World.size_alloc] at qR
  clear hA hR H HB hlt hC hD hS
  have a0 : w1.cell? ⟨w.heap.size + 2, 0, none⟩ = some (.int .i64 0) := (qA.out.cell 0).trans rfl
  have a1 : w1.cell? ⟨w.heap.size + 2, 1, none⟩ = some (.string ⟨#[]⟩) := (qA.out.cell 1).trans rfl
  have a2 : w1.cell? ⟨w.heap.size + 2, 2, none⟩ = some (.int .i64 0) := (qA.out.cell 2).trans rfl
  have r0 : w1.cell? ⟨w.heap.size + 1, 0, none⟩ = some (.int .i64 0) := (qR.out.cell 0).trans rfl
  have r1 : w1.cell? ⟨w.heap.size + 1, 1, none⟩ = some (.string ⟨#[]⟩) := (qR.out.cell 1).trans rfl
  have r2 : w1.cell? ⟨w.heap.size + 1, 2, none⟩ = some (.int .i64 0) := (qR.out.cell 2).trans rfl
  have fa0 := qA.out.free 0
  have fa1 := qA.out.free 1
  have fa2 := qA.out.free 2
  have fr0 := qR.out.free 0
  have fr1 := qR.out.free 1
  have fr2 := qR.out.free 2
  have la : w.heap.size + 2 < w1.heap.size := qA.out.lt
  have lr : w.heap.size + 1 < w1.heap.size := qR.out.lt
  go_wp2
  refine bodyPost_ret (v := (.agg #[.int .i64 0, .string ⟨#[]⟩, .int .i64 (addE x ⟨tn, tk, tu, tf, ta, tb⟩)])) (by simp [results, Tryz.results9, go_sem, a0, a1, a2, r0, r1, r2, la, lr]) rfl ⟨rfl, F', ?_, ?_, qT.out⟩
  · have s0 := (qS.out.far qA.out (by decide) 2 (.int .i64 (addE x ⟨tn, tk, tu, tf, ta, tb⟩)))
    have b0 := (qR.out.far (p := ⟨w.heap.size + 2, 2, none⟩) (by show w.heap.size + 1 ≠ w.heap.size + 2; omega) (.int .i64 (addE x ⟨tn, tk, tu, tf, ta, tb⟩)))
    have s1 := s0.far b0 (by decide) 0 (.int .i64 0)
    have b1 := b0.set_ 0 (.int .i64 0)
    have s2 := s1.far b1 (by decide) 1 (.string ⟨#[]⟩)
    have b2 := b1.set_ 1 (.string ⟨#[]⟩)
    exact s2.far b2 (by decide) 2 (.int .i64 (addE x ⟨tn, tk, tu, tf, ta, tb⟩))
  · exact ((((qD.out.setCell (p := ⟨w.heap.size + 2, 2, none⟩) (.inr (by show w.heap.size ≤ w.heap.size + 2; omega)) (.int .i64 (addE x ⟨tn, tk, tu, tf, ta, tb⟩)))).setCell (p := ⟨w.heap.size + 1, 0, none⟩) (.inr (by show w.heap.size ≤ w.heap.size + 1; omega)) _).setCell (p := ⟨w.heap.size + 1, 1, none⟩) (.inr (by show w.heap.size ≤ w.heap.size + 1; omega)) _).setCell (p := ⟨w.heap.size + 1, 2, none⟩) (.inr (by show w.heap.size ≤ w.heap.size + 1; omega)) _
theorem does_5 (h : LK w F b x) (nw n : Int) (z tn : ByteArray) (tk : Int) (tu : Bool) (tf ta tb : Int) {M Q : Int} (ho : OkK x M Q) (hM : M ≤ 1000000000) :
    Calls Tryz.prog 9 #[ptr b, .agg #[.int .i64 5, .int .i64 nw, .int .i64 n, .string z, .string tn, .int .i64 tk, .bool tu, .int .i64 tf, .int .i64 ta, .int .i64 tb]] w (DoesQ F b w (dropK x z nw) ((0, ⟨#[]⟩, dropE x z))) := by
  have hB := (((Below.refl w.heap.size w).alloc (Nat.le_refl _) (.cells #[.int .i64 5, .int .i64 nw, .int .i64 n, .string z, .string tn, .int .i64 tk, .bool tu, .int .i64 tf, .int .i64 ta, .int .i64 tb] 36)).alloc (by simp) (.cells #[.int .i64 0, .string ⟨#[]⟩, .int .i64 0] 38)).alloc (by simp; omega) (.cells #[.int .i64 0, .string ⟨#[]⟩, .int .i64 0] 38)
  have hR := Lib.hid ((Blk.new (w.alloc (.cells #[.int .i64 5, .int .i64 nw, .int .i64 n, .string z, .string tn, .int .i64 tk, .bool tu, .int .i64 tf, .int .i64 ta, .int .i64 tb] 36)) 38 #[.int .i64 0, .string ⟨#[]⟩, .int .i64 0]).below ((Below.refl _ _).alloc (Nat.le_refl _) (.cells #[.int .i64 0, .string ⟨#[]⟩, .int .i64 0] 38)))
  have hA := Lib.hid (Blk.new ((w.alloc (.cells #[.int .i64 5, .int .i64 nw, .int .i64 n, .string z, .string tn, .int .i64 tk, .bool tu, .int .i64 tf, .int .i64 ta, .int .i64 tb] 36)).alloc (.cells #[.int .i64 0, .string ⟨#[]⟩, .int .i64 0] 38)) 38 #[.int .i64 0, .string ⟨#[]⟩, .int .i64 0])
  have H := Lib.hid (h.below hB)
  have HB := Lib.hid hB
  have hlt := fun j (hj : F j) => Lib.hid (h.lt hj)
  clear h hB
  go_enter Tryz.func9, Tryz.ntmps9
  go_wp2_with fail
  refine (kDrop_any H.out ho hM z nw).mono ?_
  rintro e w1 ⟨rfl, hTD⟩
  obtain ⟨F', hC, hD, hS⟩ := hTD
  have qT := Lib.hid ((Stem.refl F w).trans HB.out.size hS)
  have qS := Lib.hid hC
  have qD := Lib.hid (show Did F w w1 from (Did.of_below HB.out).trans (Stem.refl _ _) hD)
  have qA := Lib.hid (hA.out.did hD (fun c => by have := (hlt _ c).out; simp at this; omega))
  have qR := Lib.hid (hR.out.did hD (fun c => by have := (hlt _ c).out; simp at this; omega))
  rw [World.size_alloc, World.size_alloc] at qA
  rw [World.size_alloc] at qR
  clear hA hR H HB hlt hC hD hS
  have a0 : w1.cell? ⟨w.heap.size + 2, 0, none⟩ = some (.int .i64 0) := (qA.out.cell 0).trans rfl
  have a1 : w1.cell? ⟨w.heap.size + 2, 1, none⟩ = some (.string ⟨#[]⟩) := (qA.out.cell 1).trans rfl
  have a2 : w1.cell? ⟨w.heap.size + 2, 2, none⟩ = some (.int .i64 0) := (qA.out.cell 2).trans rfl
  have r0 : w1.cell? ⟨w.heap.size + 1, 0, none⟩ = some (.int .i64 0) := (qR.out.cell 0).trans rfl
  have r1 : w1.cell? ⟨w.heap.size + 1, 1, none⟩ = some (.string ⟨#[]⟩) := (qR.out.cell 1).trans rfl
  have r2 : w1.cell? ⟨w.heap.size + 1, 2, none⟩ = some (.int .i64 0) := (qR.out.cell 2).trans rfl
  have fa0 := qA.out.free 0
  have fa1 := qA.out.free 1
  have fa2 := qA.out.free 2
  have fr0 := qR.out.free 0
  have fr1 := qR.out.free 1
  have fr2 := qR.out.free 2
  have la : w.heap.size + 2 < w1.heap.size := qA.out.lt
  have lr : w.heap.size + 1 < w1.heap.size := qR.out.lt
  go_wp2
  refine bodyPost_ret (v := (.agg #[.int .i64 0, .string ⟨#[]⟩, .int .i64 (dropE x z)])) (by simp [results, Tryz.results9, go_sem, a0, a1, a2, r0, r1, r2, la, lr]) rfl ⟨rfl, F', ?_, ?_, qT.out⟩
  · have s0 := (qS.out.far qA.out (by decide) 2 (.int .i64 (dropE x z)))
    have b0 := (qR.out.far (p := ⟨w.heap.size + 2, 2, none⟩) (by show w.heap.size + 1 ≠ w.heap.size + 2; omega) (.int .i64 (dropE x z)))
    have s1 := s0.far b0 (by decide) 0 (.int .i64 0)
    have b1 := b0.set_ 0 (.int .i64 0)
    have s2 := s1.far b1 (by decide) 1 (.string ⟨#[]⟩)
    have b2 := b1.set_ 1 (.string ⟨#[]⟩)
    exact s2.far b2 (by decide) 2 (.int .i64 (dropE x z))
  · exact ((((qD.out.setCell (p := ⟨w.heap.size + 2, 2, none⟩) (.inr (by show w.heap.size ≤ w.heap.size + 2; omega)) (.int .i64 (dropE x z)))).setCell (p := ⟨w.heap.size + 1, 0, none⟩) (.inr (by show w.heap.size ≤ w.heap.size + 1; omega)) _).setCell (p := ⟨w.heap.size + 1, 1, none⟩) (.inr (by show w.heap.size ≤ w.heap.size + 1; omega)) _).setCell (p := ⟨w.heap.size + 1, 2, none⟩) (.inr (by show w.heap.size ≤ w.heap.size + 1; omega)) _
theorem does_6 (h : LK w F b x) (nw n : Int) (z tn : ByteArray) (tk : Int) (tu : Bool) (tf ta tb : Int) {M Q : Int} (ho : OkK x M Q) (hM : M ≤ 1000000000) :
    Calls Tryz.prog 9 #[ptr b, .agg #[.int .i64 6, .int .i64 nw, .int .i64 n, .string z, .string tn, .int .i64 tk, .bool tu, .int .i64 tf, .int .i64 ta, .int .i64 tb]] w (DoesQ F b w (chgK x ⟨tn, tk, tu, tf, ta, tb⟩ nw) ((0, ⟨#[]⟩, chgE x ⟨tn, tk, tu, tf, ta, tb⟩))) := by
  have hB := (((Below.refl w.heap.size w).alloc (Nat.le_refl _) (.cells #[.int .i64 6, .int .i64 nw, .int .i64 n, .string z, .string tn, .int .i64 tk, .bool tu, .int .i64 tf, .int .i64 ta, .int .i64 tb] 36)).alloc (by simp) (.cells #[.int .i64 0, .string ⟨#[]⟩, .int .i64 0] 38)).alloc (by simp; omega) (.cells #[.int .i64 0, .string ⟨#[]⟩, .int .i64 0] 38)
  have hR := Lib.hid ((Blk.new (w.alloc (.cells #[.int .i64 6, .int .i64 nw, .int .i64 n, .string z, .string tn, .int .i64 tk, .bool tu, .int .i64 tf, .int .i64 ta, .int .i64 tb] 36)) 38 #[.int .i64 0, .string ⟨#[]⟩, .int .i64 0]).below ((Below.refl _ _).alloc (Nat.le_refl _) (.cells #[.int .i64 0, .string ⟨#[]⟩, .int .i64 0] 38)))
  have hA := Lib.hid (Blk.new ((w.alloc (.cells #[.int .i64 6, .int .i64 nw, .int .i64 n, .string z, .string tn, .int .i64 tk, .bool tu, .int .i64 tf, .int .i64 ta, .int .i64 tb] 36)).alloc (.cells #[.int .i64 0, .string ⟨#[]⟩, .int .i64 0] 38)) 38 #[.int .i64 0, .string ⟨#[]⟩, .int .i64 0])
  have H := Lib.hid (h.below hB)
  have HB := Lib.hid hB
  have hlt := fun j (hj : F j) => Lib.hid (h.lt hj)
  clear h hB
  go_enter Tryz.func9, Tryz.ntmps9
  go_wp2_with fail
  refine (kChange_any H.out ho hM ⟨tn, tk, tu, tf, ta, tb⟩ nw).mono ?_
  rintro e w1 ⟨rfl, hTD⟩
  obtain ⟨F', hC, hD, hS⟩ := hTD
  have qT := Lib.hid ((Stem.refl F w).trans HB.out.size hS)
  have qS := Lib.hid hC
  have qD := Lib.hid (show Did F w w1 from (Did.of_below HB.out).trans (Stem.refl _ _) hD)
  have qA := Lib.hid (hA.out.did hD (fun c => by have := (hlt _ c).out; simp at this; omega))
  have qR := Lib.hid (hR.out.did hD (fun c => by have := (hlt _ c).out; simp at this; omega))
  rw [World.size_alloc, World.size_alloc] at qA
  rw [World.size_alloc] at qR
  clear hA hR H HB hlt hC hD hS
  have a0 : w1.cell? ⟨w.heap.size + 2, 0, none⟩ = some (.int .i64 0) := (qA.out.cell 0).trans rfl
  have a1 : w1.cell? ⟨w.heap.size + 2, 1, none⟩ = some (.string ⟨#[]⟩) := (qA.out.cell 1).trans rfl
  have a2 : w1.cell? ⟨w.heap.size + 2, 2, none⟩ = some (.int .i64 0) := (qA.out.cell 2).trans rfl
  have r0 : w1.cell? ⟨w.heap.size + 1, 0, none⟩ = some (.int .i64 0) := (qR.out.cell 0).trans rfl
  have r1 : w1.cell? ⟨w.heap.size + 1, 1, none⟩ = some (.string ⟨#[]⟩) := (qR.out.cell 1).trans rfl
  have r2 : w1.cell? ⟨w.heap.size + 1, 2, none⟩ = some (.int .i64 0) := (qR.out.cell 2).trans rfl
  have fa0 := qA.out.free 0
  have fa1 := qA.out.free 1
  have fa2 := qA.out.free 2
  have fr0 := qR.out.free 0
  have fr1 := qR.out.free 1
  have fr2 := qR.out.free 2
  have la : w.heap.size + 2 < w1.heap.size := qA.out.lt
  have lr : w.heap.size + 1 < w1.heap.size := qR.out.lt
  go_wp2
  refine bodyPost_ret (v := (.agg #[.int .i64 0, .string ⟨#[]⟩, .int .i64 (chgE x ⟨tn, tk, tu, tf, ta, tb⟩)])) (by simp [results, Tryz.results9, go_sem, a0, a1, a2, r0, r1, r2, la, lr]) rfl ⟨rfl, F', ?_, ?_, qT.out⟩
  · have s0 := (qS.out.far qA.out (by decide) 2 (.int .i64 (chgE x ⟨tn, tk, tu, tf, ta, tb⟩)))
    have b0 := (qR.out.far (p := ⟨w.heap.size + 2, 2, none⟩) (by show w.heap.size + 1 ≠ w.heap.size + 2; omega) (.int .i64 (chgE x ⟨tn, tk, tu, tf, ta, tb⟩)))
    have s1 := s0.far b0 (by decide) 0 (.int .i64 0)
    have b1 := b0.set_ 0 (.int .i64 0)
    have s2 := s1.far b1 (by decide) 1 (.string ⟨#[]⟩)
    have b2 := b1.set_ 1 (.string ⟨#[]⟩)
    exact s2.far b2 (by decide) 2 (.int .i64 (chgE x ⟨tn, tk, tu, tf, ta, tb⟩))
  · exact ((((qD.out.setCell (p := ⟨w.heap.size + 2, 2, none⟩) (.inr (by show w.heap.size ≤ w.heap.size + 2; omega)) (.int .i64 (chgE x ⟨tn, tk, tu, tf, ta, tb⟩)))).setCell (p := ⟨w.heap.size + 1, 0, none⟩) (.inr (by show w.heap.size ≤ w.heap.size + 1; omega)) _).setCell (p := ⟨w.heap.size + 1, 1, none⟩) (.inr (by show w.heap.size ≤ w.heap.size + 1; omega)) _).setCell (p := ⟨w.heap.size + 1, 2, none⟩) (.inr (by show w.heap.size ≤ w.heap.size + 1; omega)) _
theorem does_else (h : LK w F b x) (kd : Int) (nw n : Int) (z tn : ByteArray) (tk : Int) (tu : Bool) (tf ta tb : Int) (h0 : kd ≠ 0) (h1 : kd ≠ 1) (h2 : kd ≠ 2) (h3 : kd ≠ 3) (h4 : kd ≠ 4) (h5 : kd ≠ 5) (h6 : kd ≠ 6) :
    Calls Tryz.prog 9 #[ptr b, .agg #[.int .i64 kd, .int .i64 nw, .int .i64 n, .string z, .string tn, .int .i64 tk, .bool tu, .int .i64 tf, .int .i64 ta, .int .i64 tb]] w (DoesQ F b w (x) ((0, ⟨#[]⟩, 0))) := by
  have d0 : (kd == 0) = false := by simpa using h0
  have d1 : (kd == 1) = false := by simpa using h1
  have d2 : (kd == 2) = false := by simpa using h2
  have d3 : (kd == 3) = false := by simpa using h3
  have d4 : (kd == 4) = false := by simpa using h4
  have d5 : (kd == 5) = false := by simpa using h5
  have d6 : (kd == 6) = false := by simpa using h6
  clear h0 h1 h2 h3 h4 h5 h6
  have hB := (((Below.refl w.heap.size w).alloc (Nat.le_refl _) (.cells #[.int .i64 kd, .int .i64 nw, .int .i64 n, .string z, .string tn, .int .i64 tk, .bool tu, .int .i64 tf, .int .i64 ta, .int .i64 tb] 36)).alloc (by simp) (.cells #[.int .i64 0, .string ⟨#[]⟩, .int .i64 0] 38)).alloc (by simp; omega) (.cells #[.int .i64 0, .string ⟨#[]⟩, .int .i64 0] 38)
  have hR := Lib.hid ((Blk.new (w.alloc (.cells #[.int .i64 kd, .int .i64 nw, .int .i64 n, .string z, .string tn, .int .i64 tk, .bool tu, .int .i64 tf, .int .i64 ta, .int .i64 tb] 36)) 38 #[.int .i64 0, .string ⟨#[]⟩, .int .i64 0]).below ((Below.refl _ _).alloc (Nat.le_refl _) (.cells #[.int .i64 0, .string ⟨#[]⟩, .int .i64 0] 38)))
  have hA := Lib.hid (Blk.new ((w.alloc (.cells #[.int .i64 kd, .int .i64 nw, .int .i64 n, .string z, .string tn, .int .i64 tk, .bool tu, .int .i64 tf, .int .i64 ta, .int .i64 tb] 36)).alloc (.cells #[.int .i64 0, .string ⟨#[]⟩, .int .i64 0] 38)) 38 #[.int .i64 0, .string ⟨#[]⟩, .int .i64 0])
  have H := Lib.hid (h.below hB)
  have HB := Lib.hid hB
  have hlt := fun j (hj : F j) => Lib.hid (h.lt hj)
  clear h hB
  go_enter Tryz.func9, Tryz.ntmps9
  have hF1 := H.out
  have hT := Stem.refl F w
  have qS := Lib.hid hF1
  have qT := Lib.hid hT
  have qD := Lib.hid (Did.of_below (F := F) HB.out)
  clear hA hR H HB hlt hF1 hT
  go_wp2
  exact bodyPost_ret (v := .agg #[.int .i64 0, .string ⟨#[]⟩, .int .i64 0]) (by simp [results, Tryz.results9, go_sem]) rfl ⟨rfl, F, qS.out, qD.out, qT.out⟩
theorem does_any (h : LK w F b x) {M Q : Int} (ho : OkK x M Q) (o : Op) (hM : M + o.s.size ≤ 1000000) (hQ : Q ≤ 100000000) (hs : x.sent ≤ 1000000) (hg : x.got ≤ 1000000) :
    Calls Tryz.prog 9 #[ptr b, .agg #[.int .i64 o.kind, .int .i64 o.now, .int .i64 o.n, .string o.s, .string o.t.name, .int .i64 o.t.kind, .bool o.t.up, .int .i64 o.t.often, .int .i64 o.t.a, .int .i64 o.t.b]] w (DoesQ F b w (doesK x o) (doesA x o)) := by
  have hM0 : 0 ≤ M := by have := ho.c.held; omega
  obtain ⟨kd, nw, n, z, ⟨tn, tk, tu, tf, ta, tb⟩⟩ := o
  unfold doesK doesA
  dsimp only at hM ⊢
  have hM1 : M + z.size ≤ 1000000000 := by omega
  have hM2 : M ≤ 1000000000 := by omega
  have hM3 : M ≤ 1000000 := by omega
  have hs1 : x.sent + z.size ≤ 1000000000 := by omega
  have hg1 : x.got + M ≤ 1000000000 := by omega
  by_cases h0 : kd = 0
  · subst h0; simp only [if_pos]; exact does_0 h nw n z tn tk tu tf ta tb ho hM1 hs1
  by_cases h1 : kd = 1
  · subst h1; exact does_1 h nw n z tn tk tu tf ta tb ho
  by_cases h2 : kd = 2
  · subst h2; exact does_2 h nw n z tn tk tu tf ta tb ho hM2
  by_cases h3 : kd = 3
  · subst h3; exact does_3 h nw n z tn tk tu tf ta tb ho hM3 hQ hg1
  by_cases h4 : kd = 4
  · subst h4; exact does_4 h nw n z tn tk tu tf ta tb ho
  by_cases h5 : kd = 5
  · subst h5; exact does_5 h nw n z tn tk tu tf ta tb ho hM2
  by_cases h6 : kd = 6
  · subst h6; exact does_6 h nw n z tn tk tu tf ta tb ho hM2
  simp only [if_neg h0, if_neg h1, if_neg h2, if_neg h3, if_neg h4, if_neg h5, if_neg h6]
  exact does_else h kd nw n z tn tk tu tf ta tb h0 h1 h2 h3 h4 h5 h6
end Go.Proofs.YtoiibmcbjjnpbaaGreat.Link
namespace Go.Proofs.YtoiibmcbjjnpbaaGreat.Link
open Go.RowKit Mem Tick Cargo Toxic Stage Chain
set_option maxRecDepth 100000
set_option linter.unusedVariables false
set_option linter.unusedSimpArgs false
variable {w wr w2 w1 : World} {F : Nat → Prop} {b : Nat} {x y : Lk} {M Q : Int}
theorem live_does (h : LiveK w wr b x) (ho : OkK x M Q) (o : Op) (hM : M + o.s.size ≤ 1000000) (hQ : Q ≤ 100000000) (hs : x.sent ≤ 1000000) (hg : x.got ≤ 1000000) :
    Calls Tryz.prog 9 #[ptr b, .agg #[.int .i64 o.kind, .int .i64 o.now, .int .i64 o.n, .string o.s, .string o.t.name, .int .i64 o.t.kind, .bool o.t.up, .int .i64 o.t.often, .int .i64 o.t.a, .int .i64 o.t.b]] wr fun e w2 => e = .returned (Ans.v (doesA x o)) ∧ LiveK w w2 b (doesK x o) ∧ KeepK wr w2 := by
  obtain ⟨F, hC, hF, hB⟩ := h
  exact (does_any hC ho o hM hQ hs hg).mono fun e w2 ⟨he, hT⟩ => ⟨he, LiveK.turn hC hF hB hT⟩
theorem live_counts (h : LiveK w wr b x) (ho : OkK x M Q) (hM : M ≤ 1000000000) :
    Calls Tryz.prog 10 #[ptr b] wr fun e w2 => e = .returned (countsV x) ∧ LiveK w w2 b x ∧ Below wr.heap.size wr w2 := by
  have h' := h
  obtain ⟨F, hC, _⟩ := h
  exact (kCounts_any hC ho hM).mono fun e w2 ⟨he, hb⟩ => ⟨he, h'.below hb, hb⟩
theorem live_done (h : LiveK w wr b x) :
    Calls Tryz.prog 11 #[ptr b] wr fun e w2 => e = .returned (.bool x.done) ∧ wr = w2 := by
  obtain ⟨F, hC, _⟩ := h
  exact kDone_any hC
theorem off_later {A : Option Addr} {s : ByteArray} {F' : Nat → Prop} (hb : BS w A s) (hp : 0 < s.size) (ho : BS.Off A F) (hs : Stem F F' w) : BS.Off A F' := fun g o e hg => by
  rcases hs g hg with q | q
  · exact ho g o e q
  · exact absurd (bs_lt hb hp e) (Nat.not_lt.2 q)
/-! alive -/
def K0 : Lk := link0 true 7 9 0
def K1 : Lk := sendK K0 0 sAB
def K2 : Lk := finishK K1 0
def K3 : Lk := stepK K2 0 1
def K4 : Lk := stepK K3 0 9
def K5 : Lk := stepK K4 0 9
theorem al1 : putCN K0.c 0 sAB = 2 := by kernel_rfl
theorem al2 : stepB K2 0 1 = ⟨#[97]⟩ ∧ stepE K2 0 1 = 0 := by constructor <;> kernel_rfl
theorem al3 : stepB K3 0 9 = ⟨#[98]⟩ ∧ stepE K3 0 9 = 1 := by constructor <;> kernel_rfl
theorem al4 : (stepB K4 0 9).size = 0 ∧ stepE K4 0 9 = 0 := by constructor <;> kernel_rfl
theorem al5 : K5.done = true ∧ K5.sent = 2 ∧ K5.got = 2 ∧ heldL K5.c.l = 0 ∧ K5.c.lost = 0 := by refine ⟨?_, ?_, ?_, ?_, ?_⟩ <;> kernel_rfl
theorem al6 : K0.sent = 0 ∧ K2.got = 0 ∧ K3.got = 1 ∧ K4.got = 2 := by refine ⟨?_, ?_, ?_, ?_⟩ <;> kernel_rfl
theorem ok0 : OkK K0 0 0 := ok_link0 true 7 9 0 (by decide) (by decide) (by decide)
theorem ok1 : OkK K1 2 0 := (ok0.send 0 sAB).more (by decide) (by decide)
theorem ok2 : OkK K2 2 0 := ⟨ok_close ok1.c 0, by show K1.names.length + 2 = (closeC K1.c 0).l.length; rw [close_len]; exact ok1.n, ok1.d0, ok1.d1, ok1.s0, ok1.s1, ok1.g0, ok1.t0⟩
theorem ok3 : OkK K3 2 60 := (ok2.step 0 1).more (by decide) (by decide)
theorem ok4 : OkK K4 2 120 := (ok3.step 0 9).more (by decide) (by decide)
theorem ok5 : OkK K5 2 180 := (ok4.step 0 9).more (by decide) (by decide)
theorem toxs_nil (w : World) : Toxs w (.slice none 0 0) [] := ⟨none, 0, rfl, by decide, Nat.le_refl _, fun h => absurd rfl h⟩
set_option maxHeartbeats 1000000 in
theorem alive_any (w : World) : Calls Tryz.prog 8 #[] w fun e w' => e = .returned (.bool true) ∧ Below w.heap.size w w' := by
  have hn := Lib.hid (new_ok (.slice none 0 0) [] true 7 9 0 w (toxs_nil w) (by decide) (by decide) rfl rfl (by decide) (by decide))
  go_enter Tryz.func8, Tryz.ntmps8
  go_wp2_with fail
  refine hn.out.mono ?_
  rintro e w0 ⟨b, rfl, F0, hL, hF, hB⟩
  have HL := Lib.hid (show LK w0 F0 b K0 from hL)
  have HF := Lib.hid (And.intro hF hB)
  clear hn hL hF hB
  have k1 := Lib.run_convert_bytes_const (P := Tryz.prog) w0 56 5 #[.int .u8 97, .int .u8 98] 2 2 Tryz.underlying56 Tryz.underlying5
  go_wp2_with fail
  refine (kSend_any (HL.out.below ((Below.refl w0.heap.size w0).alloc (Nat.le_refl _) _)) ok0 0 _ 2 sAB (by decide) (sAB_of w0) (fun g o e hg => by injection e with e; injection e with e; have := HL.out.lt hg; omega) (by decide) (by rw [al6.1]; decide)).mono ?_
  rintro e w1 ⟨rfl, F1, hL1, hD1, hS1⟩
  rw [al1]
  have HL1 := Lib.hid (show LK w1 F1 b K1 from hL1)
  have hD1' := Lib.hid (show Did F0 w0 w1 from ((Did.refl F0 w0).alloc _).trans (Stem.refl _ _) hD1)
  have hS1' := Lib.hid (show Stem F0 F1 w0 from fun j hj => (hS1 j hj).imp id (fun e => by have := (Below.heap_alloc w0); simp at e; omega))
  clear k1 hL1 hD1 hS1 HL
  go_wp2_with fail
  refine (kFinish_any HL1.out ok1 0).mono ?_
  rintro e w2 ⟨rfl, F2, hL2, hD2, hS2⟩
  have HL2 := Lib.hid (show LK w2 F2 b K2 from hL2)
  have hD2' := Lib.hid (hD1'.out.trans hS1'.out hD2)
  have hS2' := Lib.hid (hS1'.out.trans hD1'.out.size hS2)
  clear hL2 hD2 hS2 HL1 hD1' hS1'
  go_wp2_with fail
  refine (kStep_any HL2.out ok2 (by decide) (by decide) (by rw [al6.2.1]; decide) 0 1).mono ?_
  rintro e w3 ⟨A3, c3, F3, rfl, hb3, hn3, hL3, hD3, hS3, ho3⟩
  rw [al2.1] at hb3 ho3 ⊢
  rw [al2.2]
  have HL3 := Lib.hid (show LK w3 F3 b K3 from hL3)
  have hD3' := Lib.hid (hD2'.out.trans hS2'.out hD3)
  have hS3' := Lib.hid (hS2'.out.trans hD2'.out.size hS3)
  have HB3 := Lib.hid (And.intro hb3 (ho3 (by decide)))
  clear hL3 hD3 hS3 HL2 hD2' hS2' hb3 ho3 hn3
  go_wp2_with fail
  refine (kStep_any HL3.out ok3 (by decide) (by decide) (by rw [al6.2.2.1]; decide) 0 9).mono ?_
  rintro e w4 ⟨A4, c4, F4, rfl, hb4, hn4, hL4, hD4, hS4, ho4⟩
  rw [al3.1] at hb4 ho4 ⊢
  rw [al3.2]
  have HL4 := Lib.hid (show LK w4 F4 b K4 from hL4)
  have hD4' := Lib.hid (hD3'.out.trans hS3'.out hD4)
  have hS4' := Lib.hid (hS3'.out.trans hD3'.out.size hS4)
  have HB4 := Lib.hid (And.intro hb4 (ho4 (by decide)))
  have HB34 := Lib.hid (And.intro (BS_did HB3.out.1 HB3.out.2 hD4) (off_later HB3.out.1 (by decide) HB3.out.2 hS4))
  clear hL4 hD4 hS4 HL3 hD3' hS3' hb4 ho4 hn4 HB3
  go_wp2_with fail
  refine (kStep_any HL4.out ok4 (by decide) (by decide) (by rw [al6.2.2.2]; decide) 0 9).mono ?_
  rintro e w5 ⟨A5, c5, F5, rfl, -, -, hL5, hD5, hS5, -⟩
  rw [al4.1, al4.2]
  have HL5 := Lib.hid (show LiveK w w5 b K5 from ⟨F5, hL5, fun j hj => (hS4'.out.trans hD4'.out.size hS5 j hj).elim (HF.out.1 j) (fun e => Nat.le_trans HF.out.2.size e), HF.out.2.trans ((hD4'.out.trans hS4'.out hD5).below HF.out.2.size HF.out.1)⟩)
  have hcv3 : (convert 56 9 (.slice A3 1 c3)).run Tryz.prog w5 = .ok (.string ⟨#[97]⟩) w5 := conv_bytes c3 (BS_did HB34.out.1 HB34.out.2 hD5)
  have hcv4 : (convert 56 9 (.slice A4 1 c4)).run Tryz.prog w5 = .ok (.string ⟨#[98]⟩) w5 := conv_bytes c4 (BS_did HB4.out.1 HB4.out.2 hD5)
  have l1 : K5.done = true := al5.1
  have l2 : countsV K5 = .agg #[.int .i64 2, .int .i64 2, .int .i64 0, .int .i64 0] := by unfold countsV; rw [al5.2.1, al5.2.2.1, al5.2.2.2.1, al5.2.2.2.2]; rfl
  clear hL5 hD5 hS5 HL4 hD4' hS4' HB4 HB34
  go_wp2_with (first
    | (go_at_call 11; (with_reducible refine (live_done HL5.out).mono ?_); rintro e w6 ⟨rfl, rfl⟩; rw [l1])
    | (go_at_call 10; (with_reducible refine (live_counts HL5.out ok5 (by decide)).mono ?_); rintro e w7 ⟨rfl, hL, -⟩; rw [l2]; have H7 := Lib.hid hL; clear hL))
  go_ret
  exact ⟨by simp, H7.out.old⟩
end Go.Proofs.YtoiibmcbjjnpbaaGreat.Link
namespace Go.Proofs.YtoiibmcbjjnpbaaGreat.Link
open Go.RowKit Mem Tick Cargo Toxic Stage Chain
set_option maxRecDepth 100000
set_option linter.unusedVariables false
set_option linter.unusedSimpArgs false
def Seats (w : World) (v : Value) (L : List Tox) (up : Bool) (seed room : Int) : Prop :=
  ∃ sa sc, v = .agg #[.slice sa L.length sc, .bool up, .int .u64 seed, .int .i64 room] ∧ Toxs w (.slice sa L.length sc) L ∧ 0 ≤ seed ∧ seed < 18446744073709551616
theorem live_new {w wr : World} {sa : Option Addr} {sc : Nat} {L : List Tox} (up : Bool) (seed room now : Int) (hv : Toxs w (.slice sa L.length sc) L) (h : linkE L room = 0) (h0 : 0 ≤ seed) (h1 : seed < 18446744073709551616) (hB : Below w.heap.size w wr) :
    Calls Tryz.prog 6 #[.slice sa L.length sc, .bool up, .int .u64 seed, .int .i64 room, .int .i64 now] wr fun e w' => ∃ b, e = .returned (.tuple #[ptr b, .int .i64 0]) ∧ LiveK w w' b (linkN L up seed room now) := by
  unfold linkE at h
  split at h
  · exact absurd h (by decide)
  rename_i h2
  split at h
  · rename_i h3; exact absurd h h3
  rename_i h3
  split at h
  · exact absurd h (by decide)
  rename_i h4
  have hr : roomOk room = true := by cases e : roomOk room with | true => rfl | false => exact absurd (.inl e) h2
  refine (new_ok _ L up seed room now wr (hv.below hB) hr (by omega) (by simpa using h3) (by simpa using h4) h0 h1).mono ?_
  rintro e w1 ⟨b, rfl, F, hL, hF, hB1⟩
  exact ⟨b, rfl, F, hL, fun j hj => Nat.le_trans hB.size (hF j hj), bw_below hB hB1⟩
theorem bad_new {wr : World} {v : Value} {L : List Tox} (up : Bool) (seed room now : Int) (hv : Toxs wr v L) (h : linkE L room ≠ 0) :
    Calls Tryz.prog 6 #[v, .bool up, .int .u64 seed, .int .i64 room, .int .i64 now] wr fun e w' => e = .returned (.tuple #[.pointer none, .int .i64 (linkE L room)]) ∧ Below wr.heap.size wr w' := by
  unfold linkE at h ⊢
  cases hr : roomOk room with
  | false => rw [if_pos (.inl rfl)]; exact new_bad v L up seed room now wr hv hr
  | true =>
    by_cases hl : 8 < L.length
    · rw [if_pos (.inr hl)]; exact new_long v L up seed room now wr hv hr hl
    have e1 : ¬ ((true = false) ∨ 8 < L.length) := by rintro (e | e); cases e; exact hl e
    rw [hr, if_neg e1] at h
    rw [if_neg e1]
    by_cases hf : firstE L = 0
    · rw [if_neg (by simpa using hf)] at h ⊢
      cases hd : dblB L with
      | true => rw [if_pos rfl]; exact new_dbl v L up seed room now wr hv hr (by omega) hf hd
      | false => rw [hd] at h; exact absurd rfl h
    · rw [if_pos hf]; exact new_chk v L up seed room now wr hv hr (by omega) hf
structure OkJ (x : Lk) (l : List Op) (k : Nat) : Prop where
  ok : OkK x (bytesOf (l.take k)) (60000 * k)
  dr : x.drawn ≤ 8 + k
theorem OkJ.next {x : Lk} {l : List Op} {k : Nat} {p : Op} (h : OkJ x l k) (hx : l[k]? = some p) (hb : bytesOf l ≤ 2000) (hl : l.length ≤ 60) : OkJ (doesK x p) l (k + 1) := by
  have h1 := bytes_s l k p hx
  have h2 := bytesOf_le l (k + 1)
  have hk : k < l.length := by have := List.getElem?_eq_some_iff.1 hx; exact this.1
  have hd := h.dr
  refine ⟨(h.ok.does (by omega) (by omega) p).more ?_ ?_, ?_⟩
  · omega
  · omega
  · have := (drawn_does x p).1; omega
theorem kk_link0 (up : Bool) (seed room now : Int) : KK (link0 up seed room now) ⟨#[]⟩ ⟨#[]⟩ := ⟨km_new room now, rfl, rfl⟩
theorem kk_fold (now : Int) : ∀ (l : List Tox) (x : Lk), KK x ⟨#[]⟩ ⟨#[]⟩ → KK (l.foldl (fun x t => addK x t now) x) ⟨#[]⟩ ⟨#[]⟩
  | [], _, h => h
  | t :: l, x, h => kk_fold now l _ (by
      show KK (addK x t now) ⟨#[]⟩ ⟨#[]⟩
      unfold addK
      split
      · exact ⟨km_ins h.km _ _ _ _, h.sent, h.got⟩
      · exact h)
theorem kk_linkN (l : List Tox) (up : Bool) (seed room now : Int) : KK (linkN l up seed room now) ⟨#[]⟩ ⟨#[]⟩ := kk_fold now l _ (kk_link0 up seed room now)
theorem okJ_linkN (L : List Tox) (up : Bool) (seed room now : Int) (h : linkE L room = 0) (h0 : 0 ≤ seed) (h1 : seed < 18446744073709551616) (l : List Op) : OkJ (linkN L up seed room now) l 0 := by
  unfold linkE at h
  split at h
  · exact absurd h (by decide)
  rename_i h2
  have hr : roomOk room = true := by cases e : roomOk room with | true => rfl | false => exact absurd (.inl e) h2
  have := ok_linkN L up seed room now hr h0 h1 (by omega)
  exact ⟨this.1.more (by simp [bytesOf]) (by omega), by have := this.2; omega⟩
theorem inK_le (x : Lk) (p : Op) : (inK x p).size ≤ p.s.size := by
  unfold inK
  split
  · rw [putN_size]; exact putCN_le _ _ _
  · exact Nat.zero_le _
theorem kk_says {x : Lk} {l : List Op} {k : Nat} {i o : ByteArray} (h : KK x i o) (ho : OkJ x l k) (hb : bytesOf l ≤ 2000) : ∃ lo : Nat, x.sent = (i.size : Int) ∧ x.got = (o.size : Int) ∧ x.c.lost = (lo : Int) ∧ i.size = o.size + heldL x.c.l + lo ∧ o.size ≤ i.size ∧ i.extract 0 o.size = o ∧ heldL x.c.l ≤ 2000 := by
  have h0 := ho.ok.c.lost0
  have h2 := ho.ok.c.held
  have h3 := bytesOf_le l k
  have h4 := h.km.2
  have h5 := keep_pre h.km.1
  exact ⟨x.c.lost.toNat, h.sent, h.got, by omega, by omega, h5.1, h5.2, by omega⟩
theorem cnt_w (o h lo i : Nat) (e : i = o + h + lo) (hb : i ≤ 100000) : wrap64 ((o : Int) + (h : Int)) = (o : Int) + (h : Int) ∧ wrap64 ((o : Int) + (h : Int) + (lo : Int)) = (i : Int) := by
  constructor <;> unfold wrap64 <;> omega
theorem LinkCounts_none (sa : Option Addr) (sc : Nat) (L : List Tox) (up : Bool) (seed room : Int) (v : Value) (l : List Op) (w : World) (hs : Toxs w (.slice sa L.length sc) L) (h0 : 0 ≤ seed) (h1 : seed < 18446744073709551616) (hv : Script w v l) (hr : linkE L room ≠ 0) :
    Calls Tryz.prog 3 #[.agg #[.slice sa L.length sc, .bool up, .int .u64 seed, .int .i64 room], v] w fun e w' => e = .returned (.bool true) ∧ Below w.heap.size w w' := by
  obtain ⟨w0, e0, B0, X0⟩ : ∃ w0, Hid (w.alloc (.cells #[.slice sa L.length sc, .bool up, .int .u64 seed, .int .i64 room] 25) = w0) ∧ Hid (Below w.heap.size w w0) ∧ Hid (Blk w0 w.heap.size 25 #[.slice sa L.length sc, .bool up, .int .u64 seed, .int .i64 room]) := ⟨_, Lib.hid rfl, Lib.hid ((Below.refl _ _).alloc (Nat.le_refl _) _), Lib.hid (Blk.new w _ _)⟩
  have hn := Lib.hid (bad_new up seed room 0 (hs.below B0.out) hr)
  have te : (linkE L room != 0) = true := by simpa using hr
  clear hs hr
  go_enter Tryz.func3, Tryz.ntmps3
  go_wp2_with fail
  rw [e0.out]
  refine hn.out.mono ?_
  rintro e w1 ⟨rfl, hB⟩
  have hB1 := Lib.hid (bw_below B0.out hB)
  clear hn hB
  go_wp2_with (go_at_call 8; (with_reducible refine (alive_any _).mono ?_); rintro e w2 ⟨rfl, hB2⟩; have hB2' := Lib.hid hB2; clear hB2)
  go_ret
  exact ⟨rfl, bw_below hB1.out hB2'.out⟩
theorem LinkCounts_long (sa : Option Addr) (sc : Nat) (L : List Tox) (up : Bool) (seed room : Int) (v : Value) (l : List Op) (w : World) (hs : Toxs w (.slice sa L.length sc) L) (h0 : 0 ≤ seed) (h1 : seed < 18446744073709551616) (hv : Script w v l) (hr : linkE L room = 0) (hf : fewK L.length l = false) :
    Calls Tryz.prog 3 #[.agg #[.slice sa L.length sc, .bool up, .int .u64 seed, .int .i64 room], v] w fun e w' => e = .returned (.bool true) ∧ Below w.heap.size w w' := by
  obtain ⟨w0, e0, B0, X0⟩ : ∃ w0, Hid (w.alloc (.cells #[.slice sa L.length sc, .bool up, .int .u64 seed, .int .i64 room] 25) = w0) ∧ Hid (Below w.heap.size w w0) ∧ Hid (Blk w0 w.heap.size 25 #[.slice sa L.length sc, .bool up, .int .u64 seed, .int .i64 room]) := ⟨_, Lib.hid rfl, Lib.hid ((Below.refl _ _).alloc (Nat.le_refl _) _), Lib.hid (Blk.new w _ _)⟩
  have hn := Lib.hid (live_new up seed room 0 (hs.below B0.out) hr h0 h1 (Below.refl w0.heap.size w0))
  have hmx : L.length ≤ 9223372036854775807 := by obtain ⟨_, _, _, e, _⟩ := hs; exact e
  have hv' := Lib.hid (hv.below B0.out)
  have hf' := Lib.hid hf
  clear hr hv hf hs
  go_enter Tryz.func3, Tryz.ntmps3
  go_wp2_with fail
  rw [e0.out]
  refine hn.out.mono ?_
  rintro e w1 ⟨c, rfl, hL⟩
  have hB1 := Lib.hid hL.old
  have x0 := (X0.out.below hB1.out).cell 0
  have x1 := (X0.out.below hB1.out).cell 1
  have x2 := (X0.out.below hB1.out).cell 2
  have x3 := (X0.out.below hB1.out).cell 3
  have xb := (X0.out.below hB1.out).lt
  clear hn hL
  go_wp2_with fail
  refine (few_any sa L.length sc up seed room v l _ hmx (hv'.out.below hB1.out)).mono ?_
  rintro e w2 ⟨rfl, hB⟩
  rw [hf'.out]
  have hB2 := Lib.hid (bw_below hB1.out hB)
  clear hB
  go_wp2_with (go_at_call 8; (with_reducible refine (alive_any _).mono ?_); rintro e w2 ⟨rfl, hB2⟩; have hB2' := Lib.hid hB2; clear hB2)
  go_ret
  exact ⟨rfl, bw_below B0.out (bw_below hB2.out hB2'.out)⟩
set_option maxHeartbeats 2000000 in
theorem LinkCounts_yes (sa : Option Addr) (sc : Nat) (L : List Tox) (up : Bool) (seed room : Int) (v : Value) (l : List Op) (w : World) (hs : Toxs w (.slice sa L.length sc) L) (h0 : 0 ≤ seed) (h1 : seed < 18446744073709551616) (hv : Script w v l) (hr : linkE L room = 0) (hf : fewK L.length l = true) :
    Calls Tryz.prog 3 #[.agg #[.slice sa L.length sc, .bool up, .int .u64 seed, .int .i64 room], v] w fun e w' => e = .returned (.bool true) ∧ Below w.heap.size w w' := by
  obtain ⟨w0, e0, B0, X0⟩ : ∃ w0, Hid (w.alloc (.cells #[.slice sa L.length sc, .bool up, .int .u64 seed, .int .i64 room] 25) = w0) ∧ Hid (Below w.heap.size w w0) ∧ Hid (Blk w0 w.heap.size 25 #[.slice sa L.length sc, .bool up, .int .u64 seed, .int .i64 room]) := ⟨_, Lib.hid rfl, Lib.hid ((Below.refl _ _).alloc (Nat.le_refl _) _), Lib.hid (Blk.new w _ _)⟩
  have hn := Lib.hid (live_new up seed room 0 (hs.below B0.out) hr h0 h1 (Below.refl w0.heap.size w0))
  have hmx : L.length ≤ 9223372036854775807 := by obtain ⟨_, _, _, e, _⟩ := hs; exact e
  have hok0 := Lib.hid (okJ_linkN L up seed room 0 hr h0 h1 l)
  have hv' := Lib.hid (hv.below B0.out)
  have hf' := Lib.hid hf
  have hn5 : bytesOf l ≤ 2000 := by simp [fewK] at hf; exact hf.2.2
  have hl2 : l.length ≤ 60 := by simp [fewK] at hf; exact hf.2.1
  obtain ⟨a, cap, rfl, hmx2, -, hA⟩ := hv
  have hx0 := Lib.hid (kk_linkN L up seed room 0)
  generalize hK0 : linkN L up seed room 0 = K0 at *
  clear hr hf hs hK0
  go_enter Tryz.func3, Tryz.ntmps3
  go_wp2_with fail
  rw [e0.out]
  refine hn.out.mono ?_
  rintro e w1 ⟨c, rfl, hL⟩
  have H1 := Lib.hid hL
  have x0 := (X0.out.below hL.old).cell 0
  have x1 := (X0.out.below hL.old).cell 1
  have x2 := (X0.out.below hL.old).cell 2
  have x3 := (X0.out.below hL.old).cell 3
  have xb := (X0.out.below hL.old).lt
  clear hn hL
  go_wp2_with fail
  refine (few_any sa L.length sc up seed room _ l _ hmx (hv'.out.below H1.out.old)).mono ?_
  rintro e w2 ⟨rfl, hB⟩
  rw [hf'.out]
  have H2 := Lib.hid (H1.out.below hB)
  clear hB H1
  go_wp2
  go_loopw [7, 8, 40] (fun nv ov iv wr => ∃ (k : Nat) (x : Lk) (i o : ByteArray), k ≤ l.length ∧ iv = .int .i64 k ∧ nv = .string i ∧ ov = .string o ∧ LiveK w0 wr c x ∧ OkJ x l k ∧ KK x i o ∧ i.size ≤ bytesOf (l.take k)) (fun _ _ iv _ => l.length - (intOf iv).toNat)
  case atStart => exact ⟨0, K0, ⟨#[]⟩, ⟨#[]⟩, by omega, rfl, rfl, rfl, H2.out, hok0.out, hx0.out, Nat.zero_le _⟩
  case round =>
    obtain ⟨k, x, i, o, hk, rfl, rfl, rfl, hL, hok, hkk, hin⟩ := hrel
    clear H2
    by_cases hlt : k < l.length
    · obtain ⟨g, oo, rfl, hc⟩ := hA (by intro h; subst h; simp at hlt)
      have hx : l[k]? = some l[k] := List.getElem?_eq_getElem hlt
      obtain ⟨d0, d1, d2, d3, d4, d5, d6, d7, d8, d9⟩ := hc k _ hx
      have hbt := bytes_s l k _ hx
      have hble := bytesOf_le l (k + 1)
      rw [hbt] at hble
      have hbt' := Lib.hid hbt
      have hnext := Lib.hid (hok.next hx hn5 hl2)
      clear hbt
      generalize l[k] = p at *
      obtain ⟨p0, p1, p2, p3, ⟨t0, t1, t2, t3, t4, t5⟩⟩ := p
      dsimp only at *
      have hold := hL.old
      have d0' := bcells (bw_below B0.out hold) d0
      have d1' := bcells (bw_below B0.out hold) d1
      have d2' := bcells (bw_below B0.out hold) d2
      have d3' := bcells (bw_below B0.out hold) d3
      have d4' := bcells (bw_below B0.out hold) d4
      have d5' := bcells (bw_below B0.out hold) d5
      have d6' := bcells (bw_below B0.out hold) d6
      have d7' := bcells (bw_below B0.out hold) d7
      have d8' := bcells (bw_below B0.out hold) d8
      have d9' := bcells (bw_below B0.out hold) d9
      have hL' := Lib.hid hL
      have hok' := Lib.hid hok.ok
      have hszw : w.heap.size ≤ wr.heap.size := Nat.le_trans B0.out.size hold.size
      have hM0 : (bytesOf (l.take k) : Int) + p3.size ≤ 1000000 := by omega
      have hQ0 : (60000 * k : Int) ≤ 100000000 := by omega
      have hse0 : x.sent ≤ 1000000 := by have := hkk.sent; have := bytesOf_le l k; omega
      have hge0 : x.got ≤ 1000000 := by have h1 := hkk.got; have := (keep_pre hkk.km.1).1; have := bytesOf_le l k; omega
      have hkn := Lib.hid (hkk.does ⟨p0, p1, p2, p3, ⟨t0, t1, t2, t3, t4, t5⟩⟩)
      have hpl := putCN_le x.c p1 p3
      have hic : Hid (inK x ⟨p0, p1, p2, p3, ⟨t0, t1, t2, t3, t4, t5⟩⟩ = if p0 = 0 then p3.extract 0 (putCN x.c p1 p3) else ⟨#[]⟩) := Lib.hid rfl
      have hoc := Lib.hid (show p0 = 3 → outK x ⟨p0, p1, p2, p3, ⟨t0, t1, t2, t3, t4, t5⟩⟩ = (doesA x ⟨p0, p1, p2, p3, ⟨t0, t1, t2, t3, t4, t5⟩⟩).2.1 from fun e => by subst e; rfl)
      have hoe := Lib.hid (show p0 ≠ 3 → outK x ⟨p0, p1, p2, p3, ⟨t0, t1, t2, t3, t4, t5⟩⟩ = ⟨#[]⟩ from fun e => by unfold outK; rw [if_neg e])
      have hst := Lib.hid (show p0 = 0 → (doesA x ⟨p0, p1, p2, p3, ⟨t0, t1, t2, t3, t4, t5⟩⟩).1 = ((putCN x.c p1 p3 : Nat) : Int) from fun e => by unfold doesA; rw [if_pos e])
      have hin' := Lib.hid hin
      clear hc hx hA hkk hin hold hL hok d0 d1 d2 d3 d4 d5 d6 d7 d8 d9
      go_wp2_with fail
      have hBx : Below wr.heap.size wr (wr.alloc (.cells #[.int .i64 p0, .int .i64 p1, .int .i64 p2, .string p3, .string t0, .int .i64 t1, .bool t2, .int .i64 t3, .int .i64 t4, .int .i64 t5] 36)) := (Below.refl _ _).alloc (Nat.le_refl _) _
      refine (live_does (hL'.out.below hBx) hok'.out ⟨p0, p1, p2, p3, ⟨t0, t1, t2, t3, t4, t5⟩⟩ hM0 hQ0 hse0 hge0).mono ?_
      rintro e w3 ⟨rfl, hL3, hK3⟩
      have HX3 := Lib.hid (hK3 _ _ _ (Blk.new wr 36 #[.int .i64 p0, .int .i64 p1, .int .i64 p2, .string p3, .string t0, .int .i64 t1, .bool t2, .int .i64 t3, .int .i64 t4, .int .i64 t5]) (by decide))
      have HL3 := Lib.hid hL3
      clear hL3 hK3 hBx hL'
      try dsimp only at hkn
      generalize doesK x ⟨p0, p1, p2, p3, ⟨t0, t1, t2, t3, t4, t5⟩⟩ = y at *
      generalize doesA x ⟨p0, p1, p2, p3, ⟨t0, t1, t2, t3, t4, t5⟩⟩ = an at *
      generalize inK x ⟨p0, p1, p2, p3, ⟨t0, t1, t2, t3, t4, t5⟩⟩ = ic at *
      generalize outK x ⟨p0, p1, p2, p3, ⟨t0, t1, t2, t3, t4, t5⟩⟩ = oc at *
      generalize putCN x.c p1 p3 = N at *
      obtain ⟨a0, a1, a2⟩ := an
      dsimp only at *
      have r0 : w3.cell? ⟨wr.heap.size, 0, none⟩ = some (.int .i64 p0) := (HX3.out.cell 0).trans rfl
      have r3 : w3.cell? ⟨wr.heap.size, 3, none⟩ = some (.string p3) := (HX3.out.cell 3).trans rfl
      have hwz : wr.heap.size < w3.heap.size := HX3.out.lt
      have HA := Lib.hid (Blk.new w3 38 #[.int .i64 a0, .string a1, .int .i64 a2])
      have HLA := Lib.hid (HL3.out.below ((Below.refl w3.heap.size w3).alloc (Nat.le_refl _) (.cells #[.int .i64 a0, .string a1, .int .i64 a2] 38)))
      clear hok'
      obtain ⟨lo, ks, kg, kl, kh, kle, kex, khb⟩ := kk_says hkn.out hnext.out hn5
      have hcv : Hid (countsV y = .agg #[.int .i64 ((i ++ ic).size : Int), .int .i64 ((o ++ oc).size : Int), .int .i64 (heldL y.c.l), .int .i64 (lo : Int)]) := Lib.hid (by unfold countsV; rw [ks, kg, kl])
      generalize heldL y.c.l = hd at *
      have hM1 := Lib.hid (show (bytesOf (l.take (k + 1)) : Int) ≤ 1000000000 by have := bytesOf_le l (k + 1); omega)
      clear ks kg kl
      by_cases h0 : p0 = 0
      · have e1 := hic.out
        rw [if_pos h0] at e1
        subst e1
        have e2 := hoe.out (by omega)
        subst e2
        have e0 := hst.out h0
        subst e0
        have hd0 : (p0 == 0) = true := by simpa using h0
        have hd3 : (p0 == 3) = false := by simp; omega
        have tg : decide ((0 : Int) ≤ (N : Int)) = true := decide_eq_true (by omega)
        have tl : decide ((N : Int) ≤ (p3.size : Int)) = true := decide_eq_true (by omega)
        have tl2 : decide (p3.size < N) = false := decide_eq_false (by omega)
        have hnn : (0 : Int) ≤ (N : Int) := by omega
        have hxs : (p3.extract 0 N).size = N := ext_size _ _ hpl
        rw [app_nil] at hcv kh kle kex hkn
        have hbd : (i ++ p3.extract 0 N).size ≤ bytesOf (l.take (k + 1)) := by rw [hbt'.out]; have := hin'.out; rw [ByteArray.size_append, hxs]; omega
        have hb2 : (i ++ p3.extract 0 N).size ≤ 2000 := by have := bytesOf_le l (k + 1); omega
        have hsz1 : i.size + N ≤ 2000 := by rw [ByteArray.size_append, hxs] at hb2; omega
        have HN := Lib.hid (And.intro hcv (And.intro kh (And.intro kle (And.intro kex (And.intro hbd hb2)))))
        clear h0 hic hoc hoe hst kh kex kle hbd hb2 hcv hin'
        go_wp2_with fail
        refine (live_counts HLA.out hnext.out.ok hM1.out).mono ?_
        rintro e w4 ⟨rfl, hL4, hB4⟩
        have HL4 := Lib.hid hL4
        have hA4 := HA.out.below hB4
        have z0 : w4.cell? ⟨w3.heap.size, 0, none⟩ = some (.int .i64 (N : Int)) := (hA4.cell 0).trans rfl
        have z1 : w4.cell? ⟨w3.heap.size, 1, none⟩ = some (.string a1) := (hA4.cell 1).trans rfl
        clear hL4 hB4 hA4 HA HLA HX3 HL3
        generalize hI : i ++ p3.extract 0 N = I at *
        clear hI hsz1 tg tl tl2 hnn hxs
        obtain ⟨hcv, kh, kle, kex, hbd, hb2⟩ := HN.out
        rw [hcv.out]
        have hw := Lib.hid (cnt_w o.size hd lo I.size kh (by omega))
        have hbd' := Lib.hid hbd
        have tgt : decide ((I.size : Int) < (o.size : Int)) = false := decide_eq_false (by omega)
        have tz0 : (0 : Int) ≤ (o.size : Int) := by omega
        have tz1 : (o.size : Int) ≤ (I.size : Int) := by omega
        have tne : (o.toList == (I.extract 0 o.size).toList) = true := by rw [kex]; simp
        have tle2 : decide (I.size < o.size) = false := decide_eq_false (by omega)
        clear kh kex kle hcv hbd hb2 HN
        have hwx := hw.out
        obtain ⟨hw1, hw2⟩ := hwx
        go_wp2
        clear hw1 hw2
        go_roundw
        case rel => exact ⟨k + 1, y, I, o, by omega, by go_num, rfl, rfl, HL4.out.below ((Below.refl _ _).alloc (Nat.le_refl _) _), hnext.out, hkn.out, hbd'.out⟩
        case measure => simp [intOf]; omega
      · by_cases h3 : p0 = 3
        · have e1 := hic.out
          rw [if_neg h0] at e1
          subst e1
          have hd0 : (p0 == 0) = false := by simpa using h0
          have e2 := (hoc.out h3).symm
          subst e2
          have hd3 : (p0 == 3) = true := by simpa using h3
          rw [app_nil] at hcv kh kle kex hkn
          have hbd : i.size ≤ bytesOf (l.take (k + 1)) := by rw [hbt'.out]; have := hin'.out; omega
          have hb2 : i.size ≤ 2000 := by have := bytesOf_le l (k + 1); omega
          have hsz1 : o.size + a1.size ≤ 2000 := by rw [ByteArray.size_append] at kle; omega
          have HN := Lib.hid (And.intro hcv (And.intro kh (And.intro kle (And.intro kex (And.intro hbd hb2)))))
          clear h0 h3 hic hoc hoe hst kh kex kle hbd hb2 hcv hin'
          go_wp2_with fail
          refine (live_counts HLA.out hnext.out.ok hM1.out).mono ?_
          rintro e w4 ⟨rfl, hL4, hB4⟩
          have HL4 := Lib.hid hL4
          have hA4 := HA.out.below hB4
          have z0 : w4.cell? ⟨w3.heap.size, 0, none⟩ = some (.int .i64 a0) := (hA4.cell 0).trans rfl
          have z1 : w4.cell? ⟨w3.heap.size, 1, none⟩ = some (.string a1) := (hA4.cell 1).trans rfl
          clear hL4 hB4 hA4 HA HLA HX3 HL3
          generalize hO : o ++ a1 = O at *
          clear hO hsz1
          obtain ⟨hcv, kh, kle, kex, hbd, hb2⟩ := HN.out
          rw [hcv.out]
          have hw := Lib.hid (cnt_w O.size hd lo i.size kh (by omega))
          have hbd' := Lib.hid hbd
          have tgt : decide ((i.size : Int) < (O.size : Int)) = false := decide_eq_false (by omega)
          have tz0 : (0 : Int) ≤ (O.size : Int) := by omega
          have tz1 : (O.size : Int) ≤ (i.size : Int) := by omega
          have tne : (O.toList == (i.extract 0 O.size).toList) = true := by rw [kex]; simp
          have tle2 : decide (i.size < O.size) = false := decide_eq_false (by omega)
          clear kh kex kle hcv hbd hb2 HN
          have hwx := hw.out
          obtain ⟨hw1, hw2⟩ := hwx
          go_wp2
          clear hw1 hw2
          go_roundw
          case rel => exact ⟨k + 1, y, i, O, by omega, by go_num, rfl, rfl, HL4.out.below ((Below.refl _ _).alloc (Nat.le_refl _) _), hnext.out, hkn.out, hbd'.out⟩
          case measure => simp [intOf]; omega
        · have e1 := hic.out
          rw [if_neg h0] at e1
          subst e1
          have hd0 : (p0 == 0) = false := by simpa using h0
          have e2 := hoe.out h3
          subst e2
          have hd3 : (p0 == 3) = false := by simpa using h3
          rw [app_nil, app_nil] at hcv kh kle kex hkn
          have hbd : i.size ≤ bytesOf (l.take (k + 1)) := by rw [hbt'.out]; have := hin'.out; omega
          have hb2 : i.size ≤ 2000 := by have := bytesOf_le l (k + 1); omega
          have HN := Lib.hid (And.intro hcv (And.intro kh (And.intro kle (And.intro kex (And.intro hbd hb2)))))
          clear h0 h3 hic hoc hoe hst kh kex kle hbd hb2 hcv hin'
          go_wp2_with fail
          refine (live_counts HLA.out hnext.out.ok hM1.out).mono ?_
          rintro e w4 ⟨rfl, hL4, hB4⟩
          have HL4 := Lib.hid hL4
          have hA4 := HA.out.below hB4
          have z0 : w4.cell? ⟨w3.heap.size, 0, none⟩ = some (.int .i64 a0) := (hA4.cell 0).trans rfl
          have z1 : w4.cell? ⟨w3.heap.size, 1, none⟩ = some (.string a1) := (hA4.cell 1).trans rfl
          clear hL4 hB4 hA4 HA HLA HX3 HL3
          obtain ⟨hcv, kh, kle, kex, hbd, hb2⟩ := HN.out
          rw [hcv.out]
          have hw := Lib.hid (cnt_w o.size hd lo i.size kh (by omega))
          have hbd' := Lib.hid hbd
          have tgt : decide ((i.size : Int) < (o.size : Int)) = false := decide_eq_false (by omega)
          have tz0 : (0 : Int) ≤ (o.size : Int) := by omega
          have tz1 : (o.size : Int) ≤ (i.size : Int) := by omega
          have tne : (o.toList == (i.extract 0 o.size).toList) = true := by rw [kex]; simp
          have tle2 : decide (i.size < o.size) = false := decide_eq_false (by omega)
          clear kh kex kle hcv hbd hb2 HN
          have hwx := hw.out
          obtain ⟨hw1, hw2⟩ := hwx
          go_wp2
          clear hw1 hw2
          go_roundw
          case rel => exact ⟨k + 1, y, i, o, by omega, by go_num, rfl, rfl, HL4.out.below ((Below.refl _ _).alloc (Nat.le_refl _) _), hnext.out, hkn.out, hbd'.out⟩
          case measure => simp [intOf]; omega
    · have hk2 : k = l.length := by omega
      subst hk2
      have hnl : ¬ (l.length < l.length) := by omega
      have hL' := Lib.hid hL
      clear hL hA
      go_wp2_with (go_at_call 8; (with_reducible refine (alive_any _).mono ?_); rintro e w2 ⟨rfl, hB2⟩; have HL2 := Lib.hid (hL'.out.below hB2); clear hB2)
      go_ret
      exact ⟨by simp, bw_below B0.out HL2.out.old⟩
theorem LinkCounts_any (sv : Value) (L : List Tox) (up : Bool) (seed room : Int) (v : Value) (l : List Op) (w : World) (hs : Seats w sv L up seed room) (hv : Script w v l) :
    Calls Tryz.prog 3 #[sv, v] w fun e w' => e = .returned (.bool true) ∧ Below w.heap.size w w' := by
  obtain ⟨sa, sc, rfl, hs, h0, h1⟩ := hs
  by_cases hr : linkE L room = 0
  · cases h : fewK L.length l with
    | false => exact LinkCounts_long sa sc L up seed room v l w hs h0 h1 hv hr h
    | true => exact LinkCounts_yes sa sc L up seed room v l w hs h0 h1 hv hr h
  · exact LinkCounts_none sa sc L up seed room v l w hs h0 h1 hv hr
theorem LinkOnce_none (sa : Option Addr) (sc : Nat) (L : List Tox) (up : Bool) (seed room : Int) (v : Value) (l : List Op) (w : World) (hs : Toxs w (.slice sa L.length sc) L) (h0 : 0 ≤ seed) (h1 : seed < 18446744073709551616) (hv : Script w v l) (hr : linkE L room ≠ 0) :
    Calls Tryz.prog 4 #[.agg #[.slice sa L.length sc, .bool up, .int .u64 seed, .int .i64 room], v] w fun e w' => e = .returned (.bool true) ∧ Below w.heap.size w w' := by
  obtain ⟨w0, e0, B0, X0⟩ : ∃ w0, Hid (w.alloc (.cells #[.slice sa L.length sc, .bool up, .int .u64 seed, .int .i64 room] 25) = w0) ∧ Hid (Below w.heap.size w w0) ∧ Hid (Blk w0 w.heap.size 25 #[.slice sa L.length sc, .bool up, .int .u64 seed, .int .i64 room]) := ⟨_, Lib.hid rfl, Lib.hid ((Below.refl _ _).alloc (Nat.le_refl _) _), Lib.hid (Blk.new w _ _)⟩
  have hn := Lib.hid (bad_new up seed room 0 (hs.below B0.out) hr)
  have te : (linkE L room != 0) = true := by simpa using hr
  clear hs hr
  go_enter Tryz.func4, Tryz.ntmps4
  go_wp2_with fail
  rw [e0.out]
  refine hn.out.mono ?_
  rintro e w1 ⟨rfl, hB⟩
  have hB1 := Lib.hid (bw_below B0.out hB)
  clear hn hB
  go_wp2_with (go_at_call 8; (with_reducible refine (alive_any _).mono ?_); rintro e w2 ⟨rfl, hB2⟩; have hB2' := Lib.hid hB2; clear hB2)
  go_ret
  exact ⟨rfl, bw_below hB1.out hB2'.out⟩
theorem LinkOnce_long (sa : Option Addr) (sc : Nat) (L : List Tox) (up : Bool) (seed room : Int) (v : Value) (l : List Op) (w : World) (hs : Toxs w (.slice sa L.length sc) L) (h0 : 0 ≤ seed) (h1 : seed < 18446744073709551616) (hv : Script w v l) (hr : linkE L room = 0) (hf : fewK L.length l = false) :
    Calls Tryz.prog 4 #[.agg #[.slice sa L.length sc, .bool up, .int .u64 seed, .int .i64 room], v] w fun e w' => e = .returned (.bool true) ∧ Below w.heap.size w w' := by
  obtain ⟨w0, e0, B0, X0⟩ : ∃ w0, Hid (w.alloc (.cells #[.slice sa L.length sc, .bool up, .int .u64 seed, .int .i64 room] 25) = w0) ∧ Hid (Below w.heap.size w w0) ∧ Hid (Blk w0 w.heap.size 25 #[.slice sa L.length sc, .bool up, .int .u64 seed, .int .i64 room]) := ⟨_, Lib.hid rfl, Lib.hid ((Below.refl _ _).alloc (Nat.le_refl _) _), Lib.hid (Blk.new w _ _)⟩
  have hn := Lib.hid (live_new up seed room 0 (hs.below B0.out) hr h0 h1 (Below.refl w0.heap.size w0))
  have hmx : L.length ≤ 9223372036854775807 := by obtain ⟨_, _, _, e, _⟩ := hs; exact e
  have hv' := Lib.hid (hv.below B0.out)
  have hf' := Lib.hid hf
  clear hr hv hf hs
  go_enter Tryz.func4, Tryz.ntmps4
  go_wp2_with fail
  rw [e0.out]
  refine hn.out.mono ?_
  rintro e w1 ⟨c, rfl, hL⟩
  have hB1 := Lib.hid hL.old
  have x0 := (X0.out.below hB1.out).cell 0
  have x1 := (X0.out.below hB1.out).cell 1
  have x2 := (X0.out.below hB1.out).cell 2
  have x3 := (X0.out.below hB1.out).cell 3
  have xb := (X0.out.below hB1.out).lt
  clear hn hL
  go_wp2_with fail
  refine (few_any sa L.length sc up seed room v l _ hmx (hv'.out.below hB1.out)).mono ?_
  rintro e w2 ⟨rfl, hB⟩
  rw [hf'.out]
  have hB2 := Lib.hid (bw_below hB1.out hB)
  clear hB
  go_wp2_with (go_at_call 8; (with_reducible refine (alive_any _).mono ?_); rintro e w2 ⟨rfl, hB2⟩; have hB2' := Lib.hid hB2; clear hB2)
  go_ret
  exact ⟨rfl, bw_below B0.out (bw_below hB2.out hB2'.out)⟩
set_option maxHeartbeats 2000000 in
theorem LinkOnce_yes (sa : Option Addr) (sc : Nat) (L : List Tox) (up : Bool) (seed room : Int) (v : Value) (l : List Op) (w : World) (hs : Toxs w (.slice sa L.length sc) L) (h0 : 0 ≤ seed) (h1 : seed < 18446744073709551616) (hv : Script w v l) (hr : linkE L room = 0) (hf : fewK L.length l = true) :
    Calls Tryz.prog 4 #[.agg #[.slice sa L.length sc, .bool up, .int .u64 seed, .int .i64 room], v] w fun e w' => e = .returned (.bool true) ∧ Below w.heap.size w w' := by
  obtain ⟨w0, e0, B0, X0⟩ : ∃ w0, Hid (w.alloc (.cells #[.slice sa L.length sc, .bool up, .int .u64 seed, .int .i64 room] 25) = w0) ∧ Hid (Below w.heap.size w w0) ∧ Hid (Blk w0 w.heap.size 25 #[.slice sa L.length sc, .bool up, .int .u64 seed, .int .i64 room]) := ⟨_, Lib.hid rfl, Lib.hid ((Below.refl _ _).alloc (Nat.le_refl _) _), Lib.hid (Blk.new w _ _)⟩
  have hn := Lib.hid (live_new up seed room 0 (hs.below B0.out) hr h0 h1 (Below.refl w0.heap.size w0))
  have hmx : L.length ≤ 9223372036854775807 := by obtain ⟨_, _, _, e, _⟩ := hs; exact e
  have hok0 := Lib.hid (okJ_linkN L up seed room 0 hr h0 h1 l)
  have hv' := Lib.hid (hv.below B0.out)
  have hf' := Lib.hid hf
  have hn5 : bytesOf l ≤ 2000 := by simp [fewK] at hf; exact hf.2.2
  have hl2 : l.length ≤ 60 := by simp [fewK] at hf; exact hf.2.1
  obtain ⟨a, cap, rfl, hmx2, -, hA⟩ := hv
  have hx0 := Lib.hid (And.intro (once_linkN L up seed room 0) (kk_linkN L up seed room 0))
  generalize hK0 : linkN L up seed room 0 = K0 at *
  clear hr hf hs hK0
  go_enter Tryz.func4, Tryz.ntmps4
  go_wp2_with fail
  rw [e0.out]
  refine hn.out.mono ?_
  rintro e w1 ⟨c, rfl, hL⟩
  have H1 := Lib.hid hL
  have x0 := (X0.out.below hL.old).cell 0
  have x1 := (X0.out.below hL.old).cell 1
  have x2 := (X0.out.below hL.old).cell 2
  have x3 := (X0.out.below hL.old).cell 3
  have xb := (X0.out.below hL.old).lt
  clear hn hL
  go_wp2_with fail
  refine (few_any sa L.length sc up seed room _ l _ hmx (hv'.out.below H1.out.old)).mono ?_
  rintro e w2 ⟨rfl, hB⟩
  rw [hf'.out]
  have H2 := Lib.hid (H1.out.below hB)
  clear hB H1
  go_wp2
  go_loopw [7, 39] (fun nv iv wr => ∃ (k : Nat) (x : Lk) (i o : ByteArray) (en : Int), k ≤ l.length ∧ iv = .int .i64 k ∧ nv = .int .i64 en ∧ LiveK w0 wr c x ∧ OkJ x l k ∧ OnceI x ∧ KK x i o ∧ i.size ≤ bytesOf (l.take k) ∧ (x.done = true → en = 1) ∧ (x.done = false → en = 0)) (fun _ iv _ => l.length - (intOf iv).toNat)
  case atStart => exact ⟨0, K0, ⟨#[]⟩, ⟨#[]⟩, 0, by omega, rfl, rfl, H2.out, hok0.out, hx0.out.1.1, hx0.out.2, Nat.zero_le _, fun e => (by rw [hx0.out.1.2] at e; cases e), fun _ => rfl⟩
  case round =>
    obtain ⟨k, x, i, o, en, hk, rfl, rfl, hL, hok, hon, hkk, hin, hen1, hen0⟩ := hrel
    clear H2
    by_cases hlt : k < l.length
    · obtain ⟨g, oo, rfl, hc⟩ := hA (by intro h; subst h; simp at hlt)
      have hx : l[k]? = some l[k] := List.getElem?_eq_getElem hlt
      obtain ⟨d0, d1, d2, d3, d4, d5, d6, d7, d8, d9⟩ := hc k _ hx
      have hbt := bytes_s l k _ hx
      have hble := bytesOf_le l (k + 1)
      rw [hbt] at hble
      have hbt' := Lib.hid hbt
      have hnext := Lib.hid (hok.next hx hn5 hl2)
      clear hbt
      generalize l[k] = p at *
      obtain ⟨p0, p1, p2, p3, ⟨t0, t1, t2, t3, t4, t5⟩⟩ := p
      dsimp only at *
      have hold := hL.old
      have d0' := bcells (bw_below B0.out hold) d0
      have d1' := bcells (bw_below B0.out hold) d1
      have d2' := bcells (bw_below B0.out hold) d2
      have d3' := bcells (bw_below B0.out hold) d3
      have d4' := bcells (bw_below B0.out hold) d4
      have d5' := bcells (bw_below B0.out hold) d5
      have d6' := bcells (bw_below B0.out hold) d6
      have d7' := bcells (bw_below B0.out hold) d7
      have d8' := bcells (bw_below B0.out hold) d8
      have d9' := bcells (bw_below B0.out hold) d9
      have hL' := Lib.hid hL
      have hok' := Lib.hid hok.ok
      have hszw : w.heap.size ≤ wr.heap.size := Nat.le_trans B0.out.size hold.size
      have hM0 : (bytesOf (l.take k) : Int) + p3.size ≤ 1000000 := by omega
      have hQ0 : (60000 * k : Int) ≤ 100000000 := by omega
      have hse0 : x.sent ≤ 1000000 := by have := hkk.sent; have := bytesOf_le l k; omega
      have hge0 : x.got ≤ 1000000 := by have h1 := hkk.got; have := (keep_pre hkk.km.1).1; have := bytesOf_le l k; omega
      have hkn := Lib.hid (hkk.does ⟨p0, p1, p2, p3, ⟨t0, t1, t2, t3, t4, t5⟩⟩)
      have hil := inK_le x ⟨p0, p1, p2, p3, ⟨t0, t1, t2, t3, t4, t5⟩⟩
      have hinn := Lib.hid (show (i ++ inK x ⟨p0, p1, p2, p3, ⟨t0, t1, t2, t3, t4, t5⟩⟩).size ≤ bytesOf (l.take (k + 1)) by rw [hbt'.out, ByteArray.size_append]; dsimp only at hil; omega)
      have hon' := Lib.hid (hon.does ⟨p0, p1, p2, p3, ⟨t0, t1, t2, t3, t4, t5⟩⟩)
      have hsay := Lib.hid (once_say hon ⟨p0, p1, p2, p3, ⟨t0, t1, t2, t3, t4, t5⟩⟩)
      obtain ⟨was, hwas⟩ : ∃ was, Hid (x.done = was) := ⟨_, Lib.hid rfl⟩
      have hen := Lib.hid (And.intro hen1 hen0)
      rw [hwas.out] at hsay hen
      have hBx : Below wr.heap.size wr (wr.alloc (.cells #[.int .i64 p0, .int .i64 p1, .int .i64 p2, .string p3, .string t0, .int .i64 t1, .bool t2, .int .i64 t3, .int .i64 t4, .int .i64 t5] 36)) := (Below.refl _ _).alloc (Nat.le_refl _) _
      have hLd := Lib.hid (live_done (hL'.out.below hBx))
      rw [hwas.out] at hLd
      clear hc hx hA hon hkk hin hil hold hL hok hwas hen1 hen0 hBx d0 d1 d2 d3 d4 d5 d6 d7 d8 d9
      go_wp2_with fail
      refine hLd.out.mono ?_
      rintro e w5 ⟨rfl, rfl⟩
      clear hLd
      go_wp2_with fail
      have hBx : Below wr.heap.size wr (wr.alloc (.cells #[.int .i64 p0, .int .i64 p1, .int .i64 p2, .string p3, .string t0, .int .i64 t1, .bool t2, .int .i64 t3, .int .i64 t4, .int .i64 t5] 36)) := (Below.refl _ _).alloc (Nat.le_refl _) _
      refine (live_does (hL'.out.below hBx) hok'.out ⟨p0, p1, p2, p3, ⟨t0, t1, t2, t3, t4, t5⟩⟩ hM0 hQ0 hse0 hge0).mono ?_
      rintro e w3 ⟨rfl, hL3, hK3⟩
      have HX3 := Lib.hid (hK3 _ _ _ (Blk.new wr 36 #[.int .i64 p0, .int .i64 p1, .int .i64 p2, .string p3, .string t0, .int .i64 t1, .bool t2, .int .i64 t3, .int .i64 t4, .int .i64 t5]) (by decide))
      have HL3 := Lib.hid hL3
      clear hL3 hK3 hBx hL'
      try dsimp only at hkn hsay
      generalize doesK x ⟨p0, p1, p2, p3, ⟨t0, t1, t2, t3, t4, t5⟩⟩ = y at *
      generalize doesA x ⟨p0, p1, p2, p3, ⟨t0, t1, t2, t3, t4, t5⟩⟩ = an at *
      generalize inK x ⟨p0, p1, p2, p3, ⟨t0, t1, t2, t3, t4, t5⟩⟩ = ic at *
      generalize outK x ⟨p0, p1, p2, p3, ⟨t0, t1, t2, t3, t4, t5⟩⟩ = oc at *
      obtain ⟨a0, a1, a2⟩ := an
      dsimp only at *
      have r0 : w3.cell? ⟨wr.heap.size, 0, none⟩ = some (.int .i64 p0) := (HX3.out.cell 0).trans rfl
      have hwz : wr.heap.size < w3.heap.size := HX3.out.lt
      have HLA := Lib.hid (HL3.out.below ((Below.refl w3.heap.size w3).alloc (Nat.le_refl _) (.cells #[.int .i64 a0, .string a1, .int .i64 a2] 38)))
      clear hok'
      obtain ⟨hs1, hs2, hs3⟩ := hsay.out
      obtain ⟨hen1, hen0⟩ := hen.out
      clear hsay hen
      cases was with
      | true =>
        obtain ⟨e1, hyd, e2, e3⟩ := hs1 rfl
        subst e1
        obtain rfl := hen1 rfl
        by_cases k0 : p0 = 0
        · have hd0 : (p0 == 0) = true := by simpa using k0
          have hd3 : (p0 == 3) = false := by simp; omega
          obtain rfl := e2 k0
          clear k0 e2 e3
          clear hs1 hs2 hs3 hen1 hen0
          go_wp2_with (go_at_call 11; (with_reducible refine (live_done HLA.out).mono ?_); rintro e w5 ⟨rfl, rfl⟩; rw [hyd])
          go_roundw
          case rel => exact ⟨k + 1, y, _, _, 1, by omega, by go_num, rfl, HLA.out, hnext.out, hon'.out, hkn.out, hinn.out, fun e => rfl, fun e => (by rw [hyd] at e; cases e)⟩
          case measure => simp [intOf]; omega
        · by_cases k3 : p0 = 3
          · have hd0 : (p0 == 0) = false := by simpa using k0
            have hd3 : (p0 == 3) = true := by simpa using k3
            obtain rfl := e3 k3
            clear k0 k3 e2 e3
            clear hs1 hs2 hs3 hen1 hen0
            go_wp2_with (go_at_call 11; (with_reducible refine (live_done HLA.out).mono ?_); rintro e w5 ⟨rfl, rfl⟩; rw [hyd])
            go_roundw
            case rel => exact ⟨k + 1, y, _, _, 1, by omega, by go_num, rfl, HLA.out, hnext.out, hon'.out, hkn.out, hinn.out, fun e => rfl, fun e => (by rw [hyd] at e; cases e)⟩
            case measure => simp [intOf]; omega
          · have hd0 : (p0 == 0) = false := by simpa using k0
            have hd3 : (p0 == 3) = false := by simpa using k3
            clear k0 k3 e2 e3
            clear hs1 hs2 hs3 hen1 hen0
            go_wp2_with (go_at_call 11; (with_reducible refine (live_done HLA.out).mono ?_); rintro e w5 ⟨rfl, rfl⟩; rw [hyd])
            go_roundw
            case rel => exact ⟨k + 1, y, _, _, 1, by omega, by go_num, rfl, HLA.out, hnext.out, hon'.out, hkn.out, hinn.out, fun e => rfl, fun e => (by rw [hyd] at e; cases e)⟩
            case measure => simp [intOf]; omega
      | false =>
        obtain rfl := hen0 rfl
        by_cases k3 : p0 = 3
        · by_cases ha : a0 = 0
          · have hyd : y.done = false := by rw [hs2 rfl k3, ha]; rfl
            subst ha
            have hd3 : (p0 == 3) = true := by simpa using k3
            clear k3
            clear hs1 hs2 hs3 hen1 hen0
            go_wp2_with (go_at_call 11; (with_reducible refine (live_done HLA.out).mono ?_); rintro e w5 ⟨rfl, rfl⟩; rw [hyd])
            go_roundw
            case rel => exact ⟨k + 1, y, _, _, 0, by omega, by go_num, rfl, HLA.out, hnext.out, hon'.out, hkn.out, hinn.out, fun e => (by rw [hyd] at e; cases e), fun e => rfl⟩
            case measure => simp [intOf]; omega
          · have hyd : y.done = true := by rw [hs2 rfl k3]; simpa using ha
            have hane : (a0 != 0) = true := by simpa using ha
            have hd3 : (p0 == 3) = true := by simpa using k3
            clear k3 ha
            clear hs1 hs2 hs3 hen1 hen0
            go_wp2_with (go_at_call 11; (with_reducible refine (live_done HLA.out).mono ?_); rintro e w5 ⟨rfl, rfl⟩; rw [hyd])
            go_roundw
            case rel => exact ⟨k + 1, y, _, _, 1, by omega, by go_num, rfl, HLA.out, hnext.out, hon'.out, hkn.out, hinn.out, fun e => rfl, fun e => (by rw [hyd] at e; cases e)⟩
            case measure => simp [intOf]; omega
        · have hyd : y.done = false := hs3 k3
          have hd3 : (p0 == 3) = false := by simpa using k3
          clear k3
          clear hs1 hs2 hs3 hen1 hen0
          go_wp2_with (go_at_call 11; (with_reducible refine (live_done HLA.out).mono ?_); rintro e w5 ⟨rfl, rfl⟩; rw [hyd])
          go_roundw
          case rel => exact ⟨k + 1, y, _, _, 0, by omega, by go_num, rfl, HLA.out, hnext.out, hon'.out, hkn.out, hinn.out, fun e => (by rw [hyd] at e; cases e), fun e => rfl⟩
          case measure => simp [intOf]; omega
    · have hk2 : k = l.length := by omega
      subst hk2
      have hnl : ¬ (l.length < l.length) := by omega
      have hL' := Lib.hid hL
      clear hL hA
      go_wp2_with (go_at_call 8; (with_reducible refine (alive_any _).mono ?_); rintro e w2 ⟨rfl, hB2⟩; have HL2 := Lib.hid (hL'.out.below hB2); clear hB2)
      go_ret
      exact ⟨by simp, bw_below B0.out HL2.out.old⟩
theorem LinkOnce_any (sv : Value) (L : List Tox) (up : Bool) (seed room : Int) (v : Value) (l : List Op) (w : World) (hs : Seats w sv L up seed room) (hv : Script w v l) :
    Calls Tryz.prog 4 #[sv, v] w fun e w' => e = .returned (.bool true) ∧ Below w.heap.size w w' := by
  obtain ⟨sa, sc, rfl, hs, h0, h1⟩ := hs
  by_cases hr : linkE L room = 0
  · cases h : fewK L.length l with
    | false => exact LinkOnce_long sa sc L up seed room v l w hs h0 h1 hv hr h
    | true => exact LinkOnce_yes sa sc L up seed room v l w hs h0 h1 hv hr h
  · exact LinkOnce_none sa sc L up seed room v l w hs h0 h1 hv hr
end Go.Proofs.YtoiibmcbjjnpbaaGreat.Link
