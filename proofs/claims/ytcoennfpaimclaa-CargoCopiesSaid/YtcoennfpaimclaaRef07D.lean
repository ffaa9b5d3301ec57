/- The reference's cargo (chapter 07): Take. Conditions: the bytes are fewer than 2^39. -/
import Derived.Test.YtcoennfpaimclaaRef07C
namespace Go.Proofs.Ytcoennfpaimclaa.Ref07
open Go.RowKit Mem Tick Cargo
open Go.Proofs.YtcoennfpaimclaaW.PrintLast
open Go.Proofs.YtcoennfpaimclaaW.PrintWords (cut_from)
set_option maxRecDepth 100000
set_option linter.unusedVariables false
set_option linter.unusedSimpArgs false
def takeM (now most : Int) (ts : List Int) : Nat := (min (cnt now ts : Int) (max most 0)).toNat

theorem take_all (w : World) (S : ByteArray) (A : Option Addr) (c : Nat) (ts : List Int) (last now most : Int) (hi : IR w A ts) (hs : S.size = ts.length) (hz : ts.length ≤ 1000000000000) (hcc : ts.length ≤ c) (m : Nat) (hm : takeM now most ts = m) (h1 : (cnt now ts : Int) ≤ most) :
    Calls Try.prog 31 #[cg S A ts.length c last, .int .i64 now, .int .i64 most] w fun e w' => ∃ v, e = .returned (.tuple #[v, .string (S.extract 0 m)]) ∧ RefIs w' v (S.extract m S.size) (ts.drop m) last ∧ Below w.heap.size w w' := by
  have hcl := cnt_le now ts
  have hml : m ≤ ts.length := by rw [← hm]; unfold takeM; omega
  have hmc : cnt now ts = m := by rw [← hm]; unfold takeM; omega
  rw [hmc] at hcl h1
  have hmc2 := Lib.hid hmc
  clear hmc
  have hS := Lib.hid hs
  have hi0 := Lib.hid hi
  have hcc' := Lib.hid hcc
  unfold cg
  clear hi hs hcc hm
  go_enter Try.func31, Try.ntmps31
  go_wp2_with fail
  obtain ⟨W0, hW⟩ : ∃ W, W = (w.alloc (.cells #[.string S, .slice A ts.length c, .int .i64 last] 47)).alloc (.cells #[.string ⟨#[]⟩, .slice none 0 0, .int .i64 0] 47) := ⟨_, rfl⟩
  rw [← hW]
  have hB : Below w.heap.size w W0 := by rw [hW]; exact ((Below.refl _ _).alloc (Nat.le_refl _) _).alloc (by simp) _
  have hbx : Blk W0 w.heap.size 47 #[.string S, .slice A ts.length c, .int .i64 last] := by rw [hW]; exact (Blk.new w _ _).below ((Below.refl _ _).alloc (Nat.le_refl _) _)
  have hrs : Blk W0 (w.heap.size + 1) 47 #[.string ⟨#[]⟩, .slice none 0 0, .int .i64 0] := by
    rw [hW]
    have := Blk.new (w.alloc (.cells #[.string S, .slice A ts.length c, .int .i64 last] 47)) 47 #[.string ⟨#[]⟩, .slice none 0 0, .int .i64 0]
    simpa using this
  clear hW
  refine (ready_any W0 S A c ts last now (hi0.out.below hB) hS.out hz).mono ?_
  rintro e W ⟨rfl, hBW⟩
  have c0 : W.cell? ⟨w.heap.size, 0, none⟩ = some (.string S) := ((hbx.below hBW).cell 0).trans rfl
  have c1 : W.cell? ⟨w.heap.size, 1, none⟩ = some (.slice A ts.length c) := ((hbx.below hBW).cell 1).trans rfl
  have c2 : W.cell? ⟨w.heap.size, 2, none⟩ = some (.int .i64 last) := ((hbx.below hBW).cell 2).trans rfl
  have hrr := Lib.hid (hrs.below hBW)
  have hbb := Lib.hid (show Blk W.drew w.heap.size 47 #[.string S, .slice A ts.length c, .int .i64 last] from (hbx.below hBW : Blk W _ _ _))
  have z0 : W.cell? ⟨w.heap.size + 1, 0, none⟩ = some (.string ⟨#[]⟩) := (hrr.out.cell 0).trans rfl
  have z1 : W.cell? ⟨w.heap.size + 1, 1, none⟩ = some (.slice none 0 0) := (hrr.out.cell 1).trans rfl
  have z2 : W.cell? ⟨w.heap.size + 1, 2, none⟩ = some (.int .i64 0) := (hrr.out.cell 2).trans rfl
  have y0 := hrr.out.free 0
  have y1 := hrr.out.free 1
  have y2 := hrr.out.free 2
  have hQ := Lib.hid (hB.trans (hBW.mono hB.size))
  clear hB hbx hrs hBW
  rw [hmc2.out]
  have hd : decide (most < (m : Int)) = false := decide_eq_false (by omega)
  obtain ⟨A', hA'⟩ : ∃ A', (if c = m then A else A.map (·.add m)) = A' := ⟨_, rfl⟩
  obtain ⟨i1, hi1, _, hs1, _⟩ := info_parts info_int
  have hcut : ∀ W : World, (Instr.slice 45 (.slice A ts.length c) (some (.int .i64 (m : Int))) none none).run Try.prog W = .ok (.slice A' (ts.length - m) (c - m)) W := by
    intro W
    have := cut_from (P := Try.prog) 45 3 .i64 Try.underlying45 hi1 1 hs1 A ts.length c (m : Int) (by omega) (by omega) W
    rw [this, ← hA']
    simp
  have hA2 := Lib.hid hA'
  have hSl : (S.size : Int) = ts.length := by have := hS.out; omega
  have hSm : m ≤ S.size := by have := hS.out; omega
  have hSm' : (m : Int) ≤ S.size := by omega
  have hm0 : (0 : Int) ≤ (m : Int) := by omega
  have hSl' := Lib.hid hSl
  clear hA' hi1 hs1 hSl
  go_wp2
  refine start_ (n := 17) (S := fun w' => w'.cell? ⟨w.heap.size, 0, none⟩ = some (.string S) ∧ w'.cell? ⟨w.heap.size, 1, none⟩ = some (.slice A ts.length c) ∧ w'.cell? ⟨w.heap.size, 2, none⟩ = some (.int .i64 last)) (ds := []) #[false, false, false, false, false, false, false, false, false, false, false, false, false, false, false, false, false] (by kernel_rfl) rfl rfl ⟨c0, c1, c2⟩ (fun hHeld => ?_)
  refine pure_ (i := 0) (N := some 18) (v := ?_) (a' := ?_) #[true, false, false, false, false, false, false, false, false, false, false, false, false, false, false, false, false] rfl rfl (by kernel_rfl) (fun _ _ _ h => h) (Or.inl ⟨by rfl, ?_⟩) ?_ ?_
  rotate_left
  · intro w'
    go_simp
    with_reducible rfl
  rotate_left
  · simp only [Act.put, List.setIfInBounds_toArray, List.set_cons_zero, List.set_cons_succ, i64_w, i32_w]
    rfl
  refine pure_ (i := 2) (N := some 20) (v := ?_) (a' := ?_) #[true, false, true, false, false, false, false, false, false, false, false, false, false, false, false, false, false] rfl rfl (by kernel_rfl) (fun _ _ _ h => h) (Or.inl ⟨by rfl, ?_⟩) ?_ ?_
  rotate_left
  · intro w'
    go_simp
    with_reducible rfl
  rotate_left
  · simp only [Act.put, List.setIfInBounds_toArray, List.set_cons_zero, List.set_cons_succ, i64_w, i32_w]
    rfl
  refine pure_ (i := 4) (N := some 22) (v := ?_) (a' := ?_) #[true, false, true, false, true, false, false, false, false, false, false, false, false, false, false, false, false] rfl rfl (by kernel_rfl) (fun _ _ _ h => h) (Or.inl ⟨by rfl, ?_⟩) ?_ ?_
  rotate_left
  · intro w'
    go_simp
    with_reducible rfl
  rotate_left
  · simp only [Act.put, List.setIfInBounds_toArray, List.set_cons_zero, List.set_cons_succ, i64_w, i32_w]
    rfl
  refine pure_ (i := 6) (N := some 24) (v := ?_) (a' := ?_) #[true, false, true, false, true, false, true, false, false, false, false, false, false, false, false, false, false] rfl rfl (by kernel_rfl) (fun _ _ _ h => h) (Or.inl ⟨by rfl, ?_⟩) ?_ ?_
  rotate_left
  · intro w'
    go_simp
    with_reducible rfl
  rotate_left
  · simp only [Act.put, List.setIfInBounds_toArray, List.set_cons_zero, List.set_cons_succ, i64_w, i32_w]
    rfl
  refine pure_ (i := 8) (N := some 26) (v := ?_) (a' := ?_) #[true, false, true, false, true, false, true, false, true, false, false, false, false, false, false, false, false] rfl rfl (by kernel_rfl) (fun _ _ _ h => h) (Or.inl ⟨by rfl, ?_⟩) ?_ ?_
  rotate_left
  · intro w'
    go_simp
    with_reducible rfl
  rotate_left
  · simp only [Act.put, List.setIfInBounds_toArray, List.set_cons_zero, List.set_cons_succ, i64_w, i32_w]
    rfl
  refine pure_ (i := 11) (N := some 29) (v := ?_) (a' := ?_) #[true, false, true, false, true, false, true, false, true, false, false, true, false, false, false, false, false] rfl rfl (by kernel_rfl) (fun _ _ _ h => h) (Or.inl ⟨by rfl, ?_⟩) ?_ ?_
  rotate_left
  · intro w'
    go_simp
    with_reducible rfl
  rotate_left
  · simp only [Act.put, List.setIfInBounds_toArray, List.set_cons_zero, List.set_cons_succ, i64_w, i32_w]
    rfl
  refine pure_ (i := 13) (N := some 31) (v := ?_) (a' := ?_) #[true, false, true, false, true, false, true, false, true, false, false, true, false, true, false, false, false] rfl rfl (by kernel_rfl) (fun _ _ _ h => h) (Or.inl ⟨by rfl, ?_⟩) ?_ ?_
  rotate_left
  · intro w'
    go_simp
    with_reducible rfl
  rotate_left
  · simp only [Act.put, List.setIfInBounds_toArray, List.set_cons_zero, List.set_cons_succ, i64_w, i32_w]
    rfl
  refine take_ (i := 1) (N := some 19) (v := ?_) (a' := ?_) #[true, true, true, false, true, false, true, false, true, false, false, true, false, true, false, false, false] rfl rfl (by kernel_rfl) (fun _ _ _ h => h) (Or.inl ⟨by rfl, ?_⟩) hHeld ?_ ?_
  rotate_left
  · rintro w' ⟨s0, s1, s2⟩
    go_simp
    with_reducible rfl
  rotate_left
  · simp only [Act.put, List.setIfInBounds_toArray, List.set_cons_zero, List.set_cons_succ, i64_w, i32_w]
    rfl
  refine pure_ (i := 3) (N := some 21) (v := ?_) (a' := ?_) #[true, true, true, true, true, false, true, false, true, false, false, true, false, true, false, false, false] rfl rfl (by kernel_rfl) (fun _ _ _ h => h) (Or.inl ⟨by rfl, ?_⟩) ?_ ?_
  rotate_left
  · intro w'
    go_simp
    with_reducible rfl
  rotate_left
  · simp only [Act.put, List.setIfInBounds_toArray, List.set_cons_zero, List.set_cons_succ, i64_w, i32_w]
    rfl
  refine take_ (i := 5) (N := some 23) (v := ?_) (a' := ?_) #[true, true, true, true, true, true, true, false, true, false, false, true, false, true, false, false, false] rfl rfl (by kernel_rfl) (fun _ _ _ h => h) (Or.inl ⟨by rfl, ?_⟩) hHeld ?_ ?_
  rotate_left
  · rintro w' ⟨s0, s1, s2⟩
    go_simp
    with_reducible rfl
  rotate_left
  · simp only [Act.put, List.setIfInBounds_toArray, List.set_cons_zero, List.set_cons_succ, i64_w, i32_w]
    rfl
  refine pure_ (i := 7) (N := some 25) (v := ?_) (a' := ?_) #[true, true, true, true, true, true, true, true, true, false, false, true, false, true, false, false, false] rfl rfl (by kernel_rfl) (fun _ _ _ h => h) (Or.inl ⟨by rfl, ?_⟩) ?_ ?_
  rotate_left
  · intro w'
    go_simp
    with_reducible rfl
  rotate_left
  · simp only [Act.put, List.setIfInBounds_toArray, List.set_cons_zero, List.set_cons_succ, i64_w, i32_w]
    rfl
  refine take_ (i := 9) (N := some 27) (v := ?_) (a' := ?_) #[true, true, true, true, true, true, true, true, true, true, false, true, false, true, false, false, false] rfl rfl (by kernel_rfl) (fun _ _ _ h => h) (Or.inl ⟨by rfl, ?_⟩) hHeld ?_ ?_
  rotate_left
  · rintro w' ⟨s0, s1, s2⟩
    go_simp
    with_reducible rfl
  rotate_left
  · simp only [Act.put, List.setIfInBounds_toArray, List.set_cons_zero, List.set_cons_succ, i64_w, i32_w]
    rfl
  refine pure_ (i := 10) (N := some 28) (v := ?_) (a' := ?_) #[true, true, true, true, true, true, true, true, true, true, true, true, false, true, false, false, false] rfl rfl (by kernel_rfl) (fun _ _ _ h => h) (Or.inl ⟨by rfl, ?_⟩) ?_ ?_
  rotate_left
  · intro w'
    go_simp
    with_reducible rfl
  rotate_left
  · simp only [Act.put, List.setIfInBounds_toArray, List.set_cons_zero, List.set_cons_succ, i64_w, i32_w]
    rfl
  refine take_ (i := 12) (N := some 30) (v := ?_) (a' := ?_) #[true, true, true, true, true, true, true, true, true, true, true, true, true, true, false, false, false] rfl rfl (by kernel_rfl) (fun _ _ _ h => h) (Or.inl ⟨by rfl, ?_⟩) hHeld ?_ ?_
  rotate_left
  · rintro w' ⟨s0, s1, s2⟩
    go_simp
    with_reducible rfl
  rotate_left
  · simp only [Act.put, List.setIfInBounds_toArray, List.set_cons_zero, List.set_cons_succ, i64_w, i32_w]
    rfl
  refine pure_ (i := 14) (N := some 32) (v := ?_) (a' := ?_) #[true, true, true, true, true, true, true, true, true, true, true, true, true, true, true, false, false] rfl rfl (by kernel_rfl) (fun _ _ _ h => h) (Or.inl ⟨by rfl, ?_⟩) ?_ ?_
  rotate_left
  · intro w'
    go_simp
    with_reducible rfl
  rotate_left
  · simp only [Act.put, List.setIfInBounds_toArray, List.set_cons_zero, List.set_cons_succ, i64_w, i32_w]
    rfl
  refine one_ (i := 15) (N := none) #[true, true, true, true, true, true, true, true, true, true, true, true, true, true, true, true, false] rfl rfl (by kernel_rfl) (by decide) (fun K hK => ?_)
  refine skip_ (w1 := ?_) (by rfl) rfl ?_ ?_
  rotate_left
  · go_simp
    rfl
  refine hK.out _ _ ⟨((((hbb.out.far (p := ⟨w.heap.size + 1, 0, none⟩) (by show w.heap.size ≠ w.heap.size + 1; omega) _).far (p := ⟨w.heap.size + 1, 1, none⟩) (by show w.heap.size ≠ w.heap.size + 1; omega) _).far (p := ⟨w.heap.size + 1, 2, none⟩) (by show w.heap.size ≠ w.heap.size + 1; omega) _).cell 0).trans rfl, ((((hbb.out.far (p := ⟨w.heap.size + 1, 0, none⟩) (by show w.heap.size ≠ w.heap.size + 1; omega) _).far (p := ⟨w.heap.size + 1, 1, none⟩) (by show w.heap.size ≠ w.heap.size + 1; omega) _).far (p := ⟨w.heap.size + 1, 2, none⟩) (by show w.heap.size ≠ w.heap.size + 1; omega) _).cell 1).trans rfl, ((((hbb.out.far (p := ⟨w.heap.size + 1, 0, none⟩) (by show w.heap.size ≠ w.heap.size + 1; omega) _).far (p := ⟨w.heap.size + 1, 1, none⟩) (by show w.heap.size ≠ w.heap.size + 1; omega) _).far (p := ⟨w.heap.size + 1, 2, none⟩) (by show w.heap.size ≠ w.heap.size + 1; omega) _).cell 2).trans rfl⟩ (fun hHeld => ?_)
  clear hK K
  refine pure_ (i := 16) (N := some 7) (v := ?_) (a' := ?_) #[true, true, true, true, true, true, true, true, true, true, true, true, true, true, true, true, true] rfl rfl (by kernel_rfl) (fun _ _ _ h => h) (Or.inl ⟨by rfl, ?_⟩) ?_ ?_
  rotate_left
  · intro w'
    go_simp
    with_reducible rfl
  rotate_left
  · simp only [Act.put, List.setIfInBounds_toArray, List.set_cons_zero, List.set_cons_succ, i64_w, i32_w]
    rfl
  refine done_ (by kernel_rfl) ?_
  have r := blk3_set (x := .string (S.extract m S.size)) (y := .slice A' (ts.length - m) (c - m)) (z := .int .i64 last) hrr.out
  have r0 := (r.cell 0).trans rfl
  have r1 := (r.cell 1).trans rfl
  have r2 := (r.cell 2).trans rfl
  simp only [List.getElem?_toArray, List.getElem?_cons_zero, List.getElem?_cons_succ] at r0 r1 r2
  have hB3 := below3_set (x := .string (S.extract m S.size)) (y := .slice A' (ts.length - m) (c - m)) (z := .int .i64 last) hQ.out (Nat.le_succ w.heap.size)
  go_wp2
  have hI := hi0.out.below hB3.drew
  have hD := hI.drop m c hml hcc'.out
  rw [hA2.out] at hD
  refine bodyPost_ret (v := .tuple #[cg (S.extract m S.size) A' (ts.length - m) (c - m) last, .string (S.extract 0 m)]) (by simp [results, Try.results31, go_sem, r0, r1, r2, cg]) rfl ⟨_, rfl, ⟨A', c - m, by rw [List.length_drop], hD, by rw [List.length_drop]; have := hcc'.out; omega⟩, hB3.drew⟩

theorem take_some (w : World) (S : ByteArray) (A : Option Addr) (c : Nat) (ts : List Int) (last now most : Int) (hi : IR w A ts) (hs : S.size = ts.length) (hz : ts.length ≤ 1000000000000) (hcc : ts.length ≤ c) (m : Nat) (hm : takeM now most ts = m) (h1 : most < (cnt now ts : Int)) (h2 : 0 ≤ most) :
    Calls Try.prog 31 #[cg S A ts.length c last, .int .i64 now, .int .i64 most] w fun e w' => ∃ v, e = .returned (.tuple #[v, .string (S.extract 0 m)]) ∧ RefIs w' v (S.extract m S.size) (ts.drop m) last ∧ Below w.heap.size w w' := by
  have hcl := cnt_le now ts
  have hml : m ≤ ts.length := by rw [← hm]; unfold takeM; omega
  have hmc : most = (m : Int) := by rw [← hm]; unfold takeM; omega
  subst hmc
  have hS := Lib.hid hs
  have hi0 := Lib.hid hi
  have hcc' := Lib.hid hcc
  unfold cg
  clear hi hs hcc hm
  go_enter Try.func31, Try.ntmps31
  go_wp2_with fail
  obtain ⟨W0, hW⟩ : ∃ W, W = (w.alloc (.cells #[.string S, .slice A ts.length c, .int .i64 last] 47)).alloc (.cells #[.string ⟨#[]⟩, .slice none 0 0, .int .i64 0] 47) := ⟨_, rfl⟩
  rw [← hW]
  have hB : Below w.heap.size w W0 := by rw [hW]; exact ((Below.refl _ _).alloc (Nat.le_refl _) _).alloc (by simp) _
  have hbx : Blk W0 w.heap.size 47 #[.string S, .slice A ts.length c, .int .i64 last] := by rw [hW]; exact (Blk.new w _ _).below ((Below.refl _ _).alloc (Nat.le_refl _) _)
  have hrs : Blk W0 (w.heap.size + 1) 47 #[.string ⟨#[]⟩, .slice none 0 0, .int .i64 0] := by
    rw [hW]
    have := Blk.new (w.alloc (.cells #[.string S, .slice A ts.length c, .int .i64 last] 47)) 47 #[.string ⟨#[]⟩, .slice none 0 0, .int .i64 0]
    simpa using this
  clear hW
  refine (ready_any W0 S A c ts last now (hi0.out.below hB) hS.out hz).mono ?_
  rintro e W ⟨rfl, hBW⟩
  have c0 : W.cell? ⟨w.heap.size, 0, none⟩ = some (.string S) := ((hbx.below hBW).cell 0).trans rfl
  have c1 : W.cell? ⟨w.heap.size, 1, none⟩ = some (.slice A ts.length c) := ((hbx.below hBW).cell 1).trans rfl
  have c2 : W.cell? ⟨w.heap.size, 2, none⟩ = some (.int .i64 last) := ((hbx.below hBW).cell 2).trans rfl
  have hrr := Lib.hid (hrs.below hBW)
  have hbb := Lib.hid (show Blk W.drew w.heap.size 47 #[.string S, .slice A ts.length c, .int .i64 last] from (hbx.below hBW : Blk W _ _ _))
  have z0 : W.cell? ⟨w.heap.size + 1, 0, none⟩ = some (.string ⟨#[]⟩) := (hrr.out.cell 0).trans rfl
  have z1 : W.cell? ⟨w.heap.size + 1, 1, none⟩ = some (.slice none 0 0) := (hrr.out.cell 1).trans rfl
  have z2 : W.cell? ⟨w.heap.size + 1, 2, none⟩ = some (.int .i64 0) := (hrr.out.cell 2).trans rfl
  have y0 := hrr.out.free 0
  have y1 := hrr.out.free 1
  have y2 := hrr.out.free 2
  have hQ := Lib.hid (hB.trans (hBW.mono hB.size))
  clear hB hbx hrs hBW
  generalize cnt now ts = n at *
  have hd : decide ((m : Int) < (n : Int)) = true := decide_eq_true (by omega)
  have hd2 : decide ((m : Int) < 0) = false := decide_eq_false (by omega)
  obtain ⟨A', hA'⟩ : ∃ A', (if c = m then A else A.map (·.add m)) = A' := ⟨_, rfl⟩
  obtain ⟨i1, hi1, _, hs1, _⟩ := info_parts info_int
  have hcut : ∀ W : World, (Instr.slice 45 (.slice A ts.length c) (some (.int .i64 (m : Int))) none none).run Try.prog W = .ok (.slice A' (ts.length - m) (c - m)) W := by
    intro W
    have := cut_from (P := Try.prog) 45 3 .i64 Try.underlying45 hi1 1 hs1 A ts.length c (m : Int) (by omega) (by omega) W
    rw [this, ← hA']
    simp
  have hA2 := Lib.hid hA'
  have hSl : (S.size : Int) = ts.length := by have := hS.out; omega
  have hSm : m ≤ S.size := by have := hS.out; omega
  have hSm' : (m : Int) ≤ S.size := by omega
  have hm0 : (0 : Int) ≤ (m : Int) := by omega
  have hSl' := Lib.hid hSl
  clear hA' hi1 hs1 hSl
  go_wp2
  refine start_ (n := 17) (S := fun w' => w'.cell? ⟨w.heap.size, 0, none⟩ = some (.string S) ∧ w'.cell? ⟨w.heap.size, 1, none⟩ = some (.slice A ts.length c) ∧ w'.cell? ⟨w.heap.size, 2, none⟩ = some (.int .i64 last)) (ds := []) #[false, false, false, false, false, false, false, false, false, false, false, false, false, false, false, false, false] (by kernel_rfl) rfl rfl ⟨c0, c1, c2⟩ (fun hHeld => ?_)
  refine pure_ (i := 0) (N := some 18) (v := ?_) (a' := ?_) #[true, false, false, false, false, false, false, false, false, false, false, false, false, false, false, false, false] rfl rfl (by kernel_rfl) (fun _ _ _ h => h) (Or.inl ⟨by rfl, ?_⟩) ?_ ?_
  rotate_left
  · intro w'
    go_simp
    with_reducible rfl
  rotate_left
  · simp only [Act.put, List.setIfInBounds_toArray, List.set_cons_zero, List.set_cons_succ, i64_w, i32_w]
    rfl
  refine pure_ (i := 2) (N := some 20) (v := ?_) (a' := ?_) #[true, false, true, false, false, false, false, false, false, false, false, false, false, false, false, false, false] rfl rfl (by kernel_rfl) (fun _ _ _ h => h) (Or.inl ⟨by rfl, ?_⟩) ?_ ?_
  rotate_left
  · intro w'
    go_simp
    with_reducible rfl
  rotate_left
  · simp only [Act.put, List.setIfInBounds_toArray, List.set_cons_zero, List.set_cons_succ, i64_w, i32_w]
    rfl
  refine pure_ (i := 4) (N := some 22) (v := ?_) (a' := ?_) #[true, false, true, false, true, false, false, false, false, false, false, false, false, false, false, false, false] rfl rfl (by kernel_rfl) (fun _ _ _ h => h) (Or.inl ⟨by rfl, ?_⟩) ?_ ?_
  rotate_left
  · intro w'
    go_simp
    with_reducible rfl
  rotate_left
  · simp only [Act.put, List.setIfInBounds_toArray, List.set_cons_zero, List.set_cons_succ, i64_w, i32_w]
    rfl
  refine pure_ (i := 6) (N := some 24) (v := ?_) (a' := ?_) #[true, false, true, false, true, false, true, false, false, false, false, false, false, false, false, false, false] rfl rfl (by kernel_rfl) (fun _ _ _ h => h) (Or.inl ⟨by rfl, ?_⟩) ?_ ?_
  rotate_left
  · intro w'
    go_simp
    with_reducible rfl
  rotate_left
  · simp only [Act.put, List.setIfInBounds_toArray, List.set_cons_zero, List.set_cons_succ, i64_w, i32_w]
    rfl
  refine pure_ (i := 8) (N := some 26) (v := ?_) (a' := ?_) #[true, false, true, false, true, false, true, false, true, false, false, false, false, false, false, false, false] rfl rfl (by kernel_rfl) (fun _ _ _ h => h) (Or.inl ⟨by rfl, ?_⟩) ?_ ?_
  rotate_left
  · intro w'
    go_simp
    with_reducible rfl
  rotate_left
  · simp only [Act.put, List.setIfInBounds_toArray, List.set_cons_zero, List.set_cons_succ, i64_w, i32_w]
    rfl
  refine pure_ (i := 11) (N := some 29) (v := ?_) (a' := ?_) #[true, false, true, false, true, false, true, false, true, false, false, true, false, false, false, false, false] rfl rfl (by kernel_rfl) (fun _ _ _ h => h) (Or.inl ⟨by rfl, ?_⟩) ?_ ?_
  rotate_left
  · intro w'
    go_simp
    with_reducible rfl
  rotate_left
  · simp only [Act.put, List.setIfInBounds_toArray, List.set_cons_zero, List.set_cons_succ, i64_w, i32_w]
    rfl
  refine pure_ (i := 13) (N := some 31) (v := ?_) (a' := ?_) #[true, false, true, false, true, false, true, false, true, false, false, true, false, true, false, false, false] rfl rfl (by kernel_rfl) (fun _ _ _ h => h) (Or.inl ⟨by rfl, ?_⟩) ?_ ?_
  rotate_left
  · intro w'
    go_simp
    with_reducible rfl
  rotate_left
  · simp only [Act.put, List.setIfInBounds_toArray, List.set_cons_zero, List.set_cons_succ, i64_w, i32_w]
    rfl
  refine take_ (i := 1) (N := some 19) (v := ?_) (a' := ?_) #[true, true, true, false, true, false, true, false, true, false, false, true, false, true, false, false, false] rfl rfl (by kernel_rfl) (fun _ _ _ h => h) (Or.inl ⟨by rfl, ?_⟩) hHeld ?_ ?_
  rotate_left
  · rintro w' ⟨s0, s1, s2⟩
    go_simp
    with_reducible rfl
  rotate_left
  · simp only [Act.put, List.setIfInBounds_toArray, List.set_cons_zero, List.set_cons_succ, i64_w, i32_w]
    rfl
  refine pure_ (i := 3) (N := some 21) (v := ?_) (a' := ?_) #[true, true, true, true, true, false, true, false, true, false, false, true, false, true, false, false, false] rfl rfl (by kernel_rfl) (fun _ _ _ h => h) (Or.inl ⟨by rfl, ?_⟩) ?_ ?_
  rotate_left
  · intro w'
    go_simp
    with_reducible rfl
  rotate_left
  · simp only [Act.put, List.setIfInBounds_toArray, List.set_cons_zero, List.set_cons_succ, i64_w, i32_w]
    rfl
  refine take_ (i := 5) (N := some 23) (v := ?_) (a' := ?_) #[true, true, true, true, true, true, true, false, true, false, false, true, false, true, false, false, false] rfl rfl (by kernel_rfl) (fun _ _ _ h => h) (Or.inl ⟨by rfl, ?_⟩) hHeld ?_ ?_
  rotate_left
  · rintro w' ⟨s0, s1, s2⟩
    go_simp
    with_reducible rfl
  rotate_left
  · simp only [Act.put, List.setIfInBounds_toArray, List.set_cons_zero, List.set_cons_succ, i64_w, i32_w]
    rfl
  refine pure_ (i := 7) (N := some 25) (v := ?_) (a' := ?_) #[true, true, true, true, true, true, true, true, true, false, false, true, false, true, false, false, false] rfl rfl (by kernel_rfl) (fun _ _ _ h => h) (Or.inl ⟨by rfl, ?_⟩) ?_ ?_
  rotate_left
  · intro w'
    go_simp
    with_reducible rfl
  rotate_left
  · simp only [Act.put, List.setIfInBounds_toArray, List.set_cons_zero, List.set_cons_succ, i64_w, i32_w]
    rfl
  refine take_ (i := 9) (N := some 27) (v := ?_) (a' := ?_) #[true, true, true, true, true, true, true, true, true, true, false, true, false, true, false, false, false] rfl rfl (by kernel_rfl) (fun _ _ _ h => h) (Or.inl ⟨by rfl, ?_⟩) hHeld ?_ ?_
  rotate_left
  · rintro w' ⟨s0, s1, s2⟩
    go_simp
    with_reducible rfl
  rotate_left
  · simp only [Act.put, List.setIfInBounds_toArray, List.set_cons_zero, List.set_cons_succ, i64_w, i32_w]
    rfl
  refine pure_ (i := 10) (N := some 28) (v := ?_) (a' := ?_) #[true, true, true, true, true, true, true, true, true, true, true, true, false, true, false, false, false] rfl rfl (by kernel_rfl) (fun _ _ _ h => h) (Or.inl ⟨by rfl, ?_⟩) ?_ ?_
  rotate_left
  · intro w'
    go_simp
    with_reducible rfl
  rotate_left
  · simp only [Act.put, List.setIfInBounds_toArray, List.set_cons_zero, List.set_cons_succ, i64_w, i32_w]
    rfl
  refine take_ (i := 12) (N := some 30) (v := ?_) (a' := ?_) #[true, true, true, true, true, true, true, true, true, true, true, true, true, true, false, false, false] rfl rfl (by kernel_rfl) (fun _ _ _ h => h) (Or.inl ⟨by rfl, ?_⟩) hHeld ?_ ?_
  rotate_left
  · rintro w' ⟨s0, s1, s2⟩
    go_simp
    with_reducible rfl
  rotate_left
  · simp only [Act.put, List.setIfInBounds_toArray, List.set_cons_zero, List.set_cons_succ, i64_w, i32_w]
    rfl
  refine pure_ (i := 14) (N := some 32) (v := ?_) (a' := ?_) #[true, true, true, true, true, true, true, true, true, true, true, true, true, true, true, false, false] rfl rfl (by kernel_rfl) (fun _ _ _ h => h) (Or.inl ⟨by rfl, ?_⟩) ?_ ?_
  rotate_left
  · intro w'
    go_simp
    with_reducible rfl
  rotate_left
  · simp only [Act.put, List.setIfInBounds_toArray, List.set_cons_zero, List.set_cons_succ, i64_w, i32_w]
    rfl
  refine one_ (i := 15) (N := none) #[true, true, true, true, true, true, true, true, true, true, true, true, true, true, true, true, false] rfl rfl (by kernel_rfl) (by decide) (fun K hK => ?_)
  refine skip_ (w1 := ?_) (by rfl) rfl ?_ ?_
  rotate_left
  · go_simp
    rfl
  refine hK.out _ _ ⟨((((hbb.out.far (p := ⟨w.heap.size + 1, 0, none⟩) (by show w.heap.size ≠ w.heap.size + 1; omega) _).far (p := ⟨w.heap.size + 1, 1, none⟩) (by show w.heap.size ≠ w.heap.size + 1; omega) _).far (p := ⟨w.heap.size + 1, 2, none⟩) (by show w.heap.size ≠ w.heap.size + 1; omega) _).cell 0).trans rfl, ((((hbb.out.far (p := ⟨w.heap.size + 1, 0, none⟩) (by show w.heap.size ≠ w.heap.size + 1; omega) _).far (p := ⟨w.heap.size + 1, 1, none⟩) (by show w.heap.size ≠ w.heap.size + 1; omega) _).far (p := ⟨w.heap.size + 1, 2, none⟩) (by show w.heap.size ≠ w.heap.size + 1; omega) _).cell 1).trans rfl, ((((hbb.out.far (p := ⟨w.heap.size + 1, 0, none⟩) (by show w.heap.size ≠ w.heap.size + 1; omega) _).far (p := ⟨w.heap.size + 1, 1, none⟩) (by show w.heap.size ≠ w.heap.size + 1; omega) _).far (p := ⟨w.heap.size + 1, 2, none⟩) (by show w.heap.size ≠ w.heap.size + 1; omega) _).cell 2).trans rfl⟩ (fun hHeld => ?_)
  clear hK K
  refine pure_ (i := 16) (N := some 7) (v := ?_) (a' := ?_) #[true, true, true, true, true, true, true, true, true, true, true, true, true, true, true, true, true] rfl rfl (by kernel_rfl) (fun _ _ _ h => h) (Or.inl ⟨by rfl, ?_⟩) ?_ ?_
  rotate_left
  · intro w'
    go_simp
    with_reducible rfl
  rotate_left
  · simp only [Act.put, List.setIfInBounds_toArray, List.set_cons_zero, List.set_cons_succ, i64_w, i32_w]
    rfl
  refine done_ (by kernel_rfl) ?_
  have r := blk3_set (x := .string (S.extract m S.size)) (y := .slice A' (ts.length - m) (c - m)) (z := .int .i64 last) hrr.out
  have r0 := (r.cell 0).trans rfl
  have r1 := (r.cell 1).trans rfl
  have r2 := (r.cell 2).trans rfl
  simp only [List.getElem?_toArray, List.getElem?_cons_zero, List.getElem?_cons_succ] at r0 r1 r2
  have hB3 := below3_set (x := .string (S.extract m S.size)) (y := .slice A' (ts.length - m) (c - m)) (z := .int .i64 last) hQ.out (Nat.le_succ w.heap.size)
  go_wp2
  have hI := hi0.out.below hB3.drew
  have hD := hI.drop m c hml hcc'.out
  rw [hA2.out] at hD
  refine bodyPost_ret (v := .tuple #[cg (S.extract m S.size) A' (ts.length - m) (c - m) last, .string (S.extract 0 m)]) (by simp [results, Try.results31, go_sem, r0, r1, r2, cg]) rfl ⟨_, rfl, ⟨A', c - m, by rw [List.length_drop], hD, by rw [List.length_drop]; have := hcc'.out; omega⟩, hB3.drew⟩

theorem take_none (w : World) (S : ByteArray) (A : Option Addr) (c : Nat) (ts : List Int) (last now most : Int) (hi : IR w A ts) (hs : S.size = ts.length) (hz : ts.length ≤ 1000000000000) (hcc : ts.length ≤ c) (m : Nat) (hm : takeM now most ts = m) (h1 : most < (cnt now ts : Int)) (h2 : most < 0) :
    Calls Try.prog 31 #[cg S A ts.length c last, .int .i64 now, .int .i64 most] w fun e w' => ∃ v, e = .returned (.tuple #[v, .string (S.extract 0 m)]) ∧ RefIs w' v (S.extract m S.size) (ts.drop m) last ∧ Below w.heap.size w w' := by
  have hcl := cnt_le now ts
  have hml : m ≤ ts.length := by rw [← hm]; unfold takeM; omega
  have hmc : m = 0 := by rw [← hm]; unfold takeM; omega
  subst hmc
  have hS := Lib.hid hs
  have hi0 := Lib.hid hi
  have hcc' := Lib.hid hcc
  unfold cg
  clear hi hs hcc hm
  go_enter Try.func31, Try.ntmps31
  go_wp2_with fail
  obtain ⟨W0, hW⟩ : ∃ W, W = (w.alloc (.cells #[.string S, .slice A ts.length c, .int .i64 last] 47)).alloc (.cells #[.string ⟨#[]⟩, .slice none 0 0, .int .i64 0] 47) := ⟨_, rfl⟩
  rw [← hW]
  have hB : Below w.heap.size w W0 := by rw [hW]; exact ((Below.refl _ _).alloc (Nat.le_refl _) _).alloc (by simp) _
  have hbx : Blk W0 w.heap.size 47 #[.string S, .slice A ts.length c, .int .i64 last] := by rw [hW]; exact (Blk.new w _ _).below ((Below.refl _ _).alloc (Nat.le_refl _) _)
  have hrs : Blk W0 (w.heap.size + 1) 47 #[.string ⟨#[]⟩, .slice none 0 0, .int .i64 0] := by
    rw [hW]
    have := Blk.new (w.alloc (.cells #[.string S, .slice A ts.length c, .int .i64 last] 47)) 47 #[.string ⟨#[]⟩, .slice none 0 0, .int .i64 0]
    simpa using this
  clear hW
  refine (ready_any W0 S A c ts last now (hi0.out.below hB) hS.out hz).mono ?_
  rintro e W ⟨rfl, hBW⟩
  have c0 : W.cell? ⟨w.heap.size, 0, none⟩ = some (.string S) := ((hbx.below hBW).cell 0).trans rfl
  have c1 : W.cell? ⟨w.heap.size, 1, none⟩ = some (.slice A ts.length c) := ((hbx.below hBW).cell 1).trans rfl
  have c2 : W.cell? ⟨w.heap.size, 2, none⟩ = some (.int .i64 last) := ((hbx.below hBW).cell 2).trans rfl
  have hrr := Lib.hid (hrs.below hBW)
  have hbb := Lib.hid (show Blk W.drew w.heap.size 47 #[.string S, .slice A ts.length c, .int .i64 last] from (hbx.below hBW : Blk W _ _ _))
  have z0 : W.cell? ⟨w.heap.size + 1, 0, none⟩ = some (.string ⟨#[]⟩) := (hrr.out.cell 0).trans rfl
  have z1 : W.cell? ⟨w.heap.size + 1, 1, none⟩ = some (.slice none 0 0) := (hrr.out.cell 1).trans rfl
  have z2 : W.cell? ⟨w.heap.size + 1, 2, none⟩ = some (.int .i64 0) := (hrr.out.cell 2).trans rfl
  have y0 := hrr.out.free 0
  have y1 := hrr.out.free 1
  have y2 := hrr.out.free 2
  have hQ := Lib.hid (hB.trans (hBW.mono hB.size))
  clear hB hbx hrs hBW
  generalize cnt now ts = n at *
  have hd : decide (most < (n : Int)) = true := decide_eq_true (by omega)
  have hd2 : decide (most < 0) = true := decide_eq_true (by omega)
  obtain ⟨A', hA'⟩ : ∃ A', (if c = 0 then A else A.map (·.add 0)) = A' := ⟨_, rfl⟩
  obtain ⟨i1, hi1, _, hs1, _⟩ := info_parts info_int
  have hcut : ∀ W : World, (Instr.slice 45 (.slice A ts.length c) (some (.int .i64 0)) none none).run Try.prog W = .ok (.slice A' (ts.length - 0) (c - 0)) W := by
    intro W
    have := cut_from (P := Try.prog) 45 3 .i64 Try.underlying45 hi1 1 hs1 A ts.length c 0 (by omega) (by omega) W
    rw [this, ← hA']
    simp
  have hA2 := Lib.hid hA'
  have hSl : (S.size : Int) = ts.length := by have := hS.out; omega
  have hSm : 0 ≤ S.size := by have := hS.out; omega
  have hSm' : (0 : Int) ≤ S.size := by omega
  have hm0 : (0 : Int) ≤ (0 : Int) := by omega
  have hSl' := Lib.hid hSl
  clear hA' hi1 hs1 hSl
  go_wp2
  refine start_ (n := 17) (S := fun w' => w'.cell? ⟨w.heap.size, 0, none⟩ = some (.string S) ∧ w'.cell? ⟨w.heap.size, 1, none⟩ = some (.slice A ts.length c) ∧ w'.cell? ⟨w.heap.size, 2, none⟩ = some (.int .i64 last)) (ds := []) #[false, false, false, false, false, false, false, false, false, false, false, false, false, false, false, false, false] (by kernel_rfl) rfl rfl ⟨c0, c1, c2⟩ (fun hHeld => ?_)
  refine pure_ (i := 0) (N := some 18) (v := ?_) (a' := ?_) #[true, false, false, false, false, false, false, false, false, false, false, false, false, false, false, false, false] rfl rfl (by kernel_rfl) (fun _ _ _ h => h) (Or.inl ⟨by rfl, ?_⟩) ?_ ?_
  rotate_left
  · intro w'
    go_simp
    with_reducible rfl
  rotate_left
  · simp only [Act.put, List.setIfInBounds_toArray, List.set_cons_zero, List.set_cons_succ, i64_w, i32_w]
    rfl
  refine pure_ (i := 2) (N := some 20) (v := ?_) (a' := ?_) #[true, false, true, false, false, false, false, false, false, false, false, false, false, false, false, false, false] rfl rfl (by kernel_rfl) (fun _ _ _ h => h) (Or.inl ⟨by rfl, ?_⟩) ?_ ?_
  rotate_left
  · intro w'
    go_simp
    with_reducible rfl
  rotate_left
  · simp only [Act.put, List.setIfInBounds_toArray, List.set_cons_zero, List.set_cons_succ, i64_w, i32_w]
    rfl
  refine pure_ (i := 4) (N := some 22) (v := ?_) (a' := ?_) #[true, false, true, false, true, false, false, false, false, false, false, false, false, false, false, false, false] rfl rfl (by kernel_rfl) (fun _ _ _ h => h) (Or.inl ⟨by rfl, ?_⟩) ?_ ?_
  rotate_left
  · intro w'
    go_simp
    with_reducible rfl
  rotate_left
  · simp only [Act.put, List.setIfInBounds_toArray, List.set_cons_zero, List.set_cons_succ, i64_w, i32_w]
    rfl
  refine pure_ (i := 6) (N := some 24) (v := ?_) (a' := ?_) #[true, false, true, false, true, false, true, false, false, false, false, false, false, false, false, false, false] rfl rfl (by kernel_rfl) (fun _ _ _ h => h) (Or.inl ⟨by rfl, ?_⟩) ?_ ?_
  rotate_left
  · intro w'
    go_simp
    with_reducible rfl
  rotate_left
  · simp only [Act.put, List.setIfInBounds_toArray, List.set_cons_zero, List.set_cons_succ, i64_w, i32_w]
    rfl
  refine pure_ (i := 8) (N := some 26) (v := ?_) (a' := ?_) #[true, false, true, false, true, false, true, false, true, false, false, false, false, false, false, false, false] rfl rfl (by kernel_rfl) (fun _ _ _ h => h) (Or.inl ⟨by rfl, ?_⟩) ?_ ?_
  rotate_left
  · intro w'
    go_simp
    with_reducible rfl
  rotate_left
  · simp only [Act.put, List.setIfInBounds_toArray, List.set_cons_zero, List.set_cons_succ, i64_w, i32_w]
    rfl
  refine pure_ (i := 11) (N := some 29) (v := ?_) (a' := ?_) #[true, false, true, false, true, false, true, false, true, false, false, true, false, false, false, false, false] rfl rfl (by kernel_rfl) (fun _ _ _ h => h) (Or.inl ⟨by rfl, ?_⟩) ?_ ?_
  rotate_left
  · intro w'
    go_simp
    with_reducible rfl
  rotate_left
  · simp only [Act.put, List.setIfInBounds_toArray, List.set_cons_zero, List.set_cons_succ, i64_w, i32_w]
    rfl
  refine pure_ (i := 13) (N := some 31) (v := ?_) (a' := ?_) #[true, false, true, false, true, false, true, false, true, false, false, true, false, true, false, false, false] rfl rfl (by kernel_rfl) (fun _ _ _ h => h) (Or.inl ⟨by rfl, ?_⟩) ?_ ?_
  rotate_left
  · intro w'
    go_simp
    with_reducible rfl
  rotate_left
  · simp only [Act.put, List.setIfInBounds_toArray, List.set_cons_zero, List.set_cons_succ, i64_w, i32_w]
    rfl
  refine take_ (i := 1) (N := some 19) (v := ?_) (a' := ?_) #[true, true, true, false, true, false, true, false, true, false, false, true, false, true, false, false, false] rfl rfl (by kernel_rfl) (fun _ _ _ h => h) (Or.inl ⟨by rfl, ?_⟩) hHeld ?_ ?_
  rotate_left
  · rintro w' ⟨s0, s1, s2⟩
    go_simp
    with_reducible rfl
  rotate_left
  · simp only [Act.put, List.setIfInBounds_toArray, List.set_cons_zero, List.set_cons_succ, i64_w, i32_w]
    rfl
  refine pure_ (i := 3) (N := some 21) (v := ?_) (a' := ?_) #[true, true, true, true, true, false, true, false, true, false, false, true, false, true, false, false, false] rfl rfl (by kernel_rfl) (fun _ _ _ h => h) (Or.inl ⟨by rfl, ?_⟩) ?_ ?_
  rotate_left
  · intro w'
    go_simp
    with_reducible rfl
  rotate_left
  · simp only [Act.put, List.setIfInBounds_toArray, List.set_cons_zero, List.set_cons_succ, i64_w, i32_w]
    rfl
  refine take_ (i := 5) (N := some 23) (v := ?_) (a' := ?_) #[true, true, true, true, true, true, true, false, true, false, false, true, false, true, false, false, false] rfl rfl (by kernel_rfl) (fun _ _ _ h => h) (Or.inl ⟨by rfl, ?_⟩) hHeld ?_ ?_
  rotate_left
  · rintro w' ⟨s0, s1, s2⟩
    go_simp
    with_reducible rfl
  rotate_left
  · simp only [Act.put, List.setIfInBounds_toArray, List.set_cons_zero, List.set_cons_succ, i64_w, i32_w]
    rfl
  refine pure_ (i := 7) (N := some 25) (v := ?_) (a' := ?_) #[true, true, true, true, true, true, true, true, true, false, false, true, false, true, false, false, false] rfl rfl (by kernel_rfl) (fun _ _ _ h => h) (Or.inl ⟨by rfl, ?_⟩) ?_ ?_
  rotate_left
  · intro w'
    go_simp
    with_reducible rfl
  rotate_left
  · simp only [Act.put, List.setIfInBounds_toArray, List.set_cons_zero, List.set_cons_succ, i64_w, i32_w]
    rfl
  refine take_ (i := 9) (N := some 27) (v := ?_) (a' := ?_) #[true, true, true, true, true, true, true, true, true, true, false, true, false, true, false, false, false] rfl rfl (by kernel_rfl) (fun _ _ _ h => h) (Or.inl ⟨by rfl, ?_⟩) hHeld ?_ ?_
  rotate_left
  · rintro w' ⟨s0, s1, s2⟩
    go_simp
    with_reducible rfl
  rotate_left
  · simp only [Act.put, List.setIfInBounds_toArray, List.set_cons_zero, List.set_cons_succ, i64_w, i32_w]
    rfl
  refine pure_ (i := 10) (N := some 28) (v := ?_) (a' := ?_) #[true, true, true, true, true, true, true, true, true, true, true, true, false, true, false, false, false] rfl rfl (by kernel_rfl) (fun _ _ _ h => h) (Or.inl ⟨by rfl, ?_⟩) ?_ ?_
  rotate_left
  · intro w'
    go_simp
    with_reducible rfl
  rotate_left
  · simp only [Act.put, List.setIfInBounds_toArray, List.set_cons_zero, List.set_cons_succ, i64_w, i32_w]
    rfl
  refine take_ (i := 12) (N := some 30) (v := ?_) (a' := ?_) #[true, true, true, true, true, true, true, true, true, true, true, true, true, true, false, false, false] rfl rfl (by kernel_rfl) (fun _ _ _ h => h) (Or.inl ⟨by rfl, ?_⟩) hHeld ?_ ?_
  rotate_left
  · rintro w' ⟨s0, s1, s2⟩
    go_simp
    with_reducible rfl
  rotate_left
  · simp only [Act.put, List.setIfInBounds_toArray, List.set_cons_zero, List.set_cons_succ, i64_w, i32_w]
    rfl
  refine pure_ (i := 14) (N := some 32) (v := ?_) (a' := ?_) #[true, true, true, true, true, true, true, true, true, true, true, true, true, true, true, false, false] rfl rfl (by kernel_rfl) (fun _ _ _ h => h) (Or.inl ⟨by rfl, ?_⟩) ?_ ?_
  rotate_left
  · intro w'
    go_simp
    with_reducible rfl
  rotate_left
  · simp only [Act.put, List.setIfInBounds_toArray, List.set_cons_zero, List.set_cons_succ, i64_w, i32_w]
    rfl
  refine one_ (i := 15) (N := none) #[true, true, true, true, true, true, true, true, true, true, true, true, true, true, true, true, false] rfl rfl (by kernel_rfl) (by decide) (fun K hK => ?_)
  refine skip_ (w1 := ?_) (by rfl) rfl ?_ ?_
  rotate_left
  · go_simp
    rfl
  refine hK.out _ _ ⟨((((hbb.out.far (p := ⟨w.heap.size + 1, 0, none⟩) (by show w.heap.size ≠ w.heap.size + 1; omega) _).far (p := ⟨w.heap.size + 1, 1, none⟩) (by show w.heap.size ≠ w.heap.size + 1; omega) _).far (p := ⟨w.heap.size + 1, 2, none⟩) (by show w.heap.size ≠ w.heap.size + 1; omega) _).cell 0).trans rfl, ((((hbb.out.far (p := ⟨w.heap.size + 1, 0, none⟩) (by show w.heap.size ≠ w.heap.size + 1; omega) _).far (p := ⟨w.heap.size + 1, 1, none⟩) (by show w.heap.size ≠ w.heap.size + 1; omega) _).far (p := ⟨w.heap.size + 1, 2, none⟩) (by show w.heap.size ≠ w.heap.size + 1; omega) _).cell 1).trans rfl, ((((hbb.out.far (p := ⟨w.heap.size + 1, 0, none⟩) (by show w.heap.size ≠ w.heap.size + 1; omega) _).far (p := ⟨w.heap.size + 1, 1, none⟩) (by show w.heap.size ≠ w.heap.size + 1; omega) _).far (p := ⟨w.heap.size + 1, 2, none⟩) (by show w.heap.size ≠ w.heap.size + 1; omega) _).cell 2).trans rfl⟩ (fun hHeld => ?_)
  clear hK K
  refine pure_ (i := 16) (N := some 7) (v := ?_) (a' := ?_) #[true, true, true, true, true, true, true, true, true, true, true, true, true, true, true, true, true] rfl rfl (by kernel_rfl) (fun _ _ _ h => h) (Or.inl ⟨by rfl, ?_⟩) ?_ ?_
  rotate_left
  · intro w'
    go_simp
    with_reducible rfl
  rotate_left
  · simp only [Act.put, List.setIfInBounds_toArray, List.set_cons_zero, List.set_cons_succ, i64_w, i32_w]
    rfl
  refine done_ (by kernel_rfl) ?_
  have r := blk3_set (x := .string S) (y := .slice A' ts.length c) (z := .int .i64 last) hrr.out
  have r0 := (r.cell 0).trans rfl
  have r1 := (r.cell 1).trans rfl
  have r2 := (r.cell 2).trans rfl
  simp only [List.getElem?_toArray, List.getElem?_cons_zero, List.getElem?_cons_succ] at r0 r1 r2
  have hB3 := below3_set (x := .string S) (y := .slice A' ts.length c) (z := .int .i64 last) hQ.out (Nat.le_succ w.heap.size)
  go_wp2
  have hI := hi0.out.below hB3.drew
  have hD := hI.drop 0 c hml hcc'.out
  rw [hA2.out] at hD
  have e3 : S.extract 0 0 = ByteArray.empty := by simp
  have e4 : S.extract 0 S.size = S := ByteArray.extract_zero_size
  rw [e3, e4]
  refine bodyPost_ret (v := .tuple #[cg S A' ts.length c last, .string ByteArray.empty]) (by simp [results, Try.results31, go_sem, r0, r1, r2, cg]) rfl ⟨_, rfl, ⟨A', c, rfl, hD, hcc'.out⟩, hB3.drew⟩

theorem take_any (w : World) (v : Value) (S : ByteArray) (ts : List Int) (last now most : Int) (hv : RefIs w v S ts last) (hs : S.size = ts.length) (hz : ts.length ≤ 1000000000000) :
    Calls Try.prog 31 #[v, .int .i64 now, .int .i64 most] w fun e w' => ∃ v', e = .returned (.tuple #[v', .string (S.extract 0 (takeM now most ts))]) ∧ RefIs w' v' (S.extract (takeM now most ts) S.size) (ts.drop (takeM now most ts)) last ∧ Below w.heap.size w w' := by
  obtain ⟨A, c, rfl, hi, hc⟩ := hv
  by_cases h1 : (cnt now ts : Int) ≤ most
  · exact take_all w S A c ts last now most hi hs hz hc _ rfl h1
  · by_cases h2 : most < 0
    · exact take_none w S A c ts last now most hi hs hz hc _ rfl (by omega) h2
    · exact take_some w S A c ts last now most hi hs hz hc _ rfl (by omega) (by omega)
theorem put_any (w : World) (v : Value) (S : ByteArray) (ts : List Int) (last at_ : Int) (s : ByteArray) (hv : RefIs w v S ts last) (hz : ts.length + s.size ≤ 1000000000000) (hzS : S.size + s.size ≤ 1000000000000) :
    Calls Try.prog 30 #[v, .int .i64 at_, .string s] w fun e w' => ∃ v', e = .returned (.tuple #[v', .int .i64 (refAt last at_)]) ∧ RefIs w' v' (S ++ s) (ts ++ List.replicate s.size (refAt last at_)) (if s.size = 0 then last else refAt last at_) ∧ Below w.heap.size w w' := by
  obtain ⟨A, c, rfl, hi, hc⟩ := hv
  by_cases hs : 0 < s.size
  · rw [if_neg (by omega)]
    by_cases hl : nr at_ < last
    · exact put_some_late w S A c ts last at_ s hi hs hz hzS hl
    · exact put_some_soon w S A c ts last at_ s hi hs hz hzS hl
  · obtain rfl := empty_of hs
    have e1 : S ++ (⟨#[]⟩ : ByteArray) = S := app_nil S
    have e2 : ts ++ List.replicate (⟨#[]⟩ : ByteArray).size (refAt last at_) = ts := by show ts ++ [] = ts; simp
    have e3 : (if (⟨#[]⟩ : ByteArray).size = 0 then last else refAt last at_) = last := if_pos rfl
    rw [e1, e2, e3]
    by_cases hl : nr at_ < last
    · exact (put_none_late w S A c ts last at_ hi hl).mono fun e w' ⟨he, hI, hB⟩ => ⟨_, he, ⟨A, c, rfl, hI, hc⟩, hB⟩
    · exact (put_none_soon w S A c ts last at_ hi hl).mono fun e w' ⟨he, hI, hB⟩ => ⟨_, he, ⟨A, c, rfl, hI, hc⟩, hB⟩
theorem hurry_any (w : World) (v : Value) (S : ByteArray) (ts : List Int) (last at_ : Int) (hv : RefIs w v S ts last) (hz : ts.length ≤ 1000000000000) :
    Calls Try.prog 32 #[v, .int .i64 at_] w fun e w' => ∃ v', e = .returned v' ∧ RefIs w' v' S (ts.map (low (nr at_))) (low (nr at_) last) ∧ Below w.heap.size w w' := by
  obtain ⟨A, c, rfl, hi, hc⟩ := hv
  by_cases hl : nr at_ < last
  · exact hurry_late w S A c ts last at_ hi hz hl
  · exact hurry_soon w S A c ts last at_ hi hz hl
end Go.Proofs.Ytcoennfpaimclaa.Ref07
