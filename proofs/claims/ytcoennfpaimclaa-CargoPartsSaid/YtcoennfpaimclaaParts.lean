/- The law CargoParts (chapter 07). Conditions: each text is shorter than 2^47 bytes. -/
import Derived.Test.YtcoennfpaimclaaLive
import Derived.Test.YtcoennfpaimclaaWLast
namespace Go.Proofs.Ytcoennfpaimclaa.Cargo
open Go.RowKit Mem Tick
open Go.Proofs.YtcoennfpaimclaaW.PrintLast
set_option maxRecDepth 100000
set_option linter.unusedVariables false
set_option linter.unusedSimpArgs false
theorem parts_few (v : Value) (l : List Op4) (now m0 m1 : Int) (w : World) (hv : Script w v l) (hf : fewB l = false) :
    Calls Try.prog 6 #[v, .int .i64 now, .agg #[.int .i64 m0, .int .i64 m1]] w fun e w' => e = .returned (.bool true) ∧ Below w.heap.size w w' := by
  have hv' := Lib.hid hv
  have hf' := Lib.hid hf
  clear hv hf
  go_enter Try.func6, Try.ntmps6
  go_wp2_with fail
  refine (live_new w _ ((Below.refl _ _).alloc (Nat.le_refl _) _)).mono ?_
  rintro e w0 ⟨b, rfl, hL, hB⟩
  have hL0 := Lib.hid hL
  have hK0 := Lib.hid (show Blk w0 w.heap.size 42 #[.int .i64 m0, .int .i64 m1] from (Blk.new w _ _).below hB)
  clear hL hB
  go_wp2_with fail
  refine (few_any _ l _ (hv'.out.below hL0.out.old)).mono ?_
  rintro e w1 ⟨rfl, hB⟩
  have hH1 := Lib.hid (show Live w w1 b ([], 0) ∧ Blk w1 w.heap.size 42 #[.int .i64 m0, .int .i64 m1] from ⟨hL0.out.below hB, hK0.out.below hB⟩)
  have z0 : w1.cell? ⟨w.heap.size, 0, none⟩ = some (.int .i64 m0) := (hH1.out.2.cell 0).trans rfl
  have z1 : w1.cell? ⟨w.heap.size, 1, none⟩ = some (.int .i64 m1) := (hH1.out.2.cell 1).trans rfl
  clear hB hL0 hK0
  rw [hf'.out]
  go_wp2_with (go_at_call 12; (with_reducible refine (alive_any _).mono ?_); rintro e w2 ⟨rfl, hB2⟩; have hB2' := Lib.hid hB2; clear hB2)
  go_ret
  exact ⟨by simp, hH1.out.1.old.trans (hB2'.out.mono hH1.out.1.old.size)⟩
theorem parts_a (v : Value) (l : List Op4) (now m0 m1 : Int) (w : World) (hv : Script w v l) (hf : fewB l = true) (h1 : m0 < 0) :
    Calls Try.prog 6 #[v, .int .i64 now, .agg #[.int .i64 m0, .int .i64 m1]] w fun e w' => e = .returned (.bool true) ∧ Below w.heap.size w w' := by
  have hv' := Lib.hid hv
  have hf' := Lib.hid hf
  clear hv hf
  go_enter Try.func6, Try.ntmps6
  go_wp2_with fail
  refine (live_new w _ ((Below.refl _ _).alloc (Nat.le_refl _) _)).mono ?_
  rintro e w0 ⟨b, rfl, hL, hB⟩
  have hL0 := Lib.hid hL
  have hK0 := Lib.hid (show Blk w0 w.heap.size 42 #[.int .i64 m0, .int .i64 m1] from (Blk.new w _ _).below hB)
  clear hL hB
  go_wp2_with fail
  refine (few_any _ l _ (hv'.out.below hL0.out.old)).mono ?_
  rintro e w1 ⟨rfl, hB⟩
  have hH1 := Lib.hid (show Live w w1 b ([], 0) ∧ Blk w1 w.heap.size 42 #[.int .i64 m0, .int .i64 m1] from ⟨hL0.out.below hB, hK0.out.below hB⟩)
  have z0 : w1.cell? ⟨w.heap.size, 0, none⟩ = some (.int .i64 m0) := (hH1.out.2.cell 0).trans rfl
  have z1 : w1.cell? ⟨w.heap.size, 1, none⟩ = some (.int .i64 m1) := (hH1.out.2.cell 1).trans rfl
  clear hB hL0 hK0
  rw [hf'.out]
  go_wp2_with (go_at_call 12; (with_reducible refine (alive_any _).mono ?_); rintro e w2 ⟨rfl, hB2⟩; have hB2' := Lib.hid hB2; clear hB2)
  go_ret
  exact ⟨by simp, hH1.out.1.old.trans (hB2'.out.mono hH1.out.1.old.size)⟩
theorem parts_b (v : Value) (l : List Op4) (now m0 m1 : Int) (w : World) (hv : Script w v l) (hf : fewB l = true) (h1 : 0 ≤ m0) (h2 : m1 < 0) :
    Calls Try.prog 6 #[v, .int .i64 now, .agg #[.int .i64 m0, .int .i64 m1]] w fun e w' => e = .returned (.bool true) ∧ Below w.heap.size w w' := by
  have hv' := Lib.hid hv
  have hf' := Lib.hid hf
  clear hv hf
  go_enter Try.func6, Try.ntmps6
  go_wp2_with fail
  refine (live_new w _ ((Below.refl _ _).alloc (Nat.le_refl _) _)).mono ?_
  rintro e w0 ⟨b, rfl, hL, hB⟩
  have hL0 := Lib.hid hL
  have hK0 := Lib.hid (show Blk w0 w.heap.size 42 #[.int .i64 m0, .int .i64 m1] from (Blk.new w _ _).below hB)
  clear hL hB
  go_wp2_with fail
  refine (few_any _ l _ (hv'.out.below hL0.out.old)).mono ?_
  rintro e w1 ⟨rfl, hB⟩
  have hH1 := Lib.hid (show Live w w1 b ([], 0) ∧ Blk w1 w.heap.size 42 #[.int .i64 m0, .int .i64 m1] from ⟨hL0.out.below hB, hK0.out.below hB⟩)
  have z0 : w1.cell? ⟨w.heap.size, 0, none⟩ = some (.int .i64 m0) := (hH1.out.2.cell 0).trans rfl
  have z1 : w1.cell? ⟨w.heap.size, 1, none⟩ = some (.int .i64 m1) := (hH1.out.2.cell 1).trans rfl
  clear hB hL0 hK0
  rw [hf'.out]
  go_wp2_with (go_at_call 12; (with_reducible refine (alive_any _).mono ?_); rintro e w2 ⟨rfl, hB2⟩; have hB2' := Lib.hid hB2; clear hB2)
  go_ret
  exact ⟨by simp, hH1.out.1.old.trans (hB2'.out.mono hH1.out.1.old.size)⟩
theorem parts_c (v : Value) (l : List Op4) (now m0 m1 : Int) (w : World) (hv : Script w v l) (hf : fewB l = true) (h1 : 0 ≤ m0) (h2 : 0 ≤ m1) (h3 : 10000 < m0) :
    Calls Try.prog 6 #[v, .int .i64 now, .agg #[.int .i64 m0, .int .i64 m1]] w fun e w' => e = .returned (.bool true) ∧ Below w.heap.size w w' := by
  have hv' := Lib.hid hv
  have hf' := Lib.hid hf
  clear hv hf
  go_enter Try.func6, Try.ntmps6
  go_wp2_with fail
  refine (live_new w _ ((Below.refl _ _).alloc (Nat.le_refl _) _)).mono ?_
  rintro e w0 ⟨b, rfl, hL, hB⟩
  have hL0 := Lib.hid hL
  have hK0 := Lib.hid (show Blk w0 w.heap.size 42 #[.int .i64 m0, .int .i64 m1] from (Blk.new w _ _).below hB)
  clear hL hB
  go_wp2_with fail
  refine (few_any _ l _ (hv'.out.below hL0.out.old)).mono ?_
  rintro e w1 ⟨rfl, hB⟩
  have hH1 := Lib.hid (show Live w w1 b ([], 0) ∧ Blk w1 w.heap.size 42 #[.int .i64 m0, .int .i64 m1] from ⟨hL0.out.below hB, hK0.out.below hB⟩)
  have z0 : w1.cell? ⟨w.heap.size, 0, none⟩ = some (.int .i64 m0) := (hH1.out.2.cell 0).trans rfl
  have z1 : w1.cell? ⟨w.heap.size, 1, none⟩ = some (.int .i64 m1) := (hH1.out.2.cell 1).trans rfl
  clear hB hL0 hK0
  rw [hf'.out]
  go_wp2_with (go_at_call 12; (with_reducible refine (alive_any _).mono ?_); rintro e w2 ⟨rfl, hB2⟩; have hB2' := Lib.hid hB2; clear hB2)
  go_ret
  exact ⟨by simp, hH1.out.1.old.trans (hB2'.out.mono hH1.out.1.old.size)⟩
theorem parts_d (v : Value) (l : List Op4) (now m0 m1 : Int) (w : World) (hv : Script w v l) (hf : fewB l = true) (h1 : 0 ≤ m0) (h2 : 0 ≤ m1) (h3 : m0 ≤ 10000) (h4 : 10000 < m1) :
    Calls Try.prog 6 #[v, .int .i64 now, .agg #[.int .i64 m0, .int .i64 m1]] w fun e w' => e = .returned (.bool true) ∧ Below w.heap.size w w' := by
  have hv' := Lib.hid hv
  have hf' := Lib.hid hf
  clear hv hf
  go_enter Try.func6, Try.ntmps6
  go_wp2_with fail
  refine (live_new w _ ((Below.refl _ _).alloc (Nat.le_refl _) _)).mono ?_
  rintro e w0 ⟨b, rfl, hL, hB⟩
  have hL0 := Lib.hid hL
  have hK0 := Lib.hid (show Blk w0 w.heap.size 42 #[.int .i64 m0, .int .i64 m1] from (Blk.new w _ _).below hB)
  clear hL hB
  go_wp2_with fail
  refine (few_any _ l _ (hv'.out.below hL0.out.old)).mono ?_
  rintro e w1 ⟨rfl, hB⟩
  have hH1 := Lib.hid (show Live w w1 b ([], 0) ∧ Blk w1 w.heap.size 42 #[.int .i64 m0, .int .i64 m1] from ⟨hL0.out.below hB, hK0.out.below hB⟩)
  have z0 : w1.cell? ⟨w.heap.size, 0, none⟩ = some (.int .i64 m0) := (hH1.out.2.cell 0).trans rfl
  have z1 : w1.cell? ⟨w.heap.size, 1, none⟩ = some (.int .i64 m1) := (hH1.out.2.cell 1).trans rfl
  clear hB hL0 hK0
  rw [hf'.out]
  go_wp2_with (go_at_call 12; (with_reducible refine (alive_any _).mono ?_); rintro e w2 ⟨rfl, hB2⟩; have hB2' := Lib.hid hB2; clear hB2)
  go_ret
  exact ⟨by simp, hH1.out.1.old.trans (hB2'.out.mono hH1.out.1.old.size)⟩
theorem parts_yes (v : Value) (l : List Op4) (now m0 m1 : Int) (w : World) (hv : Script w v l) (hf : fewB l = true) (h1 : 0 ≤ m0) (h2 : 0 ≤ m1) (h3 : m0 ≤ 10000) (h4 : m1 ≤ 10000) :
    Calls Try.prog 6 #[v, .int .i64 now, .agg #[.int .i64 m0, .int .i64 m1]] w fun e w' => e = .returned (.bool true) ∧ Below w.heap.size w w' := by
  have hn5 : bytesOf l ≤ 5000 := by simp [fewB] at hf; exact hf.2
  have hl2 : l.length ≤ 200 := by simp [fewB] at hf; exact hf.1
  have hv' := Lib.hid hv
  have hf' := Lib.hid hf
  obtain ⟨a, cap, rfl, hmx, -, hA⟩ := hv
  clear hf
  go_enter Try.func6, Try.ntmps6
  go_wp2_with fail
  refine (live_new w _ ((Below.refl _ _).alloc (Nat.le_refl _) _)).mono ?_
  rintro e w0 ⟨b, rfl, hL, hB⟩
  have hL0 := Lib.hid hL
  have hK0 := Lib.hid (show Blk w0 w.heap.size 42 #[.int .i64 m0, .int .i64 m1] from (Blk.new w _ _).below hB)
  clear hL hB
  go_wp2_with fail
  refine (few_any _ l _ (hv'.out.below hL0.out.old)).mono ?_
  rintro e w1 ⟨rfl, hB⟩
  have hH1 := Lib.hid (show Live w w1 b ([], 0) ∧ Blk w1 w.heap.size 42 #[.int .i64 m0, .int .i64 m1] from ⟨hL0.out.below hB, hK0.out.below hB⟩)
  have z0 : w1.cell? ⟨w.heap.size, 0, none⟩ = some (.int .i64 m0) := (hH1.out.2.cell 0).trans rfl
  have z1 : w1.cell? ⟨w.heap.size, 1, none⟩ = some (.int .i64 m1) := (hH1.out.2.cell 1).trans rfl
  clear hB hL0 hK0
  rw [hf'.out]
  go_wp2
  go_loopw [47] (fun iv wr => ∃ (k : Nat) (x : St), k ≤ l.length ∧ iv = .int .i64 k ∧ Live w wr b x ∧ Blk wr w.heap.size 42 #[.int .i64 m0, .int .i64 m1] ∧ tot x.1 ≤ bytesOf (l.take k)) (fun iv _ => l.length - (intOf iv).toNat)
  case atStart => exact ⟨0, ([], 0), by omega, rfl, hH1.out.1, hH1.out.2, Nat.zero_le _⟩
  case round =>
    obtain ⟨k, x, hk, rfl, hL, hK, hT⟩ := hrel
    clear hH1 z0 z1
    by_cases hlt : k < l.length
    · obtain ⟨g, oo, rfl, hc⟩ := hA (by intro h; subst h; simp at hlt)
      have hx : l[k]? = some l[k] := List.getElem?_eq_getElem hlt
      obtain ⟨d0, d1, d2, d3⟩ := hc k _ hx
      have hbt := Lib.hid (bytesOf_take l k _ hx)
      have hble := bytesOf_le l (k + 1)
      rw [hbt.out] at hble
      have hts := tot_stp x l[k]
      generalize l[k] = p at *
      obtain ⟨p0, p1, p2, p3⟩ := p
      dsimp only at *
      have d0' := bcells hL.old d0
      have d1' := bcells hL.old d1
      have d2' := bcells hL.old d2
      have d3' := bcells hL.old d3
      have hL' := Lib.hid hL
      have hsz := hL.old.size
      clear hc hx d0 d1 d2 d3 hL
      go_wp2_with fail
      refine (live_does (hL'.out.below ((Below.refl _ _).alloc (Nat.le_refl _) _)) (p0, p1, p2, p3) (by dsimp only; omega) (by omega)).mono ?_
      rintro e w2 ⟨rfl, hL2, hK2⟩
      have hL2' := Lib.hid (show Live w w2 b (stp x (p0, p1, p2, p3)) ∧ Blk w2 w.heap.size 42 #[.int .i64 m0, .int .i64 m1] from ⟨hL2, hK2 _ _ _ (hK.below ((Below.refl _ _).alloc (Nat.le_refl _) _)) (by decide) (by decide)⟩)
      clear hL2 hK2
      go_wp2
      go_roundw
      case rel => exact ⟨k + 1, stp x (p0, p1, p2, p3), by omega, by go_num, hL2'.out.1, hL2'.out.2, by rw [hbt.out]; omega⟩
      case measure => simp [intOf]; omega
    · have hk2 : k = l.length := by omega
      subst hk2
      have hnl : ¬ (l.length < l.length) := by omega
      have hble := bytesOf_le l l.length
      have hz1 : tot x.1 ≤ 5000 := by omega
      have hK1 := Lib.hid hK
      obtain ⟨F, hC, hF, hB, hG⟩ := hL
      have hC1 := Lib.hid hC
      have hF1 := Lib.hid hF
      have hB1 := Lib.hid hB
      have hG1 := Lib.hid hG
      clear hC hF hB hG hK hA
      go_wp2_with fail
      refine (copy_any hC1.out (by have := len_tot hG1.out.1; omega)).mono ?_
      rintro e w2 ⟨d, G, rfl, hC, hGn, hB⟩
      have hC2 := Lib.hid (show CG w2 F b x.1 x.2 ∧ Blk w2 w.heap.size 42 #[.int .i64 m0, .int .i64 m1] from ⟨hC1.out.below hB, hK1.out.below hB⟩)
      have hD2 := Lib.hid (show CG w2 G d x.1 x.2 ∧ (∀ k, G k → w.heap.size ≤ k) ∧ (∀ k, G k → ¬ F k) ∧ Below w.heap.size w w2 from ⟨hC, fun k hk => Nat.le_trans hB1.out.size (hGn k hk), fun k hk c => by have := hC1.out.lt c; have := hGn k hk; omega, hB1.out.trans (hB.mono hB1.out.size)⟩)
      clear hC hGn hB hC1 hK1 hB1
      have hFl := Lib.hid (show Full x.1 from hG1.out.1)
      go_wp2
      refine start_ (n := 14) (S := fun w' => w'.cell? ⟨w.heap.size, 0, none⟩ = some (.int .i64 m0) ∧ w'.cell? ⟨w.heap.size, 1, none⟩ = some (.int .i64 m1)) (ds := []) #[false, false, false, false, false, false, false, false, false, false, false, false, false, false] (by kernel_rfl) rfl rfl ⟨(show w2.cell? ⟨w.heap.size, 0, none⟩ = _ from (hC2.out.2.cell 0).trans rfl), (show w2.cell? ⟨w.heap.size, 1, none⟩ = _ from (hC2.out.2.cell 1).trans rfl)⟩ (fun hHeld => ?_)
      refine pure_ (i := 0) (N := some 59) (v := ?_) (a' := ?_) #[true, false, false, false, false, false, false, false, false, false, false, false, false, false] rfl rfl (by kernel_rfl) (fun _ _ _ h => h) (Or.inl ⟨by rfl, ?_⟩) ?_ ?_
      rotate_left
      · intro w'
        go_simp
        with_reducible rfl
      rotate_left
      · simp only [Act.put, List.setIfInBounds_toArray, List.set_cons_zero, List.set_cons_succ, i64_w, i32_w]
        rfl
      refine pure_ (i := 1) (N := some 60) (v := ?_) (a' := ?_) #[true, true, false, false, false, false, false, false, false, false, false, false, false, false] rfl rfl (by kernel_rfl) (fun _ _ _ h => h) (Or.inl ⟨by rfl, ?_⟩) ?_ ?_
      rotate_left
      · intro w'
        go_simp
        with_reducible rfl
      rotate_left
      · simp only [Act.put, List.setIfInBounds_toArray, List.set_cons_zero, List.set_cons_succ, i64_w, i32_w]
        rfl
      refine pure_ (i := 2) (N := some 61) (v := ?_) (a' := ?_) #[true, true, true, false, false, false, false, false, false, false, false, false, false, false] rfl rfl (by kernel_rfl) (fun _ _ _ h => h) (Or.inl ⟨by rfl, ?_⟩) ?_ ?_
      rotate_left
      · intro w'
        go_simp
        with_reducible rfl
      rotate_left
      · simp only [Act.put, List.setIfInBounds_toArray, List.set_cons_zero, List.set_cons_succ, i64_w, i32_w]
        rfl
      refine pure_ (i := 6) (N := some 65) (v := ?_) (a' := ?_) #[true, true, true, false, false, false, true, false, false, false, false, false, false, false] rfl rfl (by kernel_rfl) (fun _ _ _ h => h) (Or.inl ⟨by rfl, ?_⟩) ?_ ?_
      rotate_left
      · intro w'
        go_simp
        with_reducible rfl
      rotate_left
      · simp only [Act.put, List.setIfInBounds_toArray, List.set_cons_zero, List.set_cons_succ, i64_w, i32_w]
        rfl
      refine pure_ (i := 7) (N := some 66) (v := ?_) (a' := ?_) #[true, true, true, false, false, false, true, true, false, false, false, false, false, false] rfl rfl (by kernel_rfl) (fun _ _ _ h => h) (Or.inl ⟨by rfl, ?_⟩) ?_ ?_
      rotate_left
      · intro w'
        go_simp
        with_reducible rfl
      rotate_left
      · simp only [Act.put, List.setIfInBounds_toArray, List.set_cons_zero, List.set_cons_succ, i64_w, i32_w]
        rfl
      refine pure_ (i := 8) (N := some 67) (v := ?_) (a' := ?_) #[true, true, true, false, false, false, true, true, true, false, false, false, false, false] rfl rfl (by kernel_rfl) (fun _ _ _ h => h) (Or.inl ⟨by rfl, ?_⟩) ?_ ?_
      rotate_left
      · intro w'
        go_simp
        with_reducible rfl
      rotate_left
      · simp only [Act.put, List.setIfInBounds_toArray, List.set_cons_zero, List.set_cons_succ, i64_w, i32_w]
        rfl
      refine take_ (i := 3) (N := some 62) (v := ?_) (a' := ?_) #[true, true, true, true, false, false, true, true, true, false, false, false, false, false] rfl rfl (by kernel_rfl) (fun _ _ _ h => h) (Or.inl ⟨by rfl, ?_⟩) hHeld ?_ ?_
      rotate_left
      · rintro w' ⟨s0, s1⟩
        go_simp
        with_reducible rfl
      rotate_left
      · simp only [Act.put, List.setIfInBounds_toArray, List.set_cons_zero, List.set_cons_succ, i64_w, i32_w]
        rfl
      refine take_ (i := 9) (N := some 68) (v := ?_) (a' := ?_) #[true, true, true, true, false, false, true, true, true, true, false, false, false, false] rfl rfl (by kernel_rfl) (fun _ _ _ h => h) (Or.inl ⟨by rfl, ?_⟩) hHeld ?_ ?_
      rotate_left
      · rintro w' ⟨s0, s1⟩
        go_simp
        with_reducible rfl
      rotate_left
      · simp only [Act.put, List.setIfInBounds_toArray, List.set_cons_zero, List.set_cons_succ, i64_w, i32_w]
        rfl
      refine one_ (i := 4) (N := some 63) #[true, true, true, true, true, false, true, true, true, true, false, false, false, false] rfl rfl (by kernel_rfl) (by decide) (fun K hK => ?_)
      refine goes_ Try.func22 (by kernel_rfl) rfl #[.pointer (some ⟨b, 0, none⟩), .int .i64 now, .int .i64 m0] (by rfl) rfl rfl (by simp only [List.map_toArray, List.map_cons, List.map_nil]; rfl) ?_
      with_reducible refine (take_far (w := w2.drew) now m0 (hC2.out.1.kept fun _ _ => rfl) hFl.out (by omega)).mono ?_
      rintro e w3 ⟨A1, c1, rfl, hS1, hC3, hD3, hO1⟩
      have hK3 : Blk w3 w.heap.size 42 #[.int .i64 m0, .int .i64 m1] := (hC2.out.1.kept (w' := w2.drew) fun _ _ => rfl).keep hD3 _ _ _ hC2.out.2 (by decide) (by decide)
      have hcv1 := conv_bytes c1 hS1
      generalize hs1 : (takeP (takeN now m0 x.1) x.1).1 = s1 at *
      generalize hx1 : (takeP (takeN now m0 x.1) x.1).2 = x1 at *
      have hs1' := Lib.hid hs1
      have hx1' := Lib.hid hx1
      have hS1' := Lib.hid hS1
      have hC3' := Lib.hid hC3
      have hD3' := Lib.hid hD3
      have hO1' := Lib.hid hO1
      have hK3' := Lib.hid hK3
      clear hs1 hx1 hS1 hC3 hD3 hO1 hK3
      have hx1f := Lib.hid (show Full x1 from hx1'.out ▸ Full.take _ hG1.out.1)
      have hx1t := Lib.hid (show s1.size + tot x1 = tot x.1 by rw [← hs1'.out, ← hx1'.out]; exact tot_takeP _ _)
      refine ⟨_, rfl, ?_⟩
      refine hK.out _ _ ⟨((hK3'.out).cell 0).trans rfl, ((hK3'.out).cell 1).trans rfl⟩ (fun hHeld => ?_)
      clear hK K
      refine norm_ (a' := ?_) ?_ ?_
      rotate_left
      · show Act.put _ (some 63) _ = _
        simp only [Act.put, List.setIfInBounds_toArray, List.set_cons_zero, List.set_cons_succ, i64_w, i32_w]
        rfl
      refine join_ (σ := Option Addr × Nat) 2 #[true, true, true, true, true, true, true, true, true, true, true, true, false, false] (fun s => [(64, .string s1), (69, .slice s.1 (takeP (takeN now m1 x1) x1).1.size s.2), (70, .string (takeP (takeN now m1 x1) x1).1)]) (fun s w' => (w'.cell? ⟨w.heap.size, 0, none⟩ = some (.int .i64 m0) ∧ w'.cell? ⟨w.heap.size, 1, none⟩ = some (.int .i64 m1)) ∧ CG w' F b (takeP (takeN now m1 x1) x1).2 x.2 ∧ Did F w3 w' ∧ Blk w' w.heap.size 42 #[.int .i64 m0, .int .i64 m1]) ?_ ?_
      rotate_left
      · intro hCont
        refine two_ (i := 5) (j := 10) (Ni := some 64) (Nj := some 69) #[true, true, true, true, true, true, true, true, true, true, false, false, false, false] #[true, true, true, true, true, false, true, true, true, true, true, false, false, false] rfl rfl rfl rfl (by kernel_rfl) (by decide) (by decide) (fun K hK => ?_) (fun K hK => ?_)
        · skip
          refine value_ (w1 := ?_) (v := ?_) (by rfl) rfl ?_ ?_
          rotate_left 2
          · go_simp
            constructor
            · rfl
            · rfl
          refine hK.out _ _ ⟨((hK3'.out).cell 0).trans rfl, ((hK3'.out).cell 1).trans rfl⟩ (fun hHeld => ?_)
          clear hK K
          refine norm_ (a' := ?_) ?_ ?_
          rotate_left
          · show Act.put _ (some 64) _ = _
            simp only [Act.put, List.setIfInBounds_toArray, List.set_cons_zero, List.set_cons_succ, i64_w, i32_w]
            rfl
          refine one_ (i := 10) (N := some 69) #[true, true, true, true, true, true, true, true, true, true, true, false, false, false] rfl rfl (by kernel_rfl) (by decide) (fun K hK => ?_)
          refine goes_ Try.func22 (by kernel_rfl) rfl #[.pointer (some ⟨b, 0, none⟩), .int .i64 now, .int .i64 m1] (by rfl) rfl rfl (by simp only [List.map_toArray, List.map_cons, List.map_nil]; rfl) ?_
          with_reducible refine (take_far (w := w3) now m1 hC3'.out hx1f.out (by have := hx1t.out; omega)).mono ?_
          rintro e w4 ⟨A2, c2, rfl, hS2, hC4, hD4, hO2⟩
          have hK4 : Blk w4 w.heap.size 42 #[.int .i64 m0, .int .i64 m1] := hC3'.out.keep hD4 _ _ _ hK3'.out (by decide) (by decide)
          have hcv2 := conv_bytes c2 hS2
          have hcv1b := conv_bytes c1 (hS1'.out.kept (w' := w4) fun g hg hlt => hD4.block g hlt fun c => by have h1 := hO1'.out g hg; have h2 := hC2.out.1.lt c; have h3 : w2.drew.heap.size = w2.heap.size := rfl; omega)
          have hQ4 := Lib.hid (show CG w4 F b (takeP (takeN now m1 x1) x1).2 x.2 ∧ Did F w3 w4 ∧ Blk w4 w.heap.size 42 #[.int .i64 m0, .int .i64 m1] from ⟨hC4, hD4, hK4⟩)
          clear hC4 hD4 hS2 hO2
          refine ⟨_, rfl, ?_⟩
          refine hK.out _ _ ⟨((hQ4.out.2.2).cell 0).trans rfl, ((hQ4.out.2.2).cell 1).trans rfl⟩ (fun hHeld => ?_)
          clear hK K
          refine norm_ (a' := ?_) ?_ ?_
          rotate_left
          · show Act.put _ (some 69) _ = _
            simp only [Act.put, List.setIfInBounds_toArray, List.set_cons_zero, List.set_cons_succ, i64_w, i32_w]
            rfl
          refine one_ (i := 11) (N := some 70) #[true, true, true, true, true, true, true, true, true, true, true, true, false, false] rfl rfl (by kernel_rfl) (by decide) (fun K hK => ?_)
          refine value_ (w1 := ?_) (v := ?_) (by rfl) rfl ?_ ?_
          rotate_left 2
          · go_simp
            constructor
            · rfl
            · rfl
          refine hK.out _ _ ⟨((hQ4.out.2.2).cell 0).trans rfl, ((hQ4.out.2.2).cell 1).trans rfl⟩ (fun hHeld => ?_)
          clear hK K
          refine norm_ (a' := ?_) ?_ ?_
          rotate_left
          · show Act.put _ (some 70) _ = _
            simp only [Act.put, List.setIfInBounds_toArray, List.set_cons_zero, List.set_cons_succ, i64_w, i32_w]
            rfl
          exact norm_ (by simp only [putAll, Act.put, List.setIfInBounds_toArray, List.set_cons_zero, List.set_cons_succ]) (hCont (A2, c2) _ ⟨⟨((hQ4.out.2.2).cell 0).trans rfl, ((hQ4.out.2.2).cell 1).trans rfl⟩, hQ4.out.1, hQ4.out.2.1, hQ4.out.2.2⟩)
        · skip
          refine goes_ Try.func22 (by kernel_rfl) rfl #[.pointer (some ⟨b, 0, none⟩), .int .i64 now, .int .i64 m1] (by rfl) rfl rfl (by simp only [List.map_toArray, List.map_cons, List.map_nil]; rfl) ?_
          with_reducible refine (take_far (w := w3) now m1 hC3'.out hx1f.out (by have := hx1t.out; omega)).mono ?_
          rintro e w4 ⟨A2, c2, rfl, hS2, hC4, hD4, hO2⟩
          have hK4 : Blk w4 w.heap.size 42 #[.int .i64 m0, .int .i64 m1] := hC3'.out.keep hD4 _ _ _ hK3'.out (by decide) (by decide)
          have hcv2 := conv_bytes c2 hS2
          have hcv1b := conv_bytes c1 (hS1'.out.kept (w' := w4) fun g hg hlt => hD4.block g hlt fun c => by have h1 := hO1'.out g hg; have h2 := hC2.out.1.lt c; have h3 : w2.drew.heap.size = w2.heap.size := rfl; omega)
          have hQ4 := Lib.hid (show CG w4 F b (takeP (takeN now m1 x1) x1).2 x.2 ∧ Did F w3 w4 ∧ Blk w4 w.heap.size 42 #[.int .i64 m0, .int .i64 m1] from ⟨hC4, hD4, hK4⟩)
          clear hC4 hD4 hS2 hO2
          refine ⟨_, rfl, ?_⟩
          refine hK.out _ _ ⟨((hQ4.out.2.2).cell 0).trans rfl, ((hQ4.out.2.2).cell 1).trans rfl⟩ (fun hHeld => ?_)
          clear hK K
          refine norm_ (a' := ?_) ?_ ?_
          rotate_left
          · show Act.put _ (some 69) _ = _
            simp only [Act.put, List.setIfInBounds_toArray, List.set_cons_zero, List.set_cons_succ, i64_w, i32_w]
            rfl
          refine two_ (i := 5) (j := 11) (Ni := some 64) (Nj := some 70) #[true, true, true, true, true, true, true, true, true, true, true, false, false, false] #[true, true, true, true, true, false, true, true, true, true, true, true, false, false] rfl rfl rfl rfl (by kernel_rfl) (by decide) (by decide) (fun K hK => ?_) (fun K hK => ?_)
          · skip
            refine value_ (w1 := ?_) (v := ?_) (by rfl) rfl ?_ ?_
            rotate_left 2
            · go_simp
              constructor
              · rfl
              · rfl
            refine hK.out _ _ ⟨((hQ4.out.2.2).cell 0).trans rfl, ((hQ4.out.2.2).cell 1).trans rfl⟩ (fun hHeld => ?_)
            clear hK K
            refine norm_ (a' := ?_) ?_ ?_
            rotate_left
            · show Act.put _ (some 64) _ = _
              simp only [Act.put, List.setIfInBounds_toArray, List.set_cons_zero, List.set_cons_succ, i64_w, i32_w]
              rfl
            refine one_ (i := 11) (N := some 70) #[true, true, true, true, true, true, true, true, true, true, true, true, false, false] rfl rfl (by kernel_rfl) (by decide) (fun K hK => ?_)
            refine value_ (w1 := ?_) (v := ?_) (by rfl) rfl ?_ ?_
            rotate_left 2
            · go_simp
              constructor
              · rfl
              · rfl
            refine hK.out _ _ ⟨((hQ4.out.2.2).cell 0).trans rfl, ((hQ4.out.2.2).cell 1).trans rfl⟩ (fun hHeld => ?_)
            clear hK K
            refine norm_ (a' := ?_) ?_ ?_
            rotate_left
            · show Act.put _ (some 70) _ = _
              simp only [Act.put, List.setIfInBounds_toArray, List.set_cons_zero, List.set_cons_succ, i64_w, i32_w]
              rfl
            exact norm_ (by simp only [putAll, Act.put, List.setIfInBounds_toArray, List.set_cons_zero, List.set_cons_succ]) (hCont (A2, c2) _ ⟨⟨((hQ4.out.2.2).cell 0).trans rfl, ((hQ4.out.2.2).cell 1).trans rfl⟩, hQ4.out.1, hQ4.out.2.1, hQ4.out.2.2⟩)
          · skip
            refine value_ (w1 := ?_) (v := ?_) (by rfl) rfl ?_ ?_
            rotate_left 2
            · go_simp
              constructor
              · rfl
              · rfl
            refine hK.out _ _ ⟨((hQ4.out.2.2).cell 0).trans rfl, ((hQ4.out.2.2).cell 1).trans rfl⟩ (fun hHeld => ?_)
            clear hK K
            refine norm_ (a' := ?_) ?_ ?_
            rotate_left
            · show Act.put _ (some 70) _ = _
              simp only [Act.put, List.setIfInBounds_toArray, List.set_cons_zero, List.set_cons_succ, i64_w, i32_w]
              rfl
            refine one_ (i := 5) (N := some 64) #[true, true, true, true, true, true, true, true, true, true, true, true, false, false] rfl rfl (by kernel_rfl) (by decide) (fun K hK => ?_)
            refine value_ (w1 := ?_) (v := ?_) (by rfl) rfl ?_ ?_
            rotate_left 2
            · go_simp
              constructor
              · rfl
              · rfl
            refine hK.out _ _ ⟨((hQ4.out.2.2).cell 0).trans rfl, ((hQ4.out.2.2).cell 1).trans rfl⟩ (fun hHeld => ?_)
            clear hK K
            refine norm_ (a' := ?_) ?_ ?_
            rotate_left
            · show Act.put _ (some 64) _ = _
              simp only [Act.put, List.setIfInBounds_toArray, List.set_cons_zero, List.set_cons_succ, i64_w, i32_w]
              rfl
            exact norm_ (by simp only [putAll, Act.put, List.setIfInBounds_toArray, List.set_cons_zero, List.set_cons_succ]) (hCont (A2, c2) _ ⟨⟨((hQ4.out.2.2).cell 0).trans rfl, ((hQ4.out.2.2).cell 1).trans rfl⟩, hQ4.out.1, hQ4.out.2.1, hQ4.out.2.2⟩)
      rintro ⟨A2, c2⟩ w4 ⟨hHeld, hC4, hD4, hK4⟩
      have hQ4 := Lib.hid (show CG w4 F b (takeP (takeN now m1 x1) x1).2 x.2 ∧ Did F w3 w4 from ⟨hC4, hD4⟩)
      clear hC4 hD4 hK4
      have hzz := tot_takeP (takeN now m1 x1) x1
      have hxx := hx1t.out
      have hz' : ¬ (9223372036854775807 < s1.size + (takeP (takeN now m1 x1) x1).1.size) := by omega
      clear hzz hxx
      refine norm_ (a' := ?_) ?_ ?_
      rotate_left
      · simp only [putAll, Act.put, List.setIfInBounds_toArray, List.set_cons_zero, List.set_cons_succ]
        rfl
      refine pure_ (i := 12) (N := some 71) (v := ?_) (a' := ?_) #[true, true, true, true, true, true, true, true, true, true, true, true, true, false] rfl rfl (by kernel_rfl) (fun _ _ _ h => h) (Or.inl ⟨by rfl, ?_⟩) ?_ ?_
      rotate_left
      · intro w'
        go_simp
        with_reducible rfl
      rotate_left
      · simp only [Act.put, List.setIfInBounds_toArray, List.set_cons_zero, List.set_cons_succ, i64_w, i32_w]
        rfl
      refine pure_ (i := 13) (N := some 11) (v := ?_) (a' := ?_) #[true, true, true, true, true, true, true, true, true, true, true, true, true, true] rfl rfl (by kernel_rfl) (fun _ _ _ h => h) (Or.inl ⟨by rfl, ?_⟩) ?_ ?_
      rotate_left
      · intro w'
        go_simp
        with_reducible rfl
      rotate_left
      · simp only [Act.put, List.setIfInBounds_toArray, List.set_cons_zero, List.set_cons_succ, i64_w, i32_w]
        rfl
      refine done_ (by kernel_rfl) ?_
      have hd3 : CG w3 G d x.1 x.2 := (hD2.out.1.kept (w' := w2.drew) fun _ _ => rfl).did hD3'.out hD2.out.2.2.1
      have hd4 : CG w4 G d x.1 x.2 := hd3.did hQ4.out.2 hD2.out.2.2.1
      have hb3 : Below w.heap.size w w3 := hD2.out.2.2.2.trans ((show Did F w2 w3 from ⟨hD3'.out.os, hD3'.out.tape, hD3'.out.output, hD3'.out.size, hD3'.out.block⟩).below hD2.out.2.2.2.size hF1.out)
      have hb4 : Below w.heap.size w w4 := hb3.trans (hQ4.out.2.below hb3.size hF1.out)
      have hR := Lib.hid (show CG w4 G d x.1 x.2 ∧ CG w4 F b (takeP (takeN now m1 x1) x1).2 x.2 ∧ Below w.heap.size w w4 from ⟨hd4, hQ4.out.1, hb4⟩)
      clear hd3 hd4 hb3 hb4
      have hre := rdy_takeP now (takeN now m0 x.1) x.1 hG1.out.2.1 (by unfold takeN; omega)
      rw [hx1'.out] at hre
      have hnn : takeN now m0 x.1 + takeN now m1 x1 = takeN now (m0 + m1) x.1 := by
        have e0 : takeN now m0 x.1 ≤ rdy now x.1 := by unfold takeN; omega
        have e1 : takeN now m1 x1 = (min ((rdy now x.1 - takeN now m0 x.1 : Nat) : Int) (max m1 0)).toNat := by unfold takeN; rw [hre]; rfl
        rw [e1]
        unfold takeN
        omega
      have htwo := takeP_two (takeN now m0 x.1) (takeN now m1 x1) x.1 (takeN_le _ _ _)
      rw [hs1'.out, hx1'.out, hnn] at htwo
      have hsm := Lib.hid htwo.1
      have hln := Lib.hid htwo.2
      have ht12 := tot_takeP (takeN now (m0 + m1) x.1) x.1
      have htx := tot_takeP (takeN now m1 x1) x1
      have hx1t' := hx1t.out
      clear hre hnn htwo
      generalize hP : takeP (takeN now (m0 + m1) x.1) x.1 = P at *
      generalize takeP (takeN now m1 x1) x1 = Q at *
      have hcm : ((s1 ++ Q.1).toList == P.1.toList) = true := by rw [hsm.out]; simp
      have hm01 : m0 + m1 ≤ 20000 := by omega
      have hP' := Lib.hid hP
      have hlq := Lib.hid (show tot Q.2 = tot P.2 from hln.out)
      have hq5 : tot Q.2 ≤ 5000 := by omega
      have hp5 : tot P.2 ≤ 5000 := by omega
      clear hP
      go_wp2_with fail
      refine (alive_any _).mono ?_
      rintro e w5 ⟨rfl, hB5⟩
      have y0 : w5.cell? ⟨w.heap.size, 0, none⟩ = some (.int .i64 m0) := bcells hB5 hHeld.1
      have y1 : w5.cell? ⟨w.heap.size, 1, none⟩ = some (.int .i64 m1) := bcells hB5 hHeld.2
      have hR5 := Lib.hid (show CG w5 G d x.1 x.2 ∧ CG w5 F b Q.2 x.2 ∧ Below w.heap.size w w5 from ⟨hR.out.1.below hB5, hR.out.2.1.below hB5, hR.out.2.2.trans (hB5.mono hR.out.2.2.size)⟩)
      clear hB5 hHeld hcv1
      go_wp2_with fail
      refine (take_any now (m0 + m1) hR5.out.1 hFl.out (by omega)).mono ?_
      rintro e w6 ⟨A6, c6, rfl, hS6, hC6, hD6⟩
      rw [hP'.out] at hS6 hC6 ⊢
      have hcv6 := conv_bytes c6 hS6
      have hR6 := Lib.hid (show CG w6 G d P.2 x.2 ∧ CG w6 F b Q.2 x.2 ∧ Below w.heap.size w w6 from ⟨hC6, hR5.out.2.1.did hD6 (fun k hk c => hD2.out.2.2.1 k c hk), hR5.out.2.2.trans (hD6.below hR5.out.2.2.size hD2.out.2.1)⟩)
      clear hS6 hC6 hD6
      go_wp2_with fail
      refine (len_any hR6.out.2.1 (by omega)).mono ?_
      rintro e w7 ⟨rfl, hB7⟩
      have hR7 := Lib.hid (show CG w7 G d P.2 x.2 ∧ Below w.heap.size w w7 from ⟨hR6.out.1.below hB7, hR6.out.2.2.trans (hB7.mono hR6.out.2.2.size)⟩)
      clear hB7 hcv6
      rw [hlq.out]
      go_wp2_with fail
      refine (len_any hR7.out.1 (by omega)).mono ?_
      rintro e w8 ⟨rfl, hB8⟩
      have hB8' := Lib.hid (hR7.out.2.trans (hB8.mono hR7.out.2.size))
      clear hB8
      go_wp2
      go_ret
      exact ⟨by simp, hB8'.out⟩
theorem parts_any (v : Value) (l : List Op4) (now m0 m1 : Int) (w : World) (hv : Script w v l) :
    Calls Try.prog 6 #[v, .int .i64 now, .agg #[.int .i64 m0, .int .i64 m1]] w fun e w' => e = .returned (.bool true) ∧ Below w.heap.size w w' := by
  cases hf : fewB l with
  | false => exact parts_few v l now m0 m1 w hv hf
  | true =>
    by_cases h1 : m0 < 0
    · exact parts_a v l now m0 m1 w hv hf h1
    by_cases h2 : m1 < 0
    · exact parts_b v l now m0 m1 w hv hf (by omega) h2
    by_cases h3 : 10000 < m0
    · exact parts_c v l now m0 m1 w hv hf (by omega) (by omega) h3
    by_cases h4 : 10000 < m1
    · exact parts_d v l now m0 m1 w hv hf (by omega) (by omega) (by omega) h4
    exact parts_yes v l now m0 m1 w hv hf (by omega) (by omega) (by omega) (by omega)
end Go.Proofs.Ytcoennfpaimclaa.Cargo
