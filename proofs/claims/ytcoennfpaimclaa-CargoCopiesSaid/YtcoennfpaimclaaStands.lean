/- stands (chapter 07): cargo has the document's bytes and ticks. Conditions: the bytes are fewer than 2^33. -/
import Derived.Test.YtcoennfpaimclaaCargoR
import Derived.Test.YtcoennfpaimclaaLive
namespace Go.Proofs.Ytcoennfpaimclaa.Ref07
open Go.RowKit Mem Tick Cargo
open Go.Proofs.YtcoennfpaimclaaW.PrintLast
open Go.Proofs.YtcoennfpaimclaaW.PrintWords (eqA_of eqf_cons eqf_last)
set_option maxRecDepth 100000
set_option linter.unusedVariables false
set_option linter.unusedSimpArgs false
theorem RefIs.mk_ {w : World} {S : ByteArray} {A : Option Addr} {c : Nat} {ts : List Int} {last : Int} (hi : IR w A ts) (hc : ts.length ≤ c) : RefIs w (.agg #[.string S, .slice A ts.length c, .int .i64 last]) S ts last := ⟨A, c, rfl, hi, hc⟩
theorem eq_rpiece (d : Nat) (w : World) (x0 y0 : Int) (x1 y1 : ByteArray) :
    (Op.equalIn (d + 2) 69 (.agg #[.int .i64 x0, .string x1]) (.agg #[.int .i64 y0, .string y1])).run Try.prog w = .ok (x0 == y0 && (x1.toList == y1.toList)) w := by
  refine eqA_of Try.underlying69 (by kernel_rfl) ?_
  refine eqf_cons (by rfl) (by go_simp; rfl) (by go_simp; rfl) (by go_simp) ?_
  exact eqf_last (by rfl) (by go_simp; rfl) (by go_simp; rfl) (by go_simp)
theorem neq_rpiece (w : World) (x0 : Int) (x1 : ByteArray) :
    (binOp .neq 69 (.agg #[.int .i64 x0, .string x1]) (.agg #[.int .i64 x0, .string x1])).run Try.prog w = .ok (.bool false) w := by
  rw [run_neq_struct, eq_rpiece 9998]
  simp [Result.andThen]
theorem eqguard_rpiece : Try.prog.eqGuardType Try.prog.depth 69 = false := by kernel_rfl

theorem stands_any {w : World} {F : Nat → Prop} {b : Nat} (x : St) (v : Value) (h : CG w F b x.1 x.2) (hg : Cargo.Good x) (hv : RefIs w v (cat x.1) (tk x.1) x.2) (ht : tot x.1 ≤ 1000000000) :
    Calls Try.prog 24 #[.pointer (some ⟨b, 0, none⟩), v] w fun e w' => e = .returned (.bool true) ∧ Below w.heap.size w w' := by
  have hn : x.1.length ≤ 2000000000000 := by have := len_tot hg.1; omega
  have hlt : tot x.1 ≤ 4611686018427387904 := by omega
  have htk : (tk x.1).length ≤ 1000000000000 := by rw [tk_length]; omega
  have hsz := Lib.hid (show (cat x.1).size = (tk x.1).length by rw [cat_size, tk_length])
  have hgrp := Lib.hid (show grpTo (cat x.1) (tk x.1) (cat x.1).size = x.1 by rw [cat_size]; exact grp_all _ x.1 rfl hg.1 hg.2.1)
  obtain ⟨A, c, rfl, hi0, hcc0⟩ := hv
  unfold cg
  have H := Lib.hid h
  clear h hg
  go_enter Try.func24, Try.ntmps24
  go_wp2
  obtain ⟨W, hW⟩ : ∃ W, W = w.alloc (.cells #[.string (cat x.1), .slice A (tk x.1).length c, .int .i64 x.2] 47) := ⟨_, rfl⟩
  rw [← hW]
  have hB : Below w.heap.size w W := by rw [hW]; exact (Below.refl _ _).alloc (Nat.le_refl _) _
  have hbx : Blk W w.heap.size 47 #[.string (cat x.1), .slice A (tk x.1).length c, .int .i64 x.2] := by rw [hW]; exact Blk.new w _ _
  have c0 : W.cell? ⟨w.heap.size, 0, none⟩ = some (.string (cat x.1)) := (hbx.cell 0).trans rfl
  have c1 : W.cell? ⟨w.heap.size, 1, none⟩ = some (.slice A (tk x.1).length c) := (hbx.cell 1).trans rfl
  have c2 : W.cell? ⟨w.heap.size, 2, none⟩ = some (.int .i64 x.2) := (hbx.cell 2).trans rfl
  have hC := Lib.hid (H.out.below hB)
  have hi := Lib.hid (hi0.below hB)
  have hcc := Lib.hid hcc0
  have hB0 := Lib.hid hB
  clear hW hB hbx hi0 hcc0
  refine start_ (n := 6) (S := fun w' => w'.cell? ⟨w.heap.size, 0, none⟩ = some (.string (cat x.1)) ∧ w'.cell? ⟨w.heap.size, 1, none⟩ = some (.slice A (tk x.1).length c) ∧ w'.cell? ⟨w.heap.size, 2, none⟩ = some (.int .i64 x.2)) (ds := [3]) #[false, false, false, false, false, false] (by kernel_rfl) rfl rfl ⟨c0, c1, c2⟩ (fun hHeld => ?_)
  refine pure_ (i := 0) (N := some 11) (v := ?_) (a' := ?_) #[true, false, false, false, false, false] rfl rfl (by kernel_rfl) (fun _ _ _ h => h) (Or.inl ⟨by rfl, ?_⟩) ?_ ?_
  rotate_left
  · intro w'
    go_simp
    with_reducible rfl
  rotate_left
  · simp only [Act.put, List.setIfInBounds_toArray, List.set_cons_zero, List.set_cons_succ, i64_w, i32_w]
    rfl
  refine take_ (i := 2) (N := some 13) (v := ?_) (a' := ?_) #[true, false, true, false, false, false] rfl rfl (by kernel_rfl) (fun _ _ _ h => h) (Or.inl ⟨by rfl, ?_⟩) hHeld ?_ ?_
  rotate_left
  · rintro w' ⟨s0, s1, s2⟩
    go_simp
    with_reducible rfl
  rotate_left
  · simp only [Act.put, List.setIfInBounds_toArray, List.set_cons_zero, List.set_cons_succ, i64_w, i32_w]
    rfl
  refine one_ (i := 1) (N := some 12) #[true, true, true, false, false, false] rfl rfl (by kernel_rfl) (by decide) (fun K hK => ?_)
  refine goes_ Try.func16 (by kernel_rfl) rfl #[.pointer (some ⟨b, 0, none⟩)] (by rfl) rfl rfl (by simp only [List.map_toArray, List.map_cons, List.map_nil]; rfl) ?_
  with_reducible refine (Cargo.list_any (w := W.drew) (hC.out.kept fun _ _ => rfl) hn).mono ?_
  rintro e w1 ⟨v1, rfl, hF1⟩
  obtain ⟨A1, k1, rfl, hl1, hm1, hA1⟩ := row_view hF1.1
  have hB1 : Below W.heap.size W w1 := ⟨hF1.2.2.os, hF1.2.2.tape, hF1.2.2.output, hF1.2.2.size, hF1.2.2.block⟩
  have d0 := bcells hB1 c0
  have d1 := bcells hB1 c1
  have d2 := bcells hB1 c2
  have hB1' := Lib.hid hB1
  have hA1' := Lib.hid hA1
  clear hF1 hA1
  refine ⟨_, rfl, ?_⟩
  refine hK.out _ _ ⟨d0, d1, d2⟩ (fun hHeld => ?_)
  clear hK K
  refine norm_ (a' := ?_) ?_ ?_
  rotate_left
  · show Act.put _ (some 12) _ = _
    simp only [Act.put, List.setIfInBounds_toArray, List.set_cons_zero, List.set_cons_succ, i64_w, i32_w]
    rfl
  refine last_ (i := 3) (N := some 14) #[true, true, true, true, false, false] rfl rfl (by kernel_rfl) (by decide) (fun K hK => ?_)
  refine goes_ Try.func33 (by kernel_rfl) rfl #[.agg #[.string (cat x.1), .slice A (tk x.1).length c, .int .i64 x.2]] (by rfl) rfl rfl (by simp only [List.map_toArray, List.map_cons, List.map_nil]; rfl) ?_
  with_reducible refine (list_any w1 _ (cat x.1) (tk x.1) x.2 (RefIs.mk_ (hi.out.below hB1) hcc.out) hsz.out htk).mono ?_
  rintro e w2 ⟨v2, rfl, hQ2, hB2⟩
  rw [hgrp.out] at hQ2
  obtain ⟨A2, k2, rfl, hl2, hm2, hA2⟩ := qview hQ2
  have hB2' := Lib.hid hB2
  have hA2' := Lib.hid hA2
  have e0 := bcells hB2 d0
  have e2 := bcells hB2 d2
  clear hA2 hQ2 hB2
  refine ⟨_, rfl, ?_⟩
  refine hK.out _ _ ?_
  clear hK K
  refine norm_ (a' := ?_) ?_ ?_
  rotate_left
  · show Act.put _ (some 14) _ = _
    simp only [Act.put, List.setIfInBounds_toArray, List.set_cons_zero, List.set_cons_succ, i64_w, i32_w]
    rfl
  refine pure_ (i := 4) (N := some 5) (v := ?_) (a' := ?_) #[true, true, true, true, true, false] rfl rfl (by kernel_rfl) (fun _ _ _ h => h) (Or.inl ⟨by rfl, ?_⟩) ?_ ?_
  rotate_left
  · intro w'
    go_simp
    with_reducible rfl
  rotate_left
  · simp only [Act.put, List.setIfInBounds_toArray, List.set_cons_zero, List.set_cons_succ, i64_w, i32_w]
    rfl
  refine pure_ (i := 5) (N := some 6) (v := ?_) (a' := ?_) #[true, true, true, true, true, true] rfl rfl (by kernel_rfl) (fun _ _ _ h => h) (Or.inl ⟨by rfl, ?_⟩) ?_ ?_
  rotate_left
  · intro w'
    go_simp
    with_reducible rfl
  rotate_left
  · simp only [Act.put, List.setIfInBounds_toArray, List.set_cons_zero, List.set_cons_succ, i64_w, i32_w]
    rfl
  refine done_ (by kernel_rfl) ?_
  have hBA := Lib.hid (hB0.out.trans ((hB1'.out.trans (hB2'.out.mono hB1'.out.size)).mono hB0.out.size))
  have hC3 := Lib.hid ((hC.out.below hB1'.out).below hB2'.out)
  clear c0 c1 c2 d0 d1 d2 hHeld
  have hcs : (cat x.1).size = tot x.1 := cat_size _
  go_wp2
  refine start_ (n := 20) (S := fun w' => w'.cell? ⟨w.heap.size, 0, none⟩ = some (.string (cat x.1)) ∧ w'.cell? ⟨w.heap.size, 2, none⟩ = some (.int .i64 x.2)) (ds := []) #[false, false, false, false, false, false, false, false, false, false, false, false, false, false, false, false, false, false, false, false] (by kernel_rfl) rfl rfl ⟨e0, e2⟩ (fun hHeld => ?_)
  refine pure_ (i := 0) (N := some 15) (v := ?_) (a' := ?_) #[true, false, false, false, false, false, false, false, false, false, false, false, false, false, false, false, false, false, false, false] rfl rfl (by kernel_rfl) (fun _ _ _ h => h) (Or.inl ⟨by rfl, ?_⟩) ?_ ?_
  rotate_left
  · intro w'
    go_simp
    with_reducible rfl
  rotate_left
  · simp only [Act.put, List.setIfInBounds_toArray, List.set_cons_zero, List.set_cons_succ, i64_w, i32_w]
    rfl
  refine pure_ (i := 1) (N := some 16) (v := ?_) (a' := ?_) #[true, true, false, false, false, false, false, false, false, false, false, false, false, false, false, false, false, false, false, false] rfl rfl (by kernel_rfl) (fun _ _ _ h => h) (Or.inl ⟨by rfl, ?_⟩) ?_ ?_
  rotate_left
  · intro w'
    go_simp
    with_reducible rfl
  rotate_left
  · simp only [Act.put, List.setIfInBounds_toArray, List.set_cons_zero, List.set_cons_succ, i64_w, i32_w]
    rfl
  refine pure_ (i := 2) (N := some 17) (v := ?_) (a' := ?_) #[true, true, true, false, false, false, false, false, false, false, false, false, false, false, false, false, false, false, false, false] rfl rfl (by kernel_rfl) (fun _ _ _ h => h) (Or.inl ⟨by rfl, ?_⟩) ?_ ?_
  rotate_left
  · intro w'
    go_simp
    with_reducible rfl
  rotate_left
  · simp only [Act.put, List.setIfInBounds_toArray, List.set_cons_zero, List.set_cons_succ, i64_w, i32_w]
    rfl
  refine pure_ (i := 3) (N := some 18) (v := ?_) (a' := ?_) #[true, true, true, true, false, false, false, false, false, false, false, false, false, false, false, false, false, false, false, false] rfl rfl (by kernel_rfl) (fun _ _ _ h => h) (Or.inl ⟨by rfl, ?_⟩) ?_ ?_
  rotate_left
  · intro w'
    go_simp
    with_reducible rfl
  rotate_left
  · simp only [Act.put, List.setIfInBounds_toArray, List.set_cons_zero, List.set_cons_succ, i64_w, i32_w]
    rfl
  refine pure_ (i := 4) (N := some 19) (v := ?_) (a' := ?_) #[true, true, true, true, true, false, false, false, false, false, false, false, false, false, false, false, false, false, false, false] rfl rfl (by kernel_rfl) (fun _ _ _ h => h) (Or.inl ⟨by rfl, ?_⟩) ?_ ?_
  rotate_left
  · intro w'
    go_simp
    with_reducible rfl
  rotate_left
  · simp only [Act.put, List.setIfInBounds_toArray, List.set_cons_zero, List.set_cons_succ, i64_w, i32_w]
    rfl
  refine pure_ (i := 5) (N := some 20) (v := ?_) (a' := ?_) #[true, true, true, true, true, true, false, false, false, false, false, false, false, false, false, false, false, false, false, false] rfl rfl (by kernel_rfl) (fun _ _ _ h => h) (Or.inl ⟨by rfl, ?_⟩) ?_ ?_
  rotate_left
  · intro w'
    go_simp
    with_reducible rfl
  rotate_left
  · simp only [Act.put, List.setIfInBounds_toArray, List.set_cons_zero, List.set_cons_succ, i64_w, i32_w]
    rfl
  refine pure_ (i := 6) (N := some 21) (v := ?_) (a' := ?_) #[true, true, true, true, true, true, true, false, false, false, false, false, false, false, false, false, false, false, false, false] rfl rfl (by kernel_rfl) (fun _ _ _ h => h) (Or.inl ⟨by rfl, ?_⟩) ?_ ?_
  rotate_left
  · intro w'
    go_simp
    with_reducible rfl
  rotate_left
  · simp only [Act.put, List.setIfInBounds_toArray, List.set_cons_zero, List.set_cons_succ, i64_w, i32_w]
    rfl
  refine pure_ (i := 8) (N := some 23) (v := ?_) (a' := ?_) #[true, true, true, true, true, true, true, false, true, false, false, false, false, false, false, false, false, false, false, false] rfl rfl (by kernel_rfl) (fun _ _ _ h => h) (Or.inl ⟨by rfl, ?_⟩) ?_ ?_
  rotate_left
  · intro w'
    go_simp
    with_reducible rfl
  rotate_left
  · simp only [Act.put, List.setIfInBounds_toArray, List.set_cons_zero, List.set_cons_succ, i64_w, i32_w]
    rfl
  refine take_ (i := 9) (N := some 24) (v := ?_) (a' := ?_) #[true, true, true, true, true, true, true, false, true, true, false, false, false, false, false, false, false, false, false, false] rfl rfl (by kernel_rfl) (fun _ _ _ h => h) (Or.inl ⟨by rfl, ?_⟩) hHeld ?_ ?_
  rotate_left
  · rintro w' ⟨s0, s1⟩
    go_simp
    with_reducible rfl
  rotate_left
  · simp only [Act.put, List.setIfInBounds_toArray, List.set_cons_zero, List.set_cons_succ, i64_w, i32_w]
    rfl
  refine pure_ (i := 10) (N := some 25) (v := ?_) (a' := ?_) #[true, true, true, true, true, true, true, false, true, true, true, false, false, false, false, false, false, false, false, false] rfl rfl (by kernel_rfl) (fun _ _ _ h => h) (Or.inl ⟨by rfl, ?_⟩) ?_ ?_
  rotate_left
  · intro w'
    go_simp
    with_reducible rfl
  rotate_left
  · simp only [Act.put, List.setIfInBounds_toArray, List.set_cons_zero, List.set_cons_succ, i64_w, i32_w]
    rfl
  refine one_ (i := 7) (N := some 22) #[true, true, true, true, true, true, true, true, true, true, true, false, false, false, false, false, false, false, false, false] rfl rfl (by kernel_rfl) (by decide) (fun K hK => ?_)
  refine goes_ Try.func15 (by kernel_rfl) rfl #[.pointer (some ⟨b, 0, none⟩)] (by rfl) rfl rfl (by simp only [List.map_toArray, List.map_cons, List.map_nil]; rfl) ?_
  with_reducible refine (Cargo.len_any (w := w2.drew) (hC3.out.kept fun _ _ => rfl) hlt).mono ?_
  rintro e w4 ⟨rfl, hB4⟩
  have hB4' : Below w2.heap.size w2 w4 := ⟨hB4.os, hB4.tape, hB4.output, hB4.size, hB4.block⟩
  have g0 := bcells hB4' e0
  have g2 := bcells hB4' e2
  have hC4 := Lib.hid (hC3.out.below hB4')
  have hB4h := Lib.hid hB4'
  clear hB4 hB4'
  refine ⟨_, rfl, ?_⟩
  refine hK.out _ _ ⟨g0, g2⟩ (fun hHeld => ?_)
  clear hK K
  refine norm_ (a' := ?_) ?_ ?_
  rotate_left
  · show Act.put _ (some 22) _ = _
    simp only [Act.put, List.setIfInBounds_toArray, List.set_cons_zero, List.set_cons_succ, i64_w, i32_w]
    rfl
  refine pure_ (i := 11) (N := some 26) (v := ?_) (a' := ?_) #[true, true, true, true, true, true, true, true, true, true, true, true, false, false, false, false, false, false, false, false] rfl rfl (by kernel_rfl) (fun _ _ _ h => h) (Or.inl ⟨by rfl, ?_⟩) ?_ ?_
  rotate_left
  · intro w'
    go_simp
    with_reducible rfl
  rotate_left
  · simp only [Act.put, List.setIfInBounds_toArray, List.set_cons_zero, List.set_cons_succ, i64_w, i32_w]
    rfl
  refine pure_ (i := 12) (N := some 27) (v := ?_) (a' := ?_) #[true, true, true, true, true, true, true, true, true, true, true, true, true, false, false, false, false, false, false, false] rfl rfl (by kernel_rfl) (fun _ _ _ h => h) (Or.inl ⟨by rfl, ?_⟩) ?_ ?_
  rotate_left
  · intro w'
    go_simp
    with_reducible rfl
  rotate_left
  · simp only [Act.put, List.setIfInBounds_toArray, List.set_cons_zero, List.set_cons_succ, i64_w, i32_w]
    rfl
  refine pure_ (i := 13) (N := some 28) (v := ?_) (a' := ?_) #[true, true, true, true, true, true, true, true, true, true, true, true, true, true, false, false, false, false, false, false] rfl rfl (by kernel_rfl) (fun _ _ _ h => h) (Or.inl ⟨by rfl, ?_⟩) ?_ ?_
  rotate_left
  · intro w'
    go_simp
    with_reducible rfl
  rotate_left
  · simp only [Act.put, List.setIfInBounds_toArray, List.set_cons_zero, List.set_cons_succ, i64_w, i32_w]
    rfl
  refine pure_ (i := 14) (N := some 29) (v := ?_) (a' := ?_) #[true, true, true, true, true, true, true, true, true, true, true, true, true, true, true, false, false, false, false, false] rfl rfl (by kernel_rfl) (fun _ _ _ h => h) (Or.inl ⟨by rfl, ?_⟩) ?_ ?_
  rotate_left
  · intro w'
    go_simp
    with_reducible rfl
  rotate_left
  · simp only [Act.put, List.setIfInBounds_toArray, List.set_cons_zero, List.set_cons_succ, i64_w, i32_w]
    rfl
  refine pure_ (i := 16) (N := some 31) (v := ?_) (a' := ?_) #[true, true, true, true, true, true, true, true, true, true, true, true, true, true, true, false, true, false, false, false] rfl rfl (by kernel_rfl) (fun _ _ _ h => h) (Or.inl ⟨by rfl, ?_⟩) ?_ ?_
  rotate_left
  · intro w'
    go_simp
    with_reducible rfl
  rotate_left
  · simp only [Act.put, List.setIfInBounds_toArray, List.set_cons_zero, List.set_cons_succ, i64_w, i32_w]
    rfl
  refine take_ (i := 17) (N := some 32) (v := ?_) (a' := ?_) #[true, true, true, true, true, true, true, true, true, true, true, true, true, true, true, false, true, true, false, false] rfl rfl (by kernel_rfl) (fun _ _ _ h => h) (Or.inl ⟨by rfl, ?_⟩) hHeld ?_ ?_
  rotate_left
  · rintro w' ⟨s0, s1⟩
    go_simp
    with_reducible rfl
  rotate_left
  · simp only [Act.put, List.setIfInBounds_toArray, List.set_cons_zero, List.set_cons_succ, i64_w, i32_w]
    rfl
  refine one_ (i := 15) (N := some 30) #[true, true, true, true, true, true, true, true, true, true, true, true, true, true, true, true, true, true, false, false] rfl rfl (by kernel_rfl) (by decide) (fun K hK => ?_)
  refine goes_ Try.func17 (by kernel_rfl) rfl #[.pointer (some ⟨b, 0, none⟩)] (by rfl) rfl rfl (by simp only [List.map_toArray, List.map_cons, List.map_nil]; rfl) ?_
  with_reducible refine (Cargo.last_any hC4.out).mono ?_
  rintro e w5 ⟨rfl, rfl⟩
  refine ⟨_, rfl, ?_⟩
  refine hK.out _ _ ⟨g0, g2⟩ (fun hHeld => ?_)
  clear hK K
  refine norm_ (a' := ?_) ?_ ?_
  rotate_left
  · show Act.put _ (some 30) _ = _
    simp only [Act.put, List.setIfInBounds_toArray, List.set_cons_zero, List.set_cons_succ, i64_w, i32_w]
    rfl
  refine pure_ (i := 18) (N := some 33) (v := ?_) (a' := ?_) #[true, true, true, true, true, true, true, true, true, true, true, true, true, true, true, true, true, true, true, false] rfl rfl (by kernel_rfl) (fun _ _ _ h => h) (Or.inl ⟨by rfl, ?_⟩) ?_ ?_
  rotate_left
  · intro w'
    go_simp
    with_reducible rfl
  rotate_left
  · simp only [Act.put, List.setIfInBounds_toArray, List.set_cons_zero, List.set_cons_succ, i64_w, i32_w]
    rfl
  refine pure_ (i := 19) (N := some 34) (v := ?_) (a' := ?_) #[true, true, true, true, true, true, true, true, true, true, true, true, true, true, true, true, true, true, true, true] rfl rfl (by kernel_rfl) (fun _ _ _ h => h) (Or.inl ⟨by rfl, ?_⟩) ?_ ?_
  rotate_left
  · intro w'
    go_simp
    with_reducible rfl
  rotate_left
  · simp only [Act.put, List.setIfInBounds_toArray, List.set_cons_zero, List.set_cons_succ, i64_w, i32_w]
    rfl
  refine done_ (by kernel_rfl) ?_
  clear hcs hHeld e0 e2 g0 g2 hB1
  go_wp2
  have hA1f := Lib.hid (show x.1 ≠ [] → ∃ g o, A1 = some ⟨g, o, none⟩ ∧ ∀ j p, x.1[j]? = some p → w4.cell? ⟨g, o + j * 2, none⟩ = some (.int .i64 p.1) ∧ w4.cell? ⟨g, o + j * 2 + 1, none⟩ = some (.string p.2) from fun hne => by
    obtain ⟨g, o, e, hc⟩ := hA1'.out hne
    exact ⟨g, o, e, fun j p hj => ⟨bcells hB4h.out (bcells hB2'.out (hc j p hj).1), bcells hB4h.out (bcells hB2'.out (hc j p hj).2)⟩⟩)
  have hA2f := Lib.hid (show x.1 ≠ [] → ∃ g o, A2 = some ⟨g, o, none⟩ ∧ ∀ j p, x.1[j]? = some p → w4.cell? ⟨g, o + j * 2, none⟩ = some (.int .i64 p.1) ∧ w4.cell? ⟨g, o + j * 2 + 1, none⟩ = some (.string p.2) from fun hne => by
    obtain ⟨g, o, e, hc, _⟩ := hA2'.out hne
    exact ⟨g, o, e, fun j p hj => ⟨bcells hB4h.out (hc j p hj).1, bcells hB4h.out (hc j p hj).2⟩⟩)
  have hBw4 := Lib.hid (hBA.out.trans (hB4h.out.mono hBA.out.size))
  go_loopw [37] (fun iv wr => ∃ k : Nat, k ≤ x.1.length ∧ iv = .int .i64 k ∧ Below w4.heap.size w4 wr) (fun iv _ => x.1.length - (intOf iv).toNat)
  case atStart => exact ⟨0, by omega, rfl, Below.refl _ _⟩
  case round =>
    obtain ⟨k, hk, rfl, hB⟩ := hrel
    by_cases hkl : k < x.1.length
    · have hne : x.1 ≠ [] := by intro h; rw [h] at hkl; simp at hkl
      obtain ⟨g1, o1, rfl, hc1⟩ := hA1f.out hne
      obtain ⟨g2, o2, rfl, hc2⟩ := hA2f.out hne
      have hx : x.1[k]? = some x.1[k] := List.getElem?_eq_getElem hkl
      have x0 := bcells hB (hc1 k _ hx).1
      have x1 := bcells hB (hc1 k _ hx).2
      have y0 := bcells hB (hc2 k _ hx).1
      have y1 := bcells hB (hc2 k _ hx).2
      generalize x.1[k] = q at *
      have hB' := Lib.hid hB
      have hk0 : (0 : Int) ≤ (k : Int) := by omega
      have hk1 : (k : Int) < x.1.length := by omega
      clear hx hc1 hc2 hne hB
      go_wp2
      have hneq := fun W => neq_rpiece W q.1 q.2
      have hgq := eqguard_rpiece
      refine start_ (n := 6) (S := fun w' => w'.cell? ⟨wr.heap.size, 0, none⟩ = some (.int .i64 q.1) ∧ w'.cell? ⟨wr.heap.size, 1, none⟩ = some (.string q.2) ∧ w'.cell? ⟨g2, o2 + k * 2, none⟩ = some (.int .i64 q.1) ∧ w'.cell? ⟨g2, o2 + k * 2 + 1, none⟩ = some (.string q.2)) (ds := []) #[false, false, false, false, false, false] (by kernel_rfl) rfl rfl ⟨(by go_simp), (by go_simp), (World.cell?_of_block (Below.heap_alloc _ _ _ (World.block_lt_of_cell? _ _ y0))).trans y0, (World.cell?_of_block (Below.heap_alloc _ _ _ (World.block_lt_of_cell? _ _ y1))).trans y1⟩ (fun hHeld => ?_)
      refine pure_ (i := 1) (N := some 43) (v := ?_) (a' := ?_) #[false, true, false, false, false, false] rfl rfl (by kernel_rfl) (fun _ _ _ h => h) (Or.inl ⟨by rfl, ?_⟩) ?_ ?_
      rotate_left
      · intro w'
        go_simp
        with_reducible rfl
      rotate_left
      · simp only [Act.put, List.setIfInBounds_toArray, List.set_cons_zero, List.set_cons_succ, i64_w, i32_w]
        rfl
      refine pure_ (i := 2) (N := some 44) (v := ?_) (a' := ?_) #[false, true, true, false, false, false] rfl rfl (by kernel_rfl) (fun _ _ _ h => h) (Or.inl ⟨by rfl, ?_⟩) ?_ ?_
      rotate_left
      · intro w'
        go_simp
        with_reducible rfl
      rotate_left
      · simp only [Act.put, List.setIfInBounds_toArray, List.set_cons_zero, List.set_cons_succ, i64_w, i32_w]
        rfl
      refine pure_ (i := 3) (N := some 45) (v := ?_) (a' := ?_) #[false, true, true, true, false, false] rfl rfl (by kernel_rfl) (fun _ _ _ h => h) (Or.inl ⟨by rfl, ?_⟩) ?_ ?_
      rotate_left
      · intro w'
        go_simp
        with_reducible rfl
      rotate_left
      · simp only [Act.put, List.setIfInBounds_toArray, List.set_cons_zero, List.set_cons_succ, i64_w, i32_w]
        rfl
      refine take_ (i := 0) (N := some 42) (v := ?_) (a' := ?_) #[true, true, true, true, false, false] rfl rfl (by kernel_rfl) (fun _ _ _ h => h) (Or.inl ⟨by rfl, ?_⟩) hHeld ?_ ?_
      rotate_left
      · rintro w' ⟨s0, s1, s2, s3⟩
        go_simp
        with_reducible rfl
      rotate_left
      · simp only [Act.put, List.setIfInBounds_toArray, List.set_cons_zero, List.set_cons_succ, i64_w, i32_w]
        rfl
      refine take_ (i := 4) (N := some 46) (v := ?_) (a' := ?_) #[true, true, true, true, true, false] rfl rfl (by kernel_rfl) (fun _ _ _ h => h) (Or.inl ⟨by rfl, ?_⟩) hHeld ?_ ?_
      rotate_left
      · rintro w' ⟨s0, s1, s2, s3⟩
        go_simp
        with_reducible rfl
      rotate_left
      · simp only [Act.put, List.setIfInBounds_toArray, List.set_cons_zero, List.set_cons_succ, i64_w, i32_w]
        rfl
      refine pure_ (i := 5) (N := some 47) (v := ?_) (a' := ?_) #[true, true, true, true, true, true] rfl rfl (by kernel_rfl) (fun _ _ _ h => h) (Or.inl ⟨by rfl, ?_⟩) ?_ ?_
      rotate_left
      · intro w'
        go_simp
        with_reducible rfl
      rotate_left
      · simp only [Act.put, List.setIfInBounds_toArray, List.set_cons_zero, List.set_cons_succ, i64_w, i32_w]
        rfl
      refine done_ (by kernel_rfl) ?_
      clear hneq hgq hHeld
      go_wp2
      go_roundw
      case rel => exact ⟨k + 1, by omega, by go_num, (hB'.out.alloc hB'.out.size _).drew⟩
      case measure => simp [intOf]; omega
    · have hk2 : k = x.1.length := by omega
      subst hk2
      have hnl : ¬ (x.1.length < x.1.length) := by omega
      have hCr := Lib.hid (hC4.out.below hB)
      have hBf := Lib.hid (hBw4.out.trans (hB.mono hBw4.out.size))
      cases hxs : x.1 with
      | nil =>
        rw [hxs] at hCr
        clear hB
        simp only [hxs, List.length_nil] at *
        go_wp2_with fail
        refine (Cargo.next_any hCr.out).mono ?_
        rintro e w6 ⟨rfl, rfl⟩
        dsimp only [List.isEmpty_nil, Bool.not_true]
        go_wp2
        go_ret
        exact ⟨by simp [nxt], hBf.out⟩
      | cons q r =>
        obtain ⟨g2, o2, rfl, hc2⟩ := hA2f.out (by rw [hxs]; simp)
        have z0 := bcells hB (hc2 0 q (by rw [hxs]; rfl)).1
        rw [Nat.zero_mul, Nat.add_zero] at z0
        have hlp : (0 : Int) < x.1.length := by rw [hxs]; simp
        have hd0 : decide ((0 : Int) < x.1.length) = true := decide_eq_true hlp
        have hlp' : 0 < x.1.length := by omega
        have hd0' : decide (0 < x.1.length) = true := decide_eq_true hlp'
        rw [hxs] at hCr
        clear hB hc2
        have hxs' := Lib.hid hxs
        clear hxs
        generalize x.1.length = nn at *
        go_wp2_with fail
        refine (Cargo.next_any hCr.out).mono ?_
        rintro e w6 ⟨rfl, rfl⟩
        dsimp only [List.isEmpty_cons, Bool.not_false]
        rw [show nxt (q :: r) = q.1 from rfl]
        go_wp2
        go_ret
        exact ⟨by simp, hBf.out⟩
end Go.Proofs.Ytcoennfpaimclaa.Ref07
