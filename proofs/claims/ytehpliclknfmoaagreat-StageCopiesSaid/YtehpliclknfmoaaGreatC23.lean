/- The reference's Do of a stage (chapter 10). Conditions: the stage may be, the bytes are fewer than 2^30. -/
import Derived.Test.YtehpliclknfmoaaGreatC22
namespace Go.Proofs.YtehpliclknfmoaaGreat.RefT
open Go.RowKit Mem Tick Cargo Toxic Stage Ref07 Bucket
open Go.Proofs.YtehpliclknfmoaaGreatW.PrintLast Pu
set_option maxRecDepth 100000
set_option linter.unusedVariables false
set_option linter.unusedSimpArgs false
theorem lO_ {ops : Array Oper} {rest : List Oper} {o : Oper} {a a' : Act} {w : World} {Q : Exit → Act → World → Prop} {m : Nat} {p : Stage.Op} (i : Tmp) (hb : Blk w m 44 (opc p)) (h : wpList Tryz.prog ops Q rest a' w) (ho : o.op = .load 44 (.tmp i) := by exact rfl) (he : a.eval (.tmp i) = .pointer (some ⟨m, 0, none⟩) := by rfl)
    (hw : Region.wanted o (yielded ops a.tmps) = true := by rfl) (ha : a.put o.dst (.agg (opc p)) = a' := by simp only [Act.put, List.setIfInBounds_toArray, List.set_cons_zero, List.set_cons_succ]; rfl) : wpList Tryz.prog ops Q (o :: rest) a w :=
  lp_ (load_run ho he hb Tryz.underlying44 rfl (by kernel_rfl)) hw ha h
theorem do_01 (s : Sg) (A : Option Addr) (c : Nat) (o : Stage.Op) (w : World) (hi : RI w s A c) (hk : o.kind = 0 ∨ o.kind = 1) (hd : D64 s) (ht : held s + o.s.size ≤ 1000000000) (r0 : 0 ≤ s.room) (r1 : s.room ≤ 1000000000000) :
    Calls Tryz.prog 8 #[.agg (rcells s A c), .agg (opc o)] w (DQ w (doesS s o) (doesA s o)) := by
  have hI := Lib.hid hi
  have hbr := Lib.hid (fun (wy : World) (h : RI wy s A c) => bring_any s A c o wy h hk hd ht r0 r1)
  clear hi hd ht r0 r1
  generalize doesS s o = sF at *
  generalize doesA s o = aF at *
  obtain ⟨W, hW, hB, h2, h3, h4, h5⟩ := four_blk w s A c o
  have k0 : W.cell? ⟨w.heap.size + 1, 0, none⟩ = some (.int .i64 o.kind) := (h3.out.cell 0).trans rfl
  rcases hk with hk | hk
  · rw [hk] at k0
    clear hk
    go_enter Tryz.func8, Tryz.ntmps8
    go_upto_region 1 with (fail)
    rw [← hW]
    clear hW
    go_upto_region 4 with (fail)
    refine wp_region_lit (l := [_, _, _, _, _, _, _]) ?_
    refine lS_ 2 h2.out ?_
    refine lO_ 3 h3.out ?_
    refine cl_ 20 #[.agg (rcells s A c), .agg (opc o)] ?_ Tryz.func25
    refine (hbr.out W (hI.out.below hB.out)).mono ?_
    rintro e w5 ⟨A2, c2, rfl, hJ0, hB5⟩
    have hJ := Lib.hid hJ0
    have d4 := Lib.hid (h4.out.below hB5)
    have d5 := Lib.hid (h5.out.below hB5)
    have dB := Lib.hid (hB.out.trans (hB5.mono hB.out.size))
    clear hJ0 hB5 h2 h3 h4 h5 hB hbr k0 hI
    refine ⟨_, rfl, ?_⟩
    refine nl_ (by simp only [Act.put, List.setIfInBounds_toArray, List.set_cons_zero, List.set_cons_succ]; rfl) ?_
    refine ls_ ?_
    refine ls_ ?_
    refine sS_ 4 21 d4.out (fun W3 q1 q2 q3 => ?_)
    refine sA_ 5 22 (Eq.trans (q2 _ (by omega)) d5.out) (fun W4 r1 r2 r3 => ?_)
    refine wpList_nil ?_
    have hR := Lib.hid (And.intro (show Blk W4 _ _ _ from Eq.trans (r2 _ (by omega)) q1) (And.intro r1 (r3 _ w (by omega) (q3 _ w (by omega) dB.out))))
    have hJ2 := Lib.hid ((hJ.out.heap d4.out (by decide) q2).heap (show Blk W3 _ _ _ from Eq.trans (q2 _ (by omega)) d5.out) (by decide) r2)
    clear q1 q2 q3 r1 r2 r3 hJ d4 d5 dB
    go_wp2
    exact bodyPost_ret (back3_ hR.out.1 hR.out.2.1 Tryz.results8 rfl rfl Tryz.underlying38 rfl inf22 Tryz.underlying46 rfl (by kernel_rfl)) rfl ⟨A2, c2, rfl, hJ2.out, hR.out.2.2⟩
  · rw [hk] at k0
    clear hk
    go_enter Tryz.func8, Tryz.ntmps8
    go_upto_region 1 with (fail)
    rw [← hW]
    clear hW
    go_upto_region 4 with (fail)
    refine wp_region_lit (l := [_, _, _, _, _, _, _]) ?_
    refine lS_ 2 h2.out ?_
    refine lO_ 3 h3.out ?_
    refine cl_ 20 #[.agg (rcells s A c), .agg (opc o)] ?_ Tryz.func25
    refine (hbr.out W (hI.out.below hB.out)).mono ?_
    rintro e w5 ⟨A2, c2, rfl, hJ0, hB5⟩
    have hJ := Lib.hid hJ0
    have d4 := Lib.hid (h4.out.below hB5)
    have d5 := Lib.hid (h5.out.below hB5)
    have dB := Lib.hid (hB.out.trans (hB5.mono hB.out.size))
    clear hJ0 hB5 h2 h3 h4 h5 hB hbr k0 hI
    refine ⟨_, rfl, ?_⟩
    refine nl_ (by simp only [Act.put, List.setIfInBounds_toArray, List.set_cons_zero, List.set_cons_succ]; rfl) ?_
    refine ls_ ?_
    refine ls_ ?_
    refine sS_ 4 21 d4.out (fun W3 q1 q2 q3 => ?_)
    refine sA_ 5 22 (Eq.trans (q2 _ (by omega)) d5.out) (fun W4 r1 r2 r3 => ?_)
    refine wpList_nil ?_
    have hR := Lib.hid (And.intro (show Blk W4 _ _ _ from Eq.trans (r2 _ (by omega)) q1) (And.intro r1 (r3 _ w (by omega) (q3 _ w (by omega) dB.out))))
    have hJ2 := Lib.hid ((hJ.out.heap d4.out (by decide) q2).heap (show Blk W3 _ _ _ from Eq.trans (q2 _ (by omega)) d5.out) (by decide) r2)
    clear q1 q2 q3 r1 r2 r3 hJ d4 d5 dB
    go_wp2
    exact bodyPost_ret (back3_ hR.out.1 hR.out.2.1 Tryz.results8 rfl rfl Tryz.underlying38 rfl inf22 Tryz.underlying46 rfl (by kernel_rfl)) rfl ⟨A2, c2, rfl, hJ2.out, hR.out.2.2⟩
theorem do_5 (s : Sg) (A : Option Addr) (c : Nat) (o : Stage.Op) (w : World) (hi : RI w s A c) (hk : o.kind = 5) (hn : o.t.name.size ≤ 9223372036854775807) (hok : s.t.kind = 2 → okB s.b0 s.b1 s.b2 s.b3 = true) (hc0 : 0 ≤ s.clock) (hc1 : s.clock ≤ 1099511627776) :
    Calls Tryz.prog 8 #[.agg (rcells s A c), .agg (opc o)] w (DQ w (doesS s o) (doesA s o)) := by
  have hI := Lib.hid hi
  have hbr := Lib.hid (fun (wy : World) (h : RI wy s A c) => rupd_any s A c o wy h hk hn hok hc0 hc1)
  clear hi hn hok hc0 hc1
  generalize doesS s o = sF at *
  generalize doesA s o = aF at *
  obtain ⟨W, hW, hB, h2, h3, h4, h5⟩ := four_blk w s A c o
  have k0 : W.cell? ⟨w.heap.size + 1, 0, none⟩ = some (.int .i64 o.kind) := (h3.out.cell 0).trans rfl
  rw [hk] at k0
  clear hk
  go_enter Tryz.func8, Tryz.ntmps8
  go_upto_region 1 with (fail)
  rw [← hW]
  clear hW
  go_upto_region 28 with (fail)
  refine wp_region_lit (l := [_, _, _, _, _, _, _]) ?_
  refine lS_ 2 h2.out ?_
  refine lO_ 3 h3.out ?_
  refine cl_ 108 #[.agg (rcells s A c), .agg (opc o)] ?_ Tryz.func30
  refine (hbr.out W (hI.out.below hB.out)).mono ?_
  rintro e w5 ⟨A2, c2, rfl, hJ0, hB5⟩
  have hJ := Lib.hid hJ0
  have d4 := Lib.hid (h4.out.below hB5)
  have d5 := Lib.hid (h5.out.below hB5)
  have dB := Lib.hid (hB.out.trans (hB5.mono hB.out.size))
  clear hJ0 hB5 h2 h3 h4 h5 hB hbr k0 hI
  refine ⟨_, rfl, ?_⟩
  refine nl_ (by simp only [Act.put, List.setIfInBounds_toArray, List.set_cons_zero, List.set_cons_succ]; rfl) ?_
  refine ls_ ?_
  refine ls_ ?_
  refine sS_ 4 109 d4.out (fun W3 q1 q2 q3 => ?_)
  refine sA_ 5 110 (Eq.trans (q2 _ (by omega)) d5.out) (fun W4 r1 r2 r3 => ?_)
  refine wpList_nil ?_
  have hR := Lib.hid (And.intro (show Blk W4 _ _ _ from Eq.trans (r2 _ (by omega)) q1) (And.intro r1 (r3 _ w (by omega) (q3 _ w (by omega) dB.out))))
  have hJ2 := Lib.hid ((hJ.out.heap d4.out (by decide) q2).heap (show Blk W3 _ _ _ from Eq.trans (q2 _ (by omega)) d5.out) (by decide) r2)
  clear q1 q2 q3 r1 r2 r3 hJ d4 d5 dB
  go_wp2
  exact bodyPost_ret (back3_ hR.out.1 hR.out.2.1 Tryz.results8 rfl rfl Tryz.underlying38 rfl inf22 Tryz.underlying46 rfl (by kernel_rfl)) rfl ⟨A2, c2, rfl, hJ2.out, hR.out.2.2⟩
theorem do_else (s : Sg) (A : Option Addr) (c : Nat) (o : Stage.Op) (w : World) (hi : RI w s A c) (h0_ : o.kind ≠ 0) (h1_ : o.kind ≠ 1) (h2_ : o.kind ≠ 2) (h3_ : o.kind ≠ 3) (h4_ : o.kind ≠ 4) (h5_ : o.kind ≠ 5) (h6_ : o.kind ≠ 6) :
    Calls Tryz.prog 8 #[.agg (rcells s A c), .agg (opc o)] w (DQ w s (0, ⟨#[]⟩, 0)) := by
  have hI := Lib.hid hi
  have t0_ : (o.kind == 0) = false := by simpa using h0_
  have t1_ : (o.kind == 1) = false := by simpa using h1_
  have t2_ : (o.kind == 2) = false := by simpa using h2_
  have t3_ : (o.kind == 3) = false := by simpa using h3_
  have t4_ : (o.kind == 4) = false := by simpa using h4_
  have t5_ : (o.kind == 5) = false := by simpa using h5_
  have t6_ : (o.kind == 6) = false := by simpa using h6_
  clear hi h0_ h1_ h2_ h3_ h4_ h5_ h6_
  obtain ⟨W, hW, hB, h2, h3, h4, h5⟩ := four_blk w s A c o
  have k0 : W.cell? ⟨w.heap.size + 1, 0, none⟩ = some (.int .i64 o.kind) := (h3.out.cell 0).trans rfl
  go_enter Tryz.func8, Tryz.ntmps8
  go_upto_region 1 with (fail)
  rw [← hW]
  clear hW
  go_upto_region 33 with (fail)
  refine wp_region_lit (l := [_, _, _, _]) ?_
  refine lS_ 2 h2.out ?_
  refine ls_ ?_
  refine sS_ 4 124 h4.out (fun W3 q1 q2 q3 => ?_)
  refine sA_ 5 125 (Eq.trans (q2 _ (by omega)) h5.out) (fun W4 r1 r2 r3 => ?_)
  refine wpList_nil ?_
  have hR := Lib.hid (And.intro (show Blk W4 _ _ _ from Eq.trans (r2 _ (by omega)) q1) (And.intro r1 (r3 _ w (by omega) (q3 _ w (by omega) hB.out))))
  clear q1 q2 q3 r1 r2 r3
  go_wp2
  exact bodyPost_ret (back3_ hR.out.1 hR.out.2.1 Tryz.results8 rfl rfl Tryz.underlying38 rfl inf22 Tryz.underlying46 rfl (by kernel_rfl)) rfl ⟨A, c, rfl, hI.out.below hR.out.2.2, hR.out.2.2⟩
theorem rc_closed (s : Sg) (A : Option Addr) (c : Nat) (C : Int) : ((rcells s A c).setIfInBounds 19 (.bool true)).setIfInBounds 20 (.int .i64 C) = rcells { s with closed := true, at_ := C } A c := rfl
theorem do_3 (s : Sg) (A : Option Addr) (c : Nat) (o : Stage.Op) (w : World) (hi : RI w s A c) (hk : o.kind = 3) :
    Calls Tryz.prog 8 #[.agg (rcells s A c), .agg (opc o)] w (DQ w (closeP s o.now) (0, ⟨#[]⟩, 0)) := by
  have hI := Lib.hid (show RI w (closeP s o.now) A c from by unfold closeP; split <;> exact hi)
  have hcp := Lib.hid (show closeP s o.now = if s.closed = true then nowP s o.now else { nowP s o.now with closed := true, at_ := (nowP s o.now).clock } from rfl)
  have hz := Stage.add_zero o.now
  have hnp := Lib.hid (show nowP s o.now = { s with clock := max s.clock (nr o.now) } from by unfold nowP; rw [hz])
  clear hi hz
  generalize closeP s o.now = sF at *
  obtain ⟨W, hW, hB, h2, h3, h4, h5⟩ := four_blk w s A c o
  have k0 : W.cell? ⟨w.heap.size + 1, 0, none⟩ = some (.int .i64 o.kind) := (h3.out.cell 0).trans rfl
  rw [hk] at k0
  clear hk
  have k1 : W.cell? ⟨w.heap.size + 1, 1, none⟩ = some (.int .i64 o.now) := (h3.out.cell 1).trans rfl
  have c16 : W.cell? ⟨w.heap.size, 16, none⟩ = some (.int .i64 s.clock) := (h2.out.cell 16).trans rfl
  have f16 := h2.out.free 16
  go_enter Tryz.func8, Tryz.ntmps8
  go_upto_region 1 with (fail)
  rw [← hW]
  clear hW
  go_wp2_with fail
  refine (Ref01.near_any _ _).mono ?_
  rintro e w1 ⟨rfl, rfl⟩
  dsimp only
  generalize nr o.now = nw at *
  go_upto_if 84 with fail
  generalize hq : decide (s.clock < nw) = B at *
  go_cut [] (fun wx => Blk wx w.heap.size 38 (rcells (nowP s o.now) A c) ∧ Blk wx (w.heap.size + 2) 38 zcells ∧ Blk wx (w.heap.size + 3) 46 zans ∧ Below w.heap.size w wx)
  case first =>
    cases B with
    | true =>
      have hc := of_decide_eq_true hq
      have e1 := Lib.hid (show nowP s o.now = { s with clock := nw } from by rw [hnp.out, Int.max_eq_right (by omega)])
      have g2 := h2.out.set_ 16 (.int .i64 nw)
      rw [rc_clock, ← e1.out] at g2
      have HM := Lib.hid (And.intro g2 (And.intro (h4.out.far (p := ⟨w.heap.size, 16, none⟩) (by show w.heap.size + 2 ≠ w.heap.size; omega) (.int .i64 nw)) (And.intro (h5.out.far (p := ⟨w.heap.size, 16, none⟩) (by show w.heap.size + 3 ≠ w.heap.size; omega) (.int .i64 nw)) (hB.out.setCell (p := ⟨w.heap.size, 16, none⟩) (Nat.le_refl _) (.int .i64 nw)))))
      clear g2 hc e1 hq
      go_wp2
      go_meet
      exact HM.out
    | false =>
      have hc := of_decide_eq_false hq
      have e1 := Lib.hid (show nowP s o.now = s from by rw [hnp.out, Int.max_eq_left (by omega)])
      clear hc hq
      go_wp2
      go_meet
      exact ⟨by rw [e1.out]; exact h2.out, h4.out, h5.out, hB.out⟩
  case rest =>
  obtain ⟨b2, b4, b5, bB⟩ := hcut
  have b2 := Lib.hid b2
  have b4 := Lib.hid b4
  have b5 := Lib.hid b5
  have bB := Lib.hid bB
  clear hq h2 h3 h4 h5 hB k0 k1 c16 f16 hnp
  have hcl : (nowP s o.now).closed = s.closed := rfl
  rw [← hcl] at hcp
  generalize nowP s o.now = s1 at *
  have c19 : wc.cell? ⟨w.heap.size, 19, none⟩ = some (.bool s1.closed) := (b2.out.cell 19).trans rfl
  have c16 : wc.cell? ⟨w.heap.size, 16, none⟩ = some (.int .i64 s1.clock) := (b2.out.cell 16).trans rfl
  have c20 : wc.cell? ⟨w.heap.size, 20, none⟩ = some (.int .i64 s1.at_) := (b2.out.cell 20).trans rfl
  have f19 := b2.out.free 19
  have f20 := b2.out.free 20
  clear hcl
  cases hc : s1.closed with
  | true =>
    rw [hc] at c19
    have hsF := Lib.hid (show sF = s1 from by rw [hcp.out, if_pos hc])
    have v2 := Lib.hid (show Blk wc w.heap.size 38 (rcells sF A c) from by rw [hsF.out]; exact b2.out)
    clear hc hcp
    go_upto_region 33 with (fail)
    refine wp_region_lit (l := [_, _, _, _]) ?_
    refine lS_ 2 v2.out ?_
    refine ls_ ?_
    refine sS_ 4 124 b4.out (fun W3 q1 q2 q3 => ?_)
    refine sA_ 5 125 (Eq.trans (q2 _ (by omega)) b5.out) (fun W4 r1 r2 r3 => ?_)
    refine wpList_nil ?_
    have hR := Lib.hid (And.intro (show Blk W4 _ _ _ from Eq.trans (r2 _ (by omega)) q1) (And.intro r1 (r3 _ w (by omega) (q3 _ w (by omega) bB.out))))
    clear q1 q2 q3 r1 r2 r3
    go_wp2
    exact bodyPost_ret (back3_ hR.out.1 hR.out.2.1 Tryz.results8 rfl rfl Tryz.underlying38 rfl inf22 Tryz.underlying46 rfl (by kernel_rfl)) rfl ⟨A, c, rfl, hI.out.below hR.out.2.2, hR.out.2.2⟩
  | false =>
    rw [hc] at c19
    have hsF := Lib.hid (show sF = { s1 with closed := true, at_ := s1.clock } from by rw [hcp.out, hc]; exact if_neg (by simp))
    clear hc hcp
    have g2 := (b2.out.set_ 19 (.bool true)).set_ 20 (.int .i64 s1.clock)
    rw [rc_closed, ← hsF.out] at g2
    have g4 := (b4.out.far (p := ⟨w.heap.size, 19, none⟩) (by show w.heap.size + 2 ≠ w.heap.size; omega) (.bool true)).far (p := ⟨w.heap.size, 20, none⟩) (by show w.heap.size + 2 ≠ w.heap.size; omega) (.int .i64 s1.clock)
    have g5 := (b5.out.far (p := ⟨w.heap.size, 19, none⟩) (by show w.heap.size + 3 ≠ w.heap.size; omega) (.bool true)).far (p := ⟨w.heap.size, 20, none⟩) (by show w.heap.size + 3 ≠ w.heap.size; omega) (.int .i64 s1.clock)
    have gB := (bB.out.setCell (p := ⟨w.heap.size, 19, none⟩) (Nat.le_refl _) (.bool true)).setCell (p := ⟨w.heap.size, 20, none⟩) (Nat.le_refl _) (.int .i64 s1.clock)
    have g2 := Lib.hid g2
    have g4 := Lib.hid g4
    have g5 := Lib.hid g5
    have gB := Lib.hid gB
    go_upto_region 33 with (fail)
    refine wp_region_lit (l := [_, _, _, _]) ?_
    refine lS_ 2 g2.out ?_
    refine ls_ ?_
    refine sS_ 4 124 g4.out (fun W3 q1 q2 q3 => ?_)
    refine sA_ 5 125 (Eq.trans (q2 _ (by omega)) g5.out) (fun W4 r1 r2 r3 => ?_)
    refine wpList_nil ?_
    have hR := Lib.hid (And.intro (show Blk W4 _ _ _ from Eq.trans (r2 _ (by omega)) q1) (And.intro r1 (r3 _ w (by omega) (q3 _ w (by omega) gB.out))))
    clear q1 q2 q3 r1 r2 r3
    go_wp2
    exact bodyPost_ret (back3_ hR.out.1 hR.out.2.1 Tryz.results8 rfl rfl Tryz.underlying38 rfl inf22 Tryz.underlying46 rfl (by kernel_rfl)) rfl ⟨A, c, rfl, hI.out.below hR.out.2.2, hR.out.2.2⟩
theorem do_4 (s : Sg) (A : Option Addr) (c : Nat) (o : Stage.Op) (w : World) (hi : RI w s A c) (hk : o.kind = 4) :
    Calls Tryz.prog 8 #[.agg (rcells s A c), .agg (opc o)] w (DQ w (lookP s o.now) ((lookP s o.now).state, ⟨#[]⟩, 0)) := by
  have hI := Lib.hid (show RI w (lookP s o.now) A c from hi)
  clear hi
  obtain ⟨W, hW, hB, h2, h3, h4, h5⟩ := four_blk w s A c o
  have k0 : W.cell? ⟨w.heap.size + 1, 0, none⟩ = some (.int .i64 o.kind) := (h3.out.cell 0).trans rfl
  rw [hk] at k0
  clear hk
  go_enter Tryz.func8, Tryz.ntmps8
  go_upto_region 1 with (fail)
  rw [← hW]
  clear hW
  go_upto_region 25 with (fail)
  refine lookR_ 96 97 98 99 h2.out h3.out (fun W2 q1 q2 q3 => ?_)
  have b2 := Lib.hid q1
  have b3 := Lib.hid (show Blk W2 (w.heap.size + 1) 44 (opc o) from Eq.trans (q2 _ (by omega) h3.out.lt) h3.out)
  have b4 := Lib.hid (show Blk W2 (w.heap.size + 2) 38 zcells from Eq.trans (q2 _ (by omega) h4.out.lt) h4.out)
  have b5 := Lib.hid (show Blk W2 (w.heap.size + 3) 46 zans from Eq.trans (q2 _ (by omega) h5.out.lt) h5.out)
  have bB := Lib.hid (q3 _ w (Nat.le_refl _) hB.out)
  clear q1 q2 q3 h2 h3 h4 h5 hB
  generalize lookP s o.now = s1 at *
  have b2 := Lib.hid (show Blk W2.drew w.heap.size 38 (rcells s1 A c) from b2.out)
  have b4 := Lib.hid (show Blk W2.drew (w.heap.size + 2) 38 zcells from b4.out)
  have b5 := Lib.hid (show Blk W2.drew (w.heap.size + 3) 46 zans from b5.out)
  have bB := Lib.hid (show Below w.heap.size w W2.drew from bB.out.drew)
  have r21 : W2.drew.cell? ⟨w.heap.size, 21, none⟩ = some (.int .i64 s1.state) := (b2.out.cell 21).trans rfl
  clear b3 k0
  go_upto_region 26 with (fail)
  refine start_ (n := 6) (S := fun w' => Blk w' w.heap.size 38 (rcells s1 A c) ∧ w'.cell? ⟨w.heap.size, 21, none⟩ = some (.int .i64 s1.state)) (ds := []) (m_ 6 0) (by kernel_rfl) rfl (by kernel_rfl) ⟨b2.out, r21⟩ (fun hHeld => ?_)
  refine pq_ 1 101 6 2 ?_
  refine tS_ 0 100 6 3 2 hHeld ?_
  refine tq_ 2 102 6 7 hHeld ?_
  refine pq_ 3 103 6 15 ?_
  refine one_ (i := 4) (N := none) (m_ 6 31) rfl rfl (by kernel_rfl) (by decide) (fun K hK => ?_)
  refine stq_ 4 100 b4.out (fun W3 q1 q2 q3 => ?_)
  have y2 : Blk W3 w.heap.size 38 (rcells s1 A c) := Eq.trans (q2 _ (by omega)) b2.out
  have y3 : W3.cell? ⟨w.heap.size, 21, none⟩ = some (.int .i64 s1.state) := (y2.cell 21).trans rfl
  have y5 : Blk W3 (w.heap.size + 3) 46 zans := Eq.trans (q2 _ (by omega)) b5.out
  have yB := q3 _ w (by omega) bB.out
  refine hK.out _ _ ⟨y2, y3⟩ (fun hHeld => ?_)
  clear hK K
  refine one_ (i := 5) (N := none) (m_ 6 63) rfl rfl (by kernel_rfl) (by decide) (fun K hK => ?_)
  refine staq_ 5 103 y5 (fun W4 p1 p2 p3 => ?_)
  have z2 : Blk W4 w.heap.size 38 (rcells s1 A c) := Eq.trans (p2 _ (by omega)) y2
  have z3 : W4.cell? ⟨w.heap.size, 21, none⟩ = some (.int .i64 s1.state) := (z2.cell 21).trans rfl
  have hR := Lib.hid (And.intro (show Blk W4 _ _ _ from Eq.trans (p2 _ (by omega)) q1) (And.intro p1 (p3 _ w (by omega) yB)))
  refine hK.out _ _ ⟨z2, z3⟩ (fun hHeld => ?_)
  clear hK K
  refine done_ (by kernel_rfl) ?_
  clear hHeld
  go_wp2
  exact bodyPost_ret (back3_ hR.out.1 hR.out.2.1 Tryz.results8 rfl rfl Tryz.underlying38 rfl inf22 Tryz.underlying46 rfl (by kernel_rfl)) rfl ⟨A, c, rfl, hI.out.below hR.out.2.2, hR.out.2.2⟩
theorem rc_drain (s : Sg) (A : Option Addr) (c : Nat) : (((rcells s A c).setIfInBounds 11 (.string ⟨#[]⟩)).setIfInBounds 12 (.slice none 0 0)).setIfInBounds 13 (.int .i64 s.c.2) = rcells (drainP s) none 0 := rfl
theorem do_6 (s : Sg) (A : Option Addr) (c : Nat) (o : Stage.Op) (w : World) (hi : RI w s A c) (hk : o.kind = 6) :
    Calls Tryz.prog 8 #[.agg (rcells s A c), .agg (opc o)] w (DQ w (drainP s) (0, cat s.c.1, 0)) := by
  obtain ⟨W, hW, hB, h2, h3, h4, h5⟩ := four_blk w s A c o
  have k0 : W.cell? ⟨w.heap.size + 1, 0, none⟩ = some (.int .i64 o.kind) := (h3.out.cell 0).trans rfl
  rw [hk] at k0
  clear hk hi
  have c11 : W.cell? ⟨w.heap.size, 11, none⟩ = some (.string (cat s.c.1)) := (h2.out.cell 11).trans rfl
  have c12 : W.cell? ⟨w.heap.size, 12, none⟩ = some (.slice A (tk s.c.1).length c) := (h2.out.cell 12).trans rfl
  have c13 : W.cell? ⟨w.heap.size, 13, none⟩ = some (.int .i64 s.c.2) := (h2.out.cell 13).trans rfl
  have f11 := h2.out.free 11
  have f12 := h2.out.free 12
  have f13 := h2.out.free 13
  go_enter Tryz.func8, Tryz.ntmps8
  go_upto_region 1 with (fail)
  rw [← hW]
  clear hW
  go_upto_region 32 with (fail)
  have g2 := ((h2.out.set_ 11 (.string ⟨#[]⟩)).set_ 12 (.slice none 0 0)).set_ 13 (.int .i64 s.c.2)
  rw [rc_drain] at g2
  have g4 := ((h4.out.far (p := ⟨w.heap.size, 11, none⟩) (by show w.heap.size + 2 ≠ w.heap.size; omega) (.string ⟨#[]⟩)).far (p := ⟨w.heap.size, 12, none⟩) (by show w.heap.size + 2 ≠ w.heap.size; omega) (.slice none 0 0)).far (p := ⟨w.heap.size, 13, none⟩) (by show w.heap.size + 2 ≠ w.heap.size; omega) (.int .i64 s.c.2)
  have g5 := ((h5.out.far (p := ⟨w.heap.size, 11, none⟩) (by show w.heap.size + 3 ≠ w.heap.size; omega) (.string ⟨#[]⟩)).far (p := ⟨w.heap.size, 12, none⟩) (by show w.heap.size + 3 ≠ w.heap.size; omega) (.slice none 0 0)).far (p := ⟨w.heap.size, 13, none⟩) (by show w.heap.size + 3 ≠ w.heap.size; omega) (.int .i64 s.c.2)
  have gB := ((hB.out.setCell (p := ⟨w.heap.size, 11, none⟩) (Nat.le_refl _) (.string ⟨#[]⟩)).setCell (p := ⟨w.heap.size, 12, none⟩) (Nat.le_refl _) (.slice none 0 0)).setCell (p := ⟨w.heap.size, 13, none⟩) (Nat.le_refl _) (.int .i64 s.c.2)
  clear c11 c12 c13 f11 f12 f13 h2 h3 h4 h5 hB k0
  generalize ((W.setCell ⟨w.heap.size, 11, none⟩ (.string ⟨#[]⟩)).setCell ⟨w.heap.size, 12, none⟩ (.slice none 0 0)).setCell ⟨w.heap.size, 13, none⟩ (.int .i64 s.c.2) = V at *
  have g2 := Lib.hid g2
  have g4 := Lib.hid g4
  have g5 := Lib.hid g5
  have gB := Lib.hid gB
  refine wp_region_lit (l := [_, _, _, _, _]) ?_
  refine lS_ 2 g2.out ?_
  refine ls_ ?_
  refine ls_ ?_
  refine sS_ 4 121 g4.out (fun W3 q1 q2 q3 => ?_)
  refine sA_ 5 123 (Eq.trans (q2 _ (by omega)) g5.out) (fun W4 r1 r2 r3 => ?_)
  refine wpList_nil ?_
  have hR := Lib.hid (And.intro (show Blk W4 _ _ _ from Eq.trans (r2 _ (by omega)) q1) (And.intro r1 (r3 _ w (by omega) (q3 _ w (by omega) gB.out))))
  clear q1 q2 q3 r1 r2 r3
  go_wp2
  exact bodyPost_ret (back3_ hR.out.1 hR.out.2.1 Tryz.results8 rfl rfl Tryz.underlying38 rfl inf22 Tryz.underlying46 rfl (by kernel_rfl)) rfl ⟨none, 0, rfl, ⟨IR.nil _ _, Nat.zero_le _⟩, hR.out.2.2⟩
theorem do_2_shut (s : Sg) (A : Option Addr) (c : Nat) (o : Stage.Op) (w : World) (hi : RI w s A c) (hk : o.kind = 2) (hs : (lookP s o.now).state ≠ 0 ∨ o.n < 1) :
    Calls Tryz.prog 8 #[.agg (rcells s A c), .agg (opc o)] w (DQ w (lookP s o.now) (0, ⟨#[]⟩, 0)) := by
  have hI := Lib.hid (show RI w (lookP s o.now) A c from hi)
  clear hi
  obtain ⟨W, hW, hB, h2, h3, h4, h5⟩ := four_blk w s A c o
  have k0 : W.cell? ⟨w.heap.size + 1, 0, none⟩ = some (.int .i64 o.kind) := (h3.out.cell 0).trans rfl
  rw [hk] at k0
  clear hk
  go_enter Tryz.func8, Tryz.ntmps8
  go_upto_region 1 with (fail)
  rw [← hW]
  clear hW
  go_upto_region 6 with (fail)
  refine lookR_ 25 26 27 28 h2.out h3.out (fun W2 q1 q2 q3 => ?_)
  have b2 := Lib.hid q1
  have b3 := Lib.hid (show Blk W2 (w.heap.size + 1) 44 (opc o) from Eq.trans (q2 _ (by omega) h3.out.lt) h3.out)
  have b4 := Lib.hid (show Blk W2 (w.heap.size + 2) 38 zcells from Eq.trans (q2 _ (by omega) h4.out.lt) h4.out)
  have b5 := Lib.hid (show Blk W2 (w.heap.size + 3) 46 zans from Eq.trans (q2 _ (by omega) h5.out.lt) h5.out)
  have bB := Lib.hid (q3 _ w (Nat.le_refl _) hB.out)
  clear q1 q2 q3 h2 h3 h4 h5 hB
  generalize lookP s o.now = s1 at *
  have c21 : W2.cell? ⟨w.heap.size, 21, none⟩ = some (.int .i64 s1.state) := (b2.out.cell 21).trans rfl
  have k2 : W2.cell? ⟨w.heap.size + 1, 2, none⟩ = some (.int .i64 o.n) := (b3.out.cell 2).trans rfl
  clear k0
  by_cases h0 : s1.state = 0
  · have t1 : decide (o.n < 1) = true := decide_eq_true (hs.resolve_left (fun e => e h0))
    rw [h0] at c21
    clear hs h0
    go_upto_region 8 with (fail)
    refine wp_region_lit (l := [_, _, _, _]) ?_
    refine lS_ 2 b2.out ?_
    refine ls_ ?_
    refine sS_ 4 37 b4.out (fun W3 q1 q2 q3 => ?_)
    refine sA_ 5 38 (Eq.trans (q2 _ (by omega)) b5.out) (fun W4 r1 r2 r3 => ?_)
    refine wpList_nil ?_
    have hR := Lib.hid (And.intro (show Blk W4 _ _ _ from Eq.trans (r2 _ (by omega)) q1) (And.intro r1 (r3 _ w (by omega) (q3 _ w (by omega) bB.out))))
    clear q1 q2 q3 r1 r2 r3
    go_wp2
    exact bodyPost_ret (back3_ hR.out.1 hR.out.2.1 Tryz.results8 rfl rfl Tryz.underlying38 rfl inf22 Tryz.underlying46 rfl (by kernel_rfl)) rfl ⟨A, c, rfl, hI.out.below hR.out.2.2, hR.out.2.2⟩
  · have t1 : (s1.state != 0) = true := by simpa using h0
    clear hs h0
    go_upto_region 8 with (fail)
    refine wp_region_lit (l := [_, _, _, _]) ?_
    refine lS_ 2 b2.out ?_
    refine ls_ ?_
    refine sS_ 4 37 b4.out (fun W3 q1 q2 q3 => ?_)
    refine sA_ 5 38 (Eq.trans (q2 _ (by omega)) b5.out) (fun W4 r1 r2 r3 => ?_)
    refine wpList_nil ?_
    have hR := Lib.hid (And.intro (show Blk W4 _ _ _ from Eq.trans (r2 _ (by omega)) q1) (And.intro r1 (r3 _ w (by omega) (q3 _ w (by omega) bB.out))))
    clear q1 q2 q3 r1 r2 r3
    go_wp2
    exact bodyPost_ret (back3_ hR.out.1 hR.out.2.1 Tryz.results8 rfl rfl Tryz.underlying38 rfl inf22 Tryz.underlying46 rfl (by kernel_rfl)) rfl ⟨A, c, rfl, hI.out.below hR.out.2.2, hR.out.2.2⟩
theorem rc_passed (s : Sg) (A : Option Addr) (c : Nat) (v : Int) : (rcells s A c).setIfInBounds 18 (.int .i64 v) = rcells { s with passed := v } A c := rfl
theorem ref_take {w' : World} {x : St} {v : Value} {now most : Int} (hf : Full x.1) (ha : (ats x.1).Pairwise (· < ·)) (h : RefIs w' v ((cat x.1).extract (takeM now most (tk x.1)) (cat x.1).size) ((tk x.1).drop (takeM now most (tk x.1))) x.2) :
    (∃ A c, v = .agg #[.string (cat (takeP (takeN now most x.1) x.1).2), .slice A (tk (takeP (takeN now most x.1) x.1).2).length c, .int .i64 x.2] ∧ IR w' A (tk (takeP (takeN now most x.1) x.1).2) ∧ (tk (takeP (takeN now most x.1) x.1).2).length ≤ c) ∧ (cat x.1).extract 0 (takeM now most (tk x.1)) = (takeP (takeN now most x.1) x.1).1 := by
  have hm : takeM now most (tk x.1) = takeN now most x.1 := by
    unfold takeM takeN
    rw [cnt_tk _ _ hf ha]
  rw [hm] at h ⊢
  have hc := cat_takeP (takeN now most x.1) x.1
  have hs := size_takeP (takeN now most x.1) x.1 (takeN_le _ _ _)
  rw [tk_take]
  generalize takeN now most x.1 = m at *
  have e1 : (cat x.1).extract 0 m = (takeP m x.1).1 := by
    have := ext_left (takeP m x.1).1 (cat (takeP m x.1).2)
    rw [hc, hs] at this
    exact this
  have e2 : (cat x.1).extract m (cat x.1).size = cat (takeP m x.1).2 := by
    have := ext_right (takeP m x.1).1 (cat (takeP m x.1).2)
    rw [hc, hs] at this
    exact this
  rw [e2] at h
  obtain ⟨A, c, rfl, hi, hl⟩ := h
  exact ⟨⟨A, c, rfl, hi, hl⟩, e1⟩
theorem ir_part {w w' : World} {A : Option Addr} {ts : List Int} {m : Nat} {t : TypeId} {cs : Array Value} (h : IR w A ts) (hb : Blk w m t cs) (ht : t ≠ 3) (hk : ∀ j, j ≠ m → j < w.heap.size → w'.heap[j]? = w.heap[j]?) : IR w' A ts :=
  h.kept fun g ⟨cs', fr, hg⟩ => hk g (by
    rintro rfl
    rw [hb] at hg
    injection hg with hg
    injection hg with _ hg
    exact ht hg) (Array.getElem?_eq_some_iff.1 hg).1
theorem fin3h {w w7 V : World} {n m : Nat} {cs ds : Array Value} {o : Obj} {x y z : Value} (h2 : Blk w7 m 38 cs) (hB : Below n w w7) (hnm : n ≤ m)
    (hg : ((cs.setIfInBounds 11 x).setIfInBounds 12 y).setIfInBounds 13 z = ds) (hV : (((w7.setCell ⟨m, 11, none⟩ x).setCell ⟨m, 12, none⟩ y).setCell ⟨m, 13, none⟩ z).alloc o = V) :
    Blk V m 38 ds ∧ Below n w V ∧ ∀ j, j ≠ m → j < w7.heap.size → V.heap[j]? = w7.heap[j]? := by
  subst hV
  have a3 := ((h2.set_ 11 x).set_ 12 y).set_ 13 z
  rw [hg] at a3
  have B3 := ((hB.setCell (p := ⟨m, 11, none⟩) hnm x).setCell (p := ⟨m, 12, none⟩) hnm y).setCell (p := ⟨m, 13, none⟩) hnm z
  have hh : ∀ j, j ≠ m → (((w7.setCell ⟨m, 11, none⟩ x).setCell ⟨m, 12, none⟩ y).setCell ⟨m, 13, none⟩ z).heap[j]? = w7.heap[j]? := fun j hj => by
    rw [Below.heap_setCell _ _ _ j hj, Below.heap_setCell _ _ _ j hj, Below.heap_setCell _ _ _ j hj]
  have hz : (((w7.setCell ⟨m, 11, none⟩ x).setCell ⟨m, 12, none⟩ y).setCell ⟨m, 13, none⟩ z).heap.size = w7.heap.size := by simp
  generalize ((w7.setCell ⟨m, 11, none⟩ x).setCell ⟨m, 12, none⟩ y).setCell ⟨m, 13, none⟩ z = U at *
  have bx := (Below.refl U.heap.size U).alloc (Nat.le_refl _) o
  exact ⟨a3.below bx, B3.alloc (Nat.le_trans hnm (Nat.le_of_lt a3.lt)) o, fun j hj hl => (bx.block j (by omega)).trans (hh j hj)⟩
set_option maxHeartbeats 2000000 in
theorem do_2_open (s : Sg) (A : Option Addr) (c : Nat) (o : Stage.Op) (w : World) (hi : RI w s A c) (hk : o.kind = 2) (hs : (lookP s o.now).state = 0) (hn : ¬ o.n < 1) (hd : D64 s) (hf : Fit s) (hg : Full s.c.1) (ha : (ats s.c.1).Pairwise (· < ·)) (ht : held s ≤ 1000000000) :
    Calls Tryz.prog 8 #[.agg (rcells s A c), .agg (opc o)] w (DQ w (takeOut (lookP s o.now) (readyN (lookP s o.now) o.n)) (0, takeOutB (lookP s o.now) (readyN (lookP s o.now) o.n), 0)) := by
  have hI := Lib.hid (show RI w (lookP s o.now) A c from hi)
  have ht1 : tot (lookP s o.now).c.1 ≤ 1000000000000 := by show tot s.c.1 ≤ _; unfold held at ht; omega
  have hrd := Lib.hid (fun (wy : World) (h : RI wy (lookP s o.now) A c) => show Calls Tryz.prog 27 #[.agg #[.string (cat (lookP s o.now).c.1), .slice A (tk (lookP s o.now).c.1).length c, .int .i64 (lookP s o.now).c.2], .int .i64 (lookP s o.now).clock] wy fun e w' => e = .returned (.int .i64 (rdy (lookP s o.now).clock (lookP s o.now).c.1)) ∧ Below wy.heap.size wy w' from by
    have := ready_any wy (cat (lookP s o.now).c.1) A c (tk (lookP s o.now).c.1) (lookP s o.now).c.2 (lookP s o.now).clock h.1 (by rw [cat_size, tk_length]) (by rw [tk_length]; exact ht1)
    rwa [cnt_tk _ _ (show Full (lookP s o.now).c.1 from hg) ha] at this)
  have htk := Lib.hid (fun (wy : World) => rtake_any (lookP s o.now) A c (readyN (lookP s o.now) o.n) wy hd ⟨hf.k0, hf.k7, hf.a0, hf.a1, hf.b0, hf.b1, hf.sl, hf.p0, hf.p1⟩)
  have hwc := wayS_c (lookP s o.now) (readyN (lookP s o.now) o.n)
  have hrN := Lib.hid (show readyN (lookP s o.now) o.n = min (rdy (lookP s o.now).clock (lookP s o.now).c.1 : Int) o.n from rfl)
  have hout := Lib.hid (show takeOut (lookP s o.now) (readyN (lookP s o.now) o.n) = { wayS (lookP s o.now) (readyN (lookP s o.now) o.n) with c := ((takeP (outN (lookP s o.now) (readyN (lookP s o.now) o.n)) (wayS (lookP s o.now) (readyN (lookP s o.now) o.n)).c.1).2, (wayS (lookP s o.now) (readyN (lookP s o.now) o.n)).c.2), passed := (lookP s o.now).passed + (takeP (outN (lookP s o.now) (readyN (lookP s o.now) o.n)) (wayS (lookP s o.now) (readyN (lookP s o.now) o.n)).c.1).1.size } from rfl)
  have hoB := Lib.hid (show takeOutB (lookP s o.now) (readyN (lookP s o.now) o.n) = (takeP (outN (lookP s o.now) (readyN (lookP s o.now) o.n)) (wayS (lookP s o.now) (readyN (lookP s o.now) o.n)).c.1).1 from rfl)
  have hoN := Lib.hid (show outN (lookP s o.now) (readyN (lookP s o.now) o.n) = takeN (wayS (lookP s o.now) (readyN (lookP s o.now) o.n)).clock (wayN (lookP s o.now) (readyN (lookP s o.now) o.n)) (wayS (lookP s o.now) (readyN (lookP s o.now) o.n)).c.1 from by rw [hwc.2.1]; rfl)
  have hmt := Lib.hid (show ∀ (wy : World) (v : Value), RefIs wy v (cat (wayS (lookP s o.now) (readyN (lookP s o.now) o.n)).c.1) (tk (wayS (lookP s o.now) (readyN (lookP s o.now) o.n)).c.1) (wayS (lookP s o.now) (readyN (lookP s o.now) o.n)).c.2 → _ from fun wy v h => Ref07.take_any wy v (cat (wayS (lookP s o.now) (readyN (lookP s o.now) o.n)).c.1) (tk (wayS (lookP s o.now) (readyN (lookP s o.now) o.n)).c.1) (wayS (lookP s o.now) (readyN (lookP s o.now) o.n)).c.2 (wayS (lookP s o.now) (readyN (lookP s o.now) o.n)).clock (wayN (lookP s o.now) (readyN (lookP s o.now) o.n)) h (by rw [cat_size, tk_length]) (by rw [hwc.1, tk_length]; exact ht1))
  have hfl := Lib.hid (show Full (wayS (lookP s o.now) (readyN (lookP s o.now) o.n)).c.1 ∧ (ats (wayS (lookP s o.now) (readyN (lookP s o.now) o.n)).c.1).Pairwise (· < ·) from by rw [hwc.1]; exact ⟨hg, ha⟩)
  have hpp := Lib.hid (show (wayS (lookP s o.now) (readyN (lookP s o.now) o.n)).passed = (lookP s o.now).passed from hwc.2.2.1)
  have hI2 := Lib.hid (show RI w (wayS (lookP s o.now) (readyN (lookP s o.now) o.n)) A c from by unfold RI; rw [hwc.1]; exact hi)
  have hsz := Lib.hid (show (takeP (outN (lookP s o.now) (readyN (lookP s o.now) o.n)) (wayS (lookP s o.now) (readyN (lookP s o.now) o.n)).c.1).1.size ≤ 1000000000000 ∧ 0 ≤ (wayS (lookP s o.now) (readyN (lookP s o.now) o.n)).passed ∧ (wayS (lookP s o.now) (readyN (lookP s o.now) o.n)).passed ≤ 1000000000000 from by
    refine ⟨?_, ?_, ?_⟩
    · have h1 := takeN_le (wayS (lookP s o.now) (readyN (lookP s o.now) o.n)).clock (wayN (lookP s o.now) (readyN (lookP s o.now) o.n)) (wayS (lookP s o.now) (readyN (lookP s o.now) o.n)).c.1
      rw [← hoN.out] at h1
      rw [size_takeP _ _ h1]
      rw [hwc.1] at h1
      omega
    · rw [hwc.2.2.1]; exact hf.p0
    · rw [hwc.2.2.1]; have := hf.p1; show s.passed ≤ _; omega)
  clear hi hd hf hg ha ht hwc ht1
  obtain ⟨W, hW, hB, h2, h3, h4, h5⟩ := four_blk w s A c o
  have k0 : W.cell? ⟨w.heap.size + 1, 0, none⟩ = some (.int .i64 o.kind) := (h3.out.cell 0).trans rfl
  rw [hk] at k0
  clear hk
  go_enter Tryz.func8, Tryz.ntmps8
  go_upto_region 1 with (fail)
  rw [← hW]
  clear hW
  go_upto_region 6 with (fail)
  refine lookR_ 25 26 27 28 h2.out h3.out (fun W2 q1 q2 q3 => ?_)
  have b2 := Lib.hid q1
  have b3 := Lib.hid (show Blk W2 (w.heap.size + 1) 44 (opc o) from Eq.trans (q2 _ (by omega) h3.out.lt) h3.out)
  have b4 := Lib.hid (show Blk W2 (w.heap.size + 2) 38 zcells from Eq.trans (q2 _ (by omega) h4.out.lt) h4.out)
  have b5 := Lib.hid (show Blk W2 (w.heap.size + 3) 46 zans from Eq.trans (q2 _ (by omega) h5.out.lt) h5.out)
  have bB := Lib.hid (q3 _ w (Nat.le_refl _) hB.out)
  clear q1 q2 q3 h2 h3 h4 h5 hB
  clear k0
  generalize lookP s o.now = s1 at *
  have c21 : W2.cell? ⟨w.heap.size, 21, none⟩ = some (.int .i64 s1.state) := (b2.out.cell 21).trans rfl
  have c11 : W2.cell? ⟨w.heap.size, 11, none⟩ = some (.string (cat s1.c.1)) := (b2.out.cell 11).trans rfl
  have c12 : W2.cell? ⟨w.heap.size, 12, none⟩ = some (.slice A (tk s1.c.1).length c) := (b2.out.cell 12).trans rfl
  have c13 : W2.cell? ⟨w.heap.size, 13, none⟩ = some (.int .i64 s1.c.2) := (b2.out.cell 13).trans rfl
  have c16 : W2.cell? ⟨w.heap.size, 16, none⟩ = some (.int .i64 s1.clock) := (b2.out.cell 16).trans rfl
  have k2 : W2.cell? ⟨w.heap.size + 1, 2, none⟩ = some (.int .i64 o.n) := (b3.out.cell 2).trans rfl
  have t1 : decide (o.n < 1) = false := decide_eq_false hn
  rw [hs] at c21
  clear hs hn
  generalize readyN s1 o.n = m at *
  generalize takeOut s1 m = sF at *
  generalize takeOutB s1 m = bF at *
  generalize outN s1 m = on at *
  generalize wayN s1 m = kk at *
  generalize wayS s1 m = s2 at *
  go_wp2_with fail
  refine (hrd.out _ (hI.out.below bB.out)).mono ?_
  rintro e w4 ⟨rfl, hB4⟩
  have d2 := Lib.hid (b2.out.below hB4)
  have d3 := Lib.hid (b3.out.below hB4)
  have d4 := Lib.hid (b4.out.below hB4)
  have d5 := Lib.hid (b5.out.below hB4)
  have dB := Lib.hid (bB.out.trans (hB4.mono bB.out.size))
  clear hB4 b2 b3 b4 b5 bB c21 c11 c12 c13 c16 k2 hrd hI
  generalize rdy s1.clock s1.c.1 = R at *
  have k2 : w4.cell? ⟨w.heap.size + 1, 2, none⟩ = some (.int .i64 o.n) := (d3.out.cell 2).trans rfl
  dsimp only
  go_upto_if 47 with fail
  generalize hq : decide (o.n < (R : Int)) = B at *
  go_cut [6] (fun v wx => v = .int .i64 m ∧ wx = w4)
  case first =>
    cases B with
    | true =>
      have hm := Lib.hid (show m = o.n from by rw [hrN.out]; have := of_decide_eq_true hq; omega)
      clear hq
      go_wp2
      go_meet
      exact ⟨by rw [hm.out], rfl⟩
    | false =>
      have hm := Lib.hid (show m = (R : Int) from by rw [hrN.out]; have := of_decide_eq_false hq; omega)
      clear hq
      go_wp2
      go_meet
      exact ⟨by rw [hm.out], rfl⟩
  case rest =>
  obtain ⟨rfl, rfl⟩ := hcut
  clear hq hrN k2 t1
  go_upto_region 12 with (fail)
  refine wp_region_lit (l := [_, _, _, _, _, _, _, _, _]) ?_
  refine lS_ 2 d2.out ?_
  refine ls_ ?_
  refine cl_ 53 #[.agg (rcells s1 A c), .int .i64 m] ?_ Tryz.func28
  refine (htk.out _).mono ?_
  rintro e w5 ⟨rfl, hB5⟩
  have e4 := Lib.hid (d4.out.below hB5)
  have e5 := Lib.hid (d5.out.below hB5)
  have eB := Lib.hid (dB.out.trans (hB5.mono dB.out.size))
  clear hB5 d2 d3 d4 d5 dB htk
  refine ⟨_, rfl, ?_⟩
  refine nl_ (by simp only [Act.put, List.setIfInBounds_toArray, List.set_cons_zero, List.set_cons_succ]; rfl) ?_
  refine ls_ ?_
  refine ls_ ?_
  refine ls_ ?_
  refine alS_ (fun V hV hVB => ?_)
  refine sS_ (s := s2) (A := A) (c := c) 7 54 hV (fun W3 q1 q2 q3 => ?_)
  refine ls_ ?_
  refine wpList_nil ?_
  have hM := e5.out.lt
  have x2 := Lib.hid q1
  have x4 := Lib.hid (show Blk W3 (w.heap.size + 2) 38 zcells from Eq.trans (q2 _ (by omega)) (e4.out.below hVB))
  have x5 := Lib.hid (show Blk W3 (w.heap.size + 3) 46 zans from Eq.trans (q2 _ (by omega)) (e5.out.below hVB))
  have xB := Lib.hid (q3 _ w (by omega) (eB.out.trans (hVB.mono (by omega))))
  clear q1 q2 q3 hV hVB e4 e5 eB
  generalize w5.heap.size = M at *
  have c11 : W3.cell? ⟨M, 11, none⟩ = some (.string (cat s2.c.1)) := (x2.out.cell 11).trans rfl
  have c12 : W3.cell? ⟨M, 12, none⟩ = some (.slice A (tk s2.c.1).length c) := (x2.out.cell 12).trans rfl
  have c13 : W3.cell? ⟨M, 13, none⟩ = some (.int .i64 s2.c.2) := (x2.out.cell 13).trans rfl
  have c16 : W3.cell? ⟨M, 16, none⟩ = some (.int .i64 s2.clock) := (x2.out.cell 16).trans rfl
  go_wp2_with fail
  refine (hmt.out W3 _ ⟨A, c, rfl, (hI2.out.below xB.out).1, hI2.out.2⟩).mono ?_
  rintro e w7 ⟨v, rfl, hR7, hB7⟩
  obtain ⟨⟨A2, c2, rfl, hi7, hl7⟩, hx⟩ := ref_take hfl.out.1 hfl.out.2 hR7
  rw [hx]
  rw [← hoN.out] at hi7 hl7 ⊢
  have hsF := Lib.hid (show sF = { ({ s2 with c := ((takeP on s2.c.1).2, s2.c.2) } : Sg) with passed := s2.passed + (takeP on s2.c.1).1.size } from by rw [hout.out, hpp.out])
  have hw := Lib.hid (show wrap64 (s2.passed + ((takeP on s2.c.1).1.size : Int)) = s2.passed + ((takeP on s2.c.1).1.size : Int) from by have := hsz.out; unfold wrap64; omega)
  clear hR7 hx hmt hfl hoN hout hpp hI2 hsz c11 c12 c13 c16
  generalize takeP on s2.c.1 = tp at *
  obtain ⟨tp1, tp2⟩ := tp
  dsimp only at *
  have y2 := Lib.hid (x2.out.below hB7)
  have y4 := Lib.hid (x4.out.below hB7)
  have y5 := Lib.hid (x5.out.below hB7)
  have yB := Lib.hid (xB.out.trans (hB7.mono xB.out.size))
  have hJ := Lib.hid hi7
  have hl := Lib.hid hl7
  clear hB7 x2 x4 x5 xB hi7 hl7
  have hlt : M < w7.heap.size := y2.out.lt
  have f11 := y2.out.free 11
  have f12 := y2.out.free 12
  have f13 := y2.out.free 13
  have c11 : w7.cell? ⟨M, 11, none⟩ = some (.string (cat s2.c.1)) := (y2.out.cell 11).trans rfl
  have c12 : w7.cell? ⟨M, 12, none⟩ = some (.slice A (tk s2.c.1).length c) := (y2.out.cell 12).trans rfl
  have c13 : w7.cell? ⟨M, 13, none⟩ = some (.int .i64 s2.c.2) := (y2.out.cell 13).trans rfl
  go_upto_region 15 with (fail)
  generalize hV : (((w7.setCell ⟨M, 11, none⟩ (.string (cat tp2))).setCell ⟨M, 12, none⟩ (.slice A2 (tk tp2).length c2)).setCell ⟨M, 13, none⟩ (.int .i64 s2.c.2)).alloc (.cells #[.string (cat tp2), .slice A2 (tk tp2).length c2, .int .i64 s2.c.2] 36) = U
  obtain ⟨v2, vB, vH⟩ := fin3h y2.out yB.out (by omega) (rc_cargo s2 { s2 with c := (tp2, s2.c.2) } A A2 c c2 rfl) hV
  have vI := Lib.hid (ir_part hJ.out y2.out (by decide) vH)
  have v4 := Lib.hid (show Blk U (w.heap.size + 2) _ _ from Eq.trans (vH _ (by omega) y4.out.lt) y4.out)
  have v5 := Lib.hid (show Blk U (w.heap.size + 3) _ _ from Eq.trans (vH _ (by omega) y5.out.lt) y5.out)
  have v2 := Lib.hid v2
  have vB := Lib.hid vB
  clear hV vH y2 y4 y5 yB hJ c11 c12 c13 f11 f12 f13 hlt
  have c18 : U.cell? ⟨M, 18, none⟩ = some (.int .i64 s2.passed) := (v2.out.cell 18).trans rfl
  have f18 := v2.out.free 18
  have g2 := Lib.hid (v2.out.set_ 18 (.int .i64 (wrap64 (s2.passed + (tp1.size : Int)))))
  have g4 := Lib.hid (v4.out.far (p := ⟨M, 18, none⟩) (by show w.heap.size + 2 ≠ M; omega) (.int .i64 (wrap64 (s2.passed + (tp1.size : Int)))))
  have g5 := Lib.hid (v5.out.far (p := ⟨M, 18, none⟩) (by show w.heap.size + 3 ≠ M; omega) (.int .i64 (wrap64 (s2.passed + (tp1.size : Int)))))
  have gB := Lib.hid (vB.out.setCell (p := ⟨M, 18, none⟩) (by show w.heap.size ≤ M; omega) (.int .i64 (wrap64 (s2.passed + (tp1.size : Int)))))
  have gI := Lib.hid (ir_set vI.out v2.out (by decide) 18 (.int .i64 (wrap64 (s2.passed + (tp1.size : Int)))))
  clear v2 v4 v5 vB vI
  go_upto_region 16 with (fail)
  generalize U.setCell ⟨M, 18, none⟩ (.int .i64 (wrap64 (s2.passed + (tp1.size : Int)))) = V2 at *
  have g2 := Lib.hid (show Blk V2 M 38 (rcells sF A2 c2) from by have := g2.out; rw [rc_passed, hw.out] at this; rw [hsF.out]; exact this)
  have gJ := Lib.hid (show RI V2 sF A2 c2 from by rw [hsF.out]; exact ⟨gI.out, hl.out⟩)
  clear gI hl hw hsF c18 f18
  refine wp_region_lit (l := [_, _, _, _, _]) ?_
  refine lS_ 7 g2.out ?_
  refine ls_ ?_
  refine ls_ ?_
  refine sS_ 4 73 g4.out (fun W3 q1 q2 q3 => ?_)
  refine sA_ 5 75 (Eq.trans (q2 _ (by omega)) g5.out) (fun W4 r1 r2 r3 => ?_)
  refine wpList_nil ?_
  have hR := Lib.hid (And.intro (show Blk W4 _ _ _ from Eq.trans (r2 _ (by omega)) q1) (And.intro r1 (r3 _ w (by omega) (q3 _ w (by omega) gB.out))))
  have hJ2 := Lib.hid ((gJ.out.heap g4.out (by decide) q2).heap (show Blk W3 _ _ _ from Eq.trans (q2 _ (by omega)) g5.out) (by decide) r2)
  clear q1 q2 q3 r1 r2 r3 gJ g2 g4 g5 gB
  go_wp2
  exact bodyPost_ret (back3_ hR.out.1 hR.out.2.1 Tryz.results8 rfl rfl Tryz.underlying38 rfl inf22 Tryz.underlying46 rfl (by kernel_rfl)) rfl ⟨A2, c2, by rw [hoB.out], hJ2.out, hR.out.2.2⟩
theorem rdo_any (s : Sg) (A : Option Addr) (c : Nat) (o : Stage.Op) (w : World) (hi : RI w s A c) (hd : D64 s) (hk : Ok s) (hp : s.passed ≤ 1000000000) (ht : held s + o.s.size ≤ 1000000000) (hn : o.t.name.size ≤ 9223372036854775807) :
    Calls Tryz.prog 8 #[.agg (rcells s A c), .agg (opc o)] w (DQ w (doesS s o) (doesA s o)) := by
  have hr0 := hk.r0
  have hr1 := hk.r1
  by_cases h0 : o.kind = 0
  · exact do_01 s A c o w hi (.inl h0) hd ht (by omega) (by omega)
  by_cases h1 : o.kind = 1
  · exact do_01 s A c o w hi (.inr h1) hd ht (by omega) (by omega)
  by_cases h5 : o.kind = 5
  · exact do_5 s A c o w hi h5 hn hk.bk hk.k0 hk.k1
  by_cases h2 : o.kind = 2
  · have f1 : doesS s o = takeS s o.now o.n := by unfold doesS; rw [if_neg h0, if_neg h1, if_pos h2]
    have f2 : doesA s o = (0, Stage.takeB s o.now o.n, 0) := by unfold doesA; rw [if_neg h0, if_neg h1, if_pos h2]
    rw [f1, f2]
    unfold takeS Stage.takeB
    by_cases hs : (lookP s o.now).state ≠ 0 ∨ o.n < 1
    · rw [if_pos hs, if_pos hs]; exact do_2_shut s A c o w hi h2 hs
    · rw [if_neg hs, if_neg hs]
      exact do_2_open s A c o w hi h2 (by omega) (by omega) hd (hk.fit hp) hk.good.1 hk.good.2.1 (by omega)
  by_cases h3 : o.kind = 3
  · have f1 : doesS s o = closeP s o.now := by unfold doesS; rw [if_neg h0, if_neg h1, if_neg h2, if_pos h3]
    have f2 : doesA s o = (0, ⟨#[]⟩, 0) := by unfold doesA; rw [if_neg h0, if_neg h1, if_neg h2, if_pos h3]
    rw [f1, f2]; exact do_3 s A c o w hi h3
  by_cases h4 : o.kind = 4
  · have f1 : doesS s o = lookP s o.now := by unfold doesS; rw [if_neg h0, if_neg h1, if_neg h2, if_neg h3, if_pos h4]
    have f2 : doesA s o = ((lookP s o.now).state, ⟨#[]⟩, 0) := by unfold doesA; rw [if_neg h0, if_neg h1, if_neg h2, if_neg h3, if_pos h4]
    rw [f1, f2]; exact do_4 s A c o w hi h4
  by_cases h6 : o.kind = 6
  · have f1 : doesS s o = drainP s := by unfold doesS; rw [if_neg h0, if_neg h1, if_neg h2, if_neg h3, if_neg h4, if_neg h5, if_pos h6]
    have f2 : doesA s o = (0, cat s.c.1, 0) := by unfold doesA; rw [if_neg h0, if_neg h1, if_neg h2, if_neg h3, if_neg h4, if_neg h5, if_pos h6]
    rw [f1, f2]; exact do_6 s A c o w hi h6
  have f1 : doesS s o = s := by unfold doesS; rw [if_neg h0, if_neg h1, if_neg h2, if_neg h3, if_neg h4, if_neg h5, if_neg h6]
  have f2 : doesA s o = (0, ⟨#[]⟩, 0) := by unfold doesA; rw [if_neg h0, if_neg h1, if_neg h2, if_neg h3, if_neg h4, if_neg h5, if_neg h6]
  rw [f1, f2]; exact do_else s A c o w hi h0 h1 h2 h3 h4 h5 h6
theorem d64_does {s : Sg} (h : D64 s) (o : Stage.Op) : D64 (doesS s o) := by
  have hst : ∀ z : Int, 0 ≤ Ref02.stepI z ∧ Ref02.stepI z < 18446744073709551616 := fun z => by unfold Ref02.stepI; omega
  have hrg : ∀ z a b : Int, 0 ≤ z ∧ z < 18446744073709551616 → 0 ≤ Ref02.rangeS z a b ∧ Ref02.rangeS z a b < 18446744073709551616 := fun z a b hz => by
    unfold Ref02.rangeS
    split
    · exact hz
    · exact hst z
  have hfc : ∀ (s : Sg) (n : Int) (x : ByteArray), D64 s → D64 (forceP s n x) := fun s n x h => by
    unfold forceP
    split
    · exact h
    · unfold D64 putIn diceP
      split
      · exact hrg _ _ _ h
      · exact h
  unfold doesS
  split
  · unfold putS
    split
    · exact h
    · exact hfc _ _ _ h
  split
  · exact hfc _ _ _ h
  split
  · unfold takeS
    split
    · exact h
    · unfold takeOut wayS someS sliceS D64
      dsimp only
      split
      · exact h
      split
      · split
        · exact h
        · exact hst _
      · exact h
  split
  · unfold closeP; split <;> exact h
  split
  · exact h
  split
  · unfold updS
    split
    · exact h
    · split <;> exact h
  split
  · exact h
  · exact h
end Go.Proofs.YtehpliclknfmoaaGreat.RefT
namespace Go.Proofs.YtehpliclknfmoaaGreat.RefT
open Go.RowKit Mem Tick Cargo Toxic Stage Ref07 Bucket
open Go.Proofs.YtehpliclknfmoaaGreatW.PrintLast Pu
open Go.Proofs.YtehpliclknfmoaaGreatW.PrintWords (eqA_of eqf_cons eqf_last)
set_option maxRecDepth 100000
set_option linter.unusedVariables false
set_option linter.unusedSimpArgs false
def Two (w wr : World) (b k d q : Nat) (x y : Sg) : Prop := ∃ F G, SG wr F b k x ∧ SG wr G d q y ∧ (∀ j, F j → ¬ G j) ∧ (∀ j, F j → w.heap.size ≤ j) ∧ (∀ j, G j → w.heap.size ≤ j) ∧ Below w.heap.size w wr ∧ Ok x ∧ Ok y
section
variable {w wr w2 : World} {b k d q : Nat} {x y s : Sg}
theorem Two.old (h : Two w wr b k d q x y) : Below w.heap.size w wr := by obtain ⟨F, G, _, _, _, _, _, hb, _⟩ := h; exact hb
theorem Two.ok (h : Two w wr b k d q x y) : Ok x ∧ Ok y := by obtain ⟨F, G, _, _, _, _, _, _, hg⟩ := h; exact hg
theorem Two.below (h : Two w wr b k d q x y) (hb : Below wr.heap.size wr w2) : Two w w2 b k d q x y := by
  obtain ⟨F, G, h1, h2, h3, h4, h5, h6, h7⟩ := h
  exact ⟨F, G, h1.below hb, h2.below hb, h3, h4, h5, h6.trans (hb.mono h6.size), h7⟩
theorem Two.off (h : Two w wr b k d q x y) {m : Nat} {t : TypeId} {cs : Array Value} (hb : Blk wr m t cs) (ht : t ∉ [59, 83, 100]) (hm : w.heap.size ≤ m) (hk : ∀ j, j ≠ m → w2.heap[j]? = wr.heap[j]?) (hB : ∀ n w0, n ≤ m → Below n w0 wr → Below n w0 w2) : Two w w2 b k d q x y := by
  obtain ⟨F, G, h1, h2, h3, h4, h5, h6, h7⟩ := h
  exact ⟨F, G, h1.kept fun j hj => hk j fun e => h1.off hb ht (e ▸ hj), h2.kept fun j hj => hk j fun e => h2.off hb ht (e ▸ hj), h3, h4, h5, hB _ _ hm h6, h7⟩
theorem LiveS.off (h : LiveS w wr b k x) {m : Nat} {t : TypeId} {cs : Array Value} (hb : Blk wr m t cs) (ht : t ∉ [59, 83, 100]) (hm : w.heap.size ≤ m) (hk : ∀ j, j ≠ m → w2.heap[j]? = wr.heap[j]?) (hB : ∀ n w0, n ≤ m → Below n w0 wr → Below n w0 w2) : LiveS w w2 b k x := by
  obtain ⟨F, h1, h2, h3, h4⟩ := h
  exact ⟨F, h1.kept fun j hj => hk j fun e => h1.off hb ht (e ▸ hj), h2, hB _ _ hm h3, h4⟩
def Stay (wr w2 : World) : Prop := ∀ (g : Nat) (t : TypeId) (cs : Array Value) (fr : Nat × Nat), wr.heap[g]? = some (Obj.cells cs t fr) → t ∉ [59, 83, 100] → w2.heap[g]? = wr.heap[g]?
theorem stay_of {F : Nat → Prop} (h : SG wr F b k x) (hd : Did F wr w2) : Stay wr w2 := fun g t cs fr hg ht => by
  refine hd.block g (Array.getElem?_eq_some_iff.1 hg).1 fun hF => ?_
  obtain ⟨t', ht', cs', hb⟩ := h.typed g hF
  unfold Blk at hb
  rw [hg] at hb
  injection hb with hb
  injection hb with _ e _
  subst e
  exact ht ht'
theorem Stay.blk (h : Stay wr w2) {g : Nat} {t : TypeId} {cs : Array Value} (hb : Blk wr g t cs) (ht : t ∉ [59, 83, 100]) : Blk w2 g t cs := (h g t cs _ hb ht).trans hb
theorem Stay.ri (h : Stay wr w2) {s : Sg} {A : Option Addr} {c : Nat} (hi : RI wr s A c) : RI w2 s A c := ⟨hi.1.kept fun g ⟨cs, fr, hg⟩ => h g _ _ _ hg (by decide), hi.2⟩
theorem live_call (h : LiveS w wr b k s) (o : Stage.Op) (hp : s.passed ≤ 1000000000) (ht : held s + o.s.size ≤ 1000000000) :
    Calls Tryz.prog 9 #[.pointer (some ⟨b, 0, none⟩), .agg (opc o)] wr fun e w2 => e = .returned (.agg #[.int .i64 (doesA s o).1, .string (doesA s o).2.1, .int .i64 (doesA s o).2.2]) ∧ LiveS w w2 b k (doesS s o) ∧ Stay wr w2 := by
  obtain ⟨F, hC, hF, hB, hG⟩ := h
  exact (does_any hC hG hp o ht).mono fun e w2 ⟨he, F', hC2, hd, hs⟩ => ⟨he, (LiveS.step hC hF hB (hG.doesS o) hC2 hd hs).1, stay_of hC hd⟩
theorem two_copy (h : LiveS w wr b k x) (ht : x.c.1.length ≤ 2000000000000) :
    Calls Tryz.prog 10 #[.pointer (some ⟨b, 0, none⟩)] wr fun e w2 => ∃ d q, e = .returned (.pointer (some ⟨d, 0, none⟩)) ∧ Two w w2 b k d q x x ∧ Below wr.heap.size wr w2 := by
  obtain ⟨F, hC, hF, hB, hG⟩ := h
  exact (scopy_any hC ht).mono fun e w2 ⟨d, q, G, he, hC2, hGn, hb⟩ => ⟨d, q, he, ⟨F, G, hC.below hb, hC2, fun j hj hg => by have := hC.lt hj; have := hGn j hg; omega, hF, fun j hj => Nat.le_trans hB.size (hGn j hj), hB.trans (hb.mono hB.size), hG, hG⟩, hb⟩
theorem two_second (h : Two w wr b k d q x y) (o : Stage.Op) (hp : y.passed ≤ 1000000000) (ht : held y + o.s.size ≤ 1000000000) :
    Calls Tryz.prog 9 #[.pointer (some ⟨d, 0, none⟩), .agg (opc o)] wr fun e w2 => e = .returned (.agg #[.int .i64 (doesA y o).1, .string (doesA y o).2.1, .int .i64 (doesA y o).2.2]) ∧ Two w w2 b k d q x (doesS y o) ∧ Stay wr w2 := by
  obtain ⟨F, G, h1, h2, h3, h4, h5, h6, h7, h8⟩ := h
  refine (does_any h2 h8 hp o ht).mono fun e w2 ⟨he, G', hC2, hd, hs⟩ => ⟨he, ⟨F, G', h1.kept fun j hj => hd.block j (h1.lt hj) (h3 j hj), hC2, fun j hj hg => ?_, h4, fun j hj => (hs j hj).elim (h5 j) (fun h => Nat.le_trans h6.size h), h6.trans (hd.below h6.size h5), h7, h8.doesS o⟩, stay_of h2 hd⟩
  rcases hs j hg with h | h
  · exact h3 j hj h
  · have := h1.lt hj; omega
theorem two_first (h : Two w wr b k d q x y) (o : Stage.Op) (hp : x.passed ≤ 1000000000) (ht : held x + o.s.size ≤ 1000000000) :
    Calls Tryz.prog 9 #[.pointer (some ⟨b, 0, none⟩), .agg (opc o)] wr fun e w2 => e = .returned (.agg #[.int .i64 (doesA x o).1, .string (doesA x o).2.1, .int .i64 (doesA x o).2.2]) ∧ Two w w2 b k d q (doesS x o) y ∧ Stay wr w2 := by
  obtain ⟨F, G, h1, h2, h3, h4, h5, h6, h7, h8⟩ := h
  refine (does_any h1 h7 hp o ht).mono fun e w2 ⟨he, F', hC2, hd, hs⟩ => ⟨he, ⟨F', G, hC2, h2.kept fun j hj => hd.block j (h2.lt hj) (fun hf => h3 j hf hj), fun j hj hg => ?_, fun j hj => (hs j hj).elim (h4 j) (fun h => Nat.le_trans h6.size h), h5, h6.trans (hd.below h6.size h4), h7.doesS o, h8⟩, stay_of h1 hd⟩
  rcases hs j hj with h | h
  · exact h3 j h hg
  · have := h2.lt hg; omega
theorem two_held1 (h : Two w wr b k d q x y) (ht : held x ≤ 1000000000) : Calls Tryz.prog 11 #[.pointer (some ⟨b, 0, none⟩)] wr fun e w2 => e = .returned (.int .i64 (held x)) ∧ Two w w2 b k d q x y := by
  have h' := h
  obtain ⟨F, G, h1, _⟩ := h
  exact (held_any h1 (by omega)).mono fun e w2 ⟨he, hb⟩ => ⟨he, h'.below hb⟩
theorem two_held2 (h : Two w wr b k d q x y) (ht : held y ≤ 1000000000) : Calls Tryz.prog 11 #[.pointer (some ⟨d, 0, none⟩)] wr fun e w2 => e = .returned (.int .i64 (held y)) ∧ Two w w2 b k d q x y := by
  have h' := h
  obtain ⟨F, G, _, h2, _⟩ := h
  exact (held_any h2 (by omega)).mono fun e w2 ⟨he, hb⟩ => ⟨he, h'.below hb⟩
theorem two_passed1 (h : Two w wr b k d q x y) : Calls Tryz.prog 12 #[.pointer (some ⟨b, 0, none⟩)] wr fun e w2 => e = .returned (.int .i64 x.passed) ∧ wr = w2 := by
  obtain ⟨F, G, h1, _⟩ := h
  exact passed_any h1
theorem two_passed2 (h : Two w wr b k d q x y) : Calls Tryz.prog 12 #[.pointer (some ⟨d, 0, none⟩)] wr fun e w2 => e = .returned (.int .i64 y.passed) ∧ wr = w2 := by
  obtain ⟨F, G, _, h2, _⟩ := h
  exact passed_any h2
end
theorem neq_ans (w : World) (n e : Int) (x : ByteArray) : (binOp .neq 46 (.agg #[.int .i64 n, .string x, .int .i64 e]) (.agg #[.int .i64 n, .string x, .int .i64 e])).run Tryz.prog w = .ok (.bool false) w := by
  have : (Op.equalIn 10000 46 (.agg #[.int .i64 n, .string x, .int .i64 e]) (.agg #[.int .i64 n, .string x, .int .i64 e])).run Tryz.prog w = .ok (n == n && (x.toList == x.toList && e == e)) w := by
    refine eqA_of Tryz.underlying46 (by kernel_rfl) ?_
    refine eqf_cons (by rfl) (by go_simp; rfl) (by go_simp; rfl) (by go_simp) ?_
    refine eqf_cons (by rfl) (by go_simp; rfl) (by go_simp; rfl) (by go_simp) ?_
    exact eqf_last (by rfl) (by go_simp; rfl) (by go_simp; rfl) (by go_simp)
  rw [run_neq_struct, this]
  simp
theorem eqguard_ans : Tryz.prog.eqGuardType Tryz.prog.depth 46 = false := by kernel_rfl
theorem rnew_no (t : Tox) (seed room now : Int) (w : World) (he : newE t room ≠ 0) (hn : t.name.size ≤ 9223372036854775807) : Calls Tryz.prog 5 #[t.v, .int .u64 seed, .int .i64 room, .int .i64 now] w fun e w' => e = .returned (.tuple #[.agg zcells, .int .i64 (newE t room)]) ∧ Below w.heap.size w w' :=
  (rnew_any t seed room now w hn).mono fun _ _ ⟨_, h2, h3⟩ => ⟨h2 he, h3⟩
theorem rnew_yes (t : Tox) (seed room now : Int) (w : World) (he : newE t room = 0) (hn : t.name.size ≤ 9223372036854775807) : Calls Tryz.prog 5 #[t.v, .int .u64 seed, .int .i64 room, .int .i64 now] w fun e w' => e = .returned (.tuple #[.agg (rcells (newS t seed room now) none 0), .int .i64 0]) ∧ Below w.heap.size w w' :=
  (rnew_any t seed room now w hn).mono fun _ _ ⟨h1, _, h3⟩ => ⟨h1 he, h3⟩
abbrev seatCs (t : Tox) (seed room now : Int) : Array Value := #[.string t.name, .int .i64 t.kind, .bool t.up, .int .i64 t.often, .int .i64 t.a, .int .i64 t.b, .int .u64 seed, .int .i64 room, .int .i64 now]
theorem scopies_none (t : Tox) (seed room now : Int) (v v2 : Value) (w : World) (he : newE t room ≠ 0) (hn : t.name.size ≤ 9223372036854775807) :
    Calls Tryz.prog 3 #[.agg (seatCs t seed room now), v, v2] w fun e w' => e = .returned (.bool true) ∧ Below w.heap.size w w' := by
  have hm := Lib.hid (fun (wr : World) => live_none (wr := wr) t seed room now he)
  have hr := Lib.hid (fun (wr : World) => rnew_no t seed room now wr he hn)
  have te : (newE t room != 0) = true := by simpa using he
  have hB0 := Lib.hid ((Below.refl w.heap.size w).alloc (Nat.le_refl _) (.cells (seatCs t seed room now) 26))
  have hS0 := Lib.hid (Blk.new w 26 (seatCs t seed room now))
  clear he hn
  generalize newE t room = E at *
  go_enter Tryz.func3, Tryz.ntmps3
  go_wp2_with fail
  refine (hm.out _).mono ?_
  rintro e w1 ⟨rfl, hB⟩
  have hB1 := Lib.hid (bw_below hB0.out hB)
  have hS1 := Lib.hid (hS0.out.below hB)
  clear hm hB hB0 hS0
  have s0 : w1.cell? ⟨w.heap.size, 0, none⟩ = some (.string t.name) := (hS1.out.cell 0).trans rfl
  have s1 : w1.cell? ⟨w.heap.size, 1, none⟩ = some (.int .i64 t.kind) := (hS1.out.cell 1).trans rfl
  have s2 : w1.cell? ⟨w.heap.size, 2, none⟩ = some (.bool t.up) := (hS1.out.cell 2).trans rfl
  have s3 : w1.cell? ⟨w.heap.size, 3, none⟩ = some (.int .i64 t.often) := (hS1.out.cell 3).trans rfl
  have s4 : w1.cell? ⟨w.heap.size, 4, none⟩ = some (.int .i64 t.a) := (hS1.out.cell 4).trans rfl
  have s5 : w1.cell? ⟨w.heap.size, 5, none⟩ = some (.int .i64 t.b) := (hS1.out.cell 5).trans rfl
  have s6 : w1.cell? ⟨w.heap.size, 6, none⟩ = some (.int .u64 seed) := (hS1.out.cell 6).trans rfl
  have s7 : w1.cell? ⟨w.heap.size, 7, none⟩ = some (.int .i64 room) := (hS1.out.cell 7).trans rfl
  have s8 : w1.cell? ⟨w.heap.size, 8, none⟩ = some (.int .i64 now) := (hS1.out.cell 8).trans rfl
  go_upto_region 2 with (fail)
  refine wp_region_lit (l := [_, _, _, _, _, _, _, _, _, _, _, _, _, _, _]) ?_
  refine ls_ ?_
  refine ls_ ?_
  refine ls_ ?_
  refine ls_ ?_
  refine ls_ ?_
  refine ls_ ?_
  refine ls_ ?_
  refine ls_ ?_
  refine cl_ 46 #[t.v, .int .u64 seed, .int .i64 room, .int .i64 now] ?_ Tryz.func5
  refine (hr.out _).mono ?_
  rintro e w2 ⟨rfl, hB⟩
  have hB2 := Lib.hid (bw_below hB1.out hB)
  clear hr hB hB1 hS1 s0 s1 s2 s3 s4 s5 s6 s7 s8
  refine ⟨_, rfl, ?_⟩
  refine nl_ (by simp only [Act.put, List.setIfInBounds_toArray, List.set_cons_zero, List.set_cons_succ]; rfl) ?_
  refine ls_ ?_
  refine ls_ ?_
  refine ls_ ?_
  refine alS_ (fun V hV hVB => ?_)
  refine sW_ (vs := zcells) 9 47 hV inf22 one22z (fun W2 q1 q2 q3 => ?_)
  refine ls_ ?_
  refine wpList_nil ?_
  have hB3 := Lib.hid (q3 _ w hB2.out.size (bw_below hB2.out hVB))
  clear q1 q2 q3 hV hVB hB2
  go_wp2_with (go_at_call 7; (with_reducible refine (alive_any _).mono ?_); rintro e w9 ⟨rfl, hB9⟩; have hB9' := Lib.hid hB9; clear hB9)
  go_ret
  exact ⟨rfl, bw_below hB3.out hB9'.out⟩
theorem scopies_few (t : Tox) (seed room now : Int) (v : Value) (l : List Stage.Op) (v2 : Value) (m : List Stage.Op) (w : World) (hv : Stage.Script w v l) (hv2 : Stage.Script w v2 m) (he : newE t room = 0) (hn : t.name.size ≤ 9223372036854775807) (hf : Stage.fewB l = false) :
    Calls Tryz.prog 3 #[.agg (seatCs t seed room now), v, v2] w fun e w' => e = .returned (.bool true) ∧ Below w.heap.size w w' := by
  have hv1 := Lib.hid hv
  have hf1 := Lib.hid hf
  clear hv hv2 hf
  have hm := Lib.hid (fun (wr : World) hB => live_new (w := w) (wr := wr) t seed room now he hB)
  have hr := Lib.hid (fun (wr : World) => rnew_yes t seed room now wr he hn)
  have hB0 := Lib.hid ((Below.refl w.heap.size w).alloc (Nat.le_refl _) (.cells (seatCs t seed room now) 26))
  have hS0 := Lib.hid (Blk.new w 26 (seatCs t seed room now))
  have hs0 := Lib.hid (show (newS t seed room now).c = ([], 0) ∧ (newS t seed room now).passed = 0 ∧ (newS t seed room now).dice = seed from by unfold newS; split <;> exact ⟨rfl, rfl, rfl⟩)
  clear he hn
  generalize newS t seed room now = s0 at *
  go_enter Tryz.func3, Tryz.ntmps3
  go_wp2_with fail
  refine (hm.out _ hB0.out).mono ?_
  rintro e w1 ⟨b, kk, rfl, hL, hB⟩
  have H1 := Lib.hid hL
  have hS1 := Lib.hid (hS0.out.below hB)
  clear hm hB hB0 hS0 hL
  have s0 : w1.cell? ⟨w.heap.size, 0, none⟩ = some (.string t.name) := (hS1.out.cell 0).trans rfl
  have s1 : w1.cell? ⟨w.heap.size, 1, none⟩ = some (.int .i64 t.kind) := (hS1.out.cell 1).trans rfl
  have s2 : w1.cell? ⟨w.heap.size, 2, none⟩ = some (.bool t.up) := (hS1.out.cell 2).trans rfl
  have s3 : w1.cell? ⟨w.heap.size, 3, none⟩ = some (.int .i64 t.often) := (hS1.out.cell 3).trans rfl
  have s4 : w1.cell? ⟨w.heap.size, 4, none⟩ = some (.int .i64 t.a) := (hS1.out.cell 4).trans rfl
  have s5 : w1.cell? ⟨w.heap.size, 5, none⟩ = some (.int .i64 t.b) := (hS1.out.cell 5).trans rfl
  have s6 : w1.cell? ⟨w.heap.size, 6, none⟩ = some (.int .u64 seed) := (hS1.out.cell 6).trans rfl
  have s7 : w1.cell? ⟨w.heap.size, 7, none⟩ = some (.int .i64 room) := (hS1.out.cell 7).trans rfl
  have s8 : w1.cell? ⟨w.heap.size, 8, none⟩ = some (.int .i64 now) := (hS1.out.cell 8).trans rfl
  go_upto_region 2 with (fail)
  refine wp_region_lit (l := [_, _, _, _, _, _, _, _, _, _, _, _, _, _, _]) ?_
  refine ls_ ?_
  refine ls_ ?_
  refine ls_ ?_
  refine ls_ ?_
  refine ls_ ?_
  refine ls_ ?_
  refine ls_ ?_
  refine ls_ ?_
  refine cl_ 46 #[t.v, .int .u64 seed, .int .i64 room, .int .i64 now] ?_ Tryz.func5
  refine (hr.out _).mono ?_
  rintro e w2 ⟨rfl, hB⟩
  have H2 := Lib.hid (H1.out.below hB)
  clear hr hB H1 hS1 s0 s1 s2 s3 s4 s5 s6 s7 s8
  refine ⟨_, rfl, ?_⟩
  refine nl_ (by simp only [Act.put, List.setIfInBounds_toArray, List.set_cons_zero, List.set_cons_succ]; rfl) ?_
  refine ls_ ?_
  refine ls_ ?_
  refine ls_ ?_
  refine alS_ (fun V hV hVB => ?_)
  refine sS_ (s := s0) (A := none) (c := 0) 9 47 hV (fun W2 q1 q2 q3 => ?_)
  refine ls_ ?_
  refine wpList_nil ?_
  have hKw : w.heap.size ≤ w2.heap.size := H2.out.old.size
  have hK := Lib.hid q1
  have hL := Lib.hid (LiveS.off (H2.out.below hVB) hV (by decide) hKw q2 q3)
  clear q1 q2 q3 hV hVB H2
  generalize w2.heap.size = K at *
  go_wp2_with fail
  refine (Stage.few_any v l _ (hv1.out.below hL.out.old)).mono ?_
  rintro e w3 ⟨rfl, hB⟩
  rw [hf1.out]
  have hL3 := Lib.hid (hL.out.below hB)
  have hK3 := Lib.hid (hK.out.below hB)
  clear hB hL hK
  go_wp2_with (go_at_call 7; (with_reducible refine (alive_any _).mono ?_); rintro e w9 ⟨rfl, hB9⟩; have hB9' := Lib.hid hB9; clear hB9)
  go_ret
  exact ⟨rfl, bw_below hL3.out.old hB9'.out⟩
theorem scopies_few2 (t : Tox) (seed room now : Int) (v : Value) (l : List Stage.Op) (v2 : Value) (m : List Stage.Op) (w : World) (hv : Stage.Script w v l) (hv2 : Stage.Script w v2 m) (he : newE t room = 0) (hn : t.name.size ≤ 9223372036854775807) (hf : Stage.fewB l = true) (hf2 : Stage.fewB m = false) :
    Calls Tryz.prog 3 #[.agg (seatCs t seed room now), v, v2] w fun e w' => e = .returned (.bool true) ∧ Below w.heap.size w w' := by
  have hv1 := Lib.hid hv
  have hf1 := Lib.hid hf
  have hv2x := Lib.hid hv2
  have hf2x := Lib.hid hf2
  clear hv hv2 hf hf2
  have hm := Lib.hid (fun (wr : World) hB => live_new (w := w) (wr := wr) t seed room now he hB)
  have hr := Lib.hid (fun (wr : World) => rnew_yes t seed room now wr he hn)
  have hB0 := Lib.hid ((Below.refl w.heap.size w).alloc (Nat.le_refl _) (.cells (seatCs t seed room now) 26))
  have hS0 := Lib.hid (Blk.new w 26 (seatCs t seed room now))
  have hs0 := Lib.hid (show (newS t seed room now).c = ([], 0) ∧ (newS t seed room now).passed = 0 ∧ (newS t seed room now).dice = seed from by unfold newS; split <;> exact ⟨rfl, rfl, rfl⟩)
  clear he hn
  generalize newS t seed room now = s0 at *
  go_enter Tryz.func3, Tryz.ntmps3
  go_wp2_with fail
  refine (hm.out _ hB0.out).mono ?_
  rintro e w1 ⟨b, kk, rfl, hL, hB⟩
  have H1 := Lib.hid hL
  have hS1 := Lib.hid (hS0.out.below hB)
  clear hm hB hB0 hS0 hL
  have s0 : w1.cell? ⟨w.heap.size, 0, none⟩ = some (.string t.name) := (hS1.out.cell 0).trans rfl
  have s1 : w1.cell? ⟨w.heap.size, 1, none⟩ = some (.int .i64 t.kind) := (hS1.out.cell 1).trans rfl
  have s2 : w1.cell? ⟨w.heap.size, 2, none⟩ = some (.bool t.up) := (hS1.out.cell 2).trans rfl
  have s3 : w1.cell? ⟨w.heap.size, 3, none⟩ = some (.int .i64 t.often) := (hS1.out.cell 3).trans rfl
  have s4 : w1.cell? ⟨w.heap.size, 4, none⟩ = some (.int .i64 t.a) := (hS1.out.cell 4).trans rfl
  have s5 : w1.cell? ⟨w.heap.size, 5, none⟩ = some (.int .i64 t.b) := (hS1.out.cell 5).trans rfl
  have s6 : w1.cell? ⟨w.heap.size, 6, none⟩ = some (.int .u64 seed) := (hS1.out.cell 6).trans rfl
  have s7 : w1.cell? ⟨w.heap.size, 7, none⟩ = some (.int .i64 room) := (hS1.out.cell 7).trans rfl
  have s8 : w1.cell? ⟨w.heap.size, 8, none⟩ = some (.int .i64 now) := (hS1.out.cell 8).trans rfl
  go_upto_region 2 with (fail)
  refine wp_region_lit (l := [_, _, _, _, _, _, _, _, _, _, _, _, _, _, _]) ?_
  refine ls_ ?_
  refine ls_ ?_
  refine ls_ ?_
  refine ls_ ?_
  refine ls_ ?_
  refine ls_ ?_
  refine ls_ ?_
  refine ls_ ?_
  refine cl_ 46 #[t.v, .int .u64 seed, .int .i64 room, .int .i64 now] ?_ Tryz.func5
  refine (hr.out _).mono ?_
  rintro e w2 ⟨rfl, hB⟩
  have H2 := Lib.hid (H1.out.below hB)
  clear hr hB H1 hS1 s0 s1 s2 s3 s4 s5 s6 s7 s8
  refine ⟨_, rfl, ?_⟩
  refine nl_ (by simp only [Act.put, List.setIfInBounds_toArray, List.set_cons_zero, List.set_cons_succ]; rfl) ?_
  refine ls_ ?_
  refine ls_ ?_
  refine ls_ ?_
  refine alS_ (fun V hV hVB => ?_)
  refine sS_ (s := s0) (A := none) (c := 0) 9 47 hV (fun W2 q1 q2 q3 => ?_)
  refine ls_ ?_
  refine wpList_nil ?_
  have hKw : w.heap.size ≤ w2.heap.size := H2.out.old.size
  have hK := Lib.hid q1
  have hL := Lib.hid (LiveS.off (H2.out.below hVB) hV (by decide) hKw q2 q3)
  clear q1 q2 q3 hV hVB H2
  generalize w2.heap.size = K at *
  go_wp2_with fail
  refine (Stage.few_any v l _ (hv1.out.below hL.out.old)).mono ?_
  rintro e w3 ⟨rfl, hB⟩
  rw [hf1.out]
  have hL3 := Lib.hid (hL.out.below hB)
  have hK3 := Lib.hid (hK.out.below hB)
  clear hB hL hK
  go_wp2_with fail
  refine (Stage.few_any v2 m _ (hv2x.out.below hL3.out.old)).mono ?_
  rintro e w4 ⟨rfl, hB⟩
  rw [hf2x.out]
  have hL4 := Lib.hid (hL3.out.below hB)
  have hK4 := Lib.hid (hK3.out.below hB)
  clear hB hL3 hK3
  go_wp2_with (go_at_call 7; (with_reducible refine (alive_any _).mono ?_); rintro e w9 ⟨rfl, hB9⟩; have hB9' := Lib.hid hB9; clear hB9)
  go_ret
  exact ⟨rfl, bw_below hL4.out.old hB9'.out⟩
theorem scopies_yes (t : Tox) (seed room now : Int) (v : Value) (l : List Stage.Op) (v2 : Value) (m : List Stage.Op) (w : World) (hv : Stage.Script w v l) (hv2 : Stage.Script w v2 m) (he : newE t room = 0) (hn : t.name.size ≤ 9223372036854775807) (hsd : 0 ≤ seed ∧ seed < 18446744073709551616) (hf : Stage.fewB l = true) (hf2 : Stage.fewB m = true) :
    Calls Tryz.prog 3 #[.agg (seatCs t seed room now), v, v2] w fun e w' => e = .returned (.bool true) ∧ Below w.heap.size w w' := by
  have hv1 := Lib.hid hv
  have hf1 := Lib.hid hf
  have hv2x := Lib.hid hv2
  have hf2x := Lib.hid hf2
  have hl5 : Stage.bytesOf l ≤ 2000 := by simp [Stage.fewB] at hf; exact hf.2
  have hl2 : l.length ≤ 60 := by simp [Stage.fewB] at hf; exact hf.1
  have hm5 : Stage.bytesOf m ≤ 2000 := by simp [Stage.fewB] at hf2; exact hf2.2
  have hm2 : m.length ≤ 60 := by simp [Stage.fewB] at hf2; exact hf2.1
  obtain ⟨a, cap, rfl, hmx, hNm, hA⟩ := hv
  obtain ⟨a2, cap2, rfl, hmx2, hNm2, hA2⟩ := hv2
  have hsd' := Lib.hid hsd
  clear hf hf2 hsd
  have hm := Lib.hid (fun (wr : World) hB => live_new (w := w) (wr := wr) t seed room now he hB)
  have hr := Lib.hid (fun (wr : World) => rnew_yes t seed room now wr he hn)
  have hB0 := Lib.hid ((Below.refl w.heap.size w).alloc (Nat.le_refl _) (.cells (seatCs t seed room now) 26))
  have hS0 := Lib.hid (Blk.new w 26 (seatCs t seed room now))
  have hs0 := Lib.hid (show (newS t seed room now).c = ([], 0) ∧ (newS t seed room now).passed = 0 ∧ (newS t seed room now).dice = seed from by unfold newS; split <;> exact ⟨rfl, rfl, rfl⟩)
  clear he hn
  generalize newS t seed room now = s0 at *
  go_enter Tryz.func3, Tryz.ntmps3
  go_wp2_with fail
  refine (hm.out _ hB0.out).mono ?_
  rintro e w1 ⟨b, kk, rfl, hL, hB⟩
  have H1 := Lib.hid hL
  have hS1 := Lib.hid (hS0.out.below hB)
  clear hm hB hB0 hS0 hL
  have s0 : w1.cell? ⟨w.heap.size, 0, none⟩ = some (.string t.name) := (hS1.out.cell 0).trans rfl
  have s1 : w1.cell? ⟨w.heap.size, 1, none⟩ = some (.int .i64 t.kind) := (hS1.out.cell 1).trans rfl
  have s2 : w1.cell? ⟨w.heap.size, 2, none⟩ = some (.bool t.up) := (hS1.out.cell 2).trans rfl
  have s3 : w1.cell? ⟨w.heap.size, 3, none⟩ = some (.int .i64 t.often) := (hS1.out.cell 3).trans rfl
  have s4 : w1.cell? ⟨w.heap.size, 4, none⟩ = some (.int .i64 t.a) := (hS1.out.cell 4).trans rfl
  have s5 : w1.cell? ⟨w.heap.size, 5, none⟩ = some (.int .i64 t.b) := (hS1.out.cell 5).trans rfl
  have s6 : w1.cell? ⟨w.heap.size, 6, none⟩ = some (.int .u64 seed) := (hS1.out.cell 6).trans rfl
  have s7 : w1.cell? ⟨w.heap.size, 7, none⟩ = some (.int .i64 room) := (hS1.out.cell 7).trans rfl
  have s8 : w1.cell? ⟨w.heap.size, 8, none⟩ = some (.int .i64 now) := (hS1.out.cell 8).trans rfl
  go_upto_region 2 with (fail)
  refine wp_region_lit (l := [_, _, _, _, _, _, _, _, _, _, _, _, _, _, _]) ?_
  refine ls_ ?_
  refine ls_ ?_
  refine ls_ ?_
  refine ls_ ?_
  refine ls_ ?_
  refine ls_ ?_
  refine ls_ ?_
  refine ls_ ?_
  refine cl_ 46 #[t.v, .int .u64 seed, .int .i64 room, .int .i64 now] ?_ Tryz.func5
  refine (hr.out _).mono ?_
  rintro e w2 ⟨rfl, hB⟩
  have H2 := Lib.hid (H1.out.below hB)
  clear hr hB H1 hS1 s0 s1 s2 s3 s4 s5 s6 s7 s8
  refine ⟨_, rfl, ?_⟩
  refine nl_ (by simp only [Act.put, List.setIfInBounds_toArray, List.set_cons_zero, List.set_cons_succ]; rfl) ?_
  refine ls_ ?_
  refine ls_ ?_
  refine ls_ ?_
  refine alS_ (fun V hV hVB => ?_)
  refine sS_ (s := s0) (A := none) (c := 0) 9 47 hV (fun W2 q1 q2 q3 => ?_)
  refine ls_ ?_
  refine wpList_nil ?_
  have hKw : w.heap.size ≤ w2.heap.size := H2.out.old.size
  have hK := Lib.hid q1
  have hL := Lib.hid (LiveS.off (H2.out.below hVB) hV (by decide) hKw q2 q3)
  clear q1 q2 q3 hV hVB H2
  generalize w2.heap.size = K at *
  go_wp2_with fail
  refine (Stage.few_any _ l _ (hv1.out.below hL.out.old)).mono ?_
  rintro e w3 ⟨rfl, hB⟩
  rw [hf1.out]
  have hL3 := Lib.hid (hL.out.below hB)
  have hK3 := Lib.hid (hK.out.below hB)
  clear hB hL hK
  go_wp2_with fail
  refine (Stage.few_any _ m _ (hv2x.out.below hL3.out.old)).mono ?_
  rintro e w4 ⟨rfl, hB⟩
  rw [hf2x.out]
  have hL4 := Lib.hid (hL3.out.below hB)
  have hK4 := Lib.hid (hK3.out.below hB)
  clear hB hL3 hK3
  have hI0 := Lib.hid (show RI w4 s0 none 0 from by unfold RI; rw [hs0.out.1]; exact ⟨IR.nil _ _, Nat.zero_le _⟩)
  have hD0 := Lib.hid (show D64 s0 from by unfold D64; rw [hs0.out.2.2]; exact hsd'.out)
  have hb0 := Lib.hid (show s0.passed + (held s0 : Int) ≤ 0 from by unfold held; rw [hs0.out.1, hs0.out.2.1]; decide)
  clear hsd' hs0
  go_wp2
  go_loopw [72] (fun iv wr => ∃ (k : Nat) (s : Sg) (A : Option Addr) (c : Nat), k ≤ l.length ∧ iv = .int .i64 k ∧ LiveS w wr b kk s ∧ s.passed + (held s : Int) ≤ (Stage.bytesOf (l.take k) : Int) ∧ D64 s ∧ Blk wr K 38 (rcells s A c) ∧ RI wr s A c) (fun iv _ => l.length - (intOf iv).toNat)
  case atStart => exact ⟨0, s0, none, 0, by omega, rfl, hL4.out, by have := hb0.out; simp [Stage.bytesOf]; omega, hD0.out, hK4.out, hI0.out⟩
  case round =>
    obtain ⟨k, s, A, c, hk, rfl, hL, hbd, hD, hKx, hI⟩ := hrel
    clear hL4 hK4 hI0 hD0 hb0
    have hble0 := Stage.bytesOf_le l k
    have hp0 := hL.ok.p0
    by_cases hlt : k < l.length
    · skip
      obtain ⟨g, oo, rfl, hc⟩ := hA (by intro h; subst h; simp at hlt)
      have hx : l[k]? = some l[k] := List.getElem?_eq_getElem hlt
      obtain ⟨d0, d1, d2, d3, d4, d5, d6, d7, d8, d9⟩ := hc k _ hx
      have hnm := (hNm _ (List.getElem_mem hlt)).2
      have hbt := Stage.bytesOf_take l k _ hx
      have hble := Stage.bytesOf_le l (k + 1)
      rw [hbt] at hble
      have hbt' := Lib.hid hbt
      clear hbt
      unfold opBytes at hble hbt'
      generalize l[k] = p at *
      have hold := hL.old
      have d0' := bcells hold d0
      have d1' := bcells hold d1
      have d2' := bcells hold d2
      have d3' := bcells hold d3
      have d4' := bcells hold d4
      have d5' := bcells hold d5
      have d6' := bcells hold d6
      have d7' := bcells hold d7
      have d8' := bcells hold d8
      have d9' := bcells hold d9
      have hL' := Lib.hid hL
      have hK' := Lib.hid hKx
      have hI' := Lib.hid hI
      have hD' := Lib.hid hD
      have hszw := hold.size
      clear hc hx hold hL hKx hI hD d0 d1 d2 d3 d4 d5 d6 d7 d8 d9
      go_upto_region 8 with (fail)
      have hO : Blk (wr.alloc (.cells #[.int .i64 p.kind, .int .i64 p.now, .int .i64 p.n, .string p.s, .string p.t.name, .int .i64 p.t.kind, .bool p.t.up, .int .i64 p.t.often, .int .i64 p.t.a, .int .i64 p.t.b] 44)) wr.heap.size 44 (opc p) := Blk.new wr 44 (opc p)
      have hBx := (Below.refl wr.heap.size wr).alloc (Nat.le_refl _) (.cells (opc p) 44)
      generalize hW1 : wr.alloc (.cells #[.int .i64 p.kind, .int .i64 p.now, .int .i64 p.n, .string p.s, .string p.t.name, .int .i64 p.t.kind, .bool p.t.up, .int .i64 p.t.often, .int .i64 p.t.a, .int .i64 p.t.b] 44) = W1 at *
      have hO1 := Lib.hid hO
      have hL1 := Lib.hid (hL'.out.below hBx)
      have hK1 := Lib.hid (hK'.out.below hBx)
      have hI1 := Lib.hid (hI'.out.below hBx)
      have hW1l : wr.heap.size < W1.heap.size := hO.lt
      have hKl1 : K < wr.heap.size := hK'.out.lt
      clear hW1 hO hBx hL' hK' hI' d0' d1' d2' d3' d4' d5' d6' d7' d8' d9'
      refine wp_region_lit (l := [_, _, _, _, _, _, _, _, _, _]) ?_
      refine lS_ 9 hK1.out ?_
      refine lO_ 12 hO1.out ?_
      refine cl_ 79 #[.agg (rcells s A c), .agg (opc p)] ?_ Tryz.func8
      refine (rdo_any s A c p W1 hI1.out hD'.out hL1.out.ok (by omega) (by omega) (by omega)).mono ?_
      rintro e w5 ⟨A2, c2, rfl, hJ, hB5⟩
      have hDn := Lib.hid (d64_does hD'.out p)
      have hmass := mass_step s p
      refine ⟨_, rfl, ?_⟩
      refine nl_ (by simp only [Act.put, List.setIfInBounds_toArray, List.set_cons_zero, List.set_cons_succ]; rfl) ?_
      refine ls_ ?_
      refine ls_ ?_
      refine ls_ ?_
      refine alS_ (fun V1 a1 a2 => ?_)
      refine alA_ (fun V2 b1 b2 => ?_)
      refine sS_ 13 80 (a1.below b2) (fun W3 q1 q2 q3 => ?_)
      refine sA_ 14 81 (Eq.trans (q2 _ (by have := a2.size; have := a1.lt; omega)) b1) (fun W4 r1 r2 r3 => ?_)
      refine wpList_nil ?_
      have hB4 := (r3 _ w5 (by have := a2.size; omega) (q3 _ w5 (Nat.le_refl _) (a2.trans (b2.mono a2.size))))
      have hJ4 := Lib.hid (hJ.below hB4)
      have hBW := hB5.trans (hB4.mono hB5.size)
      have hL4' := Lib.hid (hL1.out.below hBW)
      have hK4' := Lib.hid (hK1.out.below hBW)
      have hO4 := Lib.hid (hO1.out.below hBW)
      have hN4 := Lib.hid (show Blk W4 w5.heap.size _ _ from Eq.trans (r2 _ (by have := a2.size; have := a1.lt; omega)) q1)
      have hA4 := Lib.hid (show Blk W4 V1.heap.size _ _ from r1)
      have hKl4 : W1.heap.size ≤ w5.heap.size := hB5.size
      have hNe : w5.heap.size < V1.heap.size := a1.lt
      clear q1 q2 q3 r1 r2 r3 a1 a2 b1 b2 hB4 hBW hJ hB5 hL1 hK1 hO1 hI1  hD'
      generalize w5.heap.size = M at *
      generalize V1.heap.size = MA at *
      go_upto_region 9 with (fail)
      refine cpS_ 13 9 82 hN4.out hK4'.out (fun W5 q1 q2 q3 => ?_)
      have hL5 := Lib.hid (LiveS.off hL4'.out hK4'.out (by decide) hKw q2 q3)
      have hJ5 := Lib.hid (hJ4.out.heap hK4'.out (by decide) q2)
      have hK5 := Lib.hid q1
      have hO5 := Lib.hid (show Blk W5 wr.heap.size _ _ from Eq.trans (q2 _ (by omega)) hO4.out)
      clear q1 q2 q3 hL4' hJ4 hK4' hO4 hN4 hA4
      go_upto_region 10 with (fail)
      refine wp_region_lit (l := [_, _, _]) ?_
      refine ls_ ?_
      refine lO_ 12 hO5.out ?_
      refine cl_ 85 #[.pointer (some ⟨b, 0, none⟩), .agg (opc p)] ?_ Tryz.func9
      refine (live_call hL5.out p (by omega) (by omega)).mono ?_
      rintro e w6 ⟨rfl, hL6, hS6⟩
      have hL7 := Lib.hid hL6
      have hK7 := Lib.hid (hS6.blk hK5.out (by decide))
      have hJ7 := Lib.hid (hS6.ri hJ5.out)
      clear hL6 hS6 hL5 hK5 hJ5 hO5
      refine ⟨_, rfl, ?_⟩
      refine nl_ (by simp only [Act.put, List.setIfInBounds_toArray, List.set_cons_zero, List.set_cons_succ]; rfl) ?_
      refine wpList_nil ?_
      generalize hy : doesS s p = s2 at *
      go_wp2
      go_roundw
      case rel => exact ⟨k + 1, s2, A2, c2, by omega, by go_num, hL7.out, by rw [hbt'.out]; omega, hDn.out, hK7.out, hJ7.out⟩
      case measure => simp [intOf]; omega
    · have hk2 : k = l.length := by omega
      subst hk2
      have hnl : ¬ (l.length < l.length) := by omega
      have hx5 : s.passed + (held s : Int) ≤ 2000 := by omega
      have hcl : s.c.1.length ≤ 2000000000000 := by
        have := len_tot hL.ok.good.1
        unfold held at hx5
        omega
      have hL1 := Lib.hid hL
      have hK1 := Lib.hid hKx
      have hI1 := Lib.hid hI
      have hD1 := Lib.hid hD
      clear hL hA hKx hI hD hble0
      go_wp2_with fail
      refine (two_copy hL1.out hcl).mono ?_
      rintro e wc ⟨d, q, rfl, hT2, hBc⟩
      have hT3 := Lib.hid hT2
      have hK3 := Lib.hid (hK1.out.below hBc)
      have hI3 := Lib.hid (hI1.out.below hBc)
      clear hT2 hBc hL1 hK1 hI1
      go_upto_region 15 with (fail)
      refine wp_region_lit (l := [_, _, _]) ?_
      refine lS_ 9 hK3.out ?_
      refine alS_ (fun V hV hVB => ?_)
      refine sS_ 16 91 hV (fun W5 q1 q2 q3 => ?_)
      refine wpList_nil ?_
      have hK2w := hT3.out.old.size
      have hKlt := hK3.out.lt
      have hT4 := Lib.hid (Two.off (hT3.out.below hVB) hV (by decide) hK2w q2 q3)
      have hBV := q3 _ wc (Nat.le_refl _) hVB
      have hK4 := Lib.hid (hK3.out.below hBV)
      have hI4 := Lib.hid (hI3.out.below hBV)
      have hKn := Lib.hid q1
      have hKne : K ≠ wc.heap.size := by omega
      clear q1 q2 q3 hV hVB hBV hT3 hK3 hI3 hKlt
      generalize wc.heap.size = K2 at *
      generalize hX : s = x at *
      clear hX
      obtain ⟨A1, hA1⟩ : ∃ A1, A1 = A := ⟨_, rfl⟩
      obtain ⟨c1, hc1⟩ : ∃ c1, c1 = c := ⟨_, rfl⟩
      rw [← hA1, ← hc1] at hK4 hI4 hKn
      clear hA1 hc1
      clear hnl hlt hbd hk
      obtain ⟨wo, hwo⟩ : ∃ wo, wo = wr := ⟨_, rfl⟩
      go_wp2
      go_loopw [94] (fun iv wr => ∃ (k : Nat) (y : Sg) (A : Option Addr) (c : Nat), k ≤ m.length ∧ iv = .int .i64 k ∧ Two w wr b kk d q x y ∧ y = (m.take k).foldl doesS x ∧ y.passed + (held y : Int) ≤ 2000 + (Stage.bytesOf (m.take k) : Int) ∧ D64 y ∧ Blk wr K2 38 (rcells y A c) ∧ RI wr y A c ∧ Blk wr K 38 (rcells x A1 c1) ∧ RI wr x A1 c1) (fun iv _ => m.length - (intOf iv).toNat)
      case atStart => exact ⟨0, x, A1, c1, by omega, rfl, hT4.out, rfl, by simp [Stage.bytesOf]; omega, hD1.out, hKn.out, hI4.out, hK4.out, hI4.out⟩
      case round =>
        obtain ⟨k, y, A, c, hk, rfl, hL, hyF, hbd, hD, hKx, hI, hXK, hXI⟩ := hrel
        clear hT4 hKn hK4 hI4
        have hble0 := Stage.bytesOf_le m k
        have hp0 := hL.ok.2.p0
        by_cases hlt : k < m.length
        · skip
          obtain ⟨g, oo, rfl, hc⟩ := hA2 (by intro h; subst h; simp at hlt)
          have hx : m[k]? = some m[k] := List.getElem?_eq_getElem hlt
          obtain ⟨d0, d1, d2, d3, d4, d5, d6, d7, d8, d9⟩ := hc k _ hx
          have hnm := (hNm2 _ (List.getElem_mem hlt)).2
          have hbt := Stage.bytesOf_take m k _ hx
          have hble := Stage.bytesOf_le m (k + 1)
          rw [hbt] at hble
          have hbt' := Lib.hid hbt
          clear hbt
          unfold opBytes at hble hbt'
          have hfd := Lib.hid (show (m.take (k + 1)).foldl doesS x = doesS ((m.take k).foldl doesS x) m[k] from by rw [List.take_add_one, hx, List.foldl_append]; rfl)
          generalize m[k] = p at *
          have hold := hL.old
          have d0' := bcells hold d0
          have d1' := bcells hold d1
          have d2' := bcells hold d2
          have d3' := bcells hold d3
          have d4' := bcells hold d4
          have d5' := bcells hold d5
          have d6' := bcells hold d6
          have d7' := bcells hold d7
          have d8' := bcells hold d8
          have d9' := bcells hold d9
          have hL' := Lib.hid hL
          have hK' := Lib.hid hKx
          have hI' := Lib.hid hI
          have hD' := Lib.hid hD
          have hszw := hold.size
          have hXK' := Lib.hid hXK
          have hXI' := Lib.hid hXI
          have hyF' := Lib.hid hyF
          clear hXK hXI hyF
          clear hc hx hold hL hKx hI hD d0 d1 d2 d3 d4 d5 d6 d7 d8 d9
          go_upto_region 19 with (fail)
          have hO : Blk (wr.alloc (.cells #[.int .i64 p.kind, .int .i64 p.now, .int .i64 p.n, .string p.s, .string p.t.name, .int .i64 p.t.kind, .bool p.t.up, .int .i64 p.t.often, .int .i64 p.t.a, .int .i64 p.t.b] 44)) wr.heap.size 44 (opc p) := Blk.new wr 44 (opc p)
          have hBx := (Below.refl wr.heap.size wr).alloc (Nat.le_refl _) (.cells (opc p) 44)
          generalize hW1 : wr.alloc (.cells #[.int .i64 p.kind, .int .i64 p.now, .int .i64 p.n, .string p.s, .string p.t.name, .int .i64 p.t.kind, .bool p.t.up, .int .i64 p.t.often, .int .i64 p.t.a, .int .i64 p.t.b] 44) = W1 at *
          have hO1 := Lib.hid hO
          have hL1 := Lib.hid (hL'.out.below hBx)
          have hK1 := Lib.hid (hK'.out.below hBx)
          have hI1 := Lib.hid (hI'.out.below hBx)
          have hXK1 := Lib.hid (hXK'.out.below hBx)
          have hXI1 := Lib.hid (hXI'.out.below hBx)
          clear hXK' hXI'
          have hW1l : wr.heap.size < W1.heap.size := hO.lt
          have hKl1 : K2 < wr.heap.size := hK'.out.lt
          clear hW1 hO hBx hL' hK' hI' d0' d1' d2' d3' d4' d5' d6' d7' d8' d9'
          refine wp_region_lit (l := [_, _, _, _, _, _, _, _, _, _]) ?_
          refine lS_ 16 hK1.out ?_
          refine lO_ 18 hO1.out ?_
          refine cl_ 101 #[.agg (rcells y A c), .agg (opc p)] ?_ Tryz.func8
          refine (rdo_any y A c p W1 hI1.out hD'.out hL1.out.ok.2 (by omega) (by omega) (by omega)).mono ?_
          rintro e w5 ⟨A2, c2, rfl, hJ, hB5⟩
          have hDn := Lib.hid (d64_does hD'.out p)
          have hmass := mass_step y p
          refine ⟨_, rfl, ?_⟩
          refine nl_ (by simp only [Act.put, List.setIfInBounds_toArray, List.set_cons_zero, List.set_cons_succ]; rfl) ?_
          refine ls_ ?_
          refine ls_ ?_
          refine ls_ ?_
          refine alS_ (fun V1 a1 a2 => ?_)
          refine alA_ (fun V2 b1 b2 => ?_)
          refine sS_ 19 102 (a1.below b2) (fun W3 q1 q2 q3 => ?_)
          refine sA_ 20 103 (Eq.trans (q2 _ (by have := a2.size; have := a1.lt; omega)) b1) (fun W4 r1 r2 r3 => ?_)
          refine wpList_nil ?_
          have hB4 := (r3 _ w5 (by have := a2.size; omega) (q3 _ w5 (Nat.le_refl _) (a2.trans (b2.mono a2.size))))
          have hJ4 := Lib.hid (hJ.below hB4)
          have hBW := hB5.trans (hB4.mono hB5.size)
          have hL4' := Lib.hid (hL1.out.below hBW)
          have hK4' := Lib.hid (hK1.out.below hBW)
          have hO4 := Lib.hid (hO1.out.below hBW)
          have hXK4 := Lib.hid (hXK1.out.below hBW)
          have hXI4 := Lib.hid (hXI1.out.below hBW)
          have hN4 := Lib.hid (show Blk W4 w5.heap.size _ _ from Eq.trans (r2 _ (by have := a2.size; have := a1.lt; omega)) q1)
          have hA4 := Lib.hid (show Blk W4 V1.heap.size _ _ from r1)
          have hKl4 : W1.heap.size ≤ w5.heap.size := hB5.size
          have hNe : w5.heap.size < V1.heap.size := a1.lt
          clear q1 q2 q3 r1 r2 r3 a1 a2 b1 b2 hB4 hBW hJ hB5 hL1 hK1 hO1 hI1 hXK1 hXI1 hD'
          generalize hy2 : doesS y p = y2 at *
          generalize haA : doesA y p = aA at *
          generalize w5.heap.size = M at *
          generalize V1.heap.size = MA at *
          have hcl2 := Lib.hid (fun (W : World) (h : Two w W b kk d q x y) => two_second h p (by omega) (by omega))
          rw [hy2, haA] at hcl2
          have hfd2 := Lib.hid (show y2 = (m.take (k + 1)).foldl doesS x from by rw [hfd.out, ← hyF'.out, hy2])
          clear hy2 haA hfd hyF'
          go_upto_region 20 with (fail)
          refine cpS_ 19 16 104 hN4.out hK4'.out (fun W5 q1 q2 q3 => ?_)
          have hLd := Two.below (Two.off hL4'.out hK4'.out (by decide) hK2w q2 q3) (show Below W5.heap.size W5 W5.drew from (Below.refl _ _).drew)
          have hJd : RI W5.drew y2 A2 c2 := (hJ4.out.heap hK4'.out (by decide) q2)
          have hKd : Blk W5.drew K2 38 (rcells y2 A2 c2) := q1
          have hOd : Blk W5.drew wr.heap.size 44 (opc p) := Eq.trans (q2 _ (by omega)) hO4.out
          have hAd : Blk W5.drew MA 46 #[.int .i64 aA.1, .string aA.2.1, .int .i64 aA.2.2] := Eq.trans (q2 _ (by omega)) hA4.out
          have hXKd : Blk W5.drew K 38 (rcells x A1 c1) := Eq.trans (q2 _ hKne) hXK4.out
          have hXId : RI W5.drew x A1 c1 := (hXI4.out.heap hK4'.out (by decide) q2)
          clear q1 q2 q3 hL4' hJ4 hK4' hO4 hN4 hA4 hXK4 hXI4
          have hne_ := fun (W : World) => neq_ans W aA.1 aA.2.2 aA.2.1
          have hgd_ := eqguard_ans
          go_upto_region 21 with (fail)
          refine start_ (n := 5) (S := fun w' => Blk w' wr.heap.size 44 (opc p) ∧ Blk w' MA 46 #[.int .i64 aA.1, .string aA.2.1, .int .i64 aA.2.2]) (ds := []) (m_ 5 0) (by kernel_rfl) rfl (by kernel_rfl) ⟨hOd, hAd⟩ (fun hHeld => ?_)
          refine pq_ 0 105 5 1 ?_
          refine tW_ 1 106 5 3 18 (fun _ h => h.1) Tryz.underlying44 rfl (by kernel_rfl) hHeld ?_
          refine tW_ 3 108 5 11 20 (fun _ h => h.2) Tryz.underlying46 rfl (by kernel_rfl) hHeld ?_
          refine one_ (i := 2) (N := some 107) (m_ 5 15) rfl rfl (by kernel_rfl) (by decide) (fun K hK => ?_)
          refine goes_ Tryz.func9 (by kernel_rfl) rfl #[.pointer (some ⟨d, 0, none⟩), .agg (opc p)] (by rfl) rfl rfl (by simp only [List.map_toArray, List.map_cons, List.map_nil]; rfl) ?_
          with_reducible refine ((hcl2.out _ hLd)).mono ?_
          rintro e w6 ⟨rfl, hL6, hS6⟩
          refine ⟨_, rfl, ?_⟩
          have hL7 := Lib.hid hL6
          have hK7 := Lib.hid (hS6.blk hKd (by decide))
          have hJ7 := Lib.hid (hS6.ri hJd)
          have hXK7 := Lib.hid (hS6.blk hXKd (by decide))
          have hXI7 := Lib.hid (hS6.ri hXId)
          have hO7 := Lib.hid (hS6.blk hOd (by decide))
          have hA7 := Lib.hid (hS6.blk hAd (by decide))
          clear hL6 hS6
          refine hK.out _ _ ⟨hO7.out, hA7.out⟩ (fun hHeld => ?_)
          clear hK K
          refine norm_ (a' := ?_) ?_ ?_
          rotate_left
          · show Act.put _ (some 107) _ = _
            simp only [Act.put, List.setIfInBounds_toArray, List.set_cons_zero, List.set_cons_succ, i64_w, i32_w]
            rfl
          refine pq_ 4 109 5 31 ?_
          refine done_ (by kernel_rfl) ?_
          clear hHeld hLd hJd hKd hOd hAd hXKd hXId hcl2
          go_wp2
          go_roundw
          case rel => exact ⟨k + 1, y2, A2, c2, by omega, by go_num, hL7.out, hfd2.out, by rw [hbt'.out]; omega, hDn.out, hK7.out, hJ7.out, hXK7.out, hXI7.out⟩
          case measure => simp [intOf]; omega
        · have hk2 : k = m.length := by omega
          subst hk2
          have hnl : ¬ (m.length < m.length) := by omega
          have hyb : y.passed + (held y : Int) ≤ 4000 := by omega
          have hyF3 := Lib.hid (show y = m.foldl doesS x from by rw [hyF, List.take_length])
          have hT5 := Lib.hid hL
          have hK5 := Lib.hid hXK
          have hI5 := Lib.hid hXI
          clear hL hKx hI hXK hXI hyF hbd hD hlt hnl hk hble0
          obtain ⟨wo2, hwo2⟩ : ∃ wo2, wo2 = wr := ⟨_, rfl⟩
          go_wp2
          go_loopw [113] (fun iv wr => ∃ (k : Nat) (s : Sg) (A : Option Addr) (c : Nat), k ≤ m.length ∧ iv = .int .i64 k ∧ Two w wr b kk d q s y ∧ s = (m.take k).foldl doesS x ∧ s.passed + (held s : Int) ≤ 2000 + (Stage.bytesOf (m.take k) : Int) ∧ D64 s ∧ Blk wr K 38 (rcells s A c) ∧ RI wr s A c) (fun iv _ => m.length - (intOf iv).toNat)
          case atStart => exact ⟨0, x, A1, c1, by omega, rfl, hT5.out, rfl, by simp [Stage.bytesOf]; omega, hD1.out, hK5.out, hI5.out⟩
          case round =>
            obtain ⟨k, s, A, c, hk, rfl, hL, hyF, hbd, hD, hKx, hI⟩ := hrel
            clear hT5 hK5 hI5
            have hble0 := Stage.bytesOf_le m k
            have hp1 := hL.ok.1.p0
            by_cases hlt : k < m.length
            · skip
              obtain ⟨g, oo, rfl, hc⟩ := hA2 (by intro h; subst h; simp at hlt)
              have hx : m[k]? = some m[k] := List.getElem?_eq_getElem hlt
              obtain ⟨d0, d1, d2, d3, d4, d5, d6, d7, d8, d9⟩ := hc k _ hx
              have hnm := (hNm2 _ (List.getElem_mem hlt)).2
              have hbt := Stage.bytesOf_take m k _ hx
              have hble := Stage.bytesOf_le m (k + 1)
              rw [hbt] at hble
              have hbt' := Lib.hid hbt
              clear hbt
              unfold opBytes at hble hbt'
              have hfd := Lib.hid (show (m.take (k + 1)).foldl doesS x = doesS ((m.take k).foldl doesS x) m[k] from by rw [List.take_add_one, hx, List.foldl_append]; rfl)
              generalize m[k] = p at *
              have hold := hL.old
              have d0' := bcells hold d0
              have d1' := bcells hold d1
              have d2' := bcells hold d2
              have d3' := bcells hold d3
              have d4' := bcells hold d4
              have d5' := bcells hold d5
              have d6' := bcells hold d6
              have d7' := bcells hold d7
              have d8' := bcells hold d8
              have d9' := bcells hold d9
              have hL' := Lib.hid hL
              have hK' := Lib.hid hKx
              have hI' := Lib.hid hI
              have hD' := Lib.hid hD
              have hszw := hold.size
              have hyF' := Lib.hid hyF
              clear hyF
              clear hc hx hold hL hKx hI hD d0 d1 d2 d3 d4 d5 d6 d7 d8 d9
              go_upto_region 27 with (fail)
              have hO : Blk (wr.alloc (.cells #[.int .i64 p.kind, .int .i64 p.now, .int .i64 p.n, .string p.s, .string p.t.name, .int .i64 p.t.kind, .bool p.t.up, .int .i64 p.t.often, .int .i64 p.t.a, .int .i64 p.t.b] 44)) wr.heap.size 44 (opc p) := Blk.new wr 44 (opc p)
              have hBx := (Below.refl wr.heap.size wr).alloc (Nat.le_refl _) (.cells (opc p) 44)
              generalize hW1 : wr.alloc (.cells #[.int .i64 p.kind, .int .i64 p.now, .int .i64 p.n, .string p.s, .string p.t.name, .int .i64 p.t.kind, .bool p.t.up, .int .i64 p.t.often, .int .i64 p.t.a, .int .i64 p.t.b] 44) = W1 at *
              have hO1 := Lib.hid hO
              have hL1 := Lib.hid (hL'.out.below hBx)
              have hK1 := Lib.hid (hK'.out.below hBx)
              have hI1 := Lib.hid (hI'.out.below hBx)
              have hW1l : wr.heap.size < W1.heap.size := hO.lt
              have hKl1 : K < wr.heap.size := hK'.out.lt
              clear hW1 hO hBx hL' hK' hI' d0' d1' d2' d3' d4' d5' d6' d7' d8' d9'
              refine wp_region_lit (l := [_, _, _, _, _, _, _, _, _, _]) ?_
              refine lS_ 9 hK1.out ?_
              refine lO_ 22 hO1.out ?_
              refine cl_ 120 #[.agg (rcells s A c), .agg (opc p)] ?_ Tryz.func8
              refine (rdo_any s A c p W1 hI1.out hD'.out hL1.out.ok.1 (by omega) (by omega) (by omega)).mono ?_
              rintro e w5 ⟨A2, c2, rfl, hJ, hB5⟩
              have hDn := Lib.hid (d64_does hD'.out p)
              have hmass := mass_step s p
              refine ⟨_, rfl, ?_⟩
              refine nl_ (by simp only [Act.put, List.setIfInBounds_toArray, List.set_cons_zero, List.set_cons_succ]; rfl) ?_
              refine ls_ ?_
              refine ls_ ?_
              refine ls_ ?_
              refine alS_ (fun V1 a1 a2 => ?_)
              refine alA_ (fun V2 b1 b2 => ?_)
              refine sS_ 23 121 (a1.below b2) (fun W3 q1 q2 q3 => ?_)
              refine sA_ 24 122 (Eq.trans (q2 _ (by have := a2.size; have := a1.lt; omega)) b1) (fun W4 r1 r2 r3 => ?_)
              refine wpList_nil ?_
              have hB4 := (r3 _ w5 (by have := a2.size; omega) (q3 _ w5 (Nat.le_refl _) (a2.trans (b2.mono a2.size))))
              have hJ4 := Lib.hid (hJ.below hB4)
              have hBW := hB5.trans (hB4.mono hB5.size)
              have hL4' := Lib.hid (hL1.out.below hBW)
              have hK4' := Lib.hid (hK1.out.below hBW)
              have hO4 := Lib.hid (hO1.out.below hBW)
              have hN4 := Lib.hid (show Blk W4 w5.heap.size _ _ from Eq.trans (r2 _ (by have := a2.size; have := a1.lt; omega)) q1)
              have hA4 := Lib.hid (show Blk W4 V1.heap.size _ _ from r1)
              have hKl4 : W1.heap.size ≤ w5.heap.size := hB5.size
              have hNe : w5.heap.size < V1.heap.size := a1.lt
              clear q1 q2 q3 r1 r2 r3 a1 a2 b1 b2 hB4 hBW hJ hB5 hL1 hK1 hO1 hI1  hD'
              generalize hy2 : doesS s p = s2 at *
              generalize haA : doesA s p = aA at *
              generalize w5.heap.size = M at *
              generalize V1.heap.size = MA at *
              have hcl2 := Lib.hid (fun (W : World) (h : Two w W b kk d q s y) => two_first h p (by omega) (by omega))
              rw [hy2, haA] at hcl2
              have hfd2 := Lib.hid (show s2 = (m.take (k + 1)).foldl doesS x from by rw [hfd.out, ← hyF'.out, hy2])
              clear hy2 haA hfd hyF'
              go_upto_region 28 with (fail)
              refine cpS_ 23 9 123 hN4.out hK4'.out (fun W5 q1 q2 q3 => ?_)
              have hLd := Two.below (Two.off hL4'.out hK4'.out (by decide) hKw q2 q3) (show Below W5.heap.size W5 W5.drew from (Below.refl _ _).drew)
              have hJd : RI W5.drew s2 A2 c2 := (hJ4.out.heap hK4'.out (by decide) q2)
              have hKd : Blk W5.drew K 38 (rcells s2 A2 c2) := q1
              have hOd : Blk W5.drew wr.heap.size 44 (opc p) := Eq.trans (q2 _ (by omega)) hO4.out
              have hAd : Blk W5.drew MA 46 #[.int .i64 aA.1, .string aA.2.1, .int .i64 aA.2.2] := Eq.trans (q2 _ (by omega)) hA4.out
              clear q1 q2 q3 hL4' hJ4 hK4' hO4 hN4 hA4
              have hne_ := fun (W : World) => neq_ans W aA.1 aA.2.2 aA.2.1
              have hgd_ := eqguard_ans
              go_upto_region 29 with (fail)
              refine start_ (n := 5) (S := fun w' => Blk w' wr.heap.size 44 (opc p) ∧ Blk w' MA 46 #[.int .i64 aA.1, .string aA.2.1, .int .i64 aA.2.2]) (ds := []) (m_ 5 0) (by kernel_rfl) rfl (by kernel_rfl) ⟨hOd, hAd⟩ (fun hHeld => ?_)
              refine pq_ 0 124 5 1 ?_
              refine tW_ 1 125 5 3 22 (fun _ h => h.1) Tryz.underlying44 rfl (by kernel_rfl) hHeld ?_
              refine tW_ 3 127 5 11 24 (fun _ h => h.2) Tryz.underlying46 rfl (by kernel_rfl) hHeld ?_
              refine one_ (i := 2) (N := some 126) (m_ 5 15) rfl rfl (by kernel_rfl) (by decide) (fun K hK => ?_)
              refine goes_ Tryz.func9 (by kernel_rfl) rfl #[.pointer (some ⟨b, 0, none⟩), .agg (opc p)] (by rfl) rfl rfl (by simp only [List.map_toArray, List.map_cons, List.map_nil]; rfl) ?_
              with_reducible refine ((hcl2.out _ hLd)).mono ?_
              rintro e w6 ⟨rfl, hL6, hS6⟩
              refine ⟨_, rfl, ?_⟩
              have hL7 := Lib.hid hL6
              have hK7 := Lib.hid (hS6.blk hKd (by decide))
              have hJ7 := Lib.hid (hS6.ri hJd)
              have hO7 := Lib.hid (hS6.blk hOd (by decide))
              have hA7 := Lib.hid (hS6.blk hAd (by decide))
              clear hL6 hS6
              refine hK.out _ _ ⟨hO7.out, hA7.out⟩ (fun hHeld => ?_)
              clear hK K
              refine norm_ (a' := ?_) ?_ ?_
              rotate_left
              · show Act.put _ (some 126) _ = _
                simp only [Act.put, List.setIfInBounds_toArray, List.set_cons_zero, List.set_cons_succ, i64_w, i32_w]
                rfl
              refine pq_ 4 128 5 31 ?_
              refine done_ (by kernel_rfl) ?_
              clear hHeld hLd hJd hKd hOd hAd hcl2
              go_wp2
              go_roundw
              case rel => exact ⟨k + 1, s2, A2, c2, by omega, by go_num, hL7.out, hfd2.out, by rw [hbt'.out]; omega, hDn.out, hK7.out, hJ7.out⟩
              case measure => simp [intOf]; omega
            · have hk2 : k = m.length := by omega
              subst hk2
              have hnl : ¬ (m.length < m.length) := by omega
              have hsy : s = y := by rw [hyF, hyF3.out, List.take_length]
              subst hsy
              have hT6 := Lib.hid hL
              have hh1 : held s ≤ 1000000000 := by omega
              clear hL hKx hI hyF hbd hD hlt hk hble0 hyF3 hA2
              go_wp2_with fail
              refine (alive_any _).mono ?_
              rintro e w7 ⟨rfl, hB7⟩
              have hT7 := Lib.hid (hT6.out.below hB7)
              clear hB7 hT6
              go_wp2_with fail
              refine (two_held2 hT7.out hh1).mono ?_
              rintro e w8 ⟨rfl, hT8'⟩
              have hT8 := Lib.hid hT8'
              clear hT8' hT7
              go_wp2_with fail
              refine (two_held1 hT8.out hh1).mono ?_
              rintro e w9 ⟨rfl, hT9'⟩
              have hT9 := Lib.hid hT9'
              clear hT9' hT8
              go_wp2_with fail
              refine (two_passed2 hT9.out).mono ?_
              rintro e wA ⟨rfl, rfl⟩
              go_wp2_with fail
              refine (two_passed1 hT9.out).mono ?_
              rintro e wB ⟨rfl, rfl⟩
              go_wp2
              go_ret
              exact ⟨by simp, hT9.out.old⟩
theorem scopies_row (x : Tox × Int × Int × Int) (v0 v v2 : Value) (l m : List Stage.Op) (w : World) (h0 : v0 = .agg (seatCs x.1 x.2.1 x.2.2.1 x.2.2.2) ∧ x.1.name.size ≤ 140737488351232 ∧ 0 ≤ x.2.1 ∧ x.2.1 < 18446744073709551616) (hv : Stage.Script w v l) (hv2 : Stage.Script w v2 m) :
    Calls Tryz.prog 3 #[v0, v, v2] w fun e w' => e = .returned (.bool true) ∧ Below w.heap.size w w' := by
  obtain ⟨rfl, hn, hs0, hs1⟩ := h0
  by_cases he : newE x.1 x.2.2.1 = 0
  · cases hf : Stage.fewB l with
    | false => exact scopies_few x.1 x.2.1 x.2.2.1 x.2.2.2 v l v2 m w hv hv2 he (by omega) hf
    | true =>
      cases hf2 : Stage.fewB m with
      | false => exact scopies_few2 x.1 x.2.1 x.2.2.1 x.2.2.2 v l v2 m w hv hv2 he (by omega) hf hf2
      | true => exact scopies_yes x.1 x.2.1 x.2.2.1 x.2.2.2 v l v2 m w hv hv2 he (by omega) ⟨hs0, hs1⟩ hf hf2
  · exact scopies_none x.1 x.2.1 x.2.2.1 x.2.2.2 v v2 w he (by omega)
end Go.Proofs.YtehpliclknfmoaaGreat.RefT
