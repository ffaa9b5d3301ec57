/- The chain's Step (chapter 11): two ranges over the pairs of stages that stand side by side. Conditions: the bytes are fewer than 2^30; the toxics are such as may be. -/
import Derived.RangeFuncNested
import Derived.RangeFuncBound
import Derived.RangeFuncCalls
import Derived.RangeFuncLeaves
import Derived.Shelf.Abstract
import Derived.WalkKit
import Derived.OwnWalkIn
import Derived.TacticsInMore
import Derived.LoopNIn
import Derived.LoopIn
import Derived.Test.YtnkgjnmhiedfoaaGreatW15
import Derived.Test.YtnkgjnmhiedfoaaGreatW22
namespace Go.Proofs.YtnkgjnmhiedfoaaGreat.Chain
open Go.RowKit Go.Shelf Mem Tick Cargo Toxic Stage Fen
open Go.Proofs.YtnkgjnmhiedfoaaGreatW.PrintLast Pu
set_option maxRecDepth 100000
set_option linter.unusedVariables false
set_option linter.unusedSimpArgs false
attribute [local go_sem] Oper.semAt_some
variable {w w' : World} {F H : Nat → Prop} {t : Pt} {a : Pa} {c : Nat} {D : Lay} {x : Ch}
theorem pairs_any (c : Nat) (w : World) :
    Calls Tryz.prog 82 #[ptr c] w fun e w' => e = .returned (.func (.func 103) #[] #[ptr w.heap.size]) ∧ w' = w.alloc (.cells #[ptr c] 78) := by
  go_enter Tryz.func82, Tryz.ntmps82
  go_wp2
  go_ret
  exact ⟨rfl, rfl⟩
def pk (D : Lay) (i : Nat) : Nat := (D.ps[i]?.map Pt.p).getD 0
theorem pk_of {D : Lay} {i : Nat} {t : Pt} (h : D.ps[i]? = some t) : pk D i = t.p := by unfold pk; rw [h]; rfl
abbrev encP (D : Lay) (k : Nat) : Array Value := #[.int .i64 ((k : Int) + 1), .agg #[ptr (pk D k), ptr (pk D (k + 1))]]
def Src (W : World) (bn c n : Nat) (D : Lay) : Prop :=
  W.cell? ⟨bn, 0, none⟩ = some (ptr c) ∧ W.cell? ⟨c, 0, none⟩ = some (.slice (some ⟨D.r, 0, none⟩) n D.cap) ∧ ∀ i, i < n → W.cell? ⟨D.r, i, none⟩ = some (ptr (pk D i))
def Kp (bn c n : Nat) (D : Lay) (W W' : World) : Prop := Src W bn c n D → Src W' bn c n D
theorem wr_k (k : Nat) (h : k ≤ 10) : wrap64 ((k : Int) + 1) = (k : Int) + 1 ∧ wrap64 ((k : Int) + 1 + 1) = (k : Int) + 1 + 1 ∧ wrap64 ((k : Int) + 1 - 1) = (k : Int) := by refine ⟨?_, ?_, ?_⟩ <;> unfold wrap64 <;> omega
theorem range_succ_ (k : Nat) : List.range (k + 1) = List.range k ++ [k] := List.range_succ
theorem pairs_stops (bn c n : Nat) (D : Lay) (m : Nat) (h2 : 2 ≤ n) (h10 : n ≤ 10) (hcap : n ≤ D.cap) (w : World) (h : Src w bn c n D) (hb : ∀ b, (b = bn ∨ b = c ∨ b = D.r) → b < w.heap.size) :
    SeqStopsK (wideR none) m Tryz.prog 103 #[ptr bn] (fun k : Fin (n - 1) => encP D k.1) (Kp bn c n D) (fun xs => xs.map Fin.val = List.range (n - 1)) (fun _ => True) (n - 1) w := fun l J Jx W hW hJ hJx hY h0 => by
  have hs : Src W bn c n D := ⟨(hW.cell (p := ⟨bn, 0, none⟩) (hb _ (.inl rfl))).trans h.1, (hW.cell (p := ⟨c, 0, none⟩) (hb _ (.inr (.inl rfl)))).trans h.2.1, fun i hi => (hW.cell (p := ⟨D.r, i, none⟩) (hb _ (.inr (.inr rfl)))).trans (h.2.2 i hi)⟩
  have hY' := Lib.hid hY
  have hs' := Lib.hid hs
  have hJ' := hJ
  clear hY hs h hb hJ hJx
  refine callsIn_of_wp Tryz.func103 rfl trivial ?_ rfl
  simp only [Tryz.ntmps103, List.size_toArray, List.length_cons, List.length_nil, Nat.reduceAdd, Nat.reduceSub, Array.replicate_succ, Array.replicate_zero, List.push_toArray, List.append_toArray, List.nil_append, List.cons_append]
  gi_wp2
  gi_loopw [3] (fun p wr => ∃ (k : Nat) (pre : List (Fin (n - 1))), k ≤ n - 1 ∧ p = .int .i64 ((k : Int) + 1) ∧ pre.map Fin.val = List.range k ∧ J pre wr ∧ Src wr bn c n D) (fun p wr => n - (intOf p).toNat)
  case atStart =>
    exact ⟨0, [], by omega, rfl, rfl, h0, hs'.out⟩
  case round =>
    obtain ⟨k, pre, hk, rfl, hpre, hJ1, hS⟩ := hrel
    have hln : pre.length = k := by have := congrArg List.length hpre; rwa [List.length_map, List.length_range] at this
    obtain ⟨c0, c1, c2⟩ := id hS
    obtain ⟨hw1, hw2, hw3⟩ := wr_k k (by omega)
    clear h0
    by_cases hlt : k < n - 1
    · have q1 : (k : Int) + 1 < (n : Int) := by omega
      have d0 := c2 k (by omega)
      have d1 := c2 (k + 1) (by omega)
      have hSh := Lib.hid hS
      clear hS c2
      have hJ2 : J pre wr.drew := hJ' _ _ _ none hJ1 ⟨rfl, rfl, rfl, Nat.le_refl _, fun _ _ _ => rfl⟩ (fun r e => by cases e)
      have g0 : wr.drew.cell? ⟨bn, 0, none⟩ = some (ptr c) := c0
      have g1 : wr.drew.cell? ⟨c, 0, none⟩ = some (.slice (some ⟨D.r, 0, none⟩) n D.cap) := c1
      have e0 : wr.drew.cell? ⟨D.r, k, none⟩ = some (ptr (pk D k)) := d0
      have e1 : wr.drew.cell? ⟨D.r, k + 1, none⟩ = some (ptr (pk D (k + 1))) := d1
      have q2 : (0 : Int) ≤ (k : Int) + 1 := by omega
      have q3 : (k : Int) < (n : Int) := by omega
      have hw4 : wrap64 (k : Int) = (k : Int) := by unfold wrap64; omega
      obtain ⟨fn, tmps, assign, body, hy, hR⟩ := hY'.out pre ⟨k, hlt⟩ wr.drew hJ2 (by rw [hln]; exact hlt)
      dsimp only [encP] at hy
      clear hJ1 hJ2
      gi_wp2
      refine regionIn (ro := none) 18 (fun w' => w' = wr.drew) (by kernel_rfl) (by kernel_rfl) (by kernel_rfl) rfl ?_
      refine Cls.value ?_ rfl (fun w' hw' => ?_) ?_
      rotate_left
      · subst hw'
        go_simp
        with_reducible rfl
      simp only [Act.put, List.setIfInBounds_toArray, List.set_cons_zero, List.set_cons_succ, i64_w, i32_w, hw4]
      refine Cls.value ?_ rfl (fun w' hw' => ?_) ?_
      rotate_left
      · subst hw'
        go_simp
        with_reducible rfl
      simp only [Act.put, List.setIfInBounds_toArray, List.set_cons_zero, List.set_cons_succ, i64_w, i32_w, hw4]
      refine Cls.value ?_ rfl (fun w' hw' => ?_) ?_
      rotate_left
      · subst hw'
        go_simp
        with_reducible rfl
      simp only [Act.put, List.setIfInBounds_toArray, List.set_cons_zero, List.set_cons_succ, i64_w, i32_w, hw4]
      refine Cls.value ?_ rfl (fun w' hw' => ?_) ?_
      rotate_left
      · subst hw'
        go_simp
        with_reducible rfl
      simp only [Act.put, List.setIfInBounds_toArray, List.set_cons_zero, List.set_cons_succ, i64_w, i32_w, hw4]
      refine Cls.value ?_ rfl (fun w' hw' => ?_) ?_
      rotate_left
      · subst hw'
        go_simp
        with_reducible rfl
      simp only [Act.put, List.setIfInBounds_toArray, List.set_cons_zero, List.set_cons_succ, i64_w, i32_w, hw4]
      refine Cls.value ?_ rfl (fun w' hw' => ?_) ?_
      rotate_left
      · subst hw'
        go_simp
        with_reducible rfl
      simp only [Act.put, List.setIfInBounds_toArray, List.set_cons_zero, List.set_cons_succ, i64_w, i32_w, hw4]
      refine Cls.value ?_ rfl (fun w' hw' => ?_) ?_
      rotate_left
      · subst hw'
        go_simp
        with_reducible rfl
      simp only [Act.put, List.setIfInBounds_toArray, List.set_cons_zero, List.set_cons_succ, i64_w, i32_w, hw4]
      refine Cls.value ?_ rfl (fun w' hw' => ?_) ?_
      rotate_left
      · subst hw'
        go_simp
        with_reducible rfl
      simp only [Act.put, List.setIfInBounds_toArray, List.set_cons_zero, List.set_cons_succ, i64_w, i32_w, hw4]
      refine Cls.value ?_ rfl (fun w' hw' => ?_) ?_
      rotate_left
      · subst hw'
        go_simp
        with_reducible rfl
      simp only [Act.put, List.setIfInBounds_toArray, List.set_cons_zero, List.set_cons_succ, i64_w, i32_w, hw4]
      refine Cls.value ?_ rfl (fun w' hw' => ?_) ?_
      rotate_left
      · subst hw'
        go_simp
        with_reducible rfl
      simp only [Act.put, List.setIfInBounds_toArray, List.set_cons_zero, List.set_cons_succ, i64_w, i32_w, hw4]
      refine Cls.value ?_ rfl (fun w' hw' => ?_) ?_
      rotate_left
      · subst hw'
        go_simp
        with_reducible rfl
      simp only [Act.put, List.setIfInBounds_toArray, List.set_cons_zero, List.set_cons_succ, i64_w, i32_w, hw4]
      refine Cls.value ?_ rfl (fun w' hw' => ?_) ?_
      rotate_left
      · subst hw'
        go_simp
        with_reducible rfl
      simp only [Act.put, List.setIfInBounds_toArray, List.set_cons_zero, List.set_cons_succ, i64_w, i32_w, hw4]
      refine Cls.value ?_ rfl (fun w' hw' => ?_) ?_
      rotate_left
      · subst hw'
        go_simp
        with_reducible rfl
      simp only [Act.put, List.setIfInBounds_toArray, List.set_cons_zero, List.set_cons_succ, i64_w, i32_w, hw4]
      refine Cls.value ?_ rfl (fun w' hw' => ?_) ?_
      rotate_left
      · subst hw'
        go_simp
        with_reducible rfl
      simp only [Act.put, List.setIfInBounds_toArray, List.set_cons_zero, List.set_cons_succ, i64_w, i32_w, hw4]
      refine Cls.value ?_ rfl (fun w' hw' => ?_) ?_
      rotate_left
      · subst hw'
        go_simp
        with_reducible rfl
      simp only [Act.put, List.setIfInBounds_toArray, List.set_cons_zero, List.set_cons_succ, i64_w, i32_w, hw4]
      refine Cls.value ?_ rfl (fun w' hw' => ?_) ?_
      rotate_left
      · subst hw'
        go_simp
        with_reducible rfl
      simp only [Act.put, List.setIfInBounds_toArray, List.set_cons_zero, List.set_cons_succ, i64_w, i32_w, hw4]
      refine Cls.value ?_ rfl (fun w' hw' => ?_) ?_
      rotate_left
      · subst hw'
        go_simp
        with_reducible rfl
      simp only [Act.put, List.setIfInBounds_toArray, List.set_cons_zero, List.set_cons_succ, i64_w, i32_w, hw4]
      refine Cls.value ?_ rfl (fun w' hw' => ?_) ?_
      rotate_left
      · subst hw'
        go_simp
        with_reducible rfl
      simp only [Act.put, List.setIfInBounds_toArray, List.set_cons_zero, List.set_cons_succ, i64_w, i32_w, hw4]
      refine Cls.done ?_
      rintro w' rfl
      gi_wp2
      refine ⟨(fun e => by cases e), ?_⟩
      refine hR.mono ?_
      rintro e W3 (⟨rfl, hJ3, hk3⟩ | ⟨rfl, hJx3⟩)
      · have hS3 : Src W3 bn c n D := hk3 hSh.out
        have hJ3' := Lib.hid hJ3
        have hS3' := Lib.hid hS3
        clear hJ3 hS3 hk3 hR hy g0 g1 e0 e1 c0 c1 d0 d1
        gi_wp2
        go_roundw
        case rel => exact ⟨k + 1, _, by omega, by go_num, by rw [List.map_append, hpre, range_succ_]; rfl, hJ3'.out, hS3'.out⟩
        case measure => simp [intOf]; omega
      · gi_wp2
        refine bodyPost_ret (results_none rfl _ _ _) rfl ?_
        exact ⟨⟨_, rfl⟩, .inr ⟨_, trivial, hJx3⟩⟩
    · have hk2 : k = n - 1 := by omega
      subst hk2
      have q1 : ¬ (((n - 1 : Nat) : Int) + 1 < (n : Int)) := by omega
      clear hS c2
      gi_wp2
      go_end0
      exact ⟨⟨_, rfl⟩, .inl ⟨pre, hpre, hJ1⟩⟩

theorem step_shut (h : CH w F c D x) (now : Int) (h1 : x.state ≠ 0) :
    Calls Tryz.prog 56 #[ptr c, .int .i64 now] w fun e w' => e = .returned (.int .i64 x.state) ∧ Tu w F w' c D x := by
  have hb := ((Below.refl w.heap.size w).alloc (Nat.le_refl _) (.cells #[ptr c] 78)).alloc (by simp) (.cells #[.int .i64 now] 3)
  have hC := Lib.hid (Tu.below h hb)
  have c4 : ((w.alloc (.cells #[ptr c] 78)).alloc (.cells #[.int .i64 now] 3)).cell? ⟨c, 4, none⟩ = some (.int .i64 x.state) := ((h.below hb).blk.cell 4).trans rfl
  have t1 : (x.state != 0) = true := by simpa using h1
  clear h hb
  go_enter Tryz.func56, Tryz.ntmps56
  go_wp2
  go_ret
  exact ⟨rfl, hC.out⟩
def Bx (W : World) (b : Nat) (c : Nat) (now : Int) : Prop := Blk W b 78 #[ptr c] ∧ Blk W (b + 1) 3 #[.int .i64 now]
theorem Bx.did {W W' : World} {b : Nat} {now : Int} {G : Nat → Prop} (h : Bx W b c now) (hC : CH W G c D x) (hD : Did G W W') : Bx W' b c now :=
  ⟨h.1.did hD (hC.typed.out h.1 (by decide)), h.2.did hD (hC.typed.out h.2 (by decide))⟩
theorem Bx.new (w : World) (c : Nat) (now : Int) : Bx ((w.alloc (.cells #[ptr c] 78)).alloc (.cells #[.int .i64 now] 3)) w.heap.size c now := by
  have h1 := Blk.new w 78 #[ptr c]
  have h2 := Blk.new (w.alloc (.cells #[ptr c] 78)) 3 #[.int .i64 now]
  rw [World.size_alloc] at h2
  exact ⟨(Below.heap_alloc _ _ _ (by simp)).trans h1, h2⟩
theorem step_broken (h : CH w F c D x) {M Q : Int} (ho : OkC x M Q) (hM : M ≤ 1000000000) (now : Int) (h1 : x.state = 0) (hbr : brokenB (x.l.map (lookA now)) = true) :
    Calls Tryz.prog 56 #[ptr c, .int .i64 now] w fun e w' => e = .returned (.int .i64 (breakC { x with l := x.l.map (lookA now) }).state) ∧ Tu w F w' c D (breakC { x with l := x.l.map (lookA now) }) := by
  have hb := ((Below.refl w.heap.size w).alloc (Nat.le_refl _) (.cells #[ptr c] 78)).alloc (by simp) (.cells #[.int .i64 now] 3)
  have hB0 := Lib.hid (Bx.new w c now)
  have hC := Lib.hid (h.below hb)
  have hD0 := Lib.hid (Did.of_below (F := F) hb)
  have hh := heldL_of_line (look_map now x.l)
  have hl := ho.lost
  have hl0 := ho.lost0
  have hhl := ho.held
  have h10 := ho.ten
  have hx := Lib.hid (cbroken_any hC.out now (by omega) h10)
  have hbk := Lib.hid (fun (wy : World) (Fy : Nat → Prop) (hy : CH wy Fy c D { x with l := x.l.map (lookA now) }) => cBreak_any hy now (by simpa using h10) hl0 (by show x.lost + (heldL (x.l.map (lookA now)) : Int) ≤ _; rw [hh]; omega))
  have c4 : ((w.alloc (.cells #[ptr c] 78)).alloc (.cells #[.int .i64 now] 3)).cell? ⟨c, 4, none⟩ = some (.int .i64 x.state) := (hC.out.blk.cell 4).trans rfl
  rw [h1] at c4
  clear h hb ho hh hl hl0 hhl h1
  generalize breakC { x with l := x.l.map (lookA now) } = y at *
  go_enter Tryz.func56, Tryz.ntmps56
  go_wp2_with fail
  rw [hbr] at hx
  refine hx.out.mono ?_
  rintro e w1 ⟨rfl, F1, hC1, hD1, hS1⟩
  have hB1 := hB0.out.did hC.out hD1
  have q0 : w1.cell? ⟨w.heap.size, 0, none⟩ = some (ptr c) := hB1.1.cell 0
  have q1 : w1.cell? ⟨w.heap.size + 1, 0, none⟩ = some (.int .i64 now) := hB1.2.cell 0
  have hbk1 := Lib.hid (hbk.out w1 F1 hC1)
  have hT1 := Lib.hid (show Did F w w1 ∧ Stem F F1 w from ⟨hD0.out.trans (Stem.refl _ _) hD1, (Stem.refl F w).trans hD0.out.size hS1⟩)
  have hB1' := Lib.hid hB1
  have hC1' := Lib.hid hC1
  clear hC1 hD1 hS1 hx hbk hD0 hC hB0 c4 hB1
  go_wp2_with fail
  refine hbk1.out.mono ?_
  rintro e w2 ⟨rfl, F2, hC2, hD2, hS2⟩
  have hT2 := Lib.hid (Tu.next hT1.out.1 hT1.out.2 ⟨F2, hC2, hD2, hS2⟩)
  have q0 : w2.cell? ⟨w.heap.size, 0, none⟩ = some (ptr c) := (hB1'.out.did hC1'.out hD2).1.cell 0
  have e4 : w2.cell? ⟨c, 4, none⟩ = some (.int .i64 y.state) := (hC2.blk.cell 4).trans rfl
  clear hC2 hD2 hS2 hT1 hB1' hC1' hbk1
  go_wp2
  go_ret
  exact ⟨rfl, hT2.out⟩
end Go.Proofs.YtnkgjnmhiedfoaaGreat.Chain
namespace Go.Proofs.YtnkgjnmhiedfoaaGreat.Chain
open Go.RowKit Go.Shelf Mem Tick Cargo Toxic Stage Fen
open Go.Proofs.YtnkgjnmhiedfoaaGreatW.PrintLast Pu
set_option maxRecDepth 100000
set_option linter.unusedVariables false
set_option linter.unusedSimpArgs false
attribute [local go_sem] Oper.semAt_some
variable {w w' : World} {F H : Nat → Prop} {t : Pt} {a : Pa} {c : Nat} {D : Lay} {x : Ch}
theorem keeps_did {F' : Nat → Prop} {W W2 : World} {y : Ch} (hC : CH W F' c D y) (hD : Did F' W W2) : KeepsOthers W W2 :=
  ⟨hD.size, fun k o hk ho => (hD.block k (Array.getElem?_eq_some_iff.1 hk).1 (fun hf => by
    obtain ⟨ty, _, cs, hb⟩ := hC.typed k hf
    unfold Blk at hb
    rw [hk] at hb
    cases hb
    cases ho)).trans hk⟩
theorem ch_own {F' : Nat → Prop} {W W' : World} {y : Ch} {row : Option Nat} (hC : CH W F' c D y) (hg : W.grownBy W' row) (hr : ∀ r, row = some r → ∃ o : Obj, W.heap[r]? = some o ∧ o.isCells = false) : CH W' F' c D y := by
  refine hC.kept fun j hj => hg.block j (hC.lt hj) ?_
  intro e
  obtain ⟨o, ho, hc⟩ := hr j e.symm
  obtain ⟨ty, _, cs, hb⟩ := hC.typed j hj
  unfold Blk at hb
  rw [ho] at hb
  cases hb
  cases hc
theorem blk_own {W W' : World} {k : Nat} {ty : TypeId} {cs : Array Value} {row : Option Nat} (hb : Blk W k ty cs) (hg : W.grownBy W' row) (hr : ∀ r, row = some r → ∃ o : Obj, W.heap[r]? = some o ∧ o.isCells = false) : Blk W' k ty cs := by
  refine (hg.block k hb.lt ?_).trans hb
  intro e
  obtain ⟨o, ho, hc⟩ := hr k e.symm
  unfold Blk at hb
  rw [ho] at hb
  cases hb
  cases hc
def Inv {m : Nat} (wL : World) (F1 : Nat → Prop) (c : Nat) (D : Lay) (f : List Nat → Ch) (pre : List (Fin m)) (W : World) : Prop := Tu wL F1 W c D (f (pre.map Fin.val))
theorem inv_own {m : Nat} (wL : World) (F1 : Nat → Prop) (c : Nat) (D : Lay) (f : List Nat → Ch) : OwnFrom wL.heap.size (Inv (m := m) wL F1 c D f) := by
  rintro pre W W' row ⟨F', hC, hD, hS⟩ hg hr
  refine ⟨F', ch_own hC hg fun r e => (hr r e).2, ⟨hg.os.trans hD.os, hg.tape.trans hD.tape, hg.output.trans hD.output, Nat.le_trans hD.size hg.size, fun k hk hn => (hg.block k (Nat.lt_of_lt_of_le hk hD.size) ?_).trans (hD.block k hk hn)⟩, hS⟩
  intro e
  have := (hr k e.symm).1
  omega
theorem kp_trans {bn c n : Nat} {D : Lay} {A B C : World} (h : Kp bn c n D A B) (k : Kp bn c n D B C) : Kp bn c n D A C := fun s => k (h s)
theorem kp_own {bn c n : Nat} {D : Lay} (B : Nat) (W : World) (l : Nat) (o o' : Obj) (_ : B ≤ l) (h : W.heap[l]? = some o) (hc : o.isCells = false) (_ : o.isWalk = false) : Kp bn c n D W (W.putObj l o') := fun s =>
  ⟨cell_kept s.1 (grownBy_putObj' W l o') (fun r e => by cases e; exact ⟨o, h, hc⟩), cell_kept s.2.1 (grownBy_putObj' W l o') (fun r e => by cases e; exact ⟨o, h, hc⟩), fun i hi => cell_kept (s.2.2 i hi) (grownBy_putObj' W l o') (fun r e => by cases e; exact ⟨o, h, hc⟩)⟩
theorem kp_alloc {bn c n : Nat} {D : Lay} (W : World) (o : Obj) : Kp bn c n D W (W.alloc o) := fun s =>
  ⟨bcells ((Below.refl _ W).alloc (Nat.le_refl _) o) s.1, bcells ((Below.refl _ W).alloc (Nat.le_refl _) o) s.2.1, fun i hi => bcells ((Below.refl _ W).alloc (Nat.le_refl _) o) (s.2.2 i hi)⟩
theorem src_of {W : World} {bn n : Nat} (hC : CH W F c D x) (hn : x.l.length = n) (hb : W.cell? ⟨bn, 0, none⟩ = some (ptr c)) : Src W bn c n D := by
  refine ⟨hb, (hC.blk.cell 0).trans (by simp [ccells, hn]), fun i hi => ?_⟩
  have h1 : i < D.ps.length := by rw [hC.len, hn]; exact hi
  have ht := List.getElem?_eq_getElem h1
  rw [pk_of ht]
  exact hC.rcell ht
theorem did_blk {W W2 : World} {k : Nat} {ty : TypeId} {cs : Array Value} {G : Nat → Prop} {y : Ch} (hC : CH W G c D y) (hD : Did G W W2) (hb : Blk W k ty cs) (ht : ty ∉ cts) : Blk W2 k ty cs := hb.did hD (hC.typed.out hb ht)
theorem Tu.blk {W W2 : World} {k : Nat} {ty : TypeId} {cs : Array Value} {G : Nat → Prop} {y z : Ch} (h : Tu W G W2 c D y) (hC : CH W G c D z) (hb : Blk W k ty cs) (ht : ty ∉ cts) : Blk W2 k ty cs := by
  obtain ⟨_, _, hD, _⟩ := h
  exact did_blk hC hD hb ht
theorem tu_close {W W' : World} {row : Option Nat} (h : Tu w F W c D x) (hg : W.grownBy W' row) (hr : ∀ r, row = some r → w.heap.size ≤ r ∧ ∃ o : Obj, W.heap[r]? = some o ∧ o.isCells = false) : Tu w F W' c D x := by
  obtain ⟨F', hC, hD, hS⟩ := h
  refine ⟨F', ch_own hC hg fun r e => (hr r e).2, ⟨hg.os.trans hD.os, hg.tape.trans hD.tape, hg.output.trans hD.output, Nat.le_trans hD.size hg.size, fun k hk hn => (hg.block k (Nat.lt_of_lt_of_le hk hD.size) ?_).trans (hD.block k hk hn)⟩, hS⟩
  intro e
  have := (hr k e.symm).1
  omega
def goC (now : Int) (x : Ch) : Ch := lastC now (shuts now (x.l.length - 1) { x with l := moves now (x.l.length - 1) (x.l.map (lookA now)) })
theorem Tu.undrew {W W2 : World} {F2 : Nat → Prop} {z : Ch} (h : Tu W.drew F2 W2 c D z) : Tu W F2 W2 c D z := Tu.next (Did.refl F2 W).drew (Stem.refl _ _) h
theorem round_end {m : Nat} {wL W W2 : World} {F1 F2 : Nat → Prop} {y z yL : Ch} {f : List Nat → Ch} {pre : List (Fin m)} {k : Fin m} {bn n B : Nat} (hC : CH W F2 c D y) (hD : Did F1 wL W) (hS : Stem F1 F2 wL) (hCL : CH wL F1 c D yL) (hbn : Blk wL bn 78 #[ptr c])
    (hT : Tu W F2 W2 c D z) (hz : z = f (pre.map Fin.val ++ [k.1])) (hn : z.l.length = n) : KeepsFrom B W W2 ∧ Kp bn c n D W W2 ∧ Inv wL F1 c D f (pre ++ [k]) W2 := by
  have hb1 := did_blk hCL hD hbn (by decide)
  have hb2 := hT.blk hC hb1 (by decide)
  have hI := Tu.next hD hS hT
  obtain ⟨F3, hC3, hD3, hS3⟩ := hT
  refine ⟨(keeps_did hC hD3).from _, fun _ => src_of hC3 hn (hb2.cell 0), ?_⟩
  unfold Inv
  rw [List.map_append, List.map_cons, List.map_nil, ← hz]
  exact hI
theorem mass_at {l : List Pa} {i j : Nat} {a b : Pa} (hij : i ≠ j) (ha : l[i]? = some a) (hb : l[j]? = some b) : held a.s + held b.s ≤ heldL l := by
  have h1 := heldL_set ha (drainA a)
  have h2 : (l.set i (drainA a))[j]? = some b := by rw [List.getElem?_set_ne hij]; exact hb
  have h3 := held_le h2
  have h4 : held (drainA a).s = 0 := rfl
  omega
set_option maxHeartbeats 4000000 in
theorem step_go (h : CH w F c D x) {M Q : Int} (ho : OkC x M Q) (hM : M ≤ 1000000000) (hQ : Q + 20 * M ≤ 1000000000) (now : Int) (h1 : x.state = 0) (hbr : brokenB (x.l.map (lookA now)) = false) :
    Calls Tryz.prog 56 #[ptr c, .int .i64 now] w fun e w' => e = .returned (.int .i64 (goC now x).state) ∧ Tu w F w' c D (goC now x) := by
  have hb := ((Below.refl w.heap.size w).alloc (Nat.le_refl _) (.cells #[ptr c] 78)).alloc (by simp) (.cells #[.int .i64 now] 3)
  have hB0 := Lib.hid (Bx.new w c now)
  have hC := Lib.hid (h.below hb)
  have hD0 := Lib.hid (Did.of_below (F := F) hb)
  have hh := heldL_of_line (look_map now x.l)
  have h10 := ho.ten
  have h2 := ho.two
  have hcap := h.cap
  have hM0 : 0 ≤ M := by have := ho.held; omega
  have hx := Lib.hid (cbroken_any hC.out now (by have := ho.held; omega) h10)
  have hoL := Lib.hid (ho.list (l := x.l.map (lookA now)) (by simp) hh (OkL.look ho.okL now))
  have c4 : ((w.alloc (.cells #[ptr c] 78)).alloc (.cells #[.int .i64 now] 3)).cell? ⟨c, 4, none⟩ = some (.int .i64 x.state) := (hC.out.blk.cell 4).trans rfl
  rw [h1] at c4
  have hgo := Lib.hid (show goC now x = lastC now (shuts now (x.l.length - 1) { x with l := moves now (x.l.length - 1) (x.l.map (lookA now)) }) from rfl)
  have hx1 := Lib.hid h1
  have hln : (x.l.map (lookA now)).length = x.l.length := by simp
  clear h hb ho hh h1
  generalize goC now x = Y at *
  generalize hL1 : x.l.map (lookA now) = l1 at *
  generalize hn : x.l.length = n at *
  refine (callsIn_wide (n := 9)).1 ?_
  show CallsIn (wideR none) 9 Tryz.prog 56 _ _ _
  refine callsIn_of_wp_marks Tryz.func56 rfl trivial ?_ rfl
  simp only [Tryz.ntmps56, List.size_toArray, List.length_cons, List.length_nil, Nat.reduceAdd, Nat.reduceSub, Array.replicate_succ, Array.replicate_zero, List.push_toArray, List.append_toArray, List.nil_append, List.cons_append]
  gi_wp2_with fail
  refine ⟨trivial, ?_⟩
  rw [hbr] at hx
  refine (callsIn_wideR hx.out).mono ?_
  rintro e w1 ⟨rfl, F1, hC1, hD1, hS1⟩
  have hB1 := Lib.hid (hB0.out.did hC.out hD1)
  have q0 : w1.cell? ⟨w.heap.size, 0, none⟩ = some (ptr c) := hB1.out.1.cell 0
  have q1 : w1.cell? ⟨w.heap.size + 1, 0, none⟩ = some (.int .i64 now) := hB1.out.2.cell 0
  have hT1 := Lib.hid (show Did F w w1 ∧ Stem F F1 w from ⟨hD0.out.trans (Stem.refl _ _) hD1, (Stem.refl F w).trans hD0.out.size hS1⟩)
  have hC1' := Lib.hid hC1
  clear hC1 hD1 hS1 hx hD0 hC hB0 c4
  gi_wp2_with fail
  refine ⟨trivial, ?_⟩
  refine (callsIn_wideR (pairs_any c w1)).mono ?_
  rintro e w2 ⟨rfl, hw2⟩
  -- the world where the first loop begins
  have hb2 : Below w1.heap.size w1 w2 := by rw [hw2]; exact (Below.refl _ w1).alloc (Nat.le_refl _) _
  have hbn : Blk w2 w1.heap.size 78 #[ptr c] := by rw [hw2]; exact Blk.new _ _ _
  have hC2 := Lib.hid (hC1'.out.below hb2)
  have hB2 := Lib.hid (show Bx w2 w.heap.size c now from ⟨hB1.out.1.below hb2, hB1.out.2.below hb2⟩)
  have hT2 := Lib.hid (show Did F w w2 ∧ Stem F F1 w from ⟨hT1.out.1.trans hT1.out.2 (Did.of_below hb2), hT1.out.2⟩)
  have hbnl : w1.heap.size < w2.heap.size := hbn.lt
  have hww : w.heap.size + 1 < w1.heap.size := hB1.out.2.lt
  generalize hBN : w1.heap.size = BN at *
  clear hC1' hT1 hB1 hb2 hw2 q0 q1 hBN
  gi_wp2
  have hsrc : Src w2 BN c n D := src_of hC2.out hln (hbn.cell 0)
  have hbn' := Lib.hid hbn
  refine wpIn_rangeFunc_ownH (F := wideR none) rfl (by omega) (gf := 103) (lb := #[ptr BN]) rfl trivial (enters_of Tryz.func103 (by kernel_rfl) rfl)
    (pairs_stops BN c n D (9 - 1) h2 h10 hcap w2 hsrc (fun b hb => by
      rcases hb with rfl | rfl | rfl
      · exact hbnl
      · exact hC2.out.lt hC2.out.mine
      · have := hsrc.2.2 0 (by omega); exact World.block_lt_of_cell? w2 _ this)) kp_trans (kp_own _) (Below.refl _ _) (fun _ => rfl)
    (Inv w2 F1 c D (fun ks => { x with l := mfold now ks l1 }))
    (fun _ _ _ => False)
    (inv_own _ _ _ _ _)
    (fun _ _ _ _ _ hs _ _ => hs)
    ⟨F1, hC2.out, Did.refl _ _, Stem.refl _ _⟩
    (fun k a' W => ∃ B, Blk W B 136 #[ptr (pk D k.1), ptr (pk D (k.1 + 1))] ∧ a' = { tmps := #[ptr c, .int .i64 now, ptr w.heap.size, ptr (w.heap.size + 1), .int .i64 0, undef, ptr B, undef, undef, ptr c, ptr c, .pointer (some ⟨c, 4, none⟩), .int .i64 0, .bool false, undef, undef, undef, undef, ptr c, .int .i64 now, .bool false, undef, undef, undef, undef, undef, undef, undef, ptr c, .func (.func 103) #[] #[ptr BN], .int .i64 ((k.1 : Int) + 1), .agg #[ptr (pk D k.1), ptr (pk D (k.1 + 1))], undef, undef, undef, undef, undef, undef, undef, undef, undef, undef, undef, undef, undef, undef, undef, undef, undef, undef, undef, undef, undef, undef, undef, undef, undef, undef, undef, undef, undef, undef, undef, undef, undef, undef, undef, undef, undef, undef, undef, undef, undef, undef, undef, undef, undef, undef, undef, undef, undef, undef, undef, undef, undef, undef, undef, undef, undef, undef, undef, undef, undef, undef, undef, undef, undef, undef, undef, undef, undef, undef, undef, undef, undef, undef, undef, undef], defers := [] })
    (fun k a' _ X Y row hs hg hr => by obtain ⟨B, h1, h2⟩ := hs; exact ⟨B, blk_own h1 hg (fun r e => (hr r e).2), h2⟩)
    ?assign ?body ?done ?stop
  case assign =>
    intro l pre k W K hI hK
    gi_wp2
    exact hK _ _ ((KeepsOthers.alloc _ _).from _) (kp_alloc _ _) ((inv_own _ _ _ _ _).alloc _ hI) ⟨W.heap.size, Blk.new _ _ _, rfl⟩
  case body =>
    rintro l pre k a' W hl hr ⟨F2, hC, hD, hS⟩ ⟨B, hBk, rfl⟩ hlt
    clear hr
    have hC : CH W F2 c D { x with l := mfold now (pre.map Fin.val) l1 } := hC
    obtain ⟨hok, hlen⟩ := mfold_ok hoL.out now (pre.map Fin.val)
    have hlen : (mfold now (pre.map Fin.val) l1).length = n := hlen.trans hln
    have hpl : ((pre.map Fin.val).length : Int) * M ≤ 10 * M := Int.mul_le_mul_of_nonneg_right (by rw [List.length_map]; omega) hM0
    have hkn := k.2
    have hmv := Lib.hid (mfold_snoc now (pre.map Fin.val) k.1 l1)
    have hokL : OkL (mfold now (pre.map Fin.val) l1) (Q + ((pre.map Fin.val).length : Int) * M) := hok.ok
    have hheld : (heldL (mfold now (pre.map Fin.val) l1) : Int) ≤ M := hok.held
    clear hok
    generalize mfold now (pre.map Fin.val) l1 = L at *
    generalize ((pre.map Fin.val).length : Int) * M = QM at *
    have hx0 : L[k.1]? = some L[k.1] := List.getElem?_eq_getElem (by omega)
    have hx1 : L[k.1 + 1]? = some L[k.1 + 1] := List.getElem?_eq_getElem (by omega)
    generalize L[k.1] = a at *
    generalize L[k.1 + 1] = b at *
    have hma := mass_at (by omega : k.1 ≠ k.1 + 1) hx0 hx1
    obtain ⟨t, ht⟩ := hC.pt (i := k.1) (a := a) hx0
    obtain ⟨u, hu⟩ := hC.pt (i := k.1 + 1) (a := b) hx1
    obtain ⟨oka, pa⟩ := hokL.at_ hx0
    obtain ⟨okb, pb⟩ := hokL.at_ hx1
    rw [pk_of ht, pk_of hu] at hBk
    have hBx := hB2.out.did hC2.out hD
    have b0 : W.cell? ⟨B, 0, none⟩ = some (ptr t.p) := hBk.cell 0
    have b1 : W.cell? ⟨B, 1, none⟩ = some (ptr u.p) := hBk.cell 1
    have qn : W.cell? ⟨w.heap.size + 1, 0, none⟩ = some (.int .i64 now) := hBx.2.cell 0
    have d0 := (hC.pcell (a := a) ht hx0).1
    have d1 := (hC.pcell (a := b) hu hx1).1
    have hst := Lib.hid (cs_state (a := b) hC.drew hu hx1 (by omega) now)
    have hfin := Lib.hid (fun (W2 : World) (z : Ch) (hT : Tu W F2 W2 c D z) (hz : z = { x with l := moveAt now k.1 L }) => round_end (n := n) (B := w2.heap.size) (f := fun ks => { x with l := mfold now ks l1 }) (pre := pre) (k := k) hC hD hS hC2.out hbn'.out hT (by rw [hz, hmv.out]) (by subst hz; exact (move_line now k.1 L).2.trans hlen))
    have hCd := Lib.hid hC.drew
    have hBkd := Lib.hid (show Blk W.drew B 136 #[ptr t.p, ptr u.p] from hBk)
    have hBxd := Lib.hid (show Bx W.drew w.heap.size c now from hBx)
    have ht' := Lib.hid ht
    have hu' := Lib.hid hu
    have hx0' := Lib.hid hx0
    have hx1' := Lib.hid hx1
    have hoka := Lib.hid oka
    have hokb := Lib.hid okb
    have hmvA := Lib.hid (show moveAt now k.1 L = if (lookP b.s now).state = 0 then (L.set k.1 ⟨takeS a.s now (free (lookP b.s now)), a.cl⟩).set (k.1 + 1) ⟨forceP (lookP b.s now) now (takeB a.s now (free (lookP b.s now))), b.cl⟩ else L.set (k.1 + 1) (lookA now b) from by unfold moveAt; rw [hx0, hx1])
    have hlb : k.1 + 1 < L.length := by omega
    clear hC hD hS hBk hBx ht hu hx0 hx1 oka okb hokL hmv hbn hsrc hl hgo
    gi_wp2
    refine startIn_ (ro := some l) (m := 8) (S := fun w' => w'.cell? ⟨B, 1, none⟩ = some (ptr u.p) ∧ w'.cell? ⟨u.p, 0, none⟩ = some (ptr u.b) ∧ w'.cell? ⟨w.heap.size + 1, 0, none⟩ = some (.int .i64 now)) (ds := []) (m_ 8 0) (by kernel_rfl) (by kernel_rfl) rfl (by kernel_rfl) ⟨b1, d1, qn⟩ (fun hHeld => ?_)
    refine pq_ 0 32 8 1 ?_
    refine tq_ 1 33 8 3 hHeld ?_
    refine pq_ 2 34 8 7 ?_
    refine pq_ 3 35 8 15 ?_
    refine tq_ 4 36 8 31 hHeld ?_
    refine tq_ 5 37 8 63 hHeld ?_
    refine one_ (i := 6) (N := some 38) (m_ 8 127) rfl rfl (by kernel_rfl) (by decide) (fun K hK => ?_)
    refine goes_ Tryz.func83 (by kernel_rfl) rfl #[ptr u.b, .int .i64 now] (by rfl) rfl rfl (by simp only [List.map_toArray, List.map_cons, List.map_nil]; rfl) ?_
    with_reducible refine (hst.out).mono ?_
    rintro e w3 ⟨rfl, F3, hC3, hD3, hS3⟩
    have hBk3 := did_blk hCd.out hD3 hBkd.out (by decide)
    have hBx3 := hBxd.out.did hCd.out hD3
    have e1 : w3.cell? ⟨B, 1, none⟩ = some (ptr u.p) := hBk3.cell 1
    have e0 : w3.cell? ⟨B, 0, none⟩ = some (ptr t.p) := hBk3.cell 0
    have en : w3.cell? ⟨w.heap.size + 1, 0, none⟩ = some (.int .i64 now) := hBx3.2.cell 0
    have hy1 : (L.set (k.1 + 1) (lookA now b))[k.1 + 1]? = some (lookA now b) := by rw [List.getElem?_set_self hlb]
    have hy0 : (L.set (k.1 + 1) (lookA now b))[k.1]? = some a := by rw [List.getElem?_set_ne (by omega)]; exact hx0'.out
    have g1 := (hC3.pcell (a := lookA now b) hu'.out hy1).1
    have g0 := (hC3.pcell (a := a) ht'.out hy0).1
    have hT3 := Lib.hid (Tu.undrew ⟨F3, hC3, hD3, hS3⟩)
    have hC3' := Lib.hid hC3
    have hq3 := Lib.hid (And.intro (show Did F2 W w3 from (Did.refl F2 W).drew.trans (Stem.refl _ _) hD3) (show Stem F2 F3 W from hS3))
    have hBk3' := Lib.hid hBk3
    have hBx3' := Lib.hid hBx3
    have hy0' := Lib.hid hy0
    have hy1' := Lib.hid hy1
    clear hC3 hD3 hS3 hBk3 hBx3 hst hy0 hy1
    refine ⟨_, rfl, ?_⟩
    refine hK.out _ _ ⟨e1, g1, en⟩ (fun hHeld => ?_)
    clear hK K
    refine norm_ (a' := ?_) ?_ ?_
    rotate_left
    · show Act.put _ (some 38) _ = _
      simp only [Act.put, List.setIfInBounds_toArray, List.set_cons_zero, List.set_cons_succ, i64_w, i32_w]
      rfl
    refine pq_ 7 39 8 255 ?_
    refine done_ (by kernel_rfl) ?_
    refine out_of ?_
    clear hHeld b0 b1 d0 d1 qn hC hCd hBkd hBxd hx0' hx1'
    by_cases hz : (lookP b.s now).state = 0
    · have te : ((lookP b.s now).state == 0) = true := by simpa using hz
      have hmvE := Lib.hid (hmvA.out.trans (if_pos hz))
      have hfr := Lib.hid (show Calls Tryz.prog 85 #[ptr u.b] w3.drew (fun e w' => e = .returned (.int .i64 (free (lookP b.s now))) ∧ Below w3.drew.heap.size w3.drew w') from cs_free (a := lookA now b) hC3'.out.drew hu'.out hy1'.out (by show held b.s ≤ _; omega) (hokb.out.look now))
      generalize hfq : free (lookP b.s now) = fr at *
      clear hz hmvA hT3
      gi_wp2
      refine startIn_ (ro := some l) (m := 20) (S := fun w' => w'.cell? ⟨B, 0, none⟩ = some (ptr t.p) ∧ w'.cell? ⟨B, 1, none⟩ = some (ptr u.p) ∧ w'.cell? ⟨t.p, 0, none⟩ = some (ptr t.b) ∧ w'.cell? ⟨u.p, 0, none⟩ = some (ptr u.b) ∧ w'.cell? ⟨w.heap.size + 1, 0, none⟩ = some (.int .i64 now)) (ds := []) (m_ 20 0) (by kernel_rfl) (by kernel_rfl) rfl (by kernel_rfl) ⟨e0, e1, g0, g1, en⟩ (fun hHeld => ?_)
      refine pq_ 0 40 20 1 ?_
      refine pq_ 6 46 20 65 ?_
      refine pq_ 12 52 20 4161 ?_
      refine tq_ 1 41 20 4163 hHeld ?_
      refine pq_ 2 42 20 4167 ?_
      refine pq_ 3 43 20 4175 ?_
      refine tq_ 4 44 20 4191 hHeld ?_
      refine tq_ 5 45 20 4223 hHeld ?_
      refine tq_ 7 47 20 4351 hHeld ?_
      refine pq_ 8 48 20 4607 ?_
      refine pq_ 9 49 20 5119 ?_
      refine tq_ 10 50 20 6143 hHeld ?_
      refine tq_ 11 51 20 8191 hHeld ?_
      refine tq_ 13 53 20 16383 hHeld ?_
      refine pq_ 14 54 20 32767 ?_
      refine pq_ 15 55 20 65535 ?_
      refine tq_ 16 56 20 131071 hHeld ?_
      refine one_ (i := 17) (N := some 57) (m_ 20 262143) rfl rfl (by kernel_rfl) (by decide) (fun K hK => ?_)
      refine goes_ Tryz.func85 (by kernel_rfl) rfl #[ptr u.b] (by rfl) rfl rfl (by simp only [List.map_toArray, List.map_cons, List.map_nil]; rfl) ?_
      with_reducible refine (hfr.out).mono ?_
      rintro e w4 ⟨rfl, hB4⟩
      have hC4 := Lib.hid (hC3'.out.drew.below hB4)
      have hq4 := Lib.hid (show Did F2 W w4 ∧ Stem F2 F3 W from ⟨hq3.out.1.drew.trans hq3.out.2 (Did.of_below hB4), hq3.out.2⟩)
      have hBk4 := Lib.hid ((show Blk w3.drew B 136 #[ptr t.p, ptr u.p] from hBk3'.out).below hB4)
      have hBx4 := Lib.hid (show Bx w4 w.heap.size c now from ⟨(show Blk w3.drew _ _ _ from hBx3'.out.1).below hB4, (show Blk w3.drew _ _ _ from hBx3'.out.2).below hB4⟩)
      have tk := Lib.hid (cs_take hC4.out ht'.out hy0'.out (by omega) hoka.out (by omega) now fr)
      have i0 : w4.cell? ⟨B, 0, none⟩ = some (ptr t.p) := hBk4.out.cell 0
      have i1 : w4.cell? ⟨B, 1, none⟩ = some (ptr u.p) := hBk4.out.cell 1
      have j0 := (hC4.out.pcell (a := a) ht'.out hy0'.out).1
      have j1 := (hC4.out.pcell (a := lookA now b) hu'.out hy1'.out).1
      have jn : w4.cell? ⟨w.heap.size + 1, 0, none⟩ = some (.int .i64 now) := hBx4.out.2.cell 0
      clear hB4 hC3' hq3 hBk3' hBx3' hfr
      refine ⟨_, rfl, ?_⟩
      refine hK.out _ _ ⟨i0, i1, j0, j1, jn⟩ (fun hHeld => ?_)
      clear hK K
      refine norm_ (a' := ?_) ?_ ?_
      rotate_left
      · show Act.put _ (some 57) _ = _
        simp only [Act.put, List.setIfInBounds_toArray, List.set_cons_zero, List.set_cons_succ, i64_w, i32_w]
        rfl
      refine one_ (i := 18) (N := some 58) (m_ 20 524287) rfl rfl (by kernel_rfl) (by decide) (fun K hK => ?_)
      refine goes_ Tryz.func84 (by kernel_rfl) rfl #[ptr t.b, .int .i64 now, .int .i64 fr] (by rfl) rfl rfl (by simp only [List.map_toArray, List.map_cons, List.map_nil]; rfl) ?_
      with_reducible refine (tk.out).mono ?_
      rintro e w5 ⟨A5, cp5, rfl, hb5, hn5, hTS⟩
      obtain ⟨F5, hC5, hD5, hS5, hoff5⟩ := hTS.off hC4.out hn5
      have hz0 : ((L.set (k.1 + 1) (lookA now b)).set k.1 ⟨takeS a.s now fr, a.cl⟩)[k.1 + 1]? = some (lookA now b) := by rw [List.getElem?_set_ne (by omega)]; exact hy1'.out
      have hz1 : ((L.set (k.1 + 1) (lookA now b)).set k.1 ⟨takeS a.s now fr, a.cl⟩)[k.1]? = some ⟨takeS a.s now fr, a.cl⟩ := by rw [List.getElem?_set_self (by rw [List.length_set]; omega)]
      have hBk5 := did_blk hC4.out hD5 hBk4.out (by decide)
      have hBx5 := hBx4.out.did hC4.out hD5
      have htl := takeB_le a.s now fr
      have fo := Lib.hid (cs_force hC5 hu'.out hz0 (hokb.out.look now) now A5 cp5 (takeB a.s now fr) hb5 hoff5 (by show held b.s + _ ≤ _; omega))
      have m0 : w5.cell? ⟨B, 0, none⟩ = some (ptr t.p) := hBk5.cell 0
      have m1 : w5.cell? ⟨B, 1, none⟩ = some (ptr u.p) := hBk5.cell 1
      have o0 := (hC5.pcell (a := ⟨takeS a.s now fr, a.cl⟩) ht'.out hz1).1
      have o1 := (hC5.pcell (a := lookA now b) hu'.out hz0).1
      have on : w5.cell? ⟨w.heap.size + 1, 0, none⟩ = some (.int .i64 now) := hBx5.2.cell 0
      have hq5 := Lib.hid (show Did F2 W w5 ∧ Stem F2 F5 W from ⟨hq4.out.1.trans hq4.out.2 hD5, hq4.out.2.trans hq4.out.1.size hS5⟩)
      have hBk5' := Lib.hid hBk5
      have hBx5' := Lib.hid hBx5
      have hC5' := Lib.hid hC5
      have hz0' := Lib.hid hz0
      have hz1' := Lib.hid hz1
      clear hb5 hn5 hTS hC5 hD5 hS5 hoff5 hBk5 hBx5 tk hq4 hBk4 hBx4 hC4 i0 i1 j0 j1 jn hz0 hz1
      refine ⟨_, rfl, ?_⟩
      refine hK.out _ _ ⟨m0, m1, o0, o1, on⟩ (fun hHeld => ?_)
      clear hK K
      refine norm_ (a' := ?_) ?_ ?_
      rotate_left
      · show Act.put _ (some 58) _ = _
        simp only [Act.put, List.setIfInBounds_toArray, List.set_cons_zero, List.set_cons_succ, i64_w, i32_w]
        rfl
      refine one_ (i := 19) (N := some 59) (m_ 20 1048575) rfl rfl (by kernel_rfl) (by decide) (fun K hK => ?_)
      refine goes_ Tryz.func70 (by kernel_rfl) rfl #[ptr u.b, .int .i64 now, .slice A5 (takeB a.s now fr).size cp5] (by rfl) rfl rfl (by simp only [List.map_toArray, List.map_cons, List.map_nil]; rfl) ?_
      with_reducible refine (fo.out).mono ?_
      rintro e w6 ⟨rfl, F6, hC6, hD6, hS6⟩
      have hT6 := Lib.hid (show Tu W F2 w6 c D { x with l := (L.set k.1 ⟨takeS a.s now fr, a.cl⟩).set (k.1 + 1) ⟨forceP (lookP b.s now) now (takeB a.s now fr), b.cl⟩ } from by rw [← set_three k.1 _ (lookA now b)]; exact Tu.next hq5.out.1 hq5.out.2 ⟨F6, hC6, hD6, hS6⟩)
      have hv1 : (((L.set (k.1 + 1) (lookA now b)).set k.1 ⟨takeS a.s now fr, a.cl⟩).set (k.1 + 1) ⟨forceP (lookP b.s now) now (takeB a.s now fr), b.cl⟩)[k.1 + 1]? = some ⟨forceP (lookP b.s now) now (takeB a.s now fr), b.cl⟩ := by rw [List.getElem?_set_self (by rw [List.length_set, List.length_set]; omega)]
      have hv0 : (((L.set (k.1 + 1) (lookA now b)).set k.1 ⟨takeS a.s now fr, a.cl⟩).set (k.1 + 1) ⟨forceP (lookP b.s now) now (takeB a.s now fr), b.cl⟩)[k.1]? = some ⟨takeS a.s now fr, a.cl⟩ := by rw [List.getElem?_set_ne (by omega)]; exact hz1'.out
      have hBk6 := did_blk hC5'.out hD6 hBk5'.out (by decide)
      have hBx6 := hBx5'.out.did hC5'.out hD6
      have m0 : w6.cell? ⟨B, 0, none⟩ = some (ptr t.p) := hBk6.cell 0
      have m1 : w6.cell? ⟨B, 1, none⟩ = some (ptr u.p) := hBk6.cell 1
      have o0 := (hC6.pcell (a := ⟨takeS a.s now fr, a.cl⟩) ht'.out hv0).1
      have o1 := (hC6.pcell (a := ⟨forceP (lookP b.s now) now (takeB a.s now fr), b.cl⟩) hu'.out hv1).1
      have on : w6.cell? ⟨w.heap.size + 1, 0, none⟩ = some (.int .i64 now) := hBx6.2.cell 0
      clear hC6 hD6 hS6 hBk6 hBx6 hv0 hv1
      refine ⟨_, rfl, ?_⟩
      refine hK.out _ _ ⟨m0, m1, o0, o1, on⟩ (fun hHeld => ?_)
      clear hK K
      refine norm_ (a' := ?_) ?_ ?_
      rotate_left
      · show Act.put _ (some 59) _ = _
        simp only [Act.put, List.setIfInBounds_toArray, List.set_cons_zero, List.set_cons_succ, i64_w, i32_w]
        rfl
      refine done_ (by kernel_rfl) ?_
      refine out_of ?_
      clear hHeld
      have hfz := Lib.hid (hfin.out _ _ hT6.out (by rw [hmvE.out]))
      clear hT6 hfin hmvE hq5 fo e0 e1 en g0 g1 m0 m1 o0 o1 on hBk5' hBx5' hC5' hz0' hz1' hy0' hy1'
      gi_wp2
      exact hfz.out
    · have te : ((lookP b.s now).state == 0) = false := by simpa using hz
      have hmvE := Lib.hid (hmvA.out.trans (if_neg hz))
      have hfz := Lib.hid (hfin.out _ _ hT3.out (by rw [hmvE.out]))
      clear hz hmvA hT3 hC3' hq3 hBk3' hBx3' hfin e0 e1 en g0 g1
      gi_wp2
      exact hfz.out
  case done =>
    rintro D0 xs W hD0 hxs ⟨F2, hC, hD, hS⟩ hK
    have hC : CH W F2 c D { x with l := mfold now (xs.map Fin.val) l1 } := hC
    rw [hxs, mfold_range] at hC
    obtain ⟨hok, hlen⟩ := mfold_ok hoL.out now (List.range (n - 1))
    have hok : OkC { x with l := mfold now (List.range (n - 1)) l1 } M (Q + ((List.range (n - 1)).length : Int) * M) := hok
    have hlen : (mfold now (List.range (n - 1)) l1).length = n := hlen.trans hln
    rw [mfold_range] at hok hlen
    have hpl : ((List.range (n - 1)).length : Int) * M ≤ 10 * M := Int.mul_le_mul_of_nonneg_right (by rw [List.length_range]; omega) hM0
    generalize ((List.range (n - 1)).length : Int) * M = QM at *
    obtain ⟨x2, hx2⟩ : ∃ x2 : Ch, x2 = { x with l := moves now (n - 1) l1 } := ⟨_, rfl⟩
    have hgo2 := Lib.hid (show Y = lastC now (shuts now (n - 1) x2) by rw [hgo.out, hx2])
    rw [← hx2] at hC hok
    have hlen2 : x2.l.length = n := by rw [hx2]; exact hlen
    have hst2 : x2.state = 0 := by rw [hx2]; exact hx1.out
    have hok' := Lib.hid hok
    have hBx := hB2.out.did hC2.out hD
    have q0 : W.cell? ⟨w.heap.size, 0, none⟩ = some (ptr c) := hBx.1.cell 0
    have hT3 := Lib.hid (show Did F w W ∧ Stem F F2 w from ⟨hT2.out.1.trans hT2.out.2 hD, hT2.out.2.trans hT2.out.1.size hS⟩)
    have hC3 := Lib.hid hC
    have hBx3 := Lib.hid hBx
    have hK3 := Lib.hid hK
    have hww2 : w2.heap.size ≤ W.heap.size := hD.size
    clear hC hD hS hK hBx hok hlen hgo hx2 hC2 hB2 hT2 hbn hsrc hbn' hoL hln hbr hL1 hxs hx1
    gi_wp2_with fail
    refine ⟨trivial, ?_⟩
    refine (callsIn_wideR (pairs_any c W)).mono ?_
    rintro e w4 ⟨rfl, hw4⟩
    have hb4 : Below W.heap.size W w4 := by rw [hw4]; exact (Below.refl _ W).alloc (Nat.le_refl _) _
    have hbn : Blk w4 W.heap.size 78 #[ptr c] := by rw [hw4]; exact Blk.new _ _ _
    have hC4 := Lib.hid (hC3.out.below hb4)
    have hB4 := Lib.hid (show Bx w4 w.heap.size c now from ⟨hBx3.out.1.below hb4, hBx3.out.2.below hb4⟩)
    have hT4 := Lib.hid (show Did F w w4 ∧ Stem F F2 w from ⟨hT3.out.1.trans hT3.out.2 (Did.of_below hb4), hT3.out.2⟩)
    have hK4 := Lib.hid (show w4.heap[D0]? = some (.deferred (some [])) from (hb4.block D0 (Array.getElem?_eq_some_iff.1 hK3.out).1).trans hK3.out)
    have hbn4l : W.heap.size < w4.heap.size := hbn.lt
    have hwwB : w.heap.size + 1 < W.heap.size := hBx3.out.2.lt
    generalize hBM : W.heap.size = BM at *
    clear hC3 hT3 hBx3 hb4 hw4 q0 hK3 hBM
    gi_wp2
    have hsrc : Src w4 BM c n D := src_of hC4.out hlen2 (hbn.cell 0)
    have hbn' := Lib.hid hbn
    refine wpIn_rangeFunc_ownH (F := wideR none) rfl (by omega) (gf := 103) (lb := #[ptr BM]) rfl trivial (enters_of Tryz.func103 (by kernel_rfl) rfl)
      (pairs_stops BM c n D (9 - 1) h2 h10 hcap w4 hsrc (fun b hb => by
        rcases hb with rfl | rfl | rfl
        · exact hbn4l
        · exact hC4.out.lt hC4.out.mine
        · have := hsrc.2.2 0 (by omega); exact World.block_lt_of_cell? w4 _ this)) kp_trans (kp_own _) (Below.refl _ _) (fun _ => rfl)
      (Inv w4 F2 c D (fun ks => sfold now ks x2))
      (fun _ _ _ => False)
      (inv_own _ _ _ _ _)
      (fun _ _ _ _ _ hs _ _ => hs)
      ⟨F2, hC4.out, Did.refl _ _, Stem.refl _ _⟩
      (fun k a' W => ∃ B, Blk W B 136 #[ptr (pk D k.1), ptr (pk D (k.1 + 1))] ∧ a' = { tmps := #[ptr c, .int .i64 now, ptr w.heap.size, ptr (w.heap.size + 1), .int .i64 0, undef, undef, .int .i64 ((k.1 : Int) + 1), ptr B, ptr c, ptr c, .pointer (some ⟨c, 4, none⟩), .int .i64 0, .bool false, undef, undef, undef, undef, ptr c, .int .i64 now, .bool false, undef, undef, undef, undef, undef, undef, undef, ptr c, .func (.func 103) #[] #[ptr BN], undef, undef, undef, undef, undef, undef, undef, undef, undef, undef, undef, undef, undef, undef, undef, undef, undef, undef, undef, undef, undef, undef, undef, undef, undef, undef, undef, undef, undef, undef, ptr c, .func (.func 103) #[] #[ptr BM], .int .i64 ((k.1 : Int) + 1), .agg #[ptr (pk D k.1), ptr (pk D (k.1 + 1))], undef, undef, undef, undef, undef, undef, undef, undef, undef, undef, undef, undef, undef, undef, undef, undef, undef, undef, undef, undef, undef, undef, undef, undef, undef, undef, undef, undef, undef, undef, undef, undef, undef, undef, undef, undef, undef, undef, undef, undef, undef, undef, undef, undef], defers := [] })
      (fun k a' _ X Y row hs hg hr => by obtain ⟨B, h1, h2⟩ := hs; exact ⟨B, blk_own h1 hg (fun r e => (hr r e).2), h2⟩)
      ?assign2 ?body2 ?done2 ?stop2
    case assign2 =>
      intro l pre k W K hI hK
      gi_wp2
      exact hK _ _ ((KeepsOthers.alloc _ _).from _) (kp_alloc _ _) ((inv_own _ _ _ _ _).alloc _ hI) ⟨W.heap.size, Blk.new _ _ _, rfl⟩
    case body2 =>
      rintro l pre k a' W hl hr ⟨F3, hC, hD, hS⟩ ⟨B, hBk, rfl⟩ hlt
      clear hr hl
      have hC : CH W F3 c D (sfold now (pre.map Fin.val) x2) := hC
      obtain ⟨hok, hlen⟩ := sfold_ok now (pre.map Fin.val) x2 hok'.out
      have hlen : (sfold now (pre.map Fin.val) x2).l.length = n := hlen.trans hlen2
      have hkn := k.2
      have hmv := Lib.hid (sfold_snoc now (pre.map Fin.val) k.1 x2)
      have hokL : OkL (sfold now (pre.map Fin.val) x2).l (Q + QM) := hok.ok
      generalize sfold now (pre.map Fin.val) x2 = y at *
      have hx0 : y.l[k.1]? = some y.l[k.1] := List.getElem?_eq_getElem (by omega)
      have hx1 : y.l[k.1 + 1]? = some y.l[k.1 + 1] := List.getElem?_eq_getElem (by omega)
      generalize y.l[k.1] = a at *
      generalize y.l[k.1 + 1] = b at *
      have hma := held_le hx0
      have hhd := hok.held
      have hls := hok.lost
      have hls0 := hok.lost0
      obtain ⟨t, ht⟩ := hC.pt hx0
      obtain ⟨u, hu⟩ := hC.pt hx1
      rw [pk_of ht, pk_of hu] at hBk
      have hBx := hB4.out.did hC4.out hD
      have b0 : W.cell? ⟨B, 0, none⟩ = some (ptr t.p) := hBk.cell 0
      have qn : W.cell? ⟨w.heap.size + 1, 0, none⟩ = some (.int .i64 now) := hBx.2.cell 0
      have d0 := (hC.pcell ht hx0).1
      have hst := Lib.hid (cs_state hC.drew ht hx0 (by omega) now)
      have hfin := Lib.hid (fun (W2 : World) (z : Ch) (hT : Tu W F3 W2 c D z) (hz : z = shutAt now k.1 y) => round_end (n := n) (B := w4.heap.size) (f := fun ks => sfold now ks x2) (pre := pre) (k := k) hC hD hS hC4.out hbn'.out hT (by rw [hz, hmv.out]) (by subst hz; exact (flow_shut now k.1 y).2.trans hlen))
      have hCd := Lib.hid hC.drew
      have hBkd := Lib.hid (show Blk W.drew B 136 #[ptr t.p, ptr u.p] from hBk)
      have hBxd := Lib.hid (show Bx W.drew w.heap.size c now from hBx)
      have ht' := Lib.hid ht
      have hu' := Lib.hid hu
      have hx0' := Lib.hid hx0
      have hx1' := Lib.hid hx1
      have hmvA := Lib.hid (show shutAt now k.1 y = if (lookP a.s now).state = 1 then { loseC (k.1 + 1) { y with l := y.l.set k.1 (lookA now a) } with l := (loseL (k.1 + 1) (y.l.set k.1 (lookA now a))).set (k.1 + 1) (endA now b) } else { y with l := y.l.set k.1 (lookA now a) } from by unfold shutAt; rw [hx0, hx1])
      have hlb : k.1 + 1 < y.l.length := by omega
      have hhl := heldL_set hx0 (lookA now a)
      have hhl2 : heldL (y.l.set k.1 (lookA now a)) = heldL y.l := by have : held (lookA now a).s = held a.s := rfl; omega
      clear hC hD hS hBk hBx ht hu hx0 hx1 hokL hok hmv hbn hsrc hhl
      gi_wp2
      refine startIn_ (ro := some l) (m := 8) (S := fun w' => w'.cell? ⟨B, 0, none⟩ = some (ptr t.p) ∧ w'.cell? ⟨t.p, 0, none⟩ = some (ptr t.b) ∧ w'.cell? ⟨w.heap.size + 1, 0, none⟩ = some (.int .i64 now)) (ds := []) (m_ 8 0) (by kernel_rfl) (by kernel_rfl) rfl (by kernel_rfl) ⟨b0, d0, qn⟩ (fun hHeld => ?_)
      refine pq_ 0 64 8 1 ?_
      refine tq_ 1 65 8 3 hHeld ?_
      refine pq_ 2 66 8 7 ?_
      refine pq_ 3 67 8 15 ?_
      refine tq_ 4 68 8 31 hHeld ?_
      refine tq_ 5 69 8 63 hHeld ?_
      refine one_ (i := 6) (N := some 70) (m_ 8 127) rfl rfl (by kernel_rfl) (by decide) (fun K hK => ?_)
      refine goes_ Tryz.func83 (by kernel_rfl) rfl #[ptr t.b, .int .i64 now] (by rfl) rfl rfl (by simp only [List.map_toArray, List.map_cons, List.map_nil]; rfl) ?_
      with_reducible refine (hst.out).mono ?_
      rintro e w5 ⟨rfl, F4, hC5, hD5, hS5⟩
      have hBk5 := did_blk hCd.out hD5 hBkd.out (by decide)
      have hBx5 := hBxd.out.did hCd.out hD5
      have e0 : w5.cell? ⟨B, 0, none⟩ = some (ptr t.p) := hBk5.cell 0
      have en : w5.cell? ⟨w.heap.size + 1, 0, none⟩ = some (.int .i64 now) := hBx5.2.cell 0
      have eb : w5.cell? ⟨w.heap.size, 0, none⟩ = some (ptr c) := hBx5.1.cell 0
      have hy0 : (y.l.set k.1 (lookA now a))[k.1]? = some (lookA now a) := by rw [List.getElem?_set_self (by omega)]
      have hy1 : (y.l.set k.1 (lookA now a))[k.1 + 1]? = some b := by rw [List.getElem?_set_ne (by omega)]; exact hx1'.out
      have g0 := (hC5.pcell (a := lookA now a) ht'.out hy0).1
      have ec : w5.cell? ⟨c, 0, none⟩ = some (.slice (some ⟨D.r, 0, none⟩) n D.cap) := (hC5.blk.cell 0).trans (by simp [ccells, hlen])
      have hT5 := Lib.hid (Tu.undrew ⟨F4, hC5, hD5, hS5⟩)
      have hC5' := Lib.hid hC5
      have hq5 := Lib.hid (And.intro (show Did F3 W w5 from (Did.refl F3 W).drew.trans (Stem.refl _ _) hD5) (show Stem F3 F4 W from hS5))
      have hBk5' := Lib.hid hBk5
      have hBx5' := Lib.hid hBx5
      have hy0' := Lib.hid hy0
      have hy1' := Lib.hid hy1
      clear hC5 hD5 hS5 hBk5 hBx5 hst hy0 hy1
      refine ⟨_, rfl, ?_⟩
      refine hK.out _ _ ⟨e0, g0, en⟩ (fun hHeld => ?_)
      clear hK K
      refine norm_ (a' := ?_) ?_ ?_
      rotate_left
      · show Act.put _ (some 70) _ = _
        simp only [Act.put, List.setIfInBounds_toArray, List.set_cons_zero, List.set_cons_succ, i64_w, i32_w]
        rfl
      refine pq_ 7 71 8 255 ?_
      refine done_ (by kernel_rfl) ?_
      refine out_of ?_
      clear hHeld b0 d0 qn hCd hBkd hBxd hx0' hx1'
      by_cases hz : (lookP a.s now).state = 1
      · have te : ((lookP a.s now).state == 1) = true := by simpa using hz
        have hmvE := Lib.hid (hmvA.out.trans (if_pos hz))
        have hlo := Lib.hid (lose_any hC5'.out.drew (k.1 + 1) (by show k.1 + 1 ≤ (y.l.set k.1 (lookA now a)).length; rw [List.length_set]; omega) D.cap (by omega) (by show (y.l.set k.1 (lookA now a)).length ≤ 10; rw [List.length_set]; omega) hls0 (by show y.lost + (heldL (y.l.set k.1 (lookA now a)) : Int) ≤ _; rw [hhl2]; omega))
        obtain ⟨y1, hy1d⟩ : ∃ y1 : Ch, y1 = { y with l := y.l.set k.1 (lookA now a) } := ⟨_, rfl⟩
        have hlo : Hid (Calls Tryz.prog 71 #[ptr c, .slice (some ⟨D.r, 0, none⟩) (k.1 + 1) D.cap] w5.drew fun e w' => e = .returned (.tuple #[]) ∧ Tu w5.drew F4 w' c D (loseC (k.1 + 1) y1)) := by rw [hy1d]; exact hlo
        have hq1 : (0 : Int) ≤ (k.1 : Int) + 1 := by omega
        have hq2 : (k.1 : Int) + 1 ≤ (D.cap : Int) := by omega
        have hq3 : ((k.1 : Int) + 1).toNat = k.1 + 1 := by omega
        have hq4 : ¬ D.cap = 0 := by omega
        clear hz hmvA hT5
        gi_wp2
        refine startIn_ (ro := some l) (m := 8) (S := fun w' => w'.cell? ⟨w.heap.size, 0, none⟩ = some (ptr c) ∧ w'.cell? ⟨c, 0, none⟩ = some (.slice (some ⟨D.r, 0, none⟩) n D.cap)) (ds := []) (m_ 8 0) (by kernel_rfl) (by kernel_rfl) rfl (by kernel_rfl) ⟨eb, ec⟩ (fun hHeld => ?_)
        refine pq_ 5 77 8 32 ?_
        refine tq_ 0 72 8 33 hHeld ?_
        refine tq_ 1 73 8 35 hHeld ?_
        refine pq_ 2 74 8 39 ?_
        refine pq_ 3 75 8 47 ?_
        refine tq_ 4 76 8 63 hHeld ?_
        refine pq_ 6 78 8 127 ?_
        refine one_ (i := 7) (N := some 79) (m_ 8 255) rfl rfl (by kernel_rfl) (by decide) (fun K hK => ?_)
        refine goes_ Tryz.func71 (by kernel_rfl) rfl #[ptr c, .slice (some ⟨D.r, 0, none⟩) (k.1 + 1) D.cap] (by rfl) rfl rfl (by simp only [List.map_toArray, List.map_cons, List.map_nil]; rfl) ?_
        with_reducible refine (hlo.out).mono ?_
        rintro e w6 ⟨rfl, F5, hC6, hD6, hS6⟩
        have hBk6 := did_blk hC5'.out.drew hD6 (show Blk w5.drew B 136 #[ptr t.p, ptr u.p] from hBk5'.out) (by decide)
        have hBx6 := (show Bx w5.drew w.heap.size c now from hBx5'.out).did hC5'.out.drew hD6
        have i1 : w6.cell? ⟨B, 1, none⟩ = some (ptr u.p) := hBk6.cell 1
        have ib : w6.cell? ⟨w.heap.size, 0, none⟩ = some (ptr c) := hBx6.1.cell 0
        have jn : w6.cell? ⟨w.heap.size + 1, 0, none⟩ = some (.int .i64 now) := hBx6.2.cell 0
        have hl6 : (loseC (k.1 + 1) y1).l.length = n := by rw [hy1d]; show (loseL _ _).length = _; rw [loseL_length, List.length_set]; exact hlen
        have hl61 : (loseC (k.1 + 1) y1).l[k.1 + 1]? = some b := by rw [hy1d]; show (loseL _ _)[k.1 + 1]? = _; rw [lose_get (Nat.le_refl _)]; exact hy1'.out
        have ic : w6.cell? ⟨c, 0, none⟩ = some (.slice (some ⟨D.r, 0, none⟩) n D.cap) := (hC6.blk.cell 0).trans (by simp [ccells, hl6])
        have hen := Lib.hid (cs_end hC6 hu'.out hl61 now)
        have hq6 := Lib.hid (show Did F3 W w6 ∧ Stem F3 F5 W from ⟨hq5.out.1.drew.trans hq5.out.2 hD6, hq5.out.2.trans hq5.out.1.size hS6⟩)
        clear hC6 hD6 hS6 hBk6 hBx6 hC5' hq5 hBk5' hBx5' hl61 hl6 hlo
        refine ⟨_, rfl, ?_⟩
        refine hK.out _ _ ⟨ib, ic⟩ (fun hHeld => ?_)
        clear hK K
        refine norm_ (a' := ?_) ?_ ?_
        rotate_left
        · show Act.put _ (some 79) _ = _
          simp only [Act.put, List.setIfInBounds_toArray, List.set_cons_zero, List.set_cons_succ, i64_w, i32_w]
          rfl
        refine done_ (by kernel_rfl) ?_
        refine out_of ?_
        clear hHeld e0 en eb g0 ec
        gi_wp2_with fail
        refine ⟨trivial, ?_⟩
        refine (callsIn_wideR (ro := some l) hen.out).mono ?_
        rintro e w7 ⟨rfl, hT7⟩
        have hfz := Lib.hid (hfin.out _ _ (Tu.next hq6.out.1 hq6.out.2 hT7) (by rw [hmvE.out, hy1d]; rfl))
        clear hT7 hen hfin hmvE hq6 i1 ib jn ic
        gi_wp2
        exact hfz.out
      · have te : ((lookP a.s now).state == 1) = false := by simpa using hz
        have hmvE := Lib.hid (hmvA.out.trans (if_neg hz))
        have hfz := Lib.hid (hfin.out _ _ hT5.out (by rw [hmvE.out]))
        clear hz hmvA hT5 hC5' hq5 hBk5' hBx5' hfin e0 en eb g0 ec
        gi_wp2
        exact hfz.out
    case done2 =>
      rintro D1 xs W1 hD1 hxs ⟨F3, hC, hD, hS⟩ hK1
      have hC : CH W1 F3 c D (sfold now (xs.map Fin.val) x2) := hC
      rw [hxs, sfold_range] at hC
      obtain ⟨hok, hlen⟩ := sfold_ok now (List.range (n - 1)) x2 hok'.out
      rw [sfold_range] at hok hlen
      have hlen : (shuts now (n - 1) x2).l.length = n := hlen.trans hlen2
      generalize shuts now (n - 1) x2 = y at *
      have hKD0 : W1.heap[D0]? = some (.deferred (some [])) := (keeps_did hC4.out hD).same D0 _ hK4.out rfl
      have hD0l : D0 < w4.heap.size := (Array.getElem?_eq_some_iff.1 hK4.out).1
      have hx0 : y.l[n - 1]? = some y.l[n - 1] := List.getElem?_eq_getElem (by omega)
      generalize y.l[n - 1] = a at *
      have hma := held_le hx0
      have hhd := hok.held
      obtain ⟨t, ht⟩ := hC.pt hx0
      have hBx := hB4.out.did hC4.out hD
      have qb : W1.cell? ⟨w.heap.size, 0, none⟩ = some (ptr c) := hBx.1.cell 0
      have qn : W1.cell? ⟨w.heap.size + 1, 0, none⟩ = some (.int .i64 now) := hBx.2.cell 0
      have c0 : W1.cell? ⟨c, 0, none⟩ = some (.slice (some ⟨D.r, 0, none⟩) n D.cap) := (hC.blk.cell 0).trans (by simp [ccells, hlen])
      have r0 := hC.rcell ht
      have d0 := (hC.pcell ht hx0).1
      have hst := Lib.hid (cs_state hC.drew ht hx0 (by omega) now)
      have hYE := Lib.hid (show Y = { y with l := y.l.set (n - 1) (lookA now a), state := (lookP a.s now).state } by rw [hgo2.out]; unfold lastC; rw [hlen, hx0])
      have hTW := Lib.hid (show Did F w W1 ∧ Stem F F3 w from ⟨hT4.out.1.trans hT4.out.2 hD, hT4.out.2.trans hT4.out.1.size hS⟩)
      have hCd := Lib.hid hC.drew
      have hBxd := Lib.hid (show Bx W1.drew w.heap.size c now from hBx)
      have ht' := Lib.hid ht
      have hx0' := Lib.hid hx0
      have hKs := Lib.hid (show W1.drew.heap[D0]? = some (.deferred (some [])) ∧ W1.drew.heap[D1]? = some (.deferred (some [])) from ⟨hKD0, hK1⟩)
      have hDs := Lib.hid (show D0 ≠ D1 ∧ w.heap.size ≤ D0 ∧ w.heap.size ≤ D1 by omega)
      have hwl := wr_less n h2 h10
      have hn1 : (0 : Int) ≤ (n : Int) - 1 := by omega
      have hn2 : (n : Int) - 1 < (n : Int) := by omega
      have hn3 : ((n : Int) - 1).toNat = n - 1 := by omega
      have hn4 : (1 : Int) ≤ (n : Int) := by omega
      clear hC hD hS hK1 hxs hok hKD0 ht hx0 hBx hgo2 hC4 hB4 hT4 hK4 hbn hbn' hsrc hok' hD0 hD1
      gi_wp2
      refine startIn_ (ro := none) (m := 21) (S := fun w' => w'.cell? ⟨w.heap.size, 0, none⟩ = some (ptr c) ∧ w'.cell? ⟨c, 0, none⟩ = some (.slice (some ⟨D.r, 0, none⟩) n D.cap) ∧ w'.cell? ⟨D.r, n - 1, none⟩ = some (ptr t.p) ∧ w'.cell? ⟨t.p, 0, none⟩ = some (ptr t.b) ∧ w'.cell? ⟨w.heap.size + 1, 0, none⟩ = some (.int .i64 now)) (ds := [20]) (m_ 21 0) (by kernel_rfl) (by kernel_rfl) rfl (by kernel_rfl) ⟨qb, c0, r0, d0, qn⟩ (fun hHeld => ?_)
      refine tq_ 0 84 21 1 hHeld ?_
      refine tq_ 1 85 21 3 hHeld ?_
      refine pq_ 2 86 21 7 ?_
      refine pq_ 3 87 21 15 ?_
      refine tq_ 4 88 21 31 hHeld ?_
      refine tq_ 5 89 21 63 hHeld ?_
      refine pq_ 6 90 21 127 ?_
      refine pq_ 7 91 21 255 ?_
      refine tq_ 8 92 21 511 hHeld ?_
      refine pq_ 9 93 21 1023 ?_
      refine pq_ 10 94 21 2047 ?_
      refine pq_ 11 95 21 4095 ?_
      refine tq_ 12 96 21 8191 hHeld ?_
      refine pq_ 13 97 21 16383 ?_
      refine pq_ 14 98 21 32767 ?_
      refine tq_ 15 99 21 65535 hHeld ?_
      refine tq_ 16 100 21 131071 hHeld ?_
      refine one_ (i := 17) (N := some 101) (m_ 21 262143) rfl rfl (by kernel_rfl) (by decide) (fun K hK => ?_)
      refine goes_ Tryz.func83 (by kernel_rfl) rfl #[ptr t.b, .int .i64 now] (by rfl) rfl rfl (by simp only [List.map_toArray, List.map_cons, List.map_nil]; rfl) ?_
      with_reducible refine (hst.out).mono ?_
      rintro e w5 ⟨rfl, F4, hC5, hD5, hS5⟩
      have hBx5 := hBxd.out.did hCd.out hD5
      have eb : w5.cell? ⟨w.heap.size, 0, none⟩ = some (ptr c) := hBx5.1.cell 0
      have en : w5.cell? ⟨w.heap.size + 1, 0, none⟩ = some (.int .i64 now) := hBx5.2.cell 0
      have ec : w5.cell? ⟨c, 0, none⟩ = some (.slice (some ⟨D.r, 0, none⟩) n D.cap) := (hC5.blk.cell 0).trans (by simp [ccells, hlen])
      have er := hC5.rcell ht'.out
      have ed := (hC5.pcell (a := lookA now a) ht'.out (by show (y.l.set (n - 1) (lookA now a))[n - 1]? = _; rw [List.getElem?_set_self (by omega)])).1
      have e4 : w5.cell? ⟨c, 4, none⟩ = some (.int .i64 y.state) := (hC5.blk.cell 4).trans rfl
      have f4 := hC5.blk.free 4
      have hKs5 := Lib.hid (show w5.heap[D0]? = some (.deferred (some [])) ∧ w5.heap[D1]? = some (.deferred (some [])) from ⟨(keeps_did hCd.out hD5).same D0 _ hKs.out.1 rfl, (keeps_did hCd.out hD5).same D1 _ hKs.out.2 rfl⟩)
      have hT5 := Lib.hid ((Tu.next hTW.out.1.drew hTW.out.2 ⟨F4, hC5, hD5, hS5⟩).set 4 (.int .i64 (lookP a.s now).state) { y with l := y.l.set (n - 1) (lookA now a), state := (lookP a.s now).state } rfl rfl)
      have hcw : c ≠ w.heap.size := hC5.blk.ne hBx5.1 (by decide)
      have ob : (w5.setCell ⟨c, 4, none⟩ (.int .i64 (lookP a.s now).state)).cell? ⟨w.heap.size, 0, none⟩ = some (ptr c) := (Cls.set_cell_ne (.inl hcw)).trans eb
      have o4 : (w5.setCell ⟨c, 4, none⟩ (.int .i64 (lookP a.s now).state)).cell? ⟨c, 4, none⟩ = some (.int .i64 (lookP a.s now).state) := Cls.set_cell e4
      clear hC5 hD5 hS5 hBx5 hcw
      refine ⟨_, rfl, ?_⟩
      refine hK.out _ _ ⟨eb, ec, er, ed, en⟩ (fun hHeld => ?_)
      clear hK K
      refine norm_ (a' := ?_) ?_ ?_
      rotate_left
      · show Act.put _ (some 101) _ = _
        simp only [Act.put, List.setIfInBounds_toArray, List.set_cons_zero, List.set_cons_succ, i64_w, i32_w]
        rfl
      refine pq_ 18 102 21 524287 ?_
      refine pq_ 19 103 21 1048575 ?_
      refine last_ (i := 20) (N := none) (m_ 21 2097151) rfl rfl (by kernel_rfl) (by decide) (fun K hK => ?_)
      refine skip_ (w1 := ?_) (by rfl) rfl ?_ ?_
      rotate_left
      · go_simp
        rfl
      refine hK.out _ _ ?_
      clear hK K
      refine done_ (by kernel_rfl) ?_
      refine out_of ?_
      clear hHeld qb c0 r0 d0 qn eb en ec er ed e4 f4
      generalize hw6 : w5.setCell ⟨c, 4, none⟩ (.int .i64 (lookP a.s now).state) = w6 at *
      have hKs6 := Lib.hid (show w6.heap[D0]? = some (.deferred (some [])) ∧ w6.heap[D1]? = some (.deferred (some [])) from by
        rw [← hw6]
        exact ⟨(KeepsOthers.setCell w5 _ _).same D0 _ hKs5.out.1 rfl, (KeepsOthers.setCell w5 _ _).same D1 _ hKs5.out.2 rfl⟩)
      clear hw6
      gi_wp2
      have hKb : (w6.putObj D1 (.deferred none)).heap[D0]? = some (.deferred (some [])) := (World.putObj_heap_other hDs.out.1).trans hKs6.out.1
      refine ⟨by simp, .inl ⟨_, _, rfl, run_takeDeferred hKs6.out.2, ?_⟩⟩
      refine ⟨by simp, .inl ⟨_, _, rfl, run_takeDeferred hKb, ?_⟩⟩
      refine ⟨_, results_tmp rfl _ _ _, ?_⟩
      rw [hYE.out]
      refine ⟨rfl, ?_⟩
      have h1 := tu_close hT5.out (grownBy_putObj' w6 D1 (.deferred none)) (fun r e => by cases e; exact ⟨hDs.out.2.2, _, hKs6.out.2, rfl⟩)
      exact tu_close h1 (grownBy_putObj' _ D0 (.deferred none)) (fun r e => by cases e; exact ⟨hDs.out.2.1, _, hKb, rfl⟩)
    case stop2 =>
      rintro D1 cd pre W _ _ h _
      exact h.elim
  case stop =>
    rintro D0 cd pre W _ _ h _
    exact h.elim
end Go.Proofs.YtnkgjnmhiedfoaaGreat.Chain
