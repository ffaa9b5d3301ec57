/- A toxic's rules (chapter 09): a map of functions. Conditions: none. -/
import Derived.Test.YtehpliclknfmoaaGreatC16
import Derived.Laws.EntriesVeiled
import Derived.Maps.Own
import Derived.Test.YtehpliclknfmoaaGreatC4
namespace Go.Proofs.YtehpliclknfmoaaGreat.Toxic
open Go.RowKit Mem Tick Cargo
open Go.Maps (Keyed)
set_option maxRecDepth 100000
set_option linter.unusedVariables false
set_option linter.unusedSimpArgs false
def RV (v : Value) : Option (DataW Value × List MemPlace) := some (.held v, [])
abbrev Owns (w : World) (b n : Nat) (D : DataW Value) : Prop := w.ownsMap Tryz.prog 3 RV b n D
theorem K : Keyed Tryz.prog 3 := Go.Maps.int_keyed Tryz.underlying3
theorem put_own {w : World} {b n : Nat} {D : DataW Value} (h : Owns w b n D) (hn : n < maxLen) (k : Int) (hk : (Lit.int .i64 k).wf = true) (v : Value) :
    ∃ w', (Instr.mapUpdate 104 (.map (some b)) (.int .i64 k) v).run Tryz.prog w = .ok () w' ∧ Owns w' b (n + 1) (D.put (.int .i64 k) (.held v)) ∧ w.grownBy w' (some b) :=
  World.ownsMap.update h K Tryz.underlying104 hn (Go.Maps.keyOf_int_mk Tryz.underlying3 hk) (rfl : RV v = some (.held v, []))
theorem zero_rule (w : World) : (zeroValue 89).run Tryz.prog w = .ok .nilFunc w := by rfl
theorem look_own {w : World} {b n : Nat} {D : DataW Value} (h : Owns w b n D) (k : Int) (hk : (Lit.int .i64 k).wf = true) (v : Value) (hv : D.atKey (.int .i64 k) (.held .nilFunc) = .held v) :
    (Instr.lookup 104 (.map (some b)) (.int .i64 k) false).run Tryz.prog w = .ok v w := by
  obtain ⟨v', ps, hrun, hv'⟩ := World.ownsMap.lookup h K Tryz.underlying104 (zero_rule w) (rfl : RV .nilFunc = some (.held .nilFunc, [])) (Go.Maps.keyOf_int_mk Tryz.underlying3 hk)
  rw [hv] at hv'
  have : v' = v := by
    have h := Option.some.inj hv'
    have h2 := congrArg Prod.fst h
    injection h2
  rw [← this]; exact hrun
def f1 : Value := .func (.func 85) #[] #[]
def f2 (g : Nat) : Value := .func (.func 86) #[] #[.pointer (some ⟨g, 0, none⟩)]
def f3 (g : Nat) : Value := .func (.func 87) #[] #[.pointer (some ⟨g, 0, none⟩)]
def f4 : Value := .func (.func 83) #[] #[]
def rules (g : Nat) : DataW Value := ((((((DataW.map []).put (.int .i64 1) (.held f1)).put (.int .i64 2) (.held (f2 g))).put (.int .i64 3) (.held (f3 g))).put (.int .i64 4) (.held f4)).put (.int .i64 5) (.held f4))
theorem rules_any (w : World) :
    Calls Tryz.prog 63 #[] w fun e w' => ∃ b g, e = .returned (.map (some b)) ∧ Owns w' b 5 (rules g) ∧ Blk w' g 85 #[.func (.func 84) #[] #[]] ∧ Below w.heap.size w w' := by
  have hmm := @run_makeMap Tryz.prog
  have h0 : Owns ((w.alloc (.cells #[.func (.func 84) #[] #[]] 85)).alloc (.map #[] 0)) (w.heap.size + 1) 0 (.map []) := by
    have := World.ownsMap_made (w.alloc (.cells #[.func (.func 84) #[] #[]] 85)) Tryz.prog 3 RV
    simpa using this
  have hb0 : Blk ((w.alloc (.cells #[.func (.func 84) #[] #[]] 85)).alloc (.map #[] 0)) w.heap.size 85 #[.func (.func 84) #[] #[]] := (Blk.new w _ _).below ((Below.refl _ _).alloc (Nat.le_refl _) _)
  have B0 : Below w.heap.size w ((w.alloc (.cells #[.func (.func 84) #[] #[]] 85)).alloc (.map #[] 0)) := ((Below.refl _ _).alloc (Nat.le_refl _) _).alloc (by simp) _
  obtain ⟨w1, r1, h1, g1⟩ := put_own h0 (by decide) 1 (by decide) f1
  obtain ⟨w2, r2, h2, g2⟩ := put_own h1 (by decide) 2 (by decide) (f2 w.heap.size)
  obtain ⟨w3, r3, h3, g3⟩ := put_own h2 (by decide) 3 (by decide) (f3 w.heap.size)
  obtain ⟨w4, r4, h4, g4⟩ := put_own h3 (by decide) 4 (by decide) f4
  obtain ⟨w5, r5, h5, g5⟩ := put_own h4 (by decide) 5 (by decide) f4
  have G := Lib.hid (((((g1.trans g2).trans g3).trans g4)).trans g5)
  have H5 := Lib.hid h5
  have HB := Lib.hid hb0
  have HB0 := Lib.hid B0
  unfold f1 at r1
  unfold f2 at r2
  unfold f3 at r3
  unfold f4 at r4 r5
  clear h0 h1 h2 h3 h4 h5 g1 g2 g3 g4 g5 hb0 B0
  go_enter Tryz.func63, Tryz.ntmps63
  go_wp2
  go_ret
  have hd : Did (fun k => k = w.heap.size + 1) ((w.alloc (.cells #[.func (.func 84) #[] #[]] 85)).alloc (.map #[] 0)) w5 := Did.of_grown G.out fun k hk => .inl (by injection hk with h; exact h.symm)
  exact ⟨_, _, rfl, H5.out, HB.out.did hd (by omega), HB0.out.trans (hd.below (by simp; omega) (fun k hk => by subst hk; omega))⟩
theorem rules_at (g : Nat) : (∀ k : Int, k ≠ 1 → k ≠ 2 → k ≠ 3 → k ≠ 4 → k ≠ 5 → (rules g).atKey (.int .i64 k) (.held .nilFunc) = .held .nilFunc) := by
  intro k h1 h2 h3 h4 h5
  unfold rules
  rw [Go.Maps.atKey_put_other (by simpa using h5), Go.Maps.atKey_put_other (by simpa using h4), Go.Maps.atKey_put_other (by simpa using h3), Go.Maps.atKey_put_other (by simpa using h2), Go.Maps.atKey_put_other (by simpa using h1)]
  rfl
theorem rules_is (g : Nat) : (rules g).atKey (.int .i64 1) (.held .nilFunc) = .held f1 ∧ (rules g).atKey (.int .i64 2) (.held .nilFunc) = .held (f2 g) ∧ (rules g).atKey (.int .i64 3) (.held .nilFunc) = .held (f3 g) ∧ (rules g).atKey (.int .i64 4) (.held .nilFunc) = .held f4 ∧ (rules g).atKey (.int .i64 5) (.held .nilFunc) = .held f4 := by
  refine ⟨?_, ?_, ?_, ?_, ?_⟩ <;> rfl
end Go.Proofs.YtehpliclknfmoaaGreat.Toxic
namespace Go.Proofs.YtehpliclknfmoaaGreat.Toxic
open Go.RowKit Mem Tick Cargo
set_option maxRecDepth 100000
set_option linter.unusedVariables false
set_option linter.unusedSimpArgs false

def kindB (k : Int) : Bool := decide (1 ≤ k) && decide (k ≤ 7)
theorem word_any (k : Int) (w : World) :
    Calls Tryz.prog 37 #[.int .i64 k] w fun e w' => ∃ s : ByteArray, e = .returned (.string s) ∧ s.toList.isEmpty = !kindB k ∧ Below w.heap.size w w' := by
  by_cases h : k < 0 ∨ 7 < k
  · have hk : kindB k = false := by unfold kindB; rcases h with h | h <;> simp <;> omega
    have hk' := Lib.hid hk
    clear hk
    rcases h with h | h
    · go_enter Tryz.func37, Tryz.ntmps37
      go_wp2
      go_ret
      exact ⟨_, rfl, by rw [hk'.out]; exact empty_yes, Below.refl _ _⟩
    · have h2 : ¬ (k < 0) := by omega
      go_enter Tryz.func37, Tryz.ntmps37
      go_wp2
      go_ret
      exact ⟨_, rfl, by rw [hk'.out]; exact empty_yes, Below.refl _ _⟩
  · have h8 : k = 0 ∨ k = 1 ∨ k = 2 ∨ k = 3 ∨ k = 4 ∨ k = 5 ∨ k = 6 ∨ k = 7 := by omega
    clear h
    rcases h8 with rfl | rfl | rfl | rfl | rfl | rfl | rfl | rfl <;>
    · go_enter Tryz.func37, Tryz.ntmps37
      go_wp2_with (go_at_call 62; go_enter Tryz.func62, Tryz.ntmps62)
      go_ret
      refine ⟨_, rfl, ?_, (Below.refl _ _).alloc (Nat.le_refl _) _⟩
      first
        | exact empty_yes
        | exact isEmpty_false (by decide)
theorem numbers_any (k : Int) (w : World) (hk : kindB k = true) :
    Calls Tryz.prog 65 #[.int .i64 k] w fun e w' => e = .returned (.int .i64 (if k ≤ 3 then 2 else 1)) ∧ Below w.heap.size w w' := by
  have hw := word_any k w
  rw [hk] at hw
  have hw' := Lib.hid hw
  clear hw hk
  by_cases h : k ≤ 3
  · have e := Lib.hid (if_pos h : (if k ≤ 3 then (2 : Int) else 1) = 2)
    go_enter Tryz.func65, Tryz.ntmps65
    go_wp2_with fail
    refine hw'.out.mono ?_
    rintro e w1 ⟨s, rfl, hs, hB⟩
    have hB' := Lib.hid hB
    clear hB
    go_wp2
    go_ret
    exact ⟨rfl, hB'.out⟩
  · have e := Lib.hid (if_neg h : (if k ≤ 3 then (2 : Int) else 1) = 1)
    go_enter Tryz.func65, Tryz.ntmps65
    go_wp2_with fail
    refine hw'.out.mono ?_
    rintro e w1 ⟨s, rfl, hs, hB⟩
    have hB' := Lib.hid hB
    clear hB
    go_wp2
    go_ret
    exact ⟨rfl, hB'.out⟩
end Go.Proofs.YtehpliclknfmoaaGreat.Toxic
namespace Go.Proofs.YtehpliclknfmoaaGreat.Toxic
open Go.RowKit Mem Tick Cargo
open Go.Proofs.YtehpliclknfmoaaGreatW.PrintLast
set_option maxRecDepth 100000
set_option linter.unusedVariables false
set_option linter.unusedSimpArgs false
def roomB (n : Int) : Bool := decide (1 ≤ n ∧ n ≤ 4096)
theorem room_any (n : Int) (w : World) :
    Calls Tryz.prog 84 #[.int .i64 n] w fun e w' => e = .returned (.bool (roomB n)) ∧ w = w' := by
  by_cases h : 1 ≤ n
  · have d := Lib.hid (show (roomB n) = decide (n ≤ 4096) by simp [roomB, h])
    go_enter Tryz.func84, Tryz.ntmps84
    go_wp2
    go_ret
    exact ⟨by rw [d.out]; rfl, rfl⟩
  · have d := Lib.hid (show (roomB n) = false by simp [roomB]; omega)
    have h1 : decide (1 ≤ n) = false := decide_eq_false h
    go_enter Tryz.func84, Tryz.ntmps84
    go_wp2
    all_goals
      go_ret
      exact ⟨by rw [d.out]; rfl, rfl⟩
theorem rule1_any (a b : Int) (w : World) :
    Calls Tryz.prog 85 #[.int .i64 a, .int .i64 b] w fun e w' => e = .returned (.bool (decide (b ≤ a))) ∧ w = w' := by
  go_enter Tryz.func85, Tryz.ntmps85
  go_wp2
  go_ret
  exact ⟨rfl, rfl⟩
theorem rule4_any (a b : Int) (w : World) :
    Calls Tryz.prog 83 #[.int .i64 a, .int .i64 b] w fun e w' => e = .returned (.bool (decide (0 < a))) ∧ w = w' := by
  go_enter Tryz.func83, Tryz.ntmps83
  go_wp2
  go_ret
  exact ⟨rfl, rfl⟩
theorem rule2_any {w : World} {g : Nat} (a b : Int) (h : Blk w g 85 #[.func (.func 84) #[] #[]]) :
    Calls Tryz.prog 86 #[.int .i64 a, .int .i64 b, .pointer (some ⟨g, 0, none⟩)] w fun e w' => e = .returned (.bool (roomB b)) ∧ w = w' := by
  have c0 : w.cell? ⟨g, 0, none⟩ = some (.func (.func 84) #[] #[]) := (h.cell 0).trans rfl
  clear h
  go_enter Tryz.func86, Tryz.ntmps86
  go_wp2_with fail
  refine (room_any b _).mono ?_
  rintro e w1 ⟨rfl, rfl⟩
  go_wp2
  go_ret
  exact ⟨rfl, rfl⟩
theorem rule3_any {w : World} {g : Nat} (a b : Int) (h : Blk w g 85 #[.func (.func 84) #[] #[]]) :
    Calls Tryz.prog 87 #[.int .i64 a, .int .i64 b, .pointer (some ⟨g, 0, none⟩)] w fun e w' => e = .returned (.bool (roomB a)) ∧ w = w' := by
  have c0 : w.cell? ⟨g, 0, none⟩ = some (.func (.func 84) #[] #[]) := (h.cell 0).trans rfl
  clear h
  go_enter Tryz.func87, Tryz.ntmps87
  go_wp2_with fail
  refine (room_any a _).mono ?_
  rintro e w1 ⟨rfl, rfl⟩
  go_wp2
  go_ret
  exact ⟨rfl, rfl⟩
def ruleB (k a b : Int) : Bool := if k = 1 then decide (b ≤ a) else if k = 2 then roomB b else if k = 3 then roomB a else if k = 4 ∨ k = 5 then decide (0 < a) else true
def numB (k a b : Int) : Bool := rightB a && rightB b && (decide (b = 0) || decide (k ≤ 3)) && ruleB k a b
def fV (g : Nat) (k : Int) : Value := if k = 1 then f1 else if k = 2 then f2 g else if k = 3 then f3 g else if k = 4 then f4 else if k = 5 then f4 else .nilFunc
theorem look_any {w : World} {b n g : Nat} (h : Owns w b n (rules g)) (k : Int) (h1 : 1 ≤ k) (h7 : k ≤ 7) : (Instr.lookup 104 (.map (some b)) (.int .i64 k) false).run Tryz.prog w = .ok (fV g k) w := by
  have hr := rules_is g
  have h8 : k = 1 ∨ k = 2 ∨ k = 3 ∨ k = 4 ∨ k = 5 ∨ k = 6 ∨ k = 7 := by omega
  rcases h8 with rfl | rfl | rfl | rfl | rfl | rfl | rfl
  · exact look_own h 1 (by decide) _ hr.1
  · exact look_own h 2 (by decide) _ hr.2.1
  · exact look_own h 3 (by decide) _ hr.2.2.1
  · exact look_own h 4 (by decide) _ hr.2.2.2.1
  · exact look_own h 5 (by decide) _ hr.2.2.2.2
  · exact look_own h 6 (by decide) _ (rules_at g 6 (by decide) (by decide) (by decide) (by decide) (by decide))
  · exact look_own h 7 (by decide) _ (rules_at g 7 (by decide) (by decide) (by decide) (by decide) (by decide))
theorem numbers_1 (s : ByteArray) (u : Bool) (o a b : Int) (w : World) :
    Calls Tryz.prog 38 #[.agg #[.string s, .int .i64 1, .bool u, .int .i64 o, .int .i64 a, .int .i64 b]] w fun e w' => e = .returned (.bool (numB 1 a b)) ∧ Below w.heap.size w w' := by
  have hr : numB 1 a b = (rightB a && rightB b && (decide (b = 0) || decide ((1 : Int) ≤ 3)) && decide (b ≤ a)) := rfl
  have hx1 := Blk.new w 23 #[.string s, .int .i64 1, .bool u, .int .i64 o, .int .i64 a, .int .i64 b]
  have hbw : Below w.heap.size w (w.alloc (.cells #[.string s, .int .i64 1, .bool u, .int .i64 o, .int .i64 a, .int .i64 b] 23)) := (Below.refl _ _).alloc (Nat.le_refl _) _
  have c1 : (w.alloc (.cells #[.string s, .int .i64 1, .bool u, .int .i64 o, .int .i64 a, .int .i64 b] 23)).cell? ⟨w.heap.size, 1, none⟩ = some (.int .i64 1) := (hx1.cell 1).trans rfl
  have hX1 := Lib.hid hx1
  have hbw' := Lib.hid hbw
  have hbd := Lib.hid hr
  clear hx1 hbw hr
  go_enter Tryz.func38, Tryz.ntmps38
  go_wp2
  generalize w.alloc (.cells #[.string s, .int .i64 1, .bool u, .int .i64 o, .int .i64 a, .int .i64 b] 23) = w1 at *
  refine start_ (n := 5) (S := fun w' => w'.cell? ⟨w.heap.size, 1, none⟩ = some (.int .i64 1)) (ds := []) #[false, false, false, false, false] (by kernel_rfl) rfl rfl (c1) (fun hHeld => ?_)
  refine pure_ (i := 1) (N := some 5) (v := ?_) (a' := ?_) #[false, true, false, false, false] rfl rfl (by kernel_rfl) (fun _ _ _ h => h) (Or.inl ⟨by rfl, ?_⟩) ?_ ?_
  rotate_left
  · intro w'
    go_simp
    with_reducible rfl
  rotate_left
  · simp only [Act.put, List.setIfInBounds_toArray, List.set_cons_zero, List.set_cons_succ, i64_w, i32_w]
    rfl
  refine take_ (i := 2) (N := some 6) (v := ?_) (a' := ?_) #[false, true, true, false, false] rfl rfl (by kernel_rfl) (fun _ _ _ h => h) (Or.inl ⟨by rfl, ?_⟩) hHeld ?_ ?_
  rotate_left
  · intro w' s0
    go_simp
    with_reducible rfl
  rotate_left
  · simp only [Act.put, List.setIfInBounds_toArray, List.set_cons_zero, List.set_cons_succ, i64_w, i32_w]
    rfl
  refine one_ (i := 0) (N := some 4) #[true, true, true, false, false] rfl rfl (by kernel_rfl) (by decide) (fun K hK => ?_)
  refine goes_ Tryz.func63 (by kernel_rfl) rfl #[] (by rfl) rfl rfl (by simp) ?_
  with_reducible refine (rules_any (w := w1.drew)).mono ?_
  rintro e w2 ⟨bm, g, rfl, hO, hG, hB⟩
  have hB2 : Below w1.heap.size w1 w2 := ⟨hB.os, hB.tape, hB.output, hB.size, hB.block⟩
  have h1 := bcells hB2 c1
  have hlk := look_any hO 1 (by decide) (by decide)
  rw [show fV g 1 = f1 from rfl] at hlk
  unfold f1 at hlk
  have hG' := Lib.hid hG
  have hX := Lib.hid (hX1.out.below hB2)
  have hB' := Lib.hid hB2
  clear hO hG hB hB2
  refine ⟨_, rfl, ?_⟩
  refine hK.out _ _ (h1) (fun hHeld => ?_)
  clear hK K
  refine norm_ (a' := ?_) ?_ ?_
  rotate_left
  · show Act.put _ (some 4) _ = _
    simp only [Act.put, List.setIfInBounds_toArray, List.set_cons_zero, List.set_cons_succ, i64_w, i32_w]
    rfl
  refine one_ (i := 3) (N := some 7) #[true, true, true, true, false] rfl rfl (by kernel_rfl) (by decide) (fun K hK => ?_)
  refine value_ (w1 := ?_) (v := ?_) (by rfl) rfl ?_ ?_
  rotate_left 2
  · go_simp
    constructor
    · rfl
    · rfl
  refine hK.out _ _ (h1) (fun hHeld => ?_)
  clear hK K
  refine norm_ (a' := ?_) ?_ ?_
  rotate_left
  · show Act.put _ (some 7) _ = _
    simp only [Act.put, List.setIfInBounds_toArray, List.set_cons_zero, List.set_cons_succ, i64_w, i32_w]
    rfl
  refine pure_ (i := 4) (N := some 3) (v := ?_) (a' := ?_) #[true, true, true, true, true] rfl rfl (by kernel_rfl) (fun _ _ _ h => h) (Or.inl ⟨by rfl, ?_⟩) ?_ ?_
  rotate_left
  · intro w'
    go_simp
    with_reducible rfl
  rotate_left
  · simp only [Act.put, List.setIfInBounds_toArray, List.set_cons_zero, List.set_cons_succ, i64_w, i32_w]
    rfl
  refine done_ (by kernel_rfl) ?_
  have hq : ∀ W : World, (binOp BinOp.eql 89 (.func (.func 85) #[] #[]) .nilFunc).run Tryz.prog W = .ok (.bool false) W := fun W => by kernel_rfl
  clear c1 h1 hHeld
  have x1 : w2.cell? ⟨w.heap.size, 1, none⟩ = some (.int .i64 1) := (hX.out.cell 1).trans rfl
  have x4 : w2.cell? ⟨w.heap.size, 4, none⟩ = some (.int .i64 a) := (hX.out.cell 4).trans rfl
  have x5 : w2.cell? ⟨w.heap.size, 5, none⟩ = some (.int .i64 b) := (hX.out.cell 5).trans rfl
  have hBB := Lib.hid (hbw'.out.trans (hB'.out.mono hbw'.out.size))
  clear hlk
  cases hA : rightB a with
  | false =>
    have hA' := Lib.hid hA
    clear hA
    go_wp2_with fail
    refine (right_any a _).mono ?_
    rintro e w3 ⟨rfl, rfl⟩
    rw [hA'.out]
    go_wp2
    go_ret
    exact ⟨by rw [hbd.out]; rw [hA'.out]; first | done | rfl, hBB.out⟩
  | true =>
    have hA' := Lib.hid hA
    clear hA
    go_wp2_with fail
    refine (right_any a _).mono ?_
    rintro e w3 ⟨rfl, rfl⟩
    rw [hA'.out]
    cases hC : rightB b with
    | false =>
      have hC' := Lib.hid hC
      clear hC
      go_wp2_with fail
      refine (right_any b _).mono ?_
      rintro e w4 ⟨rfl, rfl⟩
      rw [hC'.out]
      go_wp2
      go_ret
      exact ⟨by rw [hbd.out]; rw [hA'.out, hC'.out]; rfl, hBB.out⟩
    | true =>
      have hC' := Lib.hid hC
      clear hC
      go_wp2_with fail
      refine (right_any b _).mono ?_
      rintro e w4 ⟨rfl, rfl⟩
      rw [hC'.out]
      by_cases h0 : b = 0
      · have hz : (b == 0) = true := by simpa using h0
        have hz' := Lib.hid (decide_eq_true h0)
        clear h0
        go_wp2_with fail
        refine (rule1_any a b _).mono ?_
        rintro e w5 ⟨rfl, rfl⟩
        go_wp2
        go_ret
        exact ⟨by rw [hbd.out, hA'.out, hC'.out, hz'.out]; simp [go_sem], hBB.out⟩
      · have hz : (b == 0) = false := by simpa using h0
        have hz' := Lib.hid (decide_eq_false h0)
        clear h0
        go_wp2_with fail
        refine (numbers_any 1 _ (by decide)).mono ?_
        rintro e w5 ⟨rfl, hB5⟩
        have hB6 := Lib.hid (hBB.out.trans (hB5.mono hBB.out.size))
        have hG2 := Lib.hid (hG'.out.below hB5)
        have x4' := bcells hB5 x4
        have x5' := bcells hB5 x5
        clear hB5
        rw [show (if (1 : Int) ≤ 3 then (2 : Int) else 1) = 2 from rfl]
        go_wp2_with fail
        refine (rule1_any a b _).mono ?_
        rintro e w5 ⟨rfl, rfl⟩
        go_wp2
        go_ret
        exact ⟨by rw [hbd.out, hA'.out, hC'.out, hz'.out]; simp [go_sem], hB6.out⟩
theorem numbers_2 (s : ByteArray) (u : Bool) (o a b : Int) (w : World) :
    Calls Tryz.prog 38 #[.agg #[.string s, .int .i64 2, .bool u, .int .i64 o, .int .i64 a, .int .i64 b]] w fun e w' => e = .returned (.bool (numB 2 a b)) ∧ Below w.heap.size w w' := by
  have hr : numB 2 a b = (rightB a && rightB b && (decide (b = 0) || decide ((2 : Int) ≤ 3)) && roomB b) := rfl
  have hx1 := Blk.new w 23 #[.string s, .int .i64 2, .bool u, .int .i64 o, .int .i64 a, .int .i64 b]
  have hbw : Below w.heap.size w (w.alloc (.cells #[.string s, .int .i64 2, .bool u, .int .i64 o, .int .i64 a, .int .i64 b] 23)) := (Below.refl _ _).alloc (Nat.le_refl _) _
  have c1 : (w.alloc (.cells #[.string s, .int .i64 2, .bool u, .int .i64 o, .int .i64 a, .int .i64 b] 23)).cell? ⟨w.heap.size, 1, none⟩ = some (.int .i64 2) := (hx1.cell 1).trans rfl
  have hX1 := Lib.hid hx1
  have hbw' := Lib.hid hbw
  have hbd := Lib.hid hr
  clear hx1 hbw hr
  go_enter Tryz.func38, Tryz.ntmps38
  go_wp2
  generalize w.alloc (.cells #[.string s, .int .i64 2, .bool u, .int .i64 o, .int .i64 a, .int .i64 b] 23) = w1 at *
  refine start_ (n := 5) (S := fun w' => w'.cell? ⟨w.heap.size, 1, none⟩ = some (.int .i64 2)) (ds := []) #[false, false, false, false, false] (by kernel_rfl) rfl rfl (c1) (fun hHeld => ?_)
  refine pure_ (i := 1) (N := some 5) (v := ?_) (a' := ?_) #[false, true, false, false, false] rfl rfl (by kernel_rfl) (fun _ _ _ h => h) (Or.inl ⟨by rfl, ?_⟩) ?_ ?_
  rotate_left
  · intro w'
    go_simp
    with_reducible rfl
  rotate_left
  · simp only [Act.put, List.setIfInBounds_toArray, List.set_cons_zero, List.set_cons_succ, i64_w, i32_w]
    rfl
  refine take_ (i := 2) (N := some 6) (v := ?_) (a' := ?_) #[false, true, true, false, false] rfl rfl (by kernel_rfl) (fun _ _ _ h => h) (Or.inl ⟨by rfl, ?_⟩) hHeld ?_ ?_
  rotate_left
  · intro w' s0
    go_simp
    with_reducible rfl
  rotate_left
  · simp only [Act.put, List.setIfInBounds_toArray, List.set_cons_zero, List.set_cons_succ, i64_w, i32_w]
    rfl
  refine one_ (i := 0) (N := some 4) #[true, true, true, false, false] rfl rfl (by kernel_rfl) (by decide) (fun K hK => ?_)
  refine goes_ Tryz.func63 (by kernel_rfl) rfl #[] (by rfl) rfl rfl (by simp) ?_
  with_reducible refine (rules_any (w := w1.drew)).mono ?_
  rintro e w2 ⟨bm, g, rfl, hO, hG, hB⟩
  have hB2 : Below w1.heap.size w1 w2 := ⟨hB.os, hB.tape, hB.output, hB.size, hB.block⟩
  have h1 := bcells hB2 c1
  have hlk := look_any hO 2 (by decide) (by decide)
  rw [show fV g 2 = (f2 g) from rfl] at hlk
  unfold f2 at hlk
  have hG' := Lib.hid hG
  have hX := Lib.hid (hX1.out.below hB2)
  have hB' := Lib.hid hB2
  clear hO hG hB hB2
  refine ⟨_, rfl, ?_⟩
  refine hK.out _ _ (h1) (fun hHeld => ?_)
  clear hK K
  refine norm_ (a' := ?_) ?_ ?_
  rotate_left
  · show Act.put _ (some 4) _ = _
    simp only [Act.put, List.setIfInBounds_toArray, List.set_cons_zero, List.set_cons_succ, i64_w, i32_w]
    rfl
  refine one_ (i := 3) (N := some 7) #[true, true, true, true, false] rfl rfl (by kernel_rfl) (by decide) (fun K hK => ?_)
  refine value_ (w1 := ?_) (v := ?_) (by rfl) rfl ?_ ?_
  rotate_left 2
  · go_simp
    constructor
    · rfl
    · rfl
  refine hK.out _ _ (h1) (fun hHeld => ?_)
  clear hK K
  refine norm_ (a' := ?_) ?_ ?_
  rotate_left
  · show Act.put _ (some 7) _ = _
    simp only [Act.put, List.setIfInBounds_toArray, List.set_cons_zero, List.set_cons_succ, i64_w, i32_w]
    rfl
  refine pure_ (i := 4) (N := some 3) (v := ?_) (a' := ?_) #[true, true, true, true, true] rfl rfl (by kernel_rfl) (fun _ _ _ h => h) (Or.inl ⟨by rfl, ?_⟩) ?_ ?_
  rotate_left
  · intro w'
    go_simp
    with_reducible rfl
  rotate_left
  · simp only [Act.put, List.setIfInBounds_toArray, List.set_cons_zero, List.set_cons_succ, i64_w, i32_w]
    rfl
  refine done_ (by kernel_rfl) ?_
  have hq : ∀ W : World, (binOp BinOp.eql 89 (.func (.func 86) #[] #[.pointer (some ⟨g, 0, none⟩)]) .nilFunc).run Tryz.prog W = .ok (.bool false) W := fun W => by kernel_rfl
  clear c1 h1 hHeld
  have x1 : w2.cell? ⟨w.heap.size, 1, none⟩ = some (.int .i64 2) := (hX.out.cell 1).trans rfl
  have x4 : w2.cell? ⟨w.heap.size, 4, none⟩ = some (.int .i64 a) := (hX.out.cell 4).trans rfl
  have x5 : w2.cell? ⟨w.heap.size, 5, none⟩ = some (.int .i64 b) := (hX.out.cell 5).trans rfl
  have hBB := Lib.hid (hbw'.out.trans (hB'.out.mono hbw'.out.size))
  clear hlk
  cases hA : rightB a with
  | false =>
    have hA' := Lib.hid hA
    clear hA
    go_wp2_with fail
    refine (right_any a _).mono ?_
    rintro e w3 ⟨rfl, rfl⟩
    rw [hA'.out]
    go_wp2
    go_ret
    exact ⟨by rw [hbd.out]; rw [hA'.out]; first | done | rfl, hBB.out⟩
  | true =>
    have hA' := Lib.hid hA
    clear hA
    go_wp2_with fail
    refine (right_any a _).mono ?_
    rintro e w3 ⟨rfl, rfl⟩
    rw [hA'.out]
    cases hC : rightB b with
    | false =>
      have hC' := Lib.hid hC
      clear hC
      go_wp2_with fail
      refine (right_any b _).mono ?_
      rintro e w4 ⟨rfl, rfl⟩
      rw [hC'.out]
      go_wp2
      go_ret
      exact ⟨by rw [hbd.out]; rw [hA'.out, hC'.out]; rfl, hBB.out⟩
    | true =>
      have hC' := Lib.hid hC
      clear hC
      go_wp2_with fail
      refine (right_any b _).mono ?_
      rintro e w4 ⟨rfl, rfl⟩
      rw [hC'.out]
      by_cases h0 : b = 0
      · have hz : (b == 0) = true := by simpa using h0
        have hz' := Lib.hid (decide_eq_true h0)
        clear h0
        go_wp2_with fail
        refine (rule2_any a b hG'.out).mono ?_
        rintro e w5 ⟨rfl, rfl⟩
        go_wp2
        go_ret
        exact ⟨by rw [hbd.out, hA'.out, hC'.out, hz'.out]; simp [go_sem], hBB.out⟩
      · have hz : (b == 0) = false := by simpa using h0
        have hz' := Lib.hid (decide_eq_false h0)
        clear h0
        go_wp2_with fail
        refine (numbers_any 2 _ (by decide)).mono ?_
        rintro e w5 ⟨rfl, hB5⟩
        have hB6 := Lib.hid (hBB.out.trans (hB5.mono hBB.out.size))
        have hG2 := Lib.hid (hG'.out.below hB5)
        have x4' := bcells hB5 x4
        have x5' := bcells hB5 x5
        clear hB5
        rw [show (if (2 : Int) ≤ 3 then (2 : Int) else 1) = 2 from rfl]
        go_wp2_with fail
        refine (rule2_any a b hG2.out).mono ?_
        rintro e w5 ⟨rfl, rfl⟩
        go_wp2
        go_ret
        exact ⟨by rw [hbd.out, hA'.out, hC'.out, hz'.out]; simp [go_sem], hB6.out⟩
theorem numbers_3 (s : ByteArray) (u : Bool) (o a b : Int) (w : World) :
    Calls Tryz.prog 38 #[.agg #[.string s, .int .i64 3, .bool u, .int .i64 o, .int .i64 a, .int .i64 b]] w fun e w' => e = .returned (.bool (numB 3 a b)) ∧ Below w.heap.size w w' := by
  have hr : numB 3 a b = (rightB a && rightB b && (decide (b = 0) || decide ((3 : Int) ≤ 3)) && roomB a) := rfl
  have hx1 := Blk.new w 23 #[.string s, .int .i64 3, .bool u, .int .i64 o, .int .i64 a, .int .i64 b]
  have hbw : Below w.heap.size w (w.alloc (.cells #[.string s, .int .i64 3, .bool u, .int .i64 o, .int .i64 a, .int .i64 b] 23)) := (Below.refl _ _).alloc (Nat.le_refl _) _
  have c1 : (w.alloc (.cells #[.string s, .int .i64 3, .bool u, .int .i64 o, .int .i64 a, .int .i64 b] 23)).cell? ⟨w.heap.size, 1, none⟩ = some (.int .i64 3) := (hx1.cell 1).trans rfl
  have hX1 := Lib.hid hx1
  have hbw' := Lib.hid hbw
  have hbd := Lib.hid hr
  clear hx1 hbw hr
  go_enter Tryz.func38, Tryz.ntmps38
  go_wp2
  generalize w.alloc (.cells #[.string s, .int .i64 3, .bool u, .int .i64 o, .int .i64 a, .int .i64 b] 23) = w1 at *
  refine start_ (n := 5) (S := fun w' => w'.cell? ⟨w.heap.size, 1, none⟩ = some (.int .i64 3)) (ds := []) #[false, false, false, false, false] (by kernel_rfl) rfl rfl (c1) (fun hHeld => ?_)
  refine pure_ (i := 1) (N := some 5) (v := ?_) (a' := ?_) #[false, true, false, false, false] rfl rfl (by kernel_rfl) (fun _ _ _ h => h) (Or.inl ⟨by rfl, ?_⟩) ?_ ?_
  rotate_left
  · intro w'
    go_simp
    with_reducible rfl
  rotate_left
  · simp only [Act.put, List.setIfInBounds_toArray, List.set_cons_zero, List.set_cons_succ, i64_w, i32_w]
    rfl
  refine take_ (i := 2) (N := some 6) (v := ?_) (a' := ?_) #[false, true, true, false, false] rfl rfl (by kernel_rfl) (fun _ _ _ h => h) (Or.inl ⟨by rfl, ?_⟩) hHeld ?_ ?_
  rotate_left
  · intro w' s0
    go_simp
    with_reducible rfl
  rotate_left
  · simp only [Act.put, List.setIfInBounds_toArray, List.set_cons_zero, List.set_cons_succ, i64_w, i32_w]
    rfl
  refine one_ (i := 0) (N := some 4) #[true, true, true, false, false] rfl rfl (by kernel_rfl) (by decide) (fun K hK => ?_)
  refine goes_ Tryz.func63 (by kernel_rfl) rfl #[] (by rfl) rfl rfl (by simp) ?_
  with_reducible refine (rules_any (w := w1.drew)).mono ?_
  rintro e w2 ⟨bm, g, rfl, hO, hG, hB⟩
  have hB2 : Below w1.heap.size w1 w2 := ⟨hB.os, hB.tape, hB.output, hB.size, hB.block⟩
  have h1 := bcells hB2 c1
  have hlk := look_any hO 3 (by decide) (by decide)
  rw [show fV g 3 = (f3 g) from rfl] at hlk
  unfold f3 at hlk
  have hG' := Lib.hid hG
  have hX := Lib.hid (hX1.out.below hB2)
  have hB' := Lib.hid hB2
  clear hO hG hB hB2
  refine ⟨_, rfl, ?_⟩
  refine hK.out _ _ (h1) (fun hHeld => ?_)
  clear hK K
  refine norm_ (a' := ?_) ?_ ?_
  rotate_left
  · show Act.put _ (some 4) _ = _
    simp only [Act.put, List.setIfInBounds_toArray, List.set_cons_zero, List.set_cons_succ, i64_w, i32_w]
    rfl
  refine one_ (i := 3) (N := some 7) #[true, true, true, true, false] rfl rfl (by kernel_rfl) (by decide) (fun K hK => ?_)
  refine value_ (w1 := ?_) (v := ?_) (by rfl) rfl ?_ ?_
  rotate_left 2
  · go_simp
    constructor
    · rfl
    · rfl
  refine hK.out _ _ (h1) (fun hHeld => ?_)
  clear hK K
  refine norm_ (a' := ?_) ?_ ?_
  rotate_left
  · show Act.put _ (some 7) _ = _
    simp only [Act.put, List.setIfInBounds_toArray, List.set_cons_zero, List.set_cons_succ, i64_w, i32_w]
    rfl
  refine pure_ (i := 4) (N := some 3) (v := ?_) (a' := ?_) #[true, true, true, true, true] rfl rfl (by kernel_rfl) (fun _ _ _ h => h) (Or.inl ⟨by rfl, ?_⟩) ?_ ?_
  rotate_left
  · intro w'
    go_simp
    with_reducible rfl
  rotate_left
  · simp only [Act.put, List.setIfInBounds_toArray, List.set_cons_zero, List.set_cons_succ, i64_w, i32_w]
    rfl
  refine done_ (by kernel_rfl) ?_
  have hq : ∀ W : World, (binOp BinOp.eql 89 (.func (.func 87) #[] #[.pointer (some ⟨g, 0, none⟩)]) .nilFunc).run Tryz.prog W = .ok (.bool false) W := fun W => by kernel_rfl
  clear c1 h1 hHeld
  have x1 : w2.cell? ⟨w.heap.size, 1, none⟩ = some (.int .i64 3) := (hX.out.cell 1).trans rfl
  have x4 : w2.cell? ⟨w.heap.size, 4, none⟩ = some (.int .i64 a) := (hX.out.cell 4).trans rfl
  have x5 : w2.cell? ⟨w.heap.size, 5, none⟩ = some (.int .i64 b) := (hX.out.cell 5).trans rfl
  have hBB := Lib.hid (hbw'.out.trans (hB'.out.mono hbw'.out.size))
  clear hlk
  cases hA : rightB a with
  | false =>
    have hA' := Lib.hid hA
    clear hA
    go_wp2_with fail
    refine (right_any a _).mono ?_
    rintro e w3 ⟨rfl, rfl⟩
    rw [hA'.out]
    go_wp2
    go_ret
    exact ⟨by rw [hbd.out]; rw [hA'.out]; first | done | rfl, hBB.out⟩
  | true =>
    have hA' := Lib.hid hA
    clear hA
    go_wp2_with fail
    refine (right_any a _).mono ?_
    rintro e w3 ⟨rfl, rfl⟩
    rw [hA'.out]
    cases hC : rightB b with
    | false =>
      have hC' := Lib.hid hC
      clear hC
      go_wp2_with fail
      refine (right_any b _).mono ?_
      rintro e w4 ⟨rfl, rfl⟩
      rw [hC'.out]
      go_wp2
      go_ret
      exact ⟨by rw [hbd.out]; rw [hA'.out, hC'.out]; rfl, hBB.out⟩
    | true =>
      have hC' := Lib.hid hC
      clear hC
      go_wp2_with fail
      refine (right_any b _).mono ?_
      rintro e w4 ⟨rfl, rfl⟩
      rw [hC'.out]
      by_cases h0 : b = 0
      · have hz : (b == 0) = true := by simpa using h0
        have hz' := Lib.hid (decide_eq_true h0)
        clear h0
        go_wp2_with fail
        refine (rule3_any a b hG'.out).mono ?_
        rintro e w5 ⟨rfl, rfl⟩
        go_wp2
        go_ret
        exact ⟨by rw [hbd.out, hA'.out, hC'.out, hz'.out]; simp [go_sem], hBB.out⟩
      · have hz : (b == 0) = false := by simpa using h0
        have hz' := Lib.hid (decide_eq_false h0)
        clear h0
        go_wp2_with fail
        refine (numbers_any 3 _ (by decide)).mono ?_
        rintro e w5 ⟨rfl, hB5⟩
        have hB6 := Lib.hid (hBB.out.trans (hB5.mono hBB.out.size))
        have hG2 := Lib.hid (hG'.out.below hB5)
        have x4' := bcells hB5 x4
        have x5' := bcells hB5 x5
        clear hB5
        rw [show (if (3 : Int) ≤ 3 then (2 : Int) else 1) = 2 from rfl]
        go_wp2_with fail
        refine (rule3_any a b hG2.out).mono ?_
        rintro e w5 ⟨rfl, rfl⟩
        go_wp2
        go_ret
        exact ⟨by rw [hbd.out, hA'.out, hC'.out, hz'.out]; simp [go_sem], hB6.out⟩
theorem numbers_4 (s : ByteArray) (u : Bool) (o a b : Int) (w : World) :
    Calls Tryz.prog 38 #[.agg #[.string s, .int .i64 4, .bool u, .int .i64 o, .int .i64 a, .int .i64 b]] w fun e w' => e = .returned (.bool (numB 4 a b)) ∧ Below w.heap.size w w' := by
  have hr : numB 4 a b = (rightB a && rightB b && (decide (b = 0) || decide ((4 : Int) ≤ 3)) && decide (0 < a)) := rfl
  have hx1 := Blk.new w 23 #[.string s, .int .i64 4, .bool u, .int .i64 o, .int .i64 a, .int .i64 b]
  have hbw : Below w.heap.size w (w.alloc (.cells #[.string s, .int .i64 4, .bool u, .int .i64 o, .int .i64 a, .int .i64 b] 23)) := (Below.refl _ _).alloc (Nat.le_refl _) _
  have c1 : (w.alloc (.cells #[.string s, .int .i64 4, .bool u, .int .i64 o, .int .i64 a, .int .i64 b] 23)).cell? ⟨w.heap.size, 1, none⟩ = some (.int .i64 4) := (hx1.cell 1).trans rfl
  have hX1 := Lib.hid hx1
  have hbw' := Lib.hid hbw
  have hbd := Lib.hid hr
  clear hx1 hbw hr
  go_enter Tryz.func38, Tryz.ntmps38
  go_wp2
  generalize w.alloc (.cells #[.string s, .int .i64 4, .bool u, .int .i64 o, .int .i64 a, .int .i64 b] 23) = w1 at *
  refine start_ (n := 5) (S := fun w' => w'.cell? ⟨w.heap.size, 1, none⟩ = some (.int .i64 4)) (ds := []) #[false, false, false, false, false] (by kernel_rfl) rfl rfl (c1) (fun hHeld => ?_)
  refine pure_ (i := 1) (N := some 5) (v := ?_) (a' := ?_) #[false, true, false, false, false] rfl rfl (by kernel_rfl) (fun _ _ _ h => h) (Or.inl ⟨by rfl, ?_⟩) ?_ ?_
  rotate_left
  · intro w'
    go_simp
    with_reducible rfl
  rotate_left
  · simp only [Act.put, List.setIfInBounds_toArray, List.set_cons_zero, List.set_cons_succ, i64_w, i32_w]
    rfl
  refine take_ (i := 2) (N := some 6) (v := ?_) (a' := ?_) #[false, true, true, false, false] rfl rfl (by kernel_rfl) (fun _ _ _ h => h) (Or.inl ⟨by rfl, ?_⟩) hHeld ?_ ?_
  rotate_left
  · intro w' s0
    go_simp
    with_reducible rfl
  rotate_left
  · simp only [Act.put, List.setIfInBounds_toArray, List.set_cons_zero, List.set_cons_succ, i64_w, i32_w]
    rfl
  refine one_ (i := 0) (N := some 4) #[true, true, true, false, false] rfl rfl (by kernel_rfl) (by decide) (fun K hK => ?_)
  refine goes_ Tryz.func63 (by kernel_rfl) rfl #[] (by rfl) rfl rfl (by simp) ?_
  with_reducible refine (rules_any (w := w1.drew)).mono ?_
  rintro e w2 ⟨bm, g, rfl, hO, hG, hB⟩
  have hB2 : Below w1.heap.size w1 w2 := ⟨hB.os, hB.tape, hB.output, hB.size, hB.block⟩
  have h1 := bcells hB2 c1
  have hlk := look_any hO 4 (by decide) (by decide)
  rw [show fV g 4 = f4 from rfl] at hlk
  unfold f4 at hlk
  have hG' := Lib.hid hG
  have hX := Lib.hid (hX1.out.below hB2)
  have hB' := Lib.hid hB2
  clear hO hG hB hB2
  refine ⟨_, rfl, ?_⟩
  refine hK.out _ _ (h1) (fun hHeld => ?_)
  clear hK K
  refine norm_ (a' := ?_) ?_ ?_
  rotate_left
  · show Act.put _ (some 4) _ = _
    simp only [Act.put, List.setIfInBounds_toArray, List.set_cons_zero, List.set_cons_succ, i64_w, i32_w]
    rfl
  refine one_ (i := 3) (N := some 7) #[true, true, true, true, false] rfl rfl (by kernel_rfl) (by decide) (fun K hK => ?_)
  refine value_ (w1 := ?_) (v := ?_) (by rfl) rfl ?_ ?_
  rotate_left 2
  · go_simp
    constructor
    · rfl
    · rfl
  refine hK.out _ _ (h1) (fun hHeld => ?_)
  clear hK K
  refine norm_ (a' := ?_) ?_ ?_
  rotate_left
  · show Act.put _ (some 7) _ = _
    simp only [Act.put, List.setIfInBounds_toArray, List.set_cons_zero, List.set_cons_succ, i64_w, i32_w]
    rfl
  refine pure_ (i := 4) (N := some 3) (v := ?_) (a' := ?_) #[true, true, true, true, true] rfl rfl (by kernel_rfl) (fun _ _ _ h => h) (Or.inl ⟨by rfl, ?_⟩) ?_ ?_
  rotate_left
  · intro w'
    go_simp
    with_reducible rfl
  rotate_left
  · simp only [Act.put, List.setIfInBounds_toArray, List.set_cons_zero, List.set_cons_succ, i64_w, i32_w]
    rfl
  refine done_ (by kernel_rfl) ?_
  have hq : ∀ W : World, (binOp BinOp.eql 89 (.func (.func 83) #[] #[]) .nilFunc).run Tryz.prog W = .ok (.bool false) W := fun W => by kernel_rfl
  clear c1 h1 hHeld
  have x1 : w2.cell? ⟨w.heap.size, 1, none⟩ = some (.int .i64 4) := (hX.out.cell 1).trans rfl
  have x4 : w2.cell? ⟨w.heap.size, 4, none⟩ = some (.int .i64 a) := (hX.out.cell 4).trans rfl
  have x5 : w2.cell? ⟨w.heap.size, 5, none⟩ = some (.int .i64 b) := (hX.out.cell 5).trans rfl
  have hBB := Lib.hid (hbw'.out.trans (hB'.out.mono hbw'.out.size))
  clear hlk
  cases hA : rightB a with
  | false =>
    have hA' := Lib.hid hA
    clear hA
    go_wp2_with fail
    refine (right_any a _).mono ?_
    rintro e w3 ⟨rfl, rfl⟩
    rw [hA'.out]
    go_wp2
    go_ret
    exact ⟨by rw [hbd.out]; rw [hA'.out]; first | done | rfl, hBB.out⟩
  | true =>
    have hA' := Lib.hid hA
    clear hA
    go_wp2_with fail
    refine (right_any a _).mono ?_
    rintro e w3 ⟨rfl, rfl⟩
    rw [hA'.out]
    cases hC : rightB b with
    | false =>
      have hC' := Lib.hid hC
      clear hC
      go_wp2_with fail
      refine (right_any b _).mono ?_
      rintro e w4 ⟨rfl, rfl⟩
      rw [hC'.out]
      go_wp2
      go_ret
      exact ⟨by rw [hbd.out]; rw [hA'.out, hC'.out]; rfl, hBB.out⟩
    | true =>
      have hC' := Lib.hid hC
      clear hC
      go_wp2_with fail
      refine (right_any b _).mono ?_
      rintro e w4 ⟨rfl, rfl⟩
      rw [hC'.out]
      by_cases h0 : b = 0
      · have hz : (b == 0) = true := by simpa using h0
        have hz' := Lib.hid (decide_eq_true h0)
        clear h0
        go_wp2_with fail
        refine (rule4_any a b _).mono ?_
        rintro e w5 ⟨rfl, rfl⟩
        go_wp2
        go_ret
        exact ⟨by rw [hbd.out, hA'.out, hC'.out, hz'.out]; simp [go_sem], hBB.out⟩
      · have hz : (b == 0) = false := by simpa using h0
        have hz' := Lib.hid (decide_eq_false h0)
        clear h0
        go_wp2_with fail
        refine (numbers_any 4 _ (by decide)).mono ?_
        rintro e w5 ⟨rfl, hB5⟩
        have hB6 := Lib.hid (hBB.out.trans (hB5.mono hBB.out.size))
        have hG2 := Lib.hid (hG'.out.below hB5)
        have x4' := bcells hB5 x4
        have x5' := bcells hB5 x5
        clear hB5
        rw [show (if (4 : Int) ≤ 3 then (2 : Int) else 1) = 1 from rfl]
        go_wp2
        go_ret
        exact ⟨by rw [hbd.out]; rw [hA'.out, hC'.out, hz'.out]; simp, hB6.out⟩
theorem numbers_5 (s : ByteArray) (u : Bool) (o a b : Int) (w : World) :
    Calls Tryz.prog 38 #[.agg #[.string s, .int .i64 5, .bool u, .int .i64 o, .int .i64 a, .int .i64 b]] w fun e w' => e = .returned (.bool (numB 5 a b)) ∧ Below w.heap.size w w' := by
  have hr : numB 5 a b = (rightB a && rightB b && (decide (b = 0) || decide ((5 : Int) ≤ 3)) && decide (0 < a)) := rfl
  have hx1 := Blk.new w 23 #[.string s, .int .i64 5, .bool u, .int .i64 o, .int .i64 a, .int .i64 b]
  have hbw : Below w.heap.size w (w.alloc (.cells #[.string s, .int .i64 5, .bool u, .int .i64 o, .int .i64 a, .int .i64 b] 23)) := (Below.refl _ _).alloc (Nat.le_refl _) _
  have c1 : (w.alloc (.cells #[.string s, .int .i64 5, .bool u, .int .i64 o, .int .i64 a, .int .i64 b] 23)).cell? ⟨w.heap.size, 1, none⟩ = some (.int .i64 5) := (hx1.cell 1).trans rfl
  have hX1 := Lib.hid hx1
  have hbw' := Lib.hid hbw
  have hbd := Lib.hid hr
  clear hx1 hbw hr
  go_enter Tryz.func38, Tryz.ntmps38
  go_wp2
  generalize w.alloc (.cells #[.string s, .int .i64 5, .bool u, .int .i64 o, .int .i64 a, .int .i64 b] 23) = w1 at *
  refine start_ (n := 5) (S := fun w' => w'.cell? ⟨w.heap.size, 1, none⟩ = some (.int .i64 5)) (ds := []) #[false, false, false, false, false] (by kernel_rfl) rfl rfl (c1) (fun hHeld => ?_)
  refine pure_ (i := 1) (N := some 5) (v := ?_) (a' := ?_) #[false, true, false, false, false] rfl rfl (by kernel_rfl) (fun _ _ _ h => h) (Or.inl ⟨by rfl, ?_⟩) ?_ ?_
  rotate_left
  · intro w'
    go_simp
    with_reducible rfl
  rotate_left
  · simp only [Act.put, List.setIfInBounds_toArray, List.set_cons_zero, List.set_cons_succ, i64_w, i32_w]
    rfl
  refine take_ (i := 2) (N := some 6) (v := ?_) (a' := ?_) #[false, true, true, false, false] rfl rfl (by kernel_rfl) (fun _ _ _ h => h) (Or.inl ⟨by rfl, ?_⟩) hHeld ?_ ?_
  rotate_left
  · intro w' s0
    go_simp
    with_reducible rfl
  rotate_left
  · simp only [Act.put, List.setIfInBounds_toArray, List.set_cons_zero, List.set_cons_succ, i64_w, i32_w]
    rfl
  refine one_ (i := 0) (N := some 4) #[true, true, true, false, false] rfl rfl (by kernel_rfl) (by decide) (fun K hK => ?_)
  refine goes_ Tryz.func63 (by kernel_rfl) rfl #[] (by rfl) rfl rfl (by simp) ?_
  with_reducible refine (rules_any (w := w1.drew)).mono ?_
  rintro e w2 ⟨bm, g, rfl, hO, hG, hB⟩
  have hB2 : Below w1.heap.size w1 w2 := ⟨hB.os, hB.tape, hB.output, hB.size, hB.block⟩
  have h1 := bcells hB2 c1
  have hlk := look_any hO 5 (by decide) (by decide)
  rw [show fV g 5 = f4 from rfl] at hlk
  unfold f4 at hlk
  have hG' := Lib.hid hG
  have hX := Lib.hid (hX1.out.below hB2)
  have hB' := Lib.hid hB2
  clear hO hG hB hB2
  refine ⟨_, rfl, ?_⟩
  refine hK.out _ _ (h1) (fun hHeld => ?_)
  clear hK K
  refine norm_ (a' := ?_) ?_ ?_
  rotate_left
  · show Act.put _ (some 4) _ = _
    simp only [Act.put, List.setIfInBounds_toArray, List.set_cons_zero, List.set_cons_succ, i64_w, i32_w]
    rfl
  refine one_ (i := 3) (N := some 7) #[true, true, true, true, false] rfl rfl (by kernel_rfl) (by decide) (fun K hK => ?_)
  refine value_ (w1 := ?_) (v := ?_) (by rfl) rfl ?_ ?_
  rotate_left 2
  · go_simp
    constructor
    · rfl
    · rfl
  refine hK.out _ _ (h1) (fun hHeld => ?_)
  clear hK K
  refine norm_ (a' := ?_) ?_ ?_
  rotate_left
  · show Act.put _ (some 7) _ = _
    simp only [Act.put, List.setIfInBounds_toArray, List.set_cons_zero, List.set_cons_succ, i64_w, i32_w]
    rfl
  refine pure_ (i := 4) (N := some 3) (v := ?_) (a' := ?_) #[true, true, true, true, true] rfl rfl (by kernel_rfl) (fun _ _ _ h => h) (Or.inl ⟨by rfl, ?_⟩) ?_ ?_
  rotate_left
  · intro w'
    go_simp
    with_reducible rfl
  rotate_left
  · simp only [Act.put, List.setIfInBounds_toArray, List.set_cons_zero, List.set_cons_succ, i64_w, i32_w]
    rfl
  refine done_ (by kernel_rfl) ?_
  have hq : ∀ W : World, (binOp BinOp.eql 89 (.func (.func 83) #[] #[]) .nilFunc).run Tryz.prog W = .ok (.bool false) W := fun W => by kernel_rfl
  clear c1 h1 hHeld
  have x1 : w2.cell? ⟨w.heap.size, 1, none⟩ = some (.int .i64 5) := (hX.out.cell 1).trans rfl
  have x4 : w2.cell? ⟨w.heap.size, 4, none⟩ = some (.int .i64 a) := (hX.out.cell 4).trans rfl
  have x5 : w2.cell? ⟨w.heap.size, 5, none⟩ = some (.int .i64 b) := (hX.out.cell 5).trans rfl
  have hBB := Lib.hid (hbw'.out.trans (hB'.out.mono hbw'.out.size))
  clear hlk
  cases hA : rightB a with
  | false =>
    have hA' := Lib.hid hA
    clear hA
    go_wp2_with fail
    refine (right_any a _).mono ?_
    rintro e w3 ⟨rfl, rfl⟩
    rw [hA'.out]
    go_wp2
    go_ret
    exact ⟨by rw [hbd.out]; rw [hA'.out]; first | done | rfl, hBB.out⟩
  | true =>
    have hA' := Lib.hid hA
    clear hA
    go_wp2_with fail
    refine (right_any a _).mono ?_
    rintro e w3 ⟨rfl, rfl⟩
    rw [hA'.out]
    cases hC : rightB b with
    | false =>
      have hC' := Lib.hid hC
      clear hC
      go_wp2_with fail
      refine (right_any b _).mono ?_
      rintro e w4 ⟨rfl, rfl⟩
      rw [hC'.out]
      go_wp2
      go_ret
      exact ⟨by rw [hbd.out]; rw [hA'.out, hC'.out]; rfl, hBB.out⟩
    | true =>
      have hC' := Lib.hid hC
      clear hC
      go_wp2_with fail
      refine (right_any b _).mono ?_
      rintro e w4 ⟨rfl, rfl⟩
      rw [hC'.out]
      by_cases h0 : b = 0
      · have hz : (b == 0) = true := by simpa using h0
        have hz' := Lib.hid (decide_eq_true h0)
        clear h0
        go_wp2_with fail
        refine (rule4_any a b _).mono ?_
        rintro e w5 ⟨rfl, rfl⟩
        go_wp2
        go_ret
        exact ⟨by rw [hbd.out, hA'.out, hC'.out, hz'.out]; simp [go_sem], hBB.out⟩
      · have hz : (b == 0) = false := by simpa using h0
        have hz' := Lib.hid (decide_eq_false h0)
        clear h0
        go_wp2_with fail
        refine (numbers_any 5 _ (by decide)).mono ?_
        rintro e w5 ⟨rfl, hB5⟩
        have hB6 := Lib.hid (hBB.out.trans (hB5.mono hBB.out.size))
        have hG2 := Lib.hid (hG'.out.below hB5)
        have x4' := bcells hB5 x4
        have x5' := bcells hB5 x5
        clear hB5
        rw [show (if (5 : Int) ≤ 3 then (2 : Int) else 1) = 1 from rfl]
        go_wp2
        go_ret
        exact ⟨by rw [hbd.out]; rw [hA'.out, hC'.out, hz'.out]; simp, hB6.out⟩
theorem numbers_6 (s : ByteArray) (u : Bool) (o a b : Int) (w : World) :
    Calls Tryz.prog 38 #[.agg #[.string s, .int .i64 6, .bool u, .int .i64 o, .int .i64 a, .int .i64 b]] w fun e w' => e = .returned (.bool (numB 6 a b)) ∧ Below w.heap.size w w' := by
  have hr : numB 6 a b = (rightB a && rightB b && (decide (b = 0) || decide ((6 : Int) ≤ 3)) && true) := rfl
  have hx1 := Blk.new w 23 #[.string s, .int .i64 6, .bool u, .int .i64 o, .int .i64 a, .int .i64 b]
  have hbw : Below w.heap.size w (w.alloc (.cells #[.string s, .int .i64 6, .bool u, .int .i64 o, .int .i64 a, .int .i64 b] 23)) := (Below.refl _ _).alloc (Nat.le_refl _) _
  have c1 : (w.alloc (.cells #[.string s, .int .i64 6, .bool u, .int .i64 o, .int .i64 a, .int .i64 b] 23)).cell? ⟨w.heap.size, 1, none⟩ = some (.int .i64 6) := (hx1.cell 1).trans rfl
  have hX1 := Lib.hid hx1
  have hbw' := Lib.hid hbw
  have hbd := Lib.hid hr
  clear hx1 hbw hr
  go_enter Tryz.func38, Tryz.ntmps38
  go_wp2
  generalize w.alloc (.cells #[.string s, .int .i64 6, .bool u, .int .i64 o, .int .i64 a, .int .i64 b] 23) = w1 at *
  refine start_ (n := 5) (S := fun w' => w'.cell? ⟨w.heap.size, 1, none⟩ = some (.int .i64 6)) (ds := []) #[false, false, false, false, false] (by kernel_rfl) rfl rfl (c1) (fun hHeld => ?_)
  refine pure_ (i := 1) (N := some 5) (v := ?_) (a' := ?_) #[false, true, false, false, false] rfl rfl (by kernel_rfl) (fun _ _ _ h => h) (Or.inl ⟨by rfl, ?_⟩) ?_ ?_
  rotate_left
  · intro w'
    go_simp
    with_reducible rfl
  rotate_left
  · simp only [Act.put, List.setIfInBounds_toArray, List.set_cons_zero, List.set_cons_succ, i64_w, i32_w]
    rfl
  refine take_ (i := 2) (N := some 6) (v := ?_) (a' := ?_) #[false, true, true, false, false] rfl rfl (by kernel_rfl) (fun _ _ _ h => h) (Or.inl ⟨by rfl, ?_⟩) hHeld ?_ ?_
  rotate_left
  · intro w' s0
    go_simp
    with_reducible rfl
  rotate_left
  · simp only [Act.put, List.setIfInBounds_toArray, List.set_cons_zero, List.set_cons_succ, i64_w, i32_w]
    rfl
  refine one_ (i := 0) (N := some 4) #[true, true, true, false, false] rfl rfl (by kernel_rfl) (by decide) (fun K hK => ?_)
  refine goes_ Tryz.func63 (by kernel_rfl) rfl #[] (by rfl) rfl rfl (by simp) ?_
  with_reducible refine (rules_any (w := w1.drew)).mono ?_
  rintro e w2 ⟨bm, g, rfl, hO, hG, hB⟩
  have hB2 : Below w1.heap.size w1 w2 := ⟨hB.os, hB.tape, hB.output, hB.size, hB.block⟩
  have h1 := bcells hB2 c1
  have hlk := look_any hO 6 (by decide) (by decide)
  rw [show fV g 6 = .nilFunc from rfl] at hlk
  have hG' := Lib.hid hG
  have hX := Lib.hid (hX1.out.below hB2)
  have hB' := Lib.hid hB2
  clear hO hG hB hB2
  refine ⟨_, rfl, ?_⟩
  refine hK.out _ _ (h1) (fun hHeld => ?_)
  clear hK K
  refine norm_ (a' := ?_) ?_ ?_
  rotate_left
  · show Act.put _ (some 4) _ = _
    simp only [Act.put, List.setIfInBounds_toArray, List.set_cons_zero, List.set_cons_succ, i64_w, i32_w]
    rfl
  refine one_ (i := 3) (N := some 7) #[true, true, true, true, false] rfl rfl (by kernel_rfl) (by decide) (fun K hK => ?_)
  refine value_ (w1 := ?_) (v := ?_) (by rfl) rfl ?_ ?_
  rotate_left 2
  · go_simp
    constructor
    · rfl
    · rfl
  refine hK.out _ _ (h1) (fun hHeld => ?_)
  clear hK K
  refine norm_ (a' := ?_) ?_ ?_
  rotate_left
  · show Act.put _ (some 7) _ = _
    simp only [Act.put, List.setIfInBounds_toArray, List.set_cons_zero, List.set_cons_succ, i64_w, i32_w]
    rfl
  refine pure_ (i := 4) (N := some 3) (v := ?_) (a' := ?_) #[true, true, true, true, true] rfl rfl (by kernel_rfl) (fun _ _ _ h => h) (Or.inl ⟨by rfl, ?_⟩) ?_ ?_
  rotate_left
  · intro w'
    go_simp
    with_reducible rfl
  rotate_left
  · simp only [Act.put, List.setIfInBounds_toArray, List.set_cons_zero, List.set_cons_succ, i64_w, i32_w]
    rfl
  refine done_ (by kernel_rfl) ?_
  have hq : ∀ W : World, (binOp BinOp.eql 89 .nilFunc .nilFunc).run Tryz.prog W = .ok (.bool true) W := fun W => by kernel_rfl
  clear c1 h1 hHeld
  have x1 : w2.cell? ⟨w.heap.size, 1, none⟩ = some (.int .i64 6) := (hX.out.cell 1).trans rfl
  have x4 : w2.cell? ⟨w.heap.size, 4, none⟩ = some (.int .i64 a) := (hX.out.cell 4).trans rfl
  have x5 : w2.cell? ⟨w.heap.size, 5, none⟩ = some (.int .i64 b) := (hX.out.cell 5).trans rfl
  have hBB := Lib.hid (hbw'.out.trans (hB'.out.mono hbw'.out.size))
  clear hlk
  cases hA : rightB a with
  | false =>
    have hA' := Lib.hid hA
    clear hA
    go_wp2_with fail
    refine (right_any a _).mono ?_
    rintro e w3 ⟨rfl, rfl⟩
    rw [hA'.out]
    go_wp2
    go_ret
    exact ⟨by rw [hbd.out]; rw [hA'.out]; first | done | rfl, hBB.out⟩
  | true =>
    have hA' := Lib.hid hA
    clear hA
    go_wp2_with fail
    refine (right_any a _).mono ?_
    rintro e w3 ⟨rfl, rfl⟩
    rw [hA'.out]
    cases hC : rightB b with
    | false =>
      have hC' := Lib.hid hC
      clear hC
      go_wp2_with fail
      refine (right_any b _).mono ?_
      rintro e w4 ⟨rfl, rfl⟩
      rw [hC'.out]
      go_wp2
      go_ret
      exact ⟨by rw [hbd.out]; rw [hA'.out, hC'.out]; rfl, hBB.out⟩
    | true =>
      have hC' := Lib.hid hC
      clear hC
      go_wp2_with fail
      refine (right_any b _).mono ?_
      rintro e w4 ⟨rfl, rfl⟩
      rw [hC'.out]
      by_cases h0 : b = 0
      · have hz : (b == 0) = true := by simpa using h0
        have hz' := Lib.hid (decide_eq_true h0)
        clear h0
        go_wp2
        go_ret
        exact ⟨by rw [hbd.out, hA'.out, hC'.out, hz'.out]; simp [go_sem], hBB.out⟩
      · have hz : (b == 0) = false := by simpa using h0
        have hz' := Lib.hid (decide_eq_false h0)
        clear h0
        go_wp2_with fail
        refine (numbers_any 6 _ (by decide)).mono ?_
        rintro e w5 ⟨rfl, hB5⟩
        have hB6 := Lib.hid (hBB.out.trans (hB5.mono hBB.out.size))
        have hG2 := Lib.hid (hG'.out.below hB5)
        have x4' := bcells hB5 x4
        have x5' := bcells hB5 x5
        clear hB5
        rw [show (if (6 : Int) ≤ 3 then (2 : Int) else 1) = 1 from rfl]
        go_wp2
        go_ret
        exact ⟨by rw [hbd.out]; rw [hA'.out, hC'.out, hz'.out]; simp, hB6.out⟩
theorem numbers_7 (s : ByteArray) (u : Bool) (o a b : Int) (w : World) :
    Calls Tryz.prog 38 #[.agg #[.string s, .int .i64 7, .bool u, .int .i64 o, .int .i64 a, .int .i64 b]] w fun e w' => e = .returned (.bool (numB 7 a b)) ∧ Below w.heap.size w w' := by
  have hr : numB 7 a b = (rightB a && rightB b && (decide (b = 0) || decide ((7 : Int) ≤ 3)) && true) := rfl
  have hx1 := Blk.new w 23 #[.string s, .int .i64 7, .bool u, .int .i64 o, .int .i64 a, .int .i64 b]
  have hbw : Below w.heap.size w (w.alloc (.cells #[.string s, .int .i64 7, .bool u, .int .i64 o, .int .i64 a, .int .i64 b] 23)) := (Below.refl _ _).alloc (Nat.le_refl _) _
  have c1 : (w.alloc (.cells #[.string s, .int .i64 7, .bool u, .int .i64 o, .int .i64 a, .int .i64 b] 23)).cell? ⟨w.heap.size, 1, none⟩ = some (.int .i64 7) := (hx1.cell 1).trans rfl
  have hX1 := Lib.hid hx1
  have hbw' := Lib.hid hbw
  have hbd := Lib.hid hr
  clear hx1 hbw hr
  go_enter Tryz.func38, Tryz.ntmps38
  go_wp2
  generalize w.alloc (.cells #[.string s, .int .i64 7, .bool u, .int .i64 o, .int .i64 a, .int .i64 b] 23) = w1 at *
  refine start_ (n := 5) (S := fun w' => w'.cell? ⟨w.heap.size, 1, none⟩ = some (.int .i64 7)) (ds := []) #[false, false, false, false, false] (by kernel_rfl) rfl rfl (c1) (fun hHeld => ?_)
  refine pure_ (i := 1) (N := some 5) (v := ?_) (a' := ?_) #[false, true, false, false, false] rfl rfl (by kernel_rfl) (fun _ _ _ h => h) (Or.inl ⟨by rfl, ?_⟩) ?_ ?_
  rotate_left
  · intro w'
    go_simp
    with_reducible rfl
  rotate_left
  · simp only [Act.put, List.setIfInBounds_toArray, List.set_cons_zero, List.set_cons_succ, i64_w, i32_w]
    rfl
  refine take_ (i := 2) (N := some 6) (v := ?_) (a' := ?_) #[false, true, true, false, false] rfl rfl (by kernel_rfl) (fun _ _ _ h => h) (Or.inl ⟨by rfl, ?_⟩) hHeld ?_ ?_
  rotate_left
  · intro w' s0
    go_simp
    with_reducible rfl
  rotate_left
  · simp only [Act.put, List.setIfInBounds_toArray, List.set_cons_zero, List.set_cons_succ, i64_w, i32_w]
    rfl
  refine one_ (i := 0) (N := some 4) #[true, true, true, false, false] rfl rfl (by kernel_rfl) (by decide) (fun K hK => ?_)
  refine goes_ Tryz.func63 (by kernel_rfl) rfl #[] (by rfl) rfl rfl (by simp) ?_
  with_reducible refine (rules_any (w := w1.drew)).mono ?_
  rintro e w2 ⟨bm, g, rfl, hO, hG, hB⟩
  have hB2 : Below w1.heap.size w1 w2 := ⟨hB.os, hB.tape, hB.output, hB.size, hB.block⟩
  have h1 := bcells hB2 c1
  have hlk := look_any hO 7 (by decide) (by decide)
  rw [show fV g 7 = .nilFunc from rfl] at hlk
  have hG' := Lib.hid hG
  have hX := Lib.hid (hX1.out.below hB2)
  have hB' := Lib.hid hB2
  clear hO hG hB hB2
  refine ⟨_, rfl, ?_⟩
  refine hK.out _ _ (h1) (fun hHeld => ?_)
  clear hK K
  refine norm_ (a' := ?_) ?_ ?_
  rotate_left
  · show Act.put _ (some 4) _ = _
    simp only [Act.put, List.setIfInBounds_toArray, List.set_cons_zero, List.set_cons_succ, i64_w, i32_w]
    rfl
  refine one_ (i := 3) (N := some 7) #[true, true, true, true, false] rfl rfl (by kernel_rfl) (by decide) (fun K hK => ?_)
  refine value_ (w1 := ?_) (v := ?_) (by rfl) rfl ?_ ?_
  rotate_left 2
  · go_simp
    constructor
    · rfl
    · rfl
  refine hK.out _ _ (h1) (fun hHeld => ?_)
  clear hK K
  refine norm_ (a' := ?_) ?_ ?_
  rotate_left
  · show Act.put _ (some 7) _ = _
    simp only [Act.put, List.setIfInBounds_toArray, List.set_cons_zero, List.set_cons_succ, i64_w, i32_w]
    rfl
  refine pure_ (i := 4) (N := some 3) (v := ?_) (a' := ?_) #[true, true, true, true, true] rfl rfl (by kernel_rfl) (fun _ _ _ h => h) (Or.inl ⟨by rfl, ?_⟩) ?_ ?_
  rotate_left
  · intro w'
    go_simp
    with_reducible rfl
  rotate_left
  · simp only [Act.put, List.setIfInBounds_toArray, List.set_cons_zero, List.set_cons_succ, i64_w, i32_w]
    rfl
  refine done_ (by kernel_rfl) ?_
  have hq : ∀ W : World, (binOp BinOp.eql 89 .nilFunc .nilFunc).run Tryz.prog W = .ok (.bool true) W := fun W => by kernel_rfl
  clear c1 h1 hHeld
  have x1 : w2.cell? ⟨w.heap.size, 1, none⟩ = some (.int .i64 7) := (hX.out.cell 1).trans rfl
  have x4 : w2.cell? ⟨w.heap.size, 4, none⟩ = some (.int .i64 a) := (hX.out.cell 4).trans rfl
  have x5 : w2.cell? ⟨w.heap.size, 5, none⟩ = some (.int .i64 b) := (hX.out.cell 5).trans rfl
  have hBB := Lib.hid (hbw'.out.trans (hB'.out.mono hbw'.out.size))
  clear hlk
  cases hA : rightB a with
  | false =>
    have hA' := Lib.hid hA
    clear hA
    go_wp2_with fail
    refine (right_any a _).mono ?_
    rintro e w3 ⟨rfl, rfl⟩
    rw [hA'.out]
    go_wp2
    go_ret
    exact ⟨by rw [hbd.out]; rw [hA'.out]; first | done | rfl, hBB.out⟩
  | true =>
    have hA' := Lib.hid hA
    clear hA
    go_wp2_with fail
    refine (right_any a _).mono ?_
    rintro e w3 ⟨rfl, rfl⟩
    rw [hA'.out]
    cases hC : rightB b with
    | false =>
      have hC' := Lib.hid hC
      clear hC
      go_wp2_with fail
      refine (right_any b _).mono ?_
      rintro e w4 ⟨rfl, rfl⟩
      rw [hC'.out]
      go_wp2
      go_ret
      exact ⟨by rw [hbd.out]; rw [hA'.out, hC'.out]; rfl, hBB.out⟩
    | true =>
      have hC' := Lib.hid hC
      clear hC
      go_wp2_with fail
      refine (right_any b _).mono ?_
      rintro e w4 ⟨rfl, rfl⟩
      rw [hC'.out]
      by_cases h0 : b = 0
      · have hz : (b == 0) = true := by simpa using h0
        have hz' := Lib.hid (decide_eq_true h0)
        clear h0
        go_wp2
        go_ret
        exact ⟨by rw [hbd.out, hA'.out, hC'.out, hz'.out]; simp [go_sem], hBB.out⟩
      · have hz : (b == 0) = false := by simpa using h0
        have hz' := Lib.hid (decide_eq_false h0)
        clear h0
        go_wp2_with fail
        refine (numbers_any 7 _ (by decide)).mono ?_
        rintro e w5 ⟨rfl, hB5⟩
        have hB6 := Lib.hid (hBB.out.trans (hB5.mono hBB.out.size))
        have hG2 := Lib.hid (hG'.out.below hB5)
        have x4' := bcells hB5 x4
        have x5' := bcells hB5 x5
        clear hB5
        rw [show (if (7 : Int) ≤ 3 then (2 : Int) else 1) = 1 from rfl]
        go_wp2
        go_ret
        exact ⟨by rw [hbd.out]; rw [hA'.out, hC'.out, hz'.out]; simp, hB6.out⟩
theorem numbers_all (s : ByteArray) (k : Int) (u : Bool) (o a b : Int) (w : World) (h : kindB k = true) :
    Calls Tryz.prog 38 #[.agg #[.string s, .int .i64 k, .bool u, .int .i64 o, .int .i64 a, .int .i64 b]] w fun e w' => e = .returned (.bool (numB k a b)) ∧ Below w.heap.size w w' := by
  have h8 : k = 1 ∨ k = 2 ∨ k = 3 ∨ k = 4 ∨ k = 5 ∨ k = 6 ∨ k = 7 := by simp [kindB] at h; omega
  rcases h8 with rfl | rfl | rfl | rfl | rfl | rfl | rfl
  · exact numbers_1 s u o a b w
  · exact numbers_2 s u o a b w
  · exact numbers_3 s u o a b w
  · exact numbers_4 s u o a b w
  · exact numbers_5 s u o a b w
  · exact numbers_6 s u o a b w
  · exact numbers_7 s u o a b w
end Go.Proofs.YtehpliclknfmoaaGreat.Toxic
