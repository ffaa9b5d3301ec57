/- A toxic's rules (chapter 09): a map of functions. Conditions: none. -/
import Derived.Test.YtehpliclknfmoaaLive
import Derived.Laws.EntriesVeiled
import Derived.Maps.Own
namespace Go.Proofs.Ytehpliclknfmoaa.Toxic
open Go.RowKit Mem Tick Cargo
open Go.Maps (Keyed)
set_option maxRecDepth 100000
set_option linter.unusedVariables false
set_option linter.unusedSimpArgs false
/-- a value reads as itself. -/
def RV (v : Value) : Option (DataW Value × List MemPlace) := some (.held v, [])
abbrev Owns (w : World) (b n : Nat) (D : DataW Value) : Prop := w.ownsMap Try.prog 3 RV b n D
theorem K : Keyed Try.prog 3 := Go.Maps.int_keyed Try.underlying3
theorem put_own {w : World} {b n : Nat} {D : DataW Value} (h : Owns w b n D) (hn : n < maxLen) (k : Int) (hk : (Lit.int .i64 k).wf = true) (v : Value) :
    ∃ w', (Instr.mapUpdate 97 (.map (some b)) (.int .i64 k) v).run Try.prog w = .ok () w' ∧ Owns w' b (n + 1) (D.put (.int .i64 k) (.held v)) ∧ w.grownBy w' (some b) :=
  World.ownsMap.update h K Try.underlying97 hn (Go.Maps.keyOf_int_mk Try.underlying3 hk) (rfl : RV v = some (.held v, []))
theorem zero_rule (w : World) : (zeroValue 74).run Try.prog w = .ok .nilFunc w := by rfl
theorem look_own {w : World} {b n : Nat} {D : DataW Value} (h : Owns w b n D) (k : Int) (hk : (Lit.int .i64 k).wf = true) (v : Value) (hv : D.atKey (.int .i64 k) (.held .nilFunc) = .held v) :
    (Instr.lookup 97 (.map (some b)) (.int .i64 k) false).run Try.prog w = .ok v w := by
  obtain ⟨v', ps, hrun, hv'⟩ := World.ownsMap.lookup h K Try.underlying97 (zero_rule w) (rfl : RV .nilFunc = some (.held .nilFunc, [])) (Go.Maps.keyOf_int_mk Try.underlying3 hk)
  rw [hv] at hv'
  have : v' = v := by
    have h := Option.some.inj hv'
    have h2 := congrArg Prod.fst h
    injection h2
  rw [← this]; exact hrun
def fnV (f : Nat) (cs : Array Value) : Value := .func (.func f) #[] cs
def f1 : Value := .func (.func 67) #[] #[]
def f2 (g : Nat) : Value := .func (.func 68) #[] #[.pointer (some ⟨g, 0, none⟩)]
def f3 (g : Nat) : Value := .func (.func 69) #[] #[.pointer (some ⟨g, 0, none⟩)]
def f4 : Value := .func (.func 65) #[] #[]
def rules (g : Nat) : DataW Value := ((((((DataW.map []).put (.int .i64 1) (.held f1)).put (.int .i64 2) (.held (f2 g))).put (.int .i64 3) (.held (f3 g))).put (.int .i64 4) (.held f4)).put (.int .i64 5) (.held f4))
theorem rules_any (w : World) :
    Calls Try.prog 57 #[] w fun e w' => ∃ b g, e = .returned (.map (some b)) ∧ Owns w' b 5 (rules g) ∧ Blk w' g 72 #[.func (.func 66) #[] #[]] ∧ Below w.heap.size w w' := by
  have hmm := @run_makeMap Try.prog
  have h0 : Owns ((w.alloc (.cells #[.func (.func 66) #[] #[]] 72)).alloc (.map #[] 0)) (w.heap.size + 1) 0 (.map []) := by
    have := World.ownsMap_made (w.alloc (.cells #[.func (.func 66) #[] #[]] 72)) Try.prog 3 RV
    simpa using this
  have hb0 : Blk ((w.alloc (.cells #[.func (.func 66) #[] #[]] 72)).alloc (.map #[] 0)) w.heap.size 72 #[.func (.func 66) #[] #[]] := (Blk.new w _ _).below ((Below.refl _ _).alloc (Nat.le_refl _) _)
  have B0 : Below w.heap.size w ((w.alloc (.cells #[.func (.func 66) #[] #[]] 72)).alloc (.map #[] 0)) := ((Below.refl _ _).alloc (Nat.le_refl _) _).alloc (by simp) _
  obtain ⟨w1, r1, h1, g1⟩ := put_own h0 (by decide) 1 (by decide) f1
  obtain ⟨w2, r2, h2, g2⟩ := put_own h1 (by decide) 2 (by decide) (f2 w.heap.size)
  obtain ⟨w3, r3, h3, g3⟩ := put_own h2 (by decide) 3 (by decide) (f3 w.heap.size)
  obtain ⟨w4, r4, h4, g4⟩ := put_own h3 (by decide) 4 (by decide) f4
  obtain ⟨w5, r5, h5, g5⟩ := put_own h4 (by decide) 5 (by decide) f4
  have G := Lib.hid (((((g1.trans g2).trans g3).trans g4)).trans g5)
  have H5 := Lib.hid h5
  have HB := Lib.hid hb0
  have HB0 := Lib.hid B0
  unfold f1 at r1
  unfold f2 at r2
  unfold f3 at r3
  unfold f4 at r4 r5
  clear h0 h1 h2 h3 h4 h5 g1 g2 g3 g4 g5 hb0 B0
  go_enter Try.func57, Try.ntmps57
  go_wp2
  go_ret
  have hd : Did (fun k => k = w.heap.size + 1) ((w.alloc (.cells #[.func (.func 66) #[] #[]] 72)).alloc (.map #[] 0)) w5 := Did.of_grown G.out fun k hk => .inl (by injection hk with h; exact h.symm)
  exact ⟨_, _, rfl, H5.out, HB.out.did hd (by omega), HB0.out.trans (hd.below (by simp; omega) (fun k hk => by subst hk; omega))⟩
theorem rules_at (g : Nat) : (∀ k : Int, k ≠ 1 → k ≠ 2 → k ≠ 3 → k ≠ 4 → k ≠ 5 → (rules g).atKey (.int .i64 k) (.held .nilFunc) = .held .nilFunc) := by
  intro k h1 h2 h3 h4 h5
  unfold rules
  rw [Go.Maps.atKey_put_other (by simpa using h5), Go.Maps.atKey_put_other (by simpa using h4), Go.Maps.atKey_put_other (by simpa using h3), Go.Maps.atKey_put_other (by simpa using h2), Go.Maps.atKey_put_other (by simpa using h1)]
  rfl
theorem rules_is (g : Nat) : (rules g).atKey (.int .i64 1) (.held .nilFunc) = .held f1 ∧ (rules g).atKey (.int .i64 2) (.held .nilFunc) = .held (f2 g) ∧ (rules g).atKey (.int .i64 3) (.held .nilFunc) = .held (f3 g) ∧ (rules g).atKey (.int .i64 4) (.held .nilFunc) = .held f4 ∧ (rules g).atKey (.int .i64 5) (.held .nilFunc) = .held f4 := by
  refine ⟨?_, ?_, ?_, ?_, ?_⟩ <;> rfl
end Go.Proofs.Ytehpliclknfmoaa.Toxic
