/- The walk of BucketWindows (chapter 08). Conditions: the numbers are of their kinds. -/
import Derived.Test.YtdooeeklpinhfaaWindows
import Derived.Deep.LoopGhost
import Derived.Laws.OwnMore
import Derived.Maps.AppendAt
import Derived.Lib.SmallJoins
import Derived.Deep.DeepCutAuto
import Derived.Deep.CutBlock
namespace Go.Proofs.Ytdooeeklpinhfaa.Win
open Go.RowKit Tick Bucket Law08
set_option maxRecDepth 100000
set_option linter.unusedVariables false
set_option linter.unusedSimpArgs false

theorem row_below {B : Nat} {e : TypeId} {k : Nat} {v : Value} {n : Nat} {xs : List Value} {w w' : World} (h : w.ownsRow B e k v n xs) (hb : Below w.heap.size w w') : w'.ownsRow B e k v n xs :=
  h.kept (row := none) ⟨hb.os, hb.tape, hb.output, hb.size, fun j hj _ => hb.block j hj⟩ (by cases hv : v.ownBlock <;> simp)
/-- a slice of pairs of whole numbers that may be read. -/
def Pairs (w : World) (v : Value) (xs : List (Int × Int)) : Prop :=
  ∃ a len cap, v = .slice a len cap ∧ len = xs.length ∧ xs.length ≤ 9223372036854775807 ∧ (∀ x ∈ xs, (Lit.int .i64 x.1).wf = true ∧ (Lit.int .i64 x.2).wf = true) ∧ (xs ≠ [] → ∃ b off, a = some ⟨b, off, none⟩ ∧ ∀ j x, xs[j]? = some x → w.cell? ⟨b, off + j * 2, none⟩ = some (.int .i64 x.1) ∧ w.cell? ⟨b, off + j * 2 + 1, none⟩ = some (.int .i64 x.2)) ∧ (a = none → cap = 0)
theorem Pairs.below {w w' : World} {v : Value} {xs : List (Int × Int)} (h : Pairs w v xs) (hb : Below w.heap.size w w') : Pairs w' v xs := by
  obtain ⟨a, len, cap, h1, h2, h3, h4, h5, h6⟩ := h
  refine ⟨a, len, cap, h1, h2, h3, h4, fun h => ?_, h6⟩
  obtain ⟨b, off, e, hc⟩ := h5 h
  refine ⟨b, off, e, fun j x hx => ?_⟩
  have := hc j x hx
  exact ⟨(hb.cell (p := ⟨b, off + j * 2, none⟩) (World.block_lt_of_cell? w _ this.1)).trans this.1, (hb.cell (p := ⟨b, off + j * 2 + 1, none⟩) (World.block_lt_of_cell? w _ this.2)).trans this.2⟩

theorem box_grown {w w' : World} {k : Nat} {a b c d : Value} {row : Option Nat} (h : Cls.Box4 w k a b c d) (hg : w.grownBy w' row) (hne : some k ≠ row) : Cls.Box4 w' k a b c d := by
  obtain ⟨h0, h1, h2, h3, f0, f1, f2, f3, hk⟩ := h
  have hb := hg.block k hk hne
  exact ⟨(World.cell?_of_block (a := ⟨k, 0, none⟩) hb).trans h0, (World.cell?_of_block (a := ⟨k, 1, none⟩) hb).trans h1, (World.cell?_of_block (a := ⟨k, 2, none⟩) hb).trans h2, (World.cell?_of_block (a := ⟨k, 3, none⟩) hb).trans h3,
    (World.frozen?_of_block (a := ⟨k, 0, none⟩) hb).trans f0, (World.frozen?_of_block (a := ⟨k, 1, none⟩) hb).trans f1, (World.frozen?_of_block (a := ⟨k, 2, none⟩) hb).trans f2, (World.frozen?_of_block (a := ⟨k, 3, none⟩) hb).trans f3, Nat.lt_of_lt_of_le hk hg.size⟩
theorem grown_put4 (w : World) (k : Nat) (a b c d : Value) : w.grownBy (Cls.put4 w k a b c d) (some k) := by
  refine ⟨rfl, rfl, rfl, by simp [Cls.put4, World.size_setCell], fun j hj hne => ?_⟩
  have : j ≠ k := fun e => hne (by rw [e])
  simp [Cls.put4, World.setCell, Array.getElem?_modify, Ne.symm this]
theorem takeK_max {r b l t now n : Int} : takeK r b l t now n ≤ (if n < 0 then 0 else n) ∨ okB r b l t = false := by
  cases h : okB r b l t with
  | false => exact .inr rfl
  | true =>
    left
    unfold takeK
    rw [if_pos h]
    split <;> (try split) <;> omega

def Apart (a g : Value) : Prop := a.ownBlock = none ∨ a.ownBlock ≠ g.ownBlock
theorem Apart.symm {a g : Value} (h : Apart a g) : Apart g a := by
  unfold Apart at *
  cases e : g.ownBlock with
  | none => exact .inl rfl
  | some j =>
    right
    rcases h with h | h
    · rw [h]; simp
    · rw [e] at h; exact fun c => h c.symm
theorem Apart.grow {a a' g : Value} {N : Nat} (h : Apart a g) (ha : a'.ownBlock = a.ownBlock ∨ a'.ownBlock = some N) (hg : ∀ j, g.ownBlock = some j → j < N) : Apart a' g := by
  unfold Apart at *
  rcases ha with e | e
  · rw [e]; exact h
  · right
    rw [e]
    intro c
    have := hg N c.symm
    omega

/-- a slice of whole numbers that may be read. -/
def Nums (w : World) (v : Value) (xs : List Int) : Prop :=
  ∃ a len cap, v = .slice a len cap ∧ len = xs.length ∧ xs.length ≤ 9223372036854775807 ∧ (∀ x ∈ xs, (Lit.int .i64 x).wf = true) ∧ (xs ≠ [] → ∃ b off, a = some ⟨b, off, none⟩ ∧ ∀ j x, xs[j]? = some x → w.cell? ⟨b, off + j, none⟩ = some (.int .i64 x)) ∧ (a = none → cap = 0)
theorem Nums.below {w w' : World} {v : Value} {xs : List Int} (h : Nums w v xs) (hb : Below w.heap.size w w') : Nums w' v xs := by
  obtain ⟨a, len, cap, h1, h2, h3, h4, h5, h6⟩ := h
  refine ⟨a, len, cap, h1, h2, h3, h4, fun h => ?_, h6⟩
  obtain ⟨b, off, e, hc⟩ := h5 h
  refine ⟨b, off, e, fun j x hx => ?_⟩
  have := hc j x hx
  exact (hb.cell (p := ⟨b, off + j, none⟩) (World.block_lt_of_cell? w _ this)).trans this

theorem nums_of_owns {w : World} {base e n : Nat} {v : Value} {ys : List Int} (h : w.ownsRow base e 1 v n (ys.map (Value.int .i64))) (hwf : ∀ y ∈ ys, (Lit.int .i64 y).wf = true) (hn : ys.length ≤ 9223372036854775807) : Nums w v ys := by
  obtain ⟨hl, h⟩ := h
  simp at hl
  subst hl
  rcases h with ⟨rfl, h0⟩ | ⟨g, cap, cur, rfl, hg, hh, hnc, hcap, hsz, htake⟩
  · refine ⟨none, 0, 0, rfl, h0.symm, hn, hwf, fun h => absurd (List.eq_nil_of_length_eq_zero h0) h, fun _ => rfl⟩
  · refine ⟨_, _, cap, rfl, rfl, hn, hwf, fun _ => ⟨g, 0, rfl, fun j y hy => ?_⟩, fun h => by cases h⟩
    have hj : j < ys.length := (List.getElem?_eq_some_iff.1 hy).1
    have e1 : (cur.toList.take (ys.length * 1))[j]? = some (.int .i64 y) := by
      rw [htake, List.getElem?_map, hy]; rfl
    rw [List.getElem?_take, if_pos (by omega)] at e1
    simp only [World.cell?, hh]
    simp at e1
    simpa using e1


theorem total_nonneg {l : List Int} (h : ∀ x ∈ l, 0 ≤ x) : 0 ≤ total l := by
  induction l with
  | nil => exact Int.le_refl _
  | cons x l ih =>
    have h1 := h x (List.mem_cons_self ..)
    have h2 := ih fun y hy => h y (List.mem_cons_of_mem _ hy)
    simp only [total]; omega
theorem total_next {l : List Int} {i k : Nat} {g : Int} (hik : i ≤ k) (hk : l[k]? = some g) : total ((l.drop i).take (k + 1 - i)) = total ((l.drop i).take (k - i)) + g := by
  have hkl := (List.getElem?_eq_some_iff.1 hk).1
  have e : (l.drop i)[k - i]? = some g := by rw [List.getElem?_drop, show i + (k - i) = k by omega]; exact hk
  rw [show k + 1 - i = (k - i) + 1 by omega, List.take_add_one, e]
  exact total_snoc _ _

theorem win_bad (r b : Int) (v : Value) (l : List (Int × Int)) (w : World) (hv : Pairs w v l) (h : okB r b b 0 = false) :
    Calls Try.prog 4 #[.int .i64 r, .int .i64 b, v] w fun e w' => e = .returned (.bool true) ∧ Below w.heap.size w w' := by
  obtain ⟨a, len, cap, rfl, rfl, hlen, hwf, hc, hcap⟩ := hv
  have h' := Lib.hid h
  clear h hcap hc hwf
  go_enter Try.func4, Try.ntmps4
  go_wp2_with fail
  refine (new_no r b 0 _ h'.out).mono ?_
  rintro e w1 ⟨rfl, hb1⟩
  go_wp2_with fail
  refine (alive_any _).mono ?_
  rintro e w2 ⟨rfl, hb2⟩
  go_wp2
  go_ret
  exact ⟨by simp, (hb1.alloc hb1.size _).trans (hb2.mono (by have := hb1.size; simp; omega))⟩
theorem win_long (r b : Int) (v : Value) (l : List (Int × Int)) (w : World) (hv : Pairs w v l) (h : okB r b b 0 = true) (hl : 60 < l.length) :
    Calls Try.prog 4 #[.int .i64 r, .int .i64 b, v] w fun e w' => e = .returned (.bool true) ∧ Below w.heap.size w w' := by
  obtain ⟨a, len, cap, rfl, rfl, hlen, hwf, hc, hcap⟩ := hv
  have h' := Lib.hid h
  clear h hcap hc hwf
  go_enter Try.func4, Try.ntmps4
  go_wp2_with fail
  refine (new_yes r b 0 _ h'.out).mono ?_
  rintro e w1 ⟨rfl, hb1⟩
  go_wp2_with fail
  refine (alive_any _).mono ?_
  rintro e w2 ⟨rfl, hb2⟩
  go_wp2
  go_ret
  exact ⟨by simp, (hb1.alloc hb1.size _).trans (hb2.mono (by have := hb1.size; simp; omega))⟩

theorem info_int : (Try.prog.info? 3).map (fun i => (i.zero, i.size, i.bytes)) = some (some (.int .i64 0), 1, 8) := by kernel_rfl
def ints (l : List Int) : List Value := l.map (Value.int .i64)

set_option maxHeartbeats 2000000 in
theorem win_few (r b : Int) (v : Value) (l : List (Int × Int)) (w : World) (hv : Pairs w v l) (h : okB r b b 0 = true) (hl : l.length ≤ 60) :
    Calls Try.prog 4 #[.int .i64 r, .int .i64 b, v] w fun e w' => e = .returned (.bool true) ∧ Below w.heap.size w w' := by
  have hv' := Lib.hid hv
  obtain ⟨a, len, cap, rfl, rfl, hlen, hwf, hc, hcap⟩ := hv
  have h' := Lib.hid h
  have hinv := inv_nil h
  clear h hcap hc hwf
  obtain ⟨i0, hi, hz0, hz1, hz2⟩ := info_parts info_int
  go_enter Try.func4, Try.ntmps4
  go_wp2_with fail
  refine (new_yes r b 0 _ h'.out).mono ?_
  rintro e w1 ⟨rfl, hb1⟩
  have hB := hb1.alloc hb1.size (.cells #[.int .i64 r, .int .i64 b, .int .i64 b, .int .i64 0] 24)
  have X := Cls.Box4.new w1 (.int .i64 r) (.int .i64 b) (.int .i64 b) (.int .i64 0) 24
  have hle : w.heap.size ≤ w1.heap.size := hb1.size
  generalize hK : w1.heap.size = K at *
  clear hb1
  go_wp2
  go_loopw [9, 10, 11, 35] (fun nv av gv iv wr => ∃ (k : Nat) (now lev : Int) (at_ got : List Int), k ≤ l.length ∧ at_.length = k ∧ iv = .int .i64 k ∧ nv = .int .i64 now ∧ Inv r b at_ got lev now ∧ wr.ownsRow (K + 1) 3 1 av k (ints at_) ∧ wr.ownsRow (K + 1) 3 1 gv k (ints got) ∧ Apart av gv ∧ Cls.Box4 wr K (.int .i64 r) (.int .i64 b) (.int .i64 lev) (.int .i64 now) ∧ Below w.heap.size w wr) (fun _ _ _ iv _ => l.length - (intOf iv).toNat)
  case atStart => exact ⟨0, 0, b, [], [], by omega, rfl, rfl, rfl, hinv, World.ownsRow_nil _ _ _ _, World.ownsRow_nil _ _ _ _, .inl rfl, X, hB⟩
  case round =>
    clear X hB hinv
    obtain ⟨k, now, lev, at_, got, hk, hak, rfl, rfl, inv, oA, oG, hap, X, hB⟩ := hrel
    by_cases hlt : k < l.length
    · obtain ⟨a', len', cap', hs, hs2, _, hwf, hc, _⟩ := hv'.out.below hB
      cases hs
      obtain ⟨bk, off, rfl, hcell⟩ := hc (by intro h; subst h; simp at hlt)
      have hx : l[k]? = some l[k] := List.getElem?_eq_getElem hlt
      obtain ⟨c0, c1⟩ := hcell k _ hx
      have wf := hwf _ (List.getElem_mem hlt)
      clear hcell hc hwf
      generalize l[k] = p at *
      obtain ⟨p1, p2⟩ := p
      dsimp only at c0 c1 wf
      have hX := Lib.hid X
      obtain ⟨x0, x1, x2, x3, f0, f1, f2, f3, hz⟩ := X
      have hKr : K < wr.heap.size := hz
      have hadd : now ≤ add now p1 ∧ add now p1 ≤ 1099511627776 := by
        have h0 := of_decide_eq_true inv.ok
        have h1 := nr_bd (nr now + nr p1)
        have h2 := nr_bd p1
        have h3 : nr now = now := nr_in h0.2.2.2.1.1 h0.2.2.2.1.2
        refine ⟨?_, h1.2⟩
        unfold add
        have h4 := h0.2.2.2.1
        rw [h3]
        by_cases z : 1099511627776 < now + nr p1
        · rw [nr_top z]; omega
        · rw [nr_in (by omega) (by omega)]; omega
      have hT := Lib.hid (take_at (n := p2) inv.ok hadd.1 hadd.2).1
      have hK0 := (take_at (n := p2) inv.ok hadd.1 hadd.2).2.2.1
      have hK1 := takeK_max (r := r) (b := b) (l := lev) (t := now) (now := add now p1) (n := p2)
      have hinv := Lib.hid (inv_step (n := p2) inv hadd.1 hadd.2)
      have hKm : takeK r b lev now (add now p1) p2 ≤ if p2 < 0 then 0 else p2 := by
        rcases hK1 with h | h
        · exact h
        · exact absurd inv.ok (by rw [h]; decide)
      clear hK1
      go_wp2_with (go_at_call 21; (with_reducible refine (Ref01.add_any now p1 _).mono ?_); rintro e wn ⟨rfl, rfl⟩)
      refine (take_any r b lev now (add now p1) p2 _).mono ?_
      rintro e w2 ⟨rfl, hb2⟩
      rw [hT.out]
      generalize takeK r b lev now (add now p1) p2 = n at *
      generalize takeL r b lev now (add now p1) p2 = L at *
      generalize add now p1 = nw at *
      have hb3 := ((Below.refl wr.heap.size wr).alloc (Nat.le_refl _) (.cells #[.int .i64 p1, .int .i64 p2] 46)).trans (hb2.mono (by simp))
      have s1 : w2.cell? ⟨wr.heap.size, 1, none⟩ = some (.int .i64 p2) := by
        refine (hb2.cell (p := ⟨wr.heap.size, 1, none⟩) (by simp)).trans ?_
        have := heap_alloc_new wr (.cells #[.int .i64 p1, .int .i64 p2] 46)
        unfold World.cell?; rw [this]; rfl
      have hX2 := Lib.hid (hX.out.below hb3)
      have oA2 := row_below oA hb3
      have oG2 := row_below oG hb3
      have hB2 := hB.trans (hb3.mono hB.size)
      clear hX hb2 hb3 oA oG hB x0 x1 x2 x3 f0 f1 f2 f3 hz
      obtain ⟨x0, x1, x2, x3, f0, f1, f2, f3, hz⟩ := hX2.out
      have hlt3 : K < w2.heap.size := hz
      have hwS : wr.heap.size < w2.heap.size := World.block_lt_of_cell? w2 _ s1
      go_upto_region 12 with (fail)
      change Code.wp _ _ _ _ ((Cls.put4 w2 K (.int .i64 r) (.int .i64 b) (.int .i64 L) (.int .i64 nw)).alloc (.cells #[.int .i64 r, .int .i64 b, .int .i64 L, .int .i64 nw] 24))
      have hg := grown_put4 w2 K (.int .i64 r) (.int .i64 b) (.int .i64 L) (.int .i64 nw)
      have X3 := Lib.hid ((hX2.out.put (.int .i64 r) (.int .i64 b) (.int .i64 L) (.int .i64 nw)).old (.cells #[.int .i64 r, .int .i64 b, .int .i64 L, .int .i64 nw] 24))
      have oA3 := (oA2.kept hg (by
        cases e : Value.ownBlock _ with
        | none => exact .inl rfl
        | some j => right; intro h; cases h; have := (oA2.lt _ e).1; omega)).alloc (.cells #[.int .i64 r, .int .i64 b, .int .i64 L, .int .i64 nw] 24)
      have oG3 := (oG2.kept hg (by
        cases e : Value.ownBlock _ with
        | none => exact .inl rfl
        | some j => right; intro h; cases h; have := (oG2.lt _ e).1; omega)).alloc (.cells #[.int .i64 r, .int .i64 b, .int .i64 L, .int .i64 nw] 24)
      have hne : wr.heap.size ≠ K := by omega
      have s3 : ((Cls.put4 w2 K (.int .i64 r) (.int .i64 b) (.int .i64 L) (.int .i64 nw)).alloc (.cells #[.int .i64 r, .int .i64 b, .int .i64 L, .int .i64 nw] 24)).cell? ⟨wr.heap.size, 1, none⟩ = some (.int .i64 p2) := by
        rw [World.cell?_of_block (a := ⟨wr.heap.size, 1, none⟩) (Below.heap_alloc (Cls.put4 w2 K (.int .i64 r) (.int .i64 b) (.int .i64 L) (.int .i64 nw)) _ _ (Nat.lt_of_lt_of_le hwS hg.size))]
        exact (World.cell?_of_block (a := ⟨wr.heap.size, 1, none⟩) (hg.block _ hwS (by intro h; exact hne (Option.some.inj h)))).trans s1
      have hB3 := (Cls.below_put4 hB2 hle (.int .i64 r) (.int .i64 b) (.int .i64 L) (.int .i64 nw)).alloc (Nat.le_trans hB2.size hg.size) (.cells #[.int .i64 r, .int .i64 b, .int .i64 L, .int .i64 nw] 24)
      have hsz3 : K < ((Cls.put4 w2 K (.int .i64 r) (.int .i64 b) (.int .i64 L) (.int .i64 nw)).alloc (.cells #[.int .i64 r, .int .i64 b, .int .i64 L, .int .i64 nw] 24)).heap.size := Nat.lt_of_lt_of_le hz (Nat.le_trans hg.size (by simp))
      generalize (Cls.put4 w2 K (.int .i64 r) (.int .i64 b) (.int .i64 L) (.int .i64 nw)).alloc (.cells #[.int .i64 r, .int .i64 b, .int .i64 L, .int .i64 nw] 24) = w3 at *
      clear hg oA2 oG2 hB2 hX2 s1 x0 x1 x2 x3 f0 f1 f2 f3 hz
      have d1 : decide (n < 0) = false := decide_eq_false (by omega)
      have d2 : decide ((if p2 < 0 then 0 else p2) < n) = false := decide_eq_false (by omega)
      have hin := Lib.hid inv
      have hl1 := Lib.hid inv.len
      clear inv
      by_cases hp : p2 < 0
      · rw [if_pos hp] at d2 hKm
        go_wp2_with (first
          | (at_builtin; refine wpList_append_own_at _ rfl _ _ 44 rfl (K + 1) 3 i0 (.int .i64 0) 1 8 Try.underlying44 hi hz0 hz1 hz2 rfl (by decide) _ _ _ rfl (oA3.alloc _) ⟨w3.heap.size, 0, none⟩ 1 1 [.int .i64 nw] rfl rfl (cell_one_new _ _ _) (by simp [Value.oneCell']) (by unfold maxLen; omega) (by omega) (by simp; omega) ?_
             intro vA w4 oA4 gA _ pA
             have oG4 := (oG3.alloc (.cells #[.int .i64 nw] 3)).kept gA hap.symm
             have X4 := Lib.hid (box_grown (X3.out.old (.cells #[.int .i64 nw] 3)) gA (fun c => by have := (oA3.lt _ c.symm).1; omega))
             have hB4 := (hB3.alloc hB3.size (.cells #[.int .i64 nw] 3)).grown gA (by have := hB3.size; simp; omega) (fun j c => by have := (oA3.lt _ c).1; omega)
             have ap4 := Lib.hid (hap.grow pA (fun j c => (oG3.alloc (.cells #[.int .i64 nw] 3)).lt _ c |>.2))
             have hs4 := gA.size
             clear gA oA3 oG3 X3 hB3 pA)
          | (at_builtin; refine wpList_append_own_at _ rfl _ _ 44 rfl (K + 1) 3 i0 (.int .i64 0) 1 8 Try.underlying44 hi hz0 hz1 hz2 rfl (by decide) _ _ _ rfl (oG4.alloc _) ⟨w4.heap.size, 0, none⟩ 1 1 [.int .i64 n] rfl rfl (cell_one_new _ _ _) (by simp [Value.oneCell']) (by unfold maxLen; omega) (by omega) (by have h1 := hs4; rw [World.size_alloc] at h1 ⊢; omega) ?_
             intro vG w5 oG5 gG _ pG
             have oA5 := (oA4.alloc (.cells #[.int .i64 n] 3)).kept gG ap4.out
             have X5 := Lib.hid (box_grown (X4.out.old (.cells #[.int .i64 n] 3)) gG (fun c => by have := (oG4.lt _ c.symm).1; omega))
             have hB5 := (hB4.alloc hB4.size (.cells #[.int .i64 n] 3)).grown gG (by have := hB4.size; simp; omega) (fun j c => by have := (oG4.lt _ c).1; omega)
             have ap5 := Lib.hid ((ap4.out.symm.grow pG (fun j c => (oA4.alloc (.cells #[.int .i64 n] 3)).lt _ c |>.2)).symm)
             clear gG oA4 oG4 X4 hB4 pG))
        go_roundw
        case rel => exact ⟨k + 1, nw, L, at_ ++ [nw], got ++ [n], by omega, by simp [hak], by go_num, rfl, hinv.out, by simpa [ints] using oA5, by simpa [ints] using oG5, ap5.out, X5.out, hB5⟩
        case measure => simp [intOf]; omega
      · rw [if_neg hp] at d2 hKm
        go_wp2_with (first
          | (at_builtin; refine wpList_append_own_at _ rfl _ _ 44 rfl (K + 1) 3 i0 (.int .i64 0) 1 8 Try.underlying44 hi hz0 hz1 hz2 rfl (by decide) _ _ _ rfl (oA3.alloc _) ⟨w3.heap.size, 0, none⟩ 1 1 [.int .i64 nw] rfl rfl (cell_one_new _ _ _) (by simp [Value.oneCell']) (by unfold maxLen; omega) (by omega) (by simp; omega) ?_
             intro vA w4 oA4 gA _ pA
             have oG4 := (oG3.alloc (.cells #[.int .i64 nw] 3)).kept gA hap.symm
             have X4 := Lib.hid (box_grown (X3.out.old (.cells #[.int .i64 nw] 3)) gA (fun c => by have := (oA3.lt _ c.symm).1; omega))
             have hB4 := (hB3.alloc hB3.size (.cells #[.int .i64 nw] 3)).grown gA (by have := hB3.size; simp; omega) (fun j c => by have := (oA3.lt _ c).1; omega)
             have ap4 := Lib.hid (hap.grow pA (fun j c => (oG3.alloc (.cells #[.int .i64 nw] 3)).lt _ c |>.2))
             have hs4 := gA.size
             clear gA oA3 oG3 X3 hB3 pA)
          | (at_builtin; refine wpList_append_own_at _ rfl _ _ 44 rfl (K + 1) 3 i0 (.int .i64 0) 1 8 Try.underlying44 hi hz0 hz1 hz2 rfl (by decide) _ _ _ rfl (oG4.alloc _) ⟨w4.heap.size, 0, none⟩ 1 1 [.int .i64 n] rfl rfl (cell_one_new _ _ _) (by simp [Value.oneCell']) (by unfold maxLen; omega) (by omega) (by have h1 := hs4; rw [World.size_alloc] at h1 ⊢; omega) ?_
             intro vG w5 oG5 gG _ pG
             have oA5 := (oA4.alloc (.cells #[.int .i64 n] 3)).kept gG ap4.out
             have X5 := Lib.hid (box_grown (X4.out.old (.cells #[.int .i64 n] 3)) gG (fun c => by have := (oG4.lt _ c.symm).1; omega))
             have hB5 := (hB4.alloc hB4.size (.cells #[.int .i64 n] 3)).grown gG (by have := hB4.size; simp; omega) (fun j c => by have := (oG4.lt _ c).1; omega)
             have ap5 := Lib.hid ((ap4.out.symm.grow pG (fun j c => (oA4.alloc (.cells #[.int .i64 n] 3)).lt _ c |>.2)).symm)
             clear gG oA4 oG4 X4 hB4 pG))
        go_roundw
        case rel => exact ⟨k + 1, nw, L, at_ ++ [nw], got ++ [n], by omega, by simp [hak], by go_num, rfl, hinv.out, by simpa [ints] using oA5, by simpa [ints] using oG5, ap5.out, X5.out, hB5⟩
        case measure => simp [intOf]; omega
    · obtain rfl : k = l.length := by omega
      have wf1 : ∀ x ∈ at_, (Lit.int .i64 x).wf = true := fun x hx => by
        have := inv.ticks x hx
        have h0 := (of_decide_eq_true inv.ok).2.2.2.1
        simp [Lit.wf, IntKind.min, IntKind.max, IntKind.signed, IntKind.bits]; omega
      have wf2 : ∀ x ∈ got, (Lit.int .i64 x).wf = true := fun x hx => by
        have := inv.bd x hx
        simp [Lit.wf, IntKind.min, IntKind.max, IntKind.signed, IntKind.bits]; omega
      have hgl : got.length = l.length := by rw [← inv.len]; exact hak
      have nA : Nums wr _ at_ := nums_of_owns oA wf1 (by omega)
      have nG : Nums wr _ got := nums_of_owns oG wf2 (by omega)
      have hin := Lib.hid inv
      have hov := (of_decide_eq_true inv.ok)
      have br := hov.1
      have bb := hov.2.1
      have hwin := Lib.hid inv.win
      have htk := Lib.hid inv.ticks
      have hnow := hov.2.2.2.1
      clear inv oA oG hap X wf1 wf2 hv' hov
      generalize wr = W1 at *
      obtain ⟨aA, lA, cA, hsA, hlA, _, _, hcA, _⟩ := nA
      obtain ⟨aG, lG, cG, hsG, hlG, _, _, hcG, _⟩ := nG
      obtain rfl : lA = l.length := by omega
      obtain rfl : lG = l.length := by omega
      clear hlA hlG
      subst hsA
      subst hsG
      go_wp2
      go_loopw [72] (fun iv wi => ∃ i : Nat, i ≤ l.length ∧ iv = .int .i64 i ∧ Below W1.heap.size W1 wi) (fun iv _ => l.length - (intOf iv).toNat)
      case atStart => exact ⟨0, by omega, rfl, Below.refl _ _⟩
      case round =>
        obtain ⟨i, hi2, rfl, hbi⟩ := hrel
        by_cases hil : i < l.length
        · have hne : at_ ≠ [] := by intro h; subst h; simp at hak; omega
          have hne2 : got ≠ [] := by intro h; subst h; simp at hgl; omega
          obtain ⟨bA, oA, rfl, cellA⟩ := hcA hne
          obtain ⟨bG, oG, rfl, cellG⟩ := hcG hne2
          have hit : at_[i]? = some (at_[i]'(by omega)) := List.getElem?_eq_getElem (by omega)
          generalize at_[i]'(by omega) = t at hit
          have ci := cellA i t hit
          have hcA' := Lib.hid cellA
          have hcG' := Lib.hid cellG
          clear cellA cellG hcA hcG
          have hit' := Lib.hid hit
          clear hit
          go_wp2
          go_loopw [17, 18] (fun sv kv wk => ∃ k : Nat, i ≤ k ∧ k ≤ l.length ∧ kv = .int .i64 k ∧ sv = .int .i64 (Win.cap (total ((got.drop i).take (k - i)))) ∧ Below W1.heap.size W1 wk) (fun _ kv _ => l.length - (intOf kv).toNat)
          case atStart => exact ⟨i, Nat.le_refl _, by omega, rfl, by rw [Nat.sub_self]; rfl, hbi⟩
          case round =>
            obtain ⟨k, hik, hkn, rfl, rfl, hbk⟩ := hrel
            by_cases hkl : k < l.length
            · have hku : at_[k]? = some (at_[k]'(by omega)) := List.getElem?_eq_getElem (by omega)
              have hkg : got[k]? = some (got[k]'(by omega)) := List.getElem?_eq_getElem (by omega)
              generalize at_[k]'(by omega) = u at hku
              generalize got[k]'(by omega) = g at hkg
              have ck := hcA'.out k u hku
              have cg := hcG'.out k g hkg
              have zi := (hbk.cell (p := ⟨bA, oA + i, none⟩) (World.block_lt_of_cell? W1 _ ci)).trans ci
              have zk := (hbk.cell (p := ⟨bA, oA + k, none⟩) (World.block_lt_of_cell? W1 _ ck)).trans ck
              have zg := (hbk.cell (p := ⟨bG, oG + k, none⟩) (World.block_lt_of_cell? W1 _ cg)).trans cg
              have hw1 := hwin.out i k t u hit'.out hku hik
              have ht := htk.out t (List.mem_of_getElem? hit'.out)
              have hu := htk.out u (List.mem_of_getElem? hku)
              have hg := hin.out.bd g (List.mem_of_getElem? hkg)
              have hS : 0 ≤ total ((got.drop i).take (k - i)) := total_nonneg fun x hx => (hin.out.bd x (List.mem_of_mem_drop (List.mem_of_mem_take hx))).1
              have hnx := total_next hik hkg
              have hca := Lib.hid (cap_add hS hg)
              have hcl := cap_le (r := r) (b := b) (d := u - t) br bb ⟨by omega, by omega⟩ hw1.2
              rw [hnx] at hcl
              have hlast := Lib.hid hnx
              generalize total ((got.drop i).take (k - i)) = S at *
              have hsub : IntKind.i64.wrap (u - t) = u - t := by rw [IntKind.wrap_i64]; omega
              have hdec : decide (add b (mul r (u - t)) < Win.cap (S + g)) = false := decide_eq_false (by omega)
              clear ck cg hku hkg hw1 hnx hcl hS
              go_wp2_with fail
              refine (Ref01.add_any (Win.cap S) g _).mono ?_
              rintro e wn ⟨rfl, rfl⟩
              rw [hca.out]
              generalize hcS : Win.cap (S + g) = c2 at *
              have hcS' := Lib.hid hcS
              clear hcS hca
              go_wp2
              refine Cls.region (fun w' => Below wr.heap.size wr w') (by kernel_rfl) (by kernel_rfl) (Below.refl _ _).drew ?_
              refine Cls.value ?_ rfl (fun w' hw' => ?_) ?_
              rotate_left
              · go_simp; rfl
              simp only [Act.put, List.setIfInBounds_toArray, List.set_cons_zero, List.set_cons_succ]
              refine Cls.value ?_ rfl (fun w' hw' => ?_) ?_
              rotate_left
              · go_simp; rfl
              simp only [Act.put, List.setIfInBounds_toArray, List.set_cons_zero, List.set_cons_succ]
              refine Cls.value ?_ rfl (fun w' hw' => ?_) ?_
              rotate_left
              · go_simp; rfl
              simp only [Act.put, List.setIfInBounds_toArray, List.set_cons_zero, List.set_cons_succ]
              refine Cls.value ?_ rfl (fun w' hw' => ?_) ?_
              rotate_left
              · go_simp; rfl
              simp only [Act.put, List.setIfInBounds_toArray, List.set_cons_zero, List.set_cons_succ]
              refine Cls.value ?_ rfl (fun w' hw' => ?_) ?_
              rotate_left
              · go_simp; rfl
              simp only [Act.put, List.setIfInBounds_toArray, List.set_cons_zero, List.set_cons_succ]
              refine Cls.value ?_ rfl (fun w' hw' => ?_) ?_
              rotate_left
              · go_simp; rfl
              simp only [Act.put, List.setIfInBounds_toArray, List.set_cons_zero, List.set_cons_succ]
              refine Cls.value ?_ rfl (fun w' hw' => ?_) ?_
              rotate_left
              · have q := (hw'.cell (p := ⟨bA, oA + k, none⟩) (World.block_lt_of_cell? wr _ zk)).trans zk; go_simp; rfl
              simp only [Act.put, List.setIfInBounds_toArray, List.set_cons_zero, List.set_cons_succ]
              refine Cls.value ?_ rfl (fun w' hw' => ?_) ?_
              rotate_left
              · go_simp; rfl
              simp only [Act.put, List.setIfInBounds_toArray, List.set_cons_zero, List.set_cons_succ]
              refine Cls.value ?_ rfl (fun w' hw' => ?_) ?_
              rotate_left
              · go_simp; rfl
              simp only [Act.put, List.setIfInBounds_toArray, List.set_cons_zero, List.set_cons_succ]
              refine Cls.value ?_ rfl (fun w' hw' => ?_) ?_
              rotate_left
              · go_simp; rfl
              simp only [Act.put, List.setIfInBounds_toArray, List.set_cons_zero, List.set_cons_succ]
              refine Cls.value ?_ rfl (fun w' hw' => ?_) ?_
              rotate_left
              · have q := (hw'.cell (p := ⟨bA, oA + i, none⟩) (World.block_lt_of_cell? wr _ zi)).trans zi; go_simp; rfl
              simp only [Act.put, List.setIfInBounds_toArray, List.set_cons_zero, List.set_cons_succ]
              refine Cls.value ?_ rfl (fun w' hw' => ?_) ?_
              rotate_left
              · go_simp; rfl
              simp only [Act.put, List.setIfInBounds_toArray, List.set_cons_zero, List.set_cons_succ]
              refine Cls.call 22 #[.int .i64 r, .int .i64 (u - t)] (.int .i64 (mul r (u - t))) rfl (fun w' => ?_) (fun w' hw' => (Ref01.mul_any r (u - t) w').mono ?_) ?_
              · go_simp
              · rintro e w'' ⟨rfl, hb⟩; exact ⟨rfl, hw'.trans (hb.mono hw'.size)⟩
              simp only [Act.put, List.setIfInBounds_toArray, List.set_cons_zero, List.set_cons_succ]
              refine Cls.call 21 #[.int .i64 b, .int .i64 (mul r (u - t))] (.int .i64 (add b (mul r (u - t)))) rfl (fun w' => ?_) (fun w' hw' => (Ref01.add_any b (mul r (u - t)) w').mono ?_) ?_
              · go_simp
              · rintro e w'' ⟨rfl, rfl⟩; exact ⟨rfl, hw'⟩
              simp only [Act.put, List.setIfInBounds_toArray, List.set_cons_zero, List.set_cons_succ]
              refine Cls.value ?_ rfl (fun w' hw' => ?_) ?_
              rotate_left
              · go_simp; rfl
              simp only [Act.put, List.setIfInBounds_toArray, List.set_cons_zero, List.set_cons_succ]
              refine Cls.done fun w' hw' => ?_
              have hbw := hbk.trans (hw'.mono hbk.size)
              go_wp2
              go_roundw
              case rel => exact ⟨k + 1, by omega, by omega, by go_num, by rw [hlast.out, hcS'.out], hbw⟩
              case measure => simp [intOf]; omega
            · go_wp2
              go_roundw
              case rel => exact ⟨i + 1, by omega, by go_num, hbk⟩
              case measure => simp [intOf]; omega
        · go_wp2_with fail
          refine (alive_any _).mono ?_
          rintro e w2 ⟨rfl, hb2⟩
          go_wp2
          go_ret
          have hb3 := hB.trans (hbi.mono hB.size)
          exact ⟨by simp, hb3.trans (hb2.mono hb3.size)⟩
theorem windows_any (r b : Int) (v : Value) (l : List (Int × Int)) (w : World) (hv : Pairs w v l) :
    Calls Try.prog 4 #[.int .i64 r, .int .i64 b, v] w fun e w' => e = .returned (.bool true) ∧ Below w.heap.size w w' := by
  cases h : okB r b b 0 with
  | false => exact win_bad r b v l w hv h
  | true =>
    by_cases hl : 60 < l.length
    · exact win_long r b v l w hv h hl
    · exact win_few r b v l w hv h (by omega)
end Go.Proofs.Ytdooeeklpinhfaa.Win
