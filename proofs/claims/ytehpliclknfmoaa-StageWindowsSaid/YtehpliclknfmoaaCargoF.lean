/- Cargo (chapter 07): Put. Conditions: the bytes are fewer than 2^46. -/
import Derived.Test.YtehpliclknfmoaaCargoE
import Derived.Laws.Cover2
namespace Go.Proofs.Ytehpliclknfmoaa.Cargo
open Go.RowKit Mem Tick
open Go.Proofs.YtehpliclknfmoaaW.PrintWords (QRow q_slice q_cells q_max q_append q_drop q_move q_typed q_lt q_of_own add_at)
set_option maxRecDepth 100000
set_option linter.unusedVariables false
set_option linter.unusedSimpArgs false

theorem CG.last_ {w : World} {F : Nat → Prop} {b : Nat} {ps : List Pc} {last : Int} (h : CG w F b ps last) (x : Int) : CG (w.setCell ⟨b, 1, none⟩ (.int .i64 x)) F b ps x := by
  obtain ⟨v, hb, hq, hf⟩ := h
  refine ⟨v, hb.set_ 1 _, q_move hq fun k hk => Below.heap_setCell _ _ _ k ?_, hf⟩
  obtain ⟨_, cs, hc⟩ := q_typed hq k hk
  exact Blk.ne (t := 80) (t' := 78) hc hb (by decide)
theorem CG.drewN {w : World} {F : Nat → Prop} {b : Nat} {ps : List Pc} {last : Int} (h : CG w F b ps last) (n : Nat) : CG (w.drewN n) F b ps last := h.kept fun _ _ => rfl
/-- no bytes lie in a cargo's own block. -/
theorem CG.noBytes {w : World} {F : Nat → Prop} {b : Nat} {ps : List Pc} {last : Int} (h : CG w F b ps last) {o : Nat} {n : Int} : w.cell? ⟨b, o, none⟩ ≠ some (.int .u8 n) := by
  intro hx
  obtain ⟨A, c, hb, _⟩ := h.view
  rw [hb.cell o] at hx
  match o, hx with
  | 0, hx => simp at hx
  | 1, hx => simp at hx
  | o + 2, hx => simp at hx
def putAt (last at_ : Int) : Int := max (add at_ 0) last
def putLast (last at_ : Int) (s : ByteArray) : Int := if s.toList.isEmpty then last else putAt last at_
theorem put_some {w : World} {F : Nat → Prop} {b : Nat} {ps : List Pc} {last : Int} (at_ : Int) (A : Option Addr) (cap : Nat) (s : ByteArray) (h : CG w F b ps last) (hb : BS w A s) (hs : 0 < s.size) (ht : tot ps + s.size ≤ 4611686018427387904) (hn : ps.length ≤ 2000000000000) :
    Calls Try.prog 46 #[.pointer (some ⟨b, 0, none⟩), .int .i64 at_, .slice A s.size cap] w fun e w' => e = .returned (.int .i64 (putAt last at_)) ∧ ∃ F', CG w' F' b (addP ps (putAt last at_) s) (putAt last at_) ∧ Did F w w' ∧ Stem F F' w := by
  have H := Lib.hid h
  obtain ⟨A', cap', hb', hlc, hm, hA⟩ := h.view
  have c0 := hb'.cell 0
  have c1 := hb'.cell 1
  have f1 := hb'.free 1
  have hlt := hb'.lt
  simp at c0 c1
  have hcv : ∀ nq x, (convert 37 9 (.slice A s.size cap)).run Try.prog ((w.drewN nq).setCell ⟨b, 1, none⟩ x) = .ok (.string s) ((w.drewN nq).setCell ⟨b, 1, none⟩ x) := by
    intro nq x
    refine conv_bytes cap (hb.kept fun g ⟨o, hg⟩ hlt => Below.heap_setCell _ _ _ g ?_)
    rintro rfl
    obtain ⟨g, o', e, hc⟩ := hb hs
    rw [hg] at e
    injection e with e
    injection e with e1 e2
    subst e1 e2
    exact h.noBytes (hc 0 hs)
  clear h hA hb'
  have hb'' := Lib.hid hb
  clear hb
  go_enter Try.func46, Try.ntmps46
  go_wp2
  go_quiet ((go_at_call 23; exact Calls.quiet_of_same ((Tick.add_any at_ 0 _).mono fun e w' ⟨he, hw⟩ => ⟨he, hw.symm⟩)))
  go_wp2_with fail
  refine (add_any (max (add at_ 0) last) s ((H.out.drewN nq).last_ (max (add at_ 0) last)) ht hn).mono ?_
  rintro e w1 ⟨rfl, F', hC, hD, hS⟩
  have hQ := Lib.hid (show CG w1 F' b (addP ps (putAt last at_) s) (putAt last at_) ∧ Did F w w1 ∧ Stem F F' w from ⟨hC, (((Did.refl F w).drewN nq).setCell (.inl H.out.mine) _).trans (Stem.refl F w) hD, fun k hk => (hS k hk).imp_right fun d => by simpa [World.setCell] using d⟩)
  clear hC hD hS hcv
  go_wp2
  go_ret
  exact ⟨rfl, F', hQ.out⟩
theorem put_none {w : World} {F : Nat → Prop} {b : Nat} {ps : List Pc} {last : Int} (at_ : Int) (A : Option Addr) (cap : Nat) (h : CG w F b ps last) (hn : ps.length ≤ 2000000000000) :
    Calls Try.prog 46 #[.pointer (some ⟨b, 0, none⟩), .int .i64 at_, .slice A 0 cap] w fun e w' => e = .returned (.int .i64 (putAt last at_)) ∧ Below w.heap.size w w' := by
  have H := Lib.hid h
  obtain ⟨A', cap', hb', hlc, hm, hA⟩ := h.view
  have c0 := hb'.cell 0
  have c1 := hb'.cell 1
  have hlt := hb'.lt
  simp at c0 c1
  have hcv : ∀ nq, (convert 37 9 (.slice A 0 cap)).run Try.prog (w.drewN nq) = .ok (.string ⟨#[]⟩) (w.drewN nq) := fun nq => conv_bytes (s := ⟨#[]⟩) cap fun h => absurd h (by decide)
  clear h hA hb'
  go_enter Try.func46, Try.ntmps46
  go_wp2
  go_quiet ((go_at_call 23; exact Calls.quiet_of_same ((Tick.add_any at_ 0 _).mono fun e w' ⟨he, hw⟩ => ⟨he, hw.symm⟩)))
  go_wp2_with fail
  refine (add_none (max (add at_ 0) last) (H.out.drewN nq)).mono ?_
  rintro e w1 ⟨rfl, hB⟩
  have hB' := Lib.hid (show Below w.heap.size w w1 from ⟨hB.os, hB.tape, hB.output, hB.size, hB.block⟩)
  clear hB hcv
  go_wp2
  go_ret
  exact ⟨rfl, hB'.out⟩
theorem empty_of {s : ByteArray} (h : ¬ 0 < s.size) : s = ⟨#[]⟩ := by
  obtain ⟨d⟩ := s
  have h0 : d.size = 0 := by have : ¬ 0 < d.size := h; omega
  rw [Array.eq_empty_of_size_eq_zero h0]
theorem isEmpty_false {s : ByteArray} (h : 0 < s.size) : s.toList.isEmpty = false := by
  rw [ByteArray.toList_eq]
  obtain ⟨⟨l⟩⟩ := s
  cases l with
  | nil => exact absurd h (by decide)
  | cons _ _ => rfl
theorem isEmpty_size {s : ByteArray} : s.toList.isEmpty = decide (s.size = 0) := by
  by_cases h : 0 < s.size
  · rw [isEmpty_false h]; exact (decide_eq_false (by omega)).symm
  · rw [empty_of h, ByteArray.toList_eq]; rfl
theorem empty_yes : (⟨#[]⟩ : ByteArray).toList.isEmpty = true := by rw [ByteArray.toList_eq]; rfl
theorem put_any {w : World} {F : Nat → Prop} {b : Nat} {ps : List Pc} {last : Int} (at_ : Int) (A : Option Addr) (cap : Nat) (s : ByteArray) (h : CG w F b ps last) (hb : BS w A s) (ht : tot ps + s.size ≤ 4611686018427387904) (hn : ps.length ≤ 2000000000000) :
    Calls Try.prog 46 #[.pointer (some ⟨b, 0, none⟩), .int .i64 at_, .slice A s.size cap] w fun e w' => e = .returned (.int .i64 (putAt last at_)) ∧ ∃ F', CG w' F' b (addP ps (putAt last at_) s) (putLast last at_ s) ∧ Did F w w' ∧ Stem F F' w := by
  by_cases hs : 0 < s.size
  · have e : putLast last at_ s = putAt last at_ := by unfold putLast; rw [isEmpty_false hs]; rfl
    rw [e]
    exact put_some at_ A cap s h hb hs ht hn
  · obtain rfl := empty_of hs
    exact (put_none at_ A cap h hn).mono fun e w' ⟨he, hB⟩ => ⟨he, F, by unfold addP putLast; rw [if_pos empty_yes, if_pos empty_yes]; exact h.below hB, Did.of_below hB, Stem.refl _ _⟩
end Go.Proofs.Ytehpliclknfmoaa.Cargo
