/- The law TickTexts (chapter 01). Conditions: the numbers are of their kinds, the text is no longer than a text may be. -/
import Derived.Test.YtpmjjnnjkaennaaTexts
import Derived.Test.YtpmjjnnjkaennaaLaw01
namespace Go.Proofs.Ytpmjjnnjkaennaa.Law01
open Go.RowKit Tick
set_option maxRecDepth 100000
set_option linter.unusedVariables false
set_option linter.unusedSimpArgs false

theorem text_size (n : Int) : (text n).size ≤ 13 := by
  have hb := nr_bd n
  have h13 : (10 : Int) ^ (12 + 1) = 10000000000000 := by decide
  exact (txt_size 12 (nr n) hb.1 (by omega)).2
theorem tp_text (n : Int) : tpN (text n) = nr n ∧ tpE (text n) = 0 := by
  unfold tpN tpE
  rw [fin_text]
  exact ⟨rfl, rfl⟩
set_option maxHeartbeats 1000000 in
theorem texts_any (n : Int) (s : ByteArray) (w : World) (hs : s.size ≤ 140737488351232) :
    Calls Try.prog 4 #[.int .i64 n, .string s] w fun e w' => e = .returned (.bool true) ∧ Below w.heap.size w w' := by
  have hN := Lib.hid (parse_same s).1.symm
  have hE := Lib.hid (parse_same s).2.symm
  have tN := Lib.hid (tp_text n).1
  have tE := Lib.hid (tp_text n).2
  have hts := text_size n
  have key : ((tpE s == 0) = true ∧ ((text (tpN s)).toList == s.toList) = true) ∨ (tpE s == 0) = false := by
    cases h : fin s with
    | none => right; unfold tpE; rw [h]; rfl
    | some a =>
      left
      have ht := (ok_of_fin h).2.2
      have e1 : tpN s = a := by unfold tpN; rw [h]; rfl
      refine ⟨by unfold tpE; rw [h]; rfl, ?_⟩
      rw [e1, ht]
      simp
  have hp := Lib.hid (fun W => parse_gen s W hs)
  have hpt := Lib.hid (fun W => parse_gen (text n) W (by omega))
  have hpr := Lib.hid (fun W => Ref01.parse_any s W hs)
  generalize tpN s = N at *
  generalize tpE s = E at *
  rcases key with ⟨k1, k2⟩ | k1
  all_goals
    go_enter Try.func4, Try.ntmps4
    go_wp2_with fail
    refine (hp.out _).mono ?_
    rintro e w1 ⟨rfl, hb1⟩
    go_wp2_with fail
    refine (hpr.out _).mono ?_
    rintro e w2 ⟨rfl, rfl⟩
    rw [hN.out, hE.out]
    go_wp2_with fail
    refine (text_any n _).mono ?_
    rintro e w2 ⟨rfl, rfl⟩
    go_wp2_with fail
    refine (hpt.out _).mono ?_
    rintro e w3 ⟨rfl, hb3⟩
    rw [tN.out, tE.out]
    go_wp2_with (first
      | (go_at_call 11; (with_reducible refine (alive_any _).mono ?_); rintro e w4 ⟨rfl, hb4⟩)
      | (go_at_call 16; (with_reducible refine (text_any _ _).mono ?_); rintro e wn ⟨rfl, rfl⟩)
      | (go_at_call 17; (with_reducible refine (Ref01.text_any _ _).mono ?_); rintro e wn ⟨rfl, rfl⟩)
      | (go_at_call 13; (with_reducible refine (Ref01.near_any _ _).mono ?_); rintro e wn ⟨rfl, rfl⟩))
    all_goals go_ret
    all_goals have hb5 := hb1.trans (hb3.mono hb1.size)
    all_goals refine ⟨?_, hb5.trans (hb4.mono hb5.size)⟩
    all_goals first | rfl | (simp; done) | (simp_all; done)
end Go.Proofs.Ytpmjjnnjkaennaa.Law01
