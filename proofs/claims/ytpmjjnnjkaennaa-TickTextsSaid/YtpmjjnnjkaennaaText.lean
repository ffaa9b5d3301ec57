/- tick.Text in general. Conditions: the numbers are of their kinds. -/
import Derived.Test.YtpmjjnnjkaennaaTickB
namespace Go.Proofs.Ytpmjjnnjkaennaa.Tick
open Go.RowKit
set_option maxRecDepth 100000
set_option linter.unusedVariables false
set_option linter.unusedSimpArgs false

def txt : Nat → Int → ByteArray
  | 0, n => digit n
  | f + 1, n => if n < 10 then digit n else txt f (n / 10) ++ digit (n % 10)
theorem digit_size {n : Int} (h0 : 0 ≤ n) (h1 : n < 10) : (digit n).size = 1 := by
  have : n = 0 ∨ n = 1 ∨ n = 2 ∨ n = 3 ∨ n = 4 ∨ n = 5 ∨ n = 6 ∨ n = 7 ∨ n = 8 ∨ n = 9 := by omega
  rcases this with rfl | rfl | rfl | rfl | rfl | rfl | rfl | rfl | rfl | rfl <;> decide
theorem txt_size : ∀ (f : Nat) (n : Int), 0 ≤ n → n < 10 ^ (f + 1) → 1 ≤ (txt f n).size ∧ (txt f n).size ≤ f + 1
  | 0, n, h0, h1 => by rw [txt, digit_size h0 (by simpa using h1)]; omega
  | f + 1, n, h0, h1 => by
    unfold txt
    by_cases h : n < 10
    · rw [if_pos h, digit_size h0 h]; omega
    · rw [if_neg h, ByteArray.size_append, digit_size (by omega) (by omega)]
      have hp : (10 : Int) ^ (f + 1 + 1) = 10 ^ (f + 1) * 10 := Int.pow_succ ..
      have := txt_size f (n / 10) (by omega) (by omega)
      omega
theorem text_low (n : Int) (w : World) (h1 : nr n < 10) :
    Calls Try.prog 16 #[.int .i64 n] w fun e w' => e = .returned (.string (digit (nr n))) ∧ w = w' := by
  have hb := nr_bd n
  have hd : decide (nr n < 10) = true := decide_eq_true h1
  go_enter Try.func16, Try.ntmps16
  go_wp2_with fail
  refine (near_any n _).mono ?_
  rintro e1 w1 ⟨rfl, rfl⟩
  generalize hm : nr n = m at *
  have hm' := Lib.hid hm
  clear hm
  go_wp2
  go_ret
  exact ⟨by rw [hm'.out]; rfl, rfl⟩
theorem text_gen : ∀ (f : Nat) (n : Int) (w : World), nr n < 10 ^ (f + 1) → f ≤ 20 →
    Calls Try.prog 16 #[.int .i64 n] w fun e w' => e = .returned (.string (txt f (nr n))) ∧ w = w'
  | 0, n, w, h1, h3 => text_low n w (by simpa using h1)
  | f + 1, n, w, h1, h3 => by
    have hb := nr_bd n
    by_cases h : nr n < 10
    · have := text_low n w h
      unfold txt
      rw [if_pos h]
      exact this
    · have hp : (10 : Int) ^ (f + 1 + 1) = 10 ^ (f + 1) * 10 := Int.pow_succ ..
      have hd : decide (nr n < 10) = false := decide_eq_false h
      have e1 : nr (nr n / 10) = nr n / 10 := nr_in (by omega) (by omega)
      have e2 : nr (nr n % 10) = nr n % 10 := nr_in (by omega) (by omega)
      have ih := Lib.hid (fun W => text_gen f (nr n / 10) W (by rw [e1]; omega) (by omega))
      have il := Lib.hid (fun W => text_low (nr n % 10) W (by rw [e2]; omega))
      rw [e1] at ih
      rw [e2] at il
      have s1 := txt_size f (nr n / 10) (by omega) (by omega)
      have s2 := digit_size (n := nr n % 10) (by omega) (by omega)
      have ht := Lib.hid (show txt (f + 1) (nr n) = txt f (nr n / 10) ++ digit (nr n % 10) by rw [txt, if_neg h])
      clear h1 hp e1 e2
      go_enter Try.func16, Try.ntmps16
      go_wp2_with fail
      refine (near_any n _).mono ?_
      rintro e1 w1 ⟨rfl, rfl⟩
      generalize hm : nr n = m at *
      have hm' := Lib.hid hm
      clear hm
      go_wp2_with fail
      refine (ih.out _).mono ?_
      rintro e1 w1 ⟨rfl, rfl⟩
      go_wp2_with fail
      refine (il.out _).mono ?_
      rintro e1 w1 ⟨rfl, rfl⟩
      generalize txt f (m / 10) = A at *
      generalize digit (m % 10) = B at *
      go_wp2
      go_ret
      exact ⟨by rw [hm'.out, ht.out]; rfl, rfl⟩
/-- a number's text. -/
def text (n : Int) : ByteArray := txt 12 (nr n)
theorem text_any (n : Int) (w : World) :
    Calls Try.prog 16 #[.int .i64 n] w fun e w' => e = .returned (.string (text n)) ∧ w = w' :=
  text_gen 12 n w (by have := nr_bd n
                      have h : (10 : Int) ^ (12 + 1) = 10000000000000 := by decide
                      omega) (by decide)
end Go.Proofs.Ytpmjjnnjkaennaa.Tick
