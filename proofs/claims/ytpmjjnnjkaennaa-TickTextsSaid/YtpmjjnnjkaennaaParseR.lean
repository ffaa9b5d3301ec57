/- The reference's Parse. Conditions: the numbers are of their kinds. -/
import Derived.Test.YtpmjjnnjkaennaaTextR
namespace Go.Proofs.Ytpmjjnnjkaennaa.Ref01
open Go.RowKit Tick
set_option maxRecDepth 100000
set_option linter.unusedVariables false
set_option linter.unusedSimpArgs false

/-- the digits of some bytes, as a number. -/
def num : Int → List UInt8 → Int
  | n, [] => n
  | n, c :: l => num (if 48 ≤ c.toNat ∧ c.toNat ≤ 57 then n * 10 + c.toNat - 48 else n) l
theorem num_snoc (l : List UInt8) (c : UInt8) : ∀ n, num n (l ++ [c]) = if 48 ≤ c.toNat ∧ c.toNat ≤ 57 then num n l * 10 + c.toNat - 48 else num n l := by
  induction l with
  | nil => intro n; rfl
  | cons d l ih => intro n; exact ih _
theorem ten_le : ∀ m : Fin 15, (10 : Int) ^ m.1 ≤ 100000000000000 := by decide
theorem num_lt : ∀ (l : List UInt8) (n : Int), 0 ≤ n → 0 ≤ num n l ∧ num n l < (n + 1) * 10 ^ l.length
  | [], n, h => by simp [num]; omega
  | c :: l, n, h => by
    have hp : (0 : Int) < 10 ^ l.length := Int.pow_pos (by decide)
    have hq : (10 : Int) ^ (l.length + 1) = 10 * 10 ^ l.length := by rw [Int.pow_succ, Int.mul_comm]
    have key : ∀ m : Int, 0 ≤ m → m + 1 ≤ (n + 1) * 10 → 0 ≤ num m l ∧ num m l < (n + 1) * (10 * 10 ^ l.length) := fun m h0 h1 => by
      have h2 := num_lt l m h0
      have h3 := Int.mul_le_mul_of_nonneg_right h1 (Int.le_of_lt hp)
      rw [Int.mul_assoc] at h3
      exact ⟨h2.1, Int.lt_of_lt_of_le h2.2 h3⟩
    show 0 ≤ num _ l ∧ num _ l < (n + 1) * 10 ^ (l.length + 1)
    rw [hq]
    split
    · exact key _ (by omega) (by omega)
    · exact key _ h (by omega)
def pv (s : ByteArray) : Int := num 0 (s.data.toList.take 14)
theorem pv_bd (s : ByteArray) : 0 ≤ pv s ∧ pv s < 100000000000000 := by
  have h := num_lt (s.data.toList.take 14) 0 (by decide)
  have h2 : (s.data.toList.take 14).length ≤ 14 := by rw [List.length_take]; omega
  have h3 := ten_le ⟨(s.data.toList.take 14).length, by omega⟩
  dsimp only at h3
  unfold pv
  omega
def okP (s : ByteArray) : Bool := decide (pv s ≤ 1099511627776) && ((text (pv s)).toList == s.toList)
def outN (s : ByteArray) : Int := if okP s then pv s else 0
def outE (s : ByteArray) : Int := if okP s then 0 else 10

set_option maxHeartbeats 1000000 in
theorem parse_any (s : ByteArray) (w : World) (hs : s.size ≤ 140737488351232) :
    Calls Try.prog 15 #[.string s] w fun e w' => e = .returned (.tuple #[.int .i64 (outN s), .int .i64 (outE s)]) ∧ w = w' := by
  go_enter Try.func15, Try.ntmps15
  go_wp2
  go_loop [4, 5] (fun nv iv => ∃ k : Nat, k ≤ s.size ∧ k ≤ 14 ∧ iv = .int .i64 k ∧ nv = .int .i64 (num 0 (s.data.toList.take k))) (fun _ iv => 14 - (intOf iv).toNat)
  case atStart => exact ⟨0, by omega, by omega, rfl, rfl⟩
  case round =>
    obtain ⟨k, hk, hk2, rfl, rfl⟩ := hrel
    by_cases hlt : k < s.size ∧ k < 14
    · obtain ⟨h1, h2⟩ := hlt
      have hx : s.data.toList[k]? = some s[k] := by
        rw [Array.getElem?_toList]; exact Array.getElem?_eq_getElem h1
      have htake : s.data.toList.take (k + 1) = s.data.toList.take k ++ [s[k]] := by rw [List.take_add_one, hx]; rfl
      have hst := Lib.hid (show num 0 (s.data.toList.take (k + 1)) = _ by rw [htake, num_snoc])
      have hb := num_lt (s.data.toList.take k) 0 (by decide)
      have hb2 : num 0 (s.data.toList.take k) < 100000000000000 := by
        have h2 : (s.data.toList.take k).length ≤ 14 := by rw [List.length_take]; omega
        have h3 := ten_le ⟨(s.data.toList.take k).length, by omega⟩
        dsimp only at h3
        omega
      have hb1 := hb.1
      clear hb hx htake
      generalize num 0 (s.data.toList.take k) = v at *
      by_cases d1 : 48 ≤ (s[k].toNat : Int)
      · by_cases d2 : (s[k].toNat : Int) ≤ 57
        · have hst' := Lib.hid (hst.out.trans (if_pos ⟨by omega, by omega⟩))
          clear hst
          go_wp2
          go_round
          case rel => exact ⟨k + 1, by omega, by omega, by go_num, by rw [hst'.out]⟩
          case measure => simp [intOf]; omega
        · have hst' := Lib.hid (hst.out.trans (if_neg (by omega)))
          clear hst
          go_wp2
          go_round
          case rel => exact ⟨k + 1, by omega, by omega, by go_num, by rw [hst'.out]⟩
          case measure => simp [intOf]; omega
      · have hst' := Lib.hid (hst.out.trans (if_neg (by omega)))
        clear hst
        go_wp2
        go_round
        case rel => exact ⟨k + 1, by omega, by omega, by go_num, by rw [hst'.out]⟩
        case measure => simp [intOf]; omega
    · have hp : num 0 (s.data.toList.take k) = pv s := by
        unfold pv
        by_cases h : k < 14
        · have hsz : s.data.toList.length = s.size := by simp
          rw [List.take_of_length_le (by omega), List.take_of_length_le (by omega)]
        · rw [show k = 14 by omega]
      rw [hp]
      have pb := pv_bd s
      have hin : ¬ k < s.size ∨ (k = 14 ∧ 14 < s.size) := by omega
      by_cases ht : 1099511627776 < pv s
      · have hk0 : okP s = false := by unfold okP; rw [show decide (pv s ≤ 1099511627776) = false from decide_eq_false (by omega)]; rfl
        have e1 := Lib.hid (show outN s = 0 by unfold outN; rw [hk0]; rfl)
        have e2 := Lib.hid (show outE s = 10 by unfold outE; rw [hk0]; rfl)
        clear hk0 hp hlt
        rcases hin with h | ⟨rfl, h⟩
        all_goals
          go_wp2_with (go_at_call 32; (with_reducible refine (top_any _).mono ?_); rintro e w' ⟨rfl, rfl⟩)
          go_ret2
          exact ⟨by rw [e1.out, e2.out]; rfl, rfl⟩
      · cases heq : ((text (pv s)).toList == s.toList) with
        | true =>
          have hk0 : okP s = true := by unfold okP; rw [show decide (pv s ≤ 1099511627776) = true from decide_eq_true (by omega), heq]; rfl
          have e1 := Lib.hid (show outN s = pv s by unfold outN; rw [hk0]; rfl)
          have e2 := Lib.hid (show outE s = 0 by unfold outE; rw [hk0]; rfl)
          clear hk0 hp hlt
          rcases hin with h | ⟨rfl, h⟩
          all_goals
            go_wp2_with (first
              | (go_at_call 32; (with_reducible refine (top_any _).mono ?_); rintro e w' ⟨rfl, rfl⟩)
              | (go_at_call 17; (with_reducible refine (text_any _ _).mono ?_); rintro e w' ⟨rfl, rfl⟩))
            go_ret2
            exact ⟨by rw [e1.out, e2.out]; rfl, rfl⟩
        | false =>
          have hk0 : okP s = false := by unfold okP; rw [heq]; simp
          have e1 := Lib.hid (show outN s = 0 by unfold outN; rw [hk0]; rfl)
          have e2 := Lib.hid (show outE s = 10 by unfold outE; rw [hk0]; rfl)
          clear hk0 hp hlt
          rcases hin with h | ⟨rfl, h⟩
          all_goals
            go_wp2_with (first
              | (go_at_call 32; (with_reducible refine (top_any _).mono ?_); rintro e w' ⟨rfl, rfl⟩)
              | (go_at_call 17; (with_reducible refine (text_any _ _).mono ?_); rintro e w' ⟨rfl, rfl⟩))
            go_ret2
            exact ⟨by rw [e1.out, e2.out]; rfl, rfl⟩
end Go.Proofs.Ytpmjjnnjkaennaa.Ref01
