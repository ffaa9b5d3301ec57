/- The reference's Text. Conditions: the numbers are of their kinds. -/
import Derived.Test.YtpmjjnnjkaennaaText
import Derived.Test.YtpmjjnnjkaennaaRef01
namespace Go.Proofs.Ytpmjjnnjkaennaa.Ref01
open Go.RowKit Tick
set_option maxRecDepth 100000
set_option linter.unusedVariables false
set_option linter.unusedSimpArgs false

def loopT : Nat → Int → ByteArray → ByteArray
  | 0, _, s => s
  | f + 1, m, s => if 0 < m ∨ s = ByteArray.empty then loopT f (m / 10) (digit (m % 10) ++ s) else s
theorem app_ne {m : Int} {s : ByteArray} (h0 : 0 ≤ m) (h1 : m < 10) : digit m ++ s ≠ ByteArray.empty := fun h => by
  have := congrArg ByteArray.size h
  rw [ByteArray.size_append, digit_size h0 h1] at this
  have h2 : ByteArray.empty.size = 0 := rfl
  omega
theorem loopT_zero {f : Nat} {s : ByteArray} (hs : s ≠ ByteArray.empty) : loopT f 0 s = s := by
  cases f with
  | zero => rfl
  | succ f => unfold loopT; rw [if_neg]; rintro (h | h); exact absurd h (by decide); exact hs h
theorem loopT_txt : ∀ (f : Nat) (m : Int) (s : ByteArray), 0 < m → m < 10 ^ (f + 1) → loopT (f + 1) m s = txt f m ++ s
  | 0, m, s, h0, h1 => by
    have h2 : m < 10 := by simpa using h1
    unfold loopT
    rw [if_pos (.inl h0)]
    unfold loopT txt
    rw [show m % 10 = m by omega]
  | f + 1, m, s, h0, h1 => by
    unfold loopT
    rw [if_pos (.inl h0)]
    have hp : (10 : Int) ^ (f + 1 + 1) = 10 ^ (f + 1) * 10 := Int.pow_succ ..
    by_cases h : m < 10
    · rw [show m / 10 = 0 by omega, show m % 10 = m by omega, loopT_zero (app_ne (by omega) h)]
      unfold txt
      rw [if_pos h]
    · rw [loopT_txt f (m / 10) _ (by omega) (by omega)]
      unfold txt
      rw [if_neg h, ByteArray.append_assoc]
      cases f with
      | zero => 
        have h3 : m / 10 < 10 := by simp at hp; omega
        rfl
      | succ f => rfl
theorem loopT_text (n : Int) : loopT 13 (nr n) ByteArray.empty = text n := by
  have hb := nr_bd n
  by_cases h : 0 < nr n
  · have hp : (10 : Int) ^ (12 + 1) = 10000000000000 := by decide
    rw [loopT_txt 12 (nr n) _ h (by omega)]
    unfold text
    simp
  · have h0 : nr n = 0 := by omega
    unfold text
    rw [h0]
    decide +kernel
theorem toList_ne {s : ByteArray} (h : s ≠ ByteArray.empty) : s.toList.isEmpty = false := by
  cases e : s.toList.isEmpty with
  | false => rfl
  | true =>
    exfalso
    have h1 : s.toList = [] := List.isEmpty_iff.1 e
    rw [ByteArray.toList_eq] at h1
    apply h
    have h2 : s.data = #[] := Array.ext' h1
    cases s
    simp only at h2
    subst h2
    rfl
def sizeOf : Value → Nat | .string s => s.size | _ => 0

set_option maxHeartbeats 1000000 in
theorem text_any (n : Int) (w : World) :
    Calls Try.prog 17 #[.int .i64 n] w fun e w' => e = .returned (.string (text n)) ∧ w = w' := by
  have hb := nr_bd n
  have htx := Lib.hid (loopT_text n)
  have hb13 : nr n < 10 ^ 13 := by
    have hp : (10 : Int) ^ 13 = 10000000000000 := by decide
    omega
  go_enter Try.func17, Try.ntmps17
  go_wp2_with fail
  refine (near_any n _).mono ?_
  rintro e1 w1 ⟨rfl, rfl⟩
  go_wp2
  go_loop [0, 3] (fun nv ov => ∃ (m : Int) (f : Nat) (s : ByteArray), nv = .int .i64 m ∧ ov = .string s ∧ 0 ≤ m ∧ m ≤ 1099511627776 ∧ m < 10 ^ f ∧ (s = ByteArray.empty → 1 ≤ f) ∧ s.size + f ≤ 13 ∧ loopT f m s = text n) (fun _ ov => 14 - sizeOf ov)
  case atStart => exact ⟨nr n, 13, ByteArray.empty, rfl, rfl, hb.1, hb.2, hb13, fun _ => by decide, by decide, htx.out⟩
  case round =>
    obtain ⟨m, f, s, rfl, rfl, hm, hmt, hf, he, hsz, hlt⟩ := hrel
    clear hb
    have q1 : 0 ≤ m % 10 ∧ m % 10 < 10 := by omega
    by_cases hgo : 0 < m ∨ s = ByteArray.empty
    · obtain ⟨f, rfl⟩ : ∃ f', f = f' + 1 := by
        rcases Nat.eq_zero_or_pos f with h | h
        · exfalso
          subst h
          rcases hgo with h | h
          · simp at hf; omega
          · have := he h; omega
        · exact ⟨f - 1, by omega⟩
      have hp : (10 : Int) ^ (f + 1) = 10 ^ f * 10 := Int.pow_succ ..
      have hst := Lib.hid (show loopT f (m / 10) (digit (m % 10) ++ s) = text n by
        rw [← hlt]; conv => rhs; unfold loopT
        rw [if_pos hgo])
      have hne' := app_ne (s := s) q1.1 q1.2
      have hsz' : (digit (m % 10) ++ s).size + f ≤ 13 := by rw [ByteArray.size_append, digit_size q1.1 q1.2]; omega
      have hss : s.size < 13 := by omega
      have hgo' := Lib.hid hgo
      have hme : ∀ x : ByteArray, x.size = 1 → 14 - (x ++ s).size < 14 - s.size := fun x hx => by rw [ByteArray.size_append]; omega
      have hq : m % 10 = 0 ∨ m % 10 = 1 ∨ m % 10 = 2 ∨ m % 10 = 3 ∨ m % 10 = 4 ∨ m % 10 = 5 ∨ m % 10 = 6 ∨ m % 10 = 7 ∨ m % 10 = 8 ∨ m % 10 = 9 := by omega
      have hm10 : m / 10 < 10 ^ f := by omega
      have hne2 := Lib.hid hne'
      have hsz2 := Lib.hid hsz'
      have hm11 := Lib.hid hm10
      clear hgo hlt he hf hp hne' hsz' hm10
      by_cases hz : 0 < m
      · rcases hq with hq | hq | hq | hq | hq | hq | hq | hq | hq | hq
        all_goals
          have hsd := Lib.hid (congrArg digit hq)
          go_wp2
          go_round
          case rel => exact ⟨m / 10, f, digit (m % 10) ++ s, rfl, by rw [hsd.out]; rfl, by omega, by omega, hm11.out, fun h => absurd h hne2.out, hsz2.out, hst.out⟩
          case measure => exact hme _ (by decide)
      · have hs0 : s = ByteArray.empty := by
          rcases hgo'.out with h | h
          · exact absurd h hz
          · exact h
        have hm0 : m = 0 := by omega
        subst hm0
        subst hs0
        have hse' : ((ByteArray.empty : ByteArray) == (⟨#[]⟩ : ByteArray)) = true := by decide
        go_wp2
        go_round
        case rel => exact ⟨0, f, digit 0 ++ ByteArray.empty, rfl, congrArg Value.string (by decide), by omega, by omega, hm11.out, fun h => absurd h hne2.out, hsz2.out, hst.out⟩
        case measure => exact (by decide : 14 - ((⟨#[48, 49, 50, 51, 52, 53, 54, 55, 56, 57]⟩ : ByteArray).extract 0 1).size < 14 - ByteArray.empty.size)
    · have hz : ¬ 0 < m := fun h => hgo (.inl h)
      have hm0 : m = 0 := by omega
      have hse : s ≠ ByteArray.empty := fun h => hgo (.inr h)
      subst hm0
      have hend := Lib.hid ((loopT_zero (f := f) hse).symm.trans hlt)
      have hse' := toList_ne hse
      clear hgo hlt hf he
      go_wp2
      go_ret
      exact ⟨by rw [hend.out]; rfl, rfl⟩
end Go.Proofs.Ytpmjjnnjkaennaa.Ref01
