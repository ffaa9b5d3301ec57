/- Plain law of texts: what tick.Parse and the reference's Parse take. No program. -/
import Derived.Test.YtpmjjnnjkaennaaParse
import Derived.Test.YtpmjjnnjkaennaaParseR
namespace Go.Proofs.Ytpmjjnnjkaennaa.Tick
open Ref01

def dig (n : Int) : UInt8 := (48 + n.toNat).toUInt8
theorem digit_list {n : Int} (h0 : 0 ≤ n) (h1 : n < 10) : (digit n).data.toList = [dig n] ∧ (dig n).toNat = 48 + n.toNat := by
  have : n = 0 ∨ n = 1 ∨ n = 2 ∨ n = 3 ∨ n = 4 ∨ n = 5 ∨ n = 6 ∨ n = 7 ∨ n = 8 ∨ n = 9 := by omega
  rcases this with rfl | rfl | rfl | rfl | rfl | rfl | rfl | rfl | rfl | rfl <;> decide
/-- a number's text is read as that number. -/
theorem tp_txt : ∀ (f : Nat) (n : Int) (rest : List UInt8), 0 ≤ n → n < 10 ^ (f + 1) → f ≤ 12 →
    tp 0 0 ((txt f n).data.toList ++ rest) = tp (txt f n).size n rest
  | 0, n, rest, h0, h1, hf => by
    have h2 : n < 10 := by simpa using h1
    have hd := digit_list h0 h2
    unfold txt
    rw [hd.1, digit_size h0 h2]
    show tp 0 0 (dig n :: rest) = _
    conv => lhs; unfold tp
    rw [if_pos ⟨by omega, by omega, by omega, by omega⟩, hd.2]
    congr 1
    omega
  | f + 1, n, rest, h0, h1, hf => by
    by_cases h : n < 10
    · have hd := digit_list h0 h
      unfold txt
      rw [if_pos h, hd.1, digit_size h0 h]
      show tp 0 0 (dig n :: rest) = _
      conv => lhs; unfold tp
      rw [if_pos ⟨by omega, by omega, by omega, by omega⟩, hd.2]
      congr 1
      omega
    · have hp : (10 : Int) ^ (f + 1 + 1) = 10 ^ (f + 1) * 10 := Int.pow_succ ..
      have hd := digit_list (n := n % 10) (by omega) (by omega)
      have hsz := txt_size f (n / 10) (by omega) (by omega)
      unfold txt
      rw [if_neg h, ByteArray.data_append, Array.toList_append, List.append_assoc, tp_txt f (n / 10) _ (by omega) (by omega) (by omega), hd.1, ByteArray.size_append, digit_size (by omega) (by omega)]
      show tp (txt f (n / 10)).size (n / 10) (dig (n % 10) :: rest) = _
      conv => lhs; unfold tp
      rw [if_pos ⟨by omega, by omega, by omega, by omega⟩, hd.2]
      congr 1
      omega
theorem fin_text (n : Int) : fin (text n) = some (nr n) := by
  have hb := nr_bd n
  have h13 : (10 : Int) ^ (12 + 1) = 10000000000000 := by decide
  have h := tp_txt 12 (nr n) [] hb.1 (by omega) (by decide)
  have hs := txt_size 12 (nr n) hb.1 (by omega)
  rw [List.append_nil] at h
  unfold fin text
  rw [h]
  have hne : (txt 12 (nr n)).data.toList ≠ [] := fun c => by
    have : (txt 12 (nr n)).data.toList.length = (txt 12 (nr n)).size := by simp
    rw [c] at this
    simp at this
    omega
  have hr : rightB (nr n) = true := by unfold rightB; simp [hb]
  show (if _ then _ else _) = _
  rw [if_neg]
  rintro (c | c)
  · exact hne c
  · rw [hr] at c; cases c
theorem same_of_list {a b : ByteArray} (h : (a.toList == b.toList) = true) : a = b := by
  have h1 : a.toList = b.toList := eq_of_beq h
  rw [ByteArray.toList_eq, ByteArray.toList_eq] at h1
  have h2 : a.data = b.data := Array.ext' h1
  cases a; cases b; simp only at h2; subst h2; rfl
theorem fin_of_ok {s : ByteArray} (h : okP s = true) : fin s = some (pv s) := by
  unfold okP at h
  rw [Bool.and_eq_true] at h
  have h1 := of_decide_eq_true h.1
  have h2 := same_of_list h.2
  have hb := pv_bd s
  have h3 := fin_text (pv s)
  rw [h2, nr_in hb.1 h1] at h3
  exact h3
structure Good (l : List UInt8) : Prop where
  dig : ∀ c ∈ l, 48 ≤ c.toNat ∧ c.toNat ≤ 57
  head : ∀ c l', l = c :: l' → l' ≠ [] → 49 ≤ c.toNat
theorem tp_some : ∀ (l p : List UInt8) (a : Int), Good p → p.length ≤ 14 → tp p.length (num 0 p) l = some a → a = num 0 (p ++ l) ∧ Good (p ++ l) ∧ (p ++ l).length ≤ 14
  | [], p, a, g, hp, h => by
    rw [List.append_nil]
    unfold tp at h
    exact ⟨(Option.some.inj h).symm, g, hp⟩
  | c :: l, p, a, g, hp, h => by
    unfold tp at h
    split at h
    · rename_i hc
      obtain ⟨c1, c2, c3, c4⟩ := hc
      have hn : num 0 (p ++ [c]) = 10 * num 0 p + ((c.toNat : Int) - 48) := by rw [num_snoc, if_pos ⟨c1, c2⟩]; omega
      have hg : Good (p ++ [c]) := by
        refine ⟨fun x hx => ?_, fun d l' he hl => ?_⟩
        · rcases List.mem_append.1 hx with hx | hx
          · exact g.dig x hx
          · have : x = c := by simpa using hx
            subst this; exact ⟨c1, c2⟩
        · cases p with
          | nil => simp at he; exact absurd he.2.symm (by simpa using fun h => hl h)
          | cons d0 p0 =>
            have hd : d0 = d := by simp at he; exact he.1
            subst hd
            by_cases h0 : p0 = []
            · subst h0
              have h1 := g.dig d0 (List.mem_cons_self ..)
              have h2 : num 0 [d0] ≠ 0 := fun hz => c3 ⟨by simp, hz⟩
              have h3 : num 0 [d0] = (d0.toNat : Int) - 48 := by
                show (if _ then _ else _) = _
                rw [if_pos h1]; omega
              omega
            · exact g.head d0 p0 rfl h0
      have hr := tp_some l (p ++ [c]) a hg (by simp; omega) (by rw [hn]; simpa using h)
      simpa using hr
    · cases h
theorem num_ge : ∀ (l : List UInt8) (n : Int), 0 ≤ n → (∀ c ∈ l, 48 ≤ c.toNat ∧ c.toNat ≤ 57) → n * 10 ^ l.length ≤ num n l
  | [], n, h, _ => by simp [num]
  | c :: l, n, h, hd => by
    have hc := hd c (List.mem_cons_self ..)
    have h1 := num_ge l (n * 10 + c.toNat - 48) (by omega) fun x hx => hd x (List.mem_cons_of_mem _ hx)
    have hp : (0 : Int) < 10 ^ l.length := Int.pow_pos (by decide)
    have hq : (10 : Int) ^ (l.length + 1) = 10 * 10 ^ l.length := by rw [Int.pow_succ, Int.mul_comm]
    have h2 := Int.mul_le_mul_of_nonneg_right (show n * 10 ≤ n * 10 + c.toNat - 48 by omega) (Int.le_of_lt hp)
    show n * 10 ^ (l.length + 1) ≤ num (if _ then _ else _) l
    rw [if_pos hc, hq, ← Int.mul_assoc]
    omega
theorem num_pos {l : List UInt8} (g : Good l) (h : 2 ≤ l.length) : 10 ^ (l.length - 1) ≤ num 0 l := by
  cases l with
  | nil => simp at h
  | cons c l =>
    have hc := g.head c l rfl (by intro e; subst e; simp at h)
    have hd := g.dig c (List.mem_cons_self ..)
    have h1 := num_ge l (0 * 10 + c.toNat - 48) (by omega) fun x hx => g.dig x (List.mem_cons_of_mem _ hx)
    have hp : (0 : Int) < 10 ^ l.length := Int.pow_pos (by decide)
    have h2 := Int.mul_le_mul_of_nonneg_right (show (1 : Int) ≤ 0 * 10 + c.toNat - 48 by omega) (Int.le_of_lt hp)
    show _ ≤ num (if _ then _ else _) l
    rw [if_pos hd]
    simp only [List.length_cons, Nat.add_sub_cancel]
    omega
theorem good_init {l : List UInt8} {c : UInt8} (g : Good (l ++ [c])) : Good l :=
  ⟨fun x hx => g.dig x (List.mem_append_left _ hx), fun d l' he hl => g.head d (l' ++ [c]) (by rw [he]; rfl) (by simp)⟩
theorem dig_of {c : UInt8} (h : 48 ≤ c.toNat ∧ c.toNat ≤ 57) : dig ((c.toNat : Int) - 48) = c := by
  have h1 := (digit_list (n := (c.toNat : Int) - 48) (by omega) (by omega)).2
  exact UInt8.toNat_inj.1 (by omega)
theorem txt_num : ∀ (f : Nat) (l : List UInt8), Good l → l ≠ [] → l.length ≤ f + 1 → (txt f (num 0 l)).data.toList = l := by
  intro f
  induction f with
  | zero =>
    intro l g hne hl
    match l, hne, hl with
    | [c], _, _ =>
      have hc := g.dig c (List.mem_cons_self ..)
      have e : num 0 [c] = (c.toNat : Int) - 48 := by
        show (if _ then _ else _) = _
        rw [if_pos hc]; omega
      rw [e]
      unfold txt
      rw [(digit_list (by omega) (by omega)).1, dig_of hc]
  | succ f ih =>
    intro l g hne hl
    rcases List.eq_nil_or_concat l with h | ⟨l', c, rfl⟩
    · exact absurd h hne
    · simp only [List.concat_eq_append] at *
      have hc := g.dig c (by simp)
      have e : num 0 (l' ++ [c]) = num 0 l' * 10 + ((c.toNat : Int) - 48) := by rw [num_snoc, if_pos hc]; omega
      by_cases h0 : l' = []
      · subst h0
        have e2 : num 0 ([] ++ [c]) = (c.toNat : Int) - 48 := by rw [e]; show 0 * 10 + _ = _; omega
        rw [e2]
        unfold txt
        rw [if_pos (by omega), (digit_list (by omega) (by omega)).1, dig_of hc]
        rfl
      · have hlen : 1 ≤ l'.length := by
          have := List.length_pos_iff.2 h0; omega
        have h10 := num_pos g (by simp; omega)
        have hpw : (10 : Int) ≤ 10 ^ ((l' ++ [c]).length - 1) := by
          have : (l' ++ [c]).length - 1 = (l'.length - 1) + 1 := by simp; omega
          rw [this, Int.pow_succ]
          have hp : (0 : Int) < 10 ^ (l'.length - 1) := Int.pow_pos (by decide)
          omega
        have h1 := (num_lt l' 0 (by decide)).1
        have q1 : num 0 (l' ++ [c]) / 10 = num 0 l' := by omega
        have q2 : num 0 (l' ++ [c]) % 10 = (c.toNat : Int) - 48 := by omega
        unfold txt
        rw [if_neg (by omega), ByteArray.data_append, Array.toList_append, q1, q2, ih l' (good_init g) h0 (by simp at hl; omega), (digit_list (by omega) (by omega)).1, dig_of hc]
theorem ok_of_fin {s : ByteArray} {a : Int} (h : fin s = some a) : okP s = true ∧ pv s = a ∧ text a = s := by
  unfold fin at h
  obtain ⟨n, h1, h2⟩ := Option.bind_eq_some_iff.1 h
  by_cases hc : s.data.toList = [] ∨ rightB n = false
  · rw [if_pos hc] at h2; cases h2
  · rw [if_neg hc] at h2
    obtain rfl : n = a := Option.some.inj h2
    have hne : s.data.toList ≠ [] := fun e => hc (.inl e)
    have hr : 0 ≤ n ∧ n ≤ 1099511627776 := by
      have : rightB n = true := by cases e : rightB n; exact absurd (.inr e) hc; rfl
      unfold rightB at this; simpa using this
    obtain ⟨k1, k2, k3⟩ := tp_some s.data.toList [] n ⟨by simp, by simp⟩ (by simp) h1
    rw [List.nil_append] at k1 k2 k3
    have hl : s.data.toList.length ≤ 13 := by
      rcases Nat.lt_or_ge 13 s.data.toList.length with q | q
      · exfalso
        have h14 : s.data.toList.length = 14 := by omega
        have hp := num_pos k2 (by omega)
        rw [h14] at hp
        have : (10 : Int) ^ (14 - 1) = 10000000000000 := by decide
        omega
      · exact q
    have hpv : pv s = n := by unfold pv; rw [List.take_of_length_le (by omega), k1]
    have ht : text n = s := by
      have h5 := txt_num 12 s.data.toList k2 hne (by omega)
      rw [← k1] at h5
      unfold text
      rw [nr_in hr.1 hr.2]
      have h6 : (txt 12 n).data = s.data := Array.ext' h5
      generalize txt 12 n = t at *
      cases t; cases s; simp only at h6; subst h6; rfl
    refine ⟨?_, hpv, ht⟩
    unfold okP
    rw [hpv, ht]
    simp [hr.2]
theorem parse_same (s : ByteArray) : tpN s = outN s ∧ tpE s = outE s := by
  cases h : fin s with
  | none =>
    have hk : okP s = false := by
      cases e : okP s with
      | false => rfl
      | true => rw [fin_of_ok e] at h; cases h
    unfold tpN tpE outN outE
    rw [h, hk]
    exact ⟨rfl, rfl⟩
  | some a =>
    obtain ⟨k1, k2, _⟩ := ok_of_fin h
    unfold tpN tpE outN outE
    rw [h, k1, k2]
    exact ⟨rfl, rfl⟩
end Go.Proofs.Ytpmjjnnjkaennaa.Tick
