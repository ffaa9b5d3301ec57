/- Plain law of windows: what is taken of a bucket in any window of ticks. No program. -/
import Derived.Test.YtdooeeklpinhfaaLaw08D
namespace Go.Proofs.Ytdooeeklpinhfaa.Win
open Tick Bucket Law08

def total : List Int → Int
  | [] => 0
  | x :: l => x + total l
theorem total_snoc (l : List Int) (x : Int) : total (l ++ [x]) = total l + x := by
  induction l with
  | nil => simp [total]
  | cons y l ih => simp only [List.cons_append, total, ih]; omega

/-- what was taken, at which ticks; lev is the level behind it, now the last tick. -/
structure Inv (r b : Int) (at_ got : List Int) (lev now : Int) : Prop where
  len : at_.length = got.length
  ok : okB r b lev now = true
  bd : ∀ x ∈ got, 0 ≤ x ∧ x ≤ 1099511627776
  ticks : ∀ x ∈ at_, 0 ≤ x ∧ x ≤ now
  open_ : ∀ i t, at_[i]? = some t → total (got.drop i) + lev ≤ b + r * (now - t)
  win : ∀ i k t u, at_[i]? = some t → at_[k]? = some u → i ≤ k → t ≤ u ∧ total ((got.drop i).take (k + 1 - i)) ≤ b + r * (u - t)

theorem inv_nil {r b lev now : Int} (h : okB r b lev now = true) : Inv r b [] [] lev now :=
  ⟨rfl, h, by simp, by simp, by simp, by simp⟩

theorem take_at {r b l t now n : Int} (h : okB r b l t = true) (h0 : t ≤ now) (h1 : now ≤ 1099511627776) :
    takeT r b l t now n = now ∧ takeL r b l t now n + takeK r b l t now n = fillL r b l t now ∧ 0 ≤ takeK r b l t now n ∧ takeK r b l t now n ≤ fillL r b l t now := by
  obtain ⟨o1, o2, o3, o4, o5, o6⟩ := of_decide_eq_true h
  have hn : nr now = now := nr_in (by omega) h1
  have hk := takeK_bd (now := now) (n := n) h
  refine ⟨?_, ?_, hk.1, hk.2⟩
  · unfold takeT
    rw [if_pos h]
    unfold fillT
    rw [hn]
    by_cases e : t < now
    · rw [if_pos ⟨h, e⟩]
    · rw [if_neg (fun c => e c.2)]; omega
  · unfold takeL; rw [if_pos h]; omega

theorem inv_step {r b : Int} {at_ got : List Int} {lev now now' n : Int} (h : Inv r b at_ got lev now) (h0 : now ≤ now') (h1 : now' ≤ 1099511627776) :
    Inv r b (at_ ++ [now']) (got ++ [takeK r b lev now now' n]) (takeL r b lev now now' n) now' := by
  obtain ⟨e1, e2, e3, e4⟩ := take_at (n := n) h.ok h0 h1
  have hf := fillL_min h.ok h0 h1
  obtain ⟨o1, o2, o3, o4, o5, o6⟩ := of_decide_eq_true h.ok
  have hfb := fillL_bd (now := now') h.ok
  generalize hK : takeK r b lev now now' n = K at *
  generalize takeL r b lev now now' n = L at *
  have hL : fillL r b lev now now' ≤ lev + r * (now' - now) := by rw [hf]; split <;> omega
  have hlen := h.len
  have hok : okB r b L now' = true := decide_eq_true ⟨o1, o2, by omega, by omega, o5, by omega⟩
  have hopen : ∀ i t, (at_ ++ [now'])[i]? = some t → total ((got ++ [K]).drop i) + L ≤ b + r * (now' - t) := by
    intro i t hi
    by_cases hlt : i < at_.length
    · rw [List.getElem?_append_left hlt] at hi
      have h5 := h.open_ i t hi
      rw [List.drop_append_of_le_length (by omega), total_snoc]
      have h6 : r * (now' - t) = r * (now' - now) + r * (now - t) := by rw [← Int.mul_add]; congr 1; omega
      rw [h6]
      omega
    · rw [List.getElem?_append_right (by omega)] at hi
      obtain ⟨hi0, hi1⟩ := List.getElem?_eq_some_iff.1 hi
      have hi2 : i - at_.length = 0 := by simpa using hi0
      have hi3 : i = got.length := by omega
      have ht : t = now' := by rw [← hi1]; simp
      subst ht
      rw [hi3, List.drop_left, Int.sub_self, Int.mul_zero]
      simp only [total]
      omega
  refine ⟨by simp [hlen], hok, ?_, ?_, hopen, ?_⟩
  · intro x hx
    rcases List.mem_append.1 hx with hx | hx
    · exact h.bd x hx
    · have : x = K := by simpa using hx
      omega
  · intro x hx
    rcases List.mem_append.1 hx with hx | hx
    · have := h.ticks x hx; omega
    · have : x = now' := by simpa using hx
      omega
  · intro i k t u hi hk hik
    by_cases hkl : k < at_.length
    · rw [List.getElem?_append_left hkl] at hk
      rw [List.getElem?_append_left (by omega)] at hi
      have h5 := h.win i k t u hi hk hik
      rw [List.drop_append_of_le_length (by omega), List.take_append_of_le_length (by simp; omega)]
      exact h5
    · rw [List.getElem?_append_right (by omega)] at hk
      obtain ⟨hi0, hi1⟩ := List.getElem?_eq_some_iff.1 hk
      have hk2 : k - at_.length = 0 := by simpa using hi0
      have hu : u = now' := by rw [← hi1]; simp
      have h6 := hopen i t hi
      rw [List.take_of_length_le (by simp; omega), hu]
      refine ⟨?_, by omega⟩
      by_cases hlt : i < at_.length
      · rw [List.getElem?_append_left hlt] at hi
        have := h.ticks t (List.mem_of_getElem? hi)
        omega
      · rw [List.getElem?_append_right (by omega)] at hi
        obtain ⟨hj0, hj1⟩ := List.getElem?_eq_some_iff.1 hi
        have ht : t = now' := by rw [← hj1]; simp
        omega

/-- a sum that stops at the greatest number. -/
def cap (s : Int) : Int := if 1099511627776 < s then 1099511627776 else s
theorem cap_add {s g : Int} (hs : 0 ≤ s) (hg : 0 ≤ g ∧ g ≤ 1099511627776) : add (cap s) g = cap (s + g) := by
  unfold add cap
  by_cases h : 1099511627776 < s
  · rw [if_pos h, nr_in hg.1 hg.2, show nr 1099511627776 = 1099511627776 by decide, if_pos (by omega)]
    by_cases z : g = 0
    · subst z; rfl
    · exact nr_top (by omega)
  · rw [if_neg h, nr_in hs (by omega), nr_in hg.1 hg.2]
    by_cases z : 1099511627776 < s + g
    · rw [if_pos z, nr_top z]
    · rw [if_neg z, nr_in (by omega) (by omega)]
theorem cap_le {s r b d : Int} (hr : 0 ≤ r ∧ r ≤ 1099511627776) (hb : 0 ≤ b ∧ b ≤ 1099511627776) (hd : 0 ≤ d ∧ d ≤ 1099511627776) (h : s ≤ b + r * d) : cap s ≤ add b (mul r d) := by
  have hp : 0 ≤ r * d := Int.mul_nonneg hr.1 hd.1
  rw [mul_le_of hr hd]
  unfold cap add
  rw [nr_in hb.1 hb.2]
  generalize r * d = p at *
  by_cases q : 1099511627776 < p
  · rw [if_pos q, show nr 1099511627776 = 1099511627776 by decide]
    have : nr (b + 1099511627776) = 1099511627776 := by
      by_cases z : b = 0
      · subst z; rfl
      · exact nr_top (by omega)
    rw [this]; split <;> omega
  · rw [if_neg q, nr_in hp (by omega)]
    by_cases z : 1099511627776 < b + p
    · rw [nr_top z]; split <;> omega
    · rw [nr_in (by omega) (by omega)]; split <;> omega
end Go.Proofs.Ytdooeeklpinhfaa.Win
