/- Plain law of StageWindows (chapter 10): what a bandwidth lets through in any window. No condition. -/
import Derived.Test.YtehpliclknfmoaaStageS
import Derived.Test.YtehpliclknfmoaaRef08N
namespace Go.Proofs.Ytehpliclknfmoaa.Stage
open Go.RowKit Mem Tick Cargo Toxic Bucket
set_option linter.unusedVariables false
set_option linter.unusedSimpArgs false
def total : List Int → Int
  | [] => 0
  | x :: l => x + total l
theorem total_snoc (l : List Int) (x : Int) : total (l ++ [x]) = total l + x := by
  induction l with
  | nil => simp [total]
  | cons y l ih => simp only [List.cons_append, total, ih]; omega
/-- a sum that stops at the greatest number. -/
def cap (s : Int) : Int := if 1099511627776 < s then 1099511627776 else s
theorem cap_add {s g : Int} (hs : 0 ≤ s) (hg : 0 ≤ g ∧ g ≤ 1099511627776) : add (cap s) g = cap (s + g) := by
  unfold add cap
  by_cases h : 1099511627776 < s
  · rw [if_pos h, nr_in hg.1 hg.2, show nr 1099511627776 = 1099511627776 by decide, if_pos (by omega)]
    by_cases z : g = 0
    · subst z; rfl
    · exact nr_top (by omega)
  · rw [if_neg h, nr_in hs (by omega), nr_in hg.1 hg.2]
    by_cases z : 1099511627776 < s + g
    · rw [if_pos z, nr_top z]
    · rw [if_neg z, nr_in (by omega) (by omega)]
theorem cap_le {s r b d : Int} (hr : 0 ≤ r ∧ r ≤ 1099511627776) (hb : 0 ≤ b ∧ b ≤ 1099511627776) (hd : 0 ≤ d ∧ d ≤ 1099511627776) (h : s ≤ b + r * d) : cap s ≤ add b (mul r d) := by
  have hp : 0 ≤ r * d := Int.mul_nonneg hr.1 hd.1
  rw [mul_le_of hr hd]
  unfold cap add
  rw [nr_in hb.1 hb.2]
  generalize r * d = p at *
  by_cases q : 1099511627776 < p
  · rw [if_pos q, show nr 1099511627776 = 1099511627776 by decide]
    have : nr (b + 1099511627776) = 1099511627776 := by
      by_cases z : b = 0
      · subst z; rfl
      · exact nr_top (by omega)
    rw [this]; split <;> omega
  · rw [if_neg q, nr_in hp (by omega)]
    by_cases z : 1099511627776 < b + p
    · rw [nr_top z]; split <;> omega
    · rw [nr_in (by omega) (by omega)]; split <;> omega
theorem takeK_max {r b l t now n : Int} : takeK r b l t now n ≤ (if n < 0 then 0 else n) ∨ okB r b l t = false := by
  cases h : okB r b l t with
  | false => exact .inr rfl
  | true =>
    left
    unfold takeK
    rw [if_pos h]
    split <;> (try split) <;> omega

def Apart (a g : Value) : Prop := a.ownBlock = none ∨ a.ownBlock ≠ g.ownBlock
theorem Apart.symm {a g : Value} (h : Apart a g) : Apart g a := by
  unfold Apart at *
  cases e : g.ownBlock with
  | none => exact .inl rfl
  | some j =>
    right
    rcases h with h | h
    · rw [h]; simp
    · rw [e] at h; exact fun c => h c.symm
theorem Apart.grow {a a' g : Value} {N : Nat} (h : Apart a g) (ha : a'.ownBlock = a.ownBlock ∨ a'.ownBlock = some N) (hg : ∀ j, g.ownBlock = some j → j < N) : Apart a' g := by
  unfold Apart at *
  rcases ha with e | e
  · rw [e]; exact h
  · right
    rw [e]
    intro c
    have := hg N c.symm
    omega

theorem total_nonneg {l : List Int} (h : ∀ x ∈ l, 0 ≤ x) : 0 ≤ total l := by
  induction l with
  | nil => exact Int.le_refl _
  | cons x l ih =>
    have h1 := h x (List.mem_cons_self ..)
    have h2 := ih fun y hy => h y (List.mem_cons_of_mem _ hy)
    simp only [total]; omega
theorem total_next {l : List Int} {i k : Nat} {g : Int} (hik : i ≤ k) (hk : l[k]? = some g) : total ((l.drop i).take (k + 1 - i)) = total ((l.drop i).take (k - i)) + g := by
  have hkl := (List.getElem?_eq_some_iff.1 hk).1
  have e : (l.drop i)[k - i]? = some g := by rw [List.getElem?_drop, show i + (k - i) = k by omega]; exact hk
  rw [show k + 1 - i = (k - i) + 1 by omega, List.take_add_one, e]
  exact total_snoc _ _


structure InvW (r b : Int) (at_ got : List Int) (lev t now : Int) : Prop where
  len : at_.length = got.length
  ok : okB r b lev t = true
  tn : t ≤ now
  bd : ∀ x ∈ got, 0 ≤ x
  ticks : ∀ x ∈ at_, 0 ≤ x ∧ x ≤ now
  open_ : ∀ (i : Nat) (a : Int), at_[i]? = some a → total (got.drop i) + lev ≤ b + r * (max t a - a) ∧ (t < a → total (got.drop i) = 0)
  win : ∀ (i k : Nat) (a u : Int), at_[i]? = some a → at_[k]? = some u → i ≤ k → a ≤ u ∧ total ((got.drop i).take (k + 1 - i)) ≤ b + r * (u - a)
theorem InvW.wait {r b lev t now now' : Int} {at_ got : List Int} (h : InvW r b at_ got lev t now) (h0 : now ≤ now') : InvW r b at_ got lev t now' :=
  ⟨h.len, h.ok, Int.le_trans h.tn h0, h.bd, fun x hx => ⟨(h.ticks x hx).1, Int.le_trans (h.ticks x hx).2 h0⟩, h.open_, h.win⟩
/-- something is let through: K, behind which the bucket holds L at now'. -/
theorem InvW.snoc {r b lev t now now' K L t' : Int} {at_ got : List Int} (h : InvW r b at_ got lev t now) (h0 : now ≤ now') (h00 : 0 ≤ now') (hK : 0 ≤ K) (hok : okB r b L t' = true) (ht' : t' ≤ now') (htt : t ≤ t')
    (hb : K + L ≤ b) (hr : K + L ≤ lev + r * (t' - t)) (hz : K = 0 ∨ t' = now') (hzz : t' < now' → t' = t ∧ L = lev) : InvW r b (at_ ++ [now']) (got ++ [K]) L t' now' := by
  obtain ⟨o1, o2, o3, o4, o5, o6⟩ := of_decide_eq_true hok
  have hlen := h.len
  have hopen : ∀ (i : Nat) (a : Int), (at_ ++ [now'])[i]? = some a → total ((got ++ [K]).drop i) + L ≤ b + r * (max t' a - a) ∧ (t' < a → total ((got ++ [K]).drop i) = 0) := by
    intro i a hi
    by_cases hlt : i < at_.length
    · rw [List.getElem?_append_left hlt] at hi
      obtain ⟨h5, h6⟩ := h.open_ i a hi
      have h7 := (h.ticks a (List.mem_of_getElem? hi))
      rw [List.drop_append_of_le_length (by omega), total_snoc]
      by_cases ha : a ≤ t
      · rw [show max t a = t by omega] at h5
        rw [show max t' a = t' by omega]
        have h8 : r * (t' - a) = r * (t' - t) + r * (t - a) := by rw [← Int.mul_add]; congr 1; omega
        rw [h8]
        exact ⟨by omega, fun e => by omega⟩
      · have h9 := h6 (by omega)
        have hp : 0 ≤ r * (max t' a - a) := Int.mul_nonneg o1.1 (by omega)
        refine ⟨by omega, fun e => ?_⟩
        rcases hz with hz | hz
        · omega
        · omega
    · rw [List.getElem?_append_right (by omega)] at hi
      obtain ⟨hi0, hi1⟩ := List.getElem?_eq_some_iff.1 hi
      have hi2 : i - at_.length = 0 := by simpa using hi0
      have hi3 : i = got.length := by omega
      have ht : a = now' := by rw [← hi1]; simp
      subst ht
      rw [hi3, List.drop_left, show max t' a - a = 0 by omega, Int.mul_zero]
      simp only [total]
      refine ⟨by omega, fun e => ?_⟩
      rcases hz with hz | hz
      · omega
      · omega
  refine ⟨by simp [hlen], hok, ht', ?_, ?_, hopen, ?_⟩
  · intro x hx
    rcases List.mem_append.1 hx with hx | hx
    · exact h.bd x hx
    · have : x = K := by simpa using hx
      omega
  · intro x hx
    rcases List.mem_append.1 hx with hx | hx
    · have := h.ticks x hx; omega
    · have : x = now' := by simpa using hx
      omega
  · intro i k a u hi hk hik
    by_cases hkl : k < at_.length
    · rw [List.getElem?_append_left hkl] at hk
      rw [List.getElem?_append_left (by omega)] at hi
      have h5 := h.win i k a u hi hk hik
      rw [List.drop_append_of_le_length (by omega), List.take_append_of_le_length (by simp; omega)]
      exact h5
    · rw [List.getElem?_append_right (by omega)] at hk
      obtain ⟨hi0, hi1⟩ := List.getElem?_eq_some_iff.1 hk
      have hk2 : k - at_.length = 0 := by simpa using hi0
      have hu : u = now' := by rw [← hi1]; simp
      obtain ⟨h6, h7⟩ := hopen i a hi
      have ha : a ≤ now' := by
        by_cases hlt : i < at_.length
        · rw [List.getElem?_append_left hlt] at hi
          have := h.ticks a (List.mem_of_getElem? hi)
          omega
        · rw [List.getElem?_append_right (by omega)] at hi
          obtain ⟨hj0, hj1⟩ := List.getElem?_eq_some_iff.1 hi
          have ht : a = now' := by rw [← hj1]; simp
          omega
      rw [List.take_of_length_le (by simp; omega), hu]
      refine ⟨ha, ?_⟩
      have hmono : r * (max t' a - a) ≤ r * (now' - a) := Int.mul_le_mul_of_nonneg_left (by omega) o1.1
      omega
structure WinI (T : Tox) (now : Int) (at_ got : List Int) (s : Sg) : Prop where
  t : s.t = T
  cl : s.closed = false
  st : s.state = 0
  ck : s.clock = now
  b0 : s.b0 = T.a
  b1 : s.b1 = T.b
  w : InvW T.a T.b at_ got s.b2 s.b3 now
theorem WinI.look {T : Tox} {now : Int} {at_ got : List Int} {s : Sg} (h : WinI T now at_ got s) (hk : T.kind = 2) (N : Int) (h1 : now ≤ N) (h2 : Tick.add N 0 = N) : WinI T N at_ got (lookP s N) := by
  have ht : (nowP s N).t = T := h.t
  refine ⟨h.t, h.cl, lookS_plain (by rw [ht]; omega) (by rw [ht]; omega) (by rw [ht]; omega) h.cl h.st, ?_, h.b0, h.b1, h.w.wait h1⟩
  show max s.clock (Tick.add N 0) = N
  rw [h.ck, h2]; omega
theorem dice_b (s : Sg) : (diceP s).b0 = s.b0 ∧ (diceP s).b1 = s.b1 ∧ (diceP s).b2 = s.b2 ∧ (diceP s).b3 = s.b3 := by
  unfold diceP
  split <;> exact ⟨rfl, rfl, rfl, rfl⟩
theorem WinI.force {T : Tox} {now : Int} {at_ got : List Int} {s : Sg} (h : WinI T now at_ got s) (hk : T.kind = 2) (N : Int) (h1 : now ≤ N) (h2 : Tick.add N 0 = N) (x : ByteArray) : WinI T N at_ got (forceP s N x) := by
  have h3 := h.look hk N h1 h2
  unfold forceP
  split
  · exact h3
  · have hd := dice_same (lookP s N)
    have hb := dice_b (lookP s N)
    have hw := h3.w
    refine ⟨hd.1.trans h3.t, hd.2.1.trans h3.cl, hd.2.2.1.trans h3.st, hd.2.2.2.1.trans h3.ck, hb.1.trans h3.b0, hb.2.1.trans h3.b1, ?_⟩
    show InvW T.a T.b at_ got (diceP (lookP s N)).b2 (diceP (lookP s N)).b3 N
    rw [hb.2.2.1, hb.2.2.2]
    exact hw
theorem WinI.put {T : Tox} {now : Int} {at_ got : List Int} {s : Sg} (h : WinI T now at_ got s) (hk : T.kind = 2) (N : Int) (h1 : now ≤ N) (h2 : Tick.add N 0 = N) (x : ByteArray) : WinI T N at_ got (putS s N x) := by
  have h3 := h.look hk N h1 h2
  unfold putS
  split
  · exact h3
  · exact h3.force hk N (Int.le_refl _) h2 _
theorem WinI.take {T : Tox} {now : Int} {at_ got : List Int} {s : Sg} (h : WinI T now at_ got s) (hk : T.kind = 2) (N : Int) (h0 : 0 ≤ N) (h1 : now ≤ N) (h2 : Tick.add N 0 = N) (h3 : N ≤ 1099511627776) (m : Int) :
    WinI T N (at_ ++ [N]) (got ++ [((takeB s N m).size : Int)]) (takeS s N m) := by
  have hL := h.look hk N h1 h2
  unfold takeB takeS
  by_cases hc : (lookP s N).state ≠ 0 ∨ m < 1
  · rw [if_pos hc, if_pos hc]
    have e0 : (⟨#[]⟩ : ByteArray).size = 0 := rfl
    rw [e0]
    have hw := hL.w
    obtain ⟨o1, o2, o3, o4, o5, o6⟩ := of_decide_eq_true hw.ok
    exact ⟨hL.t, hL.cl, hL.st, hL.ck, hL.b0, hL.b1, hw.snoc (Int.le_refl _) h0 (Int.le_refl _) hw.ok hw.tn (Int.le_refl _) (by simp; omega) (by simp) (.inl rfl) (fun _ => ⟨rfl, rfl⟩)⟩
  · rw [if_neg hc, if_neg hc]
    have hm : 1 ≤ m := by
      by_cases e : m < 1
      · exact absurd (.inr e) hc
      · omega
    have hsz : (takeOutB (lookP s N) (readyN (lookP s N) m)).size = outN (lookP s N) (readyN (lookP s N) m) := size_takeP _ _ (takeN_le _ _ _)
    have hkk : (lookP s N).t.kind = 2 := by rw [hL.t]; exact hk
    generalize lookP s N = s1 at *
    rw [hsz]
    have hw := hL.w
    have hbk := hw.ok
    have hway : wayN s1 (readyN s1 m) = takeK s1.b0 s1.b1 s1.b2 s1.b3 s1.clock (readyN s1 m) := by unfold wayN; rw [if_pos hkk]; rfl
    have hwS : wayS s1 (readyN s1 m) = someS s1 (readyN s1 m) := by unfold wayS; rw [if_pos hkk]
    have hst := wayS_st s1 (readyN s1 m)
    have hcc := wayS_c s1 (readyN s1 m)
    have hout : outN s1 (readyN s1 m) = (min (rdy s1.clock s1.c.1 : Int) (max (takeK s1.b0 s1.b1 s1.b2 s1.b3 s1.clock (readyN s1 m)) 0)).toNat := by
      unfold outN takeN; rw [hcc.1, hway]
    have hr : readyN s1 m = min (rdy s1.clock s1.c.1 : Int) m := rfl
    rw [hL.b0, hL.b1, hL.ck] at hout
    rw [hL.ck] at hr
    have hkb := takeK_bd (now := N) (n := readyN s1 m) hbk
    have hmx := takeK_max (r := T.a) (b := T.b) (l := s1.b2) (t := s1.b3) (now := N) (n := readyN s1 m)
    have hmx2 : takeK T.a T.b s1.b2 s1.b3 N (readyN s1 m) ≤ if readyN s1 m < 0 then 0 else readyN s1 m := by
      rcases hmx with e | e
      · exact e
      · rw [hbk] at e; cases e
    have hnn : 0 ≤ readyN s1 m := by rw [hr]; omega
    rw [if_neg (by omega)] at hmx2
    have hoN : (outN s1 (readyN s1 m) : Int) = takeK T.a T.b s1.b2 s1.b3 N (readyN s1 m) := by rw [hout]; omega
    have hf := fillL_min hbk hw.tn h3
    have hfb := fillL_bd (now := N) hbk
    have hfo := fill_ok (now := N) hbk
    have hnN : nr N = N := nr_in h0 h3
    have hft : fillT T.a T.b s1.b2 s1.b3 N = N := by
      unfold fillT
      rw [hnN]
      by_cases e : s1.b3 < N
      · rw [if_pos ⟨hbk, e⟩]
      · rw [if_neg (fun c => e c.2)]
        have := hw.tn
        omega
    have hLL : takeL T.a T.b s1.b2 s1.b3 N (readyN s1 m) = fillL T.a T.b s1.b2 s1.b3 N - takeK T.a T.b s1.b2 s1.b3 N (readyN s1 m) := if_pos hbk
    have hTT : takeT T.a T.b s1.b2 s1.b3 N (readyN s1 m) = N := by unfold takeT; rw [if_pos hbk]; exact hft
    have hokL : okB T.a T.b (takeL T.a T.b s1.b2 s1.b3 N (readyN s1 m)) N = true := by
      obtain ⟨o1, o2, o3, o4, o5, o6⟩ := of_decide_eq_true hbk
      exact decide_eq_true ⟨o1, o2, by omega, ⟨h0, h3⟩, o5, by omega⟩
    have hfl : fillL T.a T.b s1.b2 s1.b3 N ≤ s1.b2 + T.a * (N - s1.b3) := by rw [hf]; split <;> omega
    rw [hoN]
    refine ⟨hcc.2.2.2.trans hL.t, hst.1.trans hL.cl, hst.2.2.trans hL.st, hcc.2.1.trans hL.ck, ?_, ?_, ?_⟩
    · show (wayS s1 (readyN s1 m)).b0 = T.a; rw [hwS]; exact hL.b0
    · show (wayS s1 (readyN s1 m)).b1 = T.b; rw [hwS]; exact hL.b1
    · show InvW T.a T.b _ _ (wayS s1 (readyN s1 m)).b2 (wayS s1 (readyN s1 m)).b3 N
      rw [hwS]
      show InvW T.a T.b _ _ (takeL s1.b0 s1.b1 s1.b2 s1.b3 s1.clock (readyN s1 m)) (takeT s1.b0 s1.b1 s1.b2 s1.b3 s1.clock (readyN s1 m)) N
      rw [hL.b0, hL.b1, hL.ck, hTT]
      exact hw.snoc (Int.le_refl _) h0 hkb.1 hokL (Int.le_refl _) hw.tn (by omega) (by omega) (.inr rfl) (fun e => by omega)
end Go.Proofs.Ytehpliclknfmoaa.Stage
