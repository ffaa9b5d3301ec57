/- Plain law of cargo (chapter 07): the program's calls and the document's. No condition. -/
import Derived.Test.YtcoennfpaimclaaRef07F
namespace Go.Proofs.Ytcoennfpaimclaa.Ref07
open Go.RowKit Mem Tick Cargo
set_option linter.unusedVariables false
set_option linter.unusedSimpArgs false
/-- each byte's tick. -/
def tk : List Pc → List Int
  | [] => []
  | p :: r => List.replicate p.2.size p.1 ++ tk r
theorem tk_length : ∀ ps : List Pc, (tk ps).length = tot ps
  | [] => rfl
  | p :: r => by simp [tk, tot, tk_length r]
theorem tk_append (a b : List Pc) : tk (a ++ b) = tk a ++ tk b := by induction a with | nil => rfl | cons p r ih => simp [tk, ih]
def refOf (x : St) : RS := (cat x.1, tk x.1, x.2)
theorem tk_join : ∀ (ps : List Pc) (t : Int) (s : ByteArray), joinedB ps t = true → tk (joinP ps s) = tk ps ++ List.replicate s.size t
  | [], t, s, h => by simp [joinedB] at h
  | [p], t, s, h => by
    have : p.1 = t := by simpa [joinedB] using h
    subst this
    simp [joinP, tk, ByteArray.size_append, ← List.replicate_append_replicate]
  | p :: q :: r, t, s, h => by
    have := tk_join (q :: r) t s (by simpa [joinedB] using h)
    rw [joinP, tk, this, tk]
    simp [tk]
theorem tk_add (ps : List Pc) (t : Int) (s : ByteArray) : tk (addP ps t s) = tk ps ++ List.replicate s.size t := by
  unfold addP
  split
  · rename_i h
    rw [isEmpty_size] at h
    have : s.size = 0 := by simpa using h
    rw [this]; simp
  · split
    · rename_i h; exact tk_join ps t s h
    · rw [tk_append]; simp [tk]
theorem tk_take : ∀ (n : Nat) (ps : List Pc), tk (takeP n ps).2 = (tk ps).drop n
  | n, [] => by simp [takeP, tk]
  | n, p :: r => by
    unfold takeP
    split
    · subst n; rfl
    · split
      · rename_i h
        simp only [tk, ByteArray.size_extract]
        rw [List.drop_append, List.drop_replicate, List.length_replicate, show n - p.2.size = 0 by omega, List.drop_zero, Nat.min_self]
      · rename_i h
        rw [tk_take, tk, List.drop_append, List.drop_replicate, List.length_replicate, show p.2.size - n = 0 by omega]
        simp
theorem low_min (a t : Int) : low a t = min t a := by unfold low; split <;> omega
theorem tk_hur (t : Int) (ps : List Pc) : tk (hur t ps) = (tk ps).map (low t) := by
  have key : ∀ (ps acc : List Pc), tk (ps.foldl (hurF t) acc) = tk acc ++ (tk ps).map (low t) := by
    intro ps
    induction ps with
    | nil => intro acc; simp [tk]
    | cons p r ih => intro acc; rw [List.foldl_cons, ih, hurF, tk_add]; simp [tk, low_min]
  have := key ps []
  unfold hur
  rw [this]; rfl
theorem cnt_rep (now t : Int) (n : Nat) (r : List Int) : cnt now (List.replicate n t ++ r) = if t ≤ now then n + cnt now r else (if n = 0 then cnt now r else 0) := by
  induction n with
  | zero => simp
  | succ n ih =>
    rw [List.replicate_succ, List.cons_append, cnt, ih]
    by_cases ht : t ≤ now
    · rw [if_pos ht, if_pos ht, if_pos ht]; omega
    · rw [if_neg ht, if_neg ht, if_neg (by omega)]
theorem cnt_tk (now : Int) : ∀ ps : List Pc, Full ps → (ats ps).Pairwise (· < ·) → cnt now (tk ps) = rdy now ps
  | [], _, _ => rfl
  | p :: r, hf, h => by
    have h' := h
    simp only [ats, List.map_cons] at h
    obtain ⟨h1, h2⟩ := List.pairwise_cons.1 h
    have hp := hf p (List.mem_cons_self ..)
    rw [tk, cnt_rep, cnt_tk now r hf.tail h2, rdy]
    by_cases hn : p.1 ≤ now
    · rw [if_pos hn, if_pos hn]
    · rw [if_neg hn, if_neg hn, if_neg (by omega), rdy_no (fun a ha => by have := h1 a ha; omega)]
theorem ref_at (last at_ : Int) : refAt last at_ = putAt last at_ := by
  have h0 : Tick.add at_ 0 = nr at_ := by
    show nr (nr at_ + nr 0) = nr at_
    have := nr_bd at_
    rw [show nr 0 = 0 from rfl, Int.add_zero, nr_in this.1 this.2]
  unfold refAt putAt
  rw [h0]
  split <;> omega
theorem add_zero (t : Int) : Tick.add t 0 = nr t := by
  show nr (nr t + nr 0) = nr t
  have := nr_bd t
  rw [show nr 0 = 0 from rfl, Int.add_zero, nr_in this.1 this.2]
theorem ext_left (a b : ByteArray) : (a ++ b).extract 0 a.size = a := ByteArray.extract_append_eq_left rfl
theorem ext_right (a b : ByteArray) : (a ++ b).extract a.size (a ++ b).size = b := ByteArray.extract_append_eq_right rfl (by rw [ByteArray.size_append])
theorem ref_do (x : St) (o : Op4) (h : Cargo.Good x) : refDo o.1 o.2.1 o.2.2.1 o.2.2.2 (refOf x) = (refOf (stp x o), (doesP o.1 o.2.1 o.2.2.1 o.2.2.2 x).1.1, outp x o) := by
  unfold refDo refOf stp outp doesP
  by_cases h0 : o.1 = 0
  · simp only [if_pos h0, ref_at, tk_add, cat_add]
    have : putL x.2 o.2.1 o.2.2.2 = putLast x.2 o.2.1 o.2.2.2 := by
      unfold putL putLast
      rw [isEmpty_size, ref_at]
      by_cases hs : o.2.2.2.size = 0
      · rw [if_pos hs, if_pos (decide_eq_true hs)]
      · rw [if_neg hs, if_neg (by simp [hs])]
    rw [this]
  · simp only [if_neg h0]
    by_cases h1 : o.1 = 1
    · simp only [if_pos h1]
      have hm : takeM o.2.1 o.2.2.1 (tk x.1) = takeN o.2.1 o.2.2.1 x.1 := by
        unfold takeM takeN
        rw [cnt_tk _ _ h.1 h.2.1]
      rw [hm, tk_take]
      have hc := cat_takeP (takeN o.2.1 o.2.2.1 x.1) x.1
      have hs := size_takeP (takeN o.2.1 o.2.2.1 x.1) x.1 (takeN_le _ _ _)
      generalize takeN o.2.1 o.2.2.1 x.1 = m at *
      have e1 : (cat x.1).extract 0 m = (takeP m x.1).1 := by
        have := ext_left (takeP m x.1).1 (cat (takeP m x.1).2)
        rw [hc, hs] at this
        exact this
      have e2 : (cat x.1).extract m (cat x.1).size = cat (takeP m x.1).2 := by
        have := ext_right (takeP m x.1).1 (cat (takeP m x.1).2)
        rw [hc, hs] at this
        exact this
      rw [e1, e2]
    · simp only [if_neg h1]
      by_cases h2 : o.1 = 2
      · simp only [if_pos h2, cat_hur, tk_hur, add_zero]
        rw [low_min]
      · simp only [if_neg h2]
        by_cases h3 : o.1 = 3
        · simp only [if_pos h3]; rfl
        · simp only [if_neg h3]
theorem ref_size (x : St) : (refOf x).1.size = (refOf x).2.1.length := by simp [refOf, cat_size, tk_length]
/-- what lies in the beginning alone is told by the beginning. -/
theorem grp_more (S S' : ByteArray) (ts ts' : List Int) : ∀ k, k ≤ S.size → k ≤ ts.length → grpTo (S ++ S') (ts ++ ts') k = grpTo S ts k
  | 0, _, _ => rfl
  | k + 1, h, h' => by
    have e1 : (S ++ S').extract k (k + 1) = S.extract k (k + 1) := by
      rw [ByteArray.extract_append]
      have : S'.extract (k - S.size) (k + 1 - S.size) = ⟨#[]⟩ := by
        rw [show k - S.size = 0 by omega, show k + 1 - S.size = 0 by omega]
        exact empty_of (by rw [ByteArray.size_extract]; omega)
      rw [this, app_nil]
    have e2 : (ts ++ ts').getD k 0 = ts.getD k 0 := by
      simp only [List.getD_eq_getElem?_getD]
      rw [List.getElem?_append_left (by omega)]
    rw [grpTo, grpTo, grp_more S S' ts ts' k (by omega) (by omega), e1, e2]
theorem tk_at (qs : List Pc) (p : Pc) (r : List Int) (j : Nat) (h : j < p.2.size) : (tk qs ++ (List.replicate p.2.size p.1 ++ r)).getD (tot qs + j) 0 = p.1 := by
  rw [List.getD_eq_getElem?_getD, List.getElem?_append_right (by rw [tk_length]; omega), tk_length, show tot qs + j - tot qs = j by omega, List.getElem?_append_left (by simpa using h), List.getElem?_replicate, if_pos h]
  rfl
theorem ext_at (a b c : ByteArray) (j : Nat) (h : j < b.size) : (a ++ (b ++ c)).extract (a.size + j) (a.size + j + 1) = b.extract j (j + 1) := by
  rw [ByteArray.extract_append, ByteArray.extract_append]
  have e1 : a.extract (a.size + j) (a.size + j + 1) = ⟨#[]⟩ := empty_of (by rw [ByteArray.size_extract]; omega)
  have e2 : c.extract (a.size + j - a.size - b.size) (a.size + j + 1 - a.size - b.size) = ⟨#[]⟩ := empty_of (by rw [ByteArray.size_extract]; omega)
  rw [e1, e2, nil_app, app_nil, show a.size + j - a.size = j by omega, show a.size + j + 1 - a.size = j + 1 by omega]
theorem grp_last (qs : List Pc) (p : Pc) (S' : ByteArray) (r : List Int) (hg : grpTo (cat qs) (tk qs) (tot qs) = qs) (hj : joinedB qs p.1 = false) :
    ∀ j, 1 ≤ j → j ≤ p.2.size → grpTo (cat qs ++ (p.2 ++ S')) (tk qs ++ (List.replicate p.2.size p.1 ++ r)) (tot qs + j) = qs ++ [(p.1, p.2.extract 0 j)]
  | 0, h, _ => absurd h (by omega)
  | 1, _, h => by
    have hm := grp_more (cat qs) (p.2 ++ S') (tk qs) (List.replicate p.2.size p.1 ++ r) (tot qs) (by rw [cat_size]; omega) (by rw [tk_length]; omega)
    rw [grpTo, hm, hg, show tot qs = tot qs + 0 from rfl, tk_at qs p r 0 (by omega)]
    have e := ext_at (cat qs) p.2 S' 0 (by omega)
    rw [cat_size] at e
    rw [e]
    unfold addP
    rw [isEmpty_false (by rw [ByteArray.size_extract]; omega), hj]
    simp
  | j + 2, _, h => by
    have ih := grp_last qs p S' r hg hj (j + 1) (by omega) (by omega)
    rw [show tot qs + (j + 2) = tot qs + (j + 1) + 1 by omega, grpTo, ih, tk_at qs p r (j + 1) (by omega)]
    have e := ext_at (cat qs) p.2 S' (j + 1) (by omega)
    rw [cat_size] at e
    rw [e]
    have hjo : joinedB (qs ++ [(p.1, p.2.extract 0 (j + 1))]) p.1 = true := by simp [joinedB]
    unfold addP
    rw [isEmpty_false (by rw [ByteArray.size_extract]; omega), hjo]
    simp only [Bool.false_eq_true, if_false, if_true, joinP_snoc]
    rw [ByteArray.extract_append_extract, show min 0 (j + 1) = 0 by omega, show max (j + 1) (j + 1 + 1) = j + 2 by omega]
/-- the document's pieces are the program's. -/
theorem grp_all : ∀ (n : Nat) (ps : List Pc), ps.length = n → Full ps → (ats ps).Pairwise (· < ·) → grpTo (cat ps) (tk ps) (tot ps) = ps
  | 0, ps, hn, _, _ => by
    have : ps = [] := List.eq_nil_of_length_eq_zero hn
    subst this; rfl
  | n + 1, ps, hn, hf, ha => by
    rcases List.eq_nil_or_concat ps with rfl | ⟨qs, p, rfl⟩
    · simp at hn
    · rw [List.concat_eq_append] at *
      simp only [ats, List.map_append, List.map_cons, List.map_nil] at ha
      obtain ⟨h1, _, h3⟩ := List.pairwise_append.1 ha
      have hfq : Full qs := fun q hq => hf q (List.mem_append.2 (.inl hq))
      have hp : 0 < p.2.size := hf p (List.mem_append.2 (.inr (by simp)))
      have ih := grp_all n qs (by simpa using hn) hfq h1
      have hj : joinedB qs p.1 = false := by
        unfold joinedB
        cases hl : qs.getLast? with
        | none => rfl
        | some q =>
          have hq := List.mem_of_getLast? hl
          have := h3 q.1 (List.mem_map.2 ⟨q, hq, rfl⟩) p.1 (by simp)
          simp; omega
      have hL := grp_last qs p ⟨#[]⟩ [] ih hj p.2.size (by omega) (Nat.le_refl _)
      have e1 : cat (qs ++ [p]) = cat qs ++ (p.2 ++ ⟨#[]⟩) := cat_append qs [p]
      have e2 : tk (qs ++ [p]) = tk qs ++ (List.replicate p.2.size p.1 ++ []) := tk_append qs [p]
      have e3 : tot (qs ++ [p]) = tot qs + p.2.size := by rw [tot_append]; simp [tot]
      rw [e1, e2, e3, hL, ByteArray.extract_zero_size]
end Go.Proofs.Ytcoennfpaimclaa.Ref07
