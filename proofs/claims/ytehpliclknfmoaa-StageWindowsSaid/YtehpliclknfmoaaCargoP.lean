/- Plain law of cargo (chapter 07): what calls do to the bytes. No condition. -/
import Derived.Test.YtehpliclknfmoaaAlive7
namespace Go.Proofs.Ytehpliclknfmoaa.Cargo
open Go.RowKit Mem Tick
set_option linter.unusedVariables false
set_option linter.unusedSimpArgs false
def stp (x : St) (o : Op4) : St := (doesP o.1 o.2.1 o.2.2.1 o.2.2.2 x).2
def outp (x : St) (o : Op4) : ByteArray := (doesP o.1 o.2.1 o.2.2.1 o.2.2.2 x).1.2
theorem Full.nil : Full [] := fun p h => by simp at h
theorem Full.tail {p : Pc} {r : List Pc} (h : Full (p :: r)) : Full r := fun q hq => h q (List.mem_cons_of_mem _ hq)
theorem Full.join : ∀ {ps : List Pc} (s : ByteArray), Full ps → Full (joinP ps s)
  | [], s, h => h
  | [p], s, h => fun q hq => by
    have := h p (List.mem_cons_self ..)
    simp [joinP] at hq
    subst hq
    show 0 < (p.2 ++ s).size
    rw [ByteArray.size_append]; omega
  | p :: q :: r, s, h => fun x hx => by
    rw [joinP] at hx
    rcases List.mem_cons.1 hx with rfl | hx
    · exact h x (List.mem_cons_self ..)
    · exact Full.join (ps := q :: r) s h.tail x hx
theorem Full.add {ps : List Pc} (t : Int) (s : ByteArray) (h : Full ps) : Full (addP ps t s) := by
  unfold addP
  split
  · exact h
  · split
    · exact h.join s
    · rename_i h1 _
      intro q hq
      rcases List.mem_append.1 hq with hq | hq
      · exact h q hq
      · simp at hq
        subst hq
        rw [isEmpty_size] at h1
        have : ¬ s.size = 0 := by simpa using h1
        show 0 < s.size
        omega
theorem Full.take : ∀ (n : Nat) {ps : List Pc}, Full ps → Full (takeP n ps).2
  | n, [], h => by simpa [takeP] using h
  | n, p :: r, h => by
    unfold takeP
    split
    · exact h
    · split
      · intro q hq
        rcases List.mem_cons.1 hq with rfl | hq
        · show 0 < (p.2.extract n p.2.size).size
          rw [ByteArray.size_extract]; omega
        · exact h q (List.mem_cons_of_mem _ hq)
      · exact Full.take _ h.tail
theorem Full.hur {t : Int} {ps : List Pc} (h : Full ps) : Full (hur t ps) := by
  have key : ∀ (ps acc : List Pc), Full acc → Full (ps.foldl (hurF t) acc) := by
    intro ps
    induction ps with
    | nil => intro acc h; exact h
    | cons p r ih => intro acc h; exact ih _ (h.add _ _)
  exact key ps [] Full.nil
theorem Full.stp {x : St} (o : Op4) (h : Full x.1) : Full (stp x o).1 := by
  unfold Cargo.stp doesP
  split
  · exact h.add _ _
  · split
    · exact h.take _
    · split
      · exact h.hur
      · split
        · exact Full.nil
        · exact h
theorem len_tot {ps : List Pc} (h : Full ps) : ps.length ≤ tot ps := by
  induction ps with
  | nil => simp [tot]
  | cons p r ih =>
    have := ih h.tail
    have := h p (List.mem_cons_self ..)
    simp only [tot, List.length_cons]; omega
theorem app_nil (s : ByteArray) : s ++ ⟨#[]⟩ = s := ByteArray.append_empty
theorem nil_app (s : ByteArray) : ⟨#[]⟩ ++ s = s := ByteArray.empty_append
theorem cat_join : ∀ (ps : List Pc) (s : ByteArray), ps ≠ [] → cat (joinP ps s) = cat ps ++ s
  | [], s, h => absurd rfl h
  | [p], s, _ => by simp only [joinP, cat]; rw [app_nil, app_nil]
  | p :: q :: r, s, _ => by
    rw [joinP, cat, cat, cat_join (q :: r) s (by simp), ByteArray.append_assoc]
theorem cat_add (ps : List Pc) (t : Int) (s : ByteArray) : cat (addP ps t s) = cat ps ++ s := by
  unfold addP
  split
  · rename_i h
    rw [isEmpty_size] at h
    have : s = ⟨#[]⟩ := empty_of (by have : s.size = 0 := by simpa using h
                                     omega)
    rw [this, app_nil]
  · split
    · rename_i h
      refine cat_join ps s ?_
      rintro rfl
      simp [joinedB] at h
    · rw [cat_append]
      show _ ++ (s ++ ⟨#[]⟩) = _
      rw [app_nil]
theorem ext_split (s : ByteArray) (n : Nat) (h : n ≤ s.size) : s.extract 0 n ++ s.extract n s.size = s := by
  rw [ByteArray.extract_append_extract]
  have h1 : min 0 n = 0 := by omega
  have h2 : max n s.size = s.size := by omega
  rw [h1, h2, ByteArray.extract_zero_size]
theorem cat_takeP : ∀ (n : Nat) (ps : List Pc), (takeP n ps).1 ++ cat (takeP n ps).2 = cat ps
  | n, [] => by simp only [takeP, cat]; exact nil_app _
  | n, p :: r => by
    unfold takeP
    split
    · exact nil_app _
    · split
      · rename_i h
        simp only [cat]
        rw [← ByteArray.append_assoc, ext_split _ _ (by omega)]
      · rw [ByteArray.append_assoc, cat_takeP, cat]
theorem cat_hur (t : Int) (ps : List Pc) : cat (hur t ps) = cat ps := by
  have key : ∀ (ps acc : List Pc), cat (ps.foldl (hurF t) acc) = cat acc ++ cat ps := by
    intro ps
    induction ps with
    | nil => intro acc; exact (app_nil _).symm
    | cons p r ih => intro acc; rw [List.foldl_cons, ih, hurF, cat_add, cat, ByteArray.append_assoc]
  have := key ps []
  unfold hur
  rw [this]
  exact nil_app _
/-- what a call hands out, and what is left, is what there was, and what came. -/
theorem cat_stp (x : St) (o : Op4) : outp x o ++ cat (stp x o).1 = cat x.1 ++ (if o.1 = 0 then o.2.2.2 else ⟨#[]⟩) := by
  unfold outp stp doesP
  by_cases h0 : o.1 = 0
  · simp only [if_pos h0]
    rw [nil_app, cat_add]
  · simp only [if_neg h0]
    rw [app_nil]
    by_cases h1 : o.1 = 1
    · simp only [if_pos h1]; exact cat_takeP _ _
    · simp only [if_neg h1]
      by_cases h2 : o.1 = 2
      · simp only [if_pos h2]; rw [nil_app, cat_hur]
      · simp only [if_neg h2]
        by_cases h3 : o.1 = 3
        · simp only [if_pos h3]; exact app_nil _
        · simp only [if_neg h3]; exact nil_app _
theorem tot_stp (x : St) (o : Op4) : (outp x o).size + tot (stp x o).1 ≤ tot x.1 + o.2.2.2.size := by
  have := congrArg ByteArray.size (cat_stp x o)
  rw [ByteArray.size_append, ByteArray.size_append, cat_size, cat_size] at this
  by_cases h0 : o.1 = 0
  · rw [if_pos h0] at this; omega
  · rw [if_neg h0] at this
    have h1 : (⟨#[]⟩ : ByteArray).size = 0 := rfl
    omega
end Go.Proofs.Ytehpliclknfmoaa.Cargo
