/- Plain law of cargo (chapter 07): the ticks. No condition. -/
import Derived.Test.YtehpliclknfmoaaCargoP
namespace Go.Proofs.Ytehpliclknfmoaa.Cargo
open Go.RowKit Mem Tick
set_option linter.unusedVariables false
set_option linter.unusedSimpArgs false
def ats (ps : List Pc) : List Int := ps.map (·.1)
/-- the ticks rise, and none is behind the last one's. -/
def Good (x : St) : Prop := Full x.1 ∧ (ats x.1).Pairwise (· < ·) ∧ ∀ a ∈ ats x.1, a ≤ x.2
theorem ats_join : ∀ (ps : List Pc) (s : ByteArray), ats (joinP ps s) = ats ps
  | [], s => rfl
  | [p], s => rfl
  | p :: q :: r, s => by
    have := ats_join (q :: r) s
    rw [joinP]
    simp only [ats, List.map_cons] at this ⊢
    rw [this]
theorem asc_add {ps : List Pc} {t : Int} (s : ByteArray) (h : (ats ps).Pairwise (· < ·)) (hl : ∀ a ∈ ats ps, a ≤ t) : (ats (addP ps t s)).Pairwise (· < ·) ∧ ∀ a ∈ ats (addP ps t s), a ≤ t := by
  unfold addP
  split
  · exact ⟨h, hl⟩
  · split
    · rw [ats_join]; exact ⟨h, hl⟩
    · rename_i _ hj
      have hlt : ∀ a ∈ ats ps, a < t := by
        intro a ha
        rcases List.eq_nil_or_concat ps with rfl | ⟨qs, q, rfl⟩
        · simp [ats] at ha
        · rw [List.concat_eq_append] at *
          have hq : q.1 ≠ t := by simpa [joinedB] using hj
          have hqt : q.1 ≤ t := hl _ (by simp [ats])
          simp only [ats, List.map_append, List.map_cons, List.map_nil] at h ha
          rcases List.mem_append.1 ha with ha | ha
          · have := (List.pairwise_append.1 h).2.2 a ha q.1 (by simp)
            omega
          · simp at ha; omega
      constructor
      · simp only [ats, List.map_append, List.map_cons, List.map_nil]
        exact List.pairwise_append.2 ⟨h, by simp, fun a ha b hb => by simp at hb; subst hb; exact hlt a ha⟩
      · intro a ha
        simp only [ats, List.map_append, List.map_cons, List.map_nil] at ha
        rcases List.mem_append.1 ha with ha | ha
        · exact hl a ha
        · simp at ha; omega
theorem ats_take : ∀ (n : Nat) (ps : List Pc), (ats (takeP n ps).2).Sublist (ats ps)
  | n, [] => by simp [takeP, ats]
  | n, p :: r => by
    unfold takeP
    split
    · exact List.Sublist.refl _
    · split
      · exact List.Sublist.refl _
      · exact (ats_take (n - p.2.size) r).cons _
theorem asc_hur {t last : Int} : ∀ (ps acc : List Pc), (ats ps).Pairwise (· < ·) → (∀ a ∈ ats ps, a ≤ last) → (ats acc).Pairwise (· < ·) → (∀ a ∈ ats acc, a ≤ min last t ∧ ∀ p ∈ ats ps, a ≤ min p t) →
    (ats (ps.foldl (hurF t) acc)).Pairwise (· < ·) ∧ ∀ a ∈ ats (ps.foldl (hurF t) acc), a ≤ min last t
  | [], acc, _, _, h3, h4 => ⟨h3, fun a ha => (h4 a ha).1⟩
  | p :: r, acc, h1, h2, h3, h4 => by
    simp only [ats, List.map_cons] at h1 h2
    obtain ⟨h1a, h1b⟩ := List.pairwise_cons.1 h1
    have hp := h2 p.1 (List.mem_cons_self ..)
    obtain ⟨g1, g2⟩ := asc_add (t := min p.1 t) p.2 h3 fun a ha => (h4 a ha).2 p.1 (by simp [ats])
    rw [List.foldl_cons]
    refine asc_hur r (hurF t acc p) h1b (fun a ha => h2 a (List.mem_cons_of_mem _ ha)) g1 fun a ha => ?_
    have := g2 a ha
    refine ⟨by omega, fun q hq => ?_⟩
    have := h1a q hq
    omega
theorem Good.stp {x : St} (o : Op4) (h : Good x) : Good (stp x o) := by
  have hf := h.1.stp o
  obtain ⟨-, h1, h2⟩ := h
  refine ⟨hf, ?_⟩
  unfold Cargo.stp doesP
  split
  · have hp : ∀ a ∈ ats x.1, a ≤ putAt x.2 o.2.1 := fun a ha => by have := h2 a ha; unfold putAt; omega
    obtain ⟨g1, g2⟩ := asc_add o.2.2.2 h1 hp
    refine ⟨g1, fun a ha => ?_⟩
    unfold putLast
    split
    · rename_i he
      unfold addP at ha
      rw [if_pos he] at ha
      exact h2 a ha
    · exact g2 a ha
  · split
    · exact ⟨h1.sublist (ats_take _ _), fun a ha => h2 a ((ats_take _ _).subset ha)⟩
    · split
      · exact asc_hur x.1 [] h1 h2 (by simp [ats]) (fun a ha => by simp [ats] at ha)
      · split
        · exact ⟨by simp [ats], fun a ha => by simp [ats] at ha⟩
        · exact ⟨h1, h2⟩
theorem Good.nil (last : Int) : Good ([], last) := ⟨Full.nil, by simp [ats], fun a ha => by simp [ats] at ha⟩
theorem rdy_all {now : Int} : ∀ {ps : List Pc}, (∀ a ∈ ats ps, a ≤ now) → rdy now ps = tot ps
  | [], _ => rfl
  | p :: r, h => by
    have h1 := h p.1 (by simp [ats])
    have h2 := rdy_all (now := now) (ps := r) fun a ha => h a (by simp [ats] at ha ⊢; exact .inr ha)
    rw [rdy, tot, if_pos h1, h2]
theorem rdy_no {now : Int} : ∀ {ps : List Pc}, (∀ a ∈ ats ps, now < a) → rdy now ps = 0
  | [], _ => rfl
  | p :: r, h => by
    have h1 := h p.1 (by simp [ats])
    have h2 := rdy_no (now := now) (ps := r) fun a ha => h a (by simp [ats] at ha ⊢; exact .inr ha)
    rw [rdy, if_neg (by omega), h2]
theorem rdy_join (now : Int) : ∀ (ps : List Pc) (t : Int) (s : ByteArray), joinedB ps t = true → rdy now (joinP ps s) = rdy now ps + if t ≤ now then s.size else 0
  | [], t, s, h => by simp [joinedB] at h
  | [p], t, s, h => by
    have : p.1 = t := by simpa [joinedB] using h
    subst this
    simp only [joinP, rdy, ByteArray.size_append]
    split <;> omega
  | p :: q :: r, t, s, h => by
    have := rdy_join now (q :: r) t s (by simpa [joinedB] using h)
    show (if p.1 ≤ now then p.2.size else 0) + rdy now (joinP (q :: r) s) = (if p.1 ≤ now then p.2.size else 0) + rdy now (q :: r) + _
    rw [this]; omega
theorem rdy_add (now : Int) (ps : List Pc) (t : Int) (s : ByteArray) : rdy now (addP ps t s) = rdy now ps + if t ≤ now then s.size else 0 := by
  unfold addP
  split
  · rename_i h
    rw [isEmpty_size] at h
    have : s.size = 0 := by simpa using h
    rw [this]; simp
  · split
    · rename_i h; exact rdy_join now ps t s h
    · rw [rdy_append]; simp [rdy]
/-- where the ticks rise, what is ready is the first bytes. -/
theorem rdy_takeP (now : Int) : ∀ (n : Nat) (ps : List Pc), (ats ps).Pairwise (· < ·) → n ≤ rdy now ps → rdy now (takeP n ps).2 = rdy now ps - n
  | n, [], _, h => by simp [rdy, takeP] at h ⊢
  | n, p :: r, h1, h => by
    simp only [ats, List.map_cons] at h1
    obtain ⟨h1a, h1b⟩ := List.pairwise_cons.1 h1
    unfold takeP
    split
    · subst n; rfl
    · rename_i hn
      by_cases hp : p.1 ≤ now
      · simp only [rdy, if_pos hp] at h ⊢
        split
        · simp only [rdy, if_pos hp, ByteArray.size_extract]; omega
        · rw [rdy_takeP now _ r h1b (by omega)]; omega
      · have : rdy now (p :: r) = 0 := rdy_no fun a ha => by
          simp only [ats, List.map_cons] at ha
          rcases List.mem_cons.1 ha with rfl | ha
          · omega
          · have := h1a a ha; omega
        omega
theorem rest_late {now : Int} {ps : List Pc} (h1 : (ats ps).Pairwise (· < ·)) (hf : Full ps) (h : rdy now ps = 0) : ∀ a ∈ ats ps, now < a := by
  cases ps with
  | nil => intro a ha; simp [ats] at ha
  | cons p r =>
    have hp := hf p (List.mem_cons_self ..)
    have hlt : now < p.1 := by
      rcases Int.lt_or_le now p.1 with h' | h'
      · exact h'
      · rw [rdy, if_pos h'] at h; omega
    intro a ha
    simp only [ats, List.map_cons] at ha h1
    rcases List.mem_cons.1 ha with rfl | ha
    · exact hlt
    · have := (List.pairwise_cons.1 h1).1 a ha; omega
theorem tot_takeP (n : Nat) (ps : List Pc) : (takeP n ps).1.size + tot (takeP n ps).2 = tot ps := by
  have := congrArg ByteArray.size (cat_takeP n ps)
  rwa [ByteArray.size_append, cat_size, cat_size] at this
theorem size_takeP : ∀ (n : Nat) (ps : List Pc), n ≤ tot ps → (takeP n ps).1.size = n
  | n, [], h => by simp [tot] at h; subst h; rfl
  | n, p :: r, h => by
    unfold takeP
    simp only [tot] at h
    split
    · subst n; rfl
    · split
      · rw [ByteArray.size_extract]; omega
      · rw [ByteArray.size_append, size_takeP _ r (by omega)]; omega
/-- taken in two parts is taken at once. -/
theorem takeP_two : ∀ (a b : Nat) (ps : List Pc), a ≤ tot ps → (takeP a ps).1 ++ (takeP b (takeP a ps).2).1 = (takeP (a + b) ps).1 ∧ tot (takeP b (takeP a ps).2).2 = tot (takeP (a + b) ps).2
  | a, b, [], h => by simp only [takeP]; exact ⟨nil_app _, trivial⟩
  | a, b, p :: r, h => by
    simp only [tot] at h
    by_cases ha : a = 0
    · subst ha
      rw [takeP_zero, Nat.zero_add]
      exact ⟨nil_app _, rfl⟩
    · by_cases hap : a < p.2.size
      · have e1 : takeP a (p :: r) = (p.2.extract 0 a, (p.1, p.2.extract a p.2.size) :: r) := by simp [takeP, ha, hap]
        rw [e1]
        by_cases hb : b = 0
        · subst hb
          rw [takeP_zero, Nat.add_zero, e1]
          exact ⟨app_nil _, rfl⟩
        · have hsz : (p.2.extract a p.2.size).size = p.2.size - a := by rw [ByteArray.size_extract]; omega
          by_cases hbp : a + b < p.2.size
          · have e2 : takeP (a + b) (p :: r) = (p.2.extract 0 (a + b), (p.1, p.2.extract (a + b) p.2.size) :: r) := by simp [takeP, ha, hbp]
            rw [e2]
            have e3 : takeP b ((p.1, p.2.extract a p.2.size) :: r) = ((p.2.extract a p.2.size).extract 0 b, (p.1, (p.2.extract a p.2.size).extract b (p.2.size - a)) :: r) := by
              simp only [takeP, if_neg hb, hsz]
              rw [if_pos (by omega)]
            rw [e3]
            refine ⟨?_, ?_⟩
            · simp only [ByteArray.extract_extract]
              rw [show min (a + b) p.2.size = a + b by omega, Nat.add_zero, ByteArray.extract_append_extract]
              rw [show min 0 a = 0 by omega, show max a (a + b) = a + b by omega]
            · simp only [tot, ByteArray.size_extract]; omega
          · have e2 : takeP (a + b) (p :: r) = (p.2 ++ (takeP (a + b - p.2.size) r).1, (takeP (a + b - p.2.size) r).2) := by
              rw [takeP, if_neg (by omega), if_neg hbp]
            have e3 : takeP b ((p.1, p.2.extract a p.2.size) :: r) = (p.2.extract a p.2.size ++ (takeP (b - (p.2.size - a)) r).1, (takeP (b - (p.2.size - a)) r).2) := by
              rw [takeP, if_neg hb, if_neg (by rw [hsz]; omega), hsz]
            rw [e2, e3, show a + b - p.2.size = b - (p.2.size - a) by omega]
            refine ⟨?_, rfl⟩
            simp only
            rw [← ByteArray.append_assoc, ext_split _ _ (by omega)]
      · have e1 : takeP a (p :: r) = (p.2 ++ (takeP (a - p.2.size) r).1, (takeP (a - p.2.size) r).2) := by
          rw [takeP, if_neg ha, if_neg hap]
        have e2 : takeP (a + b) (p :: r) = (p.2 ++ (takeP (a - p.2.size + b) r).1, (takeP (a - p.2.size + b) r).2) := by
          rw [takeP, if_neg (by omega), if_neg (by omega), show a + b - p.2.size = a - p.2.size + b by omega]
        obtain ⟨h1, h2⟩ := takeP_two (a - p.2.size) b r (by omega)
        rw [e1, e2]
        refine ⟨?_, h2⟩
        simp only
        rw [ByteArray.append_assoc, h1]
end Go.Proofs.Ytehpliclknfmoaa.Cargo
