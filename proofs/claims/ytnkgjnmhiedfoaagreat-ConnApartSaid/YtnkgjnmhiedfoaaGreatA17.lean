/- alive (chapter 07). Conditions: none. -/
import Derived.Test.YtnkgjnmhiedfoaaGreatA16
import Derived.Lib.SlBytesConst
namespace Go.Proofs.YtnkgjnmhiedfoaaGreat.Cargo
open Go.RowKit Mem Tick
open Go.Proofs.YtnkgjnmhiedfoaaGreatW.PrintWords (QRow q_slice q_cells q_max q_append q_drop q_move q_typed q_lt q_of_own add_at cut_from)
set_option maxRecDepth 100000
set_option linter.unusedVariables false
set_option linter.unusedSimpArgs false
theorem bs_const (w : World) (C : Array Value) (fr : Nat × Nat) (s : ByteArray) (hC : ∀ i (h : i < s.size), C[i]? = some (.int .u8 (s[i].toNat : Int))) : BS (w.alloc (.cells C 5 fr)) (some ⟨w.heap.size, 0, none⟩) s := by
  intro hs
  refine ⟨_, 0, rfl, fun i hi => ?_⟩
  have hb : (w.alloc (.cells C 5 fr)).heap[w.heap.size]? = some (.cells C 5 fr) := heap_alloc_new w _
  rw [cell_of_row _ _ _ _ _ _ hb, Nat.zero_add]
  exact hC i hi
def sAB : ByteArray := ⟨#[97, 98]⟩
theorem sAB_of (w : World) : BS (w.alloc (.cells #[.int .u8 97, .int .u8 98] 5 (2, 3))) (some ⟨w.heap.size, 0, none⟩) sAB :=
  bs_const w _ _ _ fun i hi => by
    match i, hi with
    | 0, _ => rfl
    | 1, _ => rfl
end Go.Proofs.YtnkgjnmhiedfoaaGreat.Cargo
namespace Go.Proofs.YtnkgjnmhiedfoaaGreat.Cargo
open Go.RowKit Mem Tick
set_option linter.unusedVariables false
set_option linter.unusedSimpArgs false
def stp (x : St) (o : Op4) : St := (doesP o.1 o.2.1 o.2.2.1 o.2.2.2 x).2
theorem Full.nil : Full [] := fun p h => by simp at h
theorem Full.tail {p : Pc} {r : List Pc} (h : Full (p :: r)) : Full r := fun q hq => h q (List.mem_cons_of_mem _ hq)
theorem Full.join : ∀ {ps : List Pc} (s : ByteArray), Full ps → Full (joinP ps s)
  | [], s, h => h
  | [p], s, h => fun q hq => by
    have := h p (List.mem_cons_self ..)
    simp [joinP] at hq
    subst hq
    show 0 < (p.2 ++ s).size
    rw [ByteArray.size_append]; omega
  | p :: q :: r, s, h => fun x hx => by
    rw [joinP] at hx
    rcases List.mem_cons.1 hx with rfl | hx
    · exact h x (List.mem_cons_self ..)
    · exact Full.join (ps := q :: r) s h.tail x hx
theorem Full.add {ps : List Pc} (t : Int) (s : ByteArray) (h : Full ps) : Full (addP ps t s) := by
  unfold addP
  split
  · exact h
  · split
    · exact h.join s
    · rename_i h1 _
      intro q hq
      rcases List.mem_append.1 hq with hq | hq
      · exact h q hq
      · simp at hq
        subst hq
        rw [isEmpty_size] at h1
        have : ¬ s.size = 0 := by simpa using h1
        show 0 < s.size
        omega
theorem Full.take : ∀ (n : Nat) {ps : List Pc}, Full ps → Full (takeP n ps).2
  | n, [], h => by simpa [takeP] using h
  | n, p :: r, h => by
    unfold takeP
    split
    · exact h
    · split
      · intro q hq
        rcases List.mem_cons.1 hq with rfl | hq
        · show 0 < (p.2.extract n p.2.size).size
          rw [ByteArray.size_extract]; omega
        · exact h q (List.mem_cons_of_mem _ hq)
      · exact Full.take _ h.tail
theorem Full.hur {t : Int} {ps : List Pc} (h : Full ps) : Full (hur t ps) := by
  have key : ∀ (ps acc : List Pc), Full acc → Full (ps.foldl (hurF t) acc) := by
    intro ps
    induction ps with
    | nil => intro acc h; exact h
    | cons p r ih => intro acc h; exact ih _ (h.add _ _)
  exact key ps [] Full.nil
theorem Full.stp {x : St} (o : Op4) (h : Full x.1) : Full (stp x o).1 := by
  unfold Cargo.stp doesP
  split
  · exact h.add _ _
  · split
    · exact h.take _
    · split
      · exact h.hur
      · split
        · exact Full.nil
        · exact h
theorem len_tot {ps : List Pc} (h : Full ps) : ps.length ≤ tot ps := by
  induction ps with
  | nil => simp [tot]
  | cons p r ih =>
    have := ih h.tail
    have := h p (List.mem_cons_self ..)
    simp only [tot, List.length_cons]; omega
theorem app_nil (s : ByteArray) : s ++ ⟨#[]⟩ = s := ByteArray.append_empty
theorem nil_app (s : ByteArray) : ⟨#[]⟩ ++ s = s := ByteArray.empty_append
theorem cat_join : ∀ (ps : List Pc) (s : ByteArray), ps ≠ [] → cat (joinP ps s) = cat ps ++ s
  | [], s, h => absurd rfl h
  | [p], s, _ => by simp only [joinP, cat]; rw [app_nil, app_nil]
  | p :: q :: r, s, _ => by
    rw [joinP, cat, cat, cat_join (q :: r) s (by simp), ByteArray.append_assoc]
theorem cat_add (ps : List Pc) (t : Int) (s : ByteArray) : cat (addP ps t s) = cat ps ++ s := by
  unfold addP
  split
  · rename_i h
    rw [isEmpty_size] at h
    have : s = ⟨#[]⟩ := empty_of (by have : s.size = 0 := by simpa using h
                                     omega)
    rw [this, app_nil]
  · split
    · rename_i h
      refine cat_join ps s ?_
      rintro rfl
      simp [joinedB] at h
    · rw [cat_append]
      show _ ++ (s ++ ⟨#[]⟩) = _
      rw [app_nil]
theorem ext_split (s : ByteArray) (n : Nat) (h : n ≤ s.size) : s.extract 0 n ++ s.extract n s.size = s := by
  rw [ByteArray.extract_append_extract]
  have h1 : min 0 n = 0 := by omega
  have h2 : max n s.size = s.size := by omega
  rw [h1, h2, ByteArray.extract_zero_size]
theorem cat_takeP : ∀ (n : Nat) (ps : List Pc), (takeP n ps).1 ++ cat (takeP n ps).2 = cat ps
  | n, [] => by simp only [takeP, cat]; exact nil_app _
  | n, p :: r => by
    unfold takeP
    split
    · exact nil_app _
    · split
      · rename_i h
        simp only [cat]
        rw [← ByteArray.append_assoc, ext_split _ _ (by omega)]
      · rw [ByteArray.append_assoc, cat_takeP, cat]
end Go.Proofs.YtnkgjnmhiedfoaaGreat.Cargo
namespace Go.Proofs.YtnkgjnmhiedfoaaGreat.Cargo
open Go.RowKit Mem Tick
set_option linter.unusedVariables false
set_option linter.unusedSimpArgs false
def ats (ps : List Pc) : List Int := ps.map (·.1)
def Good (x : St) : Prop := Full x.1 ∧ (ats x.1).Pairwise (· < ·) ∧ ∀ a ∈ ats x.1, a ≤ x.2
theorem ats_join : ∀ (ps : List Pc) (s : ByteArray), ats (joinP ps s) = ats ps
  | [], s => rfl
  | [p], s => rfl
  | p :: q :: r, s => by
    have := ats_join (q :: r) s
    rw [joinP]
    simp only [ats, List.map_cons] at this ⊢
    rw [this]
theorem asc_add {ps : List Pc} {t : Int} (s : ByteArray) (h : (ats ps).Pairwise (· < ·)) (hl : ∀ a ∈ ats ps, a ≤ t) : (ats (addP ps t s)).Pairwise (· < ·) ∧ ∀ a ∈ ats (addP ps t s), a ≤ t := by
  unfold addP
  split
  · exact ⟨h, hl⟩
  · split
    · rw [ats_join]; exact ⟨h, hl⟩
    · rename_i _ hj
      have hlt : ∀ a ∈ ats ps, a < t := by
        intro a ha
        rcases List.eq_nil_or_concat ps with rfl | ⟨qs, q, rfl⟩
        · simp [ats] at ha
        · rw [List.concat_eq_append] at *
          have hq : q.1 ≠ t := by simpa [joinedB] using hj
          have hqt : q.1 ≤ t := hl _ (by simp [ats])
          simp only [ats, List.map_append, List.map_cons, List.map_nil] at h ha
          rcases List.mem_append.1 ha with ha | ha
          · have := (List.pairwise_append.1 h).2.2 a ha q.1 (by simp)
            omega
          · simp at ha; omega
      constructor
      · simp only [ats, List.map_append, List.map_cons, List.map_nil]
        exact List.pairwise_append.2 ⟨h, by simp, fun a ha b hb => by simp at hb; subst hb; exact hlt a ha⟩
      · intro a ha
        simp only [ats, List.map_append, List.map_cons, List.map_nil] at ha
        rcases List.mem_append.1 ha with ha | ha
        · exact hl a ha
        · simp at ha; omega
theorem ats_take : ∀ (n : Nat) (ps : List Pc), (ats (takeP n ps).2).Sublist (ats ps)
  | n, [] => by simp [takeP, ats]
  | n, p :: r => by
    unfold takeP
    split
    · exact List.Sublist.refl _
    · split
      · exact List.Sublist.refl _
      · exact (ats_take (n - p.2.size) r).cons _
theorem asc_hur {t last : Int} : ∀ (ps acc : List Pc), (ats ps).Pairwise (· < ·) → (∀ a ∈ ats ps, a ≤ last) → (ats acc).Pairwise (· < ·) → (∀ a ∈ ats acc, a ≤ min last t ∧ ∀ p ∈ ats ps, a ≤ min p t) →
    (ats (ps.foldl (hurF t) acc)).Pairwise (· < ·) ∧ ∀ a ∈ ats (ps.foldl (hurF t) acc), a ≤ min last t
  | [], acc, _, _, h3, h4 => ⟨h3, fun a ha => (h4 a ha).1⟩
  | p :: r, acc, h1, h2, h3, h4 => by
    simp only [ats, List.map_cons] at h1 h2
    obtain ⟨h1a, h1b⟩ := List.pairwise_cons.1 h1
    have hp := h2 p.1 (List.mem_cons_self ..)
    obtain ⟨g1, g2⟩ := asc_add (t := min p.1 t) p.2 h3 fun a ha => (h4 a ha).2 p.1 (by simp [ats])
    rw [List.foldl_cons]
    refine asc_hur r (hurF t acc p) h1b (fun a ha => h2 a (List.mem_cons_of_mem _ ha)) g1 fun a ha => ?_
    have := g2 a ha
    refine ⟨by omega, fun q hq => ?_⟩
    have := h1a q hq
    omega
theorem Good.stp {x : St} (o : Op4) (h : Good x) : Good (stp x o) := by
  have hf := h.1.stp o
  obtain ⟨-, h1, h2⟩ := h
  refine ⟨hf, ?_⟩
  unfold Cargo.stp doesP
  split
  · have hp : ∀ a ∈ ats x.1, a ≤ putAt x.2 o.2.1 := fun a ha => by have := h2 a ha; unfold putAt; omega
    obtain ⟨g1, g2⟩ := asc_add o.2.2.2 h1 hp
    refine ⟨g1, fun a ha => ?_⟩
    unfold putLast
    split
    · rename_i he
      unfold addP at ha
      rw [if_pos he] at ha
      exact h2 a ha
    · exact g2 a ha
  · split
    · exact ⟨h1.sublist (ats_take _ _), fun a ha => h2 a ((ats_take _ _).subset ha)⟩
    · split
      · exact asc_hur x.1 [] h1 h2 (by simp [ats]) (fun a ha => by simp [ats] at ha)
      · split
        · exact ⟨by simp [ats], fun a ha => by simp [ats] at ha⟩
        · exact ⟨h1, h2⟩
theorem Good.nil (last : Int) : Good ([], last) := ⟨Full.nil, by simp [ats], fun a ha => by simp [ats] at ha⟩
theorem tot_takeP (n : Nat) (ps : List Pc) : (takeP n ps).1.size + tot (takeP n ps).2 = tot ps := by
  have := congrArg ByteArray.size (cat_takeP n ps)
  rwa [ByteArray.size_append, cat_size, cat_size] at this
end Go.Proofs.YtnkgjnmhiedfoaaGreat.Cargo
namespace Go.Proofs.YtnkgjnmhiedfoaaGreat.Cargo
open Go.RowKit Mem Tick
set_option linter.unusedVariables false
set_option linter.unusedSimpArgs false
def Live (w wr : World) (b : Nat) (x : St) : Prop := ∃ F, CG wr F b x.1 x.2 ∧ (∀ k, F k → w.heap.size ≤ k) ∧ Below w.heap.size w wr ∧ Good x
def Keep (wr w2 : World) : Prop := ∀ k t cs, Blk wr k t cs → t ≠ 144 → t ≠ 146 → Blk w2 k t cs
theorem Keep.trans {a b c : World} (h : Keep a b) (g : Keep b c) : Keep a c := fun k t cs hb h1 h2 => g k t cs (h k t cs hb h1 h2) h1 h2
theorem CG.keep {wr w2 : World} {F : Nat → Prop} {b : Nat} {ps : List Pc} {last : Int} (h : CG wr F b ps last) (hd : Did F wr w2) : Keep wr w2 := fun k t cs hb h1 h2 =>
  hb.did hd (h.typed.out hb (by simp only [List.mem_cons, List.not_mem_nil, or_false]; rintro (e | e) <;> contradiction))
theorem Live.good {w wr : World} {b : Nat} {x : St} (h : Live w wr b x) : Good x := by obtain ⟨F, _, _, _, hg⟩ := h; exact hg
section
variable {w wr : World} {b : Nat} {x : St}
end
end Go.Proofs.YtnkgjnmhiedfoaaGreat.Cargo
