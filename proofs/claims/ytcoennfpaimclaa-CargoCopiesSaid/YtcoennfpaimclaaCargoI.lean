/- Cargo (chapter 07): Hurry. Conditions: the bytes are fewer than 2^46. -/
import Derived.Test.YtcoennfpaimclaaCargoH
namespace Go.Proofs.Ytcoennfpaimclaa.Cargo
open Go.RowKit Mem Tick
open Go.Proofs.YtcoennfpaimclaaW.PrintWords (QRow q_slice q_cells q_max q_append q_drop q_move q_typed q_lt q_of_own add_at)
set_option maxRecDepth 100000
set_option linter.unusedVariables false
set_option linter.unusedSimpArgs false
theorem tot_joinP : ∀ (ps : List Pc) (s : ByteArray), ps ≠ [] → tot (joinP ps s) = tot ps + s.size
  | [], s, h => absurd rfl h
  | [p], s, _ => by simp [joinP, tot, ByteArray.size_append]
  | p :: q :: r, s, _ => by
    have := tot_joinP (q :: r) s (by simp)
    simp only [joinP, tot] at this ⊢
    omega
theorem len_joinP : ∀ (ps : List Pc) (s : ByteArray), (joinP ps s).length = ps.length
  | [], s => rfl
  | [p], s => rfl
  | p :: q :: r, s => by
    have := len_joinP (q :: r) s
    simp only [joinP, List.length_cons] at this ⊢
    omega
theorem tot_addP (ps : List Pc) (t : Int) (s : ByteArray) : tot (addP ps t s) = tot ps + s.size := by
  unfold addP
  rw [isEmpty_size]
  by_cases h : s.size = 0
  · rw [if_pos (decide_eq_true h), h]; rfl
  · rw [if_neg (by simp [h])]
    by_cases hj : joinedB ps t = true
    · rw [if_pos hj]
      refine tot_joinP ps s ?_
      rintro rfl
      simp [joinedB] at hj
    · rw [if_neg hj, tot_append]; simp [tot]
theorem len_addP (ps : List Pc) (t : Int) (s : ByteArray) : (addP ps t s).length ≤ ps.length + 1 := by
  unfold addP
  split
  · omega
  · split
    · rw [len_joinP]; omega
    · simp
def hurF (at_ : Int) (acc : List Pc) (p : Pc) : List Pc := addP acc (min p.1 at_) p.2
def hur (at_ : Int) (ps : List Pc) : List Pc := ps.foldl (hurF at_) []
theorem hur_take (at_ : Int) (ps : List Pc) (k : Nat) (p : Pc) (h : ps[k]? = some p) : hur at_ (ps.take (k + 1)) = addP (hur at_ (ps.take k)) (min p.1 at_) p.2 := by
  unfold hur
  rw [List.take_add_one, h, List.foldl_append]
  rfl
theorem tot_hur (at_ : Int) (ps : List Pc) : tot (hur at_ ps) = tot ps := by
  have key : ∀ (ps acc : List Pc), tot (ps.foldl (hurF at_) acc) = tot acc + tot ps := by
    intro ps
    induction ps with
    | nil => intro acc; rfl
    | cons p r ih => intro acc; rw [List.foldl_cons, ih, hurF, tot_addP, tot]; omega
  have := key ps []
  unfold hur
  simpa [tot] using this
theorem len_hur (at_ : Int) (ps : List Pc) : (hur at_ ps).length ≤ ps.length := by
  have key : ∀ (ps acc : List Pc), (ps.foldl (hurF at_) acc).length ≤ acc.length + ps.length := by
    intro ps
    induction ps with
    | nil => intro acc; simp
    | cons p r ih => intro acc; rw [List.foldl_cons]; have := ih (hurF at_ acc p); have := len_addP acc (min p.1 at_) p.2; unfold hurF at *; simp only [List.length_cons]; omega
  have := key ps []
  unfold hur
  simpa using this
theorem dcells {F : Nat → Prop} {w w' : World} (hd : Did F w w') {g o : Nat} {v : Value} (h : w.cell? ⟨g, o, none⟩ = some v) (hg : ¬ F g) : w'.cell? ⟨g, o, none⟩ = some v :=
  (World.cell?_of_block (a := ⟨g, o, none⟩) (hd.block g (World.block_lt_of_cell? w _ h) hg)).trans h
theorem hurry_any {w : World} {F : Nat → Prop} {b : Nat} {ps : List Pc} {last : Int} (at_ : Int) (h : CG w F b ps last) (ht : tot ps ≤ 70368744177664) (hn : ps.length ≤ 1000000000000) :
    Calls Try.prog 18 #[.pointer (some ⟨b, 0, none⟩), .int .i64 at_] w fun e w' => e = .returned (.tuple #[]) ∧ ∃ F', CG w' F' b (hur (add at_ 0) ps) (min last (add at_ 0)) ∧ Did F w w' ∧ Stem F F' w := by
  have H := Lib.hid h
  obtain ⟨A, cap, hb, hlc, hm, hA⟩ := h.view
  have c0 := hb.cell 0
  have c1 := hb.cell 1
  have hlt := hb.lt
  have f0 := hb.free 0
  have f1 := hb.free 1
  simp at c0 c1
  clear hb h
  go_enter Try.func18, Try.ntmps18
  go_wp2_with (go_at_call 28; (with_reducible refine (Tick.add_any at_ 0 _).mono ?_); rintro e wn ⟨rfl, rfl⟩)
  generalize hta : add at_ 0 = t at *
  have hT := Lib.hid hta
  clear hta
  have hst := Lib.hid (H.out.nil_.last_ (min last t))
  have hd0 := Lib.hid (((Did.refl (· = b) w).setCell (p := ⟨b, 0, none⟩) (.inl rfl) (.slice none 0 0)).setCell (p := ⟨b, 1, none⟩) (.inl rfl) (.int .i64 (min last t)))
  go_loopw [27] (fun iv wr => ∃ (k : Nat) (F' : Nat → Prop), k ≤ ps.length ∧ iv = .int .i64 k ∧ CG wr F' b (hur t (ps.take k)) (min last t) ∧ Did (· = b) w wr ∧ Stem (· = b) F' w) (fun iv _ => ps.length - (intOf iv).toNat)
  case atStart => exact ⟨0, _, by omega, rfl, hst.out, hd0.out, Stem.refl _ _⟩
  case round =>
    obtain ⟨k, F', hk, rfl, hC, hD, hS⟩ := hrel
    clear hst hd0
    by_cases hlt' : k < ps.length
    · obtain ⟨g, o, rfl, hc⟩ := hA (by intro h; subst h; simp at hlt')
      have hgb := (H.out.row c0).2.1
      have hx : ps[k]? = some ps[k] := List.getElem?_eq_getElem hlt'
      obtain ⟨d0, d1⟩ := hc k _ hx
      have hs := Lib.hid (hur_take t ps k _ hx)
      have hle := tot_take_le ps (k + 1)
      rw [tot_take ps k _ hx] at hle
      have htk : tot (hur t (ps.take k)) = tot (ps.take k) := tot_hur _ _
      have hlk : (hur t (ps.take k)).length ≤ ps.length := Nat.le_trans (len_hur _ _) (by rw [List.length_take]; omega)
      generalize ps[k] = p at *
      have d0' := dcells hD d0 hgb
      have d1' := dcells hD d1 hgb
      generalize hs1 : hur t (ps.take (k + 1)) = s1 at *
      have hs1' := Lib.hid hs1
      generalize hur t (ps.take k) = s0 at *
      have hh := Lib.hid (show CG wr F' b s0 (min last t) ∧ Did (· = b) w wr ∧ Stem (· = b) F' w from ⟨hC, hD, hS⟩)
      have ht0 : tot s0 + p.2.size ≤ 4611686018427387904 := by omega
      clear hc hx hA d0 d1 hs1 hC hD hS c0 c1 f0 f1 htk hgb
      go_wp2_with fail
      refine (add_any (min p.1 t) p.2 (hh.out.1.below ((Below.refl _ wr).alloc (Nat.le_refl _) (.cells #[.int .i64 p.1, .string p.2] 37))) ht0 (by omega)).mono ?_
      rintro e w1 ⟨rfl, F'', hC1, hD1, hS1⟩
      have hq := Lib.hid (show CG w1 F'' b s1 (min last t) ∧ Did (· = b) w w1 ∧ Stem (· = b) F'' w from by
        refine ⟨by rw [hs.out]; exact hC1, (hh.out.2.1.alloc _).trans hh.out.2.2 hD1, ?_⟩
        refine hh.out.2.2.trans (hh.out.2.1.alloc (.cells #[.int .i64 p.1, .string p.2] 37)).size hS1)
      clear hC1 hD1 hS1
      go_wp2
      go_roundw
      case rel => exact ⟨k + 1, F'', by omega, by go_num, by rw [hs1'.out]; exact hq.out.1, hq.out.2⟩
      case measure => simp [intOf]; omega
    · have hk2 : k = ps.length := by omega
      subst hk2
      have hnl : ¬ (ps.length < ps.length) := by omega
      rw [List.take_length] at hC
      have hq := Lib.hid (show CG wr F' b (hur t ps) (min last t) ∧ Did (· = b) w wr ∧ Stem (· = b) F' w from ⟨hC, hD, hS⟩)
      clear hC hD hS
      go_wp2
      go_end0
      rw [hT.out]
      refine ⟨rfl, F', hq.out.1, hq.out.2.1.more fun k hk => .inl (by subst hk; exact H.out.mine), fun k hk => ?_⟩
      rcases hq.out.2.2 k hk with e | e
      · subst e; exact .inl H.out.mine
      · exact .inr e
end Go.Proofs.Ytcoennfpaimclaa.Cargo
