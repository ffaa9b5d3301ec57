/- x -/
import Derived.Test.YtehpliclknfmoaaCargoB
namespace Go.Proofs.Ytehpliclknfmoaa.Cargo
open Go.RowKit Mem Tick
open Go.Proofs.YtehpliclknfmoaaW.PrintWords (QRow q_slice q_cells q_max q_append q_drop q_move q_typed q_lt q_of_own add_at)
set_option maxRecDepth 100000
set_option linter.unusedVariables false
set_option linter.unusedSimpArgs false

theorem q_set {w : World} {base n size g o c j : Nat} {e : TypeId} {xs : List Value} (h : QRow w base e size (.slice (some ⟨g, o, none⟩) n c) n xs) (hj : j < n * size) (u : Value) :
    QRow (w.setCell ⟨g, o + j, none⟩ u) base e size (.slice (some ⟨g, o, none⟩) n c) n (xs.set j u) := by
  obtain ⟨h1, h2⟩ := h
  refine ⟨by simpa using h1, ?_⟩
  rcases h2 with ⟨h0, _⟩ | ⟨g', off, cap, cur, he, hg, hh, hnc, hm, hcs, ht⟩
  · subst h0; omega
  · injection he with ha _ hc
    injection ha with ha
    injection ha with ha1 ha2
    subst ha1 ha2 hc
    refine .inr ⟨g, off, c, cur.setIfInBounds (off * size + j) u, rfl, hg, ?_, hnc, hm, by simpa using hcs, ?_⟩
    · simp [World.setCell, Array.getElem?_modify, hh]
    · rw [Array.toList_setIfInBounds, ← ht, List.drop_set, if_neg (by omega), show off * size + j - off * size = j by omega, List.take_set]
theorem cells_set : ∀ (ps : List Pc) (p : Pc) (u : ByteArray), (cells (ps ++ [p])).set (ps.length * 2 + 1) (.string u) = cells (ps ++ [(p.1, u)])
  | [], p, u => rfl
  | q :: r, p, u => by
    have := cells_set r p u
    rw [List.length_cons, show (r.length + 1) * 2 + 1 = r.length * 2 + 1 + 1 + 1 by omega]
    simpa [cells] using this

/-- the row's first cell, where there is one: the block is owned, and may be written. -/
theorem CG.row {w : World} {F : Nat → Prop} {b : Nat} {ps : List Pc} {last : Int} {g o n cap : Nat} (h : CG w F b ps last) (h0 : w.cell? ⟨b, 0, none⟩ = some (.slice (some ⟨g, o, none⟩) n cap)) :
    F g ∧ g ≠ b ∧ n = ps.length ∧ (∀ i, w.frozen? ⟨g, i, none⟩ = false) ∧ QRow w 0 80 2 (.slice (some ⟨g, o, none⟩) n cap) n (cells ps) := by
  obtain ⟨v, hb, hq, hf⟩ := h
  have := hb.cell 0
  rw [h0] at this
  simp at this
  subst this
  obtain ⟨A, c, he, _⟩ := q_slice hq
  injection he with _ hn _
  subst hn
  obtain ⟨_, cs, hc⟩ := q_typed hq g rfl
  exact ⟨(hf g).2 (.inr rfl), Blk.ne (t := 80) (t' := 78) hc hb (by decide), rfl, fun i => Blk.free (t := 80) hc i, hq⟩
/-- one cell of the row is written. -/
theorem CG.put_ {w : World} {F : Nat → Prop} {b : Nat} {ps qs : List Pc} {last : Int} {g o n cap j : Nat} {u : Value} (h : CG w F b ps last) (h0 : w.cell? ⟨b, 0, none⟩ = some (.slice (some ⟨g, o, none⟩) n cap))
    (hj : j < ps.length * 2) (hl : qs.length = ps.length) (hc : (cells ps).set j u = cells qs) : CG (w.setCell ⟨g, o + j, none⟩ u) F b qs last := by
  obtain ⟨hg, hne, rfl, _, hq⟩ := h.row h0
  obtain ⟨v, hb, hq', hf⟩ := h
  have := hb.cell 0
  rw [h0] at this
  simp at this
  subst this
  refine ⟨_, hb.far (p := ⟨g, o + j, none⟩) (Ne.symm hne) u, ?_, hf⟩
  have := q_set hq hj u
  rw [hc] at this
  rw [hl]
  exact this

theorem add_none {w : World} {F : Nat → Prop} {b : Nat} {ps : List Pc} {last : Int} (t : Int) (h : CG w F b ps last) :
    Calls Try.prog 62 #[.pointer (some ⟨b, 0, none⟩), .agg #[.int .i64 t, .string ⟨#[]⟩]] w fun e w' => e = .returned (.tuple #[]) ∧ Below w.heap.size w w' := by
  obtain ⟨A, cap, hb, hlc, hm, hA⟩ := h.view
  have c0 := hb.cell 0
  have hlt := hb.lt
  simp at c0
  clear hb h hA
  go_enter Try.func62, Try.ntmps62
  go_wp2
  go_end0
  exact ⟨rfl, (((Below.refl _ _).alloc (Nat.le_refl _) _).alloc (by simp) _).alloc (by simp; omega) _⟩
theorem add_join {w : World} {F : Nat → Prop} {b : Nat} {ps : List Pc} {p : Pc} {last : Int} (s : ByteArray) (h : CG w F b (ps ++ [p]) last) (hs : s.toList.isEmpty = false) (hz : p.2.size + s.size ≤ 4611686018427387904) :
    Calls Try.prog 62 #[.pointer (some ⟨b, 0, none⟩), .agg #[.int .i64 p.1, .string s]] w fun e w' => e = .returned (.tuple #[]) ∧ CG w' F b (ps ++ [(p.1, p.2 ++ s)]) last ∧ Did F w w' := by
  have H := Lib.hid h
  obtain ⟨A, cap, hb, hlc, hm, hA⟩ := h.view
  have c0 := hb.cell 0
  have hlt := hb.lt
  simp at c0 hm hlc
  clear hb h
  obtain ⟨g, o, rfl, hc⟩ := hA (by simp)
  obtain ⟨d0, d1⟩ := hc ps.length p (by simp)
  have hg := World.block_lt_of_cell? w _ d0
  simp at hg
  have hi0 : (0 : Int) ≤ ps.length := by omega
  have hi1 : (ps.length : Int) < ps.length + 1 := by omega
  clear hA hc
  go_enter Try.func62, Try.ntmps62
  go_wp2_with fail
  obtain ⟨W, hW⟩ : ∃ W, W = ((w.alloc (.cells #[.pointer (some ⟨b, 0, none⟩)] 58)).alloc (.cells #[.int .i64 p.1, .string s] 80)).alloc (.cells #[.int .i64 ps.length] 3) := ⟨_, rfl⟩
  rw [← hW]
  have HB : Below w.heap.size w W := by rw [hW]; exact (((Below.refl w.heap.size w).alloc (Nat.le_refl _) _).alloc (by simp) _).alloc (by simp; omega) _
  have e0 : W.cell? ⟨w.heap.size, 0, none⟩ = some (.pointer (some ⟨b, 0, none⟩)) := by rw [hW]; go_simp
  have e1 : W.cell? ⟨w.heap.size + 1, 0, none⟩ = some (.int .i64 p.1) := by rw [hW]; go_simp
  have e3 : W.cell? ⟨w.heap.size + 1, 1, none⟩ = some (.string s) := by rw [hW]; go_simp
  have e2 : W.cell? ⟨w.heap.size + 1 + 1, 0, none⟩ = some (.int .i64 ps.length) := by rw [hW]; go_simp
  have hf : W.frozen? ⟨g, o + ps.length * 2 + 1, none⟩ = false := ((H.out.below HB).row (bcells HB c0)).2.2.2.1 _
  clear hW
  have HB' := Lib.hid HB
  have c0' := bcells HB c0
  have d0' := bcells HB d0
  have d1' := bcells HB d1
  clear c0 d0 d1 HB
  have hz' : ¬ (9223372036854775807 < p.2.size + s.size) := by omega
  refine (joined_snoc (t := p.1) (H.out.below HB'.out) e0 e1 e2).mono ?_
  rintro e w1 ⟨rfl, n1, rfl⟩
  go_wp2
  go_region
  go_wp2
  go_end0
  have hC : CG (W.drewN (n1 + 1)) F b (ps ++ [p]) last := (H.out.below HB'.out).kept fun _ _ => rfl
  refine ⟨rfl, hC.put_ (o := o) (j := ps.length * 2 + 1) (qs := ps ++ [(p.1, p.2 ++ s)]) c0' (by simp; omega) (by simp) (cells_set ps p _), ?_⟩
  exact ((Did.of_below HB'.out).drewN _).setCell (.inl (hC.row c0').1) _
end Go.Proofs.Ytehpliclknfmoaa.Cargo
