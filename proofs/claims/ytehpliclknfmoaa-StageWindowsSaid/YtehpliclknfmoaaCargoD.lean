/- x -/
import Derived.Test.YtehpliclknfmoaaCargoC
import Derived.Test.YtehpliclknfmoaaWLast
namespace Go.Proofs.Ytehpliclknfmoaa.Cargo
open Go.RowKit Mem Tick
open Go.Proofs.YtehpliclknfmoaaW.PrintWords (QRow q_slice q_cells q_max q_append q_drop q_move q_typed q_lt q_of_own add_at)
open Go.Proofs.YtehpliclknfmoaaW.PrintLast
set_option maxRecDepth 100000
set_option linter.unusedVariables false
set_option linter.unusedSimpArgs false
theorem info_piece : (Try.prog.info? 80).map (fun i => (i.zero, i.size, i.bytes)) = some (some (.agg #[.int .i64 0, .string ⟨#[]⟩]), 2, 24) := by kernel_rfl
theorem add_push {w : World} {F : Nat → Prop} {b : Nat} {ps : List Pc} {last : Int} (t : Int) (s : ByteArray) (h : CG w F b ps last) (hs : s.toList.isEmpty = false) (hj : joinedB ps t = false) (hn : ps.length ≤ 2000000000000) :
    Calls Try.prog 62 #[.pointer (some ⟨b, 0, none⟩), .agg #[.int .i64 t, .string s]] w fun e w' => e = .returned (.tuple #[]) ∧ ∃ F', CG w' F' b (ps ++ [(t, s)]) last ∧ Did F w w' ∧ Stem F F' w := by
  have H := Lib.hid h
  have hj' := Lib.hid hj
  obtain ⟨A, cap, hb, hlc, hm, hA⟩ := h.view
  have c0 := hb.cell 0
  have hlt := hb.lt
  simp at c0
  clear hb h hA hj
  obtain ⟨i0, hi, hz0, hz1, hz2⟩ := info_parts info_piece
  go_enter Try.func62, Try.ntmps62
  go_wp2_with fail
  obtain ⟨W, hW⟩ : ∃ W, W = ((w.alloc (.cells #[.pointer (some ⟨b, 0, none⟩)] 58)).alloc (.cells #[.int .i64 t, .string s] 80)).alloc (.cells #[.int .i64 ((ps.length : Int) - 1)] 3) := ⟨_, rfl⟩
  rw [← hW]
  have HB : Below w.heap.size w W := by rw [hW]; exact (((Below.refl w.heap.size w).alloc (Nat.le_refl _) _).alloc (by simp) _).alloc (by simp; omega) _
  have e0 : W.cell? ⟨w.heap.size, 0, none⟩ = some (.pointer (some ⟨b, 0, none⟩)) := by rw [hW]; go_simp
  have e1 : W.cell? ⟨w.heap.size + 1, 0, none⟩ = some (.int .i64 t) := by rw [hW]; go_simp
  have e3 : W.cell? ⟨w.heap.size + 1, 1, none⟩ = some (.string s) := by rw [hW]; go_simp
  have e2 : W.cell? ⟨w.heap.size + 1 + 1, 0, none⟩ = some (.int .i64 ((ps.length : Int) - 1)) := by rw [hW]; go_simp
  clear hW
  have HB' := Lib.hid HB
  have c0' := bcells HB c0
  clear c0 HB
  refine (joined_any (t := t) (H.out.below HB'.out) e0 e1 e2).mono ?_
  rintro e w1 ⟨rfl, n1, rfl⟩
  rw [hj'.out]
  go_wp2
  have HC := Lib.hid (H.out.below HB'.out)
  have HQ : Hid (QRow W 0 80 2 (.slice A ps.length cap) ps.length (cells ps)) := by
    obtain ⟨v, hv, hq, _⟩ := HC.out
    have := hv.cell 0
    rw [c0'] at this
    simp at this
    subst this
    exact Lib.hid hq
  clear e2
  have one : ∀ u ∈ [Value.int .i64 t, Value.string s], u.oneCell' = true := by intro u hu; simp at hu; rcases hu with rfl | rfl <;> rfl
  have hf : W.frozen? ⟨b, 0, none⟩ = false := by
    obtain ⟨v, hv, _⟩ := HC.out
    exact hv.free 0
  have hrow : ∀ k, (Value.slice A ps.length cap).ownBlock = some k → k < w.heap.size ∧ k ≠ b := by
    intro k hk
    obtain ⟨v, hv, hq, _⟩ := H.out
    have h0 := hv.cell 0
    have h1 : w.cell? ⟨b, 0, none⟩ = W.cell? ⟨b, 0, none⟩ := (HB'.out.cell (p := ⟨b, 0, none⟩) hlt).symm
    rw [h1, c0'] at h0
    simp at h0
    subst h0
    obtain ⟨_, cs, hc⟩ := q_typed hq k hk
    exact ⟨q_lt hq k hk, Blk.ne (t := 80) (t' := 78) hc hv (by decide)⟩
  have m0 : some w.heap.size ≠ (Value.slice A ps.length cap).ownBlock := fun e => by have := (hrow _ e.symm).1; omega
  have m1 : some (w.heap.size + 1) ≠ (Value.slice A ps.length cap).ownBlock := fun e => by have := (hrow _ e.symm).1; omega
  have m2 : some b ≠ (Value.slice A ps.length cap).ownBlock := fun e => (hrow _ e.symm).2 rfl
  have z0 : w.heap.size < W.heap.size := World.block_lt_of_cell? W _ e0
  have z1 : w.heap.size + 1 < W.heap.size := World.block_lt_of_cell? W _ e1
  have z2 : b < W.heap.size := World.block_lt_of_cell? W _ c0'
  have hrow' := Lib.hid hrow
  clear hrow
  refine start_ (n := 11) (S := fun w' => w'.cell? ⟨w.heap.size, 0, none⟩ = some (.pointer (some ⟨b, 0, none⟩)) ∧ w'.cell? ⟨w.heap.size + 1, 0, none⟩ = some (.int .i64 t) ∧ w'.cell? ⟨w.heap.size + 1, 1, none⟩ = some (.string s) ∧ w'.cell? ⟨b, 0, none⟩ = some (.slice A ps.length cap)) (ds := [10]) #[false, false, false, false, false, false, false, false, false, false, false] (by kernel_rfl) rfl rfl ⟨e0, e1, e3, c0'⟩ (fun hHeld => ?_)
  refine take_ (i := 0) (N := some 13) (v := ?_) (a' := ?_) #[true, false, false, false, false, false, false, false, false, false, false] rfl rfl (by kernel_rfl) (fun _ _ _ h => h) (Or.inl ⟨by rfl, ?_⟩) hHeld ?_ ?_
  rotate_left
  · rintro w' ⟨s0, s1, s2, s3⟩
    go_simp
    with_reducible rfl
  rotate_left
  · simp only [Act.put, List.setIfInBounds_toArray, List.set_cons_zero, List.set_cons_succ, i64_w, i32_w]
    rfl
  refine take_ (i := 1) (N := some 14) (v := ?_) (a' := ?_) #[true, true, false, false, false, false, false, false, false, false, false] rfl rfl (by kernel_rfl) (fun _ _ _ h => h) (Or.inl ⟨by rfl, ?_⟩) hHeld ?_ ?_
  rotate_left
  · rintro w' ⟨s0, s1, s2, s3⟩
    go_simp
    with_reducible rfl
  rotate_left
  · simp only [Act.put, List.setIfInBounds_toArray, List.set_cons_zero, List.set_cons_succ, i64_w, i32_w]
    rfl
  refine pure_ (i := 2) (N := some 15) (v := ?_) (a' := ?_) #[true, true, true, false, false, false, false, false, false, false, false] rfl rfl (by kernel_rfl) (fun _ _ _ h => h) (Or.inl ⟨by rfl, ?_⟩) ?_ ?_
  rotate_left
  · intro w'
    go_simp
    with_reducible rfl
  rotate_left
  · simp only [Act.put, List.setIfInBounds_toArray, List.set_cons_zero, List.set_cons_succ, i64_w, i32_w]
    rfl
  refine pure_ (i := 3) (N := some 16) (v := ?_) (a' := ?_) #[true, true, true, true, false, false, false, false, false, false, false] rfl rfl (by kernel_rfl) (fun _ _ _ h => h) (Or.inl ⟨by rfl, ?_⟩) ?_ ?_
  rotate_left
  · intro w'
    go_simp
    with_reducible rfl
  rotate_left
  · simp only [Act.put, List.setIfInBounds_toArray, List.set_cons_zero, List.set_cons_succ, i64_w, i32_w]
    rfl
  refine take_ (i := 4) (N := some 17) (v := ?_) (a' := ?_) #[true, true, true, true, true, false, false, false, false, false, false] rfl rfl (by kernel_rfl) (fun _ _ _ h => h) (Or.inl ⟨by rfl, ?_⟩) hHeld ?_ ?_
  rotate_left
  · rintro w' ⟨s0, s1, s2, s3⟩
    go_simp
    with_reducible rfl
  rotate_left
  · simp only [Act.put, List.setIfInBounds_toArray, List.set_cons_zero, List.set_cons_succ, i64_w, i32_w]
    rfl
  refine take_ (i := 5) (N := some 18) (v := ?_) (a' := ?_) #[true, true, true, true, true, true, false, false, false, false, false] rfl rfl (by kernel_rfl) (fun _ _ _ h => h) (Or.inl ⟨by rfl, ?_⟩) hHeld ?_ ?_
  rotate_left
  · rintro w' ⟨s0, s1, s2, s3⟩
    go_simp
    with_reducible rfl
  rotate_left
  · simp only [Act.put, List.setIfInBounds_toArray, List.set_cons_zero, List.set_cons_succ, i64_w, i32_w]
    rfl
  refine one_ (i := 6) (N := some 19) #[true, true, true, true, true, true, true, false, false, false, false] rfl rfl (by kernel_rfl) (by decide) (fun K hK => ?_)
  refine value_ (w1 := ?_) (v := ?_) (by rfl) rfl ?_ ?_
  rotate_left 2
  · go_simp
    constructor
    · rfl
    · rfl
  refine hK.out _ _ ⟨(World.cell?_of_block (Below.heap_alloc _ _ _ z0)).trans e0, (World.cell?_of_block (Below.heap_alloc _ _ _ z1)).trans e1, (World.cell?_of_block (Below.heap_alloc _ _ _ z1)).trans e3, (World.cell?_of_block (Below.heap_alloc _ _ _ z2)).trans c0'⟩ (fun hHeld => ?_)
  clear hK K
  refine norm_ (a' := ?_) ?_ ?_
  rotate_left
  · show Act.put _ (some 19) _ = _
    simp only [Act.put, List.setIfInBounds_toArray, List.set_cons_zero, List.set_cons_succ, i64_w, i32_w]
    rfl
  refine one_ (i := 7) (N := some 20) #[true, true, true, true, true, true, true, true, false, false, false] rfl rfl (by kernel_rfl) (by decide) (fun K hK => ?_)
  refine step_q_append rfl (.tmp 17) (.tmp 19) 76 rfl 0 80 i0 _ 2 24 Try.underlying76 hi hz0 hz1 hz2 rfl (by decide) (.slice A ps.length cap) ps.length (cells ps) rfl (q_move HQ.out (fun k hk => Below.heap_alloc _ _ k (q_lt HQ.out k hk))) ⟨W.heap.size, 0, none⟩ 1 1 [.int .i64 t, .string s] rfl rfl (World.news_of_block (heap_alloc_new _ _)) one (by decide) (by unfold maxLen; omega) (by omega) (Nat.zero_le _) ?_
  intro g of cap' w1 hq hg hat
  have q0 : w1.cell? ⟨b, 0, none⟩ = some (.slice A ps.length cap) := (hg.cell_far ⟨b, 0, none⟩ (by simp; omega) m2).trans ((World.cell?_of_block (Below.heap_alloc _ _ _ z2)).trans c0')
  have q1 : w1.frozen? ⟨b, 0, none⟩ = false := (hg.frozen_far ⟨b, 0, none⟩ (by simp; omega) m2).trans ((World.frozen?_of_block (Below.heap_alloc _ _ _ z2)).trans hf)
  refine hK.out _ _ ⟨(hg.cell_far ⟨w.heap.size, 0, none⟩ (by simp; omega) m0).trans ((World.cell?_of_block (Below.heap_alloc _ _ _ z0)).trans e0), (hg.cell_far ⟨w.heap.size + 1, 0, none⟩ (by simp; omega) m1).trans ((World.cell?_of_block (Below.heap_alloc _ _ _ z1)).trans e1), (hg.cell_far ⟨w.heap.size + 1, 1, none⟩ (by simp; omega) m1).trans ((World.cell?_of_block (Below.heap_alloc _ _ _ z1)).trans e3), (hg.cell_far ⟨b, 0, none⟩ (by simp; omega) m2).trans ((World.cell?_of_block (Below.heap_alloc _ _ _ z2)).trans c0')⟩ (fun hHeld => ?_)
  clear hK K
  refine norm_ (a' := ?_) ?_ ?_
  rotate_left
  · show Act.put _ (some 20) _ = _
    simp only [Act.put, List.setIfInBounds_toArray, List.set_cons_zero, List.set_cons_succ, i64_w, i32_w]
    rfl
  refine pure_ (i := 8) (N := some 21) (v := ?_) (a' := ?_) #[true, true, true, true, true, true, true, true, true, false, false] rfl rfl (by kernel_rfl) (fun _ _ _ h => h) (Or.inl ⟨by rfl, ?_⟩) ?_ ?_
  rotate_left
  · intro w'
    go_simp
    with_reducible rfl
  rotate_left
  · simp only [Act.put, List.setIfInBounds_toArray, List.set_cons_zero, List.set_cons_succ, i64_w, i32_w]
    rfl
  refine pure_ (i := 9) (N := some 22) (v := ?_) (a' := ?_) #[true, true, true, true, true, true, true, true, true, true, false] rfl rfl (by kernel_rfl) (fun _ _ _ h => h) (Or.inl ⟨by rfl, ?_⟩) ?_ ?_
  rotate_left
  · intro w'
    go_simp
    with_reducible rfl
  rotate_left
  · simp only [Act.put, List.setIfInBounds_toArray, List.set_cons_zero, List.set_cons_succ, i64_w, i32_w]
    rfl
  refine last_ (i := 10) (N := none) #[true, true, true, true, true, true, true, true, true, true, true] rfl rfl (by kernel_rfl) (by decide) (fun K hK => ?_)
  refine skip_ (w1 := ?_) (by rfl) rfl ?_ ?_
  rotate_left
  · go_simp
    rfl
  refine hK.out _ _ ?_
  clear hK K
  refine done_ (by kernel_rfl) ?_
  go_wp2
  go_end0
  have hown : ∀ k, (Value.slice A ps.length cap).ownBlock = some k → F k := by
    intro k hk
    obtain ⟨v, hv, hq', hF⟩ := HC.out
    have := hv.cell 0
    rw [c0'] at this
    simp at this
    subst this
    exact (hF k).2 (.inr hk)
  have hm' := HC.out.mine
  have hgb : g ≠ b := by
    rcases hat with e | e
    · exact (hrow'.out g e).2
    · simp at e; omega
  have hbw : Blk w1 b 78 #[.slice A ps.length cap, .int .i64 last] := by
    obtain ⟨v, hv, _⟩ := HC.out
    have h0 := hv.cell 0
    rw [c0'] at h0
    simp at h0
    subst h0
    exact (hg.block b (by simp; omega) m2).trans ((Below.heap_alloc _ _ _ z2).trans hv)
  have D1 : Did F w w1 := (((Did.of_below HB'.out).drewN (n1 + 1)).alloc (.cells #[.int .i64 t, .string s] 80)).trans (Stem.refl F w) (Did.of_grown hg fun k hk => .inl (hown k hk))
  refine ⟨rfl, fun k => k = b ∨ k = g, ⟨.slice (some ⟨g, of, none⟩) (ps.length + 1) cap', ?_, ?_, fun k => by simp [Value.ownBlock, eq_comm]⟩, D1.setCell (.inl hm') _, ?_⟩
  · have := hbw.set_ 0 (.slice (some ⟨g, of, none⟩) (ps.length + 1) cap')
    exact this
  · have hq2 := q_move (w1 := w1.setCell ⟨b, 0, none⟩ (.slice (some ⟨g, of, none⟩) (ps.length + 1) cap')) hq (fun k hk => Below.heap_setCell _ _ _ k (by
      have : g = k := by simpa [Value.ownBlock] using hk
      subst this
      exact hgb))
    rw [cells_append, List.length_append]
    exact hq2
  · rintro k (rfl | rfl)
    · exact .inl hm'
    · rcases hat with e | e
      · exact .inl (hown _ e)
      · right
        have h1 := HB'.out.size
        simp at e
        omega
end Go.Proofs.Ytehpliclknfmoaa.Cargo
