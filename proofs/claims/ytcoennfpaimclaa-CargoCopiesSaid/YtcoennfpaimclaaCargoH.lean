/- Cargo (chapter 07): List and Copy. Conditions: the bytes are fewer than 2^46. -/
import Derived.Test.YtcoennfpaimclaaCargoG
import Derived.WalkSpells
import Derived.Test.YtcoennfpaimclaaWLast
import Derived.Laws.AppendOwn
namespace Go.Proofs.Ytcoennfpaimclaa.Cargo
open Go.RowKit Mem Tick
open Go.Proofs.YtcoennfpaimclaaW.PrintWords (QRow q_slice q_cells q_max q_append q_drop q_move q_typed q_lt q_of_own add_at)
open Go.Proofs.YtcoennfpaimclaaW.PrintLast
set_option maxRecDepth 100000
set_option linter.unusedVariables false
set_option linter.unusedSimpArgs false

theorem wpList_q_append {P : Program} {w : World} {ops : Array Oper} {rest : List Oper} {o : Oper} {a : Act} {Q : Exit → Act → World → Prop} (hgd : o.guard = none) (s x : Operand) (t : TypeId)
    (ho : o.op = .call { callee := .builtin .append, args := #[s, x], argTypes := #[t, t] })
    (base : Nat) (e : TypeId) (i : TypeInfo) (z : Value) (size bytes : Nat) (ht : P.underlying t = some (.slice e)) (hi : P.info? e = some i) (hz : i.zero = some z)
    (hsize : i.size = size) (hby : i.bytes = bytes) (hzs : z.cells.size = size) (hsz : 0 < size)
    (v : Value) (n : Nat) (xs : List Value) (hs : a.eval s = v) (hown : QRow w base e size v n xs)
    (ad : Addr) (m c : Nat) (news : List Value) (hx : a.eval x = .slice (some ad) m c) (hl : news.length = m * size) (hnews : ∀ j u, news[j]? = some u → w.cell? (ad.add j) = some u) (h1 : ∀ u ∈ news, u.oneCell' = true)
    (hm : 0 < m) (h63 : n + m ≤ maxLen) (hbytes : (n + m) * bytes ≤ 140737488355328) (hbase : base ≤ w.heap.size)
    (h : ∀ g of cap w', QRow w' base e size (.slice (some ⟨g, of, none⟩) (n + m) cap) (n + m) (xs ++ news) → w.grownBy w' v.ownBlock → (v.ownBlock = some g ∨ w.heap.size ≤ g) → wpList P ops Q rest (a.put o.dst (.slice (some ⟨g, of, none⟩) (n + m) cap)) w') :
    wpList P ops Q (o :: rest) a w := by
  refine wpList_plain hgd fun K hK => ?_
  have hw : Region.wanted o (yielded ops a.tmps) = true := by simp [Region.wanted, hgd]
  have := step_q_append (ops := ops) (E := True) (K := K) (Q := Q) hgd s x t ho base e i z size bytes ht hi hz hsize hby hzs hsz v n xs hs hown ad m c news hx hl hnews h1 hm h63 hbytes hbase (fun g of cap w' h1 h2 h3 => hK _ _ (h g of cap w' h1 h2 h3))
  rwa [if_pos hw] at this
theorem cells_one : ∀ (ps : List Pc), ∀ u ∈ cells ps, u.oneCell' = true
  | [], u, h => by simp [cells] at h
  | p :: r, u, h => by
    simp [cells] at h
    rcases h with rfl | rfl | h
    · rfl
    · rfl
    · exact cells_one r u h
/-- a row of pieces of the call's own, and new. -/
def Fresh (w w' : World) (v : Value) (ps : List Pc) : Prop := QRow w' 0 37 2 v ps.length (cells ps) ∧ (∀ k, v.ownBlock = some k → w.heap.size ≤ k) ∧ Below w.heap.size w w'
theorem clone_none {w : World} {c : Nat} :
    Calls Try.prog 27 #[.slice none 0 c] w fun e w' => e = .returned (.slice none 0 0) ∧ w = w' := by
  have he := fun W => Lib.run_eql_slice_nil (P := Try.prog) W 34 37 none 0 c 0 0 Try.underlying34
  go_enter Try.func27, Try.ntmps27
  go_wp2
  go_ret
  exact ⟨rfl, rfl⟩
theorem clone_zero {w : World} {a : Addr} {c : Nat} :
    Calls Try.prog 27 #[.slice (some a) 0 c] w fun e w' => e = .returned (.slice (some ⟨w.heap.size, 0, none⟩) 0 0) ∧ w.alloc (.cells #[] 37) = w' := by
  have he := fun W => Lib.run_eql_slice_nil (P := Try.prog) W 34 37 (some a) 0 c 0 0 Try.underlying34
  go_enter Try.func27, Try.ntmps27
  go_wp2
  go_ret
  exact ⟨rfl, rfl⟩
theorem clone_some {w : World} {ad : Addr} {c n : Nat} {ps : List Pc} (hn : ps.length = n) (h0 : 0 < n) (h : ∀ j u, (cells ps)[j]? = some u → w.cell? (ad.add j) = some u) (hn' : n ≤ 2000000000000) :
    Calls Try.prog 27 #[.slice (some ad) n c] w fun e w' => ∃ v, e = .returned v ∧ Fresh w w' v ps := by
  have H := Lib.hid h
  have hN := Lib.hid hn
  clear h hn
  have he := fun W => Lib.run_eql_slice_nil (P := Try.prog) W 34 37 (some ad) n c 0 0 Try.underlying34
  obtain ⟨i0, hi, hz0, hz1, hz2⟩ := info_parts info_piece
  have hq0 : QRow (w.alloc (.cells #[] 37)) 0 37 2 (.slice (some ⟨w.heap.size, 0, none⟩) 0 0) 0 [] := ⟨rfl, .inl ⟨rfl, _, rfl, fun a e => ⟨Nat.zero_le _, #[], by cases e; exact heap_alloc_new w _⟩⟩⟩
  have hq1 := Lib.hid hq0
  clear hq0
  go_enter Try.func27, Try.ntmps27
  go_wp2_with (at_builtin; refine wpList_q_append rfl (.tmp 5) (.tmp 6) 34 rfl 0 37 i0 _ 2 24 Try.underlying34 hi hz0 hz1 hz2 rfl (by decide) _ 0 [] rfl hq1.out ad n c (cells ps) rfl (by rw [cells_length, hN.out]) (fun j u hu => by have z := H.out j u hu; exact (World.cell?_of_block (Below.heap_alloc _ _ _ (World.block_lt_of_cell? w _ z))).trans z) (cells_one ps) h0 (by unfold maxLen; omega) (by omega) (Nat.zero_le _) ?_; intro g of cap w1 hq hg hat)
  go_ret
  refine ⟨_, rfl, ?_, ?_, ?_⟩
  · rw [hN.out]
    simpa using hq
  · intro k hk
    have : g = k := by simpa [Value.ownBlock] using hk
    subst this
    rcases hat with e | e
    · have e' : some w.heap.size = some g := e
      injection e' with e'
      omega
    · simp at e; omega
  · exact ((Below.refl w.heap.size w).alloc (Nat.le_refl _) _).grown hg (by simp) fun k hk => by
      have e' : some w.heap.size = some k := hk
      injection e' with e'
      omega
theorem clone_any {w : World} {v : Value} {ps : List Pc} (h : QRow w 0 37 2 v ps.length (cells ps)) (hn : ps.length ≤ 2000000000000) :
    Calls Try.prog 27 #[v] w fun e w' => ∃ v', e = .returned v' ∧ Fresh w w' v' ps := by
  obtain ⟨A, c, rfl, hc⟩ := q_slice h
  by_cases h0 : 0 < ps.length
  · obtain ⟨ad, rfl, hcell⟩ := q_cells h h0
    exact clone_some rfl h0 hcell hn
  · have hp : ps = [] := List.eq_nil_of_length_eq_zero (by omega)
    subst hp
    cases A with
    | none => exact clone_none.mono fun e w' ⟨he, hw⟩ => ⟨_, he, hw ▸ ⟨⟨rfl, .inl ⟨rfl, none, rfl, fun a h => by cases h⟩⟩, fun k hk => by simp [Value.ownBlock] at hk, Below.refl _ _⟩⟩
    | some a => exact clone_zero.mono fun e w' ⟨he, hw⟩ => ⟨_, he, hw ▸ ⟨⟨rfl, .inl ⟨rfl, _, rfl, fun a e => ⟨Nat.zero_le _, #[], by cases e; exact heap_alloc_new w _⟩⟩⟩, fun k hk => by
        have : w.heap.size = k := by simpa [Value.ownBlock] using hk
        omega, (Below.refl _ _).alloc (Nat.le_refl _) _⟩⟩
theorem list_any {w : World} {F : Nat → Prop} {b : Nat} {ps : List Pc} {last : Int} (h : CG w F b ps last) (hn : ps.length ≤ 2000000000000) :
    Calls Try.prog 16 #[.pointer (some ⟨b, 0, none⟩)] w fun e w' => ∃ v', e = .returned v' ∧ Fresh w w' v' ps := by
  obtain ⟨v, hb, hq, hf⟩ := h
  obtain ⟨A, c, rfl, _⟩ := q_slice hq
  have hC := Lib.hid (clone_any hq hn)
  have c0 := hb.cell 0
  simp at c0
  clear hb hq hf
  go_enter Try.func16, Try.ntmps16
  go_wp2_with fail
  refine hC.out.mono ?_
  rintro e w1 ⟨v', rfl, hF⟩
  have hF' := Lib.hid hF
  clear hF
  go_wp2
  go_ret
  exact ⟨v', rfl, hF'.out⟩
theorem copy_any {w : World} {F : Nat → Prop} {b : Nat} {ps : List Pc} {last : Int} (h : CG w F b ps last) (hn : ps.length ≤ 2000000000000) :
    Calls Try.prog 21 #[.pointer (some ⟨b, 0, none⟩)] w fun e w' => ∃ d G, e = .returned (.pointer (some ⟨d, 0, none⟩)) ∧ CG w' G d ps last ∧ (∀ k, G k → w.heap.size ≤ k) ∧ Below w.heap.size w w' := by
  have H := Lib.hid h
  obtain ⟨v, hb, hq, hf⟩ := h
  obtain ⟨A, c, rfl, _⟩ := q_slice hq
  have c0 := hb.cell 0
  have c1 := hb.cell 1
  simp at c0 c1
  have hq' := Lib.hid hq
  clear hb hq hf
  go_enter Try.func21, Try.ntmps21
  go_wp2
  refine start_ (n := 12) (S := fun w' => w'.cell? ⟨b, 0, none⟩ = some (.slice A ps.length c) ∧ w'.cell? ⟨b, 1, none⟩ = some (.int .i64 last)) (ds := []) #[false, false, false, false, false, false, false, false, false, false, false, false] (by kernel_rfl) rfl rfl ⟨c0, c1⟩ (fun hHeld => ?_)
  refine pure_ (i := 0) (N := some 3) (v := ?_) (a' := ?_) #[true, false, false, false, false, false, false, false, false, false, false, false] rfl rfl (by kernel_rfl) (fun _ _ _ h => h) (Or.inl ⟨by rfl, ?_⟩) ?_ ?_
  rotate_left
  · intro w'
    go_simp
    with_reducible rfl
  rotate_left
  · simp only [Act.put, List.setIfInBounds_toArray, List.set_cons_zero, List.set_cons_succ, i64_w, i32_w]
    rfl
  refine pure_ (i := 1) (N := some 4) (v := ?_) (a' := ?_) #[true, true, false, false, false, false, false, false, false, false, false, false] rfl rfl (by kernel_rfl) (fun _ _ _ h => h) (Or.inl ⟨by rfl, ?_⟩) ?_ ?_
  rotate_left
  · intro w'
    go_simp
    with_reducible rfl
  rotate_left
  · simp only [Act.put, List.setIfInBounds_toArray, List.set_cons_zero, List.set_cons_succ, i64_w, i32_w]
    rfl
  refine pure_ (i := 2) (N := some 5) (v := ?_) (a' := ?_) #[true, true, true, false, false, false, false, false, false, false, false, false] rfl rfl (by kernel_rfl) (fun _ _ _ h => h) (Or.inl ⟨by rfl, ?_⟩) ?_ ?_
  rotate_left
  · intro w'
    go_simp
    with_reducible rfl
  rotate_left
  · simp only [Act.put, List.setIfInBounds_toArray, List.set_cons_zero, List.set_cons_succ, i64_w, i32_w]
    rfl
  refine pure_ (i := 5) (N := some 8) (v := ?_) (a' := ?_) #[true, true, true, false, false, true, false, false, false, false, false, false] rfl rfl (by kernel_rfl) (fun _ _ _ h => h) (Or.inl ⟨by rfl, ?_⟩) ?_ ?_
  rotate_left
  · intro w'
    go_simp
    with_reducible rfl
  rotate_left
  · simp only [Act.put, List.setIfInBounds_toArray, List.set_cons_zero, List.set_cons_succ, i64_w, i32_w]
    rfl
  refine pure_ (i := 6) (N := some 9) (v := ?_) (a' := ?_) #[true, true, true, false, false, true, true, false, false, false, false, false] rfl rfl (by kernel_rfl) (fun _ _ _ h => h) (Or.inl ⟨by rfl, ?_⟩) ?_ ?_
  rotate_left
  · intro w'
    go_simp
    with_reducible rfl
  rotate_left
  · simp only [Act.put, List.setIfInBounds_toArray, List.set_cons_zero, List.set_cons_succ, i64_w, i32_w]
    rfl
  refine pure_ (i := 7) (N := some 10) (v := ?_) (a' := ?_) #[true, true, true, false, false, true, true, true, false, false, false, false] rfl rfl (by kernel_rfl) (fun _ _ _ h => h) (Or.inl ⟨by rfl, ?_⟩) ?_ ?_
  rotate_left
  · intro w'
    go_simp
    with_reducible rfl
  rotate_left
  · simp only [Act.put, List.setIfInBounds_toArray, List.set_cons_zero, List.set_cons_succ, i64_w, i32_w]
    rfl
  refine take_ (i := 3) (N := some 6) (v := ?_) (a' := ?_) #[true, true, true, true, false, true, true, true, false, false, false, false] rfl rfl (by kernel_rfl) (fun _ _ _ h => h) (Or.inl ⟨by rfl, ?_⟩) hHeld ?_ ?_
  rotate_left
  · rintro w' ⟨s0, s1⟩
    go_simp
    with_reducible rfl
  rotate_left
  · simp only [Act.put, List.setIfInBounds_toArray, List.set_cons_zero, List.set_cons_succ, i64_w, i32_w]
    rfl
  refine take_ (i := 8) (N := some 11) (v := ?_) (a' := ?_) #[true, true, true, true, false, true, true, true, true, false, false, false] rfl rfl (by kernel_rfl) (fun _ _ _ h => h) (Or.inl ⟨by rfl, ?_⟩) hHeld ?_ ?_
  rotate_left
  · rintro w' ⟨s0, s1⟩
    go_simp
    with_reducible rfl
  rotate_left
  · simp only [Act.put, List.setIfInBounds_toArray, List.set_cons_zero, List.set_cons_succ, i64_w, i32_w]
    rfl
  refine one_ (i := 4) (N := some 7) #[true, true, true, true, true, true, true, true, true, false, false, false] rfl rfl (by kernel_rfl) (by decide) (fun K hK => ?_)
  refine goes_ Try.func27 (by kernel_rfl) rfl #[.slice A ps.length c] (by rfl) rfl rfl (by simp only [List.map_toArray, List.map_cons, List.map_nil]; rfl) ?_
  with_reducible refine (clone_any (w := w.drew) (q_move hq'.out (fun _ _ => rfl)) hn).mono ?_
  rintro e w1 ⟨v1, rfl, hF⟩
  obtain ⟨A1, c1', rfl, _⟩ := q_slice hF.1
  have hB : Below w.heap.size w w1 := ⟨hF.2.2.os, hF.2.2.tape, hF.2.2.output, hF.2.2.size, hF.2.2.block⟩
  have hb0 : w1.cell? ⟨b, 0, none⟩ = some (.slice A ps.length c) := bcells hB c0
  have hb1 : w1.cell? ⟨b, 1, none⟩ = some (.int .i64 last) := bcells hB c1
  refine ⟨_, rfl, ?_⟩
  refine hK.out _ _ ⟨hb0, hb1⟩ (fun hHeld => ?_)
  clear hK K
  refine norm_ (a' := ?_) ?_ ?_
  rotate_left
  · show Act.put _ (some 7) _ = _
    simp only [Act.put, List.setIfInBounds_toArray, List.set_cons_zero, List.set_cons_succ, i64_w, i32_w]
    rfl
  refine pure_ (i := 9) (N := some 12) (v := ?_) (a' := ?_) #[true, true, true, true, true, true, true, true, true, true, false, false] rfl rfl (by kernel_rfl) (fun _ _ _ h => h) (Or.inl ⟨by rfl, ?_⟩) ?_ ?_
  rotate_left
  · intro w'
    go_simp
    with_reducible rfl
  rotate_left
  · simp only [Act.put, List.setIfInBounds_toArray, List.set_cons_zero, List.set_cons_succ, i64_w, i32_w]
    rfl
  refine one_ (i := 10) (N := some 13) #[true, true, true, true, true, true, true, true, true, true, true, false] rfl rfl (by kernel_rfl) (by decide) (fun K hK => ?_)
  refine value_ (w1 := ?_) (v := ?_) (by rfl) rfl ?_ ?_
  rotate_left 2
  · go_simp
    constructor
    · rfl
    · rfl
  refine hK.out _ _ ⟨(World.cell?_of_block (Below.heap_alloc _ _ _ (World.block_lt_of_cell? w1 _ hb0))).trans hb0, (World.cell?_of_block (Below.heap_alloc _ _ _ (World.block_lt_of_cell? w1 _ hb1))).trans hb1⟩ (fun hHeld => ?_)
  clear hK K
  refine norm_ (a' := ?_) ?_ ?_
  rotate_left
  · show Act.put _ (some 13) _ = _
    simp only [Act.put, List.setIfInBounds_toArray, List.set_cons_zero, List.set_cons_succ, i64_w, i32_w]
    rfl
  refine pure_ (i := 11) (N := some 2) (v := ?_) (a' := ?_) #[true, true, true, true, true, true, true, true, true, true, true, true] rfl rfl (by kernel_rfl) (fun _ _ _ h => h) (Or.inl ⟨by rfl, ?_⟩) ?_ ?_
  rotate_left
  · intro w'
    go_simp
    with_reducible rfl
  rotate_left
  · simp only [Act.put, List.setIfInBounds_toArray, List.set_cons_zero, List.set_cons_succ, i64_w, i32_w]
    rfl
  refine done_ (by kernel_rfl) ?_
  have hF' := Lib.hid hF
  have hB' := Lib.hid hB
  clear hF hB
  go_wp2
  go_ret
  have hQ := hF'.out
  refine ⟨w1.heap.size, fun k => k = w1.heap.size ∨ (Value.slice A1 ps.length c1').ownBlock = some k, rfl, ⟨_, Blk.new w1 _ _, q_move hQ.1 fun k hk => Below.heap_alloc _ _ k (q_lt hQ.1 k hk), fun k => Iff.rfl⟩, ?_, ?_⟩
  · rintro k (rfl | hk)
    · exact hB'.out.size
    · exact hQ.2.1 k hk
  · exact hB'.out.alloc hB'.out.size _
end Go.Proofs.Ytcoennfpaimclaa.Cargo
