/- Cargo (chapter 07): List and Copy. Conditions: the bytes are fewer than 2^46. -/
import Derived.Test.YtehpliclknfmoaaGreatC14
import Derived.WalkSpells
import Derived.Test.YtehpliclknfmoaaGreatC4
import Derived.Laws.AppendOwn
namespace Go.Proofs.YtehpliclknfmoaaGreat.Cargo
open Go.RowKit Mem Tick
open Go.Proofs.YtehpliclknfmoaaGreatW.PrintWords (QRow q_slice q_cells q_max q_append q_drop q_move q_typed q_lt q_of_own add_at)
open Go.Proofs.YtehpliclknfmoaaGreatW.PrintLast
set_option maxRecDepth 100000
set_option linter.unusedVariables false
set_option linter.unusedSimpArgs false

theorem wpList_q_append {P : Program} {w : World} {ops : Array Oper} {rest : List Oper} {o : Oper} {a : Act} {Q : Exit → Act → World → Prop} (hgd : o.guard = none) (s x : Operand) (t : TypeId)
    (ho : o.op = .call { callee := .builtin .append, args := #[s, x], argTypes := #[t, t] })
    (base : Nat) (e : TypeId) (i : TypeInfo) (z : Value) (size bytes : Nat) (ht : P.underlying t = some (.slice e)) (hi : P.info? e = some i) (hz : i.zero = some z)
    (hsize : i.size = size) (hby : i.bytes = bytes) (hzs : z.cells.size = size) (hsz : 0 < size)
    (v : Value) (n : Nat) (xs : List Value) (hs : a.eval s = v) (hown : QRow w base e size v n xs)
    (ad : Addr) (m c : Nat) (news : List Value) (hx : a.eval x = .slice (some ad) m c) (hl : news.length = m * size) (hnews : ∀ j u, news[j]? = some u → w.cell? (ad.add j) = some u) (h1 : ∀ u ∈ news, u.oneCell' = true)
    (hm : 0 < m) (h63 : n + m ≤ maxLen) (hbytes : (n + m) * bytes ≤ 140737488355328) (hbase : base ≤ w.heap.size)
    (h : ∀ g of cap w', QRow w' base e size (.slice (some ⟨g, of, none⟩) (n + m) cap) (n + m) (xs ++ news) → w.grownBy w' v.ownBlock → (v.ownBlock = some g ∨ w.heap.size ≤ g) → wpList P ops Q rest (a.put o.dst (.slice (some ⟨g, of, none⟩) (n + m) cap)) w') :
    wpList P ops Q (o :: rest) a w := by
  refine wpList_plain hgd fun K hK => ?_
  have hw : Region.wanted o (yielded ops a.tmps) = true := by simp [Region.wanted, hgd]
  have := step_q_append (ops := ops) (E := True) (K := K) (Q := Q) hgd s x t ho base e i z size bytes ht hi hz hsize hby hzs hsz v n xs hs hown ad m c news hx hl hnews h1 hm h63 hbytes hbase (fun g of cap w' h1 h2 h3 => hK _ _ (h g of cap w' h1 h2 h3))
  rwa [if_pos hw] at this
theorem cells_one : ∀ (ps : List Pc), ∀ u ∈ cells ps, u.oneCell' = true
  | [], u, h => by simp [cells] at h
  | p :: r, u, h => by
    simp [cells] at h
    rcases h with rfl | rfl | h
    · rfl
    · rfl
    · exact cells_one r u h
def Fresh (w w' : World) (v : Value) (ps : List Pc) : Prop := QRow w' 0 100 2 v ps.length (cells ps) ∧ (∀ k, v.ownBlock = some k → w.heap.size ≤ k) ∧ Below w.heap.size w w'
theorem clone_none {w : World} {c : Nat} :
    Calls Tryz.prog 61 #[.slice none 0 c] w fun e w' => e = .returned (.slice none 0 0) ∧ w = w' := by
  have he := fun W => Lib.run_eql_slice_nil (P := Tryz.prog) W 81 100 none 0 c 0 0 Tryz.underlying81
  go_enter Tryz.func61, Tryz.ntmps61
  go_wp2
  go_ret
  exact ⟨rfl, rfl⟩
theorem clone_zero {w : World} {a : Addr} {c : Nat} :
    Calls Tryz.prog 61 #[.slice (some a) 0 c] w fun e w' => e = .returned (.slice (some ⟨w.heap.size, 0, none⟩) 0 0) ∧ w.alloc (.cells #[] 100) = w' := by
  have he := fun W => Lib.run_eql_slice_nil (P := Tryz.prog) W 81 100 (some a) 0 c 0 0 Tryz.underlying81
  go_enter Tryz.func61, Tryz.ntmps61
  go_wp2
  go_ret
  exact ⟨rfl, rfl⟩
theorem clone_some {w : World} {ad : Addr} {c n : Nat} {ps : List Pc} (hn : ps.length = n) (h0 : 0 < n) (h : ∀ j u, (cells ps)[j]? = some u → w.cell? (ad.add j) = some u) (hn' : n ≤ 2000000000000) :
    Calls Tryz.prog 61 #[.slice (some ad) n c] w fun e w' => ∃ v, e = .returned v ∧ Fresh w w' v ps := by
  have H := Lib.hid h
  have hN := Lib.hid hn
  clear h hn
  have he := fun W => Lib.run_eql_slice_nil (P := Tryz.prog) W 81 100 (some ad) n c 0 0 Tryz.underlying81
  obtain ⟨i0, hi, hz0, hz1, hz2⟩ := info_parts info_piece
  have hq0 : QRow (w.alloc (.cells #[] 100)) 0 100 2 (.slice (some ⟨w.heap.size, 0, none⟩) 0 0) 0 [] := ⟨rfl, .inl ⟨rfl, _, rfl, fun a e => ⟨Nat.zero_le _, #[], by cases e; exact heap_alloc_new w _⟩⟩⟩
  have hq1 := Lib.hid hq0
  clear hq0
  go_enter Tryz.func61, Tryz.ntmps61
  go_wp2_with (at_builtin; refine wpList_q_append rfl (.tmp 5) (.tmp 6) 81 rfl 0 100 i0 _ 2 24 Tryz.underlying81 hi hz0 hz1 hz2 rfl (by decide) _ 0 [] rfl hq1.out ad n c (cells ps) rfl (by rw [cells_length, hN.out]) (fun j u hu => by have z := H.out j u hu; exact (World.cell?_of_block (Below.heap_alloc _ _ _ (World.block_lt_of_cell? w _ z))).trans z) (cells_one ps) h0 (by unfold maxLen; omega) (by omega) (Nat.zero_le _) ?_; intro g of cap w1 hq hg hat)
  go_ret
  refine ⟨_, rfl, ?_, ?_, ?_⟩
  · rw [hN.out]
    simpa using hq
  · intro k hk
    have : g = k := by simpa [Value.ownBlock] using hk
    subst this
    rcases hat with e | e
    · have e' : some w.heap.size = some g := e
      injection e' with e'
      omega
    · simp at e; omega
  · exact ((Below.refl w.heap.size w).alloc (Nat.le_refl _) _).grown hg (by simp) fun k hk => by
      have e' : some w.heap.size = some k := hk
      injection e' with e'
      omega
theorem clone_any {w : World} {v : Value} {ps : List Pc} (h : QRow w 0 100 2 v ps.length (cells ps)) (hn : ps.length ≤ 2000000000000) :
    Calls Tryz.prog 61 #[v] w fun e w' => ∃ v', e = .returned v' ∧ Fresh w w' v' ps := by
  obtain ⟨A, c, rfl, hc⟩ := q_slice h
  by_cases h0 : 0 < ps.length
  · obtain ⟨ad, rfl, hcell⟩ := q_cells h h0
    exact clone_some rfl h0 hcell hn
  · have hp : ps = [] := List.eq_nil_of_length_eq_zero (by omega)
    subst hp
    cases A with
    | none => exact clone_none.mono fun e w' ⟨he, hw⟩ => ⟨_, he, hw ▸ ⟨⟨rfl, .inl ⟨rfl, none, rfl, fun a h => by cases h⟩⟩, fun k hk => by simp [Value.ownBlock] at hk, Below.refl _ _⟩⟩
    | some a => exact clone_zero.mono fun e w' ⟨he, hw⟩ => ⟨_, he, hw ▸ ⟨⟨rfl, .inl ⟨rfl, _, rfl, fun a e => ⟨Nat.zero_le _, #[], by cases e; exact heap_alloc_new w _⟩⟩⟩, fun k hk => by
        have : w.heap.size = k := by simpa [Value.ownBlock] using hk
        omega, (Below.refl _ _).alloc (Nat.le_refl _) _⟩⟩
theorem copy_any {w : World} {F : Nat → Prop} {b : Nat} {ps : List Pc} {last : Int} (h : CG w F b ps last) (hn : ps.length ≤ 2000000000000) :
    Calls Tryz.prog 34 #[.pointer (some ⟨b, 0, none⟩)] w fun e w' => ∃ d G, e = .returned (.pointer (some ⟨d, 0, none⟩)) ∧ CG w' G d ps last ∧ (∀ k, G k → w.heap.size ≤ k) ∧ Below w.heap.size w w' := by
  have H := Lib.hid h
  obtain ⟨v, hb, hq, hf⟩ := h
  obtain ⟨A, c, rfl, _⟩ := q_slice hq
  have c0 := hb.cell 0
  have c1 := hb.cell 1
  simp at c0 c1
  have hq' := Lib.hid hq
  clear hb hq hf
  go_enter Tryz.func34, Tryz.ntmps34
  go_wp2
  refine start_ (n := 12) (S := fun w' => w'.cell? ⟨b, 0, none⟩ = some (.slice A ps.length c) ∧ w'.cell? ⟨b, 1, none⟩ = some (.int .i64 last)) (ds := []) #[false, false, false, false, false, false, false, false, false, false, false, false] (by kernel_rfl) rfl rfl ⟨c0, c1⟩ (fun hHeld => ?_)
  refine pure_ (i := 0) (N := some 3) (v := ?_) (a' := ?_) #[true, false, false, false, false, false, false, false, false, false, false, false] rfl rfl (by kernel_rfl) (fun _ _ _ h => h) (Or.inl ⟨by rfl, ?_⟩) ?_ ?_
  rotate_left
  · intro w'
    go_simp
    with_reducible rfl
  rotate_left
  · simp only [Act.put, List.setIfInBounds_toArray, List.set_cons_zero, List.set_cons_succ, i64_w, i32_w]
    rfl
  refine pure_ (i := 1) (N := some 4) (v := ?_) (a' := ?_) #[true, true, false, false, false, false, false, false, false, false, false, false] rfl rfl (by kernel_rfl) (fun _ _ _ h => h) (Or.inl ⟨by rfl, ?_⟩) ?_ ?_
  rotate_left
  · intro w'
    go_simp
    with_reducible rfl
  rotate_left
  · simp only [Act.put, List.setIfInBounds_toArray, List.set_cons_zero, List.set_cons_succ, i64_w, i32_w]
    rfl
  refine pure_ (i := 2) (N := some 5) (v := ?_) (a' := ?_) #[true, true, true, false, false, false, false, false, false, false, false, false] rfl rfl (by kernel_rfl) (fun _ _ _ h => h) (Or.inl ⟨by rfl, ?_⟩) ?_ ?_
  rotate_left
  · intro w'
    go_simp
    with_reducible rfl
  rotate_left
  · simp only [Act.put, List.setIfInBounds_toArray, List.set_cons_zero, List.set_cons_succ, i64_w, i32_w]
    rfl
  refine pure_ (i := 5) (N := some 8) (v := ?_) (a' := ?_) #[true, true, true, false, false, true, false, false, false, false, false, false] rfl rfl (by kernel_rfl) (fun _ _ _ h => h) (Or.inl ⟨by rfl, ?_⟩) ?_ ?_
  rotate_left
  · intro w'
    go_simp
    with_reducible rfl
  rotate_left
  · simp only [Act.put, List.setIfInBounds_toArray, List.set_cons_zero, List.set_cons_succ, i64_w, i32_w]
    rfl
  refine pure_ (i := 6) (N := some 9) (v := ?_) (a' := ?_) #[true, true, true, false, false, true, true, false, false, false, false, false] rfl rfl (by kernel_rfl) (fun _ _ _ h => h) (Or.inl ⟨by rfl, ?_⟩) ?_ ?_
  rotate_left
  · intro w'
    go_simp
    with_reducible rfl
  rotate_left
  · simp only [Act.put, List.setIfInBounds_toArray, List.set_cons_zero, List.set_cons_succ, i64_w, i32_w]
    rfl
  refine pure_ (i := 7) (N := some 10) (v := ?_) (a' := ?_) #[true, true, true, false, false, true, true, true, false, false, false, false] rfl rfl (by kernel_rfl) (fun _ _ _ h => h) (Or.inl ⟨by rfl, ?_⟩) ?_ ?_
  rotate_left
  · intro w'
    go_simp
    with_reducible rfl
  rotate_left
  · simp only [Act.put, List.setIfInBounds_toArray, List.set_cons_zero, List.set_cons_succ, i64_w, i32_w]
    rfl
  refine take_ (i := 3) (N := some 6) (v := ?_) (a' := ?_) #[true, true, true, true, false, true, true, true, false, false, false, false] rfl rfl (by kernel_rfl) (fun _ _ _ h => h) (Or.inl ⟨by rfl, ?_⟩) hHeld ?_ ?_
  rotate_left
  · rintro w' ⟨s0, s1⟩
    go_simp
    with_reducible rfl
  rotate_left
  · simp only [Act.put, List.setIfInBounds_toArray, List.set_cons_zero, List.set_cons_succ, i64_w, i32_w]
    rfl
  refine take_ (i := 8) (N := some 11) (v := ?_) (a' := ?_) #[true, true, true, true, false, true, true, true, true, false, false, false] rfl rfl (by kernel_rfl) (fun _ _ _ h => h) (Or.inl ⟨by rfl, ?_⟩) hHeld ?_ ?_
  rotate_left
  · rintro w' ⟨s0, s1⟩
    go_simp
    with_reducible rfl
  rotate_left
  · simp only [Act.put, List.setIfInBounds_toArray, List.set_cons_zero, List.set_cons_succ, i64_w, i32_w]
    rfl
  refine one_ (i := 4) (N := some 7) #[true, true, true, true, true, true, true, true, true, false, false, false] rfl rfl (by kernel_rfl) (by decide) (fun K hK => ?_)
  refine goes_ Tryz.func61 (by kernel_rfl) rfl #[.slice A ps.length c] (by rfl) rfl rfl (by simp only [List.map_toArray, List.map_cons, List.map_nil]; rfl) ?_
  with_reducible refine (clone_any (w := w.drew) (q_move hq'.out (fun _ _ => rfl)) hn).mono ?_
  rintro e w1 ⟨v1, rfl, hF⟩
  obtain ⟨A1, c1', rfl, _⟩ := q_slice hF.1
  have hB : Below w.heap.size w w1 := ⟨hF.2.2.os, hF.2.2.tape, hF.2.2.output, hF.2.2.size, hF.2.2.block⟩
  have hb0 : w1.cell? ⟨b, 0, none⟩ = some (.slice A ps.length c) := bcells hB c0
  have hb1 : w1.cell? ⟨b, 1, none⟩ = some (.int .i64 last) := bcells hB c1
  refine ⟨_, rfl, ?_⟩
  refine hK.out _ _ ⟨hb0, hb1⟩ (fun hHeld => ?_)
  clear hK K
  refine norm_ (a' := ?_) ?_ ?_
  rotate_left
  · show Act.put _ (some 7) _ = _
    simp only [Act.put, List.setIfInBounds_toArray, List.set_cons_zero, List.set_cons_succ, i64_w, i32_w]
    rfl
  refine pure_ (i := 9) (N := some 12) (v := ?_) (a' := ?_) #[true, true, true, true, true, true, true, true, true, true, false, false] rfl rfl (by kernel_rfl) (fun _ _ _ h => h) (Or.inl ⟨by rfl, ?_⟩) ?_ ?_
  rotate_left
  · intro w'
    go_simp
    with_reducible rfl
  rotate_left
  · simp only [Act.put, List.setIfInBounds_toArray, List.set_cons_zero, List.set_cons_succ, i64_w, i32_w]
    rfl
  refine one_ (i := 10) (N := some 13) #[true, true, true, true, true, true, true, true, true, true, true, false] rfl rfl (by kernel_rfl) (by decide) (fun K hK => ?_)
  refine value_ (w1 := ?_) (v := ?_) (by rfl) rfl ?_ ?_
  rotate_left 2
  · go_simp
    constructor
    · rfl
    · rfl
  refine hK.out _ _ ⟨(World.cell?_of_block (Below.heap_alloc _ _ _ (World.block_lt_of_cell? w1 _ hb0))).trans hb0, (World.cell?_of_block (Below.heap_alloc _ _ _ (World.block_lt_of_cell? w1 _ hb1))).trans hb1⟩ (fun hHeld => ?_)
  clear hK K
  refine norm_ (a' := ?_) ?_ ?_
  rotate_left
  · show Act.put _ (some 13) _ = _
    simp only [Act.put, List.setIfInBounds_toArray, List.set_cons_zero, List.set_cons_succ, i64_w, i32_w]
    rfl
  refine pure_ (i := 11) (N := some 2) (v := ?_) (a' := ?_) #[true, true, true, true, true, true, true, true, true, true, true, true] rfl rfl (by kernel_rfl) (fun _ _ _ h => h) (Or.inl ⟨by rfl, ?_⟩) ?_ ?_
  rotate_left
  · intro w'
    go_simp
    with_reducible rfl
  rotate_left
  · simp only [Act.put, List.setIfInBounds_toArray, List.set_cons_zero, List.set_cons_succ, i64_w, i32_w]
    rfl
  refine done_ (by kernel_rfl) ?_
  have hF' := Lib.hid hF
  have hB' := Lib.hid hB
  clear hF hB
  go_wp2
  go_ret
  have hQ := hF'.out
  refine ⟨w1.heap.size, fun k => k = w1.heap.size ∨ (Value.slice A1 ps.length c1').ownBlock = some k, rfl, ⟨_, Blk.new w1 _ _, q_move hQ.1 fun k hk => Below.heap_alloc _ _ k (q_lt hQ.1 k hk), fun k => Iff.rfl⟩, ?_, ?_⟩
  · rintro k (rfl | hk)
    · exact hB'.out.size
    · exact hQ.2.1 k hk
  · exact hB'.out.alloc hB'.out.size _
end Go.Proofs.YtehpliclknfmoaaGreat.Cargo
namespace Go.Proofs.YtehpliclknfmoaaGreat.Cargo
open Go.RowKit Mem Tick
open Go.Proofs.YtehpliclknfmoaaGreatW.PrintWords (QRow q_slice q_cells q_max q_append q_drop q_move q_typed q_lt q_of_own add_at)
set_option maxRecDepth 100000
set_option linter.unusedVariables false
set_option linter.unusedSimpArgs false
def hurF (at_ : Int) (acc : List Pc) (p : Pc) : List Pc := addP acc (min p.1 at_) p.2
def hur (at_ : Int) (ps : List Pc) : List Pc := ps.foldl (hurF at_) []
end Go.Proofs.YtehpliclknfmoaaGreat.Cargo
namespace Go.Proofs.YtehpliclknfmoaaGreat.Cargo
open Go.RowKit Mem Tick
open Go.Proofs.YtehpliclknfmoaaGreatW.PrintWords (QRow q_slice q_cells q_max q_append q_drop q_move q_typed q_lt q_of_own add_at cut_from)
set_option maxRecDepth 100000
set_option linter.unusedVariables false
set_option linter.unusedSimpArgs false
def takeP : Nat → List Pc → ByteArray × List Pc
  | _, [] => (⟨#[]⟩, [])
  | n, p :: r => if n = 0 then (⟨#[]⟩, p :: r) else if n < p.2.size then (p.2.extract 0 n, (p.1, p.2.extract n p.2.size) :: r) else (p.2 ++ (takeP (n - p.2.size) r).1, (takeP (n - p.2.size) r).2)
theorem takeP_zero (ps : List Pc) : takeP 0 ps = (⟨#[]⟩, ps) := by cases ps <;> simp [takeP]
def Full (ps : List Pc) : Prop := ∀ p ∈ ps, 0 < p.2.size
def takeN (now most : Int) (ps : List Pc) : Nat := (min (rdy now ps : Int) (max most 0)).toNat
theorem takeN_le (now most : Int) (ps : List Pc) : takeN now most ps ≤ tot ps := by
  have := rdy_le now ps
  unfold takeN
  omega
theorem takeN_eq (now most : Int) (ps : List Pc) : min (rdy now ps : Int) (max most 0) = (takeN now most ps : Int) := by
  unfold takeN
  omega
theorem own_set {w : World} {B e n : Nat} {v : Value} {xs : List Value} (h : w.ownsRow B e 1 v n xs) {a : Addr} (ha : a.block < B) (u : Value) : (w.setCell a u).ownsRow B e 1 v n xs := ownsRow_setCell_below h ha u
theorem far_ {w w1 : World} {row : Option Nat} (hG : w.grownBy w1 row) {k o : Nat} {v : Value} (h : w.cell? ⟨k, o, none⟩ = some v) (hne : some k ≠ row) : w1.cell? ⟨k, o, none⟩ = some v :=
  (World.cell?_of_block (a := ⟨k, o, none⟩) (hG.block k (World.block_lt_of_cell? w _ h) hne)).trans h
theorem farf_ {w w1 : World} {row : Option Nat} (hG : w.grownBy w1 row) {k o : Nat} {b : Bool} (hk : k < w.heap.size) (h : w.frozen? ⟨k, o, none⟩ = b) (hne : some k ≠ row) : w1.frozen? ⟨k, o, none⟩ = b :=
  (World.frozen?_of_block (a := ⟨k, o, none⟩) (hG.block k hk hne)).trans h
theorem _root_.Go.Proofs.YtehpliclknfmoaaGreat.Mem.Did.grown {F : Nat → Prop} {a w w1 : World} {row : Option Nat} (h : Did F a w) (hG : w.grownBy w1 row) (hr : ∀ k, row = some k → F k ∨ a.heap.size ≤ k) : Did F a w1 :=
  ⟨hG.os.trans h.os, hG.tape.trans h.tape, hG.output.trans h.output, Nat.le_trans h.size hG.size, fun k hk hn => (hG.block k (Nat.lt_of_lt_of_le hk h.size) fun e => (hr k e.symm).elim hn (fun d => by omega)).trans (h.block k hk hn)⟩
def cutA (A : Option Addr) (cap : Nat) : Option Addr := if cap = 1 then A else A.map (·.add 2)
theorem cutA_block {A : Option Addr} {cap n c n' c' : Nat} : (Value.slice (cutA A cap) n c).ownBlock = (Value.slice A n' c').ownBlock := by
  unfold cutA
  split
  · cases A <;> rfl
  · cases A with
    | none => rfl
    | some a =>
      obtain ⟨g, o, sp⟩ := a
      simp only [Option.map_some, Value.ownBlock, Addr.add]
      split <;> rfl
theorem CG.cut_ {w : World} {F : Nat → Prop} {b : Nat} {p : Pc} {r : List Pc} {last : Int} {A : Option Addr} {n cap : Nat} (h : CG w F b (p :: r) last) (h0 : w.cell? ⟨b, 0, none⟩ = some (.slice A n cap)) : CG (w.setCell ⟨b, 0, none⟩ (.slice (cutA A cap) r.length (cap - 1))) F b r last := by
  obtain ⟨v, hb, hq, hf⟩ := h
  have := hb.cell 0
  rw [h0] at this
  simp at this
  subst this
  obtain ⟨_, _, he, _⟩ := q_slice hq
  injection he with _ hn _
  subst hn
  have hbk : ∀ k, (Value.slice A (p :: r).length cap).ownBlock = some k → k ≠ b := fun k hk => by
    obtain ⟨_, cs, hc⟩ := q_typed hq k hk
    exact Blk.ne (t := 100) (t' := 83) hc hb (by decide)
  refine ⟨_, hb.set_ 0 _, ?_, fun k => by rw [hf k, cutA_block (n' := (p :: r).length) (c' := cap)]⟩
  have hd := q_drop (k := 1) hq (by simp)
  have hm := q_move (w1 := w.setCell ⟨b, 0, none⟩ (.slice (cutA A cap) r.length (cap - 1))) hd fun k hk => Below.heap_setCell _ _ _ k (hbk k (by
    rw [← hk]
    exact (cutA_block (A := A) (cap := cap) (n := (p :: r).length - 1) (c := cap - 1)).symm))
  exact hm
theorem take_far {w : World} {F : Nat → Prop} {b : Nat} {ps : List Pc} {last : Int} (now most : Int) (h : CG w F b ps last) (hf : Full ps) (ht : tot ps ≤ 70368744177664) :
    Calls Tryz.prog 47 #[.pointer (some ⟨b, 0, none⟩), .int .i64 now, .int .i64 most] w fun e w' =>
      ∃ A cap, e = .returned (.slice A (takeP (takeN now most ps) ps).1.size cap) ∧ BS w' A (takeP (takeN now most ps) ps).1 ∧ CG w' F b (takeP (takeN now most ps) ps).2 last ∧ Did F w w' ∧ (∀ g, (∃ o, A = some ⟨g, o, none⟩) → w.heap.size ≤ g) := by
  have H := Lib.hid h
  have hF := Lib.hid hf
  have hlt := h.lt h.mine
  clear h hf
  obtain ⟨i0, hi, hz0, hz1, hz2⟩ := info_parts info_byte
  have hN := Lib.hid (takeN_eq now most ps)
  have hNl := takeN_le now most ps
  go_enter Tryz.func47, Tryz.ntmps47
  go_wp2_with fail
  refine (ready_any now H.out (by omega)).mono ?_
  rintro e w0 ⟨rfl, hb0⟩
  have hb0' := Lib.hid hb0
  clear hb0
  go_wp2
  rw [hN.out]
  generalize hn0 : takeN now most ps = n0 at *
  have hn0' := Lib.hid hn0
  clear hn0 hN
  generalize hR : takeP n0 ps = R at *
  have hR' := Lib.hid hR
  clear hR
  have hC0 := Lib.hid (show CG w0 F b ps last ∧ Did F w w0 ∧ w.heap.size ≤ w0.heap.size from ⟨H.out.below hb0'.out, Did.of_below hb0'.out, hb0'.out.size⟩)
  go_loopw [7, 8] (fun nv ov wr => ∃ (m : Nat) (o : ByteArray) (qs : List Pc), nv = .int .i64 m ∧ wr.ownsRow w.heap.size 5 1 ov o.size (Lib.strCells o) ∧ CG wr F b qs last ∧ Did F w wr ∧ Full qs ∧ m ≤ tot qs ∧ o.size + tot qs = tot ps ∧ o ++ (takeP m qs).1 = R.1 ∧ (takeP m qs).2 = R.2) (fun nv _ _ => (intOf nv).toNat)
  case atStart => exact ⟨n0, ⟨#[]⟩, ps, rfl, World.ownsRow_nil _ _ _ _, hC0.out.1, hC0.out.2.1, hF.out, by omega, by show 0 + tot ps = tot ps; omega, by rw [hR'.out]; exact ByteArray.empty_append (b := R.1), by rw [hR'.out]⟩
  case round =>
    obtain ⟨m, o, qs, rfl, hO, hC, hD, hFu, hm, hto, hr1, hr2⟩ := hrel
    clear hC0 hb0'
    by_cases h0 : 0 < m
    · cases qs with
      | nil => simp [tot] at hm; omega
      | cons p r =>
        have hfp := hFu p (List.mem_cons_self ..)
        have hV := hC.view
        obtain ⟨A, cap, hb, hlc, hmx, hA⟩ := hV
        obtain ⟨g, oo, rfl, hc⟩ := hA (by simp)
        obtain ⟨d0, d1⟩ := hc 0 p rfl
        rw [Nat.zero_mul, Nat.add_zero] at d0 d1
        have c0 := hb.cell 0
        have f0 := hb.free 0
        simp at c0
        have hrow := hC.row c0
        have hrow' := Lib.hid hrow
        have hfr : ∀ i, wr.frozen? ⟨g, i, none⟩ = false := hrow.2.2.2.1
        have f1 := hfr (oo + 1)
        have hgb := hrow.2.1
        have hH := Lib.hid (show CG wr F b (p :: r) last ∧ Did F w wr ∧ Full (p :: r) ∧ o ++ (takeP m (p :: r)).1 = R.1 ∧ (takeP m (p :: r)).2 = R.2 ∧ wr.ownsRow w.heap.size 5 1 u8 o.size (Lib.strCells o) from ⟨hC, hD, hFu, hr1, hr2, hO⟩)
        clear hA hc hfr hrow hb hC hD hFu hr1 hr2
        simp only [tot] at hm hto
        have hgF : F g := hrow'.out.1
        have hgl : g < w.heap.size := H.out.lt hgF
        have hne1 : some g ≠ u8.ownBlock := fun e => by have := own_ge hO g e.symm; omega
        have hne2 : some b ≠ u8.ownBlock := fun e => by have := own_ge hO b e.symm; omega
        have hwr : w.heap.size ≤ wr.heap.size := hH.out.2.1.size
        by_cases hlt2 : m < p.2.size
        · have hmin : min (m : Int) (p.2.size : Int) = m := by omega
          have hz1' : (p.2.extract 0 m).size = m := by rw [ByteArray.size_extract]; omega
          have hz2' : (p.2.extract m p.2.size).size = p.2.size - m := by rw [ByteArray.size_extract]; omega
          have hem : (p.2.extract m p.2.size).toList.isEmpty = false := isEmpty_false (by omega)
          have hZ := Lib.hid hz1'
          have hZ2 := Lib.hid hz2'
          clear hz1' hz2'
          go_wp2_with (at_builtin; refine Lib.wpList_append_own_string _ rfl (.tmp 31) (.tmp 37) 67 9 rfl w.heap.size 5 i0 Tryz.underlying67 Tryz.underlying9 hi hz0 hz1 hz2 _ _ _ rfl hO _ rfl (by unfold maxLen; rw [hZ.out]; omega) (by rw [hZ.out]; omega) hwr ?_; intro v' w1 hO' hG _; have hG' := Lib.hid (show wr.grownBy w1 u8.ownBlock from hG); clear hG; have d0' := far_ hG'.out d0 hne1; have d1' := far_ hG'.out d1 hne1; have c0' := far_ hG'.out c0 hne2; have f0' := farf_ hG'.out (by omega) f0 hne2; have f1' := farf_ hG'.out (by omega) f1 hne1)
          have hO2 := Lib.hid hO'
          clear hO'
          go_roundw
          case rel =>
            refine ⟨0, o ++ p.2.extract 0 m, (p.1, p.2.extract m p.2.size) :: r, by simp, ?_, ?_, ?_, ?_, by omega, ?_, ?_, ?_⟩
            · rw [ByteArray.size_append, str_append]
              exact own_set hO2.out hgl _
            · exact (hH.out.1.kept fun k hk => hG'.out.block k (hH.out.1.lt hk) fun e => by have := own_ge hO k e.symm; have := H.out.lt hk; omega).put_ (j := 1) c0' (by simp; omega) rfl rfl
            · exact (hH.out.2.1.grown hG'.out fun k hk => .inr (own_ge hO k hk)).setCell (.inl hgF) _
            · intro q hq
              rcases List.mem_cons.1 hq with rfl | hq
              · show 0 < (p.2.extract m p.2.size).size
                rw [hZ2.out]; omega
              · exact hH.out.2.2.1 q (List.mem_cons_of_mem _ hq)
            · simp only [tot]
              rw [ByteArray.size_append, hZ.out, hZ2.out]; omega
            · have := hH.out.2.2.2.1
              simp only [takeP, if_neg (show ¬ m = 0 by omega), if_pos hlt2] at this
              rw [takeP_zero, ← this]
              exact ByteArray.append_empty
            · have := hH.out.2.2.2.2.1
              simp only [takeP, if_neg (show ¬ m = 0 by omega), if_pos hlt2] at this
              rw [takeP_zero, ← this]
          case measure => simp [intOf]; omega
        · have hmin : min (m : Int) (p.2.size : Int) = p.2.size := by omega
          have hz1' : (p.2.extract 0 p.2.size) = p.2 := ByteArray.extract_zero_size
          have hz2' : (p.2.extract p.2.size p.2.size).size = 0 := by rw [ByteArray.size_extract]; omega
          have hem : (p.2.extract p.2.size p.2.size).toList.isEmpty = true := by rw [isEmpty_size, hz2']; rfl
          have hZ := Lib.hid hz1'
          clear hz1' hz2'
          obtain ⟨A', hA'⟩ : ∃ A', cutA (some ⟨g, oo, none⟩) cap = A' := ⟨_, rfl⟩
          obtain ⟨i1, hi1, _, hs1, _⟩ := info_parts info_piece
          have hcut : ∀ W : World, (Instr.slice 81 (.slice (some ⟨g, oo, none⟩) (r.length + 1) cap) (some (.int .i64 1)) none none).run Tryz.prog W = .ok (.slice A' r.length (cap - 1)) W := by
            intro W
            have := cut_from (P := Tryz.prog) 81 100 .i64 Tryz.underlying81 hi1 2 hs1 (some ⟨g, oo, none⟩) (r.length + 1) cap 1 (by omega) (by omega) W
            rw [this, ← hA']
            rfl
          have hA2 := Lib.hid hA'
          clear hA' hi1 hs1
          go_wp2_with (at_builtin; refine Lib.wpList_append_own_string _ rfl (.tmp 31) (.tmp 37) 67 9 rfl w.heap.size 5 i0 Tryz.underlying67 Tryz.underlying9 hi hz0 hz1 hz2 _ _ _ rfl hO p.2 (by first | rfl | exact congrArg Value.string hZ.out) (by unfold maxLen; omega) (by omega) hwr ?_; intro v' w1 hO' hG _; have hG' := Lib.hid (show wr.grownBy w1 u8.ownBlock from hG); clear hG; have d0' := far_ hG'.out d0 hne1; have d1' := far_ hG'.out d1 hne1; have c0' := far_ hG'.out c0 hne2; have f0' := farf_ hG'.out (by omega) f0 hne2; have f1' := farf_ hG'.out (by omega) f1 hne1)
          have hO2 := Lib.hid hO'
          clear hO'
          go_roundw
          case rel =>
            refine ⟨m - p.2.size, o ++ p.2, r, by go_num, ?_, ?_, ?_, ?_, by omega, ?_, ?_, ?_⟩
            · rw [ByteArray.size_append, str_append]
              exact own_set (own_set hO2.out hgl _) hlt _
            · have h1 := (hH.out.1.kept fun k hk => hG'.out.block k (hH.out.1.lt hk) fun e => by have := own_ge hO k e.symm; have := H.out.lt hk; omega).put_ (j := 1) (u := .string ByteArray.empty) (qs := (p.1, ByteArray.empty) :: r) c0' (by simp; omega) rfl rfl
              have h2 := h1.cut_ (A := some ⟨g, oo, none⟩) (n := r.length + 1) (cap := cap) ((World.cell?_setCell_other _ _ _ _ (by simp [Ne.symm hgb])).trans c0')
              rw [hA2.out] at h2
              exact h2
            · exact ((hH.out.2.1.grown hG'.out fun k hk => .inr (own_ge hO k hk)).setCell (.inl hgF) _).setCell (.inl H.out.mine) _
            · exact fun q hq => hH.out.2.2.1 q (List.mem_cons_of_mem _ hq)
            · rw [ByteArray.size_append]; omega
            · have := hH.out.2.2.2.1
              simp only [takeP, if_neg (show ¬ m = 0 by omega), if_neg hlt2] at this
              rw [← this, ByteArray.append_assoc]
            · have := hH.out.2.2.2.2.1
              simp only [takeP, if_neg (show ¬ m = 0 by omega), if_neg hlt2] at this
              exact this
          case measure => simp [intOf]; omega
    · have hm0 : m = 0 := by omega
      subst hm0
      rw [takeP_zero] at hr1 hr2
      have hO2 := Lib.hid hO
      have hH := Lib.hid (show CG wr F b qs last ∧ Did F w wr from ⟨hC, hD⟩)
      have hr1' := Lib.hid hr1
      have hr2' := Lib.hid hr2
      clear hO hC hD hFu hr1 hr2
      go_wp2
      go_ret
      have e1 : o = R.1 := by rw [← hr1'.out]; exact ByteArray.append_empty.symm
      have e2 : qs = R.2 := hr2'.out
      rw [hn0'.out, hR'.out, ← e1, ← e2]
      obtain ⟨A', cap', rfl, hS, _, hge⟩ := bs_of_owns hO2.out
      exact ⟨A', ⟨cap', rfl⟩, hS, hH.out.1, hH.out.2, fun g o e => hge g ⟨o, e⟩⟩
end Go.Proofs.YtehpliclknfmoaaGreat.Cargo
namespace Go.Proofs.YtehpliclknfmoaaGreat.Cargo
open Go.RowKit Mem Tick
open Go.Proofs.YtehpliclknfmoaaGreatW.PrintWords (QRow q_slice q_cells q_max q_append q_drop q_move q_typed q_lt q_of_own add_at cut_from)
open Go.Proofs.YtehpliclknfmoaaGreatW.PrintLast
set_option maxRecDepth 100000
set_option linter.unusedVariables false
set_option linter.unusedSimpArgs false
theorem conv_str (s : ByteArray) (W : World) : (convert 9 67 (.string s)).run Tryz.prog W = .ok (.slice (some ⟨W.heap.size, 0, none⟩) s.size (grownCap W s.size 0 5)) (Lib.bytesWorld W 5 s) :=
  Lib.run_convert_string_bytes W _ _ _ s Tryz.underlying9 Tryz.underlying67 Tryz.underlying5
abbrev St := List Pc × Int
def doesP (k at_ n : Int) (s : ByteArray) (x : St) : (Int × ByteArray) × St :=
  if k = 0 then ((putAt x.2 at_, ⟨#[]⟩), (addP x.1 (putAt x.2 at_) s, putLast x.2 at_ s))
  else if k = 1 then ((0, (takeP (takeN at_ n x.1) x.1).1), ((takeP (takeN at_ n x.1) x.1).2, x.2))
  else if k = 2 then ((0, ⟨#[]⟩), (hur (add at_ 0) x.1, min x.2 (add at_ 0)))
  else if k = 3 then ((0, cat x.1), ([], x.2))
  else ((0, ⟨#[]⟩), x)
end Go.Proofs.YtehpliclknfmoaaGreat.Cargo
namespace Go.Proofs.YtehpliclknfmoaaGreat.Cargo
open Go.RowKit Mem Tick
set_option maxRecDepth 100000
set_option linter.unusedVariables false
set_option linter.unusedSimpArgs false
abbrev Op4 := Int × Int × Int × ByteArray
end Go.Proofs.YtehpliclknfmoaaGreat.Cargo
