/- Cargo (chapter 07): how it lies in memory, and what only reads it. Conditions: the bytes are fewer than 2^62. -/
import Derived.Test.YtehpliclknfmoaaGreatC10
import Derived.Test.YtehpliclknfmoaaGreatC6
import Derived.Deep.LoopGhost
import Derived.LoopTactic
import Derived.BigRegion
import Derived.RegionTactic
import Derived.Test.YtehpliclknfmoaaGreatC9
import Derived.Test.YtehpliclknfmoaaGreatC4
namespace Go.Proofs.YtehpliclknfmoaaGreat.Cargo
open Go.RowKit Mem Tick
open Go.Proofs.YtehpliclknfmoaaGreatW.PrintWords (QRow q_slice q_cells q_max q_append q_drop q_move q_typed q_lt q_of_own add_at)
set_option maxRecDepth 100000
set_option linter.unusedVariables false
set_option linter.unusedSimpArgs false

abbrev Pc := Int × ByteArray
def cells : List Pc → List Value
  | [] => []
  | p :: r => .int .i64 p.1 :: .string p.2 :: cells r
def tot : List Pc → Nat
  | [] => 0
  | p :: r => p.2.size + tot r
def rdy (now : Int) : List Pc → Nat
  | [] => 0
  | p :: r => (if p.1 ≤ now then p.2.size else 0) + rdy now r
theorem cells_length : ∀ ps : List Pc, (cells ps).length = ps.length * 2
  | [] => rfl
  | p :: r => by simp [cells, cells_length r]; omega
theorem cells_append : ∀ a b : List Pc, cells (a ++ b) = cells a ++ cells b
  | [], b => rfl
  | p :: r, b => by simp [cells, cells_append r b]
theorem cells_at : ∀ (ps : List Pc) (j : Nat) (p : Pc), ps[j]? = some p → (cells ps)[j * 2]? = some (.int .i64 p.1) ∧ (cells ps)[j * 2 + 1]? = some (.string p.2)
  | [], j, p, h => by simp at h
  | q :: r, 0, p, h => by simp at h; subst h; simp [cells]
  | q :: r, j + 1, p, h => by
    have := cells_at r j p (by simpa using h)
    rw [show (j + 1) * 2 = j * 2 + 1 + 1 by omega]
    simpa [cells] using this
theorem tot_append (a b : List Pc) : tot (a ++ b) = tot a + tot b := by induction a with | nil => simp [tot] | cons p r ih => simp [tot, ih]; omega
theorem rdy_append (now : Int) (a b : List Pc) : rdy now (a ++ b) = rdy now a + rdy now b := by induction a with | nil => simp [rdy] | cons p r ih => simp [rdy, ih]; omega
theorem rdy_le (now : Int) (a : List Pc) : rdy now a ≤ tot a := by induction a with | nil => simp [rdy] | cons p r ih => simp only [rdy, tot]; split <;> omega
theorem tot_take (ps : List Pc) (k : Nat) (p : Pc) (h : ps[k]? = some p) : tot (ps.take (k + 1)) = tot (ps.take k) + p.2.size := by
  rw [List.take_add_one, h, tot_append]; simp [tot]
theorem rdy_take (now : Int) (ps : List Pc) (k : Nat) (p : Pc) (h : ps[k]? = some p) : rdy now (ps.take (k + 1)) = rdy now (ps.take k) + if p.1 ≤ now then p.2.size else 0 := by
  rw [List.take_add_one, h, rdy_append]; simp [rdy]
theorem tot_take_le (ps : List Pc) (k : Nat) : tot (ps.take k) ≤ tot ps := by
  have := tot_append (ps.take k) (ps.drop k)
  rw [List.take_append_drop] at this; omega
theorem rdy_take_le (now : Int) (ps : List Pc) (k : Nat) : rdy now (ps.take k) ≤ rdy now ps := by
  have := rdy_append now (ps.take k) (ps.drop k)
  rw [List.take_append_drop] at this; omega

def CG (w : World) (F : Nat → Prop) (b : Nat) (ps : List Pc) (last : Int) : Prop :=
  ∃ v, Blk w b 83 #[v, .int .i64 last] ∧ QRow w 0 100 2 v ps.length (cells ps) ∧ ∀ k, F k ↔ k = b ∨ v.ownBlock = some k

theorem CG.typed {w : World} {F : Nat → Prop} {b : Nat} {ps : List Pc} {last : Int} (h : CG w F b ps last) : Typed w F [83, 100] := by
  obtain ⟨v, hb, hq, hf⟩ := h
  intro k hk
  rcases (hf k).1 hk with rfl | hk
  · exact ⟨_, by simp, _, hb⟩
  · obtain ⟨_, cs, hc⟩ := q_typed hq k hk
    exact ⟨_, by simp, cs, hc⟩
theorem CG.mine {w : World} {F : Nat → Prop} {b : Nat} {ps : List Pc} {last : Int} (h : CG w F b ps last) : F b := by
  obtain ⟨v, hb, hq, hf⟩ := h
  exact (hf b).2 (.inl rfl)
theorem CG.lt {w : World} {F : Nat → Prop} {b : Nat} {ps : List Pc} {last : Int} (h : CG w F b ps last) {k : Nat} (hk : F k) : k < w.heap.size := h.typed.lt hk
theorem CG.kept {w w' : World} {F : Nat → Prop} {b : Nat} {ps : List Pc} {last : Int} (h : CG w F b ps last) (hk : ∀ k, F k → w'.heap[k]? = w.heap[k]?) : CG w' F b ps last := by
  have hm := h.mine
  obtain ⟨v, hb, hq, hf⟩ := h
  exact ⟨v, (hk b hm).trans hb, q_move hq fun k hv => hk k ((hf k).2 (.inr hv)), hf⟩
theorem CG.below {w w' : World} {F : Nat → Prop} {b : Nat} {ps : List Pc} {last : Int} (h : CG w F b ps last) (hb : Below w.heap.size w w') : CG w' F b ps last :=
  h.kept fun k hk => hb.block k (h.lt hk)
theorem CG.view {w : World} {F : Nat → Prop} {b : Nat} {ps : List Pc} {last : Int} (h : CG w F b ps last) :
    ∃ A cap, Blk w b 83 #[.slice A ps.length cap, .int .i64 last] ∧ ps.length ≤ cap ∧ ps.length ≤ 9223372036854775807 ∧
      (ps ≠ [] → ∃ g o, A = some ⟨g, o, none⟩ ∧ ∀ j p, ps[j]? = some p → w.cell? ⟨g, o + j * 2, none⟩ = some (.int .i64 p.1) ∧ w.cell? ⟨g, o + j * 2 + 1, none⟩ = some (.string p.2)) := by
  obtain ⟨v, hb, hq, hf⟩ := h
  obtain ⟨A, c, rfl, hc⟩ := q_slice hq
  refine ⟨A, c, hb, hc, q_max hq, fun hne => ?_⟩
  have hn : 0 < ps.length := List.length_pos_iff.2 hne
  rcases hq.2 with ⟨h0, _⟩ | ⟨g, off, cap, cur, he, hg, hh, hnc, hm, hcs, ht⟩
  · omega
  · injection he with ha _ hc'
    obtain ⟨ad, hA, hat⟩ := q_cells hq hn
    rw [ha] at hA
    injection hA with hA
    refine ⟨g, off * 2, ha, fun j p hj => ?_⟩
    obtain ⟨c0, c1⟩ := cells_at ps j p hj
    have h0 := hat _ _ c0
    have h1 := hat _ _ c1
    rw [← hA, add_at] at h0 h1
    exact ⟨h0, h1⟩

theorem bcells {w w' : World} (hb : Below w.heap.size w w') {g o : Nat} {v : Value} (h : w.cell? ⟨g, o, none⟩ = some v) : w'.cell? ⟨g, o, none⟩ = some v :=
  (hb.cell (p := ⟨g, o, none⟩) (World.block_lt_of_cell? w _ h)).trans h
theorem len_any {w : World} {F : Nat → Prop} {b : Nat} {ps : List Pc} {last : Int} (h : CG w F b ps last) (ht : tot ps ≤ 4611686018427387904) :
    Calls Tryz.prog 35 #[.pointer (some ⟨b, 0, none⟩)] w fun e w' => e = .returned (.int .i64 (tot ps)) ∧ Below w.heap.size w w' := by
  obtain ⟨A, cap, hb, hlc, hm, hA⟩ := h.view
  have c0 := hb.cell 0
  simp at c0
  clear hb
  go_enter Tryz.func35, Tryz.ntmps35
  go_wp2
  go_loopw [3, 11] (fun nv iv wr => ∃ k : Nat, k ≤ ps.length ∧ iv = .int .i64 k ∧ nv = .int .i64 (tot (ps.take k)) ∧ Below w.heap.size w wr) (fun _ iv _ => ps.length - (intOf iv).toNat)
  case atStart => exact ⟨0, by omega, rfl, by simp [tot], Below.refl _ _⟩
  case round =>
    obtain ⟨k, hk, rfl, rfl, hB⟩ := hrel
    by_cases hlt : k < ps.length
    · obtain ⟨g, o, rfl, hc⟩ := hA (by intro h; subst h; simp at hlt)
      have hx : ps[k]? = some ps[k] := List.getElem?_eq_getElem hlt
      obtain ⟨d0, d1⟩ := hc k _ hx
      have hs := Lib.hid (tot_take ps k _ hx)
      have hle := tot_take_le ps (k + 1)
      rw [hs.out] at hle
      generalize ps[k] = p at *
      have d0' := bcells hB d0
      have d1' := bcells hB d1
      generalize hs1 : tot (ps.take (k + 1)) = s1 at *
      have hs1' := Lib.hid hs1
      generalize tot (ps.take k) = s0 at *
      have hsz := hB.size
      clear hc hx hA d0 d1 hs1
      go_wp2
      go_roundw
      case rel => exact ⟨k + 1, by omega, by go_num, by rw [hs1'.out, hs.out]; go_num, by
        have h1 := hB.alloc hB.size (.cells #[.int .i64 p.1, .string p.2] 100)
        exact h1⟩
      case measure => simp [intOf]; omega
    · have hk2 : k = ps.length := by omega
      subst hk2
      have hnl : ¬ (ps.length < ps.length) := by omega
      rw [List.take_length]
      go_wp2
      go_ret
      exact ⟨rfl, hB⟩

theorem ready_any {w : World} {F : Nat → Prop} {b : Nat} {ps : List Pc} {last : Int} (now : Int) (h : CG w F b ps last) (ht : tot ps ≤ 4611686018427387904) :
    Calls Tryz.prog 46 #[.pointer (some ⟨b, 0, none⟩), .int .i64 now] w fun e w' => e = .returned (.int .i64 (rdy now ps)) ∧ Below w.heap.size w w' := by
  obtain ⟨A, cap, hb, hlc, hm, hA⟩ := h.view
  have c0 := hb.cell 0
  simp at c0
  clear hb
  go_enter Tryz.func46, Tryz.ntmps46
  go_wp2
  go_loopw [5, 13] (fun nv iv wr => ∃ k : Nat, k ≤ ps.length ∧ iv = .int .i64 k ∧ nv = .int .i64 (rdy now (ps.take k)) ∧ Below w.heap.size w wr) (fun _ iv _ => ps.length - (intOf iv).toNat)
  case atStart => exact ⟨0, by omega, rfl, by simp [rdy], Below.refl _ _⟩
  case round =>
    obtain ⟨k, hk, rfl, rfl, hB⟩ := hrel
    by_cases hlt : k < ps.length
    · obtain ⟨g, o, rfl, hc⟩ := hA (by intro h; subst h; simp at hlt)
      have hx : ps[k]? = some ps[k] := List.getElem?_eq_getElem hlt
      obtain ⟨d0, d1⟩ := hc k _ hx
      have hs := Lib.hid (rdy_take now ps k _ hx)
      have hle := Nat.le_trans (rdy_take_le now ps (k + 1)) (rdy_le now ps)
      rw [hs.out] at hle
      generalize ps[k] = p at *
      have d0' := bcells hB d0
      have d1' := bcells hB d1
      have hle2 : rdy now (ps.take k) ≤ tot ps := Nat.le_trans (rdy_take_le now ps k) (rdy_le now ps)
      generalize hs1 : rdy now (ps.take (k + 1)) = s1 at *
      have hs1' := Lib.hid hs1
      generalize rdy now (ps.take k) = s0 at *
      have hsz := hB.size
      clear hc hx hA d0 d1 hs1
      by_cases hn : p.1 ≤ now
      · rw [if_pos hn] at hle hs
        have hd : decide (p.1 ≤ now) = true := decide_eq_true hn
        clear hn
        go_wp2
        go_roundw
        case rel => exact ⟨k + 1, by omega, by go_num, by rw [hs1'.out, hs.out]; go_num, hB.alloc hB.size _⟩
        case measure => simp [intOf]; omega
      · rw [if_neg hn] at hle hs
        have hd : decide (p.1 ≤ now) = false := decide_eq_false hn
        clear hn
        go_wp2
        go_roundw
        case rel => exact ⟨k + 1, by omega, by go_num, by rw [hs1'.out, hs.out]; go_num, hB.alloc hB.size _⟩
        case measure => simp [intOf]; omega
    · have hk2 : k = ps.length := by omega
      subst hk2
      have hnl : ¬ (ps.length < ps.length) := by omega
      rw [List.take_length]
      go_wp2
      go_ret
      exact ⟨rfl, hB⟩
theorem new_any (w : World) :
    Calls Tryz.prog 15 #[] w fun e w' => ∃ b F, e = .returned (.pointer (some ⟨b, 0, none⟩)) ∧ CG w' F b [] 0 ∧ (∀ k, F k → w.heap.size ≤ k) ∧ Below w.heap.size w w' := by
  go_enter Tryz.func15, Tryz.ntmps15
  go_wp2
  go_ret
  refine ⟨w.heap.size, (fun k => k = w.heap.size), rfl, ⟨.slice none 0 0, Blk.new w _ _, ⟨rfl, .inl ⟨rfl, none, rfl, fun a h => by cases h⟩⟩, fun k => by simp [Value.ownBlock]⟩, fun k hk => by omega, (Below.refl _ _).alloc (Nat.le_refl _) _⟩

end Go.Proofs.YtehpliclknfmoaaGreat.Cargo
namespace Go.Proofs.YtehpliclknfmoaaGreat.Cargo
open Go.RowKit Mem Tick
open Go.Proofs.YtehpliclknfmoaaGreatW.PrintWords (QRow q_slice q_cells q_max q_append q_drop q_move q_typed q_lt q_of_own add_at)
set_option maxRecDepth 100000
set_option linter.unusedVariables false
set_option linter.unusedSimpArgs false

open Go.Proofs.YtehpliclknfmoaaGreatW.PrintWords (eqA_of eqf_cons eqf_last)
theorem eq_piece (d : Nat) (w : World) (x0 y0 : Int) (x1 y1 : ByteArray) :
    (Op.equalIn (d + 2) 100 (.agg #[.int .i64 x0, .string x1]) (.agg #[.int .i64 y0, .string y1])).run Tryz.prog w = .ok (x0 == y0 && (x1.toList == y1.toList)) w := by
  refine eqA_of Tryz.underlying100 (by kernel_rfl) ?_
  refine eqf_cons (by rfl) (by go_simp; rfl) (by go_simp; rfl) (by go_simp) ?_
  exact eqf_last (by rfl) (by go_simp; rfl) (by go_simp; rfl) (by go_simp)
theorem eql_piece (w : World) (x0 y0 : Int) (x1 y1 : ByteArray) :
    (binOp .eql 100 (.agg #[.int .i64 x0, .string x1]) (.agg #[.int .i64 y0, .string y1])).run Tryz.prog w = .ok (.bool (x0 == y0 && (x1.toList == y1.toList))) w := by
  rw [run_eql_struct, eq_piece 9998]
  rfl
theorem eqguard_piece : Tryz.prog.eqGuardType Tryz.prog.depth 100 = false := by kernel_rfl
def joinedB (ps : List Pc) (t : Int) : Bool := match ps.getLast? with | none => false | some p => p.1 == t
theorem joined_nil {w : World} {k0 k1 k2 : Nat}
    (h2 : w.cell? ⟨k2, 0, none⟩ = some (.int .i64 (-1))) :
    Calls Tryz.prog 96 #[.pointer (some ⟨k2, 0, none⟩), .pointer (some ⟨k0, 0, none⟩), .pointer (some ⟨k1, 0, none⟩)] w fun e w' => e = .returned (.bool false) ∧ ∃ n, w' = w.drewN n := by
  go_enter Tryz.func96, Tryz.ntmps96
  have hd : decide ((0 : Int) ≤ -1) = false := by decide
  go_wp2
  go_quiet (fail)
  go_wp2
  go_ret
  exact ⟨rfl, _, rfl⟩
theorem joined_snoc {w : World} {F : Nat → Prop} {b : Nat} {ps : List Pc} {p : Pc} {last t : Int} {k0 k1 k2 : Nat} (h : CG w F b (ps ++ [p]) last)
    (h0 : w.cell? ⟨k0, 0, none⟩ = some (.pointer (some ⟨b, 0, none⟩))) (h1 : w.cell? ⟨k1, 0, none⟩ = some (.int .i64 t)) (h2 : w.cell? ⟨k2, 0, none⟩ = some (.int .i64 ps.length)) :
    Calls Tryz.prog 96 #[.pointer (some ⟨k2, 0, none⟩), .pointer (some ⟨k0, 0, none⟩), .pointer (some ⟨k1, 0, none⟩)] w fun e w' => e = .returned (.bool (p.1 == t)) ∧ ∃ n, w' = w.drewN n := by
  obtain ⟨A, cap, hb, hlc, hm, hA⟩ := h.view
  have c0 := hb.cell 0
  simp at c0
  obtain ⟨g, o, rfl, hc⟩ := hA (by simp)
  obtain ⟨d0, d1⟩ := hc ps.length p (by simp)
  clear hA hc hb h
  simp at hm hlc
  have hd : decide ((0 : Int) ≤ ps.length) = true := by simp
  have hi0 : (0 : Int) ≤ ps.length := by omega
  have hi1 : (ps.length : Int) < ps.length + 1 := by omega
  generalize ps.length = n at *
  have he := fun W => eql_piece W p.1 t ⟨#[]⟩ ⟨#[]⟩
  have hg := eqguard_piece
  go_enter Tryz.func96, Tryz.ntmps96
  go_wp2
  go_quiet (fail)
  go_wp2
  go_ret
  exact ⟨rfl, _, rfl⟩
theorem joined_any {w : World} {F : Nat → Prop} {b : Nat} {ps : List Pc} {last t : Int} {k0 k1 k2 : Nat} (h : CG w F b ps last)
    (h0 : w.cell? ⟨k0, 0, none⟩ = some (.pointer (some ⟨b, 0, none⟩))) (h1 : w.cell? ⟨k1, 0, none⟩ = some (.int .i64 t)) (h2 : w.cell? ⟨k2, 0, none⟩ = some (.int .i64 ((ps.length : Int) - 1))) :
    Calls Tryz.prog 96 #[.pointer (some ⟨k2, 0, none⟩), .pointer (some ⟨k0, 0, none⟩), .pointer (some ⟨k1, 0, none⟩)] w fun e w' => e = .returned (.bool (joinedB ps t)) ∧ ∃ n, w' = w.drewN n := by
  rcases List.eq_nil_or_concat ps with rfl | ⟨qs, p, rfl⟩
  · exact joined_nil h2
  · have e : (((qs.concat p).length : Int) - 1) = qs.length := by simp
    rw [e] at h2
    rw [List.concat_eq_append] at h ⊢
    have := joined_snoc h h0 h1 h2
    simpa [joinedB] using this
theorem step_q_append {P : Program} {w : World} {ops : Array Oper} {o : Oper} {a : Act} {K : Act → World → Prop} {Q : Exit → Act → World → Prop} {E : Prop} (hgd : o.guard = none) (s x : Operand) (t : TypeId)
    (ho : o.op = .call { callee := .builtin .append, args := #[s, x], argTypes := #[t, t] })
    (base : Nat) (e : TypeId) (i : TypeInfo) (z : Value) (size bytes : Nat) (ht : P.underlying t = some (.slice e)) (hi : P.info? e = some i) (hz : i.zero = some z)
    (hsize : i.size = size) (hby : i.bytes = bytes) (hzs : z.cells.size = size) (hsz : 0 < size)
    (v : Value) (n : Nat) (xs : List Value) (hs : a.eval s = v) (hown : QRow w base e size v n xs)
    (ad : Addr) (m c : Nat) (news : List Value) (hx : a.eval x = .slice (some ad) m c) (hl : news.length = m * size) (hnews : ∀ j u, news[j]? = some u → w.cell? (ad.add j) = some u) (h1 : ∀ u ∈ news, u.oneCell' = true)
    (hm : 0 < m) (h63 : n + m ≤ maxLen) (hbytes : (n + m) * bytes ≤ 140737488355328) (hbase : base ≤ w.heap.size)
    (h : ∀ g of cap w', QRow w' base e size (.slice (some ⟨g, of, none⟩) (n + m) cap) (n + m) (xs ++ news) → w.grownBy w' v.ownBlock → (v.ownBlock = some g ∨ w.heap.size ≤ g) → K (a.put o.dst (.slice (some ⟨g, of, none⟩) (n + m) cap)) w') :
    if Region.wanted o (yielded ops a.tmps) = true then Oper.wp P o a w K Q else E := by
  have hw : Region.wanted o (yielded ops a.tmps) = true := by simp [Region.wanted, hgd]
  rw [if_pos hw]
  obtain ⟨v', w', hr, hq, hg, hat⟩ := q_append (P := P) w base t o.type e i z size bytes ht hi hz hsize hby hzs hsz v n xs hown ad m c news hl hnews h1 hm h63 hbytes hbase
  obtain ⟨g, of, cap, rfl⟩ : ∃ g of cap, v' = .slice (some ⟨g, of, none⟩) (n + m) cap := by
    rcases hq.2 with ⟨h0, _⟩ | ⟨g, off, cap, cur, he, _⟩
    · omega
    · exact ⟨g, _, cap, he⟩
  unfold Oper.wp execOp
  simp only [ho, resolve, invoke, builtin, Sem.run_bind, Sem.run_pure, Result.andThen_ok, List.map_toArray, List.map_cons, List.map_nil, hs, hx, hr]
  refine h g of cap w' hq hg ?_
  rcases hat with hat | ⟨b, hb, hle⟩
  · exact .inl hat.symm
  · have : g = b := by simpa [Value.ownBlock] using hb
    exact .inr (this ▸ hle)
end Go.Proofs.YtehpliclknfmoaaGreat.Cargo
namespace Go.Proofs.YtehpliclknfmoaaGreat.Cargo
open Go.RowKit Mem Tick
open Go.Proofs.YtehpliclknfmoaaGreatW.PrintWords (QRow q_slice q_cells q_max q_append q_drop q_move q_typed q_lt q_of_own add_at)
set_option maxRecDepth 100000
set_option linter.unusedVariables false
set_option linter.unusedSimpArgs false

theorem q_set {w : World} {base n size g o c j : Nat} {e : TypeId} {xs : List Value} (h : QRow w base e size (.slice (some ⟨g, o, none⟩) n c) n xs) (hj : j < n * size) (u : Value) :
    QRow (w.setCell ⟨g, o + j, none⟩ u) base e size (.slice (some ⟨g, o, none⟩) n c) n (xs.set j u) := by
  obtain ⟨h1, h2⟩ := h
  refine ⟨by simpa using h1, ?_⟩
  rcases h2 with ⟨h0, _⟩ | ⟨g', off, cap, cur, he, hg, hh, hnc, hm, hcs, ht⟩
  · subst h0; omega
  · injection he with ha _ hc
    injection ha with ha
    injection ha with ha1 ha2
    subst ha1 ha2 hc
    refine .inr ⟨g, off, c, cur.setIfInBounds (off * size + j) u, rfl, hg, ?_, hnc, hm, by simpa using hcs, ?_⟩
    · simp [World.setCell, Array.getElem?_modify, hh]
    · rw [Array.toList_setIfInBounds, ← ht, List.drop_set, if_neg (by omega), show off * size + j - off * size = j by omega, List.take_set]
theorem cells_set : ∀ (ps : List Pc) (p : Pc) (u : ByteArray), (cells (ps ++ [p])).set (ps.length * 2 + 1) (.string u) = cells (ps ++ [(p.1, u)])
  | [], p, u => rfl
  | q :: r, p, u => by
    have := cells_set r p u
    rw [List.length_cons, show (r.length + 1) * 2 + 1 = r.length * 2 + 1 + 1 + 1 by omega]
    simpa [cells] using this

theorem CG.row {w : World} {F : Nat → Prop} {b : Nat} {ps : List Pc} {last : Int} {g o n cap : Nat} (h : CG w F b ps last) (h0 : w.cell? ⟨b, 0, none⟩ = some (.slice (some ⟨g, o, none⟩) n cap)) :
    F g ∧ g ≠ b ∧ n = ps.length ∧ (∀ i, w.frozen? ⟨g, i, none⟩ = false) ∧ QRow w 0 100 2 (.slice (some ⟨g, o, none⟩) n cap) n (cells ps) := by
  obtain ⟨v, hb, hq, hf⟩ := h
  have := hb.cell 0
  rw [h0] at this
  simp at this
  subst this
  obtain ⟨A, c, he, _⟩ := q_slice hq
  injection he with _ hn _
  subst hn
  obtain ⟨_, cs, hc⟩ := q_typed hq g rfl
  exact ⟨(hf g).2 (.inr rfl), Blk.ne (t := 100) (t' := 83) hc hb (by decide), rfl, fun i => Blk.free (t := 100) hc i, hq⟩
theorem CG.put_ {w : World} {F : Nat → Prop} {b : Nat} {ps qs : List Pc} {last : Int} {g o n cap j : Nat} {u : Value} (h : CG w F b ps last) (h0 : w.cell? ⟨b, 0, none⟩ = some (.slice (some ⟨g, o, none⟩) n cap))
    (hj : j < ps.length * 2) (hl : qs.length = ps.length) (hc : (cells ps).set j u = cells qs) : CG (w.setCell ⟨g, o + j, none⟩ u) F b qs last := by
  obtain ⟨hg, hne, rfl, _, hq⟩ := h.row h0
  obtain ⟨v, hb, hq', hf⟩ := h
  have := hb.cell 0
  rw [h0] at this
  simp at this
  subst this
  refine ⟨_, hb.far (p := ⟨g, o + j, none⟩) (Ne.symm hne) u, ?_, hf⟩
  have := q_set hq hj u
  rw [hc] at this
  rw [hl]
  exact this

theorem add_none {w : World} {F : Nat → Prop} {b : Nat} {ps : List Pc} {last : Int} (t : Int) (h : CG w F b ps last) :
    Calls Tryz.prog 81 #[.pointer (some ⟨b, 0, none⟩), .agg #[.int .i64 t, .string ⟨#[]⟩]] w fun e w' => e = .returned (.tuple #[]) ∧ Below w.heap.size w w' := by
  obtain ⟨A, cap, hb, hlc, hm, hA⟩ := h.view
  have c0 := hb.cell 0
  have hlt := hb.lt
  simp at c0
  clear hb h hA
  go_enter Tryz.func81, Tryz.ntmps81
  go_wp2
  go_end0
  exact ⟨rfl, (((Below.refl _ _).alloc (Nat.le_refl _) _).alloc (by simp) _).alloc (by simp; omega) _⟩
theorem add_join {w : World} {F : Nat → Prop} {b : Nat} {ps : List Pc} {p : Pc} {last : Int} (s : ByteArray) (h : CG w F b (ps ++ [p]) last) (hs : s.toList.isEmpty = false) (hz : p.2.size + s.size ≤ 4611686018427387904) :
    Calls Tryz.prog 81 #[.pointer (some ⟨b, 0, none⟩), .agg #[.int .i64 p.1, .string s]] w fun e w' => e = .returned (.tuple #[]) ∧ CG w' F b (ps ++ [(p.1, p.2 ++ s)]) last ∧ Did F w w' := by
  have H := Lib.hid h
  obtain ⟨A, cap, hb, hlc, hm, hA⟩ := h.view
  have c0 := hb.cell 0
  have hlt := hb.lt
  simp at c0 hm hlc
  clear hb h
  obtain ⟨g, o, rfl, hc⟩ := hA (by simp)
  obtain ⟨d0, d1⟩ := hc ps.length p (by simp)
  have hg := World.block_lt_of_cell? w _ d0
  simp at hg
  have hi0 : (0 : Int) ≤ ps.length := by omega
  have hi1 : (ps.length : Int) < ps.length + 1 := by omega
  clear hA hc
  go_enter Tryz.func81, Tryz.ntmps81
  go_wp2_with fail
  obtain ⟨W, hW⟩ : ∃ W, W = ((w.alloc (.cells #[.pointer (some ⟨b, 0, none⟩)] 55)).alloc (.cells #[.int .i64 p.1, .string s] 100)).alloc (.cells #[.int .i64 ps.length] 3) := ⟨_, rfl⟩
  rw [← hW]
  have HB : Below w.heap.size w W := by rw [hW]; exact (((Below.refl w.heap.size w).alloc (Nat.le_refl _) _).alloc (by simp) _).alloc (by simp; omega) _
  have e0 : W.cell? ⟨w.heap.size, 0, none⟩ = some (.pointer (some ⟨b, 0, none⟩)) := by rw [hW]; go_simp
  have e1 : W.cell? ⟨w.heap.size + 1, 0, none⟩ = some (.int .i64 p.1) := by rw [hW]; go_simp
  have e3 : W.cell? ⟨w.heap.size + 1, 1, none⟩ = some (.string s) := by rw [hW]; go_simp
  have e2 : W.cell? ⟨w.heap.size + 1 + 1, 0, none⟩ = some (.int .i64 ps.length) := by rw [hW]; go_simp
  have hf : W.frozen? ⟨g, o + ps.length * 2 + 1, none⟩ = false := ((H.out.below HB).row (bcells HB c0)).2.2.2.1 _
  clear hW
  have HB' := Lib.hid HB
  have c0' := bcells HB c0
  have d0' := bcells HB d0
  have d1' := bcells HB d1
  clear c0 d0 d1 HB
  have hz' : ¬ (9223372036854775807 < p.2.size + s.size) := by omega
  refine (joined_snoc (t := p.1) (H.out.below HB'.out) e0 e1 e2).mono ?_
  rintro e w1 ⟨rfl, n1, rfl⟩
  go_wp2
  go_region
  go_wp2
  go_end0
  have hC : CG (W.drewN (n1 + 1)) F b (ps ++ [p]) last := (H.out.below HB'.out).kept fun _ _ => rfl
  refine ⟨rfl, hC.put_ (o := o) (j := ps.length * 2 + 1) (qs := ps ++ [(p.1, p.2 ++ s)]) c0' (by simp; omega) (by simp) (cells_set ps p _), ?_⟩
  exact ((Did.of_below HB'.out).drewN _).setCell (.inl (hC.row c0').1) _
end Go.Proofs.YtehpliclknfmoaaGreat.Cargo
namespace Go.Proofs.YtehpliclknfmoaaGreat.Cargo
open Go.RowKit Mem Tick
open Go.Proofs.YtehpliclknfmoaaGreatW.PrintWords (QRow q_slice q_cells q_max q_append q_drop q_move q_typed q_lt q_of_own add_at)
open Go.Proofs.YtehpliclknfmoaaGreatW.PrintLast
set_option maxRecDepth 100000
set_option linter.unusedVariables false
set_option linter.unusedSimpArgs false
theorem info_piece : (Tryz.prog.info? 100).map (fun i => (i.zero, i.size, i.bytes)) = some (some (.agg #[.int .i64 0, .string ⟨#[]⟩]), 2, 24) := by kernel_rfl
theorem add_push {w : World} {F : Nat → Prop} {b : Nat} {ps : List Pc} {last : Int} (t : Int) (s : ByteArray) (h : CG w F b ps last) (hs : s.toList.isEmpty = false) (hj : joinedB ps t = false) (hn : ps.length ≤ 2000000000000) :
    Calls Tryz.prog 81 #[.pointer (some ⟨b, 0, none⟩), .agg #[.int .i64 t, .string s]] w fun e w' => e = .returned (.tuple #[]) ∧ ∃ F', CG w' F' b (ps ++ [(t, s)]) last ∧ Did F w w' ∧ Stem F F' w := by
  have H := Lib.hid h
  have hj' := Lib.hid hj
  obtain ⟨A, cap, hb, hlc, hm, hA⟩ := h.view
  have c0 := hb.cell 0
  have hlt := hb.lt
  simp at c0
  clear hb h hA hj
  obtain ⟨i0, hi, hz0, hz1, hz2⟩ := info_parts info_piece
  go_enter Tryz.func81, Tryz.ntmps81
  go_wp2_with fail
  obtain ⟨W, hW⟩ : ∃ W, W = ((w.alloc (.cells #[.pointer (some ⟨b, 0, none⟩)] 55)).alloc (.cells #[.int .i64 t, .string s] 100)).alloc (.cells #[.int .i64 ((ps.length : Int) - 1)] 3) := ⟨_, rfl⟩
  rw [← hW]
  have HB : Below w.heap.size w W := by rw [hW]; exact (((Below.refl w.heap.size w).alloc (Nat.le_refl _) _).alloc (by simp) _).alloc (by simp; omega) _
  have e0 : W.cell? ⟨w.heap.size, 0, none⟩ = some (.pointer (some ⟨b, 0, none⟩)) := by rw [hW]; go_simp
  have e1 : W.cell? ⟨w.heap.size + 1, 0, none⟩ = some (.int .i64 t) := by rw [hW]; go_simp
  have e3 : W.cell? ⟨w.heap.size + 1, 1, none⟩ = some (.string s) := by rw [hW]; go_simp
  have e2 : W.cell? ⟨w.heap.size + 1 + 1, 0, none⟩ = some (.int .i64 ((ps.length : Int) - 1)) := by rw [hW]; go_simp
  clear hW
  have HB' := Lib.hid HB
  have c0' := bcells HB c0
  clear c0 HB
  refine (joined_any (t := t) (H.out.below HB'.out) e0 e1 e2).mono ?_
  rintro e w1 ⟨rfl, n1, rfl⟩
  rw [hj'.out]
  go_wp2
  have HC := Lib.hid (H.out.below HB'.out)
  have HQ : Hid (QRow W 0 100 2 (.slice A ps.length cap) ps.length (cells ps)) := by
    obtain ⟨v, hv, hq, _⟩ := HC.out
    have := hv.cell 0
    rw [c0'] at this
    simp at this
    subst this
    exact Lib.hid hq
  clear e2
  have one : ∀ u ∈ [Value.int .i64 t, Value.string s], u.oneCell' = true := by intro u hu; simp at hu; rcases hu with rfl | rfl <;> rfl
  have hf : W.frozen? ⟨b, 0, none⟩ = false := by
    obtain ⟨v, hv, _⟩ := HC.out
    exact hv.free 0
  have hrow : ∀ k, (Value.slice A ps.length cap).ownBlock = some k → k < w.heap.size ∧ k ≠ b := by
    intro k hk
    obtain ⟨v, hv, hq, _⟩ := H.out
    have h0 := hv.cell 0
    have h1 : w.cell? ⟨b, 0, none⟩ = W.cell? ⟨b, 0, none⟩ := (HB'.out.cell (p := ⟨b, 0, none⟩) hlt).symm
    rw [h1, c0'] at h0
    simp at h0
    subst h0
    obtain ⟨_, cs, hc⟩ := q_typed hq k hk
    exact ⟨q_lt hq k hk, Blk.ne (t := 100) (t' := 83) hc hv (by decide)⟩
  have m0 : some w.heap.size ≠ (Value.slice A ps.length cap).ownBlock := fun e => by have := (hrow _ e.symm).1; omega
  have m1 : some (w.heap.size + 1) ≠ (Value.slice A ps.length cap).ownBlock := fun e => by have := (hrow _ e.symm).1; omega
  have m2 : some b ≠ (Value.slice A ps.length cap).ownBlock := fun e => (hrow _ e.symm).2 rfl
  have z0 : w.heap.size < W.heap.size := World.block_lt_of_cell? W _ e0
  have z1 : w.heap.size + 1 < W.heap.size := World.block_lt_of_cell? W _ e1
  have z2 : b < W.heap.size := World.block_lt_of_cell? W _ c0'
  have hrow' := Lib.hid hrow
  clear hrow
  refine start_ (n := 11) (S := fun w' => w'.cell? ⟨w.heap.size, 0, none⟩ = some (.pointer (some ⟨b, 0, none⟩)) ∧ w'.cell? ⟨w.heap.size + 1, 0, none⟩ = some (.int .i64 t) ∧ w'.cell? ⟨w.heap.size + 1, 1, none⟩ = some (.string s) ∧ w'.cell? ⟨b, 0, none⟩ = some (.slice A ps.length cap)) (ds := [10]) #[false, false, false, false, false, false, false, false, false, false, false] (by kernel_rfl) rfl rfl ⟨e0, e1, e3, c0'⟩ (fun hHeld => ?_)
  refine take_ (i := 0) (N := some 13) (v := ?_) (a' := ?_) #[true, false, false, false, false, false, false, false, false, false, false] rfl rfl (by kernel_rfl) (fun _ _ _ h => h) (Or.inl ⟨by rfl, ?_⟩) hHeld ?_ ?_
  rotate_left
  · rintro w' ⟨s0, s1, s2, s3⟩
    go_simp
    with_reducible rfl
  rotate_left
  · simp only [Act.put, List.setIfInBounds_toArray, List.set_cons_zero, List.set_cons_succ, i64_w, i32_w]
    rfl
  refine take_ (i := 1) (N := some 14) (v := ?_) (a' := ?_) #[true, true, false, false, false, false, false, false, false, false, false] rfl rfl (by kernel_rfl) (fun _ _ _ h => h) (Or.inl ⟨by rfl, ?_⟩) hHeld ?_ ?_
  rotate_left
  · rintro w' ⟨s0, s1, s2, s3⟩
    go_simp
    with_reducible rfl
  rotate_left
  · simp only [Act.put, List.setIfInBounds_toArray, List.set_cons_zero, List.set_cons_succ, i64_w, i32_w]
    rfl
  refine pure_ (i := 2) (N := some 15) (v := ?_) (a' := ?_) #[true, true, true, false, false, false, false, false, false, false, false] rfl rfl (by kernel_rfl) (fun _ _ _ h => h) (Or.inl ⟨by rfl, ?_⟩) ?_ ?_
  rotate_left
  · intro w'
    go_simp
    with_reducible rfl
  rotate_left
  · simp only [Act.put, List.setIfInBounds_toArray, List.set_cons_zero, List.set_cons_succ, i64_w, i32_w]
    rfl
  refine pure_ (i := 3) (N := some 16) (v := ?_) (a' := ?_) #[true, true, true, true, false, false, false, false, false, false, false] rfl rfl (by kernel_rfl) (fun _ _ _ h => h) (Or.inl ⟨by rfl, ?_⟩) ?_ ?_
  rotate_left
  · intro w'
    go_simp
    with_reducible rfl
  rotate_left
  · simp only [Act.put, List.setIfInBounds_toArray, List.set_cons_zero, List.set_cons_succ, i64_w, i32_w]
    rfl
  refine take_ (i := 4) (N := some 17) (v := ?_) (a' := ?_) #[true, true, true, true, true, false, false, false, false, false, false] rfl rfl (by kernel_rfl) (fun _ _ _ h => h) (Or.inl ⟨by rfl, ?_⟩) hHeld ?_ ?_
  rotate_left
  · rintro w' ⟨s0, s1, s2, s3⟩
    go_simp
    with_reducible rfl
  rotate_left
  · simp only [Act.put, List.setIfInBounds_toArray, List.set_cons_zero, List.set_cons_succ, i64_w, i32_w]
    rfl
  refine take_ (i := 5) (N := some 18) (v := ?_) (a' := ?_) #[true, true, true, true, true, true, false, false, false, false, false] rfl rfl (by kernel_rfl) (fun _ _ _ h => h) (Or.inl ⟨by rfl, ?_⟩) hHeld ?_ ?_
  rotate_left
  · rintro w' ⟨s0, s1, s2, s3⟩
    go_simp
    with_reducible rfl
  rotate_left
  · simp only [Act.put, List.setIfInBounds_toArray, List.set_cons_zero, List.set_cons_succ, i64_w, i32_w]
    rfl
  refine one_ (i := 6) (N := some 19) #[true, true, true, true, true, true, true, false, false, false, false] rfl rfl (by kernel_rfl) (by decide) (fun K hK => ?_)
  refine value_ (w1 := ?_) (v := ?_) (by rfl) rfl ?_ ?_
  rotate_left 2
  · go_simp
    constructor
    · rfl
    · rfl
  refine hK.out _ _ ⟨(World.cell?_of_block (Below.heap_alloc _ _ _ z0)).trans e0, (World.cell?_of_block (Below.heap_alloc _ _ _ z1)).trans e1, (World.cell?_of_block (Below.heap_alloc _ _ _ z1)).trans e3, (World.cell?_of_block (Below.heap_alloc _ _ _ z2)).trans c0'⟩ (fun hHeld => ?_)
  clear hK K
  refine norm_ (a' := ?_) ?_ ?_
  rotate_left
  · show Act.put _ (some 19) _ = _
    simp only [Act.put, List.setIfInBounds_toArray, List.set_cons_zero, List.set_cons_succ, i64_w, i32_w]
    rfl
  refine one_ (i := 7) (N := some 20) #[true, true, true, true, true, true, true, true, false, false, false] rfl rfl (by kernel_rfl) (by decide) (fun K hK => ?_)
  refine step_q_append rfl (.tmp 17) (.tmp 19) 81 rfl 0 100 i0 _ 2 24 Tryz.underlying81 hi hz0 hz1 hz2 rfl (by decide) (.slice A ps.length cap) ps.length (cells ps) rfl (q_move HQ.out (fun k hk => Below.heap_alloc _ _ k (q_lt HQ.out k hk))) ⟨W.heap.size, 0, none⟩ 1 1 [.int .i64 t, .string s] rfl rfl (World.news_of_block (heap_alloc_new _ _)) one (by decide) (by unfold maxLen; omega) (by omega) (Nat.zero_le _) ?_
  intro g of cap' w1 hq hg hat
  have q0 : w1.cell? ⟨b, 0, none⟩ = some (.slice A ps.length cap) := (hg.cell_far ⟨b, 0, none⟩ (by simp; omega) m2).trans ((World.cell?_of_block (Below.heap_alloc _ _ _ z2)).trans c0')
  have q1 : w1.frozen? ⟨b, 0, none⟩ = false := (hg.frozen_far ⟨b, 0, none⟩ (by simp; omega) m2).trans ((World.frozen?_of_block (Below.heap_alloc _ _ _ z2)).trans hf)
  refine hK.out _ _ ⟨(hg.cell_far ⟨w.heap.size, 0, none⟩ (by simp; omega) m0).trans ((World.cell?_of_block (Below.heap_alloc _ _ _ z0)).trans e0), (hg.cell_far ⟨w.heap.size + 1, 0, none⟩ (by simp; omega) m1).trans ((World.cell?_of_block (Below.heap_alloc _ _ _ z1)).trans e1), (hg.cell_far ⟨w.heap.size + 1, 1, none⟩ (by simp; omega) m1).trans ((World.cell?_of_block (Below.heap_alloc _ _ _ z1)).trans e3), (hg.cell_far ⟨b, 0, none⟩ (by simp; omega) m2).trans ((World.cell?_of_block (Below.heap_alloc _ _ _ z2)).trans c0')⟩ (fun hHeld => ?_)
  clear hK K
  refine norm_ (a' := ?_) ?_ ?_
  rotate_left
  · show Act.put _ (some 20) _ = _
    simp only [Act.put, List.setIfInBounds_toArray, List.set_cons_zero, List.set_cons_succ, i64_w, i32_w]
    rfl
  refine pure_ (i := 8) (N := some 21) (v := ?_) (a' := ?_) #[true, true, true, true, true, true, true, true, true, false, false] rfl rfl (by kernel_rfl) (fun _ _ _ h => h) (Or.inl ⟨by rfl, ?_⟩) ?_ ?_
  rotate_left
  · intro w'
    go_simp
    with_reducible rfl
  rotate_left
  · simp only [Act.put, List.setIfInBounds_toArray, List.set_cons_zero, List.set_cons_succ, i64_w, i32_w]
    rfl
  refine pure_ (i := 9) (N := some 22) (v := ?_) (a' := ?_) #[true, true, true, true, true, true, true, true, true, true, false] rfl rfl (by kernel_rfl) (fun _ _ _ h => h) (Or.inl ⟨by rfl, ?_⟩) ?_ ?_
  rotate_left
  · intro w'
    go_simp
    with_reducible rfl
  rotate_left
  · simp only [Act.put, List.setIfInBounds_toArray, List.set_cons_zero, List.set_cons_succ, i64_w, i32_w]
    rfl
  refine last_ (i := 10) (N := none) #[true, true, true, true, true, true, true, true, true, true, true] rfl rfl (by kernel_rfl) (by decide) (fun K hK => ?_)
  refine skip_ (w1 := ?_) (by rfl) rfl ?_ ?_
  rotate_left
  · go_simp
    rfl
  refine hK.out _ _ ?_
  clear hK K
  refine done_ (by kernel_rfl) ?_
  go_wp2
  go_end0
  have hown : ∀ k, (Value.slice A ps.length cap).ownBlock = some k → F k := by
    intro k hk
    obtain ⟨v, hv, hq', hF⟩ := HC.out
    have := hv.cell 0
    rw [c0'] at this
    simp at this
    subst this
    exact (hF k).2 (.inr hk)
  have hm' := HC.out.mine
  have hgb : g ≠ b := by
    rcases hat with e | e
    · exact (hrow'.out g e).2
    · simp at e; omega
  have hbw : Blk w1 b 83 #[.slice A ps.length cap, .int .i64 last] := by
    obtain ⟨v, hv, _⟩ := HC.out
    have h0 := hv.cell 0
    rw [c0'] at h0
    simp at h0
    subst h0
    exact (hg.block b (by simp; omega) m2).trans ((Below.heap_alloc _ _ _ z2).trans hv)
  have D1 : Did F w w1 := (((Did.of_below HB'.out).drewN (n1 + 1)).alloc (.cells #[.int .i64 t, .string s] 100)).trans (Stem.refl F w) (Did.of_grown hg fun k hk => .inl (hown k hk))
  refine ⟨rfl, fun k => k = b ∨ k = g, ⟨.slice (some ⟨g, of, none⟩) (ps.length + 1) cap', ?_, ?_, fun k => by simp [Value.ownBlock, eq_comm]⟩, D1.setCell (.inl hm') _, ?_⟩
  · have := hbw.set_ 0 (.slice (some ⟨g, of, none⟩) (ps.length + 1) cap')
    exact this
  · have hq2 := q_move (w1 := w1.setCell ⟨b, 0, none⟩ (.slice (some ⟨g, of, none⟩) (ps.length + 1) cap')) hq (fun k hk => Below.heap_setCell _ _ _ k (by
      have : g = k := by simpa [Value.ownBlock] using hk
      subst this
      exact hgb))
    rw [cells_append, List.length_append]
    exact hq2
  · rintro k (rfl | rfl)
    · exact .inl hm'
    · rcases hat with e | e
      · exact .inl (hown _ e)
      · right
        have h1 := HB'.out.size
        simp at e
        omega
end Go.Proofs.YtehpliclknfmoaaGreat.Cargo
