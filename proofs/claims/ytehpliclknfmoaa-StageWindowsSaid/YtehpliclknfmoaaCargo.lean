/- Cargo (chapter 07): how it lies in memory, and what only reads it. Conditions: the bytes are fewer than 2^62. -/
import Derived.Test.YtehpliclknfmoaaMem
import Derived.Test.YtehpliclknfmoaaTickA
import Derived.Deep.LoopGhost
import Derived.LoopTactic
import Derived.BigRegion
namespace Go.Proofs.Ytehpliclknfmoaa.Cargo
open Go.RowKit Mem Tick
open Go.Proofs.YtehpliclknfmoaaW.PrintWords (QRow q_slice q_cells q_max q_append q_drop q_move q_typed q_lt q_of_own add_at)
set_option maxRecDepth 100000
set_option linter.unusedVariables false
set_option linter.unusedSimpArgs false

abbrev Pc := Int × ByteArray
def cells : List Pc → List Value
  | [] => []
  | p :: r => .int .i64 p.1 :: .string p.2 :: cells r
def tot : List Pc → Nat
  | [] => 0
  | p :: r => p.2.size + tot r
def rdy (now : Int) : List Pc → Nat
  | [] => 0
  | p :: r => (if p.1 ≤ now then p.2.size else 0) + rdy now r
theorem cells_length : ∀ ps : List Pc, (cells ps).length = ps.length * 2
  | [] => rfl
  | p :: r => by simp [cells, cells_length r]; omega
theorem cells_append : ∀ a b : List Pc, cells (a ++ b) = cells a ++ cells b
  | [], b => rfl
  | p :: r, b => by simp [cells, cells_append r b]
theorem cells_drop : ∀ (k : Nat) (ps : List Pc), (cells ps).drop (k * 2) = cells (ps.drop k)
  | 0, ps => by simp
  | k + 1, [] => by simp [cells]
  | k + 1, p :: r => by rw [show (k + 1) * 2 = k * 2 + 1 + 1 by omega]; simpa [cells] using cells_drop k r
theorem cells_at : ∀ (ps : List Pc) (j : Nat) (p : Pc), ps[j]? = some p → (cells ps)[j * 2]? = some (.int .i64 p.1) ∧ (cells ps)[j * 2 + 1]? = some (.string p.2)
  | [], j, p, h => by simp at h
  | q :: r, 0, p, h => by simp at h; subst h; simp [cells]
  | q :: r, j + 1, p, h => by
    have := cells_at r j p (by simpa using h)
    rw [show (j + 1) * 2 = j * 2 + 1 + 1 by omega]
    simpa [cells] using this
theorem tot_append (a b : List Pc) : tot (a ++ b) = tot a + tot b := by induction a with | nil => simp [tot] | cons p r ih => simp [tot, ih]; omega
theorem rdy_append (now : Int) (a b : List Pc) : rdy now (a ++ b) = rdy now a + rdy now b := by induction a with | nil => simp [rdy] | cons p r ih => simp [rdy, ih]; omega
theorem rdy_le (now : Int) (a : List Pc) : rdy now a ≤ tot a := by induction a with | nil => simp [rdy] | cons p r ih => simp only [rdy, tot]; split <;> omega
theorem tot_take (ps : List Pc) (k : Nat) (p : Pc) (h : ps[k]? = some p) : tot (ps.take (k + 1)) = tot (ps.take k) + p.2.size := by
  rw [List.take_add_one, h, tot_append]; simp [tot]
theorem rdy_take (now : Int) (ps : List Pc) (k : Nat) (p : Pc) (h : ps[k]? = some p) : rdy now (ps.take (k + 1)) = rdy now (ps.take k) + if p.1 ≤ now then p.2.size else 0 := by
  rw [List.take_add_one, h, rdy_append]; simp [rdy]
theorem tot_take_le (ps : List Pc) (k : Nat) : tot (ps.take k) ≤ tot ps := by
  have := tot_append (ps.take k) (ps.drop k)
  rw [List.take_append_drop] at this; omega
theorem rdy_take_le (now : Int) (ps : List Pc) (k : Nat) : rdy now (ps.take k) ≤ rdy now ps := by
  have := rdy_append now (ps.take k) (ps.drop k)
  rw [List.take_append_drop] at this; omega

/-- block b is cargo: these pieces, and the tick of the last byte; its own blocks are F. -/
def CG (w : World) (F : Nat → Prop) (b : Nat) (ps : List Pc) (last : Int) : Prop :=
  ∃ v, Blk w b 78 #[v, .int .i64 last] ∧ QRow w 0 80 2 v ps.length (cells ps) ∧ ∀ k, F k ↔ k = b ∨ v.ownBlock = some k

theorem CG.typed {w : World} {F : Nat → Prop} {b : Nat} {ps : List Pc} {last : Int} (h : CG w F b ps last) : Typed w F [78, 80] := by
  obtain ⟨v, hb, hq, hf⟩ := h
  intro k hk
  rcases (hf k).1 hk with rfl | hk
  · exact ⟨_, by simp, _, hb⟩
  · obtain ⟨_, cs, hc⟩ := q_typed hq k hk
    exact ⟨_, by simp, cs, hc⟩
theorem CG.mine {w : World} {F : Nat → Prop} {b : Nat} {ps : List Pc} {last : Int} (h : CG w F b ps last) : F b := by
  obtain ⟨v, hb, hq, hf⟩ := h
  exact (hf b).2 (.inl rfl)
theorem CG.lt {w : World} {F : Nat → Prop} {b : Nat} {ps : List Pc} {last : Int} (h : CG w F b ps last) {k : Nat} (hk : F k) : k < w.heap.size := h.typed.lt hk
theorem CG.kept {w w' : World} {F : Nat → Prop} {b : Nat} {ps : List Pc} {last : Int} (h : CG w F b ps last) (hk : ∀ k, F k → w'.heap[k]? = w.heap[k]?) : CG w' F b ps last := by
  have hm := h.mine
  obtain ⟨v, hb, hq, hf⟩ := h
  exact ⟨v, (hk b hm).trans hb, q_move hq fun k hv => hk k ((hf k).2 (.inr hv)), hf⟩
theorem CG.below {w w' : World} {F : Nat → Prop} {b : Nat} {ps : List Pc} {last : Int} (h : CG w F b ps last) (hb : Below w.heap.size w w') : CG w' F b ps last :=
  h.kept fun k hk => hb.block k (h.lt hk)
theorem CG.did {w w' : World} {F G : Nat → Prop} {b : Nat} {ps : List Pc} {last : Int} (h : CG w F b ps last) (hd : Did G w w') (hn : ∀ k, F k → ¬ G k) : CG w' F b ps last :=
  h.kept fun k hk => hd.block k (h.lt hk) (hn k hk)
theorem CG.view {w : World} {F : Nat → Prop} {b : Nat} {ps : List Pc} {last : Int} (h : CG w F b ps last) :
    ∃ A cap, Blk w b 78 #[.slice A ps.length cap, .int .i64 last] ∧ ps.length ≤ cap ∧ ps.length ≤ 9223372036854775807 ∧
      (ps ≠ [] → ∃ g o, A = some ⟨g, o, none⟩ ∧ ∀ j p, ps[j]? = some p → w.cell? ⟨g, o + j * 2, none⟩ = some (.int .i64 p.1) ∧ w.cell? ⟨g, o + j * 2 + 1, none⟩ = some (.string p.2)) := by
  obtain ⟨v, hb, hq, hf⟩ := h
  obtain ⟨A, c, rfl, hc⟩ := q_slice hq
  refine ⟨A, c, hb, hc, q_max hq, fun hne => ?_⟩
  have hn : 0 < ps.length := List.length_pos_iff.2 hne
  rcases hq.2 with ⟨h0, _⟩ | ⟨g, off, cap, cur, he, hg, hh, hnc, hm, hcs, ht⟩
  · omega
  · injection he with ha _ hc'
    obtain ⟨ad, hA, hat⟩ := q_cells hq hn
    rw [ha] at hA
    injection hA with hA
    refine ⟨g, off * 2, ha, fun j p hj => ?_⟩
    obtain ⟨c0, c1⟩ := cells_at ps j p hj
    have h0 := hat _ _ c0
    have h1 := hat _ _ c1
    rw [← hA, add_at] at h0 h1
    exact ⟨h0, h1⟩

def nxt (ps : List Pc) : Int := (ps.map (·.1)).headD 0
theorem bcells {w w' : World} (hb : Below w.heap.size w w') {g o : Nat} {v : Value} (h : w.cell? ⟨g, o, none⟩ = some v) : w'.cell? ⟨g, o, none⟩ = some v :=
  (hb.cell (p := ⟨g, o, none⟩) (World.block_lt_of_cell? w _ h)).trans h
theorem len_any {w : World} {F : Nat → Prop} {b : Nat} {ps : List Pc} {last : Int} (h : CG w F b ps last) (ht : tot ps ≤ 4611686018427387904) :
    Calls Try.prog 32 #[.pointer (some ⟨b, 0, none⟩)] w fun e w' => e = .returned (.int .i64 (tot ps)) ∧ Below w.heap.size w w' := by
  obtain ⟨A, cap, hb, hlc, hm, hA⟩ := h.view
  have c0 := hb.cell 0
  simp at c0
  clear hb
  go_enter Try.func32, Try.ntmps32
  go_wp2
  go_loopw [3, 11] (fun nv iv wr => ∃ k : Nat, k ≤ ps.length ∧ iv = .int .i64 k ∧ nv = .int .i64 (tot (ps.take k)) ∧ Below w.heap.size w wr) (fun _ iv _ => ps.length - (intOf iv).toNat)
  case atStart => exact ⟨0, by omega, rfl, by simp [tot], Below.refl _ _⟩
  case round =>
    obtain ⟨k, hk, rfl, rfl, hB⟩ := hrel
    by_cases hlt : k < ps.length
    · obtain ⟨g, o, rfl, hc⟩ := hA (by intro h; subst h; simp at hlt)
      have hx : ps[k]? = some ps[k] := List.getElem?_eq_getElem hlt
      obtain ⟨d0, d1⟩ := hc k _ hx
      have hs := Lib.hid (tot_take ps k _ hx)
      have hle := tot_take_le ps (k + 1)
      rw [hs.out] at hle
      generalize ps[k] = p at *
      have d0' := bcells hB d0
      have d1' := bcells hB d1
      generalize hs1 : tot (ps.take (k + 1)) = s1 at *
      have hs1' := Lib.hid hs1
      generalize tot (ps.take k) = s0 at *
      have hsz := hB.size
      clear hc hx hA d0 d1 hs1
      go_wp2
      go_roundw
      case rel => exact ⟨k + 1, by omega, by go_num, by rw [hs1'.out, hs.out]; go_num, by
        have h1 := hB.alloc hB.size (.cells #[.int .i64 p.1, .string p.2] 80)
        exact h1⟩
      case measure => simp [intOf]; omega
    · have hk2 : k = ps.length := by omega
      subst hk2
      have hnl : ¬ (ps.length < ps.length) := by omega
      rw [List.take_length]
      go_wp2
      go_ret
      exact ⟨rfl, hB⟩

theorem ready_any {w : World} {F : Nat → Prop} {b : Nat} {ps : List Pc} {last : Int} (now : Int) (h : CG w F b ps last) (ht : tot ps ≤ 4611686018427387904) :
    Calls Try.prog 29 #[.pointer (some ⟨b, 0, none⟩), .int .i64 now] w fun e w' => e = .returned (.int .i64 (rdy now ps)) ∧ Below w.heap.size w w' := by
  obtain ⟨A, cap, hb, hlc, hm, hA⟩ := h.view
  have c0 := hb.cell 0
  simp at c0
  clear hb
  go_enter Try.func29, Try.ntmps29
  go_wp2
  go_loopw [5, 13] (fun nv iv wr => ∃ k : Nat, k ≤ ps.length ∧ iv = .int .i64 k ∧ nv = .int .i64 (rdy now (ps.take k)) ∧ Below w.heap.size w wr) (fun _ iv _ => ps.length - (intOf iv).toNat)
  case atStart => exact ⟨0, by omega, rfl, by simp [rdy], Below.refl _ _⟩
  case round =>
    obtain ⟨k, hk, rfl, rfl, hB⟩ := hrel
    by_cases hlt : k < ps.length
    · obtain ⟨g, o, rfl, hc⟩ := hA (by intro h; subst h; simp at hlt)
      have hx : ps[k]? = some ps[k] := List.getElem?_eq_getElem hlt
      obtain ⟨d0, d1⟩ := hc k _ hx
      have hs := Lib.hid (rdy_take now ps k _ hx)
      have hle := Nat.le_trans (rdy_take_le now ps (k + 1)) (rdy_le now ps)
      rw [hs.out] at hle
      generalize ps[k] = p at *
      have d0' := bcells hB d0
      have d1' := bcells hB d1
      have hle2 : rdy now (ps.take k) ≤ tot ps := Nat.le_trans (rdy_take_le now ps k) (rdy_le now ps)
      generalize hs1 : rdy now (ps.take (k + 1)) = s1 at *
      have hs1' := Lib.hid hs1
      generalize rdy now (ps.take k) = s0 at *
      have hsz := hB.size
      clear hc hx hA d0 d1 hs1
      by_cases hn : p.1 ≤ now
      · rw [if_pos hn] at hle hs
        have hd : decide (p.1 ≤ now) = true := decide_eq_true hn
        clear hn
        go_wp2
        go_roundw
        case rel => exact ⟨k + 1, by omega, by go_num, by rw [hs1'.out, hs.out]; go_num, hB.alloc hB.size _⟩
        case measure => simp [intOf]; omega
      · rw [if_neg hn] at hle hs
        have hd : decide (p.1 ≤ now) = false := decide_eq_false hn
        clear hn
        go_wp2
        go_roundw
        case rel => exact ⟨k + 1, by omega, by go_num, by rw [hs1'.out, hs.out]; go_num, hB.alloc hB.size _⟩
        case measure => simp [intOf]; omega
    · have hk2 : k = ps.length := by omega
      subst hk2
      have hnl : ¬ (ps.length < ps.length) := by omega
      rw [List.take_length]
      go_wp2
      go_ret
      exact ⟨rfl, hB⟩
theorem new_any (w : World) :
    Calls Try.prog 24 #[] w fun e w' => ∃ b F, e = .returned (.pointer (some ⟨b, 0, none⟩)) ∧ CG w' F b [] 0 ∧ (∀ k, F k → w.heap.size ≤ k) ∧ Below w.heap.size w w' := by
  go_enter Try.func24, Try.ntmps24
  go_wp2
  go_ret
  refine ⟨w.heap.size, (fun k => k = w.heap.size), rfl, ⟨.slice none 0 0, Blk.new w _ _, ⟨rfl, .inl ⟨rfl, none, rfl, fun a h => by cases h⟩⟩, fun k => by simp [Value.ownBlock]⟩, fun k hk => by omega, (Below.refl _ _).alloc (Nat.le_refl _) _⟩

end Go.Proofs.Ytehpliclknfmoaa.Cargo
