/- Cargo (chapter 07): add and Put. Conditions: the bytes are fewer than 2^46. -/
import Derived.Test.YtehpliclknfmoaaGreatC11
import Derived.Lib.SlBytesRow
import Derived.Lib.ConvBytes
import Derived.Laws.BytesString
namespace Go.Proofs.YtehpliclknfmoaaGreat.Cargo
open Go.RowKit Mem Tick
open Go.Proofs.YtehpliclknfmoaaGreatW.PrintWords (QRow q_slice q_cells q_max q_append q_drop q_move q_typed q_lt q_of_own add_at)
set_option maxRecDepth 100000
set_option linter.unusedVariables false
set_option linter.unusedSimpArgs false

def BS (w : World) (A : Option Addr) (s : ByteArray) : Prop := 0 < s.size → ∃ g o, A = some ⟨g, o, none⟩ ∧ Lib.Bytes w g o s
theorem BS.kept {w w' : World} {A : Option Addr} {s : ByteArray} (h : BS w A s) (hk : ∀ g, (∃ o, A = some ⟨g, o, none⟩) → g < w.heap.size → w'.heap[g]? = w.heap[g]?) : BS w' A s := by
  intro hs
  obtain ⟨g, o, rfl, hc⟩ := h hs
  refine ⟨g, o, rfl, fun i hi => ?_⟩
  have := hc i hi
  exact (World.cell?_of_block (hk g ⟨o, rfl⟩ (World.block_lt_of_cell? w _ this))).trans this
theorem BS.below {w w' : World} {A : Option Addr} {s : ByteArray} (h : BS w A s) (hb : Below w.heap.size w w') : BS w' A s := h.kept fun g _ hg => hb.block g hg
def BS.Off (A : Option Addr) (F : Nat → Prop) : Prop := ∀ g o, A = some ⟨g, o, none⟩ → ¬ F g
theorem conv_bytes {w : World} {A : Option Addr} {s : ByteArray} (cap : Nat) (h : BS w A s) : (convert 67 9 (.slice A s.size cap)).run Tryz.prog w = .ok (.string s) w := by
  by_cases hs : 0 < s.size
  · obtain ⟨g, o, rfl, hc⟩ := h hs
    exact Lib.run_convert_whole w _ _ _ Tryz.underlying67 Tryz.underlying5 Tryz.underlying9 g o s hc cap
  · have h0 : s.size = 0 := by omega
    have he : s = ⟨#[]⟩ := by
      obtain ⟨d⟩ := s
      have : d.size = 0 := h0
      rw [Array.eq_empty_of_size_eq_zero this]
    subst he
    show (convert 67 9 (.slice A 0 cap)).run Tryz.prog w = _
    rw [run_convert_bytes_string w _ _ _ _ 0 cap Tryz.underlying67 Tryz.underlying5 Tryz.underlying9]
    cases A <;> simp [Conv.bytesToString, loadCells]
    all_goals rfl
theorem bytes_new (w : World) (s : ByteArray) : BS (Lib.bytesWorld w 5 s) (some ⟨w.heap.size, 0, none⟩) s := by
  intro hs
  refine ⟨_, 0, rfl, fun i hi => ?_⟩
  have := Lib.bytesWorld_cell w 5 s i hi
  rw [Nat.zero_add, this]
  have : s.data.toList.getD i 0 = s[i] := by
    have hl : i < s.data.toList.length := by simpa using hi
    rw [List.getD_eq_getElem?_getD, List.getElem?_eq_getElem hl]
    rfl
  rw [this]
theorem bytes_below (w : World) (s : ByteArray) : Below w.heap.size w (Lib.bytesWorld w 5 s) :=
  ⟨rfl, rfl, rfl, by rw [Lib.bytesWorld_size]; omega, fun k hk => Lib.bytesWorld_at_old w _ s k hk⟩

def joinP : List Pc → ByteArray → List Pc
  | [], _ => []
  | [p], s => [(p.1, p.2 ++ s)]
  | p :: q :: r, s => p :: joinP (q :: r) s
theorem joinP_snoc : ∀ (ps : List Pc) (p : Pc) (s : ByteArray), joinP (ps ++ [p]) s = ps ++ [(p.1, p.2 ++ s)]
  | [], p, s => rfl
  | [q], p, s => rfl
  | q :: q' :: r, p, s => by
    have := joinP_snoc (q' :: r) p s
    simpa [joinP] using this
def addP (ps : List Pc) (t : Int) (s : ByteArray) : List Pc := if s.toList.isEmpty then ps else if joinedB ps t then joinP ps s else ps ++ [(t, s)]
theorem add_any {w : World} {F : Nat → Prop} {b : Nat} {ps : List Pc} {last : Int} (t : Int) (s : ByteArray) (h : CG w F b ps last) (ht : tot ps + s.size ≤ 4611686018427387904) (hn : ps.length ≤ 2000000000000) :
    Calls Tryz.prog 81 #[.pointer (some ⟨b, 0, none⟩), .agg #[.int .i64 t, .string s]] w fun e w' => e = .returned (.tuple #[]) ∧ ∃ F', CG w' F' b (addP ps t s) last ∧ Did F w w' ∧ Stem F F' w := by
  unfold addP
  by_cases hs : s.toList.isEmpty = true
  · rw [if_pos hs]
    obtain rfl : s = ⟨#[]⟩ := by
      obtain ⟨d⟩ := s
      rw [ByteArray.toList_eq] at hs
      simp at hs
      subst hs
      rfl
    exact (add_none t h).mono fun e w' ⟨he, hb⟩ => ⟨he, F, h.below hb, Did.of_below hb, Stem.refl _ _⟩
  · rw [if_neg hs]
    have hs' : s.toList.isEmpty = false := by simpa using hs
    by_cases hj : joinedB ps t = true
    · rw [if_pos hj]
      rcases List.eq_nil_or_concat ps with rfl | ⟨qs, p, rfl⟩
      · simp [joinedB] at hj
      · rw [List.concat_eq_append] at *
        have hp : p.1 = t := by simpa [joinedB] using hj
        subst hp
        rw [joinP_snoc]
        have : p.2.size ≤ tot (qs ++ [p]) := by rw [tot_append]; simp [tot]
        exact (add_join s h hs' (by omega)).mono fun e w' ⟨he, hc, hd⟩ => ⟨he, F, hc, hd, Stem.refl _ _⟩
    · rw [if_neg hj]
      exact add_push t s h hs' (by simpa using hj) hn
end Go.Proofs.YtehpliclknfmoaaGreat.Cargo
