/- A script of a stage's calls (chapter 10): how it lies in memory, and whether it is short. Conditions: each text is shorter than 2^47 bytes. -/
import Derived.Test.YtehpliclknfmoaaStageK
namespace Go.Proofs.Ytehpliclknfmoaa.Stage
open Go.RowKit Mem Tick Cargo Toxic
set_option maxRecDepth 100000
set_option linter.unusedVariables false
set_option linter.unusedSimpArgs false
/-- a call. -/
structure Op where
  kind : Int
  now : Int
  n : Int
  s : ByteArray
  t : Tox
def Op.cells (x : Op) : Array Value := #[.int .i64 x.kind, .int .i64 x.now, .int .i64 x.n, .string x.s, .string x.t.name, .int .i64 x.t.kind, .bool x.t.up, .int .i64 x.t.often, .int .i64 x.t.a, .int .i64 x.t.b]
abbrev Op.v (x : Op) : Value := .agg #[.int .i64 x.kind, .int .i64 x.now, .int .i64 x.n, .string x.s, .string x.t.name, .int .i64 x.t.kind, .bool x.t.up, .int .i64 x.t.often, .int .i64 x.t.a, .int .i64 x.t.b]
def opBytes (x : Op) : Nat := x.s.size
def Script (w : World) (v : Value) (l : List Op) : Prop :=
  ∃ a cap, v = .slice a l.length cap ∧ l.length ≤ 9223372036854775807 ∧ (∀ x ∈ l, x.s.size ≤ 140737488351232 ∧ x.t.name.size ≤ 140737488351232) ∧
    (l ≠ [] → ∃ b o, a = some ⟨b, o, none⟩ ∧ ∀ j x, l[j]? = some x → w.cell? ⟨b, o + j * 10, none⟩ = some (.int .i64 x.kind) ∧ w.cell? ⟨b, o + j * 10 + 1, none⟩ = some (.int .i64 x.now) ∧ w.cell? ⟨b, o + j * 10 + 2, none⟩ = some (.int .i64 x.n) ∧ w.cell? ⟨b, o + j * 10 + 3, none⟩ = some (.string x.s) ∧ w.cell? ⟨b, o + j * 10 + 4, none⟩ = some (.string x.t.name) ∧ w.cell? ⟨b, o + j * 10 + 5, none⟩ = some (.int .i64 x.t.kind) ∧ w.cell? ⟨b, o + j * 10 + 6, none⟩ = some (.bool x.t.up) ∧ w.cell? ⟨b, o + j * 10 + 7, none⟩ = some (.int .i64 x.t.often) ∧ w.cell? ⟨b, o + j * 10 + 8, none⟩ = some (.int .i64 x.t.a) ∧ w.cell? ⟨b, o + j * 10 + 9, none⟩ = some (.int .i64 x.t.b))
theorem Script.below {w w' : World} {v : Value} {l : List Op} (h : Script w v l) (hb : Below w.heap.size w w') : Script w' v l := by
  obtain ⟨a, cap, h1, h2, h3, h4⟩ := h
  refine ⟨a, cap, h1, h2, h3, fun hn => ?_⟩
  obtain ⟨b, o, e, hc⟩ := h4 hn
  refine ⟨b, o, e, fun j x hx => ?_⟩
  obtain ⟨c0, c1, c2, c3, c4, c5, c6, c7, c8, c9⟩ := hc j x hx
  exact ⟨bcells hb c0, bcells hb c1, bcells hb c2, bcells hb c3, bcells hb c4, bcells hb c5, bcells hb c6, bcells hb c7, bcells hb c8, bcells hb c9⟩
def bytesOf : List Op → Nat
  | [] => 0
  | x :: r => opBytes x + bytesOf r
theorem bytesOf_append (a b : List Op) : bytesOf (a ++ b) = bytesOf a + bytesOf b := by induction a with | nil => simp [bytesOf] | cons p r ih => simp [bytesOf, ih]; omega
theorem bytesOf_take (l : List Op) (k : Nat) (x : Op) (h : l[k]? = some x) : bytesOf (l.take (k + 1)) = bytesOf (l.take k) + opBytes x := by
  rw [List.take_add_one, h, bytesOf_append]; simp [bytesOf]
theorem bytesOf_le (l : List Op) (k : Nat) : bytesOf (l.take k) ≤ bytesOf l := by
  have := bytesOf_append (l.take k) (l.drop k)
  rw [List.take_append_drop] at this; omega
theorem bytesOf_max (l : List Op) (h : ∀ x ∈ l, x.s.size ≤ 140737488351232 ∧ x.t.name.size ≤ 140737488351232) : bytesOf l ≤ l.length * 281474976702464 := by
  induction l with
  | nil => simp [bytesOf]
  | cons x r ih =>
    have h1 := h x (List.mem_cons_self ..)
    have h2 := ih fun y hy => h y (List.mem_cons_of_mem _ hy)
    simp only [bytesOf, List.length_cons, opBytes]; omega
def fewB (l : List Op) : Bool := decide (l.length ≤ 60) && decide (bytesOf l ≤ 2000)
theorem few_short (v : Value) (l : List Op) (w : World) (hv : Script w v l) (hl : l.length ≤ 60) :
    Calls Try.prog 16 #[v] w fun e w' => e = .returned (.bool (decide (bytesOf l ≤ 2000))) ∧ Below w.heap.size w w' := by
  obtain ⟨a, cap, rfl, hm, hs, hA⟩ := hv
  have hmx := bytesOf_max l hs
  have hd : decide ((l.length : Int) ≤ 60) = true := decide_eq_true (by omega)
  clear hs
  go_enter Try.func16, Try.ntmps16
  go_wp2
  go_loopw [3, 8] (fun nv iv wr => ∃ k : Nat, k ≤ l.length ∧ iv = .int .i64 k ∧ nv = .int .i64 (bytesOf (l.take k)) ∧ Below w.heap.size w wr) (fun _ iv _ => l.length - (intOf iv).toNat)
  case atStart => exact ⟨0, by omega, rfl, by simp [bytesOf], Below.refl _ _⟩
  case round =>
    obtain ⟨k, hk, rfl, rfl, hB⟩ := hrel
    by_cases hlt : k < l.length
    · skip
      obtain ⟨g, o, rfl, hc⟩ := hA (by intro h; subst h; simp at hlt)
      have hx : l[k]? = some l[k] := List.getElem?_eq_getElem hlt
      obtain ⟨d0, d1, d2, d3, d4, d5, d6, d7, d8, d9⟩ := hc k _ hx
      have hs := Lib.hid (bytesOf_take l k _ hx)
      have hle := bytesOf_le l (k + 1)
      rw [hs.out] at hle
      unfold opBytes at hle hs
      generalize l[k] = p at *
      obtain ⟨p0, p1, p2, p3, ⟨t0, t1, t2, t3, t4, t5⟩⟩ := p
      dsimp only at *
      have d0' := bcells hB d0
      have d1' := bcells hB d1
      have d2' := bcells hB d2
      have d3' := bcells hB d3
      have d4' := bcells hB d4
      have d5' := bcells hB d5
      have d6' := bcells hB d6
      have d7' := bcells hB d7
      have d8' := bcells hB d8
      have d9' := bcells hB d9
      generalize hs1 : bytesOf (l.take (k + 1)) = s1 at *
      have hs1' := Lib.hid hs1
      generalize bytesOf (l.take k) = s0 at *
      have hsz := hB.size
      clear hc hx hA d0 d1 d2 d3 d4 d5 d6 d7 d8 d9 hs1
      go_wp2
      go_roundw
      case rel => exact ⟨k + 1, by omega, by go_num, by rw [hs1'.out, hs.out]; go_num, hB.alloc hB.size _⟩
      case measure => simp [intOf]; omega
    · have hk2 : k = l.length := by omega
      subst hk2
      have hnl : ¬ (l.length < l.length) := by omega
      rw [List.take_length]
      go_wp2
      go_ret
      exact ⟨by simp; omega, hB⟩
theorem few_long (v : Value) (l : List Op) (w : World) (hv : Script w v l) (hl : 60 < l.length) :
    Calls Try.prog 16 #[v] w fun e w' => e = .returned (.bool false) ∧ Below w.heap.size w w' := by
  obtain ⟨a, cap, rfl, hm, hs, hA⟩ := hv
  have hd : decide ((l.length : Int) ≤ 60) = false := decide_eq_false (by omega)
  clear hs
  go_enter Try.func16, Try.ntmps16
  go_wp2
  go_loopw [3, 8] (fun nv iv wr => ∃ (k : Nat) (x : Int), k ≤ l.length ∧ iv = .int .i64 k ∧ nv = .int .i64 x ∧ Below w.heap.size w wr) (fun _ iv _ => l.length - (intOf iv).toNat)
  case atStart => exact ⟨0, 0, by omega, rfl, rfl, Below.refl _ _⟩
  case round =>
    obtain ⟨k, x, hk, rfl, rfl, hB⟩ := hrel
    by_cases hlt : k < l.length
    · skip
      obtain ⟨g, o, rfl, hc⟩ := hA (by intro h; subst h; simp at hlt)
      have hx : l[k]? = some l[k] := List.getElem?_eq_getElem hlt
      obtain ⟨d0, d1, d2, d3, d4, d5, d6, d7, d8, d9⟩ := hc k _ hx
      generalize l[k] = p at *
      obtain ⟨p0, p1, p2, p3, ⟨t0, t1, t2, t3, t4, t5⟩⟩ := p
      dsimp only at *
      have d0' := bcells hB d0
      have d1' := bcells hB d1
      have d2' := bcells hB d2
      have d3' := bcells hB d3
      have d4' := bcells hB d4
      have d5' := bcells hB d5
      have d6' := bcells hB d6
      have d7' := bcells hB d7
      have d8' := bcells hB d8
      have d9' := bcells hB d9
      have hsz := hB.size
      clear hc hx hA d0 d1 d2 d3 d4 d5 d6 d7 d8 d9
      go_wp2
      go_roundw
      case rel => exact ⟨k + 1, _, by omega, by go_num, rfl, hB.alloc hB.size _⟩
      case measure => simp [intOf]; omega
    · have hk2 : k = l.length := by omega
      subst hk2
      have hnl : ¬ (l.length < l.length) := by omega
      go_wp2
      go_ret
      exact ⟨rfl, hB⟩
theorem few_any (v : Value) (l : List Op) (w : World) (hv : Script w v l) :
    Calls Try.prog 16 #[v] w fun e w' => e = .returned (.bool (fewB l)) ∧ Below w.heap.size w w' := by
  unfold fewB
  by_cases hl : l.length ≤ 60
  · rw [decide_eq_true hl, Bool.true_and]; exact few_short v l w hv hl
  · rw [decide_eq_false hl, Bool.false_and]; exact few_long v l w hv (by omega)
end Go.Proofs.Ytehpliclknfmoaa.Stage
