/- The reference's cargo (chapter 07): Ready, Put and Hurry. Conditions: the bytes are fewer than 2^40. -/
import Derived.Test.YtcoennfpaimclaaCargoQ
import Derived.Test.YtcoennfpaimclaaWLast
namespace Go.Proofs.Ytcoennfpaimclaa.Ref07
open Go.RowKit Mem Tick Cargo
open Go.Proofs.YtcoennfpaimclaaW.PrintLast
set_option maxRecDepth 100000
set_option linter.unusedVariables false
set_option linter.unusedSimpArgs false
/-- whole numbers that may be read. -/
def IR (w : World) (A : Option Addr) (ts : List Int) : Prop := ts ≠ [] → ∃ g o, A = some ⟨g, o, none⟩ ∧ (∃ cs fr, w.heap[g]? = some (.cells cs 3 fr)) ∧ ∀ (j : Nat) (t : Int), ts[j]? = some t → w.cell? ⟨g, o + j, none⟩ = some (.int .i64 t)
theorem IR.nil (w : World) (A : Option Addr) : IR w A [] := fun h => absurd rfl h
theorem IR.kept {w w' : World} {A : Option Addr} {ts : List Int} (h : IR w A ts) (hk : ∀ g : Nat, (∃ (cs : Array Value) (fr : Nat × Nat), w.heap[g]? = some (Obj.cells cs 3 fr)) → w'.heap[g]? = w.heap[g]?) : IR w' A ts := by
  intro hn
  obtain ⟨g, o, e, ⟨cs, fr, hb⟩, hc⟩ := h hn
  exact ⟨g, o, e, ⟨cs, fr, (hk g ⟨cs, fr, hb⟩).trans hb⟩, fun j t ht => (World.cell?_of_block (a := ⟨g, o + j, none⟩) (hk g ⟨cs, fr, hb⟩)).trans (hc j t ht)⟩
theorem IR.below {w w' : World} {A : Option Addr} {ts : List Int} (h : IR w A ts) (hb : Below w.heap.size w w') : IR w' A ts := h.kept fun g ⟨cs, fr, hg⟩ => hb.block g (Array.getElem?_eq_some_iff.1 hg).1
theorem IR.drop {w : World} {A : Option Addr} {ts : List Int} (h : IR w A ts) (n : Nat) (c : Nat) (hn : n ≤ ts.length) (hc : ts.length ≤ c) : IR w (if c = n then A else A.map (·.add n)) (ts.drop n) := by
  intro hne
  have hlt : n < ts.length := by
    rcases Nat.lt_or_ge n ts.length with h | h
    · exact h
    · exact absurd (List.drop_eq_nil_of_le h) hne
  obtain ⟨g, o, rfl, hty, hcell⟩ := h (by rintro rfl; simp at hlt)
  rw [if_neg (by omega)]
  refine ⟨g, o + n, by simp [Addr.add], hty, fun j t ht => ?_⟩
  rw [List.getElem?_drop] at ht
  have := hcell _ _ ht
  rwa [← Nat.add_assoc] at this
theorem ir_of_owns {w : World} {base n : Nat} {v : Value} {ts : List Int} (h : w.ownsRow base 3 1 v n (ts.map (Value.int .i64))) : ∃ A c, v = .slice A ts.length c ∧ IR w A ts ∧ ts.length ≤ c := by
  obtain ⟨hl, h⟩ := h
  simp at hl
  subst hl
  rcases h with ⟨rfl, h0⟩ | ⟨g, cap, cur, rfl, hg, hh, hnc, hcap, hsz, htake⟩
  · have : ts = [] := List.eq_nil_of_length_eq_zero h0
    subst this
    exact ⟨none, 0, rfl, IR.nil _ _, by simp⟩
  · refine ⟨_, cap, rfl, fun _ => ⟨g, 0, rfl, ⟨cur, _, hh⟩, fun j y hy => ?_⟩, hnc⟩
    have hj : j < ts.length := (List.getElem?_eq_some_iff.1 hy).1
    have e1 : (cur.toList.take (ts.length * 1))[j]? = some (.int .i64 y) := by
      rw [htake, List.getElem?_map, hy]; rfl
    rw [List.getElem?_take, if_pos (by omega)] at e1
    simp only [World.cell?, hh]
    simp at e1
    simpa using e1
/-- the reference's cargo: its bytes, their ticks, the last one. -/
def cg (S : ByteArray) (A : Option Addr) (n c : Nat) (last : Int) : Value := .agg #[.string S, .slice A n c, .int .i64 last]
def RefIs (w : World) (v : Value) (S : ByteArray) (ts : List Int) (last : Int) : Prop := ∃ A c, v = cg S A ts.length c last ∧ IR w A ts ∧ ts.length ≤ c
theorem RefIs.below {w w' : World} {v : Value} {S : ByteArray} {ts : List Int} {last : Int} (h : RefIs w v S ts last) (hb : Below w.heap.size w w') : RefIs w' v S ts last := by
  obtain ⟨A, c, e, hi, hc⟩ := h
  exact ⟨A, c, e, hi.below hb, hc⟩
def cnt (now : Int) : List Int → Nat
  | [] => 0
  | t :: r => if t ≤ now then cnt now r + 1 else 0
theorem cnt_le (now : Int) (ts : List Int) : cnt now ts ≤ ts.length := by
  induction ts with
  | nil => simp [cnt]
  | cons t r ih => simp only [cnt, List.length_cons]; split <;> omega
theorem cnt_at : ∀ (now : Int) (ts : List Int) (k : Nat) (t : Int), ts[k]? = some t → k < cnt now ts → t ≤ now
  | now, t :: r, 0, x, h, hk => by
    simp at h
    subst h
    simp only [cnt] at hk
    split at hk
    · assumption
    · omega
  | now, t :: r, k + 1, x, h, hk => by
    simp only [cnt] at hk
    split at hk
    · exact cnt_at now r k x (by simpa using h) (by omega)
    · omega
  | now, [], k, x, h, hk => by simp at h
theorem cnt_end : ∀ (now : Int) (ts : List Int) (t : Int), ts[cnt now ts]? = some t → now < t
  | now, t :: r, x, h => by
    simp only [cnt] at h
    split at h
    · exact cnt_end now r x (by simpa using h)
    · simp at h; omega
  | now, [], x, h => by simp at h
theorem ready_any (w : World) (S : ByteArray) (A : Option Addr) (c : Nat) (ts : List Int) (last now : Int) (hi : IR w A ts) (hs : S.size = ts.length) (hz : ts.length ≤ 1000000000000) :
    Calls Try.prog 25 #[cg S A ts.length c last, .int .i64 now] w fun e w' => e = .returned (.int .i64 (cnt now ts)) ∧ Below w.heap.size w w' := by
  have hl := cnt_le now ts
  have hS := Lib.hid hs
  have hsl : (S.size : Int) = ts.length := by omega
  have hS2 := Lib.hid hsl
  clear hs hsl
  unfold cg
  go_enter Try.func25, Try.ntmps25
  go_wp2
  obtain ⟨W, hW⟩ : ∃ W, W = w.alloc (.cells #[.string S, .slice A ts.length c, .int .i64 last] 47) := ⟨_, rfl⟩
  rw [← hW]
  have hB : Below w.heap.size w W := by rw [hW]; exact (Below.refl _ _).alloc (Nat.le_refl _) _
  have e0 : W.cell? ⟨w.heap.size, 0, none⟩ = some (.string S) := by rw [hW]; go_simp
  have e1 : W.cell? ⟨w.heap.size, 1, none⟩ = some (.slice A ts.length c) := by rw [hW]; go_simp
  have hB' := Lib.hid hB
  clear hW hB
  go_loop [5] (fun nv => ∃ k : Nat, nv = .int .i64 k ∧ k ≤ cnt now ts) (fun nv => ts.length - (intOf nv).toNat)
  case atStart => exact ⟨0, rfl, by omega⟩
  case round =>
    obtain ⟨k, rfl, hk⟩ := hrel
    by_cases hlt : k < cnt now ts
    · obtain ⟨g, o, rfl, -, hc⟩ := hi (by rintro rfl; simp [cnt] at hlt)
      have hx : ts[k]? = some ts[k] := List.getElem?_eq_getElem (by omega)
      have hle := cnt_at now ts k _ hx hlt
      have d0 := bcells hB'.out (hc k _ hx)
      have hd1 : decide ((k : Int) < S.size) = true := decide_eq_true (by rw [hS2.out]; omega)
      have hd1' : decide (k < S.size) = true := decide_eq_true (by rw [hS.out]; omega)
      have hkl : (k : Int) < ts.length := by omega
      have hk0 : (0 : Int) ≤ (k : Int) := by omega
      generalize ts[k] = t at *
      have hd2 : decide (t ≤ now) = true := decide_eq_true hle
      clear hc hx hi hle
      go_wp2
      go_round
      case rel => exact ⟨k + 1, by go_num, by omega⟩
      case measure => simp [intOf]; omega
    · have hk2 : k = cnt now ts := by omega
      subst hk2
      by_cases hend : cnt now ts < ts.length
      · obtain ⟨g, o, rfl, -, hc⟩ := hi (by rintro rfl; simp at hend)
        have hx : ts[cnt now ts]? = some ts[cnt now ts] := List.getElem?_eq_getElem hend
        have hgt := cnt_end now ts _ hx
        have d0 := bcells hB'.out (hc _ _ hx)
        have hd1' : decide (cnt now ts < S.size) = true := decide_eq_true (by rw [hS.out]; omega)
        have hkl : (cnt now ts : Int) < ts.length := by omega
        have hk0 : (0 : Int) ≤ (cnt now ts : Int) := by omega
        generalize ts[cnt now ts] = t at *
        have hd2 : decide (t ≤ now) = false := decide_eq_false (by omega)
        clear hc hx hi hgt
        generalize hm : cnt now ts = m at *
        have hm' := Lib.hid hm
        clear hm
        go_wp2
        go_ret
        exact ⟨by rw [hm'.out]; rfl, hB'.out⟩
      · have hd1' : decide (cnt now ts < S.size) = false := decide_eq_false (by rw [hS.out]; omega)
        clear hi
        generalize hm : cnt now ts = m at *
        have hm' := Lib.hid hm
        clear hm
        go_wp2
        go_ret
        exact ⟨by rw [hm'.out]; rfl, hB'.out⟩
end Go.Proofs.Ytcoennfpaimclaa.Ref07
