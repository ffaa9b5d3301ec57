/- The law TickLeast (chapter 01). Conditions: the numbers are of their kinds. -/
import Derived.Test.YtpmjjnnjkaennaaLaw01
import Derived.Test.YtpmjjnnjkaennaaRef01
namespace Go.Proofs.Ytpmjjnnjkaennaa.Law01
open Go.RowKit Tick
set_option maxRecDepth 100000
set_option linter.unusedVariables false
set_option linter.unusedSimpArgs false

theorem leastFrom_le (l : List Int) : ∀ m, leastFrom m l ≤ m ∧ ∀ x ∈ l, leastFrom m l ≤ nr x := by
  induction l with
  | nil => intro m; exact ⟨Int.le_refl _, by simp⟩
  | cons y l ih =>
    intro m
    have h := ih (if nr y < m then nr y else m)
    refine ⟨?_, ?_⟩
    · have := h.1
      unfold leastFrom
      split at this <;> split <;> omega
    · intro x hx
      rcases List.mem_cons.1 hx with rfl | hx
      · have := h.1
        unfold leastFrom
        split at this <;> split <;> omega
      · exact h.2 x hx
theorem leastFrom_mem (l : List Int) : ∀ m, leastFrom m l = m ∨ ∃ x ∈ l, nr x = leastFrom m l := by
  induction l with
  | nil => intro m; exact .inl rfl
  | cons y l ih =>
    intro m
    rcases ih (if nr y < m then nr y else m) with h | ⟨x, hx, h⟩
    · by_cases hy : nr y < m
      · right
        rw [if_pos hy] at h
        exact ⟨y, List.mem_cons_self .., by unfold leastFrom; rw [if_pos hy, h]⟩
      · left
        rw [if_neg hy] at h
        unfold leastFrom; rw [if_neg hy, h]
    · exact .inr ⟨x, List.mem_cons_of_mem _ hx, h⟩
def hit (m : Int) (l : List Int) : Bool := l.any fun x => nr x == m
theorem hit_snoc (m : Int) (l : List Int) (x : Int) : hit m (l ++ [x]) = (hit m l || (nr x == m)) := by simp [hit]
theorem hit_all {l : List Int} (h : l ≠ []) : hit (least l) l = true := by
  have e : least l = leastFrom 1099511627776 l := if_neg h
  rw [e]
  rcases leastFrom_mem l 1099511627776 with h1 | ⟨x, hx, h1⟩
  · obtain ⟨x, hx⟩ := List.exists_mem_of_ne_nil l h
    have := (leastFrom_le l 1099511627776).2 x hx
    have := nr_bd x
    exact List.any_eq_true.2 ⟨x, hx, by simp; omega⟩
  · exact List.any_eq_true.2 ⟨x, hx, by simpa using h1⟩
theorem least_le {l : List Int} {x : Int} (hx : x ∈ l) : least l ≤ nr x := by
  have h : l ≠ [] := List.ne_nil_of_mem hx
  have e : least l = leastFrom 1099511627776 l := if_neg h
  rw [e]
  exact (leastFrom_le l _).2 x hx

theorem least_none (v : Value) (w : World) (hv : Nums w v []) :
    Calls Try.prog 5 #[v] w fun e w' => e = .returned (.bool true) ∧ Below w.heap.size w w' := by
  have hv' := hv
  obtain ⟨a, len, cap, rfl, rfl, hlen, hwf, hc, hcap⟩ := hv
  have e1 := Lib.hid (show least [] = 0 from rfl)
  have e2 := Lib.hid (show decide (([] : List Int) ≠ []) = false by decide)
  clear hc hcap hwf hlen
  go_enter Try.func5, Try.ntmps5
  go_wp2_with fail
  refine (least_any _ [] _ hv').mono ?_
  rintro e w1 ⟨rfl, rfl⟩
  rw [e1.out, e2.out]
  clear hv'
  go_wp2
  go_loop [5, 15] (fun v i => i = .int .i64 0 ∧ v = .bool false) (fun _ i => 0)
  case atStart => exact ⟨rfl, rfl⟩
  case round =>
    obtain ⟨rfl, rfl⟩ := hrel
    go_wp2_with fail
    refine (alive_any _).mono ?_
    rintro e w2 ⟨rfl, hb2⟩
    go_wp2
    go_ret
    exact ⟨by simp, hb2⟩

theorem least_some (v : Value) (xs : List Int) (w : World) (hv : Nums w v xs) (hne : xs ≠ []) :
    Calls Try.prog 5 #[v] w fun e w' => e = .returned (.bool true) ∧ Below w.heap.size w w' := by
  have hv' := hv
  obtain ⟨a, len, cap, rfl, rfl, hlen, hwf, hc, hcap⟩ := hv
  have e2 := Lib.hid (show decide (xs ≠ []) = true from decide_eq_true hne)
  have hall := Lib.hid (hit_all hne)
  have hle := fun x (hx : x ∈ xs) => least_le hx
  have hpos := List.length_pos_iff.2 hne
  have hpos' : decide (0 < (xs.length : Int)) = true := decide_eq_true (by omega)
  clear hcap hwf
  go_enter Try.func5, Try.ntmps5
  go_wp2_with fail
  refine (least_any _ xs _ hv').mono ?_
  rintro e w1 ⟨rfl, rfl⟩
  rw [e2.out]
  clear hv' e2
  generalize least xs = m at *
  go_wp2
  go_loop [5, 15] (fun v i => ∃ k : Nat, k ≤ xs.length ∧ i = .int .i64 k ∧ v = .bool (hit m (xs.take k))) (fun _ i => xs.length - (intOf i).toNat)
  case atStart => exact ⟨0, by omega, rfl, rfl⟩
  case round =>
    obtain ⟨k, hk, rfl, rfl⟩ := hrel
    by_cases hlt : k < xs.length
    · obtain ⟨b, off, rfl, hcell⟩ := hc hne
      have hx : xs[k]? = some xs[k] := List.getElem?_eq_getElem hlt
      have hck := hcell k _ hx
      have hlx := hle _ (List.getElem_mem hlt)
      have htake : xs.take (k + 1) = xs.take k ++ [xs[k]] := by rw [List.take_succ_eq_append_getElem hlt]
      have hst := Lib.hid (show hit m (xs.take (k + 1)) = _ by rw [htake, hit_snoc])
      clear hcell hc htake hx hle hall
      generalize xs[k] = x at *
      have hnl : decide (nr x < m) = false := decide_eq_false (by omega)
      cases hh : hit m (xs.take k) with
      | true =>
        rw [hh] at hst
        go_wp2_with (go_at_call 13; (with_reducible refine (Ref01.near_any x _).mono ?_); rintro e wn ⟨rfl, rfl⟩)
        go_round
        case rel => exact ⟨k + 1, by omega, by go_num, by rw [hst.out]; rfl⟩
        case measure => simp [intOf]; omega
      | false =>
        rw [hh] at hst
        go_wp2_with (go_at_call 13; (with_reducible refine (Ref01.near_any x _).mono ?_); rintro e wn ⟨rfl, rfl⟩)
        go_round
        case rel => exact ⟨k + 1, by omega, by go_num, by rw [hst.out]; rfl⟩
        case measure => simp [intOf]; omega
    · obtain rfl : k = xs.length := by omega
      rw [List.take_length, hall.out]
      clear hc hle hall
      go_wp2_with fail
      refine (alive_any _).mono ?_
      rintro e w2 ⟨rfl, hb2⟩
      go_wp2
      go_ret
      exact ⟨by simp, hb2⟩
theorem least_law_any (v : Value) (xs : List Int) (w : World) (hv : Nums w v xs) :
    Calls Try.prog 5 #[v] w fun e w' => e = .returned (.bool true) ∧ Below w.heap.size w w' := by
  by_cases h : xs = []
  · subst h; exact least_none v w hv
  · exact least_some v xs w hv h
end Go.Proofs.Ytpmjjnnjkaennaa.Law01
