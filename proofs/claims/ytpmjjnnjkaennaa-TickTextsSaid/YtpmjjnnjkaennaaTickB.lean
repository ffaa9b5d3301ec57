/- tick: Sub, Share where the product is below 2^64, Text of a digit and on, Parse of one text, Least; and that the chapter's package is alive. Conditions: the numbers are of their kinds. -/
import Derived.Test.YtpmjjnnjkaennaaTick
import Derived.Test.YtpmjjnnjkaennaaCls
import Derived.Lib.OthersKept
import Derived.LoopTactic
namespace Go.Proofs.Ytpmjjnnjkaennaa.Tick
open Go.RowKit
set_option maxRecDepth 100000
set_option linter.unusedVariables false
set_option linter.unusedSimpArgs false

theorem sub_any (a b : Int) (w : World) :
    Calls Try.prog 21 #[.int .i64 a, .int .i64 b] w fun e w' => e = .returned (.int .i64 (sub a b)) ∧ w = w' := by
  have h1 := nr_bd a
  have h2 := nr_bd b
  go_enter Try.func21, Try.ntmps21
  go_wp2_with (go_at_call 33; (with_reducible refine (near_any _ _).mono ?_); rintro e w' ⟨rfl, rfl⟩)
  go_ret
  exact ⟨rfl, rfl⟩

theorem share_low (a b c : Int) (w : World) (hs : nr a * nr b < 18446744073709551616) :
    Calls Try.prog 10 #[.int .i64 a, .int .i64 b, .int .i64 c] w fun e w' => e = .returned (.int .i64 (share a b c)) ∧ ∃ n, w' = w.drewN n := by
  have hpb := prod_bd a b
  have h3 := nr_bd c
  have key : ∀ W : World, Calls Try.prog 28 #[.int .i64 a, .int .i64 b, .int .i64 c] W fun e w' => e = .returned (.int .i64 (share a b c)) ∧ ∃ n, w' = W.drewN n := fun W => by
    by_cases h1 : nr a * nr b = 0
    · exact wide_nil a b c W h1
    · by_cases h2 : 1 ≤ nr c
      · exact wide_small a b c W h1 hs h2
      · exact wide_top a b c W h1 (by omega)
  have key' := Lib.hid key
  clear hpb key hs h3
  go_enter Try.func10, Try.ntmps10
  go_wp2_with fail
  refine (key'.out _).mono ?_
  rintro e w' ⟨rfl, nd, rfl⟩
  go_wp2
  go_ret
  exact ⟨rfl, nd, rfl⟩

def digit (n : Int) : ByteArray := Utf8.encode (48 + n)
theorem text_digit (n : Int) (w : World) (h0 : 0 ≤ n) (h1 : n < 10) :
    Calls Try.prog 16 #[.int .i64 n] w fun e w' => e = .returned (.string (digit n)) ∧ w = w' := by
  have e := Lib.hid (nr_in h0 (by omega))
  have hd : decide (n < 10) = true := decide_eq_true h1
  go_enter Try.func16, Try.ntmps16
  go_wp2_with fail
  refine (near_any n _).mono ?_
  rintro e1 w1 ⟨rfl, rfl⟩
  rw [e.out]
  go_wp2
  go_ret
  exact ⟨rfl, rfl⟩

theorem iterPos_of {w : World} {k pos : Nat} {s : ByteArray} (h : w.heap[k]? = some (.stringIter s pos)) : w.iterPos k = pos := by simp [World.iterPos, h]
theorem parse_007 (w : World) :
    Calls Try.prog 14 #[.string ⟨#[48, 48, 55]⟩] w fun e w' => e = .returned (.tuple #[.int .i64 0, .int .i64 10]) ∧ Below w.heap.size w w' := by
  go_enter Try.func14, Try.ntmps14
  go_wp2
  go_loopw [4] (fun v wr => ∃ pos : Nat, wr.heap[w.heap.size]? = some (.stringIter ⟨#[48, 48, 55]⟩ pos) ∧ (pos = 0 ∨ pos = 1) ∧ v = .int .i64 0 ∧ Below w.heap.size w wr) (fun _ wr => 3 - wr.iterPos w.heap.size)
  case atStart => exact ⟨0, World.iter_heap w _ 0, .inl rfl, rfl, (Below.refl _ _).alloc (Nat.le_refl _) _⟩
  case round =>
    obtain ⟨pos, hit, hpos, rfl, hbw⟩ := hrel
    have hpos0 := iterPos_of hit
    have hnx : ∀ ty, (Instr.next (.pointer (some ⟨w.heap.size, 0, none⟩)) true ty).run Try.prog wr = _ := fun ty => Lib.run_next_any_at wr w.heap.size _ pos ty hit (by show pos < 3; omega)
    have hit2 := Lib.iterAt_heap wr w.heap.size _ pos (pos + (Utf8.decode ⟨#[48, 48, 55]⟩ pos).2) hit
    have hbw2 := Lib.below_iterAt hbw (k := w.heap.size) (Nat.le_refl _) ⟨#[48, 48, 55]⟩ (pos + (Utf8.decode ⟨#[48, 48, 55]⟩ pos).2)
    obtain ⟨W1, hW1⟩ : ∃ W1, W1 = wr.iterAt w.heap.size ⟨#[48, 48, 55]⟩ (pos + (Utf8.decode ⟨#[48, 48, 55]⟩ pos).2) := ⟨_, rfl⟩
    rw [← hW1] at hnx hit2 hbw2
    clear hW1 hit hbw
    rcases hpos with rfl | rfl
    · rw [show Utf8.decode ⟨#[48, 48, 55]⟩ 0 = (48, 1) by rfl] at hnx hit2
      go_wp2
      go_roundw
      case rel => exact ⟨1, hit2, .inr rfl, rfl, hbw2⟩
      case measure =>
        rw [iterPos_of hit2, hpos0]
        decide
    · rw [show Utf8.decode ⟨#[48, 48, 55]⟩ 1 = (48, 1) by rfl] at hnx hit2
      go_wp2
      go_ret2
      exact ⟨rfl, hbw2⟩

theorem text_12 (w : World) :
    Calls Try.prog 16 #[.int .i64 12] w fun e w' => e = .returned (.string ⟨#[49, 50]⟩) ∧ w = w' := by
  have e := Lib.hid (show nr 12 = 12 by decide)
  have d1 := Lib.hid (show digit 1 = ⟨#[49]⟩ by decide)
  have d2 := Lib.hid (show digit 2 = ⟨#[50]⟩ by decide)
  go_enter Try.func16, Try.ntmps16
  go_wp2_with fail
  refine (near_any 12 _).mono ?_
  rintro e1 w1 ⟨rfl, rfl⟩
  rw [e.out]
  go_wp2_with fail
  refine (text_digit 1 _ (by omega) (by omega)).mono ?_
  rintro e1 w1 ⟨rfl, rfl⟩
  rw [d1.out]
  go_wp2_with fail
  refine (text_digit 2 _ (by omega) (by omega)).mono ?_
  rintro e1 w1 ⟨rfl, rfl⟩
  rw [d2.out]
  go_wp2
  go_ret
  exact ⟨rfl, rfl⟩

theorem text_120 (w : World) :
    Calls Try.prog 16 #[.int .i64 120] w fun e w' => e = .returned (.string ⟨#[49, 50, 48]⟩) ∧ w = w' := by
  have e := Lib.hid (show nr 120 = 120 by decide)
  have d0 := Lib.hid (show digit 0 = ⟨#[48]⟩ by decide)
  go_enter Try.func16, Try.ntmps16
  go_wp2_with fail
  refine (near_any 120 _).mono ?_
  rintro e1 w1 ⟨rfl, rfl⟩
  rw [e.out]
  go_wp2_with fail
  refine (text_12 _).mono ?_
  rintro e1 w1 ⟨rfl, rfl⟩
  go_wp2_with fail
  refine (text_digit 0 _ (by omega) (by omega)).mono ?_
  rintro e1 w1 ⟨rfl, rfl⟩
  rw [d0.out]
  go_wp2
  go_ret
  exact ⟨rfl, rfl⟩

/-- a slice of whole numbers that may be read. -/
def Nums (w : World) (v : Value) (xs : List Int) : Prop :=
  ∃ a len cap, v = .slice a len cap ∧ len = xs.length ∧ xs.length ≤ 9223372036854775807 ∧ (∀ x ∈ xs, (Lit.int .i64 x).wf = true) ∧ (xs ≠ [] → ∃ b off, a = some ⟨b, off, none⟩ ∧ ∀ j x, xs[j]? = some x → w.cell? ⟨b, off + j, none⟩ = some (.int .i64 x)) ∧ (a = none → cap = 0)
theorem Nums.below {w w' : World} {v : Value} {xs : List Int} (h : Nums w v xs) (hb : Below w.heap.size w w') : Nums w' v xs := by
  obtain ⟨a, len, cap, h1, h2, h3, h4, h5, h6⟩ := h
  refine ⟨a, len, cap, h1, h2, h3, h4, fun h => ?_, h6⟩
  obtain ⟨b, off, e, hc⟩ := h5 h
  refine ⟨b, off, e, fun j x hx => ?_⟩
  have := hc j x hx
  exact (hb.cell (p := ⟨b, off + j, none⟩) (World.block_lt_of_cell? w _ this)).trans this

def leastFrom : Int → List Int → Int
  | m, [] => m
  | m, x :: l => leastFrom (if nr x < m then nr x else m) l
theorem leastFrom_snoc (l : List Int) (x : Int) : ∀ m, leastFrom m (l ++ [x]) = if nr x < leastFrom m l then nr x else leastFrom m l := by
  induction l with
  | nil => intro m; rfl
  | cons y l ih => intro m; exact ih _
theorem leastFrom_bd (l : List Int) : ∀ m, 0 ≤ m ∧ m ≤ 1099511627776 → 0 ≤ leastFrom m l ∧ leastFrom m l ≤ 1099511627776 := by
  induction l with
  | nil => intro m h; exact h
  | cons y l ih => intro m h; have := nr_bd y; exact ih _ (by split <;> omega)
def least (l : List Int) : Int := if l = [] then 0 else leastFrom 1099511627776 l

theorem least_any (v : Value) (xs : List Int) (w : World) (hv : Nums w v xs) :
    Calls Try.prog 18 #[v] w fun e w' => e = .returned (.tuple #[.int .i64 (least xs), .bool (decide (xs ≠ []))]) ∧ w = w' := by
  obtain ⟨a, len, cap, rfl, rfl, hlen, hwf, hc, hcap⟩ := hv
  clear hcap
  go_enter Try.func18, Try.ntmps18
  go_wp2
  go_loop [4, 9] (fun v i => ∃ k : Nat, k ≤ xs.length ∧ i = .int .i64 k ∧ v = .int .i64 (leastFrom 1099511627776 (xs.take k))) (fun _ i => xs.length - (intOf i).toNat)
  case atStart => exact ⟨0, by omega, rfl, rfl⟩
  case round =>
    obtain ⟨k, hk, rfl, rfl⟩ := hrel
    have hb := leastFrom_bd (xs.take k) 1099511627776 (by omega)
    by_cases hlt : k < xs.length
    · obtain ⟨b, off, rfl, hcell⟩ := hc (by intro h; subst h; simp at hlt)
      have hx : xs[k]? = some xs[k] := List.getElem?_eq_getElem hlt
      have hck := hcell k _ hx
      have htake : xs.take (k + 1) = xs.take k ++ [xs[k]] := by rw [List.take_succ_eq_append_getElem hlt]
      have hst := Lib.hid (show leastFrom 1099511627776 (xs.take (k + 1)) = _ by rw [htake, leastFrom_snoc])
      clear hcell hc htake hx
      generalize xs[k] = x at *
      generalize leastFrom 1099511627776 (xs.take k) = m at *
      go_wp2_with fail
      refine (near_any x _).mono ?_
      rintro e w' ⟨rfl, rfl⟩
      have hxb := nr_bd x
      generalize nr x = y at *
      by_cases hy : y < m
      · have hst' := Lib.hid (hst.out.trans (if_pos hy))
        go_wp2
        go_round
        case rel => exact ⟨k + 1, by omega, by go_num, by rw [hst'.out]⟩
        case measure => simp [intOf]; omega
      · have hst' := Lib.hid (hst.out.trans (if_neg hy))
        have hy' : m ≤ y := by omega
        go_wp2
        go_round
        case rel => exact ⟨k + 1, by omega, by go_num, by rw [hst'.out]⟩
        case measure => simp [intOf]; omega
    · obtain rfl : k = xs.length := by omega
      by_cases he : xs = []
      · have e1 := Lib.hid (show least xs = 0 from if_pos he)
        subst he
        go_wp2
        go_ret2
        exact ⟨by rw [e1.out]; rfl, rfl⟩
      · have e1 := Lib.hid (show least xs = leastFrom 1099511627776 xs from if_neg he)
        have e2 : decide (xs = []) = false := decide_eq_false he
        have e3 : ((xs.length : Int) == 0) = false := by
          have := List.length_pos_iff.2 he
          simp; omega
        go_wp2
        go_ret2
        exact ⟨by rw [e1.out]; simp [e2], rfl⟩

theorem alive_any (w : World) : Calls Try.prog 11 #[] w fun e w' => e = .returned (.bool true) ∧ Below w.heap.size w w' := by
  have v1 := Lib.hid (show sub 3 5 = 0 by decide)
  have v2 := Lib.hid (show add 1099511627776 1 = 1099511627776 by decide)
  have v3 := Lib.hid (show up 7 2 = 4 by decide)
  have v4 := Lib.hid (show share 7 50 100 = 3 by decide)
  have v5 := Lib.hid (show least [9, 4, 7] = 4 by decide)
  have v6 := Lib.hid (show rightB 5 = true by decide)
  go_enter Try.func11, Try.ntmps11
  go_wp2_with fail
  refine (parse_007 _).mono ?_
  rintro e w1 ⟨rfl, hb1⟩
  have hB := hb1.alloc hb1.size (.cells #[.int .i64 9, .int .i64 4, .int .i64 7] 3)
  have hn : Nums (w1.alloc (.cells #[.int .i64 9, .int .i64 4, .int .i64 7] 3)) (.slice (some ⟨w1.heap.size, 0, none⟩) 3 3) [9, 4, 7] := by
    refine ⟨_, _, _, rfl, rfl, by decide, by decide, fun _ => ⟨w1.heap.size, 0, rfl, fun j x hx => ?_⟩, fun h => by cases h⟩
    have h := heap_alloc_new w1 (.cells #[.int .i64 9, .int .i64 4, .int .i64 7] 3)
    have hj : j < 3 := (List.getElem?_eq_some_iff.1 hx).1
    unfold World.cell?
    rw [h]
    match j, hj with
    | 0, _ => simp at hx; subst hx; rfl
    | 1, _ => simp at hx; subst hx; rfl
    | 2, _ => simp at hx; subst hx; rfl
  clear hb1
  go_wp2_with fail
  refine (least_any _ [9, 4, 7] _ hn).mono ?_
  rintro e w2 ⟨rfl, rfl⟩
  rw [v5.out]
  go_wp2_with (first
    | (go_at_call 21; (with_reducible refine (sub_any 3 5 _).mono ?_); rintro e wn ⟨rfl, rfl⟩; rw [v1.out])
    | (go_at_call 19; (with_reducible refine (add_any 1099511627776 1 _).mono ?_); rintro e wn ⟨rfl, rfl⟩; rw [v2.out])
    | (go_at_call 25; (with_reducible refine (up_any 7 2 _).mono ?_); rintro e wn ⟨rfl, rfl⟩; rw [v3.out])
    | (go_at_call 10; (with_reducible refine (share_low 7 50 100 _ (by decide)).mono ?_); rintro e wn ⟨rfl, nd, rfl⟩; rw [v4.out])
    | (go_at_call 16; (with_reducible refine (text_120 _).mono ?_); rintro e wn ⟨rfl, rfl⟩)
    | (go_at_call 27; (with_reducible refine (right_any 5 _).mono ?_); rintro e wn ⟨rfl, rfl⟩; rw [v6.out]))
  go_ret
  exact ⟨rfl, Cls.below_drewN' hB _⟩
end Go.Proofs.Ytpmjjnnjkaennaa.Tick
