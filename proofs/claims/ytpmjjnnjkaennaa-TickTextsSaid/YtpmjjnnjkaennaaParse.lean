/- tick.Parse in general. Conditions: the numbers are of their kinds. -/
import Derived.Test.YtpmjjnnjkaennaaTickB
import Derived.Laws.RangeAny
namespace Go.Proofs.Ytpmjjnnjkaennaa.Tick
open Go.RowKit
set_option maxRecDepth 100000
set_option linter.unusedVariables false
set_option linter.unusedSimpArgs false

theorem ten_le' : ∀ m : Fin 14, (10 : Int) ^ m.1 ≤ 10000000000000 := by decide
/-- what the loop over the text's runes answers from place i on. -/
def tp : Nat → Int → List UInt8 → Option Int
  | _, n, [] => some n
  | i, n, c :: l => if 48 ≤ c.toNat ∧ c.toNat ≤ 57 ∧ ¬ (0 < i ∧ n = 0) ∧ i ≤ 13 then tp (i + 1) (10 * n + ((c.toNat : Int) - 48)) l else none
def fin (s : ByteArray) : Option Int := (tp 0 0 s.data.toList).bind fun n => if s.data.toList = [] ∨ rightB n = false then none else some n
def tpN (s : ByteArray) : Int := (fin s).getD 0
def tpE (s : ByteArray) : Int := match fin s with | some _ => 0 | none => 10

set_option maxHeartbeats 1000000 in
theorem parse_gen (s : ByteArray) (w : World) (hs : s.size ≤ 140737488351232) :
    Calls Try.prog 14 #[.string s] w fun e w' => e = .returned (.tuple #[.int .i64 (tpN s), .int .i64 (tpE s)]) ∧ Below w.heap.size w w' := by
  go_enter Try.func14, Try.ntmps14
  go_wp2
  go_loopw [4] (fun v wr => ∃ (pos : Nat) (n : Int), wr.heap[w.heap.size]? = some (.stringIter s pos) ∧ pos ≤ s.size ∧ pos ≤ 14 ∧ 0 ≤ n ∧ n < 10 ^ pos ∧ v = .int .i64 n ∧ tp pos n (s.data.toList.drop pos) = tp 0 0 s.data.toList ∧ Below w.heap.size w wr) (fun _ wr => s.size - wr.iterPos w.heap.size)
  case atStart => exact ⟨0, 0, World.iter_heap w _ 0, by omega, by omega, by omega, by decide, rfl, rfl, (Below.refl _ _).alloc (Nat.le_refl _) _⟩
  case round =>
    obtain ⟨pos, n, hit, hps, hp14, hn0, hn1, rfl, htp, hbw⟩ := hrel
    have hpos0 := iterPos_of hit
    by_cases hp : pos < s.size
    · have hnx : ∀ ty, (Instr.next (.pointer (some ⟨w.heap.size, 0, none⟩)) true ty).run Try.prog wr = _ := fun ty => Lib.run_next_any_at wr w.heap.size _ pos ty hit hp
      have hit2 := Lib.iterAt_heap wr w.heap.size _ pos (pos + (Utf8.decode s pos).2) hit
      have hbw2 := Lib.below_iterAt hbw (k := w.heap.size) (Nat.le_refl _) s (pos + (Utf8.decode s pos).2)
      obtain ⟨W1, hW1⟩ : ∃ W1, W1 = wr.iterAt w.heap.size s (pos + (Utf8.decode s pos).2) := ⟨_, rfl⟩
      rw [← hW1] at hnx hit2 hbw2
      clear hW1 hit hbw
      have hx : s.data.toList[pos]? = some s[pos] := by
        rw [Array.getElem?_toList]; exact Array.getElem?_eq_getElem hp
      have hlen : s.data.toList.length = s.size := by simp
      have hdrop : s.data.toList.drop pos = s[pos] :: s.data.toList.drop (pos + 1) := by
        rw [List.drop_eq_getElem_cons (by omega)]
        congr 1
      rw [hdrop] at htp
      by_cases hd : 48 ≤ s[pos].toNat ∧ s[pos].toNat ≤ 57 ∧ ¬ (0 < pos ∧ n = 0) ∧ pos ≤ 13
      · rw [decode_ascii s pos hp (by omega)] at hnx hit2
        have hst := Lib.hid (show tp (pos + 1) (10 * n + ((s[pos].toNat : Int) - 48)) (s.data.toList.drop (pos + 1)) = tp 0 0 s.data.toList by
          rw [← htp]; conv => rhs; unfold tp
          rw [if_pos hd])
        obtain ⟨d1, d2, d3, d4⟩ := hd
        have hten := ten_le' ⟨pos, by omega⟩
        dsimp only at hten
        have hpw : (10 : Int) ^ (pos + 1) = 10 ^ pos * 10 := Int.pow_succ ..
        have hn2 := Lib.hid (show 10 * n + ((s[pos].toNat : Int) - 48) < 10 ^ (pos + 1) by rw [hpw]; omega)
        have hz : (n == 0) = false ∨ pos = 0 := by
          by_cases h : n = 0
          · right; omega
          · left; simpa using h
        have b1 : n < 10000000000000 := by omega
        clear htp hx hdrop hn1 hpw hten
        rcases hz with hz | rfl
        all_goals
          go_wp2
          all_goals
            go_roundw
            case rel => exact ⟨_, _, hit2, by omega, by omega, by omega, hn2.out, by congr 1, hst.out, hbw2⟩
            case measure =>
              rw [iterPos_of hit2]
              omega
      · have hno : tp 0 0 s.data.toList = none := by
          rw [← htp]; unfold tp; rw [if_neg hd]
        have e1 := Lib.hid (show tpN s = 0 by unfold tpN fin; rw [hno]; rfl)
        have e2 := Lib.hid (show tpE s = 10 by unfold tpE fin; rw [hno]; rfl)
        clear htp hx hdrop hno hn1
        by_cases ha : s[pos].toNat < 128
        · rw [decode_ascii s pos hp ha] at hnx hit2
          by_cases c1 : (s[pos].toNat : Int) < 48
          · clear hd
            go_wp2
            all_goals
              go_ret2
              exact ⟨by rw [e1.out, e2.out]; rfl, hbw2⟩
          · by_cases c2 : 57 < (s[pos].toNat : Int)
            · clear hd
              go_wp2
              all_goals
                go_ret2
                exact ⟨by rw [e1.out, e2.out]; rfl, hbw2⟩
            · by_cases c3 : 0 < pos ∧ n = 0
              · obtain ⟨c3, rfl⟩ := c3
                clear hd
                go_wp2
                all_goals
                  go_ret2
                  exact ⟨by rw [e1.out, e2.out]; rfl, hbw2⟩
              · have c4 : pos = 14 := by omega
                subst c4
                have hz : (n == 0) = false := by simp; omega
                clear hd
                go_wp2
                all_goals
                  go_ret2
                  exact ⟨by rw [e1.out, e2.out]; rfl, hbw2⟩
        · have hh := (decode_high s pos hp (by omega)).1
          have hle := decode_le s pos
          generalize Utf8.decode s pos = rw_ at *
          obtain ⟨rr, rn⟩ := rw_
          dsimp only at hh hle hnx hit2
          clear hd ha
          go_wp2
          all_goals
            go_ret2
            exact ⟨by rw [e1.out, e2.out]; rfl, hbw2⟩
    · have hnx : ∀ ty, (Instr.next (.pointer (some ⟨w.heap.size, 0, none⟩)) true ty).run Try.prog wr = _ := fun ty => Lib.run_next_end_at wr w.heap.size s pos ty hit hp
      have hlen : s.data.toList.length = s.size := by simp
      have hso : tp 0 0 s.data.toList = some n := by
        rw [← htp, List.drop_of_length_le (by omega)]; rfl
      have htl : s.toList = s.data.toList := ByteArray.toList_eq s
      clear htp hn1 hit
      cases he : s.toList.isEmpty with
      | true =>
        have hnil : s.data.toList = [] := by rw [← htl]; exact List.isEmpty_iff.1 he
        have e1 := Lib.hid (show tpN s = 0 by unfold tpN fin; rw [hso]; show ((if _ then _ else _ : Option Int)).getD 0 = 0; rw [if_pos (.inl hnil)]; rfl)
        have e2 := Lib.hid (show tpE s = 10 by unfold tpE fin; rw [hso]; show (match (if _ then _ else _ : Option Int) with | some _ => (0 : Int) | none => 10) = 10; rw [if_pos (.inl hnil)])
        clear hso hnil htl hlen
        go_wp2
        go_ret2
        exact ⟨by rw [e1.out, e2.out]; rfl, hbw⟩
      | false =>
        have hnil : s.data.toList ≠ [] := by rw [← htl]; intro h; rw [h] at he; cases he
        cases hr : rightB n with
        | false =>
          have e1 := Lib.hid (show tpN s = 0 by unfold tpN fin; rw [hso]; show ((if _ then _ else _ : Option Int)).getD 0 = 0; rw [if_pos (.inr hr)]; rfl)
          have e2 := Lib.hid (show tpE s = 10 by unfold tpE fin; rw [hso]; show (match (if _ then _ else _ : Option Int) with | some _ => (0 : Int) | none => 10) = 10; rw [if_pos (.inr hr)])
          have hr' := Lib.hid hr
          clear hso hnil htl hlen hr
          go_wp2_with (go_at_call 27; (with_reducible refine (right_any _ _).mono ?_); rintro e wn ⟨rfl, rfl⟩; rw [hr'.out])
          go_ret2
          exact ⟨by rw [e1.out, e2.out]; rfl, hbw⟩
        | true =>
          have hno : ¬ (s.data.toList = [] ∨ rightB n = false) := by rintro (h | h); exact hnil h; rw [hr] at h; cases h
          have e1 := Lib.hid (show tpN s = n by unfold tpN fin; rw [hso]; show ((if _ then _ else _ : Option Int)).getD 0 = n; rw [if_neg hno]; rfl)
          have e2 := Lib.hid (show tpE s = 0 by unfold tpE fin; rw [hso]; show (match (if _ then _ else _ : Option Int) with | some _ => (0 : Int) | none => 10) = 0; rw [if_neg hno])
          have hr' := Lib.hid hr
          clear hso hnil htl hlen hr hno
          go_wp2_with (go_at_call 27; (with_reducible refine (right_any _ _).mono ?_); rintro e wn ⟨rfl, rfl⟩; rw [hr'.out])
          go_ret2
          exact ⟨by rw [e1.out, e2.out]; rfl, hbw⟩
end Go.Proofs.Ytpmjjnnjkaennaa.Tick
