/- A toxic's name (chapter 09). Conditions: none. -/
import Derived.Test.YtehpliclknfmoaaGreatC17
import Derived.Laws.RangeAny
import Derived.Lib.OthersKept
namespace Go.Proofs.YtehpliclknfmoaaGreat.Toxic
open Go.RowKit Mem Tick Cargo
set_option maxRecDepth 100000
set_option linter.unusedVariables false
set_option linter.unusedSimpArgs false
theorem iterPos_of {w : World} {k pos : Nat} {s : ByteArray} (h : w.heap[k]? = some (.stringIter s pos)) : w.iterPos k = pos := by simp [World.iterPos, h]
def okC (c : UInt8) : Bool := decide (97 ≤ c.toNat ∧ c.toNat ≤ 122 ∨ 48 ≤ c.toNat ∧ c.toNat ≤ 57 ∨ c.toNat = 95 ∨ c.toNat = 45)
def nameB (s : ByteArray) : Bool := s.data.toList.all okC && decide (1 ≤ s.size ∧ s.size ≤ 16)
theorem name_any (s : ByteArray) (w : World) :
    Calls Tryz.prog 36 #[.string s] w fun e w' => e = .returned (.bool (nameB s)) ∧ Below w.heap.size w w' := by
  go_enter Tryz.func36, Tryz.ntmps36
  go_wp2
  go_loopw [] (fun wr => ∃ pos : Nat, wr.heap[w.heap.size]? = some (.stringIter s pos) ∧ pos ≤ s.size ∧ (s.data.toList.drop pos).all okC = s.data.toList.all okC ∧ Below w.heap.size w wr) (fun wr => s.size - wr.iterPos w.heap.size)
  case atStart => exact ⟨0, World.iter_heap w _ 0, by omega, rfl, (Below.refl _ _).alloc (Nat.le_refl _) _⟩
  case round =>
    obtain ⟨pos, hit, hps, htp, hbw⟩ := hrel
    have hpos0 := iterPos_of hit
    have hlen : s.data.toList.length = s.size := by simp
    by_cases hp : pos < s.size
    · have hnx : ∀ ty, (Instr.next (.pointer (some ⟨w.heap.size, 0, none⟩)) true ty).run Tryz.prog wr = _ := fun ty => Lib.run_next_any_at wr w.heap.size _ pos ty hit hp
      have hit2 := Lib.iterAt_heap wr w.heap.size _ pos (pos + (Utf8.decode s pos).2) hit
      have hbw2 := Lib.below_iterAt hbw (k := w.heap.size) (Nat.le_refl _) s (pos + (Utf8.decode s pos).2)
      obtain ⟨W1, hW1⟩ : ∃ W1, W1 = wr.iterAt w.heap.size s (pos + (Utf8.decode s pos).2) := ⟨_, rfl⟩
      rw [← hW1] at hnx hit2 hbw2
      clear hW1 hit hbw
      have hdrop : s.data.toList.drop pos = s[pos] :: s.data.toList.drop (pos + 1) := by
        rw [List.drop_eq_getElem_cons (by omega)]
        congr 1
      rw [hdrop, List.all_cons] at htp
      by_cases hd : okC s[pos] = true
      · have hd' := hd
        simp only [okC, decide_eq_true_eq] at hd'
        rw [decode_ascii s pos hp (by omega)] at hnx hit2
        have hst := Lib.hid (show (s.data.toList.drop (pos + 1)).all okC = s.data.toList.all okC by rw [← htp, hd]; rfl)
        clear htp hdrop hd
        have hr : ∃ r : Int, r = (s[pos].toNat : Int) := ⟨_, rfl⟩
        generalize hre : s[pos].toNat = r0 at *
        clear hre hr
        have h4 : (97 ≤ r0 ∧ r0 ≤ 122) ∨ (48 ≤ r0 ∧ r0 ≤ 57) ∨ r0 = 95 ∨ r0 = 45 := hd'
        clear hd'
        rcases h4 with ⟨h1, h2⟩ | ⟨h1, h2⟩ | rfl | rfl
        · have t1 : decide ((r0 : Int) < 97) = false := decide_eq_false (by omega)
          have t2 : decide (122 < (r0 : Int)) = false := decide_eq_false (by omega)
          go_wp2
          go_roundw
          case rel => exact ⟨_, hit2, by omega, hst.out, hbw2⟩
          case measure => rw [iterPos_of hit2]; omega
        · have t1 : decide ((r0 : Int) < 97) = true := decide_eq_true (by omega)
          have t2 : decide ((r0 : Int) < 48) = false := decide_eq_false (by omega)
          have t3 : decide (57 < (r0 : Int)) = false := decide_eq_false (by omega)
          go_wp2
          go_roundw
          case rel => exact ⟨_, hit2, by omega, hst.out, hbw2⟩
          case measure => rw [iterPos_of hit2]; omega
        · go_wp2
          go_roundw
          case rel => exact ⟨_, hit2, by omega, hst.out, hbw2⟩
          case measure => rw [iterPos_of hit2]; omega
        · go_wp2
          go_roundw
          case rel => exact ⟨_, hit2, by omega, hst.out, hbw2⟩
          case measure => rw [iterPos_of hit2]; omega
      · have e := Lib.hid (show nameB s = false by unfold nameB; rw [← htp, show okC s[pos] = false by simpa using hd]; rfl)
        have hr : ∃ (r n : Nat), Utf8.decode s pos = (r, n) ∧ ¬ (97 ≤ r ∧ r ≤ 122 ∨ 48 ≤ r ∧ r ≤ 57 ∨ r = 95 ∨ r = 45) ∧ r ≤ 2147483647 := by
          by_cases ha : s[pos].toNat < 128
          · refine ⟨_, _, decode_ascii s pos hp ha, ?_, by omega⟩
            simpa [okC] using hd
          · have hh := (decode_high s pos hp (by omega)).1
            have hl := decode_le s pos
            generalize Utf8.decode s pos = q at *
            exact ⟨q.1, q.2, rfl, by omega, hl⟩
        obtain ⟨r, n, hrn, hbad, hle⟩ := hr
        rw [hrn] at hnx hit2
        dsimp only at hnx hit2
        have hrr : ∃ ri : Int, ri = (r : Int) := ⟨_, rfl⟩
        clear htp hdrop hd hrn hpos0
        by_cases c1 : 122 < r
        · have t1 : decide ((r : Int) < 97) = false := decide_eq_false (by omega)
          have t2 : decide (122 < (r : Int)) = true := decide_eq_true (by omega)
          have t3 : decide ((r : Int) < 48) = false := decide_eq_false (by omega)
          have t4 : decide (57 < (r : Int)) = true := decide_eq_true (by omega)
          have t5 : ((r : Int) != 95) = true := by simp; omega
          have t6 : ((r : Int) != 45) = true := by simp; omega
          clear hbad
          go_wp2
          go_ret
          exact ⟨by rw [e.out]; rfl, hbw2⟩
        · have t1 : decide ((r : Int) < 97) = true := decide_eq_true (by omega)
          have t5 : ((r : Int) != 95) = true := by simp; omega
          have t6 : ((r : Int) != 45) = true := by simp; omega
          by_cases c2 : 57 < r
          · have t3 : decide ((r : Int) < 48) = false := decide_eq_false (by omega)
            have t4 : decide (57 < (r : Int)) = true := decide_eq_true (by omega)
            clear hbad
            go_wp2
            go_ret
            exact ⟨by rw [e.out]; rfl, hbw2⟩
          · have t3 : decide ((r : Int) < 48) = true := decide_eq_true (by omega)
            clear hbad
            go_wp2
            go_ret
            exact ⟨by rw [e.out]; rfl, hbw2⟩
    · have hnx : ∀ ty, (Instr.next (.pointer (some ⟨w.heap.size, 0, none⟩)) true ty).run Tryz.prog wr = _ := fun ty => Lib.run_next_end_at wr w.heap.size s pos ty hit hp
      have hall : s.data.toList.all okC = true := by rw [← htp, List.drop_of_length_le (by omega)]; rfl
      have e := Lib.hid (show nameB s = decide (1 ≤ s.size ∧ s.size ≤ 16) by unfold nameB; rw [hall]; rfl)
      clear htp hall hit hps hpos0
      by_cases h1 : 1 ≤ s.size
      · have e2 := Lib.hid (show nameB s = decide ((s.size : Int) ≤ 16) by rw [e.out]; exact decide_eq_decide.2 (by omega))
        have t1 : decide ((1 : Int) ≤ (s.size : Int)) = true := decide_eq_true (by omega)
        go_wp2
        go_ret
        exact ⟨by rw [e2.out]; rfl, hbw⟩
      · have e2 := Lib.hid (show nameB s = false by rw [e.out]; simp; omega)
        have t1 : decide ((1 : Int) ≤ (s.size : Int)) = false := decide_eq_false (by omega)
        go_wp2
        go_ret
        exact ⟨by rw [e2.out]; rfl, hbw⟩
structure Tox where
  name : ByteArray
  kind : Int
  up : Bool
  often : Int
  a : Int
  b : Int
abbrev Tox.v (t : Tox) : Value := .agg #[.string t.name, .int .i64 t.kind, .bool t.up, .int .i64 t.often, .int .i64 t.a, .int .i64 t.b]
def oftenB (n : Int) : Bool := decide (0 ≤ n ∧ n ≤ 100)
def chk (t : Tox) : Int := if nameB t.name = false then 90 else if kindB t.kind = false then 91 else if (oftenB t.often && numB t.kind t.a t.b) = false then 92 else 0
theorem check_any (t : Tox) (w : World) :
    Calls Tryz.prog 13 #[t.v] w fun e w' => e = .returned (.int .i64 (chk t)) ∧ Below w.heap.size w w' := by
  obtain ⟨s, k, u, o, a, b⟩ := t
  have hx1 := Blk.new w 23 #[.string s, .int .i64 k, .bool u, .int .i64 o, .int .i64 a, .int .i64 b]
  have hbw : Below w.heap.size w (w.alloc (.cells #[.string s, .int .i64 k, .bool u, .int .i64 o, .int .i64 a, .int .i64 b] 23)) := (Below.refl _ _).alloc (Nat.le_refl _) _
  have hX1 := Lib.hid hx1
  have hbw' := Lib.hid hbw
  have hdf := Lib.hid (show chk ⟨s, k, u, o, a, b⟩ = if nameB s = false then 90 else if kindB k = false then 91 else if (oftenB o && numB k a b) = false then 92 else 0 from rfl)
  clear hx1 hbw
  generalize chk ⟨s, k, u, o, a, b⟩ = z at *
  dsimp only [Tox.v]
  go_enter Tryz.func13, Tryz.ntmps13
  go_wp2_with fail
  refine (name_any s _).mono ?_
  rintro e w1 ⟨rfl, hB1⟩
  have hX2 := Lib.hid (hX1.out.below hB1)
  have hY2 := Lib.hid (hbw'.out.trans (hB1.mono hbw'.out.size))
  have c1 : w1.cell? ⟨w.heap.size, 1, none⟩ = some (.int .i64 k) := (hX2.out.cell 1).trans rfl
  clear hB1 hX1 hbw'
  cases hn : nameB s with
  | false =>
    have e := Lib.hid (show z = 90 by rw [hdf.out, if_pos hn])
    clear hn
    go_wp2
    go_ret
    exact ⟨by rw [e.out]; rfl, hY2.out⟩
  | true =>
    have e := Lib.hid (show z = if kindB k = false then 91 else if (oftenB o && numB k a b) = false then 92 else 0 by rw [hdf.out, if_neg (by rw [hn]; decide)])
    clear hdf hn
    go_wp2_with fail
    refine (word_any k _).mono ?_
    rintro e w2 ⟨sw, rfl, hs, hB2⟩
    have hX3 := Lib.hid (hX2.out.below hB2)
    have hY3 := Lib.hid (hY2.out.trans (hB2.mono hY2.out.size))
    have d3 : w2.cell? ⟨w.heap.size, 3, none⟩ = some (.int .i64 o) := (hX3.out.cell 3).trans rfl
    clear hB2 hX2 hY2 c1
    cases hk : kindB k with
    | false =>
      rw [hk] at hs
      have e2 := Lib.hid (show z = 91 by rw [e.out, if_pos hk])
      clear hk e
      go_wp2
      go_ret
      exact ⟨by rw [e2.out]; rfl, hY3.out⟩
    | true =>
      rw [hk] at hs
      have e2 := Lib.hid (show z = if (oftenB o && numB k a b) = false then 92 else 0 by rw [e.out, if_neg (by rw [hk]; decide)])
      have hk' := Lib.hid hk
      clear hk e
      by_cases h0 : o < 0
      · have e3 := Lib.hid (show z = 92 by rw [e2.out, show oftenB o = false by simp [oftenB]; omega]; rfl)
        clear e2
        go_wp2
        go_ret
        exact ⟨by rw [e3.out]; rfl, hY3.out⟩
      · by_cases h1 : 100 < o
        · have e3 := Lib.hid (show z = 92 by rw [e2.out, show oftenB o = false by simp [oftenB]; omega]; rfl)
          clear e2
          go_wp2
          go_ret
          exact ⟨by rw [e3.out]; rfl, hY3.out⟩
        · have e3 := Lib.hid (show z = if numB k a b = false then 92 else 0 by rw [e2.out, show oftenB o = true by simp [oftenB]; omega]; rfl)
          have d0 : w2.cell? ⟨w.heap.size, 0, none⟩ = some (.string s) := (hX3.out.cell 0).trans rfl
          have d1 : w2.cell? ⟨w.heap.size, 1, none⟩ = some (.int .i64 k) := (hX3.out.cell 1).trans rfl
          have d2 : w2.cell? ⟨w.heap.size, 2, none⟩ = some (.bool u) := (hX3.out.cell 2).trans rfl
          have d4 : w2.cell? ⟨w.heap.size, 4, none⟩ = some (.int .i64 a) := (hX3.out.cell 4).trans rfl
          have d5 : w2.cell? ⟨w.heap.size, 5, none⟩ = some (.int .i64 b) := (hX3.out.cell 5).trans rfl
          clear e2
          go_wp2_with fail
          refine (numbers_all s k u o a b _ hk'.out).mono ?_
          rintro e w3 ⟨rfl, hB3⟩
          have hY4 := Lib.hid (hY3.out.trans (hB3.mono hY3.out.size))
          clear hB3
          cases hb : numB k a b with
          | false =>
            have e4 := Lib.hid (show z = 92 by rw [e3.out, if_pos hb])
            clear hb e3
            go_wp2
            go_ret
            exact ⟨by rw [e4.out]; rfl, hY4.out⟩
          | true =>
            have e4 := Lib.hid (show z = 0 by rw [e3.out, if_neg (by rw [hb]; decide)])
            clear hb e3
            go_wp2
            go_ret
            exact ⟨by rw [e4.out]; rfl, hY4.out⟩
end Go.Proofs.YtehpliclknfmoaaGreat.Toxic
