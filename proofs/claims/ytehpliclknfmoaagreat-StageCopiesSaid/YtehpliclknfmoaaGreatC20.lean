/- The reference's Check of a toxic (chapter 09). Conditions: none. -/
import Derived.Test.YtehpliclknfmoaaGreatC19
import Derived.Test.YtehpliclknfmoaaGreatC8
namespace Go.Proofs.YtehpliclknfmoaaGreat.Ref09
open Go.RowKit Mem Tick Cargo Toxic
set_option maxRecDepth 100000
set_option linter.unusedVariables false
set_option linter.unusedSimpArgs false
theorem right_any (n : Int) (w : World) : Calls Tryz.prog 66 #[.int .i64 n] w fun e w' => e = .returned (.bool (rightB n)) ∧ w = w' := by
  have hn := Lib.hid (Ref01.near_any n w)
  have hr := Lib.hid (Ref08.rightB_nr n)
  go_enter Tryz.func66, Tryz.ntmps66
  go_wp2_with fail
  refine hn.out.mono ?_
  rintro e w1 ⟨rfl, rfl⟩
  clear hn
  go_wp2
  go_ret
  exact ⟨by rw [← hr.out]; rfl, rfl⟩
set_option maxHeartbeats 1000000 in
theorem name_any (s : ByteArray) (w : World) (hs : s.size ≤ 9223372036854775807) :
    Calls Tryz.prog 41 #[.string s] w fun e w' => e = .returned (.bool (nameB s)) ∧ w = w' := by
  go_enter Tryz.func41, Tryz.ntmps41
  go_wp2
  go_loopw [3] (fun iv wr => ∃ k : Nat, k ≤ s.size ∧ iv = .int .i64 k ∧ (s.data.toList.drop k).all okC = s.data.toList.all okC ∧ wr = w) (fun iv _ => s.size - (intOf iv).toNat)
  case atStart => exact ⟨0, by omega, rfl, rfl, rfl⟩
  case round =>
    obtain ⟨k, hk, rfl, htp, rfl⟩ := hrel
    have hlen : s.data.toList.length = s.size := by simp
    by_cases hp : k < s.size
    · have hdrop : s.data.toList.drop k = s[k] :: s.data.toList.drop (k + 1) := by
        rw [List.drop_eq_getElem_cons (by omega)]
        congr 1
      rw [hdrop, List.all_cons] at htp
      have t0 : decide ((k : Int) < (s.size : Int)) = true := decide_eq_true (by omega)
      have hix : ∀ W, (Instr.index 9 (.string s) (.int .i64 (k : Int))).run Tryz.prog W = .ok (.int .u8 (s[k].toNat : Int)) W := fun W => by
        rw [run_index_string W 9 s .i64 (k : Int) Tryz.underlying9, dif_pos ⟨by omega, by omega⟩]
        rfl
      by_cases hd : okC s[k] = true
      · have hd' := hd
        simp only [okC, decide_eq_true_eq] at hd'
        have hst := Lib.hid (show (s.data.toList.drop (k + 1)).all okC = s.data.toList.all okC by rw [← htp, hd]; rfl)
        clear htp hdrop hd
        generalize hre : s[k].toNat = r0 at *
        clear hre
        rcases hd' with ⟨h1, h2⟩ | ⟨h1, h2⟩ | rfl | rfl
        · have t1 : decide ((97 : Int) ≤ (r0 : Int)) = true := decide_eq_true (by omega)
          have t2 : decide ((r0 : Int) ≤ 122) = true := decide_eq_true (by omega)
          have t3 : decide ((48 : Int) ≤ (r0 : Int)) = true := decide_eq_true (by omega)
          have t4 : decide ((r0 : Int) ≤ 57) = false := decide_eq_false (by omega)
          go_wp2
          go_roundw
          case rel => exact ⟨k + 1, by omega, by go_num, hst.out, trivial⟩
          case measure => simp [intOf]; omega
        · have t1 : decide ((97 : Int) ≤ (r0 : Int)) = false := decide_eq_false (by omega)
          have t3 : decide ((48 : Int) ≤ (r0 : Int)) = true := decide_eq_true (by omega)
          have t4 : decide ((r0 : Int) ≤ 57) = true := decide_eq_true (by omega)
          go_wp2
          go_roundw
          case rel => exact ⟨k + 1, by omega, by go_num, hst.out, trivial⟩
          case measure => simp [intOf]; omega
        · skip
          go_wp2
          go_roundw
          case rel => exact ⟨k + 1, by omega, by go_num, hst.out, trivial⟩
          case measure => simp [intOf]; omega
        · skip
          go_wp2
          go_roundw
          case rel => exact ⟨k + 1, by omega, by go_num, hst.out, trivial⟩
          case measure => simp [intOf]; omega
      · have e := Lib.hid (show nameB s = false by unfold nameB; rw [← htp, show okC s[k] = false by simpa using hd]; rfl)
        have hbad : ¬ (97 ≤ s[k].toNat ∧ s[k].toNat ≤ 122 ∨ 48 ≤ s[k].toNat ∧ s[k].toNat ≤ 57 ∨ s[k].toNat = 95 ∨ s[k].toNat = 45) := by simpa [okC] using hd
        clear htp hdrop hd
        generalize s[k].toNat = r at *
        have t5 : ((r : Int) != 95) = true := by simp; omega
        have t6 : ((r : Int) != 45) = true := by simp; omega
        by_cases c1 : 122 < r
        · have t1 : decide ((97 : Int) ≤ (r : Int)) = true := decide_eq_true (by omega)
          have t2 : decide ((r : Int) ≤ 122) = false := decide_eq_false (by omega)
          have t3 : decide ((48 : Int) ≤ (r : Int)) = true := decide_eq_true (by omega)
          have t4 : decide ((r : Int) ≤ 57) = false := decide_eq_false (by omega)
          clear hbad
          go_wp2
          go_ret
          exact ⟨by rw [e.out]; rfl, rfl⟩
        · have t1 : decide ((97 : Int) ≤ (r : Int)) = false := decide_eq_false (by omega)
          by_cases c2 : 57 < r
          · have t3 : decide ((48 : Int) ≤ (r : Int)) = true := decide_eq_true (by omega)
            have t4 : decide ((r : Int) ≤ 57) = false := decide_eq_false (by omega)
            clear hbad
            go_wp2
            go_ret
            exact ⟨by rw [e.out]; rfl, rfl⟩
          · have t3 : decide ((48 : Int) ≤ (r : Int)) = false := decide_eq_false (by omega)
            clear hbad
            go_wp2
            go_ret
            exact ⟨by rw [e.out]; rfl, rfl⟩
    · have hall : s.data.toList.all okC = true := by rw [← htp, List.drop_of_length_le (by omega)]; rfl
      have e := Lib.hid (show nameB s = decide (1 ≤ s.size ∧ s.size ≤ 16) by unfold nameB; rw [hall]; rfl)
      have t0 : decide ((k : Int) < (s.size : Int)) = false := decide_eq_false (by omega)
      clear htp hall
      by_cases h1 : 1 ≤ s.size
      · have e2 := Lib.hid (show nameB s = decide ((s.size : Int) ≤ 16) by rw [e.out]; exact decide_eq_decide.2 (by omega))
        have t1 : decide ((0 : Int) < (s.size : Int)) = true := decide_eq_true (by omega)
        go_wp2
        go_ret
        exact ⟨by rw [e2.out]; rfl, rfl⟩
      · have e2 := Lib.hid (show nameB s = false by rw [e.out]; simp; omega)
        have t1 : decide ((0 : Int) < (s.size : Int)) = false := decide_eq_false (by omega)
        go_wp2
        go_ret
        exact ⟨by rw [e2.out]; rfl, rfl⟩
theorem numbers_any (t0 : ByteArray) (k : Int) (u : Bool) (o a b : Int) (w : World) (hk : kindB k = true) :
    Calls Tryz.prog 42 #[.agg #[.string t0, .int .i64 k, .bool u, .int .i64 o, .int .i64 a, .int .i64 b]] w fun e w' => e = .returned (.bool (numB k a b)) ∧ Below w.heap.size w w' := by
  have hB := Lib.hid ((Below.refl w.heap.size w).alloc (Nat.le_refl _) (.cells #[.string t0, .int .i64 k, .bool u, .int .i64 o, .int .i64 a, .int .i64 b] 23))
  have hra := Lib.hid (fun (wy : World) => right_any a wy)
  have hrb := Lib.hid (fun (wy : World) => right_any b wy)
  unfold kindB at hk
  simp only [Bool.and_eq_true, decide_eq_true_eq] at hk
  have hdf := Lib.hid (show numB k a b = (rightB a && rightB b && (decide (b = 0) || decide (k ≤ 3)) && ruleB k a b) from rfl)
  generalize numB k a b = N at *
  cases ha : rightB a with
  | false =>
    rw [ha] at hra hdf
    have hr := Lib.hid (show N = false from by rw [hdf.out]; rfl)
    clear ha hdf hrb hk
    go_enter Tryz.func42, Tryz.ntmps42
    go_wp2_with fail
    refine (hra.out _).mono ?_
    rintro e w1 ⟨rfl, rfl⟩
    go_wp2
    go_ret
    exact ⟨by rw [hr.out]; rfl, hB.out⟩
  | true =>
    rw [ha] at hra hdf
    cases hb : rightB b with
    | false =>
      rw [hb] at hrb hdf
      have hr := Lib.hid (show N = false from by rw [hdf.out]; rfl)
      clear ha hb hdf hk
      go_enter Tryz.func42, Tryz.ntmps42
      go_wp2_with fail
      refine (hra.out _).mono ?_
      rintro e w1 ⟨rfl, rfl⟩
      go_wp2_with fail
      refine (hrb.out _).mono ?_
      rintro e w1 ⟨rfl, rfl⟩
      go_wp2
      go_ret
      exact ⟨by rw [hr.out]; rfl, hB.out⟩
    | true =>
      rw [hb] at hrb hdf
      have h7 : k = 1 ∨ k = 2 ∨ k = 3 ∨ k = 4 ∨ k = 5 ∨ k = 6 ∨ k = 7 := by omega
      clear hk ha hb
      rcases h7 with rfl | rfl | rfl | rfl | rfl | rfl | rfl
      · have hr := Lib.hid (show N = decide (b ≤ a) from by rw [hdf.out]; unfold ruleB; simp)
        clear hdf
        go_enter Tryz.func42, Tryz.ntmps42
        go_wp2_with fail
        refine (hra.out _).mono ?_
        rintro e w1 ⟨rfl, rfl⟩
        go_wp2_with fail
        refine (hrb.out _).mono ?_
        rintro e w1 ⟨rfl, rfl⟩
        go_wp2
        go_ret
        exact ⟨by rw [hr.out]; rfl, hB.out⟩
      · by_cases h1 : 1 ≤ b
        · have t1 : decide ((1 : Int) ≤ b) = true := decide_eq_true h1
          have hr := Lib.hid (show N = decide (b ≤ 4096) from by rw [hdf.out]; unfold ruleB roomB; simp [h1])
          clear hdf h1
          go_enter Tryz.func42, Tryz.ntmps42
          go_wp2_with fail
          refine (hra.out _).mono ?_
          rintro e w1 ⟨rfl, rfl⟩
          go_wp2_with fail
          refine (hrb.out _).mono ?_
          rintro e w1 ⟨rfl, rfl⟩
          go_wp2
          go_ret
          exact ⟨by rw [hr.out]; rfl, hB.out⟩
        · have t1 : decide ((1 : Int) ≤ b) = false := decide_eq_false h1
          have hr := Lib.hid (show N = false from by rw [hdf.out]; unfold ruleB roomB; simp; omega)
          clear hdf h1
          go_enter Tryz.func42, Tryz.ntmps42
          go_wp2_with fail
          refine (hra.out _).mono ?_
          rintro e w1 ⟨rfl, rfl⟩
          go_wp2_with fail
          refine (hrb.out _).mono ?_
          rintro e w1 ⟨rfl, rfl⟩
          go_wp2
          go_ret
          exact ⟨by rw [hr.out]; rfl, hB.out⟩
      · by_cases h1 : 1 ≤ a
        · have t1 : decide ((1 : Int) ≤ a) = true := decide_eq_true h1
          have hr := Lib.hid (show N = decide (a ≤ 4096) from by rw [hdf.out]; unfold ruleB roomB; simp [h1])
          clear hdf h1
          go_enter Tryz.func42, Tryz.ntmps42
          go_wp2_with fail
          refine (hra.out _).mono ?_
          rintro e w1 ⟨rfl, rfl⟩
          go_wp2_with fail
          refine (hrb.out _).mono ?_
          rintro e w1 ⟨rfl, rfl⟩
          go_wp2
          go_ret
          exact ⟨by rw [hr.out]; rfl, hB.out⟩
        · have t1 : decide ((1 : Int) ≤ a) = false := decide_eq_false h1
          have hr := Lib.hid (show N = false from by rw [hdf.out]; unfold ruleB roomB; simp; omega)
          clear hdf h1
          go_enter Tryz.func42, Tryz.ntmps42
          go_wp2_with fail
          refine (hra.out _).mono ?_
          rintro e w1 ⟨rfl, rfl⟩
          go_wp2_with fail
          refine (hrb.out _).mono ?_
          rintro e w1 ⟨rfl, rfl⟩
          go_wp2
          go_ret
          exact ⟨by rw [hr.out]; rfl, hB.out⟩
      · by_cases h1 : 0 < a
        · have t1 : decide ((0 : Int) < a) = true := decide_eq_true h1
          have hr := Lib.hid (show N = (b == 0) from by rw [hdf.out]; unfold ruleB; simp [h1]; rfl)
          clear hdf h1
          go_enter Tryz.func42, Tryz.ntmps42
          go_wp2_with fail
          refine (hra.out _).mono ?_
          rintro e w1 ⟨rfl, rfl⟩
          go_wp2_with fail
          refine (hrb.out _).mono ?_
          rintro e w1 ⟨rfl, rfl⟩
          go_wp2
          go_ret
          exact ⟨by rw [hr.out]; rfl, hB.out⟩
        · have t1 : decide ((0 : Int) < a) = false := decide_eq_false h1
          have hr := Lib.hid (show N = false from by rw [hdf.out]; unfold ruleB; simp [h1])
          clear hdf h1
          go_enter Tryz.func42, Tryz.ntmps42
          go_wp2_with fail
          refine (hra.out _).mono ?_
          rintro e w1 ⟨rfl, rfl⟩
          go_wp2_with fail
          refine (hrb.out _).mono ?_
          rintro e w1 ⟨rfl, rfl⟩
          go_wp2
          go_ret
          exact ⟨by rw [hr.out]; rfl, hB.out⟩
      · by_cases h1 : 0 < a
        · have t1 : decide ((0 : Int) < a) = true := decide_eq_true h1
          have hr := Lib.hid (show N = (b == 0) from by rw [hdf.out]; unfold ruleB; simp [h1]; rfl)
          clear hdf h1
          go_enter Tryz.func42, Tryz.ntmps42
          go_wp2_with fail
          refine (hra.out _).mono ?_
          rintro e w1 ⟨rfl, rfl⟩
          go_wp2_with fail
          refine (hrb.out _).mono ?_
          rintro e w1 ⟨rfl, rfl⟩
          go_wp2
          go_ret
          exact ⟨by rw [hr.out]; rfl, hB.out⟩
        · have t1 : decide ((0 : Int) < a) = false := decide_eq_false h1
          have hr := Lib.hid (show N = false from by rw [hdf.out]; unfold ruleB; simp [h1])
          clear hdf h1
          go_enter Tryz.func42, Tryz.ntmps42
          go_wp2_with fail
          refine (hra.out _).mono ?_
          rintro e w1 ⟨rfl, rfl⟩
          go_wp2_with fail
          refine (hrb.out _).mono ?_
          rintro e w1 ⟨rfl, rfl⟩
          go_wp2
          go_ret
          exact ⟨by rw [hr.out]; rfl, hB.out⟩
      · have hr := Lib.hid (show N = (b == 0) from by rw [hdf.out]; unfold ruleB; simp; rfl)
        clear hdf
        go_enter Tryz.func42, Tryz.ntmps42
        go_wp2_with fail
        refine (hra.out _).mono ?_
        rintro e w1 ⟨rfl, rfl⟩
        go_wp2_with fail
        refine (hrb.out _).mono ?_
        rintro e w1 ⟨rfl, rfl⟩
        go_wp2
        go_ret
        exact ⟨by rw [hr.out]; rfl, hB.out⟩
      · have hr := Lib.hid (show N = (b == 0) from by rw [hdf.out]; unfold ruleB; simp; rfl)
        clear hdf
        go_enter Tryz.func42, Tryz.ntmps42
        go_wp2_with fail
        refine (hra.out _).mono ?_
        rintro e w1 ⟨rfl, rfl⟩
        go_wp2_with fail
        refine (hrb.out _).mono ?_
        rintro e w1 ⟨rfl, rfl⟩
        go_wp2
        go_ret
        exact ⟨by rw [hr.out]; rfl, hB.out⟩
theorem check_any (t : Tox) (w : World) (hs : t.name.size ≤ 9223372036854775807) :
    Calls Tryz.prog 18 #[t.v] w fun e w' => e = .returned (.int .i64 (chk t)) ∧ Below w.heap.size w w' := by
  obtain ⟨t0, k, u, o, a, b⟩ := t
  have hB := Lib.hid ((Below.refl w.heap.size w).alloc (Nat.le_refl _) (.cells #[.string t0, .int .i64 k, .bool u, .int .i64 o, .int .i64 a, .int .i64 b] 23))
  have hnm := Lib.hid (fun (wy : World) => name_any t0 wy hs)
  have hdf := Lib.hid (show chk ⟨t0, k, u, o, a, b⟩ = if nameB t0 = false then 90 else if kindB k = false then 91 else if (oftenB o && numB k a b) = false then 92 else 0 from rfl)
  generalize chk ⟨t0, k, u, o, a, b⟩ = z at *
  cases hn : nameB t0 with
  | false =>
    rw [hn] at hnm hdf
    rw [if_pos rfl] at hdf
    clear hn
    go_enter Tryz.func18, Tryz.ntmps18
    go_wp2_with fail
    refine (hnm.out _).mono ?_
    rintro e w1 ⟨rfl, rfl⟩
    go_wp2
    go_ret
    exact ⟨by rw [hdf.out]; rfl, hB.out⟩
  | true =>
    rw [hn] at hnm hdf
    rw [if_neg (by decide)] at hdf
    clear hn
    cases hk : kindB k with
    | false =>
      rw [hk, if_pos rfl] at hdf
      unfold kindB at hk
      by_cases h1 : k < 1
      · have t1 : decide (k < 1) = true := decide_eq_true h1
        clear hk h1
        go_enter Tryz.func18, Tryz.ntmps18
        go_wp2_with fail
        refine (hnm.out _).mono ?_
        rintro e w1 ⟨rfl, rfl⟩
        go_wp2
        go_ret
        exact ⟨by rw [hdf.out]; rfl, hB.out⟩
      · have t1 : decide (k < 1) = false := decide_eq_false h1
        have t2 : decide (7 < k) = true := by simp at hk; simp; omega
        clear hk h1
        go_enter Tryz.func18, Tryz.ntmps18
        go_wp2_with fail
        refine (hnm.out _).mono ?_
        rintro e w1 ⟨rfl, rfl⟩
        go_wp2
        go_ret
        exact ⟨by rw [hdf.out]; rfl, hB.out⟩
    | true =>
      rw [hk, if_neg (by decide)] at hdf
      have hnum := Lib.hid (fun (wy : World) => numbers_any t0 k u o a b wy hk)
      have hk2 := hk
      unfold kindB at hk2
      simp only [Bool.and_eq_true, decide_eq_true_eq] at hk2
      have t1 : decide (k < 1) = false := decide_eq_false (by omega)
      have t2 : decide (7 < k) = false := decide_eq_false (by omega)
      clear hk hk2
      by_cases h1 : o < 0
      · have t3 : decide (o < 0) = true := decide_eq_true h1
        have hr := Lib.hid (show z = 92 from by rw [hdf.out, show oftenB o = false from by unfold oftenB; simp; omega]; rfl)
        clear hdf h1 hnum
        go_enter Tryz.func18, Tryz.ntmps18
        go_wp2_with fail
        refine (hnm.out _).mono ?_
        rintro e w1 ⟨rfl, rfl⟩
        go_wp2
        go_ret
        exact ⟨by rw [hr.out]; rfl, hB.out⟩
      have t3 : decide (o < 0) = false := decide_eq_false h1
      by_cases h2 : 100 < o
      · have t4 : decide (100 < o) = true := decide_eq_true h2
        have hr := Lib.hid (show z = 92 from by rw [hdf.out, show oftenB o = false from by unfold oftenB; simp; omega]; rfl)
        clear hdf h1 h2 hnum
        go_enter Tryz.func18, Tryz.ntmps18
        go_wp2_with fail
        refine (hnm.out _).mono ?_
        rintro e w1 ⟨rfl, rfl⟩
        go_wp2
        go_ret
        exact ⟨by rw [hr.out]; rfl, hB.out⟩
      have t4 : decide (100 < o) = false := decide_eq_false h2
      have ho : oftenB o = true := by unfold oftenB; simp; omega
      rw [ho, Bool.true_and] at hdf
      clear h1 h2 ho
      generalize numB k a b = N at *
      cases N with
      | false =>
        rw [if_pos rfl] at hdf
        go_enter Tryz.func18, Tryz.ntmps18
        go_wp2_with fail
        refine (hnm.out _).mono ?_
        rintro e w1 ⟨rfl, rfl⟩
        go_wp2_with fail
        refine (hnum.out _).mono ?_
        rintro e w2 ⟨rfl, hb2⟩
        have hB2 := Lib.hid (hB.out.trans (hb2.mono hB.out.size))
        clear hb2
        go_wp2
        go_ret
        exact ⟨by rw [hdf.out]; rfl, hB2.out⟩
      | true =>
        rw [if_neg (by decide)] at hdf
        go_enter Tryz.func18, Tryz.ntmps18
        go_wp2_with fail
        refine (hnm.out _).mono ?_
        rintro e w1 ⟨rfl, rfl⟩
        go_wp2_with fail
        refine (hnum.out _).mono ?_
        rintro e w2 ⟨rfl, hb2⟩
        have hB2 := Lib.hid (hB.out.trans (hb2.mono hB.out.size))
        clear hb2
        go_wp2
        go_ret
        exact ⟨by rw [hdf.out]; rfl, hB2.out⟩
end Go.Proofs.YtehpliclknfmoaaGreat.Ref09
