/- The law StagePieces (chapter 10). Conditions: none. -/
import Derived.Test.YtehpliclknfmoaaStageS
import Derived.Laws.MakeOwn
namespace Go.Proofs.Ytehpliclknfmoaa.Stage
open Go.RowKit Mem Tick Cargo Toxic
open Go.Proofs.YtehpliclknfmoaaW.PrintLast Pu
set_option maxRecDepth 100000
set_option linter.unusedVariables false
set_option linter.unusedSimpArgs false
theorem info_u8 : (Try.prog.info? 5).map (fun i => (i.zero, i.size, i.bytes)) = some (some (.int .u8 0), 1, 1) := by kernel_rfl
theorem make_u8 (M : Nat) (hM : M ≤ 200) (W : World) : (Instr.makeSlice 37 (.int .i64 (M : Int)) (.int .i64 (M : Int))).run Try.prog W = .ok (.slice (some ⟨W.heap.size, 0, none⟩) M M) (W.alloc (.cells (madeCells #[.int .u8 0] M) 5)) := by
  obtain ⟨i0, hi, hz0, hz1, hz2⟩ := info_parts info_u8
  have := run_makeSlice (w := W) 37 5 i0 (.int .u8 0) Try.underlying37 hi hz0 .i64 .i64 (M : Int) (M : Int) (by omega) (Int.le_refl _) (by rw [hz1]; simp; omega) (by rw [hz2]; omega) (by omega)
  rw [this, hz1]
  simp [Value.cells]
theorem bs_made (w : World) (m : Nat) : BS (w.alloc (.cells (madeCells #[.int .u8 0] m) 5)) (some ⟨w.heap.size, 0, none⟩) (zeros m) :=
  bs_const w _ _ _ fun i hi => by
    rw [zeros_size] at hi
    simp [madeCells, zeros, hi, ByteArray.getElem_eq_getElem_data, Nat.mod_one]
theorem live_zeros {w wr w1 : World} {b k : Nat} {s : Sg} (h : LiveS w wr b k s) (hb1 : Below wr.heap.size wr w1) (n : Int) (M : Nat) (ht : held s + M ≤ 1000000000) :
    Calls Try.prog 11 #[.pointer (some ⟨b, 0, none⟩), .int .i64 n, .slice (some ⟨w1.heap.size, 0, none⟩) M M] (w1.alloc (.cells (madeCells #[.int .u8 0] M) 5)) fun e w2 => e = .returned (.int .i64 (putN s n (zeros M))) ∧ LiveS w w2 b k (putS s n (zeros M)) ∧ KeepS w1 w2 := by
  have hz := zeros_size M
  have hB2 := (Below.refl w1.heap.size w1).alloc (Nat.le_refl _) (.cells (madeCells #[.int .u8 0] M) 5)
  have := live_put h (hb1.trans (hB2.mono hb1.size)) n (some ⟨w1.heap.size, 0, none⟩) M (zeros M) (by omega) (bs_made w1 M) (fun g o e => by injection e with e; injection e with e; have := hb1.size; omega) (by omega)
  rw [hz] at this
  exact this.mono fun e w2 ⟨h1, h2, h3⟩ => ⟨h1, h2, (KeepS.below hB2).trans h3⟩
theorem pieces_none (sa sb seed : Int) (v : Value) (l : List Pt) (w : World) (hv : Puts w v l) (he : newE ⟨⟨#[97]⟩, 3, false, 1, sa, sb⟩ 4096 ≠ 0) :
    Calls Try.prog 5 #[.agg #[.int .i64 sa, .int .i64 sb], .int .u64 seed, v] w fun e w' => e = .returned (.bool true) ∧ Below w.heap.size w w' := by
  have hn := fun (wr : World) => live_none (wr := wr) ⟨⟨#[97]⟩, 3, false, 1, sa, sb⟩ seed 4096 0 he
  have te : (newE ⟨⟨#[97]⟩, 3, false, 1, sa, sb⟩ 4096 != 0) = true := by simpa using he
  have hB0 := Lib.hid (((Below.refl w.heap.size w).alloc (Nat.le_refl _) (.cells #[.int .i64 sa, .int .i64 sb] 22)).drew)
  clear hv he
  generalize newE ⟨⟨#[97]⟩, 3, false, 1, sa, sb⟩ 4096 = E at *
  go_enter Try.func5, Try.ntmps5
  go_wp2
  refine start_ (n := 6) (S := fun w' => w'.cell? ⟨w.heap.size, 0, none⟩ = some (.int .i64 sa) ∧ w'.cell? ⟨w.heap.size, 1, none⟩ = some (.int .i64 sb)) (ds := []) (m_ 6 0) (by kernel_rfl) rfl (by kernel_rfl) ⟨(by go_simp), (by go_simp)⟩ (fun hHeld => ?_)
  refine pu_ 0 (some 17) (m_ 6 1) rfl rfl (by kernel_rfl) (fun _ _ _ h => h) (by rfl) (by intro w'; go_simp; with_reducible rfl) (by simp only [Act.put, List.setIfInBounds_toArray, List.set_cons_zero, List.set_cons_succ, i64_w, i32_w]; rfl) ?_
  refine pu_ 2 (some 19) (m_ 6 5) rfl rfl (by kernel_rfl) (fun _ _ _ h => h) (by rfl) (by intro w'; go_simp; with_reducible rfl) (by simp only [Act.put, List.setIfInBounds_toArray, List.set_cons_zero, List.set_cons_succ, i64_w, i32_w]; rfl) ?_
  refine tk_ 1 (some 18) (m_ 6 7) rfl rfl (by kernel_rfl) (fun _ _ _ h => h) (by rfl) (by rintro w' ⟨s0, s1⟩; go_simp; with_reducible rfl) hHeld (by simp only [Act.put, List.setIfInBounds_toArray, List.set_cons_zero, List.set_cons_succ, i64_w, i32_w]; rfl) ?_
  refine pu_ 4 (some 7) (m_ 6 23) rfl rfl (by kernel_rfl) (fun _ _ _ h => h) (by rfl) (by intro w'; go_simp; with_reducible rfl) (by simp only [Act.put, List.setIfInBounds_toArray, List.set_cons_zero, List.set_cons_succ, i64_w, i32_w]; rfl) ?_
  refine tk_ 3 (some 20) (m_ 6 31) rfl rfl (by kernel_rfl) (fun _ _ _ h => h) (by rfl) (by rintro w' ⟨s0, s1⟩; go_simp; with_reducible rfl) hHeld (by simp only [Act.put, List.setIfInBounds_toArray, List.set_cons_zero, List.set_cons_succ, i64_w, i32_w]; rfl) ?_
  refine pu_ 5 (some 8) (m_ 6 63) rfl rfl (by kernel_rfl) (fun _ _ _ h => h) (by rfl) (by intro w'; go_simp; with_reducible rfl) (by simp only [Act.put, List.setIfInBounds_toArray, List.set_cons_zero, List.set_cons_succ, i64_w, i32_w]; rfl) ?_
  refine done_ (by kernel_rfl) ?_
  clear hHeld
  go_wp2_with fail
  refine (hn _).mono ?_
  rintro e w1 ⟨rfl, hB⟩
  have hB1 := Lib.hid (bw_below hB0.out hB)
  clear hn hB
  go_wp2_with (go_at_call 9; (with_reducible refine (alive_any _).mono ?_); rintro e w3 ⟨rfl, hB3⟩; have hB3' := Lib.hid hB3; clear hB3)
  go_ret
  exact ⟨rfl, bw_below hB1.out hB3'.out⟩
theorem pieces_long (sa sb seed : Int) (v : Value) (l : List Pt) (w : World) (hv : Puts w v l) (he : newE ⟨⟨#[97]⟩, 3, false, 1, sa, sb⟩ 4096 = 0) (hl : 60 < l.length) :
    Calls Try.prog 5 #[.agg #[.int .i64 sa, .int .i64 sb], .int .u64 seed, v] w fun e w' => e = .returned (.bool true) ∧ Below w.heap.size w w' := by
  have hn := fun (wr : World) hB => live_new (w := w) (wr := wr) ⟨⟨#[97]⟩, 3, false, 1, sa, sb⟩ seed 4096 0 he hB
  have hB0 := Lib.hid (((Below.refl w.heap.size w).alloc (Nat.le_refl _) (.cells #[.int .i64 sa, .int .i64 sb] 22)).drew)
  obtain ⟨a, cap, rfl, hmx, hA⟩ := hv
  have tl : decide (60 < (l.length : Int)) = true := decide_eq_true (by omega)
  clear he hA
  go_enter Try.func5, Try.ntmps5
  go_wp2
  refine start_ (n := 6) (S := fun w' => w'.cell? ⟨w.heap.size, 0, none⟩ = some (.int .i64 sa) ∧ w'.cell? ⟨w.heap.size, 1, none⟩ = some (.int .i64 sb)) (ds := []) (m_ 6 0) (by kernel_rfl) rfl (by kernel_rfl) ⟨(by go_simp), (by go_simp)⟩ (fun hHeld => ?_)
  refine pu_ 0 (some 17) (m_ 6 1) rfl rfl (by kernel_rfl) (fun _ _ _ h => h) (by rfl) (by intro w'; go_simp; with_reducible rfl) (by simp only [Act.put, List.setIfInBounds_toArray, List.set_cons_zero, List.set_cons_succ, i64_w, i32_w]; rfl) ?_
  refine pu_ 2 (some 19) (m_ 6 5) rfl rfl (by kernel_rfl) (fun _ _ _ h => h) (by rfl) (by intro w'; go_simp; with_reducible rfl) (by simp only [Act.put, List.setIfInBounds_toArray, List.set_cons_zero, List.set_cons_succ, i64_w, i32_w]; rfl) ?_
  refine tk_ 1 (some 18) (m_ 6 7) rfl rfl (by kernel_rfl) (fun _ _ _ h => h) (by rfl) (by rintro w' ⟨s0, s1⟩; go_simp; with_reducible rfl) hHeld (by simp only [Act.put, List.setIfInBounds_toArray, List.set_cons_zero, List.set_cons_succ, i64_w, i32_w]; rfl) ?_
  refine pu_ 4 (some 7) (m_ 6 23) rfl rfl (by kernel_rfl) (fun _ _ _ h => h) (by rfl) (by intro w'; go_simp; with_reducible rfl) (by simp only [Act.put, List.setIfInBounds_toArray, List.set_cons_zero, List.set_cons_succ, i64_w, i32_w]; rfl) ?_
  refine tk_ 3 (some 20) (m_ 6 31) rfl rfl (by kernel_rfl) (fun _ _ _ h => h) (by rfl) (by rintro w' ⟨s0, s1⟩; go_simp; with_reducible rfl) hHeld (by simp only [Act.put, List.setIfInBounds_toArray, List.set_cons_zero, List.set_cons_succ, i64_w, i32_w]; rfl) ?_
  refine pu_ 5 (some 8) (m_ 6 63) rfl rfl (by kernel_rfl) (fun _ _ _ h => h) (by rfl) (by intro w'; go_simp; with_reducible rfl) (by simp only [Act.put, List.setIfInBounds_toArray, List.set_cons_zero, List.set_cons_succ, i64_w, i32_w]; rfl) ?_
  refine done_ (by kernel_rfl) ?_
  clear hHeld
  go_wp2_with fail
  refine (hn _ hB0.out).mono ?_
  rintro e w1 ⟨b, kk, rfl, hL, hB⟩
  have hB1 := Lib.hid hL.old
  clear hn hB hL
  go_wp2_with (go_at_call 9; (with_reducible refine (alive_any _).mono ?_); rintro e w3 ⟨rfl, hB3⟩; have hB3' := Lib.hid hB3; clear hB3)
  go_ret
  exact ⟨rfl, bw_below hB1.out hB3'.out⟩
set_option maxHeartbeats 2000000 in
theorem pieces_yes (sa sb seed : Int) (v : Value) (l : List Pt) (w : World) (hv : Puts w v l) (he : newE ⟨⟨#[97]⟩, 3, false, 1, sa, sb⟩ 4096 = 0) (hl : l.length ≤ 60) :
    Calls Try.prog 5 #[.agg #[.int .i64 sa, .int .i64 sb], .int .u64 seed, v] w fun e w' => e = .returned (.bool true) ∧ Below w.heap.size w w' := by
  have hn := fun (wr : World) hB => live_new (w := w) (wr := wr) ⟨⟨#[97]⟩, 3, false, 1, sa, sb⟩ seed 4096 0 he hB
  have hB0 := Lib.hid (((Below.refl w.heap.size w).alloc (Nat.le_refl _) (.cells #[.int .i64 sa, .int .i64 sb] 22)).drew)
  obtain ⟨a, cap, rfl, hmx, hA⟩ := hv
  have tl : decide (60 < (l.length : Int)) = false := decide_eq_false (by omega)
  have hI0 := Lib.hid (show PcI ⟨⟨#[97]⟩, 3, false, 1, sa, sb⟩ 0 0 false (newS ⟨⟨#[97]⟩, 3, false, 1, sa, sb⟩ seed 4096 0) from ⟨rfl, rfl, rfl, add_zero 0, rfl⟩)
  have hs0 := Lib.hid (show (newS ⟨⟨#[97]⟩, 3, false, 1, sa, sb⟩ seed 4096 0).passed = 0 ∧ held (newS ⟨⟨#[97]⟩, 3, false, 1, sa, sb⟩ seed 4096 0) = 0 from ⟨rfl, rfl⟩)
  have hta := Lib.hid ((tox_parts (newE_parts he).1).2.2.2.2.2.2.2.2.1 rfl).1
  clear he
  generalize newS ⟨⟨#[97]⟩, 3, false, 1, sa, sb⟩ seed 4096 0 = s0 at *
  go_enter Try.func5, Try.ntmps5
  go_wp2
  refine start_ (n := 6) (S := fun w' => w'.cell? ⟨w.heap.size, 0, none⟩ = some (.int .i64 sa) ∧ w'.cell? ⟨w.heap.size, 1, none⟩ = some (.int .i64 sb)) (ds := []) (m_ 6 0) (by kernel_rfl) rfl (by kernel_rfl) ⟨(by go_simp), (by go_simp)⟩ (fun hHeld => ?_)
  refine pu_ 0 (some 17) (m_ 6 1) rfl rfl (by kernel_rfl) (fun _ _ _ h => h) (by rfl) (by intro w'; go_simp; with_reducible rfl) (by simp only [Act.put, List.setIfInBounds_toArray, List.set_cons_zero, List.set_cons_succ, i64_w, i32_w]; rfl) ?_
  refine pu_ 2 (some 19) (m_ 6 5) rfl rfl (by kernel_rfl) (fun _ _ _ h => h) (by rfl) (by intro w'; go_simp; with_reducible rfl) (by simp only [Act.put, List.setIfInBounds_toArray, List.set_cons_zero, List.set_cons_succ, i64_w, i32_w]; rfl) ?_
  refine tk_ 1 (some 18) (m_ 6 7) rfl rfl (by kernel_rfl) (fun _ _ _ h => h) (by rfl) (by rintro w' ⟨s0, s1⟩; go_simp; with_reducible rfl) hHeld (by simp only [Act.put, List.setIfInBounds_toArray, List.set_cons_zero, List.set_cons_succ, i64_w, i32_w]; rfl) ?_
  refine pu_ 4 (some 7) (m_ 6 23) rfl rfl (by kernel_rfl) (fun _ _ _ h => h) (by rfl) (by intro w'; go_simp; with_reducible rfl) (by simp only [Act.put, List.setIfInBounds_toArray, List.set_cons_zero, List.set_cons_succ, i64_w, i32_w]; rfl) ?_
  refine tk_ 3 (some 20) (m_ 6 31) rfl rfl (by kernel_rfl) (fun _ _ _ h => h) (by rfl) (by rintro w' ⟨s0, s1⟩; go_simp; with_reducible rfl) hHeld (by simp only [Act.put, List.setIfInBounds_toArray, List.set_cons_zero, List.set_cons_succ, i64_w, i32_w]; rfl) ?_
  refine pu_ 5 (some 8) (m_ 6 63) rfl rfl (by kernel_rfl) (fun _ _ _ h => h) (by rfl) (by intro w'; go_simp; with_reducible rfl) (by simp only [Act.put, List.setIfInBounds_toArray, List.set_cons_zero, List.set_cons_succ, i64_w, i32_w]; rfl) ?_
  refine done_ (by kernel_rfl) ?_
  clear hHeld
  go_wp2_with fail
  refine (hn _ hB0.out).mono ?_
  rintro e w1 ⟨b, kk, rfl, hL, hB⟩
  have H1 := Lib.hid hL
  clear hn hB hL hB0
  go_wp2
  go_loopw [11, 12, 13, 43] (fun nv lv av iv wr => ∃ (k : Nat) (s : Sg) (now last : Int) (any : Bool), k ≤ l.length ∧ iv = .int .i64 k ∧ nv = .int .i64 now ∧ lv = .int .i64 last ∧ av = .bool any ∧ LiveS w wr b kk s ∧ PcI ⟨⟨#[97]⟩, 3, false, 1, sa, sb⟩ now last any s ∧ 0 ≤ now ∧ now ≤ 1099511627776 ∧ s.passed + held s ≤ 200 * k) (fun _ _ _ iv _ => l.length - (intOf iv).toNat)
  case atStart => exact ⟨0, s0, 0, 0, false, by omega, rfl, rfl, rfl, rfl, H1.out, hI0.out, by decide, by decide, by rw [hs0.out.1, hs0.out.2]; decide⟩
  case round =>
    obtain ⟨k, s, now, last, any, hk, rfl, rfl, rfl, rfl, hL, hI, hn0, hn1, hm⟩ := hrel
    clear H1 hI0 hs0
    by_cases hlt : k < l.length
    · obtain ⟨g, oo, rfl, hc⟩ := hA (by intro h; subst h; simp at hlt)
      have hx : l[k]? = some l[k] := List.getElem?_eq_getElem hlt
      obtain ⟨d0, d1, d2⟩ := hc k _ hx
      generalize l[k] = p at *
      obtain ⟨p0, p1, p2⟩ := p
      dsimp only at *
      have hold := hL.old
      have d0' := bcells hold d0
      have d1' := bcells hold d1
      have d2' := bcells hold d2
      obtain ⟨ht0, ht1, ht2⟩ := tick_next now p0 hn0 hn1
      have hL' := Lib.hid hL
      have hI' := Lib.hid hI
      have hm' := Lib.hid hm
      have hp0 := hL.ok.p0
      have hH1 : held s + 200 ≤ 1000000000 := by omega
      have hP1 : s.passed ≤ 1000000000 := by omega
      have HT := Lib.hid (show now ≤ Tick.add now p0 ∧ Tick.add now p0 ≤ 1099511627776 ∧ Tick.add (Tick.add now p0) 0 = Tick.add now p0 from ⟨ht0, ht1, ht2⟩)
      have hn0' := Lib.hid hn0
      have HBx := Lib.hid (show Below wr.heap.size wr (wr.alloc (.cells #[.int .i64 p0, .bool p1, .int .i64 p2] 34)) from (Below.refl _ _).alloc (Nat.le_refl _) _)
      clear hc hx hA hold hL hI hm hp0 ht0 ht1 ht2 hn0 hn1 d0 d1 d2
      generalize hNE : Tick.add now p0 = N at *
      have hNE' := Lib.hid hNE
      clear hNE
      cases p1 with
      | false =>
        have hmm : min (max p2 0) 200 = (mk p2 : Int) := mk_eq p2
        have hmk := make_u8 (mk p2) (mk_le p2)
        have hM := mk_le p2
        generalize mk p2 = M at *
        go_wp2_with (go_at_call 10; (with_reducible refine (Ref01.add_any now p0 _).mono ?_); rintro e w3 ⟨rfl, rfl⟩; rw [hNE'.out])
        have hq := live_zeros hL'.out HBx.out N M (by omega)
        rw [World.size_alloc] at hq
        refine hq.mono ?_
        rintro e w2 ⟨rfl, hL2, -⟩
        have HL2 := Lib.hid hL2
        have HI2 := Lib.hid (hI'.out.put rfl N HT.out.1 HT.out.2.2 (zeros M))
        have HM2 := Lib.hid (show (putS s N (zeros M)).passed + held (putS s N (zeros M)) ≤ 200 * (k + 1 : Nat) by
          have h1 := held_put s N (zeros M)
          have h2 := hm'.out
          rw [zeros_size] at h1
          rw [put_passed]
          omega)
        clear hL2 hmm hmk hL' hI' HBx
        generalize putS s N (zeros M) = s2 at *
        go_wp2
        go_roundw
        case rel => exact ⟨k + 1, s2, N, last, any, by omega, by go_num, rfl, rfl, rfl, HL2.out, HI2.out, Int.le_trans hn0'.out HT.out.1, HT.out.2.1, HM2.out⟩
        case measure => simp [intOf]; omega
      | true =>
        have hsN := hNE'
        go_wp2_with (go_at_call 10; (with_reducible refine (Ref01.add_any now p0 _).mono ?_); rintro e w3 ⟨rfl, rfl⟩; rw [hNE'.out])
        refine (live_take (hL'.out.below HBx.out) N p2 hP1 (by omega)).mono ?_
        rintro e w2 ⟨A2, c2, rfl, -, -, hL2, -⟩
        have HL2 := Lib.hid hL2
        obtain ⟨hk1, hk2, hk3⟩ := hI'.out.take rfl hta.out N HT.out.1 HT.out.2.2 p2
        have HM2 := Lib.hid (show (takeS s N p2).passed + held (takeS s N p2) ≤ 200 * (k + 1 : Nat) by
          have h1 := held_take s N p2
          have h2 := hm'.out
          rw [passed_take]
          omega)
        have hsz : (takeB s N p2).size ≤ 1000000000 := by have h1 := held_take s N p2; omega
        dsimp only at hk1 hk2
        clear hL2 hL' hI' HBx
        generalize (takeB s N p2).size = z at *
        generalize takeS s N p2 = s2 at *
        have t1 : decide (sa < (z : Int)) = false := decide_eq_false (by omega)
        by_cases hz : 0 < z
        · have t2 : decide (0 < z) = true := decide_eq_true hz
          have t2' : decide ((0 : Int) < (z : Int)) = true := decide_eq_true (by omega)
          rw [if_pos hz, t2, Bool.or_true] at hk3
          have HI2 := Lib.hid hk3
          cases any with
          | true =>
            have t3 : decide (N < Tick.add last sb) = false := decide_eq_false (by have := hk2 hz rfl; omega)
            clear hk2 hk3
            go_wp2_with (go_at_call 10; (with_reducible refine (Ref01.add_any last sb _).mono ?_); rintro e w3 ⟨rfl, rfl⟩)
            go_roundw
            case rel => exact ⟨k + 1, s2, N, N, true, by omega, by go_num, rfl, rfl, rfl, HL2.out, HI2.out, Int.le_trans hn0'.out HT.out.1, HT.out.2.1, HM2.out⟩
            case measure => simp [intOf]; omega
          | false =>
            clear hk2 hk3
            go_wp2
            go_roundw
            case rel => exact ⟨k + 1, s2, N, N, true, by omega, by go_num, rfl, rfl, rfl, HL2.out, HI2.out, Int.le_trans hn0'.out HT.out.1, HT.out.2.1, HM2.out⟩
            case measure => simp [intOf]; omega
        · have t2 : decide (0 < z) = false := decide_eq_false hz
          have t2' : decide ((0 : Int) < (z : Int)) = false := decide_eq_false (by omega)
          rw [if_neg hz, t2, Bool.or_false] at hk3
          have HI2 := Lib.hid hk3
          clear hk2 hk3
          go_wp2
          go_roundw
          case rel => exact ⟨k + 1, s2, N, last, any, by omega, by go_num, rfl, rfl, rfl, HL2.out, HI2.out, Int.le_trans hn0'.out HT.out.1, HT.out.2.1, HM2.out⟩
          case measure => simp [intOf]; omega
    · have hk2 : k = l.length := by omega
      subst hk2
      have hnl : ¬ (l.length < l.length) := by omega
      have hL' := Lib.hid hL
      clear hL hI hm hA
      go_wp2_with (go_at_call 9; (with_reducible refine (alive_any _).mono ?_); rintro e w2 ⟨rfl, hB2⟩; have HL2 := Lib.hid (hL'.out.below hB2); clear hB2)
      go_ret
      exact ⟨rfl, HL2.out.old⟩
theorem pieces_row (sa sb seed : Int) (v : Value) (l : List Pt) (w : World) (hv : Puts w v l) :
    Calls Try.prog 5 #[.agg #[.int .i64 sa, .int .i64 sb], .int .u64 seed, v] w fun e w' => e = .returned (.bool true) ∧ Below w.heap.size w w' := by
  by_cases he : newE ⟨⟨#[97]⟩, 3, false, 1, sa, sb⟩ 4096 = 0
  · by_cases hl : l.length ≤ 60
    · exact pieces_yes sa sb seed v l w hv he hl
    · exact pieces_long sa sb seed v l w hv he (by omega)
  · exact pieces_none sa sb seed v l w hv he
end Go.Proofs.Ytehpliclknfmoaa.Stage
