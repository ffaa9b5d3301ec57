/- The law StageEnds (chapter 10). Conditions: each text is shorter than 2^47 bytes. -/
import Derived.Test.YtehpliclknfmoaaStageQ
namespace Go.Proofs.Ytehpliclknfmoaa.Stage
open Go.RowKit Mem Tick Cargo Toxic
open Go.Proofs.YtehpliclknfmoaaW.PrintLast Pu
set_option maxRecDepth 100000
set_option linter.unusedVariables false
set_option linter.unusedSimpArgs false
theorem LiveS.drew {w wr : World} {b k : Nat} {s : Sg} (h : LiveS w wr b k s) : LiveS w wr.drew b k s := h.below (Below.refl _ _).drew
theorem ends_none (tn : ByteArray) (tk : Int) (tu : Bool) (tf ta tb seed room now : Int) (v : Value) (l : List Op) (w : World) (hv : Script w v l) (he : newE ⟨tn, tk, tu, tf, ta, tb⟩ room ≠ 0) :
    Calls Try.prog 7 #[.agg #[.string tn, .int .i64 tk, .bool tu, .int .i64 tf, .int .i64 ta, .int .i64 tb, .int .u64 seed, .int .i64 room, .int .i64 now], v] w fun e w' => e = .returned (.bool true) ∧ Below w.heap.size w w' := by
  have hn := fun (wr : World) => live_none (wr := wr) ⟨tn, tk, tu, tf, ta, tb⟩ seed room now he
  have te : (newE ⟨tn, tk, tu, tf, ta, tb⟩ room != 0) = true := by simpa using he
  have hB0 := Lib.hid ((Below.refl w.heap.size w).alloc (Nat.le_refl _) (.cells #[.string tn, .int .i64 tk, .bool tu, .int .i64 tf, .int .i64 ta, .int .i64 tb, .int .u64 seed, .int .i64 room, .int .i64 now] 48))
  clear hv he
  generalize newE ⟨tn, tk, tu, tf, ta, tb⟩ room = E at *
  go_enter Try.func7, Try.ntmps7
  go_wp2_with fail
  refine (hn _).mono ?_
  rintro e w1 ⟨rfl, hB⟩
  have hB1 := Lib.hid (bw_below hB0.out hB)
  clear hn hB
  go_wp2_with (go_at_call 9; (with_reducible refine (alive_any _).mono ?_); rintro e w2 ⟨rfl, hB2⟩; have hB2' := Lib.hid hB2; clear hB2)
  go_ret
  exact ⟨rfl, bw_below hB1.out hB2'.out⟩
theorem ends_long (tn : ByteArray) (tk : Int) (tu : Bool) (tf ta tb seed room now : Int) (v : Value) (l : List Op) (w : World) (hv : Script w v l) (he : newE ⟨tn, tk, tu, tf, ta, tb⟩ room = 0) (hf : fewB l = false) :
    Calls Try.prog 7 #[.agg #[.string tn, .int .i64 tk, .bool tu, .int .i64 tf, .int .i64 ta, .int .i64 tb, .int .u64 seed, .int .i64 room, .int .i64 now], v] w fun e w' => e = .returned (.bool true) ∧ Below w.heap.size w w' := by
  have hn := fun (wr : World) hB => live_new (w := w) (wr := wr) ⟨tn, tk, tu, tf, ta, tb⟩ seed room now he hB
  have hB0 := Lib.hid ((Below.refl w.heap.size w).alloc (Nat.le_refl _) (.cells #[.string tn, .int .i64 tk, .bool tu, .int .i64 tf, .int .i64 ta, .int .i64 tb, .int .u64 seed, .int .i64 room, .int .i64 now] 48))
  have hX0 := Lib.hid (Blk.new w 48 #[.string tn, .int .i64 tk, .bool tu, .int .i64 tf, .int .i64 ta, .int .i64 tb, .int .u64 seed, .int .i64 room, .int .i64 now])
  have hv' := Lib.hid hv
  have hf' := Lib.hid hf
  clear he hv hf
  go_enter Try.func7, Try.ntmps7
  go_wp2_with fail
  refine (hn _ hB0.out).mono ?_
  rintro e w1 ⟨b, k, rfl, hL, hB⟩
  have hB1 := Lib.hid hL.old
  have HX1 := Lib.hid (hX0.out.below hB)
  clear hn hB hL
  go_wp2_with fail
  refine (few_any v l _ (hv'.out.below hB1.out)).mono ?_
  rintro e w2 ⟨rfl, hB⟩
  rw [hf'.out]
  have hB2 := Lib.hid (bw_below hB1.out hB)
  have x1 : w2.cell? ⟨w.heap.size, 1, none⟩ = some (.int .i64 tk) := ((HX1.out.below hB).cell 1).trans rfl
  clear hB
  go_wp2_with (go_at_call 9; (with_reducible refine (alive_any _).mono ?_); rintro e w2 ⟨rfl, hB2⟩; have hB2' := Lib.hid hB2; clear hB2)
  go_ret
  exact ⟨rfl, bw_below hB2.out hB2'.out⟩
theorem ends_low (tn : ByteArray) (tk : Int) (tu : Bool) (tf ta tb seed room now : Int) (v : Value) (l : List Op) (w : World) (hv : Script w v l) (he : newE ⟨tn, tk, tu, tf, ta, tb⟩ room = 0) (hf : fewB l = true) (hk : tk < 4) :
    Calls Try.prog 7 #[.agg #[.string tn, .int .i64 tk, .bool tu, .int .i64 tf, .int .i64 ta, .int .i64 tb, .int .u64 seed, .int .i64 room, .int .i64 now], v] w fun e w' => e = .returned (.bool true) ∧ Below w.heap.size w w' := by
  have hn := fun (wr : World) hB => live_new (w := w) (wr := wr) ⟨tn, tk, tu, tf, ta, tb⟩ seed room now he hB
  have hB0 := Lib.hid ((Below.refl w.heap.size w).alloc (Nat.le_refl _) (.cells #[.string tn, .int .i64 tk, .bool tu, .int .i64 tf, .int .i64 ta, .int .i64 tb, .int .u64 seed, .int .i64 room, .int .i64 now] 48))
  have hX0 := Lib.hid (Blk.new w 48 #[.string tn, .int .i64 tk, .bool tu, .int .i64 tf, .int .i64 ta, .int .i64 tb, .int .u64 seed, .int .i64 room, .int .i64 now])
  have hv' := Lib.hid hv
  have hf' := Lib.hid hf
  have tl : decide (tk < 4) = true := decide_eq_true hk
  clear hk
  clear he hv hf
  go_enter Try.func7, Try.ntmps7
  go_wp2_with fail
  refine (hn _ hB0.out).mono ?_
  rintro e w1 ⟨b, k, rfl, hL, hB⟩
  have hB1 := Lib.hid hL.old
  have HX1 := Lib.hid (hX0.out.below hB)
  clear hn hB hL
  go_wp2_with fail
  refine (few_any v l _ (hv'.out.below hB1.out)).mono ?_
  rintro e w2 ⟨rfl, hB⟩
  rw [hf'.out]
  have hB2 := Lib.hid (bw_below hB1.out hB)
  have x1 : w2.cell? ⟨w.heap.size, 1, none⟩ = some (.int .i64 tk) := ((HX1.out.below hB).cell 1).trans rfl
  clear hB
  go_wp2_with (go_at_call 9; (with_reducible refine (alive_any _).mono ?_); rintro e w2 ⟨rfl, hB2⟩; have hB2' := Lib.hid hB2; clear hB2)
  go_ret
  exact ⟨rfl, bw_below hB2.out hB2'.out⟩
theorem ends_high (tn : ByteArray) (tk : Int) (tu : Bool) (tf ta tb seed room now : Int) (v : Value) (l : List Op) (w : World) (hv : Script w v l) (he : newE ⟨tn, tk, tu, tf, ta, tb⟩ room = 0) (hf : fewB l = true) (hk : 6 < tk) :
    Calls Try.prog 7 #[.agg #[.string tn, .int .i64 tk, .bool tu, .int .i64 tf, .int .i64 ta, .int .i64 tb, .int .u64 seed, .int .i64 room, .int .i64 now], v] w fun e w' => e = .returned (.bool true) ∧ Below w.heap.size w w' := by
  have hn := fun (wr : World) hB => live_new (w := w) (wr := wr) ⟨tn, tk, tu, tf, ta, tb⟩ seed room now he hB
  have hB0 := Lib.hid ((Below.refl w.heap.size w).alloc (Nat.le_refl _) (.cells #[.string tn, .int .i64 tk, .bool tu, .int .i64 tf, .int .i64 ta, .int .i64 tb, .int .u64 seed, .int .i64 room, .int .i64 now] 48))
  have hX0 := Lib.hid (Blk.new w 48 #[.string tn, .int .i64 tk, .bool tu, .int .i64 tf, .int .i64 ta, .int .i64 tb, .int .u64 seed, .int .i64 room, .int .i64 now])
  have hv' := Lib.hid hv
  have hf' := Lib.hid hf
  have tl : decide (tk < 4) = false := decide_eq_false (by omega)
  have tl2 : decide (6 < tk) = true := decide_eq_true hk
  clear hk
  clear he hv hf
  go_enter Try.func7, Try.ntmps7
  go_wp2_with fail
  refine (hn _ hB0.out).mono ?_
  rintro e w1 ⟨b, k, rfl, hL, hB⟩
  have hB1 := Lib.hid hL.old
  have HX1 := Lib.hid (hX0.out.below hB)
  clear hn hB hL
  go_wp2_with fail
  refine (few_any v l _ (hv'.out.below hB1.out)).mono ?_
  rintro e w2 ⟨rfl, hB⟩
  rw [hf'.out]
  have hB2 := Lib.hid (bw_below hB1.out hB)
  have x1 : w2.cell? ⟨w.heap.size, 1, none⟩ = some (.int .i64 tk) := ((HX1.out.below hB).cell 1).trans rfl
  clear hB
  go_wp2_with (go_at_call 9; (with_reducible refine (alive_any _).mono ?_); rintro e w2 ⟨rfl, hB2⟩; have hB2' := Lib.hid hB2; clear hB2)
  go_ret
  exact ⟨rfl, bw_below hB2.out hB2'.out⟩
set_option maxHeartbeats 2000000 in
theorem ends_yes (tn : ByteArray) (tk : Int) (tu : Bool) (tf ta tb seed room now : Int) (v : Value) (l : List Op) (w : World) (hv : Script w v l) (he : newE ⟨tn, tk, tu, tf, ta, tb⟩ room = 0) (hf : fewB l = true) (hk1 : 4 ≤ tk) (hk2 : tk ≤ 6) :
    Calls Try.prog 7 #[.agg #[.string tn, .int .i64 tk, .bool tu, .int .i64 tf, .int .i64 ta, .int .i64 tb, .int .u64 seed, .int .i64 room, .int .i64 now], v] w fun e w' => e = .returned (.bool true) ∧ Below w.heap.size w w' := by
  have hn := fun (wr : World) hB => live_new (w := w) (wr := wr) ⟨tn, tk, tu, tf, ta, tb⟩ seed room now he hB
  have hB0 := Lib.hid ((Below.refl w.heap.size w).alloc (Nat.le_refl _) (.cells #[.string tn, .int .i64 tk, .bool tu, .int .i64 tf, .int .i64 ta, .int .i64 tb, .int .u64 seed, .int .i64 room, .int .i64 now] 48))
  have hX0 := Lib.hid (Blk.new w 48 #[.string tn, .int .i64 tk, .bool tu, .int .i64 tf, .int .i64 ta, .int .i64 tb, .int .u64 seed, .int .i64 room, .int .i64 now])
  have hv' := Lib.hid hv
  have hf' := Lib.hid hf
  have hn5 : bytesOf l ≤ 2000 := by simp [fewB] at hf; exact hf.2
  have hl2 : l.length ≤ 60 := by simp [fewB] at hf; exact hf.1
  obtain ⟨a, cap, rfl, hmx, -, hA⟩ := hv
  have hI0 := Lib.hid (EndI.new ⟨tn, tk, tu, tf, ta, tb⟩ seed room now (by show tk = 4 ∨ tk = 5 ∨ tk = 6; omega) (newE_parts he).1)
  have hs0 := Lib.hid (show (newS ⟨tn, tk, tu, tf, ta, tb⟩ seed room now).passed = 0 ∧ held (newS ⟨tn, tk, tu, tf, ta, tb⟩ seed room now) = 0 by unfold newS; split <;> exact ⟨rfl, rfl⟩)
  have tl1 : decide (tk < 4) = false := decide_eq_false (by omega)
  have tl2 : decide (6 < tk) = false := decide_eq_false (by omega)
  have hkk := Lib.hid (show tk = 4 ∨ tk = 5 ∨ tk = 6 by omega)
  clear he hf hk1 hk2
  generalize newS ⟨tn, tk, tu, tf, ta, tb⟩ seed room now = s0 at *
  go_enter Try.func7, Try.ntmps7
  go_wp2_with fail
  refine (hn _ hB0.out).mono ?_
  rintro e w1 ⟨b, kk, rfl, hL, hB⟩
  have H1 := Lib.hid hL
  have HX1 := Lib.hid (hX0.out.below hB)
  clear hn hB hL hB0 hX0
  go_wp2_with fail
  refine (few_any _ l _ (hv'.out.below H1.out.old)).mono ?_
  rintro e w2 ⟨rfl, hB⟩
  rw [hf'.out]
  have H2 := Lib.hid (H1.out.below hB)
  have HX2 := Lib.hid (HX1.out.below hB)
  have x1 : w2.cell? ⟨w.heap.size, 1, none⟩ = some (.int .i64 tk) := (HX2.out.cell 1).trans rfl
  have x4 : w2.cell? ⟨w.heap.size, 4, none⟩ = some (.int .i64 ta) := (HX2.out.cell 4).trans rfl
  have x8 : w2.cell? ⟨w.heap.size, 8, none⟩ = some (.int .i64 now) := (HX2.out.cell 8).trans rfl
  clear hB H1 HX1
  go_wp2_with (first
    | (go_at_call 20; (with_reducible refine (Ref01.near_any now _).mono ?_); rintro e w3 ⟨rfl, rfl⟩)
    | (go_at_call 10; (with_reducible refine (Ref01.add_any now ta _).mono ?_); rintro e w3 ⟨rfl, rfl⟩))
  go_loopw [7, 60] (fun cv iv wr => ∃ (k : Nat) (s : Sg) (c : Int), k ≤ l.length ∧ iv = .int .i64 k ∧ cv = .int .i64 c ∧ LiveS w wr b kk s ∧ EndI ⟨tn, tk, tu, tf, ta, tb⟩ (nr now) c s ∧ Blk wr w.heap.size 48 #[.string tn, .int .i64 tk, .bool tu, .int .i64 tf, .int .i64 ta, .int .i64 tb, .int .u64 seed, .int .i64 room, .int .i64 now] ∧ s.passed + held s ≤ bytesOf (l.take k)) (fun _ iv _ => l.length - (intOf iv).toNat)
  case atStart => exact ⟨0, s0, nr now, by omega, rfl, rfl, H2.out, hI0.out, HX2.out, by rw [hs0.out.1, hs0.out.2]; exact Int.le_refl _⟩
  case round =>
    obtain ⟨k, s, c, hk, rfl, rfl, hL, hI, hX, hm⟩ := hrel
    clear H2 HX2 x1 x4 x8 hI0 hs0
    have hble0 := bytesOf_le l k
    by_cases hlt : k < l.length
    · obtain ⟨g, oo, rfl, hc⟩ := hA (by intro h; subst h; simp at hlt)
      have hx : l[k]? = some l[k] := List.getElem?_eq_getElem hlt
      obtain ⟨d0, d1, d2, d3, d4, d5, d6, d7, d8, d9⟩ := hc k _ hx
      have hbt := bytesOf_take l k _ hx
      have hble := bytesOf_le l (k + 1)
      rw [hbt] at hble
      have hbt' := Lib.hid hbt
      clear hbt
      unfold opBytes at hble hbt'
      generalize l[k] = p at *
      obtain ⟨p0, p1, p2, p3, ⟨t0, t1, t2, t3, t4, t5⟩⟩ := p
      dsimp only at *
      have hold := hL.old
      have d0' := bcells hold d0
      have d1' := bcells hold d1
      have d2' := bcells hold d2
      have d3' := bcells hold d3
      have d4' := bcells hold d4
      have d5' := bcells hold d5
      have d6' := bcells hold d6
      have d7' := bcells hold d7
      have d8' := bcells hold d8
      have d9' := bcells hold d9
      have hL' := Lib.hid hL
      have hI' := Lib.hid hI
      have hX' := Lib.hid hX
      have hm' := Lib.hid hm
      have hok := hL.ok
      have hp0 := hok.p0
      have hH1 : held s + p3.size ≤ 1000000000 := by omega
      have hP1 : s.passed ≤ 1000000000 := by omega
      have hszw : w.heap.size ≤ wr.heap.size := hold.size
      clear hc hx hA hold hL hI hX hm hok hp0 d0 d1 d2 d3 d4 d5 d6 d7 d8 d9
      have hBx : Below wr.heap.size wr (wr.alloc (.cells #[.int .i64 p0, .int .i64 p1, .int .i64 p2, .string p3, .string t0, .int .i64 t1, .bool t2, .int .i64 t3, .int .i64 t4, .int .i64 t5] 52)) := (Below.refl _ _).alloc (Nat.le_refl _) _
      by_cases hskip : p0 < 0 ∨ 4 < p0 ∨ p0 = 3
      · by_cases q0 : p0 < 0
        · have e0 : decide (p0 < 0) = true := decide_eq_true q0
          clear hskip
          go_wp2
          go_roundw
          case rel => exact ⟨k + 1, s, c, by omega, by go_num, rfl, hL'.out.below hBx, hI'.out, hX'.out.below hBx, by have := hm'.out; rw [hbt'.out]; omega⟩
          case measure => simp [intOf]; omega
        · have e0 : decide (p0 < 0) = false := decide_eq_false q0
          by_cases q1 : 4 < p0
          · have e1 : decide (4 < p0) = true := decide_eq_true q1
            clear hskip
            go_wp2
            go_roundw
            case rel => exact ⟨k + 1, s, c, by omega, by go_num, rfl, hL'.out.below hBx, hI'.out, hX'.out.below hBx, by have := hm'.out; rw [hbt'.out]; omega⟩
            case measure => simp [intOf]; omega
          · have e1 : decide (4 < p0) = false := decide_eq_false q1
            have e2 : (p0 == 3) = true := by have : p0 = 3 := by omega
                                             simpa using this
            clear hskip
            go_wp2
            go_roundw
            case rel => exact ⟨k + 1, s, c, by omega, by go_num, rfl, hL'.out.below hBx, hI'.out, hX'.out.below hBx, by have := hm'.out; rw [hbt'.out]; omega⟩
            case measure => simp [intOf]; omega
      · have e0 : decide (p0 < 0) = false := decide_eq_false (fun h => hskip (.inl h))
        have e1 : decide (4 < p0) = false := decide_eq_false (fun h => hskip (.inr (.inl h)))
        have e2 : (p0 == 3) = false := by simpa using fun h => hskip (.inr (.inr h))
        have hok2 := Lib.hid (show 0 ≤ p0 ∧ p0 ≤ 4 ∧ p0 ≠ 3 by omega)
        have HBx := Lib.hid hBx
        have HX0 := Lib.hid (Blk.new wr 52 #[.int .i64 p0, .int .i64 p1, .int .i64 p2, .string p3, .string t0, .int .i64 t1, .bool t2, .int .i64 t3, .int .i64 t4, .int .i64 t5])
        clear hskip hBx
        go_wp2_with (go_at_call 20; (with_reducible refine (Ref01.near_any p1 _).mono ?_); rintro e w3 ⟨rfl, rfl⟩)
        refine (live_does (hL'.out.below HBx.out) ⟨p0, p1, p2, p3, ⟨t0, t1, t2, t3, t4, t5⟩⟩ hP1 hH1).mono ?_
        rintro e w2 ⟨rfl, hL2, hK2⟩
        have HL2 := Lib.hid hL2
        have HX2 := Lib.hid (hK2 _ _ _ HX0.out (by decide))
        have HS2 := Lib.hid (hK2 _ _ _ (hX'.out.below HBx.out) (by decide))
        have HI2 := Lib.hid (hI'.out.does ⟨p0, p1, p2, p3, ⟨t0, t1, t2, t3, t4, t5⟩⟩ hok2.out.1 hok2.out.2.1 hok2.out.2.2)
        have HM2 := Lib.hid (mass_step s ⟨p0, p1, p2, p3, ⟨t0, t1, t2, t3, t4, t5⟩⟩)
        have HO4 := Lib.hid (fun hk => out_4 hI'.out hk ⟨p0, p1, p2, p3, ⟨t0, t1, t2, t3, t4, t5⟩⟩ hok2.out.2.1)
        have hwz : wr.heap.size < w2.heap.size := HX2.out.lt
        clear hL2 hK2 hL' hX' HX0 HBx
        dsimp only at HI2 HM2
        generalize doesS s ⟨p0, p1, p2, p3, ⟨t0, t1, t2, t3, t4, t5⟩⟩ = s2 at *
        generalize doesA s ⟨p0, p1, p2, p3, ⟨t0, t1, t2, t3, t4, t5⟩⟩ = an at *
        obtain ⟨a0, a1, a2⟩ := an
        dsimp only at *
        have q1 : w2.cell? ⟨wr.heap.size, 1, none⟩ = some (.int .i64 p1) := (HX2.out.cell 1).trans rfl
        have hAl := (Below.refl w2.heap.size w2).alloc (Nat.le_refl _) (.cells #[.int .i64 a0, .string a1, .int .i64 a2] 55)
        have HY := Lib.hid (Blk.new w2 55 #[.int .i64 a0, .string a1, .int .i64 a2])
        have HL3 := Lib.hid (HL2.out.below hAl)
        have HS3 := Lib.hid (HS2.out.below hAl)
        have hH3 : held s2 ≤ 1000000000 := by have h1 := HM2.out; have h2 := hm'.out; have h3 := HL2.out.ok.p0; omega
        clear HL2 HS2 HX2 hAl
        go_wp2_with fail
        refine (live_state HL3.out p1 hH3).mono ?_
        rintro e w4 ⟨rfl, hL4, hK4⟩
        have HL4 := Lib.hid hL4
        have HS4 := Lib.hid (hK4 _ _ _ HS3.out (by decide))
        have HY4 := hK4 _ _ _ HY.out (by decide)
        have HE := Lib.hid (HI2.out.look p1)
        have y1 : w4.cell? ⟨w2.heap.size, 1, none⟩ = some (.string a1) := (HY4.cell 1).trans rfl
        have z1 : w4.cell? ⟨w.heap.size, 1, none⟩ = some (.int .i64 tk) := (HS4.out.cell 1).trans rfl
        have z4 : w4.cell? ⟨w.heap.size, 4, none⟩ = some (.int .i64 ta) := (HS4.out.cell 4).trans rfl
        have hmf := Lib.hid (show (lookP s2 p1).passed + held (lookP s2 p1) ≤ bytesOf (l.take k) + p3.size from Int.le_trans HM2.out (by have := hm'.out; omega))
        rw [show max (max c (nr p1)) (nr p1) = max c (nr p1) by omega] at HE
        clear hL4 hK4 HL3 HS3 HY HY4 q1 HI2 HM2
        generalize lookP s2 p1 = s3 at *
        generalize hCE : max c (nr p1) = C at *
        have hC' := Lib.hid hCE
        clear hCE
        have hEE := Lib.hid (show Tick.add (nr now) ta = Tick.add now ta from add_nr now ta)
        rcases hkk.out with hk4 | hk5 | hk6
        · have k4 : (tk == 4) = true := by simpa using hk4
          have ha1 := HO4.out hk4
          have hl4 := HE.out.l4 hk4
          have hst2 : (s3.state == 2) = false := by simpa using hl4.2
          have hii := hl4.1
          subst ha1
          dsimp only at hii
          rw [hEE.out] at hii
          by_cases hE : Tick.add now ta ≤ C
          · have t5 : decide (Tick.add now ta ≤ C) = true := decide_eq_true hE
            have t6 : (s3.state == 1) = true := by simpa using hii.2 hE
            clear hii hE hl4 hk4
            go_wp2
            go_roundw
            case rel => exact ⟨k + 1, s3, C, by omega, by go_num, rfl, HL4.out, HE.out.i, HS4.out, by rw [hbt'.out]; exact hmf.out⟩
            case measure => simp [intOf]; omega
          · have t5 : decide (Tick.add now ta ≤ C) = false := decide_eq_false hE
            have t6 : (s3.state == 1) = false := by simpa using fun h => hE (hii.1 h)
            clear hii hE hl4 hk4
            go_wp2
            go_roundw
            case rel => exact ⟨k + 1, s3, C, by omega, by go_num, rfl, HL4.out, HE.out.i, HS4.out, by rw [hbt'.out]; exact hmf.out⟩
            case measure => simp [intOf]; omega
        · have k4 : (tk == 4) = false := by simp [hk5]
          have k5 : (tk == 5) = true := by simpa using hk5
          have hl5 := HE.out.l5 hk5
          have hst1 : (s3.state == 1) = false := by simpa using hl5.2
          have hii := hl5.1
          dsimp only at hii
          rw [hEE.out] at hii
          by_cases hE : Tick.add now ta ≤ C
          · have t5 : decide (Tick.add now ta ≤ C) = true := decide_eq_true hE
            have t6 : (s3.state == 2) = true := by simpa using hii.2 hE
            clear hii hE hl5 hk5
            go_wp2
            go_roundw
            case rel => exact ⟨k + 1, s3, C, by omega, by go_num, rfl, HL4.out, HE.out.i, HS4.out, by rw [hbt'.out]; exact hmf.out⟩
            case measure => simp [intOf]; omega
          · have t5 : decide (Tick.add now ta ≤ C) = false := decide_eq_false hE
            have t6 : (s3.state == 2) = false := by simpa using fun h => hE (hii.1 h)
            clear hii hE hl5 hk5
            go_wp2
            go_roundw
            case rel => exact ⟨k + 1, s3, C, by omega, by go_num, rfl, HL4.out, HE.out.i, HS4.out, by rw [hbt'.out]; exact hmf.out⟩
            case measure => simp [intOf]; omega
        · have k4 : (tk == 4) = false := by simp [hk6]
          have k5 : (tk == 5) = false := by simp [hk6]
          have hl6 := HE.out.l6 hk6
          have hst2 : (s3.state == 2) = false := by simpa using hl6.2
          have hii := hl6.1
          have hle := (HE.out.i.s6 hk6).1
          dsimp only at hii hle
          have t7 : decide (ta < s3.passed) = false := decide_eq_false (by omega)
          clear hl6 hk6
          by_cases hE : s3.passed = ta
          · have t5 : (s3.passed == ta) = true := by simpa using hE
            have t6 : (s3.state == 1) = true := by simpa using hii.2 hE
            clear hii hE hle
            go_wp2
            refine start_ (n := 21) (S := fun w' => w'.cell? ⟨w.heap.size, 4, none⟩ = some (.int .i64 ta)) (ds := []) (m_ 21 0) (by kernel_rfl) rfl (by kernel_rfl) (z4) (fun hHeld => ?_)
            refine pu_ 0 (some 92) (m_ 21 1) rfl rfl (by kernel_rfl) (fun _ _ _ h => h) (by rfl) (by intro w'; go_simp; with_reducible rfl) (by simp only [Act.put, List.setIfInBounds_toArray, List.set_cons_zero, List.set_cons_succ, i64_w, i32_w]; rfl) ?_
            refine pu_ 2 (some 94) (m_ 21 5) rfl rfl (by kernel_rfl) (fun _ _ _ h => h) (by rfl) (by intro w'; go_simp; with_reducible rfl) (by simp only [Act.put, List.setIfInBounds_toArray, List.set_cons_zero, List.set_cons_succ, i64_w, i32_w]; rfl) ?_
            refine pu_ 3 (some 95) (m_ 21 13) rfl rfl (by kernel_rfl) (fun _ _ _ h => h) (by rfl) (by intro w'; go_simp; with_reducible rfl) (by simp only [Act.put, List.setIfInBounds_toArray, List.set_cons_zero, List.set_cons_succ, i64_w, i32_w]; rfl) ?_
            refine tk_ 4 (some 96) (m_ 21 29) rfl rfl (by kernel_rfl) (fun _ _ _ h => h) (by rfl) (by intro w' s0; go_simp; with_reducible rfl) hHeld (by simp only [Act.put, List.setIfInBounds_toArray, List.set_cons_zero, List.set_cons_succ, i64_w, i32_w]; rfl) ?_
            refine one_ (i := 1) (N := some 93) (m_ 21 31) rfl rfl (by kernel_rfl) (by decide) (fun K hK => ?_)
            refine goes_ Try.func21 (by kernel_rfl) rfl #[.pointer (some ⟨b, 0, none⟩)] (by rfl) rfl rfl (by simp only [List.map_toArray, List.map_cons, List.map_nil]; rfl) ?_
            with_reducible refine (live_passed HL4.out.drew).mono ?_
            rintro e w5 ⟨rfl, rfl⟩
            refine ⟨_, rfl, ?_⟩
            refine hK.out _ _ (z4) (fun hHeld => ?_)
            clear hK K
            refine norm_ (a' := ?_) ?_ ?_
            rotate_left
            · show Act.put _ (some 93) _ = _
              simp only [Act.put, List.setIfInBounds_toArray, List.set_cons_zero, List.set_cons_succ, i64_w, i32_w]
              rfl
            refine pu_ 5 (some 97) (m_ 21 63) rfl rfl (by kernel_rfl) (fun _ _ _ h => h) (by rfl) (by intro w'; go_simp; with_reducible rfl) (by simp only [Act.put, List.setIfInBounds_toArray, List.set_cons_zero, List.set_cons_succ, i64_w, i32_w]; rfl) ?_
            refine pu_ 6 (some 98) (m_ 21 127) rfl rfl (by kernel_rfl) (fun _ _ _ h => h) (by rfl) (by intro w'; go_simp; with_reducible rfl) (by simp only [Act.put, List.setIfInBounds_toArray, List.set_cons_zero, List.set_cons_succ, i64_w, i32_w]; rfl) ?_
            refine pu_ 7 (some 99) (m_ 21 255) rfl rfl (by kernel_rfl) (fun _ _ _ h => h) (by rfl) (by intro w'; go_simp; with_reducible rfl) (by simp only [Act.put, List.setIfInBounds_toArray, List.set_cons_zero, List.set_cons_succ, i64_w, i32_w]; rfl) ?_
            refine pu_ 8 (some 100) (m_ 21 511) rfl rfl (by kernel_rfl) (fun _ _ _ h => h) (by rfl) (by intro w'; go_simp; with_reducible rfl) (by simp only [Act.put, List.setIfInBounds_toArray, List.set_cons_zero, List.set_cons_succ, i64_w, i32_w]; rfl) ?_
            refine pu_ 9 (some 101) (m_ 21 1023) rfl rfl (by kernel_rfl) (fun _ _ _ h => h) (by rfl) (by intro w'; go_simp; with_reducible rfl) (by simp only [Act.put, List.setIfInBounds_toArray, List.set_cons_zero, List.set_cons_succ, i64_w, i32_w]; rfl) ?_
            refine pu_ 11 (some 103) (m_ 21 3071) rfl rfl (by kernel_rfl) (fun _ _ _ h => h) (by rfl) (by intro w'; go_simp; with_reducible rfl) (by simp only [Act.put, List.setIfInBounds_toArray, List.set_cons_zero, List.set_cons_succ, i64_w, i32_w]; rfl) ?_
            refine pu_ 12 (some 104) (m_ 21 7167) rfl rfl (by kernel_rfl) (fun _ _ _ h => h) (by rfl) (by intro w'; go_simp; with_reducible rfl) (by simp only [Act.put, List.setIfInBounds_toArray, List.set_cons_zero, List.set_cons_succ, i64_w, i32_w]; rfl) ?_
            refine tk_ 13 (some 105) (m_ 21 15359) rfl rfl (by kernel_rfl) (fun _ _ _ h => h) (by rfl) (by intro w' s0; go_simp; with_reducible rfl) hHeld (by simp only [Act.put, List.setIfInBounds_toArray, List.set_cons_zero, List.set_cons_succ, i64_w, i32_w]; rfl) ?_
            refine one_ (i := 10) (N := some 102) (m_ 21 16383) rfl rfl (by kernel_rfl) (by decide) (fun K hK => ?_)
            refine goes_ Try.func21 (by kernel_rfl) rfl #[.pointer (some ⟨b, 0, none⟩)] (by rfl) rfl rfl (by simp only [List.map_toArray, List.map_cons, List.map_nil]; rfl) ?_
            with_reducible refine (live_passed HL4.out.drew).mono ?_
            rintro e w6 ⟨rfl, rfl⟩
            refine ⟨_, rfl, ?_⟩
            refine hK.out _ _ (z4) (fun hHeld => ?_)
            clear hK K
            refine norm_ (a' := ?_) ?_ ?_
            rotate_left
            · show Act.put _ (some 102) _ = _
              simp only [Act.put, List.setIfInBounds_toArray, List.set_cons_zero, List.set_cons_succ, i64_w, i32_w]
              rfl
            refine pu_ 14 (some 106) (m_ 21 32767) rfl rfl (by kernel_rfl) (fun _ _ _ h => h) (by rfl) (by intro w'; go_simp; with_reducible rfl) (by simp only [Act.put, List.setIfInBounds_toArray, List.set_cons_zero, List.set_cons_succ, i64_w, i32_w]; rfl) ?_
            refine pu_ 15 (some 107) (m_ 21 65535) rfl rfl (by kernel_rfl) (fun _ _ _ h => h) (by rfl) (by intro w'; go_simp; with_reducible rfl) (by simp only [Act.put, List.setIfInBounds_toArray, List.set_cons_zero, List.set_cons_succ, i64_w, i32_w]; rfl) ?_
            refine pu_ 16 (some 108) (m_ 21 131071) rfl rfl (by kernel_rfl) (fun _ _ _ h => h) (by rfl) (by intro w'; go_simp; with_reducible rfl) (by simp only [Act.put, List.setIfInBounds_toArray, List.set_cons_zero, List.set_cons_succ, i64_w, i32_w]; rfl) ?_
            refine pu_ 17 (some 109) (m_ 21 262143) rfl rfl (by kernel_rfl) (fun _ _ _ h => h) (by rfl) (by intro w'; go_simp; with_reducible rfl) (by simp only [Act.put, List.setIfInBounds_toArray, List.set_cons_zero, List.set_cons_succ, i64_w, i32_w]; rfl) ?_
            refine pu_ 18 (some 110) (m_ 21 524287) rfl rfl (by kernel_rfl) (fun _ _ _ h => h) (by rfl) (by intro w'; go_simp; with_reducible rfl) (by simp only [Act.put, List.setIfInBounds_toArray, List.set_cons_zero, List.set_cons_succ, i64_w, i32_w]; rfl) ?_
            refine pu_ 19 (some 111) (m_ 21 1048575) rfl rfl (by kernel_rfl) (fun _ _ _ h => h) (by rfl) (by intro w'; go_simp; with_reducible rfl) (by simp only [Act.put, List.setIfInBounds_toArray, List.set_cons_zero, List.set_cons_succ, i64_w, i32_w]; rfl) ?_
            refine pu_ 20 (some 112) (m_ 21 2097151) rfl rfl (by kernel_rfl) (fun _ _ _ h => h) (by rfl) (by intro w'; go_simp; with_reducible rfl) (by simp only [Act.put, List.setIfInBounds_toArray, List.set_cons_zero, List.set_cons_succ, i64_w, i32_w]; rfl) ?_
            refine done_ (by kernel_rfl) ?_
            clear hHeld z4
            go_wp2
            go_roundw
            case rel => exact ⟨k + 1, s3, C, by omega, by go_num, rfl, HL4.out.drew, HE.out.i, HS4.out, by rw [hbt'.out]; exact hmf.out⟩
            case measure => simp [intOf]; omega
          · have t5 : (s3.passed == ta) = false := by simpa using hE
            have t6 : (s3.state == 1) = false := by simpa using fun h => hE (hii.1 h)
            clear hii hE hle
            go_wp2
            refine start_ (n := 21) (S := fun w' => w'.cell? ⟨w.heap.size, 4, none⟩ = some (.int .i64 ta)) (ds := []) (m_ 21 0) (by kernel_rfl) rfl (by kernel_rfl) (z4) (fun hHeld => ?_)
            refine pu_ 0 (some 92) (m_ 21 1) rfl rfl (by kernel_rfl) (fun _ _ _ h => h) (by rfl) (by intro w'; go_simp; with_reducible rfl) (by simp only [Act.put, List.setIfInBounds_toArray, List.set_cons_zero, List.set_cons_succ, i64_w, i32_w]; rfl) ?_
            refine pu_ 2 (some 94) (m_ 21 5) rfl rfl (by kernel_rfl) (fun _ _ _ h => h) (by rfl) (by intro w'; go_simp; with_reducible rfl) (by simp only [Act.put, List.setIfInBounds_toArray, List.set_cons_zero, List.set_cons_succ, i64_w, i32_w]; rfl) ?_
            refine pu_ 3 (some 95) (m_ 21 13) rfl rfl (by kernel_rfl) (fun _ _ _ h => h) (by rfl) (by intro w'; go_simp; with_reducible rfl) (by simp only [Act.put, List.setIfInBounds_toArray, List.set_cons_zero, List.set_cons_succ, i64_w, i32_w]; rfl) ?_
            refine tk_ 4 (some 96) (m_ 21 29) rfl rfl (by kernel_rfl) (fun _ _ _ h => h) (by rfl) (by intro w' s0; go_simp; with_reducible rfl) hHeld (by simp only [Act.put, List.setIfInBounds_toArray, List.set_cons_zero, List.set_cons_succ, i64_w, i32_w]; rfl) ?_
            refine one_ (i := 1) (N := some 93) (m_ 21 31) rfl rfl (by kernel_rfl) (by decide) (fun K hK => ?_)
            refine goes_ Try.func21 (by kernel_rfl) rfl #[.pointer (some ⟨b, 0, none⟩)] (by rfl) rfl rfl (by simp only [List.map_toArray, List.map_cons, List.map_nil]; rfl) ?_
            with_reducible refine (live_passed HL4.out.drew).mono ?_
            rintro e w5 ⟨rfl, rfl⟩
            refine ⟨_, rfl, ?_⟩
            refine hK.out _ _ (z4) (fun hHeld => ?_)
            clear hK K
            refine norm_ (a' := ?_) ?_ ?_
            rotate_left
            · show Act.put _ (some 93) _ = _
              simp only [Act.put, List.setIfInBounds_toArray, List.set_cons_zero, List.set_cons_succ, i64_w, i32_w]
              rfl
            refine pu_ 5 (some 97) (m_ 21 63) rfl rfl (by kernel_rfl) (fun _ _ _ h => h) (by rfl) (by intro w'; go_simp; with_reducible rfl) (by simp only [Act.put, List.setIfInBounds_toArray, List.set_cons_zero, List.set_cons_succ, i64_w, i32_w]; rfl) ?_
            refine pu_ 6 (some 98) (m_ 21 127) rfl rfl (by kernel_rfl) (fun _ _ _ h => h) (by rfl) (by intro w'; go_simp; with_reducible rfl) (by simp only [Act.put, List.setIfInBounds_toArray, List.set_cons_zero, List.set_cons_succ, i64_w, i32_w]; rfl) ?_
            refine pu_ 7 (some 99) (m_ 21 255) rfl rfl (by kernel_rfl) (fun _ _ _ h => h) (by rfl) (by intro w'; go_simp; with_reducible rfl) (by simp only [Act.put, List.setIfInBounds_toArray, List.set_cons_zero, List.set_cons_succ, i64_w, i32_w]; rfl) ?_
            refine pu_ 8 (some 100) (m_ 21 511) rfl rfl (by kernel_rfl) (fun _ _ _ h => h) (by rfl) (by intro w'; go_simp; with_reducible rfl) (by simp only [Act.put, List.setIfInBounds_toArray, List.set_cons_zero, List.set_cons_succ, i64_w, i32_w]; rfl) ?_
            refine pu_ 9 (some 101) (m_ 21 1023) rfl rfl (by kernel_rfl) (fun _ _ _ h => h) (by rfl) (by intro w'; go_simp; with_reducible rfl) (by simp only [Act.put, List.setIfInBounds_toArray, List.set_cons_zero, List.set_cons_succ, i64_w, i32_w]; rfl) ?_
            refine pu_ 11 (some 103) (m_ 21 3071) rfl rfl (by kernel_rfl) (fun _ _ _ h => h) (by rfl) (by intro w'; go_simp; with_reducible rfl) (by simp only [Act.put, List.setIfInBounds_toArray, List.set_cons_zero, List.set_cons_succ, i64_w, i32_w]; rfl) ?_
            refine pu_ 12 (some 104) (m_ 21 7167) rfl rfl (by kernel_rfl) (fun _ _ _ h => h) (by rfl) (by intro w'; go_simp; with_reducible rfl) (by simp only [Act.put, List.setIfInBounds_toArray, List.set_cons_zero, List.set_cons_succ, i64_w, i32_w]; rfl) ?_
            refine tk_ 13 (some 105) (m_ 21 15359) rfl rfl (by kernel_rfl) (fun _ _ _ h => h) (by rfl) (by intro w' s0; go_simp; with_reducible rfl) hHeld (by simp only [Act.put, List.setIfInBounds_toArray, List.set_cons_zero, List.set_cons_succ, i64_w, i32_w]; rfl) ?_
            refine one_ (i := 10) (N := some 102) (m_ 21 16383) rfl rfl (by kernel_rfl) (by decide) (fun K hK => ?_)
            refine goes_ Try.func21 (by kernel_rfl) rfl #[.pointer (some ⟨b, 0, none⟩)] (by rfl) rfl rfl (by simp only [List.map_toArray, List.map_cons, List.map_nil]; rfl) ?_
            with_reducible refine (live_passed HL4.out.drew).mono ?_
            rintro e w6 ⟨rfl, rfl⟩
            refine ⟨_, rfl, ?_⟩
            refine hK.out _ _ (z4) (fun hHeld => ?_)
            clear hK K
            refine norm_ (a' := ?_) ?_ ?_
            rotate_left
            · show Act.put _ (some 102) _ = _
              simp only [Act.put, List.setIfInBounds_toArray, List.set_cons_zero, List.set_cons_succ, i64_w, i32_w]
              rfl
            refine pu_ 14 (some 106) (m_ 21 32767) rfl rfl (by kernel_rfl) (fun _ _ _ h => h) (by rfl) (by intro w'; go_simp; with_reducible rfl) (by simp only [Act.put, List.setIfInBounds_toArray, List.set_cons_zero, List.set_cons_succ, i64_w, i32_w]; rfl) ?_
            refine pu_ 15 (some 107) (m_ 21 65535) rfl rfl (by kernel_rfl) (fun _ _ _ h => h) (by rfl) (by intro w'; go_simp; with_reducible rfl) (by simp only [Act.put, List.setIfInBounds_toArray, List.set_cons_zero, List.set_cons_succ, i64_w, i32_w]; rfl) ?_
            refine pu_ 16 (some 108) (m_ 21 131071) rfl rfl (by kernel_rfl) (fun _ _ _ h => h) (by rfl) (by intro w'; go_simp; with_reducible rfl) (by simp only [Act.put, List.setIfInBounds_toArray, List.set_cons_zero, List.set_cons_succ, i64_w, i32_w]; rfl) ?_
            refine pu_ 17 (some 109) (m_ 21 262143) rfl rfl (by kernel_rfl) (fun _ _ _ h => h) (by rfl) (by intro w'; go_simp; with_reducible rfl) (by simp only [Act.put, List.setIfInBounds_toArray, List.set_cons_zero, List.set_cons_succ, i64_w, i32_w]; rfl) ?_
            refine pu_ 18 (some 110) (m_ 21 524287) rfl rfl (by kernel_rfl) (fun _ _ _ h => h) (by rfl) (by intro w'; go_simp; with_reducible rfl) (by simp only [Act.put, List.setIfInBounds_toArray, List.set_cons_zero, List.set_cons_succ, i64_w, i32_w]; rfl) ?_
            refine pu_ 19 (some 111) (m_ 21 1048575) rfl rfl (by kernel_rfl) (fun _ _ _ h => h) (by rfl) (by intro w'; go_simp; with_reducible rfl) (by simp only [Act.put, List.setIfInBounds_toArray, List.set_cons_zero, List.set_cons_succ, i64_w, i32_w]; rfl) ?_
            refine pu_ 20 (some 112) (m_ 21 2097151) rfl rfl (by kernel_rfl) (fun _ _ _ h => h) (by rfl) (by intro w'; go_simp; with_reducible rfl) (by simp only [Act.put, List.setIfInBounds_toArray, List.set_cons_zero, List.set_cons_succ, i64_w, i32_w]; rfl) ?_
            refine done_ (by kernel_rfl) ?_
            clear hHeld z4
            go_wp2
            go_roundw
            case rel => exact ⟨k + 1, s3, C, by omega, by go_num, rfl, HL4.out.drew, HE.out.i, HS4.out, by rw [hbt'.out]; exact hmf.out⟩
            case measure => simp [intOf]; omega
    · have hk2 : k = l.length := by omega
      subst hk2
      have hnl : ¬ (l.length < l.length) := by omega
      have hL' := Lib.hid hL
      clear hL hI hX hm hA
      go_wp2_with (go_at_call 9; (with_reducible refine (alive_any _).mono ?_); rintro e w2 ⟨rfl, hB2⟩; have HL2 := Lib.hid (hL'.out.below hB2); clear hB2)
      go_ret
      exact ⟨rfl, HL2.out.old⟩
theorem ends_row (x : Tox × Int × Int × Int) (v0 v : Value) (l : List Op) (w : World) (h0 : v0 = .agg #[.string x.1.name, .int .i64 x.1.kind, .bool x.1.up, .int .i64 x.1.often, .int .i64 x.1.a, .int .i64 x.1.b, .int .u64 x.2.1, .int .i64 x.2.2.1, .int .i64 x.2.2.2]) (hv : Script w v l) :
    Calls Try.prog 7 #[v0, v] w fun e w' => e = .returned (.bool true) ∧ Below w.heap.size w w' := by
  subst h0
  obtain ⟨⟨tn, tk, tu, tf, ta, tb⟩, seed, room, now⟩ := x
  by_cases he : newE ⟨tn, tk, tu, tf, ta, tb⟩ room = 0
  · cases h : fewB l with
    | false => exact ends_long tn tk tu tf ta tb seed room now v l w hv he h
    | true =>
      by_cases h1 : tk < 4
      · exact ends_low tn tk tu tf ta tb seed room now v l w hv he h h1
      · by_cases h2 : 6 < tk
        · exact ends_high tn tk tu tf ta tb seed room now v l w hv he h h2
        · exact ends_yes tn tk tu tf ta tb seed room now v l w hv he h (by omega) (by omega)
  · exact ends_none tn tk tu tf ta tb seed room now v l w hv he
end Go.Proofs.Ytehpliclknfmoaa.Stage
