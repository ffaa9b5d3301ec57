/- The law ConnNames (chapter 13). Conditions: each text is shorter than 2^47 bytes. -/
import Derived.Test.YtnkgjnmhiedfoaaGreatV26
namespace Go.Proofs.YtnkgjnmhiedfoaaGreat.Conn
open Go.RowKit Mem Tick Cargo Toxic Stage Chain
open Link
set_option maxRecDepth 100000
set_option linter.unusedVariables false
set_option linter.unusedSimpArgs false
variable {w wr w2 w1 : World} {F : Nat → Prop} {b : Nat} {x y : Cn} {M Q : Int}
theorem live_add (h : LiveN w wr b x) (ho : OkN x M Q) (hn : Nm x) (t : Tox) (now : Int) :
    Calls Tryz.prog 11 #[ptr b, t.v, .int .i64 now] wr fun e w2 => e = .returned (.int .i64 (addNE x t)) ∧ LiveN w w2 b (addN x t now) ∧ KeepN wr w2 := by
  have h16 := hn.len16 ho
  obtain ⟨F, hC, hF, hB⟩ := h
  exact (cAdd_any hC ho (by omega) t now).mono fun e w2 ⟨he, hT⟩ => ⟨he, LiveN.turn hC hF hB hT⟩
theorem live_drop (h : LiveN w wr b x) (ho : OkN x M Q) (hM : M ≤ 1000000000) (hn : Nm x) (nm : ByteArray) (now : Int) :
    Calls Tryz.prog 12 #[ptr b, .string nm, .int .i64 now] wr fun e w2 => e = .returned (.int .i64 (dropNE x nm)) ∧ LiveN w w2 b (dropN x nm now) ∧ KeepN wr w2 := by
  have h16 := hn.len16 ho
  obtain ⟨F, hC, hF, hB⟩ := h
  exact (cDrop_any hC ho hM (by omega) hn.subN nm now).mono fun e w2 ⟨he, hT⟩ => ⟨he, LiveN.turn hC hF hB hT⟩
theorem idx_succ {l : List ByteArray} {k : Nat} {m : ByteArray} (h : l[k]? = some m) (s : ByteArray) : (idxN (l.take (k + 1)) s).isSome = ((idxN (l.take k) s).isSome || (m.toList == s.toList)) := by
  unfold idxN
  rw [List.findIdx?_isSome, List.findIdx?_isSome, List.take_add_one, h, List.any_append]
  simp [Bool.beq_eq_decide_eq, eq_comm]
theorem scr0 (w : World) : Script w (.slice none 0 0) [] := ⟨none, 0, rfl, by decide, (fun x hx => nomatch hx), fun h => absurd rfl h⟩
theorem ConnNames_none (sa : Option Addr) (sc : Nat) (L : List Tox) (seed room now : Int) (t0 : ByteArray) (t1 : Int) (t2 : Bool) (t3 t4 t5 : Int) (w : World) (hs : Toxs w (.slice sa L.length sc) L) (h0 : 0 ≤ seed) (h1 : seed < 18446744073709551616) (hr : linkE L room ≠ 0) :
    Calls Tryz.prog 3 #[.agg #[.slice sa L.length sc, .int .u64 seed, .int .i64 room, .int .i64 now], .agg #[.string t0, .int .i64 t1, .bool t2, .int .i64 t3, .int .i64 t4, .int .i64 t5]] w fun e w' => e = .returned (.bool true) ∧ Below w.heap.size w w' := by
  obtain ⟨w0, e0, B0, X0, Y0⟩ : ∃ w0, Hid ((w.alloc (.cells #[.slice sa L.length sc, .int .u64 seed, .int .i64 room, .int .i64 now] 25)).alloc (.cells #[.string t0, .int .i64 t1, .bool t2, .int .i64 t3, .int .i64 t4, .int .i64 t5] 27) = w0) ∧ Hid (Below w.heap.size w w0) ∧ Hid (Blk w0 w.heap.size 25 #[.slice sa L.length sc, .int .u64 seed, .int .i64 room, .int .i64 now]) ∧ Hid (Blk w0 (w.heap.size + 1) 27 #[.string t0, .int .i64 t1, .bool t2, .int .i64 t3, .int .i64 t4, .int .i64 t5]) := ⟨_, Lib.hid rfl, Lib.hid (((Below.refl _ _).alloc (Nat.le_refl _) _).alloc (by simp) _), Lib.hid ((Blk.new w _ _).below ((Below.refl _ _).alloc (Nat.le_refl _) _)), Lib.hid (by have := Blk.new (w.alloc (.cells #[.slice sa L.length sc, .int .u64 seed, .int .i64 room, .int .i64 now] 25)) 27 #[.string t0, .int .i64 t1, .bool t2, .int .i64 t3, .int .i64 t4, .int .i64 t5]; simpa using this)⟩
  have hn := Lib.hid (cNew_bad sa sc L seed room now w0 (hs.below B0.out) h0 h1 hr)
  have te : (linkE L room != 0) = true := by simpa using hr
  clear hs hr
  go_enter Tryz.func3, Tryz.ntmps3
  go_wp2_with fail
  rw [e0.out]
  refine hn.out.mono ?_
  rintro e w1 ⟨rfl, hB⟩
  have hB1 := Lib.hid (bw_below B0.out hB)
  have hw1 := hB.size
  clear hn hB
  go_wp2_with (go_at_call 9; (with_reducible refine (alive_any _).mono ?_); rintro e w9 ⟨rfl, hB9⟩; have hB9' := Lib.hid hB9; clear hB9)
  go_ret
  exact ⟨rfl, bw_below hB1.out hB9'.out⟩
theorem ConnNames_long (sa : Option Addr) (sc : Nat) (L : List Tox) (seed room now : Int) (t0 : ByteArray) (t1 : Int) (t2 : Bool) (t3 t4 t5 : Int) (w : World) (hs : Toxs w (.slice sa L.length sc) L) (h0 : 0 ≤ seed) (h1 : seed < 18446744073709551616) (hr : linkE L room = 0) (hn1 : 100 < t0.size) :
    Calls Tryz.prog 3 #[.agg #[.slice sa L.length sc, .int .u64 seed, .int .i64 room, .int .i64 now], .agg #[.string t0, .int .i64 t1, .bool t2, .int .i64 t3, .int .i64 t4, .int .i64 t5]] w fun e w' => e = .returned (.bool true) ∧ Below w.heap.size w w' := by
  obtain ⟨w0, e0, B0, X0, Y0⟩ : ∃ w0, Hid ((w.alloc (.cells #[.slice sa L.length sc, .int .u64 seed, .int .i64 room, .int .i64 now] 25)).alloc (.cells #[.string t0, .int .i64 t1, .bool t2, .int .i64 t3, .int .i64 t4, .int .i64 t5] 27) = w0) ∧ Hid (Below w.heap.size w w0) ∧ Hid (Blk w0 w.heap.size 25 #[.slice sa L.length sc, .int .u64 seed, .int .i64 room, .int .i64 now]) ∧ Hid (Blk w0 (w.heap.size + 1) 27 #[.string t0, .int .i64 t1, .bool t2, .int .i64 t3, .int .i64 t4, .int .i64 t5]) := ⟨_, Lib.hid rfl, Lib.hid (((Below.refl _ _).alloc (Nat.le_refl _) _).alloc (by simp) _), Lib.hid ((Blk.new w _ _).below ((Below.refl _ _).alloc (Nat.le_refl _) _)), Lib.hid (by have := Blk.new (w.alloc (.cells #[.slice sa L.length sc, .int .u64 seed, .int .i64 room, .int .i64 now] 25)) 27 #[.string t0, .int .i64 t1, .bool t2, .int .i64 t3, .int .i64 t4, .int .i64 t5]; simpa using this)⟩
  have hl8 : L.length ≤ 8 := (linkE_0 hr).2.1
  have hn := Lib.hid (cNew_ok sa sc L seed room now w0 (hs.below B0.out) h0 h1 hr)
  have hmx : L.length ≤ 9223372036854775807 := by omega
  have hfew : fewK L.length [] = true := by unfold fewK; rw [decide_eq_true (show L.length ≤ 12 by omega)]; rfl
  have tl : decide ((100 : Int) < (t0.size : Int)) = true := decide_eq_true (by omega)
  clear hn1
  clear hr hs hl8
  go_enter Tryz.func3, Tryz.ntmps3
  go_wp2_with fail
  rw [e0.out]
  refine hn.out.mono ?_
  rintro e w1 ⟨c, rfl, hL⟩
  have H1 := Lib.hid hL
  have x0 := (X0.out.below hL.old).cell 0
  have x1 := (X0.out.below hL.old).cell 1
  have x2 := (X0.out.below hL.old).cell 2
  have x3 := (X0.out.below hL.old).cell 3
  have y0 : w1.cell? ⟨w.heap.size + 1, 0, none⟩ = some (.string t0) := ((Y0.out.below hL.old).cell 0).trans rfl
  have xb := (X0.out.below hL.old).lt
  have yb := (Y0.out.below hL.old).lt
  clear hn hL
  go_wp2_with fail
  refine (few_any sa L.length sc seed room now _ [] _ hmx (scr0 _)).mono ?_
  rintro e w2 ⟨rfl, hB⟩
  rw [hfew]
  have H2 := Lib.hid (H1.out.below hB)
  have y0' : w2.cell? ⟨w.heap.size + 1, 0, none⟩ = some (.string t0) := bcells hB y0
  clear hB x0 x1 x2 x3 y0 H1 hfew
  go_wp2_with (go_at_call 9; (with_reducible refine (alive_any _).mono ?_); rintro e w9 ⟨rfl, hB9⟩; have hB9' := Lib.hid hB9; clear hB9)
  go_ret
  exact ⟨rfl, bw_below B0.out (bw_below H2.out.old hB9'.out)⟩
set_option maxHeartbeats 2000000 in
theorem ConnNames_yes (sa : Option Addr) (sc : Nat) (L : List Tox) (seed room now : Int) (t0 : ByteArray) (t1 : Int) (t2 : Bool) (t3 t4 t5 : Int) (w : World) (hs : Toxs w (.slice sa L.length sc) L) (h0 : 0 ≤ seed) (h1 : seed < 18446744073709551616) (hr : linkE L room = 0) (hn1 : t0.size ≤ 100) :
    Calls Tryz.prog 3 #[.agg #[.slice sa L.length sc, .int .u64 seed, .int .i64 room, .int .i64 now], .agg #[.string t0, .int .i64 t1, .bool t2, .int .i64 t3, .int .i64 t4, .int .i64 t5]] w fun e w' => e = .returned (.bool true) ∧ Below w.heap.size w w' := by
  obtain ⟨w0, e0, B0, X0, Y0⟩ : ∃ w0, Hid ((w.alloc (.cells #[.slice sa L.length sc, .int .u64 seed, .int .i64 room, .int .i64 now] 25)).alloc (.cells #[.string t0, .int .i64 t1, .bool t2, .int .i64 t3, .int .i64 t4, .int .i64 t5] 27) = w0) ∧ Hid (Below w.heap.size w w0) ∧ Hid (Blk w0 w.heap.size 25 #[.slice sa L.length sc, .int .u64 seed, .int .i64 room, .int .i64 now]) ∧ Hid (Blk w0 (w.heap.size + 1) 27 #[.string t0, .int .i64 t1, .bool t2, .int .i64 t3, .int .i64 t4, .int .i64 t5]) := ⟨_, Lib.hid rfl, Lib.hid (((Below.refl _ _).alloc (Nat.le_refl _) _).alloc (by simp) _), Lib.hid ((Blk.new w _ _).below ((Below.refl _ _).alloc (Nat.le_refl _) _)), Lib.hid (by have := Blk.new (w.alloc (.cells #[.slice sa L.length sc, .int .u64 seed, .int .i64 room, .int .i64 now] 25)) 27 #[.string t0, .int .i64 t1, .bool t2, .int .i64 t3, .int .i64 t4, .int .i64 t5]; simpa using this)⟩
  have hl8 : L.length ≤ 8 := (linkE_0 hr).2.1
  have hn := Lib.hid (cNew_ok sa sc L seed room now w0 (hs.below B0.out) h0 h1 hr)
  have hmx : L.length ≤ 9223372036854775807 := by omega
  have hfew : fewK L.length [] = true := by unfold fewK; rw [decide_eq_true (show L.length ≤ 12 by omega)]; rfl
  have tl : decide ((100 : Int) < (t0.size : Int)) = false := decide_eq_false (by omega)
  have hok := Lib.hid (okT_conn0 (now := now) hr (seedW_bd seed 0).1 (seedW_bd seed 0).2 (seedW_bd seed 1).1 (seedW_bd seed 1).2 (scr ⟨t0, t1, t2, t3, t4, t5⟩))
  have hno := Lib.hid (fun hE => add_no (x := conn0 L (seedW seed 0) (seedW seed 1) room now) (t := ⟨t0, t1, t2, t3, t4, t5⟩) hE)
  have hsay := Lib.hid (fun hE => nm_says (x := conn0 L (seedW seed 0) (seedW seed 1) room now) (t := ⟨t0, t1, t2, t3, t4, t5⟩) hn1 hok.out hE)
  generalize conn0 L (seedW seed 0) (seedW seed 1) room now = N0 at *
  have h16 := hok.out.nm.len16 hok.out.ok
  have hh16 := Lib.hid h16
  clear hn1 h16
  clear hr hs hl8
  go_enter Tryz.func3, Tryz.ntmps3
  go_wp2_with fail
  rw [e0.out]
  refine hn.out.mono ?_
  rintro e w1 ⟨c, rfl, hL⟩
  have H1 := Lib.hid hL
  have x0 := (X0.out.below hL.old).cell 0
  have x1 := (X0.out.below hL.old).cell 1
  have x2 := (X0.out.below hL.old).cell 2
  have x3 := (X0.out.below hL.old).cell 3
  have y0 : w1.cell? ⟨w.heap.size + 1, 0, none⟩ = some (.string t0) := ((Y0.out.below hL.old).cell 0).trans rfl
  have xb := (X0.out.below hL.old).lt
  have yb := (Y0.out.below hL.old).lt
  clear hn hL
  go_wp2_with fail
  refine (few_any sa L.length sc seed room now _ [] _ hmx (scr0 _)).mono ?_
  rintro e w2 ⟨rfl, hB⟩
  rw [hfew]
  have H2 := Lib.hid (H1.out.below hB)
  have y0' : w2.cell? ⟨w.heap.size + 1, 0, none⟩ = some (.string t0) := bcells hB y0
  clear hB x0 x1 x2 x3 y0 H1 hfew
  have hnm := Lib.hid (live_names H2.out (by have := hh16.out; omega))
  go_wp2_with fail
  refine hnm.out.mono ?_
  rintro e w3 ⟨A, cp, rfl, hNV, hL, hB⟩
  have H3 := Lib.hid hL
  obtain ⟨aa, cc, he, hA⟩ := hNV.sr
  injection he with e1 e2 e3
  subst e1 e3
  have Y3 := Lib.hid (Y0.out.below (hL.old))
  have y3 : w3.cell? ⟨w.heap.size + 1, 0, none⟩ = some (.string t0) := (Y3.out.cell 0).trans rfl
  have hle16 := hh16.out
  clear hnm hNV hL hB e2 H2 y0'
  go_wp2
  go_loopw [7, 50] (fun tv iv wr => ∃ k : Nat, k ≤ N0.names.length ∧ iv = .int .i64 k ∧ tv = .bool (idxN (N0.names.take k) t0).isSome ∧ wr = w3) (fun _ iv _ => N0.names.length - (intOf iv).toNat)
  case atStart => exact ⟨0, by omega, rfl, rfl, rfl⟩
  case round =>
    obtain ⟨k, hk, rfl, rfl, rfl⟩ := hrel
    by_cases hlt : k < N0.names.length
    · obtain ⟨g, o, rfl, hc⟩ := hA (by intro h; rw [h] at hlt; simp at hlt)
      have hx : N0.names[k]? = some N0.names[k] := List.getElem?_eq_getElem hlt
      have hck := hc k _ hx
      have hsu := Lib.hid (idx_succ hx t0)
      generalize N0.names[k] = m at *
      generalize hth : (idxN (N0.names.take k) t0).isSome = th at *
      have hsu' := hsu
      clear hc hx hA hth hsu
      cases th with
      | true =>
        go_wp2
        go_roundw
        case rel => exact ⟨k + 1, by omega, by go_num, by rw [hsu'.out]; rfl, trivial⟩
        case measure => simp [intOf]; omega
      | false =>
        go_wp2
        go_roundw
        case rel => exact ⟨k + 1, by omega, by go_num, by rw [hsu'.out]; simp, trivial⟩
        case measure => simp [intOf]; omega
    · have hk2 : k = N0.names.length := by omega
      subst hk2
      have hnl : ¬ (N0.names.length < N0.names.length) := by omega
      rw [List.take_length]
      have z1 : wr.cell? ⟨w.heap.size + 1, 1, none⟩ = some (.int .i64 t1) := (Y3.out.cell 1).trans rfl
      have z2 : wr.cell? ⟨w.heap.size + 1, 2, none⟩ = some (.bool t2) := (Y3.out.cell 2).trans rfl
      have z3 : wr.cell? ⟨w.heap.size + 1, 3, none⟩ = some (.int .i64 t3) := (Y3.out.cell 3).trans rfl
      have z4 : wr.cell? ⟨w.heap.size + 1, 4, none⟩ = some (.int .i64 t4) := (Y3.out.cell 4).trans rfl
      have z5 : wr.cell? ⟨w.heap.size + 1, 5, none⟩ = some (.int .i64 t5) := (Y3.out.cell 5).trans rfl
      have yb3 := Y3.out.lt
      obtain ⟨W, hW⟩ : ∃ W, W = wr.alloc (.cells #[.string t0, .int .i64 t1, .bool (!t2), .int .i64 t3, .int .i64 t4, .int .i64 t5] 27) := ⟨_, rfl⟩
      have hU := Lib.hid (show Blk W wr.heap.size 27 #[.string t0, .int .i64 t1, .bool (!t2), .int .i64 t3, .int .i64 t4, .int .i64 t5] from by rw [hW]; exact Blk.new wr _ _)
      have HW := Lib.hid (show LiveN w0 W c N0 from by rw [hW]; exact H3.out.below ((Below.refl _ _).alloc (Nat.le_refl _) _))
      have YW := Lib.hid (show Blk W (w.heap.size + 1) 27 #[.string t0, .int .i64 t1, .bool t2, .int .i64 t3, .int .i64 t4, .int .i64 t5] from by rw [hW]; exact Y3.out.below ((Below.refl _ _).alloc (Nat.le_refl _) _))
      clear hA
      go_wp2_with fail
      rw [← hW]
      clear hW
      refine (live_add HW.out hok.out.ok hok.out.nm ⟨t0, t1, t2, t3, t4, t5⟩ 0).mono ?_
      rintro e w4 ⟨rfl, hL4, hK4⟩
      have H4 := Lib.hid (show LiveN w0 w4 c (S1 N0 ⟨t0, t1, t2, t3, t4, t5⟩) from hL4)
      have U4 := Lib.hid (hK4 _ _ _ hU.out (by decide))
      have Y4 := Lib.hid (hK4 _ _ _ YW.out (by decide))
      clear hL4 hK4 HW hU YW z1 z2 z3 z4 z5 y3
      generalize hth : (idxN N0.names t0).isSome = th at *
      have hth' := Lib.hid hth
      clear hth
      by_cases hE : addNE N0 ⟨t0, t1, t2, t3, t4, t5⟩ = 0
      · have hS := Lib.hid (hsay.out hE)
        have hth2 : th = false := by have e1 := hS.out.no; have e2 := hth'.out; exact e2.symm.trans e1
        subst hth2
        rw [hE]
        clear hno hsay hE hok
        have u0 : w4.cell? ⟨wr.heap.size, 0, none⟩ = some (.string t0) := (U4.out.cell 0).trans rfl
        have u1 : w4.cell? ⟨wr.heap.size, 1, none⟩ = some (.int .i64 t1) := (U4.out.cell 1).trans rfl
        have u2 : w4.cell? ⟨wr.heap.size, 2, none⟩ = some (.bool (!t2)) := (U4.out.cell 2).trans rfl
        have u3 : w4.cell? ⟨wr.heap.size, 3, none⟩ = some (.int .i64 t3) := (U4.out.cell 3).trans rfl
        have u4 : w4.cell? ⟨wr.heap.size, 4, none⟩ = some (.int .i64 t4) := (U4.out.cell 4).trans rfl
        have u5 : w4.cell? ⟨wr.heap.size, 5, none⟩ = some (.int .i64 t5) := (U4.out.cell 5).trans rfl
        have ub := U4.out.lt
        go_wp2_with fail
        refine (live_add H4.out hS.out.ok1.1 hS.out.ok1.2 (flip ⟨t0, t1, t2, t3, t4, t5⟩) 0).mono ?_
        rintro e w5 ⟨rfl, hL5, hK5⟩
        rw [hS.out.g]
        rw [hS.out.g2] at hL5
        have H5 := Lib.hid hL5
        have U5 := Lib.hid (hK5 _ _ _ U4.out (by decide))
        have Y5 := Lib.hid (hK5 _ _ _ Y4.out (by decide))
        have hS16 := hS.out.ok1.2.len16 hS.out.ok1.1
        clear hL5 hK5 H4 U4 Y4 u0 u1 u2 u3 u4 u5 ub
        go_wp2_with fail
        refine (live_names H5.out (by omega)).mono ?_
        rintro e w6 ⟨A6, c6, rfl, -, hL6, hB6⟩
        have H6 := Lib.hid hL6
        have U6 := Lib.hid (U5.out.below hB6)
        have Y6 := Lib.hid (Y5.out.below hB6)
        clear hL6 hB6 H5 U5 Y5
        have y6 : w6.cell? ⟨w.heap.size + 1, 0, none⟩ = some (.string t0) := (Y6.out.cell 0).trans rfl
        have yb6 := Y6.out.lt
        go_wp2_with fail
        refine (live_drop H6.out hS.out.ok1.1 (by decide) hS.out.ok1.2 t0 0).mono ?_
        rintro e w7 ⟨rfl, hL7, hK7⟩
        rw [show dropNE (S1 N0 ⟨t0, t1, t2, t3, t4, t5⟩) t0 = 0 from hS.out.h]
        have H7 := Lib.hid (show LiveN w0 w7 c (S3 N0 ⟨t0, t1, t2, t3, t4, t5⟩) from hL7)
        have U7 := Lib.hid (hK7 _ _ _ U6.out (by decide))
        have Y7 := Lib.hid (hK7 _ _ _ Y6.out (by decide))
        have y7 : w7.cell? ⟨w.heap.size + 1, 0, none⟩ = some (.string t0) := (Y7.out.cell 0).trans rfl
        have yb7 := Y7.out.lt
        clear hL7 hK7 H6 U6 Y6 y6 yb6
        go_wp2_with fail
        refine (live_drop H7.out hS.out.ok3.1 (by decide) hS.out.ok3.2 t0 0).mono ?_
        rintro e w8 ⟨rfl, hL8, hK8⟩
        rw [show dropNE (S3 N0 ⟨t0, t1, t2, t3, t4, t5⟩) t0 = 142 from hS.out.i]
        rw [show dropN (S3 N0 ⟨t0, t1, t2, t3, t4, t5⟩) t0 0 = S3 N0 ⟨t0, t1, t2, t3, t4, t5⟩ from hS.out.i2] at hL8
        have H8 := Lib.hid hL8
        have U8 := Lib.hid (hK8 _ _ _ U7.out (by decide))
        have v0 : w8.cell? ⟨wr.heap.size, 0, none⟩ = some (.string t0) := (U8.out.cell 0).trans rfl
        have v1 : w8.cell? ⟨wr.heap.size, 1, none⟩ = some (.int .i64 t1) := (U8.out.cell 1).trans rfl
        have v2 : w8.cell? ⟨wr.heap.size, 2, none⟩ = some (.bool (!t2)) := (U8.out.cell 2).trans rfl
        have v3 : w8.cell? ⟨wr.heap.size, 3, none⟩ = some (.int .i64 t3) := (U8.out.cell 3).trans rfl
        have v4 : w8.cell? ⟨wr.heap.size, 4, none⟩ = some (.int .i64 t4) := (U8.out.cell 4).trans rfl
        have v5 : w8.cell? ⟨wr.heap.size, 5, none⟩ = some (.int .i64 t5) := (U8.out.cell 5).trans rfl
        have vb := U8.out.lt
        clear hL8 hK8 H7 U7 Y7 y7 yb7
        go_wp2_with fail
        refine (live_add H8.out hS.out.ok3.1 hS.out.ok3.2 (flip ⟨t0, t1, t2, t3, t4, t5⟩) 0).mono ?_
        rintro e wA ⟨rfl, hLA, -⟩
        have HA := Lib.hid (show LiveN w0 wA c (S5 N0 ⟨t0, t1, t2, t3, t4, t5⟩) from hLA)
        have hA16 := hS.out.ok5.2.len16 hS.out.ok5.1
        clear hLA H8 U8 v0 v1 v2 v3 v4 v5 vb
        rcases hS.out.j with ⟨hj, hlen⟩ | hj
        · rw [hj]
          clear hj
          have hlen' := Lib.hid hlen
          clear hlen
          go_wp2_with (first
            | (go_at_call 9; (with_reducible refine (alive_any _).mono ?_); rintro e w9 ⟨rfl, hB9⟩; have hB9' := Lib.hid hB9; clear hB9)
            | (go_at_call 10; (with_reducible refine (live_names (HA.out.below hB9'.out) (by omega)).mono ?_); rintro e wB ⟨AB, cB, rfl, -, hLB, -⟩; rw [hlen'.out]; have HB := Lib.hid hLB; clear hLB))
          go_ret
          exact ⟨by simp, bw_below B0.out HB.out.old⟩
        · rw [hj]
          clear hj
          go_wp2_with (go_at_call 9; (with_reducible refine (alive_any _).mono ?_); rintro e w9 ⟨rfl, hB9⟩; have hB9' := Lib.hid hB9; clear hB9)
          go_ret
          exact ⟨by simp, bw_below B0.out (bw_below HA.out.old hB9'.out)⟩
      · have te : (addNE N0 ⟨t0, t1, t2, t3, t4, t5⟩ != 0) = true := by simpa using hE
        have hq := Lib.hid (hno.out hE)
        clear hno hsay hok
        generalize addNE N0 ⟨t0, t1, t2, t3, t4, t5⟩ = E at *
        cases th with
        | false =>
          go_wp2_with (go_at_call 9; (with_reducible refine (alive_any _).mono ?_); rintro e w9 ⟨rfl, hB9⟩; have hB9' := Lib.hid hB9; clear hB9)
          go_ret
          exact ⟨by simp, bw_below B0.out (bw_below H4.out.old hB9'.out)⟩
        | true =>
          rcases hq.out rfl with he | ⟨he1, he2⟩
          · subst he
            go_wp2_with (go_at_call 9; (with_reducible refine (alive_any _).mono ?_); rintro e w9 ⟨rfl, hB9⟩; have hB9' := Lib.hid hB9; clear hB9)
            go_ret
            exact ⟨by simp, bw_below B0.out (bw_below H4.out.old hB9'.out)⟩
          · have d0 : (E == 141) = false := by simp; omega
            have d1 : decide (90 ≤ E) = true := decide_eq_true he1
            have d2 : decide (E ≤ 92) = true := decide_eq_true he2
            go_wp2_with (go_at_call 9; (with_reducible refine (alive_any _).mono ?_); rintro e w9 ⟨rfl, hB9⟩; have hB9' := Lib.hid hB9; clear hB9)
            go_ret
            exact ⟨by simp, bw_below B0.out (bw_below H4.out.old hB9'.out)⟩
theorem ConnNames_any (sv : Value) (L : List Tox) (seed room now : Int) (t : Tox) (w : World) (hs : Seats w sv L seed room now) :
    Calls Tryz.prog 3 #[sv, t.v] w fun e w' => e = .returned (.bool true) ∧ Below w.heap.size w w' := by
  obtain ⟨sa, sc, rfl, hs, h0, h1⟩ := hs
  obtain ⟨t0, t1, t2, t3, t4, t5⟩ := t
  by_cases hr : linkE L room = 0
  · by_cases hn : t0.size ≤ 100
    · exact ConnNames_yes sa sc L seed room now t0 t1 t2 t3 t4 t5 w hs h0 h1 hr hn
    · exact ConnNames_long sa sc L seed room now t0 t1 t2 t3 t4 t5 w hs h0 h1 hr (by omega)
  · exact ConnNames_none sa sc L seed room now t0 t1 t2 t3 t4 t5 w hs h0 h1 hr
end Go.Proofs.YtnkgjnmhiedfoaaGreat.Conn
