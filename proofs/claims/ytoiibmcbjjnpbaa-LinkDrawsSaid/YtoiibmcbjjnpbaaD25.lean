/- The law LinkDraws (chapter 12). Conditions: none. -/
import Derived.Test.YtoiibmcbjjnpbaaD24
namespace Go.Proofs.Ytoiibmcbjjnpbaa.Link
open Go.RowKit Mem Tick Cargo Toxic Stage Chain
open Go.Proofs.YtoiibmcbjjnpbaaW.PrintLast Pu
set_option maxRecDepth 100000
set_option linter.unusedVariables false
set_option linter.unusedSimpArgs false
theorem ofWay_get {L : List Tox} {up : Bool} {k : Nat} {t : Tox} (hx : L[k]? = some t) (hu : t.up = up) : (ofWay L up)[(ofWay (L.take k) up).length]? = some t := by
  have hlt := (List.getElem?_eq_some_iff.1 hx).1
  have e : L = L.take k ++ t :: L.drop (k + 1) := by
    conv => lhs; rw [← List.take_append_drop k L]
    rw [List.drop_eq_getElem_cons hlt, (List.getElem?_eq_some_iff.1 hx).2]
  have e2 : ofWay L up = ofWay (L.take k) up ++ t :: ofWay (L.drop (k + 1)) up := by
    conv => lhs; rw [e]
    unfold ofWay
    rw [List.filter_append, List.filter_cons, if_pos (by simpa using hu)]
  rw [e2, List.getElem?_append_right (Nat.le_refl _), Nat.sub_self]
  rfl
theorem ofWay_next {L : List Tox} {up : Bool} {k : Nat} {t : Tox} (hx : L[k]? = some t) : ofWay (L.take (k + 1)) up = if t.up = up then ofWay (L.take k) up ++ [t] else ofWay (L.take k) up := by
  rw [List.take_add_one, hx]; exact ofWay_snoc (L.take k) t up
theorem draws_at {L : List Tox} {up : Bool} {room now : Int} {x : Lk} (h : NewI L up room now x) :
    x.names.length = (ofWay L up).length ∧ x.c.l.length - 2 = (ofWay L up).length ∧ ∀ (i : Nat) (t : Tox), (ofWay L up)[i]? = some t → x.names[i]? = some t.name ∧ ∃ d, (toxs x.c)[i]? = some d ∧ DrR t d := by
  obtain ⟨ds, hl, hd⟩ := h.l
  have hdl : ds.length = (ofWay L up).length := by have := hd.1; simpa using this
  refine ⟨by rw [h.names, List.length_map], by rw [hl]; simp [hdl], fun i t ht => ?_⟩
  have hlt := (List.getElem?_eq_some_iff.1 ht).1
  refine ⟨by rw [h.names, List.getElem?_map, ht]; rfl, ?_⟩
  have hp : ds[i]? = some ds[i] := List.getElem?_eq_getElem (by omega)
  have hg : x.c.l[i + 1]? = some (fresh room now ds[i]) := by
    rw [hl, List.getElem?_map, List.cons_append, List.getElem?_cons_succ, List.getElem?_append_left (by omega), hp]
    rfl
  have hx := toxs_get hg (by rw [hl]; simp; omega)
  refine ⟨_, hx, hd.2 i t _ ht ?_⟩
  rw [List.getElem?_map, hp]
  show some ds[i].1 = some (newS ds[i].1 ds[i].2 room now).t
  unfold newS
  split <;> rfl
theorem script_nil (w : World) : Script w (.slice none 0 0) [] := ⟨none, 0, rfl, by decide, fun x hx => (by simp at hx), fun h => absurd rfl h⟩
theorem neq_tox (w : World) (s0 s1 : ByteArray) (k0 k1 : Int) (u0 u1 : Bool) (o0 o1 a0 a1 b0 b1 : Int) :
    (binOp .neq 29 (.agg #[.string s0, .int .i64 k0, .bool u0, .int .i64 o0, .int .i64 a0, .int .i64 b0]) (.agg #[.string s1, .int .i64 k1, .bool u1, .int .i64 o1, .int .i64 a1, .int .i64 b1])).run Try.prog w =
      .ok (.bool (!sameT ⟨s0, k0, u0, o0, a0, b0⟩ ⟨s1, k1, u1, o1, a1, b1⟩)) w := by
  rw [run_neq_struct, eq_tox 9998]
  rfl
theorem FreshN.bel {w w' : World} {v : Value} {l : List ByteArray} (h : FreshN w w' v l) : Below w.heap.size w w' := h.2.2
theorem same_self (t : Tox) : sameT t t = true := by unfold sameT; simp
theorem dr_b {t d : Tox} (h : DrR t d) : (sameT d t = false → sameT d noTox = true) ∧ (t.often = 100 → sameT d t = true) ∧ (t.often = 0 → sameT d noTox = true) := by
  obtain ⟨h1, h2, h3⟩ := h
  refine ⟨fun e => ?_, fun e => by rw [h2 e]; exact same_self t, fun e => by rw [h3 e]; exact same_self noTox⟩
  rcases h1 with rfl | rfl
  · rw [same_self] at e; cases e
  · exact same_self noTox
theorem LinkDraws_none (sa : Option Addr) (sc : Nat) (L : List Tox) (up : Bool) (seed room : Int) (w : World) (hs : Toxs w (.slice sa L.length sc) L) (h0 : 0 ≤ seed) (h1 : seed < 18446744073709551616) (hr : linkE L room ≠ 0) :
    Calls Try.prog 4 #[.agg #[.slice sa L.length sc, .bool up, .int .u64 seed, .int .i64 room]] w fun e w' => e = .returned (.bool true) ∧ Below w.heap.size w w' := by
  obtain ⟨w0, e0, B0, X0⟩ : ∃ w0, Hid (w.alloc (.cells #[.slice sa L.length sc, .bool up, .int .u64 seed, .int .i64 room] 25) = w0) ∧ Hid (Below w.heap.size w w0) ∧ Hid (Blk w0 w.heap.size 25 #[.slice sa L.length sc, .bool up, .int .u64 seed, .int .i64 room]) := ⟨_, Lib.hid rfl, Lib.hid ((Below.refl _ _).alloc (Nat.le_refl _) _), Lib.hid (Blk.new w _ _)⟩
  have hn := Lib.hid (bad_new up seed room 0 (hs.below B0.out) hr)
  have te : (linkE L room != 0) = true := by simpa using hr
  clear hs hr
  go_enter Try.func4, Try.ntmps4
  go_wp2_with fail
  rw [e0.out]
  refine hn.out.mono ?_
  rintro e w1 ⟨rfl, hB⟩
  have hB1 := Lib.hid (bw_below B0.out hB)
  clear hn hB
  go_wp2_with (go_at_call 6; (with_reducible refine (alive_any _).mono ?_); rintro e w2 ⟨rfl, hB2⟩; have hB2' := Lib.hid hB2; clear hB2)
  go_ret
  exact ⟨rfl, bw_below hB1.out hB2'.out⟩
set_option maxHeartbeats 2000000 in
theorem LinkDraws_yes (sa : Option Addr) (sc : Nat) (L : List Tox) (up : Bool) (seed room : Int) (w : World) (hs : Toxs w (.slice sa L.length sc) L) (h0 : 0 ≤ seed) (h1 : seed < 18446744073709551616) (hr : linkE L room = 0) :
    Calls Try.prog 4 #[.agg #[.slice sa L.length sc, .bool up, .int .u64 seed, .int .i64 room]] w fun e w' => e = .returned (.bool true) ∧ Below w.heap.size w w' := by
  obtain ⟨w0, e0, B0, X0⟩ : ∃ w0, Hid (w.alloc (.cells #[.slice sa L.length sc, .bool up, .int .u64 seed, .int .i64 room] 25) = w0) ∧ Hid (Below w.heap.size w w0) ∧ Hid (Blk w0 w.heap.size 25 #[.slice sa L.length sc, .bool up, .int .u64 seed, .int .i64 room]) := ⟨_, Lib.hid rfl, Lib.hid ((Below.refl _ _).alloc (Nat.le_refl _) _), Lib.hid (Blk.new w _ _)⟩
  have hn := Lib.hid (live_new up seed room 0 (hs.below B0.out) hr h0 h1 (Below.refl w0.heap.size w0))
  have h8 := (linkE_0 hr).2.1
  have hmx : L.length ≤ 9223372036854775807 := by omega
  have hf' := Lib.hid (show fewK L.length [] = true by simp [fewK, bytesOf]; omega)
  have hs' := Lib.hid (hs.below B0.out)
  have hok := (okJ_linkN L up seed room 0 hr h0 h1 []).ok
  have hlt := Lib.hid (And.intro hok.c.two hok.c.ten)
  have hdr := Lib.hid (draws_at (newI_linkN L up seed room 0 hr))
  have hnl : (linkN L up seed room 0).names.length ≤ 1000 := by have := hok.n; have := hok.c.ten; omega
  generalize hK0 : linkN L up seed room 0 = K0 at *
  clear hr hs hK0 hok
  go_enter Try.func4, Try.ntmps4
  go_wp2_with fail
  rw [e0.out]
  refine hn.out.mono ?_
  rintro e w1 ⟨c, rfl, hL⟩
  have H1 := Lib.hid hL
  have x0 := (X0.out.below hL.old).cell 0
  have x1 := (X0.out.below hL.old).cell 1
  have x2 := (X0.out.below hL.old).cell 2
  have x3 := (X0.out.below hL.old).cell 3
  have xb := (X0.out.below hL.old).lt
  clear hn hL
  go_wp2_with fail
  refine (few_any sa L.length sc up seed room _ [] _ hmx (script_nil _)).mono ?_
  rintro e w2 ⟨rfl, hB⟩
  rw [hf'.out]
  have H2 := Lib.hid (H1.out.below hB)
  clear hB H1 x0 x1 x2 x3 xb
  have X2 := Lib.hid (X0.out.below H2.out.old)
  obtain ⟨F, hC, hF, hBL⟩ := H2.out
  have hB2 := Lib.hid (show Below w.heap.size w w2.drew from (bw_below B0.out hBL).drew)
  have hnm := Lib.hid (kNames_any (w := w2.drew) hC.drew hnl)
  obtain ⟨G, q, D, v, hG⟩ := hC
  have k0 : w2.cell? ⟨c, 0, none⟩ = some (ptr q) := (hG.cell 0).trans rfl
  have k0' : w2.drew.cell? ⟨c, 0, none⟩ = some (ptr q) := k0
  have hCH := Lib.hid (hG.2.1.drew)
  clear hF hBL hG hnl
  go_wp2
  refine start_ (n := 9) (S := fun w' => w'.cell? ⟨c, 0, none⟩ = some (ptr q)) (ds := []) (m_ 9 0) (by kernel_rfl) rfl (by kernel_rfl) (k0') (fun hHeld => ?_)
  refine pu_ 0 (some 34) (m_ 9 1) rfl rfl (by kernel_rfl) (fun _ _ _ h => h) (by rfl) (by intro w'; go_simp; with_reducible rfl) (by simp only [Act.put, List.setIfInBounds_toArray, List.set_cons_zero, List.set_cons_succ, i64_w, i32_w]; rfl) ?_
  refine pu_ 2 (some 36) (m_ 9 5) rfl rfl (by kernel_rfl) (fun _ _ _ h => h) (by rfl) (by intro w'; go_simp; with_reducible rfl) (by simp only [Act.put, List.setIfInBounds_toArray, List.set_cons_zero, List.set_cons_succ, i64_w, i32_w]; rfl) ?_
  refine pu_ 3 (some 37) (m_ 9 13) rfl rfl (by kernel_rfl) (fun _ _ _ h => h) (by rfl) (by intro w'; go_simp; with_reducible rfl) (by simp only [Act.put, List.setIfInBounds_toArray, List.set_cons_zero, List.set_cons_succ, i64_w, i32_w]; rfl) ?_
  refine pu_ 4 (some 38) (m_ 9 29) rfl rfl (by kernel_rfl) (fun _ _ _ h => h) (by rfl) (by intro w'; go_simp; with_reducible rfl) (by simp only [Act.put, List.setIfInBounds_toArray, List.set_cons_zero, List.set_cons_succ, i64_w, i32_w]; rfl) ?_
  refine tk_ 5 (some 39) (m_ 9 61) rfl rfl (by kernel_rfl) (fun _ _ _ h => h) (by rfl) (by intro w' s0; go_simp; with_reducible rfl) hHeld (by simp only [Act.put, List.setIfInBounds_toArray, List.set_cons_zero, List.set_cons_succ, i64_w, i32_w]; rfl) ?_
  refine one_ (i := 1) (N := some 35) (m_ 9 63) rfl rfl (by kernel_rfl) (by decide) (fun K hK => ?_)
  refine goes_ Try.func12 (by kernel_rfl) rfl #[ptr c] (by rfl) rfl rfl (by simp only [List.map_toArray, List.map_cons, List.map_nil]; rfl) ?_
  with_reducible refine (hnm.out).mono ?_
  rintro e w3 ⟨nv, rfl, hFN⟩
  have HFN := Lib.hid hFN
  have j0 := bcells hFN.2.2 k0'
  clear hFN
  refine ⟨_, rfl, ?_⟩
  refine hK.out _ _ (j0) (fun hHeld => ?_)
  clear hK K
  refine norm_ (a' := ?_) ?_ ?_
  rotate_left
  · show Act.put _ (some 35) _ = _
    simp only [Act.put, List.setIfInBounds_toArray, List.set_cons_zero, List.set_cons_succ, i64_w, i32_w]
    rfl
  refine one_ (i := 6) (N := some 40) (m_ 9 127) rfl rfl (by kernel_rfl) (by decide) (fun K hK => ?_)
  refine goes_ Try.func13 (by kernel_rfl) rfl #[ptr q] (by rfl) rfl rfl (by simp only [List.map_toArray, List.map_cons, List.map_nil]; rfl) ?_
  with_reducible refine ((cToxics_any (hCH.out.below HFN.out.bel) hlt.out.1 hlt.out.2)).mono ?_
  rintro e w4 ⟨tA, tcp, rfl, hTR, hTn, hTB⟩
  have HTR := Lib.hid (And.intro hTR hTB)
  have i0 := bcells hTB j0
  clear hTR hTn hTB
  refine ⟨_, rfl, ?_⟩
  refine hK.out _ _ (i0) (fun hHeld => ?_)
  clear hK K
  refine norm_ (a' := ?_) ?_ ?_
  rotate_left
  · show Act.put _ (some 40) _ = _
    simp only [Act.put, List.setIfInBounds_toArray, List.set_cons_zero, List.set_cons_succ, i64_w, i32_w]
    rfl
  refine pu_ 7 (some 5) (m_ 9 255) rfl rfl (by kernel_rfl) (fun _ _ _ h => h) (by rfl) (by intro w'; go_simp; with_reducible rfl) (by simp only [Act.put, List.setIfInBounds_toArray, List.set_cons_zero, List.set_cons_succ, i64_w, i32_w]; rfl) ?_
  refine pu_ 8 (some 6) (m_ 9 511) rfl rfl (by kernel_rfl) (fun _ _ _ h => h) (by rfl) (by intro w'; go_simp; with_reducible rfl) (by simp only [Act.put, List.setIfInBounds_toArray, List.set_cons_zero, List.set_cons_succ, i64_w, i32_w]; rfl) ?_
  refine done_ (by kernel_rfl) ?_
  have HB4 := Lib.hid (show Below w0.heap.size w0 w4 from bw_below (bw_below (show Below w0.heap.size w0 w2.drew from H2.out.old.drew) HFN.out.bel) HTR.out.2)
  have X4 := Lib.hid (((X2.out.below (show Below w2.heap.size w2 w2.drew from (Below.refl _ _).drew)).below HFN.out.bel).below HTR.out.2)
  obtain ⟨nA, ncp, hnv, hNC⟩ := HFN.out.1.sr
  subst hnv
  have HNC := Lib.hid (show K0.names ≠ [] → ∃ g o, nA = some ⟨g, o, none⟩ ∧ ∀ j x, K0.names[j]? = some x → w4.cell? ⟨g, o + j, none⟩ = some (.string x) from fun hne => by
    obtain ⟨g, o, e, hc⟩ := hNC hne
    exact ⟨g, o, e, fun j x hx => bcells HTR.out.2 (hc j x hx)⟩)
  have HTC := Lib.hid HTR.out.1
  obtain ⟨hdn, hdl, hda⟩ := hdr.out
  have Hda := Lib.hid hda
  have hB4 := Lib.hid (show Below w.heap.size w w4 from bw_below (bw_below hB2.out HFN.out.bel) HTR.out.2)
  rw [hdn, hdl]
  clear hHeld i0 j0 k0 k0' hCH HTR HFN hNC hda hdr hdn hdl hnm H2 X2 hB2
  have x0 : w4.cell? ⟨w.heap.size, 0, none⟩ = some (.slice sa L.length sc) := (X4.out.cell 0).trans rfl
  have xb := X4.out.lt
  go_wp2
  go_loopw [7, 44] (fun av iv wr => ∃ k : Nat, k ≤ L.length ∧ iv = .int .i64 k ∧ av = .int .i64 ((ofWay (L.take k) up).length : Nat) ∧ Below w4.heap.size w4 wr) (fun _ iv _ => L.length - (intOf iv).toNat)
  case atStart => exact ⟨0, by omega, rfl, rfl, Below.refl _ _⟩
  case round =>
    obtain ⟨k, hk, rfl, rfl, hB⟩ := hrel
    clear x0
    have HB := Lib.hid hB
    by_cases hlt : k < L.length
    · obtain ⟨sa', sc', e1, -, -, hTA⟩ := hs'.out
      injection e1 with e1 e2 e3
      subst e1 e3
      obtain ⟨g, oo, rfl, hc⟩ := hTA (by intro h; subst h; simp at hlt)
      have hx : L[k]? = some L[k] := List.getElem?_eq_getElem hlt
      obtain ⟨d0, d1, d2, d3, d4, d5⟩ := hc k _ hx
      have hnx := Lib.hid (ofWay_next (up := up) hx)
      have hgt := Lib.hid (fun hu => ofWay_get (up := up) hx hu)
      generalize L[k] = p at *
      obtain ⟨t0, t1, t2, t3, t4, t5⟩ := p
      dsimp only at *
      have hold := bw_below HB4.out hB
      have d0' := bcells hold d0
      have d1' := bcells hold d1
      have d2' := bcells hold d2
      have d3' := bcells hold d3
      have d4' := bcells hold d4
      have d5' := bcells hold d5
      have X5 := X4.out.below hB
      have x1 : wr.cell? ⟨w.heap.size, 1, none⟩ = some (.bool up) := (X5.cell 1).trans rfl
      have xb5 := X5.lt
      have hBx : Below w4.heap.size w4 (wr.alloc (.cells #[.string t0, .int .i64 t1, .bool t2, .int .i64 t3, .int .i64 t4, .int .i64 t5] 29)) := hB.alloc hB.size _
      have HBx := Lib.hid hBx
      clear hc hx hTA hold X5 hBx hB d0 d1 d2 d3 d4 d5
      by_cases k3 : t2 = up
      · have e3 : (t2 == up) = true := by simpa using k3
        have hn2 := Lib.hid (show ofWay (L.take (k + 1)) up = ofWay (L.take k) up ++ [⟨t0, t1, t2, t3, t4, t5⟩] from by rw [hnx.out, if_pos k3])
        have hg := hgt.out k3
        clear hgt hnx k3
        generalize hm : (ofWay (L.take k) up).length = m at *
        have hn3 := Lib.hid (show (ofWay (L.take (k + 1)) up).length = m + 1 from by rw [hn2.out, List.length_append, hm]; rfl)
        obtain ⟨hn4, d, hn5, hdr⟩ := Hda.out m _ hg
        have hml := (List.getElem?_eq_some_iff.1 hg).1
        obtain ⟨gn, on, rfl, hnc⟩ := HNC.out (by intro h; rw [h] at hn4; simp at hn4)
        have n0 := hnc m _ hn4
        obtain ⟨g3, rfl, -, htc⟩ := HTC.out (by intro h; rw [h] at hn5; simp at hn5)
        obtain ⟨q0, q1, q2, q3, q4, q5⟩ := d
        have y0 : w4.cell? ⟨g3, m * 6, none⟩ = some (.string q0) := htc (m * 6 + 0) _ ((tcells_get _ m 0 _ hn5 (by decide)).trans rfl)
        have y1 : w4.cell? ⟨g3, m * 6 + 1, none⟩ = some (.int .i64 q1) := htc (m * 6 + 1) _ ((tcells_get _ m 1 _ hn5 (by decide)).trans rfl)
        have y2 : w4.cell? ⟨g3, m * 6 + 2, none⟩ = some (.bool q2) := htc (m * 6 + 2) _ ((tcells_get _ m 2 _ hn5 (by decide)).trans rfl)
        have y3 : w4.cell? ⟨g3, m * 6 + 3, none⟩ = some (.int .i64 q3) := htc (m * 6 + 3) _ ((tcells_get _ m 3 _ hn5 (by decide)).trans rfl)
        have y4 : w4.cell? ⟨g3, m * 6 + 4, none⟩ = some (.int .i64 q4) := htc (m * 6 + 4) _ ((tcells_get _ m 4 _ hn5 (by decide)).trans rfl)
        have y5 : w4.cell? ⟨g3, m * 6 + 5, none⟩ = some (.int .i64 q5) := htc (m * 6 + 5) _ ((tcells_get _ m 5 _ hn5 (by decide)).trans rfl)
        have n0' := bcells HB.out n0
        have y0' := bcells HB.out y0
        have y1' := bcells HB.out y1
        have y2' := bcells HB.out y2
        have y3' := bcells HB.out y3
        have y4' := bcells HB.out y4
        have y5' := bcells HB.out y5
        dsimp only at n0'
        obtain ⟨r1, r2, r3⟩ := dr_b hdr
        dsimp only at r2 r3
        have hW8 : (ofWay L up).length ≤ L.length := List.length_filter_le _ _
        generalize hW : (ofWay L up).length = W at *
        have tg : decide ((W : Int) ≤ (m : Int)) = false := decide_eq_false (by omega)
        have tgn : decide (W ≤ m) = false := decide_eq_false (by omega)
        have hmW : (m : Int) < (W : Int) := by omega
        have hmN : m < W := by omega
        have hm0 : (0 : Int) ≤ (m : Int) := by omega
        obtain ⟨b1, hb1⟩ : ∃ b1, sameT ⟨q0, q1, q2, q3, q4, q5⟩ ⟨t0, t1, t2, t3, t4, t5⟩ = b1 := ⟨_, rfl⟩
        obtain ⟨b2, hb2⟩ : ∃ b2, sameT ⟨q0, q1, q2, q3, q4, q5⟩ noTox = b2 := ⟨_, rfl⟩
        rw [hb1, hb2] at r1
        rw [hb1] at r2
        rw [hb2] at r3
        have hq1 : ∀ W' : World, (binOp .neq 29 (.agg #[.string q0, .int .i64 q1, .bool q2, .int .i64 q3, .int .i64 q4, .int .i64 q5]) (.agg #[.string t0, .int .i64 t1, .bool t2, .int .i64 t3, .int .i64 t4, .int .i64 t5])).run Try.prog W' = .ok (.bool (!b1)) W' := fun W' => by rw [neq_tox, hb1]
        have hq2 : ∀ W' : World, (binOp .neq 29 (.agg #[.string q0, .int .i64 q1, .bool q2, .int .i64 q3, .int .i64 q4, .int .i64 q5]) (.agg #[.string ⟨#[]⟩, .int .i64 0, .bool false, .int .i64 0, .int .i64 0, .int .i64 0])).run Try.prog W' = .ok (.bool (!b2)) W' := fun W' => by rw [neq_tox]; unfold noTox at hb2; rw [hb2]
        clear hg hm hn2 hn4 hn5 hdr hnc htc n0 y0 y1 y2 y3 y4 y5 hb1 hb2 hW HNC HTC Hda hml
        have hbx := Lib.hid (Blk.new wr 29 #[.string t0, .int .i64 t1, .bool t2, .int .i64 t3, .int .i64 t4, .int .i64 t5])
        have hBw : Below wr.heap.size wr (wr.alloc (.cells #[.string t0, .int .i64 t1, .bool t2, .int .i64 t3, .int .i64 t4, .int .i64 t5] 29)) := (Below.refl _ _).alloc (Nat.le_refl _) _
        have n1 := bcells hBw n0'
        have y0 := bcells hBw y0'
        have y1 := bcells hBw y1'
        have y2 := bcells hBw y2'
        have y3 := bcells hBw y3'
        have y4 := bcells hBw y4'
        have y5 := bcells hBw y5'
        clear hBw n0' y0' y1' y2' y3' y4' y5'
        go_wp2
        generalize wr.alloc (.cells #[.string t0, .int .i64 t1, .bool t2, .int .i64 t3, .int .i64 t4, .int .i64 t5] 29) = w5 at *
        have u0 : w5.cell? ⟨wr.heap.size, 0, none⟩ = some (.string t0) := (hbx.out.cell 0).trans rfl
        have u1 : w5.cell? ⟨wr.heap.size, 1, none⟩ = some (.int .i64 t1) := (hbx.out.cell 1).trans rfl
        have u2 : w5.cell? ⟨wr.heap.size, 2, none⟩ = some (.bool t2) := (hbx.out.cell 2).trans rfl
        have u3 : w5.cell? ⟨wr.heap.size, 3, none⟩ = some (.int .i64 t3) := (hbx.out.cell 3).trans rfl
        have u4 : w5.cell? ⟨wr.heap.size, 4, none⟩ = some (.int .i64 t4) := (hbx.out.cell 4).trans rfl
        have u5 : w5.cell? ⟨wr.heap.size, 5, none⟩ = some (.int .i64 t5) := (hbx.out.cell 5).trans rfl
        refine start_ (n := 19) (S := fun w' => w'.cell? ⟨gn, on + m, none⟩ = some (.string t0) ∧ w'.cell? ⟨wr.heap.size, 0, none⟩ = some (.string t0)) (ds := []) (m_ 19 0) (by kernel_rfl) rfl (by kernel_rfl) ⟨n1, u0⟩ (fun hHeld => ?_)
        refine pu_ 0 (some 53) (m_ 19 1) rfl rfl (by kernel_rfl) (fun _ _ _ h => h) (by rfl) (by intro w'; go_simp; with_reducible rfl) (by simp only [Act.put, List.setIfInBounds_toArray, List.set_cons_zero, List.set_cons_succ, i64_w, i32_w]; rfl) ?_
        refine pu_ 1 (some 54) (m_ 19 3) rfl rfl (by kernel_rfl) (fun _ _ _ h => h) (by rfl) (by intro w'; go_simp; with_reducible rfl) (by simp only [Act.put, List.setIfInBounds_toArray, List.set_cons_zero, List.set_cons_succ, i64_w, i32_w]; rfl) ?_
        refine pu_ 2 (some 55) (m_ 19 7) rfl rfl (by kernel_rfl) (fun _ _ _ h => h) (by rfl) (by intro w'; go_simp; with_reducible rfl) (by simp only [Act.put, List.setIfInBounds_toArray, List.set_cons_zero, List.set_cons_succ, i64_w, i32_w]; rfl) ?_
        refine pu_ 3 (some 56) (m_ 19 15) rfl rfl (by kernel_rfl) (fun _ _ _ h => h) (by rfl) (by intro w'; go_simp; with_reducible rfl) (by simp only [Act.put, List.setIfInBounds_toArray, List.set_cons_zero, List.set_cons_succ, i64_w, i32_w]; rfl) ?_
        refine pu_ 4 (some 57) (m_ 19 31) rfl rfl (by kernel_rfl) (fun _ _ _ h => h) (by rfl) (by intro w'; go_simp; with_reducible rfl) (by simp only [Act.put, List.setIfInBounds_toArray, List.set_cons_zero, List.set_cons_succ, i64_w, i32_w]; rfl) ?_
        refine pu_ 5 (some 58) (m_ 19 63) rfl rfl (by kernel_rfl) (fun _ _ _ h => h) (by rfl) (by intro w'; go_simp; with_reducible rfl) (by simp only [Act.put, List.setIfInBounds_toArray, List.set_cons_zero, List.set_cons_succ, i64_w, i32_w]; rfl) ?_
        refine pu_ 6 (some 59) (m_ 19 127) rfl rfl (by kernel_rfl) (fun _ _ _ h => h) (by rfl) (by intro w'; go_simp; with_reducible rfl) (by simp only [Act.put, List.setIfInBounds_toArray, List.set_cons_zero, List.set_cons_succ, i64_w, i32_w]; rfl) ?_
        refine pu_ 7 (some 60) (m_ 19 255) rfl rfl (by kernel_rfl) (fun _ _ _ h => h) (by rfl) (by intro w'; go_simp; with_reducible rfl) (by simp only [Act.put, List.setIfInBounds_toArray, List.set_cons_zero, List.set_cons_succ, i64_w, i32_w]; rfl) ?_
        refine pu_ 8 (some 61) (m_ 19 511) rfl rfl (by kernel_rfl) (fun _ _ _ h => h) (by rfl) (by intro w'; go_simp; with_reducible rfl) (by simp only [Act.put, List.setIfInBounds_toArray, List.set_cons_zero, List.set_cons_succ, i64_w, i32_w]; rfl) ?_
        refine pu_ 9 (some 62) (m_ 19 1023) rfl rfl (by kernel_rfl) (fun _ _ _ h => h) (by rfl) (by intro w'; go_simp; with_reducible rfl) (by simp only [Act.put, List.setIfInBounds_toArray, List.set_cons_zero, List.set_cons_succ, i64_w, i32_w]; rfl) ?_
        refine pu_ 10 (some 63) (m_ 19 2047) rfl rfl (by kernel_rfl) (fun _ _ _ h => h) (by rfl) (by intro w'; go_simp; with_reducible rfl) (by simp only [Act.put, List.setIfInBounds_toArray, List.set_cons_zero, List.set_cons_succ, i64_w, i32_w]; rfl) ?_
        refine pu_ 11 (some 64) (m_ 19 4095) rfl rfl (by kernel_rfl) (fun _ _ _ h => h) (by rfl) (by intro w'; go_simp; with_reducible rfl) (by simp only [Act.put, List.setIfInBounds_toArray, List.set_cons_zero, List.set_cons_succ, i64_w, i32_w]; rfl) ?_
        refine pu_ 12 (some 65) (m_ 19 8191) rfl rfl (by kernel_rfl) (fun _ _ _ h => h) (by rfl) (by intro w'; go_simp; with_reducible rfl) (by simp only [Act.put, List.setIfInBounds_toArray, List.set_cons_zero, List.set_cons_succ, i64_w, i32_w]; rfl) ?_
        refine pu_ 13 (some 66) (m_ 19 16383) rfl rfl (by kernel_rfl) (fun _ _ _ h => h) (by rfl) (by intro w'; go_simp; with_reducible rfl) (by simp only [Act.put, List.setIfInBounds_toArray, List.set_cons_zero, List.set_cons_succ, i64_w, i32_w]; rfl) ?_
        refine pu_ 15 (some 68) (m_ 19 49151) rfl rfl (by kernel_rfl) (fun _ _ _ h => h) (by rfl) (by intro w'; go_simp; with_reducible rfl) (by simp only [Act.put, List.setIfInBounds_toArray, List.set_cons_zero, List.set_cons_succ, i64_w, i32_w]; rfl) ?_
        refine tk_ 14 (some 67) (m_ 19 65535) rfl rfl (by kernel_rfl) (fun _ _ _ h => h) (by rfl) (by rintro w' ⟨s0, s1⟩; go_simp; with_reducible rfl) hHeld (by simp only [Act.put, List.setIfInBounds_toArray, List.set_cons_zero, List.set_cons_succ, i64_w, i32_w]; rfl) ?_
        refine tk_ 16 (some 69) (m_ 19 131071) rfl rfl (by kernel_rfl) (fun _ _ _ h => h) (by rfl) (by rintro w' ⟨s0, s1⟩; go_simp; with_reducible rfl) hHeld (by simp only [Act.put, List.setIfInBounds_toArray, List.set_cons_zero, List.set_cons_succ, i64_w, i32_w]; rfl) ?_
        refine pu_ 17 (some 70) (m_ 19 262143) rfl rfl (by kernel_rfl) (fun _ _ _ h => h) (by rfl) (by intro w'; go_simp; with_reducible rfl) (by simp only [Act.put, List.setIfInBounds_toArray, List.set_cons_zero, List.set_cons_succ, i64_w, i32_w]; rfl) ?_
        refine pu_ 18 (some 71) (m_ 19 524287) rfl rfl (by kernel_rfl) (fun _ _ _ h => h) (by rfl) (by intro w'; go_simp; with_reducible rfl) (by simp only [Act.put, List.setIfInBounds_toArray, List.set_cons_zero, List.set_cons_succ, i64_w, i32_w]; rfl) ?_
        refine done_ (by kernel_rfl) ?_
        clear hHeld
        go_wp2
        cases b1 with
        | false =>
          obtain rfl := r1 rfl
          have c1 : (t3 == 100) = false := by simp; intro e; have := r2 e; cases this
          by_cases c0 : t3 = 0
          · have c2 : (t3 == 0) = true := by simpa using c0
            clear c0
            clear r1 r2 r3
            refine start_ (n := 40) (S := fun w' => w'.cell? ⟨g3, m * 6, none⟩ = some (.string q0) ∧ w'.cell? ⟨g3, m * 6 + 1, none⟩ = some (.int .i64 q1) ∧ w'.cell? ⟨g3, m * 6 + 2, none⟩ = some (.bool q2) ∧ w'.cell? ⟨g3, m * 6 + 3, none⟩ = some (.int .i64 q3) ∧ w'.cell? ⟨g3, m * 6 + 4, none⟩ = some (.int .i64 q4) ∧ w'.cell? ⟨g3, m * 6 + 5, none⟩ = some (.int .i64 q5) ∧ w'.cell? ⟨wr.heap.size, 0, none⟩ = some (.string t0) ∧ w'.cell? ⟨wr.heap.size, 1, none⟩ = some (.int .i64 t1) ∧ w'.cell? ⟨wr.heap.size, 2, none⟩ = some (.bool t2) ∧ w'.cell? ⟨wr.heap.size, 3, none⟩ = some (.int .i64 t3) ∧ w'.cell? ⟨wr.heap.size, 4, none⟩ = some (.int .i64 t4) ∧ w'.cell? ⟨wr.heap.size, 5, none⟩ = some (.int .i64 t5)) (ds := []) (m_ 40 0) (by kernel_rfl) rfl (by kernel_rfl) ⟨y0, y1, y2, y3, y4, y5, u0, u1, u2, u3, u4, u5⟩ (fun hHeld => ?_)
            refine pu_ 0 (some 72) (m_ 40 1) rfl rfl (by kernel_rfl) (fun _ _ _ h => h) (by rfl) (by intro w'; go_simp; with_reducible rfl) (by simp only [Act.put, List.setIfInBounds_toArray, List.set_cons_zero, List.set_cons_succ, i64_w, i32_w]; rfl) ?_
            refine pu_ 1 (some 73) (m_ 40 3) rfl rfl (by kernel_rfl) (fun _ _ _ h => h) (by rfl) (by intro w'; go_simp; with_reducible rfl) (by simp only [Act.put, List.setIfInBounds_toArray, List.set_cons_zero, List.set_cons_succ, i64_w, i32_w]; rfl) ?_
            refine pu_ 2 (some 74) (m_ 40 7) rfl rfl (by kernel_rfl) (fun _ _ _ h => h) (by rfl) (by intro w'; go_simp; with_reducible rfl) (by simp only [Act.put, List.setIfInBounds_toArray, List.set_cons_zero, List.set_cons_succ, i64_w, i32_w]; rfl) ?_
            refine tk_ 3 (some 75) (m_ 40 15) rfl rfl (by kernel_rfl) (fun _ _ _ h => h) (by rfl) (by rintro w' ⟨s0, s1, s2, s3, s4, s5, s6, s7, s8, s9, s10, s11⟩; go_simp; with_reducible rfl) hHeld (by simp only [Act.put, List.setIfInBounds_toArray, List.set_cons_zero, List.set_cons_succ, i64_w, i32_w]; rfl) ?_
            refine tk_ 4 (some 76) (m_ 40 31) rfl rfl (by kernel_rfl) (fun _ _ _ h => h) (by rfl) (by rintro w' ⟨s0, s1, s2, s3, s4, s5, s6, s7, s8, s9, s10, s11⟩; go_simp; with_reducible rfl) hHeld (by simp only [Act.put, List.setIfInBounds_toArray, List.set_cons_zero, List.set_cons_succ, i64_w, i32_w]; rfl) ?_
            refine pu_ 5 (some 77) (m_ 40 63) rfl rfl (by kernel_rfl) (fun _ _ _ h => h) (by rfl) (by intro w'; go_simp; with_reducible rfl) (by simp only [Act.put, List.setIfInBounds_toArray, List.set_cons_zero, List.set_cons_succ, i64_w, i32_w]; rfl) ?_
            refine pu_ 6 (some 78) (m_ 40 127) rfl rfl (by kernel_rfl) (fun _ _ _ h => h) (by rfl) (by intro w'; go_simp; with_reducible rfl) (by simp only [Act.put, List.setIfInBounds_toArray, List.set_cons_zero, List.set_cons_succ, i64_w, i32_w]; rfl) ?_
            refine pu_ 7 (some 79) (m_ 40 255) rfl rfl (by kernel_rfl) (fun _ _ _ h => h) (by rfl) (by intro w'; go_simp; with_reducible rfl) (by simp only [Act.put, List.setIfInBounds_toArray, List.set_cons_zero, List.set_cons_succ, i64_w, i32_w]; rfl) ?_
            refine pu_ 8 (some 80) (m_ 40 511) rfl rfl (by kernel_rfl) (fun _ _ _ h => h) (by rfl) (by intro w'; go_simp; with_reducible rfl) (by simp only [Act.put, List.setIfInBounds_toArray, List.set_cons_zero, List.set_cons_succ, i64_w, i32_w]; rfl) ?_
            refine pu_ 9 (some 81) (m_ 40 1023) rfl rfl (by kernel_rfl) (fun _ _ _ h => h) (by rfl) (by intro w'; go_simp; with_reducible rfl) (by simp only [Act.put, List.setIfInBounds_toArray, List.set_cons_zero, List.set_cons_succ, i64_w, i32_w]; rfl) ?_
            refine pu_ 11 (some 83) (m_ 40 3071) rfl rfl (by kernel_rfl) (fun _ _ _ h => h) (by rfl) (by intro w'; go_simp; with_reducible rfl) (by simp only [Act.put, List.setIfInBounds_toArray, List.set_cons_zero, List.set_cons_succ, i64_w, i32_w]; rfl) ?_
            refine tk_ 10 (some 82) (m_ 40 4095) rfl rfl (by kernel_rfl) (fun _ _ _ h => h) (by rfl) (by rintro w' ⟨s0, s1, s2, s3, s4, s5, s6, s7, s8, s9, s10, s11⟩; go_simp; with_reducible rfl) hHeld (by simp only [Act.put, List.setIfInBounds_toArray, List.set_cons_zero, List.set_cons_succ, i64_w, i32_w]; rfl) ?_
            refine pu_ 12 (some 84) (m_ 40 8191) rfl rfl (by kernel_rfl) (fun _ _ _ h => h) (by rfl) (by intro w'; go_simp; with_reducible rfl) (by simp only [Act.put, List.setIfInBounds_toArray, List.set_cons_zero, List.set_cons_succ, i64_w, i32_w]; rfl) ?_
            refine pu_ 13 (some 85) (m_ 40 16383) rfl rfl (by kernel_rfl) (fun _ _ _ h => h) (by rfl) (by intro w'; go_simp; with_reducible rfl) (by simp only [Act.put, List.setIfInBounds_toArray, List.set_cons_zero, List.set_cons_succ, i64_w, i32_w]; rfl) ?_
            refine pu_ 14 (some 86) (m_ 40 32767) rfl rfl (by kernel_rfl) (fun _ _ _ h => h) (by rfl) (by intro w'; go_simp; with_reducible rfl) (by simp only [Act.put, List.setIfInBounds_toArray, List.set_cons_zero, List.set_cons_succ, i64_w, i32_w]; rfl) ?_
            refine pu_ 15 (some 87) (m_ 40 65535) rfl rfl (by kernel_rfl) (fun _ _ _ h => h) (by rfl) (by intro w'; go_simp; with_reducible rfl) (by simp only [Act.put, List.setIfInBounds_toArray, List.set_cons_zero, List.set_cons_succ, i64_w, i32_w]; rfl) ?_
            refine tk_ 16 (some 88) (m_ 40 131071) rfl rfl (by kernel_rfl) (fun _ _ _ h => h) (by rfl) (by rintro w' ⟨s0, s1, s2, s3, s4, s5, s6, s7, s8, s9, s10, s11⟩; go_simp; with_reducible rfl) hHeld (by simp only [Act.put, List.setIfInBounds_toArray, List.set_cons_zero, List.set_cons_succ, i64_w, i32_w]; rfl) ?_
            refine pu_ 17 (some 89) (m_ 40 262143) rfl rfl (by kernel_rfl) (fun _ _ _ h => h) (by rfl) (by intro w'; go_simp; with_reducible rfl) (by simp only [Act.put, List.setIfInBounds_toArray, List.set_cons_zero, List.set_cons_succ, i64_w, i32_w]; rfl) ?_
            refine pu_ 18 (some 90) (m_ 40 524287) rfl rfl (by kernel_rfl) (fun _ _ _ h => h) (by rfl) (by intro w'; go_simp; with_reducible rfl) (by simp only [Act.put, List.setIfInBounds_toArray, List.set_cons_zero, List.set_cons_succ, i64_w, i32_w]; rfl) ?_
            refine po_ 19 (some 91) (m_ 40 1048575) rfl rfl (by kernel_rfl) (fun _ _ _ h => h) (by rfl) (by simp only [Act.put, List.setIfInBounds_toArray, List.set_cons_zero, List.set_cons_succ, i64_w, i32_w]; rfl) ?_
            refine po_ 20 (some 92) (m_ 40 2097151) rfl rfl (by kernel_rfl) (fun _ _ _ h => h) (by rfl) (by simp only [Act.put, List.setIfInBounds_toArray, List.set_cons_zero, List.set_cons_succ, i64_w, i32_w]; rfl) ?_
            refine po_ 21 (some 93) (m_ 40 4194303) rfl rfl (by kernel_rfl) (fun _ _ _ h => h) (by rfl) (by simp only [Act.put, List.setIfInBounds_toArray, List.set_cons_zero, List.set_cons_succ, i64_w, i32_w]; rfl) ?_
            refine po_ 22 (some 94) (m_ 40 8388607) rfl rfl (by kernel_rfl) (fun _ _ _ h => h) (by rfl) (by simp only [Act.put, List.setIfInBounds_toArray, List.set_cons_zero, List.set_cons_succ, i64_w, i32_w]; rfl) ?_
            refine po_ 23 (some 95) (m_ 40 16777215) rfl rfl (by kernel_rfl) (fun _ _ _ h => h) (by rfl) (by simp only [Act.put, List.setIfInBounds_toArray, List.set_cons_zero, List.set_cons_succ, i64_w, i32_w]; rfl) ?_
            refine po_ 24 (some 96) (m_ 40 33554431) rfl rfl (by kernel_rfl) (fun _ _ _ h => h) (by rfl) (by simp only [Act.put, List.setIfInBounds_toArray, List.set_cons_zero, List.set_cons_succ, i64_w, i32_w]; rfl) ?_
            refine pu_ 25 (some 97) (m_ 40 67108863) rfl rfl (by kernel_rfl) (fun _ _ _ h => h) (by rfl) (by intro w'; go_simp; with_reducible rfl) (by simp only [Act.put, List.setIfInBounds_toArray, List.set_cons_zero, List.set_cons_succ, i64_w, i32_w]; rfl) ?_
            refine pu_ 26 (some 98) (m_ 40 134217727) rfl rfl (by kernel_rfl) (fun _ _ _ h => h) (by rfl) (by intro w'; go_simp; with_reducible rfl) (by simp only [Act.put, List.setIfInBounds_toArray, List.set_cons_zero, List.set_cons_succ, i64_w, i32_w]; rfl) ?_
            refine pu_ 27 (some 99) (m_ 40 268435455) rfl rfl (by kernel_rfl) (fun _ _ _ h => h) (by rfl) (by intro w'; go_simp; with_reducible rfl) (by simp only [Act.put, List.setIfInBounds_toArray, List.set_cons_zero, List.set_cons_succ, i64_w, i32_w]; rfl) ?_
            refine pu_ 28 (some 100) (m_ 40 536870911) rfl rfl (by kernel_rfl) (fun _ _ _ h => h) (by rfl) (by intro w'; go_simp; with_reducible rfl) (by simp only [Act.put, List.setIfInBounds_toArray, List.set_cons_zero, List.set_cons_succ, i64_w, i32_w]; rfl) ?_
            refine tk_ 29 (some 101) (m_ 40 1073741823) rfl rfl (by kernel_rfl) (fun _ _ _ h => h) (by rfl) (by rintro w' ⟨s0, s1, s2, s3, s4, s5, s6, s7, s8, s9, s10, s11⟩; go_simp; with_reducible rfl) hHeld (by simp only [Act.put, List.setIfInBounds_toArray, List.set_cons_zero, List.set_cons_succ, i64_w, i32_w]; rfl) ?_
            refine pu_ 30 (some 102) (m_ 40 2147483647) rfl rfl (by kernel_rfl) (fun _ _ _ h => h) (by rfl) (by intro w'; go_simp; with_reducible rfl) (by simp only [Act.put, List.setIfInBounds_toArray, List.set_cons_zero, List.set_cons_succ, i64_w, i32_w]; rfl) ?_
            refine pu_ 31 (some 103) (m_ 40 4294967295) rfl rfl (by kernel_rfl) (fun _ _ _ h => h) (by rfl) (by intro w'; go_simp; with_reducible rfl) (by simp only [Act.put, List.setIfInBounds_toArray, List.set_cons_zero, List.set_cons_succ, i64_w, i32_w]; rfl) ?_
            refine pu_ 32 (some 104) (m_ 40 8589934591) rfl rfl (by kernel_rfl) (fun _ _ _ h => h) (by rfl) (by intro w'; go_simp; with_reducible rfl) (by simp only [Act.put, List.setIfInBounds_toArray, List.set_cons_zero, List.set_cons_succ, i64_w, i32_w]; rfl) ?_
            refine pu_ 33 (some 105) (m_ 40 17179869183) rfl rfl (by kernel_rfl) (fun _ _ _ h => h) (by rfl) (by intro w'; go_simp; with_reducible rfl) (by simp only [Act.put, List.setIfInBounds_toArray, List.set_cons_zero, List.set_cons_succ, i64_w, i32_w]; rfl) ?_
            refine pu_ 34 (some 106) (m_ 40 34359738367) rfl rfl (by kernel_rfl) (fun _ _ _ h => h) (by rfl) (by intro w'; go_simp; with_reducible rfl) (by simp only [Act.put, List.setIfInBounds_toArray, List.set_cons_zero, List.set_cons_succ, i64_w, i32_w]; rfl) ?_
            refine pu_ 36 (some 108) (m_ 40 103079215103) rfl rfl (by kernel_rfl) (fun _ _ _ h => h) (by rfl) (by intro w'; go_simp; with_reducible rfl) (by simp only [Act.put, List.setIfInBounds_toArray, List.set_cons_zero, List.set_cons_succ, i64_w, i32_w]; rfl) ?_
            refine tk_ 35 (some 107) (m_ 40 137438953471) rfl rfl (by kernel_rfl) (fun _ _ _ h => h) (by rfl) (by rintro w' ⟨s0, s1, s2, s3, s4, s5, s6, s7, s8, s9, s10, s11⟩; go_simp; with_reducible rfl) hHeld (by simp only [Act.put, List.setIfInBounds_toArray, List.set_cons_zero, List.set_cons_succ, i64_w, i32_w]; rfl) ?_
            refine pu_ 37 (some 109) (m_ 40 274877906943) rfl rfl (by kernel_rfl) (fun _ _ _ h => h) (by rfl) (by intro w'; go_simp; with_reducible rfl) (by simp only [Act.put, List.setIfInBounds_toArray, List.set_cons_zero, List.set_cons_succ, i64_w, i32_w]; rfl) ?_
            refine pu_ 38 (some 110) (m_ 40 549755813887) rfl rfl (by kernel_rfl) (fun _ _ _ h => h) (by rfl) (by intro w'; go_simp; with_reducible rfl) (by simp only [Act.put, List.setIfInBounds_toArray, List.set_cons_zero, List.set_cons_succ, i64_w, i32_w]; rfl) ?_
            refine pu_ 39 (some 111) (m_ 40 1099511627775) rfl rfl (by kernel_rfl) (fun _ _ _ h => h) (by rfl) (by intro w'; go_simp; with_reducible rfl) (by simp only [Act.put, List.setIfInBounds_toArray, List.set_cons_zero, List.set_cons_succ, i64_w, i32_w]; rfl) ?_
            refine done_ (by kernel_rfl) ?_
            clear hHeld
            go_wp2
            go_roundw
            case rel => exact ⟨k + 1, by omega, by go_num, by rw [hn3.out]; go_num, HBx.out.drew.drew⟩
            case measure => simp [intOf]; omega
          · have c2 : (t3 == 0) = false := by simpa using c0
            clear c0
            clear r1 r2 r3
            refine start_ (n := 40) (S := fun w' => w'.cell? ⟨g3, m * 6, none⟩ = some (.string q0) ∧ w'.cell? ⟨g3, m * 6 + 1, none⟩ = some (.int .i64 q1) ∧ w'.cell? ⟨g3, m * 6 + 2, none⟩ = some (.bool q2) ∧ w'.cell? ⟨g3, m * 6 + 3, none⟩ = some (.int .i64 q3) ∧ w'.cell? ⟨g3, m * 6 + 4, none⟩ = some (.int .i64 q4) ∧ w'.cell? ⟨g3, m * 6 + 5, none⟩ = some (.int .i64 q5) ∧ w'.cell? ⟨wr.heap.size, 0, none⟩ = some (.string t0) ∧ w'.cell? ⟨wr.heap.size, 1, none⟩ = some (.int .i64 t1) ∧ w'.cell? ⟨wr.heap.size, 2, none⟩ = some (.bool t2) ∧ w'.cell? ⟨wr.heap.size, 3, none⟩ = some (.int .i64 t3) ∧ w'.cell? ⟨wr.heap.size, 4, none⟩ = some (.int .i64 t4) ∧ w'.cell? ⟨wr.heap.size, 5, none⟩ = some (.int .i64 t5)) (ds := []) (m_ 40 0) (by kernel_rfl) rfl (by kernel_rfl) ⟨y0, y1, y2, y3, y4, y5, u0, u1, u2, u3, u4, u5⟩ (fun hHeld => ?_)
            refine pu_ 0 (some 72) (m_ 40 1) rfl rfl (by kernel_rfl) (fun _ _ _ h => h) (by rfl) (by intro w'; go_simp; with_reducible rfl) (by simp only [Act.put, List.setIfInBounds_toArray, List.set_cons_zero, List.set_cons_succ, i64_w, i32_w]; rfl) ?_
            refine pu_ 1 (some 73) (m_ 40 3) rfl rfl (by kernel_rfl) (fun _ _ _ h => h) (by rfl) (by intro w'; go_simp; with_reducible rfl) (by simp only [Act.put, List.setIfInBounds_toArray, List.set_cons_zero, List.set_cons_succ, i64_w, i32_w]; rfl) ?_
            refine pu_ 2 (some 74) (m_ 40 7) rfl rfl (by kernel_rfl) (fun _ _ _ h => h) (by rfl) (by intro w'; go_simp; with_reducible rfl) (by simp only [Act.put, List.setIfInBounds_toArray, List.set_cons_zero, List.set_cons_succ, i64_w, i32_w]; rfl) ?_
            refine tk_ 3 (some 75) (m_ 40 15) rfl rfl (by kernel_rfl) (fun _ _ _ h => h) (by rfl) (by rintro w' ⟨s0, s1, s2, s3, s4, s5, s6, s7, s8, s9, s10, s11⟩; go_simp; with_reducible rfl) hHeld (by simp only [Act.put, List.setIfInBounds_toArray, List.set_cons_zero, List.set_cons_succ, i64_w, i32_w]; rfl) ?_
            refine tk_ 4 (some 76) (m_ 40 31) rfl rfl (by kernel_rfl) (fun _ _ _ h => h) (by rfl) (by rintro w' ⟨s0, s1, s2, s3, s4, s5, s6, s7, s8, s9, s10, s11⟩; go_simp; with_reducible rfl) hHeld (by simp only [Act.put, List.setIfInBounds_toArray, List.set_cons_zero, List.set_cons_succ, i64_w, i32_w]; rfl) ?_
            refine pu_ 5 (some 77) (m_ 40 63) rfl rfl (by kernel_rfl) (fun _ _ _ h => h) (by rfl) (by intro w'; go_simp; with_reducible rfl) (by simp only [Act.put, List.setIfInBounds_toArray, List.set_cons_zero, List.set_cons_succ, i64_w, i32_w]; rfl) ?_
            refine pu_ 6 (some 78) (m_ 40 127) rfl rfl (by kernel_rfl) (fun _ _ _ h => h) (by rfl) (by intro w'; go_simp; with_reducible rfl) (by simp only [Act.put, List.setIfInBounds_toArray, List.set_cons_zero, List.set_cons_succ, i64_w, i32_w]; rfl) ?_
            refine pu_ 7 (some 79) (m_ 40 255) rfl rfl (by kernel_rfl) (fun _ _ _ h => h) (by rfl) (by intro w'; go_simp; with_reducible rfl) (by simp only [Act.put, List.setIfInBounds_toArray, List.set_cons_zero, List.set_cons_succ, i64_w, i32_w]; rfl) ?_
            refine pu_ 8 (some 80) (m_ 40 511) rfl rfl (by kernel_rfl) (fun _ _ _ h => h) (by rfl) (by intro w'; go_simp; with_reducible rfl) (by simp only [Act.put, List.setIfInBounds_toArray, List.set_cons_zero, List.set_cons_succ, i64_w, i32_w]; rfl) ?_
            refine pu_ 9 (some 81) (m_ 40 1023) rfl rfl (by kernel_rfl) (fun _ _ _ h => h) (by rfl) (by intro w'; go_simp; with_reducible rfl) (by simp only [Act.put, List.setIfInBounds_toArray, List.set_cons_zero, List.set_cons_succ, i64_w, i32_w]; rfl) ?_
            refine pu_ 11 (some 83) (m_ 40 3071) rfl rfl (by kernel_rfl) (fun _ _ _ h => h) (by rfl) (by intro w'; go_simp; with_reducible rfl) (by simp only [Act.put, List.setIfInBounds_toArray, List.set_cons_zero, List.set_cons_succ, i64_w, i32_w]; rfl) ?_
            refine tk_ 10 (some 82) (m_ 40 4095) rfl rfl (by kernel_rfl) (fun _ _ _ h => h) (by rfl) (by rintro w' ⟨s0, s1, s2, s3, s4, s5, s6, s7, s8, s9, s10, s11⟩; go_simp; with_reducible rfl) hHeld (by simp only [Act.put, List.setIfInBounds_toArray, List.set_cons_zero, List.set_cons_succ, i64_w, i32_w]; rfl) ?_
            refine pu_ 12 (some 84) (m_ 40 8191) rfl rfl (by kernel_rfl) (fun _ _ _ h => h) (by rfl) (by intro w'; go_simp; with_reducible rfl) (by simp only [Act.put, List.setIfInBounds_toArray, List.set_cons_zero, List.set_cons_succ, i64_w, i32_w]; rfl) ?_
            refine pu_ 13 (some 85) (m_ 40 16383) rfl rfl (by kernel_rfl) (fun _ _ _ h => h) (by rfl) (by intro w'; go_simp; with_reducible rfl) (by simp only [Act.put, List.setIfInBounds_toArray, List.set_cons_zero, List.set_cons_succ, i64_w, i32_w]; rfl) ?_
            refine pu_ 14 (some 86) (m_ 40 32767) rfl rfl (by kernel_rfl) (fun _ _ _ h => h) (by rfl) (by intro w'; go_simp; with_reducible rfl) (by simp only [Act.put, List.setIfInBounds_toArray, List.set_cons_zero, List.set_cons_succ, i64_w, i32_w]; rfl) ?_
            refine pu_ 15 (some 87) (m_ 40 65535) rfl rfl (by kernel_rfl) (fun _ _ _ h => h) (by rfl) (by intro w'; go_simp; with_reducible rfl) (by simp only [Act.put, List.setIfInBounds_toArray, List.set_cons_zero, List.set_cons_succ, i64_w, i32_w]; rfl) ?_
            refine tk_ 16 (some 88) (m_ 40 131071) rfl rfl (by kernel_rfl) (fun _ _ _ h => h) (by rfl) (by rintro w' ⟨s0, s1, s2, s3, s4, s5, s6, s7, s8, s9, s10, s11⟩; go_simp; with_reducible rfl) hHeld (by simp only [Act.put, List.setIfInBounds_toArray, List.set_cons_zero, List.set_cons_succ, i64_w, i32_w]; rfl) ?_
            refine pu_ 17 (some 89) (m_ 40 262143) rfl rfl (by kernel_rfl) (fun _ _ _ h => h) (by rfl) (by intro w'; go_simp; with_reducible rfl) (by simp only [Act.put, List.setIfInBounds_toArray, List.set_cons_zero, List.set_cons_succ, i64_w, i32_w]; rfl) ?_
            refine pu_ 18 (some 90) (m_ 40 524287) rfl rfl (by kernel_rfl) (fun _ _ _ h => h) (by rfl) (by intro w'; go_simp; with_reducible rfl) (by simp only [Act.put, List.setIfInBounds_toArray, List.set_cons_zero, List.set_cons_succ, i64_w, i32_w]; rfl) ?_
            refine po_ 19 (some 91) (m_ 40 1048575) rfl rfl (by kernel_rfl) (fun _ _ _ h => h) (by rfl) (by simp only [Act.put, List.setIfInBounds_toArray, List.set_cons_zero, List.set_cons_succ, i64_w, i32_w]; rfl) ?_
            refine po_ 20 (some 92) (m_ 40 2097151) rfl rfl (by kernel_rfl) (fun _ _ _ h => h) (by rfl) (by simp only [Act.put, List.setIfInBounds_toArray, List.set_cons_zero, List.set_cons_succ, i64_w, i32_w]; rfl) ?_
            refine po_ 21 (some 93) (m_ 40 4194303) rfl rfl (by kernel_rfl) (fun _ _ _ h => h) (by rfl) (by simp only [Act.put, List.setIfInBounds_toArray, List.set_cons_zero, List.set_cons_succ, i64_w, i32_w]; rfl) ?_
            refine po_ 22 (some 94) (m_ 40 8388607) rfl rfl (by kernel_rfl) (fun _ _ _ h => h) (by rfl) (by simp only [Act.put, List.setIfInBounds_toArray, List.set_cons_zero, List.set_cons_succ, i64_w, i32_w]; rfl) ?_
            refine po_ 23 (some 95) (m_ 40 16777215) rfl rfl (by kernel_rfl) (fun _ _ _ h => h) (by rfl) (by simp only [Act.put, List.setIfInBounds_toArray, List.set_cons_zero, List.set_cons_succ, i64_w, i32_w]; rfl) ?_
            refine po_ 24 (some 96) (m_ 40 33554431) rfl rfl (by kernel_rfl) (fun _ _ _ h => h) (by rfl) (by simp only [Act.put, List.setIfInBounds_toArray, List.set_cons_zero, List.set_cons_succ, i64_w, i32_w]; rfl) ?_
            refine pu_ 25 (some 97) (m_ 40 67108863) rfl rfl (by kernel_rfl) (fun _ _ _ h => h) (by rfl) (by intro w'; go_simp; with_reducible rfl) (by simp only [Act.put, List.setIfInBounds_toArray, List.set_cons_zero, List.set_cons_succ, i64_w, i32_w]; rfl) ?_
            refine pu_ 26 (some 98) (m_ 40 134217727) rfl rfl (by kernel_rfl) (fun _ _ _ h => h) (by rfl) (by intro w'; go_simp; with_reducible rfl) (by simp only [Act.put, List.setIfInBounds_toArray, List.set_cons_zero, List.set_cons_succ, i64_w, i32_w]; rfl) ?_
            refine pu_ 27 (some 99) (m_ 40 268435455) rfl rfl (by kernel_rfl) (fun _ _ _ h => h) (by rfl) (by intro w'; go_simp; with_reducible rfl) (by simp only [Act.put, List.setIfInBounds_toArray, List.set_cons_zero, List.set_cons_succ, i64_w, i32_w]; rfl) ?_
            refine pu_ 28 (some 100) (m_ 40 536870911) rfl rfl (by kernel_rfl) (fun _ _ _ h => h) (by rfl) (by intro w'; go_simp; with_reducible rfl) (by simp only [Act.put, List.setIfInBounds_toArray, List.set_cons_zero, List.set_cons_succ, i64_w, i32_w]; rfl) ?_
            refine tk_ 29 (some 101) (m_ 40 1073741823) rfl rfl (by kernel_rfl) (fun _ _ _ h => h) (by rfl) (by rintro w' ⟨s0, s1, s2, s3, s4, s5, s6, s7, s8, s9, s10, s11⟩; go_simp; with_reducible rfl) hHeld (by simp only [Act.put, List.setIfInBounds_toArray, List.set_cons_zero, List.set_cons_succ, i64_w, i32_w]; rfl) ?_
            refine pu_ 30 (some 102) (m_ 40 2147483647) rfl rfl (by kernel_rfl) (fun _ _ _ h => h) (by rfl) (by intro w'; go_simp; with_reducible rfl) (by simp only [Act.put, List.setIfInBounds_toArray, List.set_cons_zero, List.set_cons_succ, i64_w, i32_w]; rfl) ?_
            refine pu_ 31 (some 103) (m_ 40 4294967295) rfl rfl (by kernel_rfl) (fun _ _ _ h => h) (by rfl) (by intro w'; go_simp; with_reducible rfl) (by simp only [Act.put, List.setIfInBounds_toArray, List.set_cons_zero, List.set_cons_succ, i64_w, i32_w]; rfl) ?_
            refine po_ 32 (some 104) (m_ 40 8589934591) rfl rfl (by kernel_rfl) (fun _ _ _ h => h) (by rfl) (by simp only [Act.put, List.setIfInBounds_toArray, List.set_cons_zero, List.set_cons_succ, i64_w, i32_w]; rfl) ?_
            refine po_ 33 (some 105) (m_ 40 17179869183) rfl rfl (by kernel_rfl) (fun _ _ _ h => h) (by rfl) (by simp only [Act.put, List.setIfInBounds_toArray, List.set_cons_zero, List.set_cons_succ, i64_w, i32_w]; rfl) ?_
            refine po_ 34 (some 106) (m_ 40 34359738367) rfl rfl (by kernel_rfl) (fun _ _ _ h => h) (by rfl) (by simp only [Act.put, List.setIfInBounds_toArray, List.set_cons_zero, List.set_cons_succ, i64_w, i32_w]; rfl) ?_
            refine po_ 35 (some 107) (m_ 40 68719476735) rfl rfl (by kernel_rfl) (fun _ _ _ h => h) (by rfl) (by simp only [Act.put, List.setIfInBounds_toArray, List.set_cons_zero, List.set_cons_succ, i64_w, i32_w]; rfl) ?_
            refine po_ 36 (some 108) (m_ 40 137438953471) rfl rfl (by kernel_rfl) (fun _ _ _ h => h) (by rfl) (by simp only [Act.put, List.setIfInBounds_toArray, List.set_cons_zero, List.set_cons_succ, i64_w, i32_w]; rfl) ?_
            refine po_ 37 (some 109) (m_ 40 274877906943) rfl rfl (by kernel_rfl) (fun _ _ _ h => h) (by rfl) (by simp only [Act.put, List.setIfInBounds_toArray, List.set_cons_zero, List.set_cons_succ, i64_w, i32_w]; rfl) ?_
            refine pu_ 38 (some 110) (m_ 40 549755813887) rfl rfl (by kernel_rfl) (fun _ _ _ h => h) (by rfl) (by intro w'; go_simp; with_reducible rfl) (by simp only [Act.put, List.setIfInBounds_toArray, List.set_cons_zero, List.set_cons_succ, i64_w, i32_w]; rfl) ?_
            refine pu_ 39 (some 111) (m_ 40 1099511627775) rfl rfl (by kernel_rfl) (fun _ _ _ h => h) (by rfl) (by intro w'; go_simp; with_reducible rfl) (by simp only [Act.put, List.setIfInBounds_toArray, List.set_cons_zero, List.set_cons_succ, i64_w, i32_w]; rfl) ?_
            refine done_ (by kernel_rfl) ?_
            clear hHeld
            go_wp2
            go_roundw
            case rel => exact ⟨k + 1, by omega, by go_num, by rw [hn3.out]; go_num, HBx.out.drew.drew⟩
            case measure => simp [intOf]; omega
        | true =>
          by_cases c0 : t3 = 100
          · have c1 : (t3 == 100) = true := by simpa using c0
            have c2 : (t3 == 0) = false := by simp; omega
            clear c0
            clear r1 r2 r3
            refine start_ (n := 40) (S := fun w' => w'.cell? ⟨g3, m * 6, none⟩ = some (.string q0) ∧ w'.cell? ⟨g3, m * 6 + 1, none⟩ = some (.int .i64 q1) ∧ w'.cell? ⟨g3, m * 6 + 2, none⟩ = some (.bool q2) ∧ w'.cell? ⟨g3, m * 6 + 3, none⟩ = some (.int .i64 q3) ∧ w'.cell? ⟨g3, m * 6 + 4, none⟩ = some (.int .i64 q4) ∧ w'.cell? ⟨g3, m * 6 + 5, none⟩ = some (.int .i64 q5) ∧ w'.cell? ⟨wr.heap.size, 0, none⟩ = some (.string t0) ∧ w'.cell? ⟨wr.heap.size, 1, none⟩ = some (.int .i64 t1) ∧ w'.cell? ⟨wr.heap.size, 2, none⟩ = some (.bool t2) ∧ w'.cell? ⟨wr.heap.size, 3, none⟩ = some (.int .i64 t3) ∧ w'.cell? ⟨wr.heap.size, 4, none⟩ = some (.int .i64 t4) ∧ w'.cell? ⟨wr.heap.size, 5, none⟩ = some (.int .i64 t5)) (ds := []) (m_ 40 0) (by kernel_rfl) rfl (by kernel_rfl) ⟨y0, y1, y2, y3, y4, y5, u0, u1, u2, u3, u4, u5⟩ (fun hHeld => ?_)
            refine pu_ 0 (some 72) (m_ 40 1) rfl rfl (by kernel_rfl) (fun _ _ _ h => h) (by rfl) (by intro w'; go_simp; with_reducible rfl) (by simp only [Act.put, List.setIfInBounds_toArray, List.set_cons_zero, List.set_cons_succ, i64_w, i32_w]; rfl) ?_
            refine pu_ 1 (some 73) (m_ 40 3) rfl rfl (by kernel_rfl) (fun _ _ _ h => h) (by rfl) (by intro w'; go_simp; with_reducible rfl) (by simp only [Act.put, List.setIfInBounds_toArray, List.set_cons_zero, List.set_cons_succ, i64_w, i32_w]; rfl) ?_
            refine pu_ 2 (some 74) (m_ 40 7) rfl rfl (by kernel_rfl) (fun _ _ _ h => h) (by rfl) (by intro w'; go_simp; with_reducible rfl) (by simp only [Act.put, List.setIfInBounds_toArray, List.set_cons_zero, List.set_cons_succ, i64_w, i32_w]; rfl) ?_
            refine tk_ 3 (some 75) (m_ 40 15) rfl rfl (by kernel_rfl) (fun _ _ _ h => h) (by rfl) (by rintro w' ⟨s0, s1, s2, s3, s4, s5, s6, s7, s8, s9, s10, s11⟩; go_simp; with_reducible rfl) hHeld (by simp only [Act.put, List.setIfInBounds_toArray, List.set_cons_zero, List.set_cons_succ, i64_w, i32_w]; rfl) ?_
            refine tk_ 4 (some 76) (m_ 40 31) rfl rfl (by kernel_rfl) (fun _ _ _ h => h) (by rfl) (by rintro w' ⟨s0, s1, s2, s3, s4, s5, s6, s7, s8, s9, s10, s11⟩; go_simp; with_reducible rfl) hHeld (by simp only [Act.put, List.setIfInBounds_toArray, List.set_cons_zero, List.set_cons_succ, i64_w, i32_w]; rfl) ?_
            refine pu_ 5 (some 77) (m_ 40 63) rfl rfl (by kernel_rfl) (fun _ _ _ h => h) (by rfl) (by intro w'; go_simp; with_reducible rfl) (by simp only [Act.put, List.setIfInBounds_toArray, List.set_cons_zero, List.set_cons_succ, i64_w, i32_w]; rfl) ?_
            refine pu_ 6 (some 78) (m_ 40 127) rfl rfl (by kernel_rfl) (fun _ _ _ h => h) (by rfl) (by intro w'; go_simp; with_reducible rfl) (by simp only [Act.put, List.setIfInBounds_toArray, List.set_cons_zero, List.set_cons_succ, i64_w, i32_w]; rfl) ?_
            refine po_ 7 (some 79) (m_ 40 255) rfl rfl (by kernel_rfl) (fun _ _ _ h => h) (by rfl) (by simp only [Act.put, List.setIfInBounds_toArray, List.set_cons_zero, List.set_cons_succ, i64_w, i32_w]; rfl) ?_
            refine po_ 8 (some 80) (m_ 40 511) rfl rfl (by kernel_rfl) (fun _ _ _ h => h) (by rfl) (by simp only [Act.put, List.setIfInBounds_toArray, List.set_cons_zero, List.set_cons_succ, i64_w, i32_w]; rfl) ?_
            refine po_ 9 (some 81) (m_ 40 1023) rfl rfl (by kernel_rfl) (fun _ _ _ h => h) (by rfl) (by simp only [Act.put, List.setIfInBounds_toArray, List.set_cons_zero, List.set_cons_succ, i64_w, i32_w]; rfl) ?_
            refine po_ 10 (some 82) (m_ 40 2047) rfl rfl (by kernel_rfl) (fun _ _ _ h => h) (by rfl) (by simp only [Act.put, List.setIfInBounds_toArray, List.set_cons_zero, List.set_cons_succ, i64_w, i32_w]; rfl) ?_
            refine po_ 11 (some 83) (m_ 40 4095) rfl rfl (by kernel_rfl) (fun _ _ _ h => h) (by rfl) (by simp only [Act.put, List.setIfInBounds_toArray, List.set_cons_zero, List.set_cons_succ, i64_w, i32_w]; rfl) ?_
            refine po_ 12 (some 84) (m_ 40 8191) rfl rfl (by kernel_rfl) (fun _ _ _ h => h) (by rfl) (by simp only [Act.put, List.setIfInBounds_toArray, List.set_cons_zero, List.set_cons_succ, i64_w, i32_w]; rfl) ?_
            refine pu_ 13 (some 85) (m_ 40 16383) rfl rfl (by kernel_rfl) (fun _ _ _ h => h) (by rfl) (by intro w'; go_simp; with_reducible rfl) (by simp only [Act.put, List.setIfInBounds_toArray, List.set_cons_zero, List.set_cons_succ, i64_w, i32_w]; rfl) ?_
            refine pu_ 14 (some 86) (m_ 40 32767) rfl rfl (by kernel_rfl) (fun _ _ _ h => h) (by rfl) (by intro w'; go_simp; with_reducible rfl) (by simp only [Act.put, List.setIfInBounds_toArray, List.set_cons_zero, List.set_cons_succ, i64_w, i32_w]; rfl) ?_
            refine pu_ 15 (some 87) (m_ 40 65535) rfl rfl (by kernel_rfl) (fun _ _ _ h => h) (by rfl) (by intro w'; go_simp; with_reducible rfl) (by simp only [Act.put, List.setIfInBounds_toArray, List.set_cons_zero, List.set_cons_succ, i64_w, i32_w]; rfl) ?_
            refine tk_ 16 (some 88) (m_ 40 131071) rfl rfl (by kernel_rfl) (fun _ _ _ h => h) (by rfl) (by rintro w' ⟨s0, s1, s2, s3, s4, s5, s6, s7, s8, s9, s10, s11⟩; go_simp; with_reducible rfl) hHeld (by simp only [Act.put, List.setIfInBounds_toArray, List.set_cons_zero, List.set_cons_succ, i64_w, i32_w]; rfl) ?_
            refine pu_ 17 (some 89) (m_ 40 262143) rfl rfl (by kernel_rfl) (fun _ _ _ h => h) (by rfl) (by intro w'; go_simp; with_reducible rfl) (by simp only [Act.put, List.setIfInBounds_toArray, List.set_cons_zero, List.set_cons_succ, i64_w, i32_w]; rfl) ?_
            refine pu_ 18 (some 90) (m_ 40 524287) rfl rfl (by kernel_rfl) (fun _ _ _ h => h) (by rfl) (by intro w'; go_simp; with_reducible rfl) (by simp only [Act.put, List.setIfInBounds_toArray, List.set_cons_zero, List.set_cons_succ, i64_w, i32_w]; rfl) ?_
            refine pu_ 19 (some 91) (m_ 40 1048575) rfl rfl (by kernel_rfl) (fun _ _ _ h => h) (by rfl) (by intro w'; go_simp; with_reducible rfl) (by simp only [Act.put, List.setIfInBounds_toArray, List.set_cons_zero, List.set_cons_succ, i64_w, i32_w]; rfl) ?_
            refine pu_ 20 (some 92) (m_ 40 2097151) rfl rfl (by kernel_rfl) (fun _ _ _ h => h) (by rfl) (by intro w'; go_simp; with_reducible rfl) (by simp only [Act.put, List.setIfInBounds_toArray, List.set_cons_zero, List.set_cons_succ, i64_w, i32_w]; rfl) ?_
            refine pu_ 21 (some 93) (m_ 40 4194303) rfl rfl (by kernel_rfl) (fun _ _ _ h => h) (by rfl) (by intro w'; go_simp; with_reducible rfl) (by simp only [Act.put, List.setIfInBounds_toArray, List.set_cons_zero, List.set_cons_succ, i64_w, i32_w]; rfl) ?_
            refine tk_ 22 (some 94) (m_ 40 8388607) rfl rfl (by kernel_rfl) (fun _ _ _ h => h) (by rfl) (by rintro w' ⟨s0, s1, s2, s3, s4, s5, s6, s7, s8, s9, s10, s11⟩; go_simp; with_reducible rfl) hHeld (by simp only [Act.put, List.setIfInBounds_toArray, List.set_cons_zero, List.set_cons_succ, i64_w, i32_w]; rfl) ?_
            refine tk_ 23 (some 95) (m_ 40 16777215) rfl rfl (by kernel_rfl) (fun _ _ _ h => h) (by rfl) (by rintro w' ⟨s0, s1, s2, s3, s4, s5, s6, s7, s8, s9, s10, s11⟩; go_simp; with_reducible rfl) hHeld (by simp only [Act.put, List.setIfInBounds_toArray, List.set_cons_zero, List.set_cons_succ, i64_w, i32_w]; rfl) ?_
            refine pu_ 24 (some 96) (m_ 40 33554431) rfl rfl (by kernel_rfl) (fun _ _ _ h => h) (by rfl) (by intro w'; go_simp; with_reducible rfl) (by simp only [Act.put, List.setIfInBounds_toArray, List.set_cons_zero, List.set_cons_succ, i64_w, i32_w]; rfl) ?_
            refine pu_ 25 (some 97) (m_ 40 67108863) rfl rfl (by kernel_rfl) (fun _ _ _ h => h) (by rfl) (by intro w'; go_simp; with_reducible rfl) (by simp only [Act.put, List.setIfInBounds_toArray, List.set_cons_zero, List.set_cons_succ, i64_w, i32_w]; rfl) ?_
            refine pu_ 26 (some 98) (m_ 40 134217727) rfl rfl (by kernel_rfl) (fun _ _ _ h => h) (by rfl) (by intro w'; go_simp; with_reducible rfl) (by simp only [Act.put, List.setIfInBounds_toArray, List.set_cons_zero, List.set_cons_succ, i64_w, i32_w]; rfl) ?_
            refine pu_ 27 (some 99) (m_ 40 268435455) rfl rfl (by kernel_rfl) (fun _ _ _ h => h) (by rfl) (by intro w'; go_simp; with_reducible rfl) (by simp only [Act.put, List.setIfInBounds_toArray, List.set_cons_zero, List.set_cons_succ, i64_w, i32_w]; rfl) ?_
            refine pu_ 28 (some 100) (m_ 40 536870911) rfl rfl (by kernel_rfl) (fun _ _ _ h => h) (by rfl) (by intro w'; go_simp; with_reducible rfl) (by simp only [Act.put, List.setIfInBounds_toArray, List.set_cons_zero, List.set_cons_succ, i64_w, i32_w]; rfl) ?_
            refine tk_ 29 (some 101) (m_ 40 1073741823) rfl rfl (by kernel_rfl) (fun _ _ _ h => h) (by rfl) (by rintro w' ⟨s0, s1, s2, s3, s4, s5, s6, s7, s8, s9, s10, s11⟩; go_simp; with_reducible rfl) hHeld (by simp only [Act.put, List.setIfInBounds_toArray, List.set_cons_zero, List.set_cons_succ, i64_w, i32_w]; rfl) ?_
            refine pu_ 30 (some 102) (m_ 40 2147483647) rfl rfl (by kernel_rfl) (fun _ _ _ h => h) (by rfl) (by intro w'; go_simp; with_reducible rfl) (by simp only [Act.put, List.setIfInBounds_toArray, List.set_cons_zero, List.set_cons_succ, i64_w, i32_w]; rfl) ?_
            refine pu_ 31 (some 103) (m_ 40 4294967295) rfl rfl (by kernel_rfl) (fun _ _ _ h => h) (by rfl) (by intro w'; go_simp; with_reducible rfl) (by simp only [Act.put, List.setIfInBounds_toArray, List.set_cons_zero, List.set_cons_succ, i64_w, i32_w]; rfl) ?_
            refine po_ 32 (some 104) (m_ 40 8589934591) rfl rfl (by kernel_rfl) (fun _ _ _ h => h) (by rfl) (by simp only [Act.put, List.setIfInBounds_toArray, List.set_cons_zero, List.set_cons_succ, i64_w, i32_w]; rfl) ?_
            refine po_ 33 (some 105) (m_ 40 17179869183) rfl rfl (by kernel_rfl) (fun _ _ _ h => h) (by rfl) (by simp only [Act.put, List.setIfInBounds_toArray, List.set_cons_zero, List.set_cons_succ, i64_w, i32_w]; rfl) ?_
            refine po_ 34 (some 106) (m_ 40 34359738367) rfl rfl (by kernel_rfl) (fun _ _ _ h => h) (by rfl) (by simp only [Act.put, List.setIfInBounds_toArray, List.set_cons_zero, List.set_cons_succ, i64_w, i32_w]; rfl) ?_
            refine po_ 35 (some 107) (m_ 40 68719476735) rfl rfl (by kernel_rfl) (fun _ _ _ h => h) (by rfl) (by simp only [Act.put, List.setIfInBounds_toArray, List.set_cons_zero, List.set_cons_succ, i64_w, i32_w]; rfl) ?_
            refine po_ 36 (some 108) (m_ 40 137438953471) rfl rfl (by kernel_rfl) (fun _ _ _ h => h) (by rfl) (by simp only [Act.put, List.setIfInBounds_toArray, List.set_cons_zero, List.set_cons_succ, i64_w, i32_w]; rfl) ?_
            refine po_ 37 (some 109) (m_ 40 274877906943) rfl rfl (by kernel_rfl) (fun _ _ _ h => h) (by rfl) (by simp only [Act.put, List.setIfInBounds_toArray, List.set_cons_zero, List.set_cons_succ, i64_w, i32_w]; rfl) ?_
            refine pu_ 38 (some 110) (m_ 40 549755813887) rfl rfl (by kernel_rfl) (fun _ _ _ h => h) (by rfl) (by intro w'; go_simp; with_reducible rfl) (by simp only [Act.put, List.setIfInBounds_toArray, List.set_cons_zero, List.set_cons_succ, i64_w, i32_w]; rfl) ?_
            refine pu_ 39 (some 111) (m_ 40 1099511627775) rfl rfl (by kernel_rfl) (fun _ _ _ h => h) (by rfl) (by intro w'; go_simp; with_reducible rfl) (by simp only [Act.put, List.setIfInBounds_toArray, List.set_cons_zero, List.set_cons_succ, i64_w, i32_w]; rfl) ?_
            refine done_ (by kernel_rfl) ?_
            clear hHeld
            go_wp2
            go_roundw
            case rel => exact ⟨k + 1, by omega, by go_num, by rw [hn3.out]; go_num, HBx.out.drew.drew⟩
            case measure => simp [intOf]; omega
          · have c1 : (t3 == 100) = false := by simpa using c0
            clear c0
            by_cases c0 : t3 = 0
            · obtain rfl := r3 c0
              have c2 : (t3 == 0) = true := by simpa using c0
              clear c0
              clear r1 r2 r3
              refine start_ (n := 40) (S := fun w' => w'.cell? ⟨g3, m * 6, none⟩ = some (.string q0) ∧ w'.cell? ⟨g3, m * 6 + 1, none⟩ = some (.int .i64 q1) ∧ w'.cell? ⟨g3, m * 6 + 2, none⟩ = some (.bool q2) ∧ w'.cell? ⟨g3, m * 6 + 3, none⟩ = some (.int .i64 q3) ∧ w'.cell? ⟨g3, m * 6 + 4, none⟩ = some (.int .i64 q4) ∧ w'.cell? ⟨g3, m * 6 + 5, none⟩ = some (.int .i64 q5) ∧ w'.cell? ⟨wr.heap.size, 0, none⟩ = some (.string t0) ∧ w'.cell? ⟨wr.heap.size, 1, none⟩ = some (.int .i64 t1) ∧ w'.cell? ⟨wr.heap.size, 2, none⟩ = some (.bool t2) ∧ w'.cell? ⟨wr.heap.size, 3, none⟩ = some (.int .i64 t3) ∧ w'.cell? ⟨wr.heap.size, 4, none⟩ = some (.int .i64 t4) ∧ w'.cell? ⟨wr.heap.size, 5, none⟩ = some (.int .i64 t5)) (ds := []) (m_ 40 0) (by kernel_rfl) rfl (by kernel_rfl) ⟨y0, y1, y2, y3, y4, y5, u0, u1, u2, u3, u4, u5⟩ (fun hHeld => ?_)
              refine pu_ 0 (some 72) (m_ 40 1) rfl rfl (by kernel_rfl) (fun _ _ _ h => h) (by rfl) (by intro w'; go_simp; with_reducible rfl) (by simp only [Act.put, List.setIfInBounds_toArray, List.set_cons_zero, List.set_cons_succ, i64_w, i32_w]; rfl) ?_
              refine pu_ 1 (some 73) (m_ 40 3) rfl rfl (by kernel_rfl) (fun _ _ _ h => h) (by rfl) (by intro w'; go_simp; with_reducible rfl) (by simp only [Act.put, List.setIfInBounds_toArray, List.set_cons_zero, List.set_cons_succ, i64_w, i32_w]; rfl) ?_
              refine pu_ 2 (some 74) (m_ 40 7) rfl rfl (by kernel_rfl) (fun _ _ _ h => h) (by rfl) (by intro w'; go_simp; with_reducible rfl) (by simp only [Act.put, List.setIfInBounds_toArray, List.set_cons_zero, List.set_cons_succ, i64_w, i32_w]; rfl) ?_
              refine tk_ 3 (some 75) (m_ 40 15) rfl rfl (by kernel_rfl) (fun _ _ _ h => h) (by rfl) (by rintro w' ⟨s0, s1, s2, s3, s4, s5, s6, s7, s8, s9, s10, s11⟩; go_simp; with_reducible rfl) hHeld (by simp only [Act.put, List.setIfInBounds_toArray, List.set_cons_zero, List.set_cons_succ, i64_w, i32_w]; rfl) ?_
              refine tk_ 4 (some 76) (m_ 40 31) rfl rfl (by kernel_rfl) (fun _ _ _ h => h) (by rfl) (by rintro w' ⟨s0, s1, s2, s3, s4, s5, s6, s7, s8, s9, s10, s11⟩; go_simp; with_reducible rfl) hHeld (by simp only [Act.put, List.setIfInBounds_toArray, List.set_cons_zero, List.set_cons_succ, i64_w, i32_w]; rfl) ?_
              refine pu_ 5 (some 77) (m_ 40 63) rfl rfl (by kernel_rfl) (fun _ _ _ h => h) (by rfl) (by intro w'; go_simp; with_reducible rfl) (by simp only [Act.put, List.setIfInBounds_toArray, List.set_cons_zero, List.set_cons_succ, i64_w, i32_w]; rfl) ?_
              refine pu_ 6 (some 78) (m_ 40 127) rfl rfl (by kernel_rfl) (fun _ _ _ h => h) (by rfl) (by intro w'; go_simp; with_reducible rfl) (by simp only [Act.put, List.setIfInBounds_toArray, List.set_cons_zero, List.set_cons_succ, i64_w, i32_w]; rfl) ?_
              refine po_ 7 (some 79) (m_ 40 255) rfl rfl (by kernel_rfl) (fun _ _ _ h => h) (by rfl) (by simp only [Act.put, List.setIfInBounds_toArray, List.set_cons_zero, List.set_cons_succ, i64_w, i32_w]; rfl) ?_
              refine po_ 8 (some 80) (m_ 40 511) rfl rfl (by kernel_rfl) (fun _ _ _ h => h) (by rfl) (by simp only [Act.put, List.setIfInBounds_toArray, List.set_cons_zero, List.set_cons_succ, i64_w, i32_w]; rfl) ?_
              refine po_ 9 (some 81) (m_ 40 1023) rfl rfl (by kernel_rfl) (fun _ _ _ h => h) (by rfl) (by simp only [Act.put, List.setIfInBounds_toArray, List.set_cons_zero, List.set_cons_succ, i64_w, i32_w]; rfl) ?_
              refine po_ 10 (some 82) (m_ 40 2047) rfl rfl (by kernel_rfl) (fun _ _ _ h => h) (by rfl) (by simp only [Act.put, List.setIfInBounds_toArray, List.set_cons_zero, List.set_cons_succ, i64_w, i32_w]; rfl) ?_
              refine po_ 11 (some 83) (m_ 40 4095) rfl rfl (by kernel_rfl) (fun _ _ _ h => h) (by rfl) (by simp only [Act.put, List.setIfInBounds_toArray, List.set_cons_zero, List.set_cons_succ, i64_w, i32_w]; rfl) ?_
              refine po_ 12 (some 84) (m_ 40 8191) rfl rfl (by kernel_rfl) (fun _ _ _ h => h) (by rfl) (by simp only [Act.put, List.setIfInBounds_toArray, List.set_cons_zero, List.set_cons_succ, i64_w, i32_w]; rfl) ?_
              refine pu_ 13 (some 85) (m_ 40 16383) rfl rfl (by kernel_rfl) (fun _ _ _ h => h) (by rfl) (by intro w'; go_simp; with_reducible rfl) (by simp only [Act.put, List.setIfInBounds_toArray, List.set_cons_zero, List.set_cons_succ, i64_w, i32_w]; rfl) ?_
              refine pu_ 14 (some 86) (m_ 40 32767) rfl rfl (by kernel_rfl) (fun _ _ _ h => h) (by rfl) (by intro w'; go_simp; with_reducible rfl) (by simp only [Act.put, List.setIfInBounds_toArray, List.set_cons_zero, List.set_cons_succ, i64_w, i32_w]; rfl) ?_
              refine pu_ 15 (some 87) (m_ 40 65535) rfl rfl (by kernel_rfl) (fun _ _ _ h => h) (by rfl) (by intro w'; go_simp; with_reducible rfl) (by simp only [Act.put, List.setIfInBounds_toArray, List.set_cons_zero, List.set_cons_succ, i64_w, i32_w]; rfl) ?_
              refine tk_ 16 (some 88) (m_ 40 131071) rfl rfl (by kernel_rfl) (fun _ _ _ h => h) (by rfl) (by rintro w' ⟨s0, s1, s2, s3, s4, s5, s6, s7, s8, s9, s10, s11⟩; go_simp; with_reducible rfl) hHeld (by simp only [Act.put, List.setIfInBounds_toArray, List.set_cons_zero, List.set_cons_succ, i64_w, i32_w]; rfl) ?_
              refine pu_ 17 (some 89) (m_ 40 262143) rfl rfl (by kernel_rfl) (fun _ _ _ h => h) (by rfl) (by intro w'; go_simp; with_reducible rfl) (by simp only [Act.put, List.setIfInBounds_toArray, List.set_cons_zero, List.set_cons_succ, i64_w, i32_w]; rfl) ?_
              refine pu_ 18 (some 90) (m_ 40 524287) rfl rfl (by kernel_rfl) (fun _ _ _ h => h) (by rfl) (by intro w'; go_simp; with_reducible rfl) (by simp only [Act.put, List.setIfInBounds_toArray, List.set_cons_zero, List.set_cons_succ, i64_w, i32_w]; rfl) ?_
              refine po_ 19 (some 91) (m_ 40 1048575) rfl rfl (by kernel_rfl) (fun _ _ _ h => h) (by rfl) (by simp only [Act.put, List.setIfInBounds_toArray, List.set_cons_zero, List.set_cons_succ, i64_w, i32_w]; rfl) ?_
              refine po_ 20 (some 92) (m_ 40 2097151) rfl rfl (by kernel_rfl) (fun _ _ _ h => h) (by rfl) (by simp only [Act.put, List.setIfInBounds_toArray, List.set_cons_zero, List.set_cons_succ, i64_w, i32_w]; rfl) ?_
              refine po_ 21 (some 93) (m_ 40 4194303) rfl rfl (by kernel_rfl) (fun _ _ _ h => h) (by rfl) (by simp only [Act.put, List.setIfInBounds_toArray, List.set_cons_zero, List.set_cons_succ, i64_w, i32_w]; rfl) ?_
              refine po_ 22 (some 94) (m_ 40 8388607) rfl rfl (by kernel_rfl) (fun _ _ _ h => h) (by rfl) (by simp only [Act.put, List.setIfInBounds_toArray, List.set_cons_zero, List.set_cons_succ, i64_w, i32_w]; rfl) ?_
              refine po_ 23 (some 95) (m_ 40 16777215) rfl rfl (by kernel_rfl) (fun _ _ _ h => h) (by rfl) (by simp only [Act.put, List.setIfInBounds_toArray, List.set_cons_zero, List.set_cons_succ, i64_w, i32_w]; rfl) ?_
              refine po_ 24 (some 96) (m_ 40 33554431) rfl rfl (by kernel_rfl) (fun _ _ _ h => h) (by rfl) (by simp only [Act.put, List.setIfInBounds_toArray, List.set_cons_zero, List.set_cons_succ, i64_w, i32_w]; rfl) ?_
              refine pu_ 25 (some 97) (m_ 40 67108863) rfl rfl (by kernel_rfl) (fun _ _ _ h => h) (by rfl) (by intro w'; go_simp; with_reducible rfl) (by simp only [Act.put, List.setIfInBounds_toArray, List.set_cons_zero, List.set_cons_succ, i64_w, i32_w]; rfl) ?_
              refine pu_ 26 (some 98) (m_ 40 134217727) rfl rfl (by kernel_rfl) (fun _ _ _ h => h) (by rfl) (by intro w'; go_simp; with_reducible rfl) (by simp only [Act.put, List.setIfInBounds_toArray, List.set_cons_zero, List.set_cons_succ, i64_w, i32_w]; rfl) ?_
              refine pu_ 27 (some 99) (m_ 40 268435455) rfl rfl (by kernel_rfl) (fun _ _ _ h => h) (by rfl) (by intro w'; go_simp; with_reducible rfl) (by simp only [Act.put, List.setIfInBounds_toArray, List.set_cons_zero, List.set_cons_succ, i64_w, i32_w]; rfl) ?_
              refine pu_ 28 (some 100) (m_ 40 536870911) rfl rfl (by kernel_rfl) (fun _ _ _ h => h) (by rfl) (by intro w'; go_simp; with_reducible rfl) (by simp only [Act.put, List.setIfInBounds_toArray, List.set_cons_zero, List.set_cons_succ, i64_w, i32_w]; rfl) ?_
              refine tk_ 29 (some 101) (m_ 40 1073741823) rfl rfl (by kernel_rfl) (fun _ _ _ h => h) (by rfl) (by rintro w' ⟨s0, s1, s2, s3, s4, s5, s6, s7, s8, s9, s10, s11⟩; go_simp; with_reducible rfl) hHeld (by simp only [Act.put, List.setIfInBounds_toArray, List.set_cons_zero, List.set_cons_succ, i64_w, i32_w]; rfl) ?_
              refine pu_ 30 (some 102) (m_ 40 2147483647) rfl rfl (by kernel_rfl) (fun _ _ _ h => h) (by rfl) (by intro w'; go_simp; with_reducible rfl) (by simp only [Act.put, List.setIfInBounds_toArray, List.set_cons_zero, List.set_cons_succ, i64_w, i32_w]; rfl) ?_
              refine pu_ 31 (some 103) (m_ 40 4294967295) rfl rfl (by kernel_rfl) (fun _ _ _ h => h) (by rfl) (by intro w'; go_simp; with_reducible rfl) (by simp only [Act.put, List.setIfInBounds_toArray, List.set_cons_zero, List.set_cons_succ, i64_w, i32_w]; rfl) ?_
              refine pu_ 32 (some 104) (m_ 40 8589934591) rfl rfl (by kernel_rfl) (fun _ _ _ h => h) (by rfl) (by intro w'; go_simp; with_reducible rfl) (by simp only [Act.put, List.setIfInBounds_toArray, List.set_cons_zero, List.set_cons_succ, i64_w, i32_w]; rfl) ?_
              refine pu_ 33 (some 105) (m_ 40 17179869183) rfl rfl (by kernel_rfl) (fun _ _ _ h => h) (by rfl) (by intro w'; go_simp; with_reducible rfl) (by simp only [Act.put, List.setIfInBounds_toArray, List.set_cons_zero, List.set_cons_succ, i64_w, i32_w]; rfl) ?_
              refine pu_ 34 (some 106) (m_ 40 34359738367) rfl rfl (by kernel_rfl) (fun _ _ _ h => h) (by rfl) (by intro w'; go_simp; with_reducible rfl) (by simp only [Act.put, List.setIfInBounds_toArray, List.set_cons_zero, List.set_cons_succ, i64_w, i32_w]; rfl) ?_
              refine pu_ 36 (some 108) (m_ 40 103079215103) rfl rfl (by kernel_rfl) (fun _ _ _ h => h) (by rfl) (by intro w'; go_simp; with_reducible rfl) (by simp only [Act.put, List.setIfInBounds_toArray, List.set_cons_zero, List.set_cons_succ, i64_w, i32_w]; rfl) ?_
              refine tk_ 35 (some 107) (m_ 40 137438953471) rfl rfl (by kernel_rfl) (fun _ _ _ h => h) (by rfl) (by rintro w' ⟨s0, s1, s2, s3, s4, s5, s6, s7, s8, s9, s10, s11⟩; go_simp; with_reducible rfl) hHeld (by simp only [Act.put, List.setIfInBounds_toArray, List.set_cons_zero, List.set_cons_succ, i64_w, i32_w]; rfl) ?_
              refine pu_ 37 (some 109) (m_ 40 274877906943) rfl rfl (by kernel_rfl) (fun _ _ _ h => h) (by rfl) (by intro w'; go_simp; with_reducible rfl) (by simp only [Act.put, List.setIfInBounds_toArray, List.set_cons_zero, List.set_cons_succ, i64_w, i32_w]; rfl) ?_
              refine pu_ 38 (some 110) (m_ 40 549755813887) rfl rfl (by kernel_rfl) (fun _ _ _ h => h) (by rfl) (by intro w'; go_simp; with_reducible rfl) (by simp only [Act.put, List.setIfInBounds_toArray, List.set_cons_zero, List.set_cons_succ, i64_w, i32_w]; rfl) ?_
              refine pu_ 39 (some 111) (m_ 40 1099511627775) rfl rfl (by kernel_rfl) (fun _ _ _ h => h) (by rfl) (by intro w'; go_simp; with_reducible rfl) (by simp only [Act.put, List.setIfInBounds_toArray, List.set_cons_zero, List.set_cons_succ, i64_w, i32_w]; rfl) ?_
              refine done_ (by kernel_rfl) ?_
              clear hHeld
              go_wp2
              go_roundw
              case rel => exact ⟨k + 1, by omega, by go_num, by rw [hn3.out]; go_num, HBx.out.drew.drew⟩
              case measure => simp [intOf]; omega
            · have c2 : (t3 == 0) = false := by simpa using c0
              clear c0
              clear r1 r2 r3
              refine start_ (n := 40) (S := fun w' => w'.cell? ⟨g3, m * 6, none⟩ = some (.string q0) ∧ w'.cell? ⟨g3, m * 6 + 1, none⟩ = some (.int .i64 q1) ∧ w'.cell? ⟨g3, m * 6 + 2, none⟩ = some (.bool q2) ∧ w'.cell? ⟨g3, m * 6 + 3, none⟩ = some (.int .i64 q3) ∧ w'.cell? ⟨g3, m * 6 + 4, none⟩ = some (.int .i64 q4) ∧ w'.cell? ⟨g3, m * 6 + 5, none⟩ = some (.int .i64 q5) ∧ w'.cell? ⟨wr.heap.size, 0, none⟩ = some (.string t0) ∧ w'.cell? ⟨wr.heap.size, 1, none⟩ = some (.int .i64 t1) ∧ w'.cell? ⟨wr.heap.size, 2, none⟩ = some (.bool t2) ∧ w'.cell? ⟨wr.heap.size, 3, none⟩ = some (.int .i64 t3) ∧ w'.cell? ⟨wr.heap.size, 4, none⟩ = some (.int .i64 t4) ∧ w'.cell? ⟨wr.heap.size, 5, none⟩ = some (.int .i64 t5)) (ds := []) (m_ 40 0) (by kernel_rfl) rfl (by kernel_rfl) ⟨y0, y1, y2, y3, y4, y5, u0, u1, u2, u3, u4, u5⟩ (fun hHeld => ?_)
              refine pu_ 0 (some 72) (m_ 40 1) rfl rfl (by kernel_rfl) (fun _ _ _ h => h) (by rfl) (by intro w'; go_simp; with_reducible rfl) (by simp only [Act.put, List.setIfInBounds_toArray, List.set_cons_zero, List.set_cons_succ, i64_w, i32_w]; rfl) ?_
              refine pu_ 1 (some 73) (m_ 40 3) rfl rfl (by kernel_rfl) (fun _ _ _ h => h) (by rfl) (by intro w'; go_simp; with_reducible rfl) (by simp only [Act.put, List.setIfInBounds_toArray, List.set_cons_zero, List.set_cons_succ, i64_w, i32_w]; rfl) ?_
              refine pu_ 2 (some 74) (m_ 40 7) rfl rfl (by kernel_rfl) (fun _ _ _ h => h) (by rfl) (by intro w'; go_simp; with_reducible rfl) (by simp only [Act.put, List.setIfInBounds_toArray, List.set_cons_zero, List.set_cons_succ, i64_w, i32_w]; rfl) ?_
              refine tk_ 3 (some 75) (m_ 40 15) rfl rfl (by kernel_rfl) (fun _ _ _ h => h) (by rfl) (by rintro w' ⟨s0, s1, s2, s3, s4, s5, s6, s7, s8, s9, s10, s11⟩; go_simp; with_reducible rfl) hHeld (by simp only [Act.put, List.setIfInBounds_toArray, List.set_cons_zero, List.set_cons_succ, i64_w, i32_w]; rfl) ?_
              refine tk_ 4 (some 76) (m_ 40 31) rfl rfl (by kernel_rfl) (fun _ _ _ h => h) (by rfl) (by rintro w' ⟨s0, s1, s2, s3, s4, s5, s6, s7, s8, s9, s10, s11⟩; go_simp; with_reducible rfl) hHeld (by simp only [Act.put, List.setIfInBounds_toArray, List.set_cons_zero, List.set_cons_succ, i64_w, i32_w]; rfl) ?_
              refine pu_ 5 (some 77) (m_ 40 63) rfl rfl (by kernel_rfl) (fun _ _ _ h => h) (by rfl) (by intro w'; go_simp; with_reducible rfl) (by simp only [Act.put, List.setIfInBounds_toArray, List.set_cons_zero, List.set_cons_succ, i64_w, i32_w]; rfl) ?_
              refine pu_ 6 (some 78) (m_ 40 127) rfl rfl (by kernel_rfl) (fun _ _ _ h => h) (by rfl) (by intro w'; go_simp; with_reducible rfl) (by simp only [Act.put, List.setIfInBounds_toArray, List.set_cons_zero, List.set_cons_succ, i64_w, i32_w]; rfl) ?_
              refine po_ 7 (some 79) (m_ 40 255) rfl rfl (by kernel_rfl) (fun _ _ _ h => h) (by rfl) (by simp only [Act.put, List.setIfInBounds_toArray, List.set_cons_zero, List.set_cons_succ, i64_w, i32_w]; rfl) ?_
              refine po_ 8 (some 80) (m_ 40 511) rfl rfl (by kernel_rfl) (fun _ _ _ h => h) (by rfl) (by simp only [Act.put, List.setIfInBounds_toArray, List.set_cons_zero, List.set_cons_succ, i64_w, i32_w]; rfl) ?_
              refine po_ 9 (some 81) (m_ 40 1023) rfl rfl (by kernel_rfl) (fun _ _ _ h => h) (by rfl) (by simp only [Act.put, List.setIfInBounds_toArray, List.set_cons_zero, List.set_cons_succ, i64_w, i32_w]; rfl) ?_
              refine po_ 10 (some 82) (m_ 40 2047) rfl rfl (by kernel_rfl) (fun _ _ _ h => h) (by rfl) (by simp only [Act.put, List.setIfInBounds_toArray, List.set_cons_zero, List.set_cons_succ, i64_w, i32_w]; rfl) ?_
              refine po_ 11 (some 83) (m_ 40 4095) rfl rfl (by kernel_rfl) (fun _ _ _ h => h) (by rfl) (by simp only [Act.put, List.setIfInBounds_toArray, List.set_cons_zero, List.set_cons_succ, i64_w, i32_w]; rfl) ?_
              refine po_ 12 (some 84) (m_ 40 8191) rfl rfl (by kernel_rfl) (fun _ _ _ h => h) (by rfl) (by simp only [Act.put, List.setIfInBounds_toArray, List.set_cons_zero, List.set_cons_succ, i64_w, i32_w]; rfl) ?_
              refine pu_ 13 (some 85) (m_ 40 16383) rfl rfl (by kernel_rfl) (fun _ _ _ h => h) (by rfl) (by intro w'; go_simp; with_reducible rfl) (by simp only [Act.put, List.setIfInBounds_toArray, List.set_cons_zero, List.set_cons_succ, i64_w, i32_w]; rfl) ?_
              refine pu_ 14 (some 86) (m_ 40 32767) rfl rfl (by kernel_rfl) (fun _ _ _ h => h) (by rfl) (by intro w'; go_simp; with_reducible rfl) (by simp only [Act.put, List.setIfInBounds_toArray, List.set_cons_zero, List.set_cons_succ, i64_w, i32_w]; rfl) ?_
              refine pu_ 15 (some 87) (m_ 40 65535) rfl rfl (by kernel_rfl) (fun _ _ _ h => h) (by rfl) (by intro w'; go_simp; with_reducible rfl) (by simp only [Act.put, List.setIfInBounds_toArray, List.set_cons_zero, List.set_cons_succ, i64_w, i32_w]; rfl) ?_
              refine tk_ 16 (some 88) (m_ 40 131071) rfl rfl (by kernel_rfl) (fun _ _ _ h => h) (by rfl) (by rintro w' ⟨s0, s1, s2, s3, s4, s5, s6, s7, s8, s9, s10, s11⟩; go_simp; with_reducible rfl) hHeld (by simp only [Act.put, List.setIfInBounds_toArray, List.set_cons_zero, List.set_cons_succ, i64_w, i32_w]; rfl) ?_
              refine pu_ 17 (some 89) (m_ 40 262143) rfl rfl (by kernel_rfl) (fun _ _ _ h => h) (by rfl) (by intro w'; go_simp; with_reducible rfl) (by simp only [Act.put, List.setIfInBounds_toArray, List.set_cons_zero, List.set_cons_succ, i64_w, i32_w]; rfl) ?_
              refine pu_ 18 (some 90) (m_ 40 524287) rfl rfl (by kernel_rfl) (fun _ _ _ h => h) (by rfl) (by intro w'; go_simp; with_reducible rfl) (by simp only [Act.put, List.setIfInBounds_toArray, List.set_cons_zero, List.set_cons_succ, i64_w, i32_w]; rfl) ?_
              refine po_ 19 (some 91) (m_ 40 1048575) rfl rfl (by kernel_rfl) (fun _ _ _ h => h) (by rfl) (by simp only [Act.put, List.setIfInBounds_toArray, List.set_cons_zero, List.set_cons_succ, i64_w, i32_w]; rfl) ?_
              refine po_ 20 (some 92) (m_ 40 2097151) rfl rfl (by kernel_rfl) (fun _ _ _ h => h) (by rfl) (by simp only [Act.put, List.setIfInBounds_toArray, List.set_cons_zero, List.set_cons_succ, i64_w, i32_w]; rfl) ?_
              refine po_ 21 (some 93) (m_ 40 4194303) rfl rfl (by kernel_rfl) (fun _ _ _ h => h) (by rfl) (by simp only [Act.put, List.setIfInBounds_toArray, List.set_cons_zero, List.set_cons_succ, i64_w, i32_w]; rfl) ?_
              refine po_ 22 (some 94) (m_ 40 8388607) rfl rfl (by kernel_rfl) (fun _ _ _ h => h) (by rfl) (by simp only [Act.put, List.setIfInBounds_toArray, List.set_cons_zero, List.set_cons_succ, i64_w, i32_w]; rfl) ?_
              refine po_ 23 (some 95) (m_ 40 16777215) rfl rfl (by kernel_rfl) (fun _ _ _ h => h) (by rfl) (by simp only [Act.put, List.setIfInBounds_toArray, List.set_cons_zero, List.set_cons_succ, i64_w, i32_w]; rfl) ?_
              refine po_ 24 (some 96) (m_ 40 33554431) rfl rfl (by kernel_rfl) (fun _ _ _ h => h) (by rfl) (by simp only [Act.put, List.setIfInBounds_toArray, List.set_cons_zero, List.set_cons_succ, i64_w, i32_w]; rfl) ?_
              refine pu_ 25 (some 97) (m_ 40 67108863) rfl rfl (by kernel_rfl) (fun _ _ _ h => h) (by rfl) (by intro w'; go_simp; with_reducible rfl) (by simp only [Act.put, List.setIfInBounds_toArray, List.set_cons_zero, List.set_cons_succ, i64_w, i32_w]; rfl) ?_
              refine pu_ 26 (some 98) (m_ 40 134217727) rfl rfl (by kernel_rfl) (fun _ _ _ h => h) (by rfl) (by intro w'; go_simp; with_reducible rfl) (by simp only [Act.put, List.setIfInBounds_toArray, List.set_cons_zero, List.set_cons_succ, i64_w, i32_w]; rfl) ?_
              refine pu_ 27 (some 99) (m_ 40 268435455) rfl rfl (by kernel_rfl) (fun _ _ _ h => h) (by rfl) (by intro w'; go_simp; with_reducible rfl) (by simp only [Act.put, List.setIfInBounds_toArray, List.set_cons_zero, List.set_cons_succ, i64_w, i32_w]; rfl) ?_
              refine pu_ 28 (some 100) (m_ 40 536870911) rfl rfl (by kernel_rfl) (fun _ _ _ h => h) (by rfl) (by intro w'; go_simp; with_reducible rfl) (by simp only [Act.put, List.setIfInBounds_toArray, List.set_cons_zero, List.set_cons_succ, i64_w, i32_w]; rfl) ?_
              refine tk_ 29 (some 101) (m_ 40 1073741823) rfl rfl (by kernel_rfl) (fun _ _ _ h => h) (by rfl) (by rintro w' ⟨s0, s1, s2, s3, s4, s5, s6, s7, s8, s9, s10, s11⟩; go_simp; with_reducible rfl) hHeld (by simp only [Act.put, List.setIfInBounds_toArray, List.set_cons_zero, List.set_cons_succ, i64_w, i32_w]; rfl) ?_
              refine pu_ 30 (some 102) (m_ 40 2147483647) rfl rfl (by kernel_rfl) (fun _ _ _ h => h) (by rfl) (by intro w'; go_simp; with_reducible rfl) (by simp only [Act.put, List.setIfInBounds_toArray, List.set_cons_zero, List.set_cons_succ, i64_w, i32_w]; rfl) ?_
              refine pu_ 31 (some 103) (m_ 40 4294967295) rfl rfl (by kernel_rfl) (fun _ _ _ h => h) (by rfl) (by intro w'; go_simp; with_reducible rfl) (by simp only [Act.put, List.setIfInBounds_toArray, List.set_cons_zero, List.set_cons_succ, i64_w, i32_w]; rfl) ?_
              refine po_ 32 (some 104) (m_ 40 8589934591) rfl rfl (by kernel_rfl) (fun _ _ _ h => h) (by rfl) (by simp only [Act.put, List.setIfInBounds_toArray, List.set_cons_zero, List.set_cons_succ, i64_w, i32_w]; rfl) ?_
              refine po_ 33 (some 105) (m_ 40 17179869183) rfl rfl (by kernel_rfl) (fun _ _ _ h => h) (by rfl) (by simp only [Act.put, List.setIfInBounds_toArray, List.set_cons_zero, List.set_cons_succ, i64_w, i32_w]; rfl) ?_
              refine po_ 34 (some 106) (m_ 40 34359738367) rfl rfl (by kernel_rfl) (fun _ _ _ h => h) (by rfl) (by simp only [Act.put, List.setIfInBounds_toArray, List.set_cons_zero, List.set_cons_succ, i64_w, i32_w]; rfl) ?_
              refine po_ 35 (some 107) (m_ 40 68719476735) rfl rfl (by kernel_rfl) (fun _ _ _ h => h) (by rfl) (by simp only [Act.put, List.setIfInBounds_toArray, List.set_cons_zero, List.set_cons_succ, i64_w, i32_w]; rfl) ?_
              refine po_ 36 (some 108) (m_ 40 137438953471) rfl rfl (by kernel_rfl) (fun _ _ _ h => h) (by rfl) (by simp only [Act.put, List.setIfInBounds_toArray, List.set_cons_zero, List.set_cons_succ, i64_w, i32_w]; rfl) ?_
              refine po_ 37 (some 109) (m_ 40 274877906943) rfl rfl (by kernel_rfl) (fun _ _ _ h => h) (by rfl) (by simp only [Act.put, List.setIfInBounds_toArray, List.set_cons_zero, List.set_cons_succ, i64_w, i32_w]; rfl) ?_
              refine pu_ 38 (some 110) (m_ 40 549755813887) rfl rfl (by kernel_rfl) (fun _ _ _ h => h) (by rfl) (by intro w'; go_simp; with_reducible rfl) (by simp only [Act.put, List.setIfInBounds_toArray, List.set_cons_zero, List.set_cons_succ, i64_w, i32_w]; rfl) ?_
              refine pu_ 39 (some 111) (m_ 40 1099511627775) rfl rfl (by kernel_rfl) (fun _ _ _ h => h) (by rfl) (by intro w'; go_simp; with_reducible rfl) (by simp only [Act.put, List.setIfInBounds_toArray, List.set_cons_zero, List.set_cons_succ, i64_w, i32_w]; rfl) ?_
              refine done_ (by kernel_rfl) ?_
              clear hHeld
              go_wp2
              go_roundw
              case rel => exact ⟨k + 1, by omega, by go_num, by rw [hn3.out]; go_num, HBx.out.drew.drew⟩
              case measure => simp [intOf]; omega
      · have e3 : (t2 == up) = false := by simpa using k3
        have hn2 := Lib.hid (show ofWay (L.take (k + 1)) up = ofWay (L.take k) up from by rw [hnx.out, if_neg k3])
        clear hgt hnx k3
        go_wp2
        go_roundw
        case rel => exact ⟨k + 1, by omega, by go_num, by rw [hn2.out], HBx.out⟩
        case measure => simp [intOf]; omega
    · have hk2 : k = L.length := by omega
      subst hk2
      have hnl : ¬ (L.length < L.length) := by omega
      rw [List.take_length]
      clear hB
      have hBB := Lib.hid (bw_below hB4.out HB.out)
      clear HNC HTC Hda
      go_wp2_with (go_at_call 6; (with_reducible refine (alive_any _).mono ?_); rintro e w6 ⟨rfl, hB6⟩; have hB6' := Lib.hid hB6; clear hB6)
      go_ret
      exact ⟨by simp, bw_below hBB.out hB6'.out⟩
theorem LinkDraws_any (sv : Value) (L : List Tox) (up : Bool) (seed room : Int) (w : World) (hs : Seats w sv L up seed room) :
    Calls Try.prog 4 #[sv] w fun e w' => e = .returned (.bool true) ∧ Below w.heap.size w w' := by
  obtain ⟨sa, sc, rfl, hs, h0, h1⟩ := hs
  by_cases hr : linkE L room = 0
  · exact LinkDraws_yes sa sc L up seed room w hs h0 h1 hr
  · exact LinkDraws_none sa sc L up seed room w hs h0 h1 hr
end Go.Proofs.Ytoiibmcbjjnpbaa.Link
