/- The laws ChainCounts, ChainKeeps, ChainEnds, ChainSafe (chapter 11). Conditions: each text is shorter than 2^47 bytes. -/
import Derived.Test.YtigimpkjfmfkhaaQ24
namespace Go.Proofs.Ytigimpkjfmfkhaa.Chain
open Go.RowKit Mem Tick Cargo Toxic Stage
set_option maxRecDepth 100000
set_option linter.unusedVariables false
set_option linter.unusedSimpArgs false
theorem bytes_s (l : List Op) (k : Nat) (p : Op) (h : l[k]? = some p) : bytesOf (l.take (k + 1)) = bytesOf (l.take k) + (p.s.size + p.t.name.size) := bytesOf_take l k p h
theorem ok_next {x : Ch} {l : List Op} {k : Nat} {p : Op} (ho : OkC x (bytesOf (l.take k)) (20000 * k)) (hx : l[k]? = some p) (hb : bytesOf l ≤ 2000) : OkC (doesC x p) (bytesOf (l.take (k + 1))) (20000 * (k + 1 : Nat)) := by
  have h1 := bytes_s l k p hx
  have h2 := bytesOf_le l (k + 1)
  refine (ok_does ho (by omega) p).more ?_ ?_ <;> omega
theorem cnt_w (i o n s hd lo : Nat) (a0 : Int) (ha : a0 = (n : Int)) (h : i + n = o + s + hd + lo) (hb : i + n ≤ 2000) :
    wrap64 ((i : Int) + a0) = (i : Int) + (n : Int) ∧ wrap64 ((o : Int) + (s : Int)) = (o : Int) + (s : Int) ∧ wrap64 ((o : Int) + (s : Int) + (hd : Int)) = (o : Int) + (s : Int) + (hd : Int) ∧ wrap64 ((o : Int) + (s : Int) + (hd : Int) + (lo : Int)) = (i : Int) + (n : Int) := by
  subst ha
  refine ⟨?_, ?_, ?_, ?_⟩ <;> unfold wrap64 <;> omega
theorem ChainCounts_none (room : Int) (v : Value) (w : World) (hr : roomOk room = false) :
    Calls Try.prog 4 #[.int .i64 room, v] w fun e w' => e = .returned (.bool true) ∧ Below w.heap.size w w' := by
  have hn := fun (wr : World) => cNew_bad room 0 wr hr
  go_enter Try.func4, Try.ntmps4
  go_wp2_with fail
  refine (hn _).mono ?_
  rintro e w1 ⟨rfl, hB⟩
  have hB1 := Lib.hid hB
  clear hn hB
  go_wp2_with (go_at_call 9; (with_reducible refine (alive_any _).mono ?_); rintro e w2 ⟨rfl, hB2⟩; have hB2' := Lib.hid hB2; clear hB2)
  go_ret
  exact ⟨rfl, bw_below hB1.out hB2'.out⟩
theorem ChainCounts_long (room : Int) (v : Value) (l : List Op) (w : World) (hv : Script w v l) (hr : roomOk room = true) (hf : fewB l = false) :
    Calls Try.prog 4 #[.int .i64 room, v] w fun e w' => e = .returned (.bool true) ∧ Below w.heap.size w w' := by
  have hn := fun (wr : World) hB => live_newC (w := w) (wr := wr) room 0 hr hB
  have hv' := Lib.hid hv
  have hf' := Lib.hid hf
  clear hr hv hf
  go_enter Try.func4, Try.ntmps4
  go_wp2_with fail
  refine (hn _ (Below.refl _ _)).mono ?_
  rintro e w1 ⟨c, rfl, hL, hB⟩
  have hB1 := Lib.hid hL.old
  clear hn hB hL
  go_wp2_with fail
  refine (few_any v l _ (hv'.out.below hB1.out)).mono ?_
  rintro e w2 ⟨rfl, hB⟩
  rw [hf'.out]
  have hB2 := Lib.hid (bw_below hB1.out hB)
  clear hB
  go_wp2_with (go_at_call 9; (with_reducible refine (alive_any _).mono ?_); rintro e w2 ⟨rfl, hB2⟩; have hB2' := Lib.hid hB2; clear hB2)
  go_ret
  exact ⟨rfl, bw_below hB2.out hB2'.out⟩
set_option maxHeartbeats 2000000 in
theorem ChainCounts_yes (room : Int) (v : Value) (l : List Op) (w : World) (hv : Script w v l) (hr : roomOk room = true) (hf : fewB l = true) :
    Calls Try.prog 4 #[.int .i64 room, v] w fun e w' => e = .returned (.bool true) ∧ Below w.heap.size w w' := by
  have hn := fun (wr : World) hB => live_newC (w := w) (wr := wr) room 0 hr hB
  have hv' := Lib.hid hv
  have hf' := Lib.hid hf
  have hn5 : bytesOf l ≤ 2000 := by simp [fewB] at hf; exact hf.2
  have hl2 : l.length ≤ 80 := by simp [fewB] at hf; exact hf.1
  obtain ⟨a, cap, rfl, hmx, -, hA⟩ := hv
  have hok0 := Lib.hid (ok_newC room 0 hr)
  clear hr hf
  go_enter Try.func4, Try.ntmps4
  go_wp2_with fail
  refine (hn _ (Below.refl _ _)).mono ?_
  rintro e w1 ⟨c, rfl, hL, hB⟩
  have H1 := Lib.hid hL
  clear hn hB hL
  go_wp2_with fail
  refine (few_any _ l _ (hv'.out.below H1.out.old)).mono ?_
  rintro e w2 ⟨rfl, hB⟩
  rw [hf'.out]
  have H2 := Lib.hid (H1.out.below hB)
  clear hB H1
  go_wp2
  go_loopw [7, 8, 31] (fun nv ov iv wr => ∃ (k : Nat) (x : Ch) (i o : Nat), k ≤ l.length ∧ iv = .int .i64 k ∧ nv = .int .i64 (i : Nat) ∧ ov = .int .i64 (o : Nat) ∧ LiveC w wr c x ∧ OkC x (bytesOf (l.take k)) (20000 * k) ∧ CntI x ∧ (i : Int) = o + heldL x.l + x.lost ∧ i ≤ bytesOf (l.take k)) (fun _ _ iv _ => l.length - (intOf iv).toNat)
  case atStart => exact ⟨0, newC room 0, 0, 0, by omega, rfl, rfl, rfl, H2.out, hok0.out, cnt_new room 0, by have h1 := hok0.out.held; have h2 := hok0.out.lost0; have h3 := hok0.out.lost; omega, Nat.zero_le _⟩
  case round =>
    obtain ⟨k, x, i, o, hk, rfl, rfl, rfl, hL, hok, hcn, hio, hin⟩ := hrel
    clear H2
    by_cases hlt : k < l.length
    · obtain ⟨g, oo, rfl, hc⟩ := hA (by intro h; subst h; simp at hlt)
      have hx : l[k]? = some l[k] := List.getElem?_eq_getElem hlt
      obtain ⟨d0, d1, d2, d3, d4, d5, d6, d7, d8, d9, d10⟩ := hc k _ hx
      have hbt := bytes_s l k _ hx
      have hble := bytesOf_le l (k + 1)
      rw [hbt] at hble
      have hbt' := Lib.hid hbt
      have hnext := Lib.hid (ok_next hok hx hn5)
      clear hbt
      generalize l[k] = p at *
      obtain ⟨p0, p1, p2, p3, ⟨t0, t1, t2, t3, t4, t5⟩, p5⟩ := p
      dsimp only at *
      have hold := hL.old
      have d0' := bcells hold d0
      have d1' := bcells hold d1
      have d2' := bcells hold d2
      have d3' := bcells hold d3
      have d4' := bcells hold d4
      have d5' := bcells hold d5
      have d6' := bcells hold d6
      have d7' := bcells hold d7
      have d8' := bcells hold d8
      have d9' := bcells hold d9
      have d10' := bcells hold d10
      have hL' := Lib.hid hL
      have hok' := Lib.hid hok
      have hszw : w.heap.size ≤ wr.heap.size := hold.size
      have hM0 : (bytesOf (l.take k) : Int) + p3.size ≤ 10000000 := by omega
      have hQ0 : (20000 * k : Int) ≤ 100000000 := by omega
      have hcs := Lib.hid (hcn.does ⟨p0, p1, p2, p3, ⟨t0, t1, t2, t3, t4, t5⟩, p5⟩)
      have hfl := Lib.hid (flow_massIO (flow_does x ⟨p0, p1, p2, p3, ⟨t0, t1, t2, t3, t4, t5⟩, p5⟩))
      have hic := Lib.hid (inC_size x ⟨p0, p1, p2, p3, ⟨t0, t1, t2, t3, t4, t5⟩, p5⟩)
      have hil := Lib.hid (inC_le x ⟨p0, p1, p2, p3, ⟨t0, t1, t2, t3, t4, t5⟩, p5⟩)
      have hst := Lib.hid (show p0 = 0 → (doesA x ⟨p0, p1, p2, p3, ⟨t0, t1, t2, t3, t4, t5⟩, p5⟩).1 = ((putCN x p1 p3 : Nat) : Int) from fun e => by unfold doesA; rw [if_pos e])
      have hio' := Lib.hid hio
      have hin' := Lib.hid hin
      clear hc hx hA hio hin hold hL hok hcn d0 d1 d2 d3 d4 d5 d6 d7 d8 d9 d10
      go_wp2_with fail
      have hBx : Below wr.heap.size wr (wr.alloc (.cells #[.int .i64 p0, .int .i64 p1, .int .i64 p2, .string p3, .string t0, .int .i64 t1, .bool t2, .int .i64 t3, .int .i64 t4, .int .i64 t5, .int .u64 p5] 41)) := (Below.refl _ _).alloc (Nat.le_refl _) _
      refine (live_does (hL'.out.below hBx) hok'.out ⟨p0, p1, p2, p3, ⟨t0, t1, t2, t3, t4, t5⟩, p5⟩ hM0 hQ0).mono ?_
      rintro e w3 ⟨rfl, hL3, hK3⟩
      have HX3 := Lib.hid (hK3 _ _ _ (Blk.new wr 41 #[.int .i64 p0, .int .i64 p1, .int .i64 p2, .string p3, .string t0, .int .i64 t1, .bool t2, .int .i64 t3, .int .i64 t4, .int .i64 t5, .int .u64 p5]) (by decide))
      have HL3 := Lib.hid hL3
      clear hL3 hK3 hBx hL'
      try dsimp only at hnext hcs hfl hic hil
      generalize doesC x ⟨p0, p1, p2, p3, ⟨t0, t1, t2, t3, t4, t5⟩, p5⟩ = y at *
      generalize doesA x ⟨p0, p1, p2, p3, ⟨t0, t1, t2, t3, t4, t5⟩, p5⟩ = an at *
      generalize inC x ⟨p0, p1, p2, p3, ⟨t0, t1, t2, t3, t4, t5⟩, p5⟩ = ic at *
      generalize putCN x p1 p3 = N at *
      obtain ⟨a0, a1, a2⟩ := an
      dsimp only at *
      have hlo0 := hnext.out.lost0
      obtain ⟨lo, hlo⟩ : ∃ lo : Nat, y.lost = (lo : Int) := ⟨y.lost.toNat, by omega⟩
      have hlo' := Lib.hid hlo
      have hxl := hok'.out.lost0
      have hf1 := hfl.out.1
      have hf2 := hil.out
      have hf3 := hio'.out
      have hf4 := hin'.out
      rw [hlo] at hf1
      have ha0 := hcs.out.2.2
      have HA := Lib.hid (Blk.new w3 43 #[.int .i64 a0, .string a1, .int .i64 a2])
      have r0 : w3.cell? ⟨wr.heap.size, 0, none⟩ = some (.int .i64 p0) := (HX3.out.cell 0).trans rfl
      have hwz : wr.heap.size < w3.heap.size := HX3.out.lt
      have HLA := Lib.hid (HL3.out.below ((Below.refl w3.heap.size w3).alloc (Nat.le_refl _) (.cells #[.int .i64 a0, .string a1, .int .i64 a2] 43)))
      have hokn := Lib.hid (show OkC y (bytesOf (l.take (k + 1))) 1000000000 from hnext.out.more (Int.le_refl _) (by omega))
      have hMn := Lib.hid (show (bytesOf (l.take (k + 1)) : Int) ≤ 1000000000 by rw [hbt'.out]; omega)
      have tn : decide (a0 < 0) = false := decide_eq_false (by omega)
      have tl : decide ((lo : Int) < 0) = false := decide_eq_false (by omega)
      clear hok' hxl hlo0
      by_cases h0 : p0 = 0
      · have e0 := hst.out h0
        have e1 := hic.out
        rw [if_pos h0] at e1
        have hd0 : (p0 == 0) = true := by simpa using h0
        have hsum : i + N = o + a1.size + heldL y.l + lo := by omega
        have hbd : i + N ≤ bytesOf (l.take k) + p3.size := by omega
        have hw := Lib.hid (cnt_w i o N a1.size (heldL y.l) lo a0 e0 hsum (by omega))
        have hfin := Lib.hid (show ((i + N : Nat) : Int) = ((o + a1.size : Nat) : Int) + heldL y.l + y.lost ∧ i + N ≤ bytesOf (l.take (k + 1)) by rw [hlo'.out, hbt'.out]; constructor <;> omega)
        clear h0 e0 e1 hf1 hf2 hf3 hf4 hlo hsum hbd hio' hin' hst hic hil hfl
        have hwx := hw.out
        obtain ⟨hw1, hw2, hw3, hw4⟩ := hwx
        go_wp2_with (first
        | (go_at_call 15; (with_reducible refine (live_held HLA.out hokn.out hMn.out).mono ?_); rintro e w4 ⟨rfl, hL4, hB4⟩; have HL4 := Lib.hid hL4; have hA4 := HA.out.below hB4; have z0 : w4.cell? ⟨w3.heap.size, 0, none⟩ = some (.int .i64 a0) := (hA4.cell 0).trans rfl; clear hL4 hB4 hA4)
        | (go_at_call 18; (with_reducible refine (live_lost HL4.out).mono ?_); rintro e w5 ⟨rfl, rfl⟩; rw [hlo'.out]))
        clear hw1 hw2 hw3 hw4
        go_roundw
        case rel => exact ⟨k + 1, y, i + N, o + a1.size, by omega, by go_num, rfl, rfl, HL4.out, hnext.out, hcs.out.1, hfin.out.1, hfin.out.2⟩
        case measure => simp [intOf]; omega
      · have e1 := hic.out
        rw [if_neg h0] at e1
        have hd0 : (p0 == 0) = false := by simpa using h0
        have hsum : i + 0 = o + a1.size + heldL y.l + lo := by omega
        have hw := Lib.hid (show wrap64 ((i : Int) + 0) = (i : Int) + ((0 : Nat) : Int) ∧ _ ∧ _ ∧ wrap64 ((o : Int) + (a1.size : Int) + (heldL y.l : Int) + (lo : Int)) = (i : Int) from cnt_w i o 0 a1.size (heldL y.l) lo 0 rfl hsum (by omega))
        have hfin := Lib.hid (show (i : Int) = ((o + a1.size : Nat) : Int) + heldL y.l + y.lost ∧ i ≤ bytesOf (l.take (k + 1)) by rw [hlo'.out, hbt'.out]; constructor <;> omega)
        clear h0 e1 hf1 hf2 hf3 hf4 hlo hsum hio' hin' hst hic hil hfl
        have hwx := hw.out
        obtain ⟨-, hw2, hw3, hw4⟩ := hwx
        go_wp2_with (first
        | (go_at_call 15; (with_reducible refine (live_held HLA.out hokn.out hMn.out).mono ?_); rintro e w4 ⟨rfl, hL4, hB4⟩; have HL4 := Lib.hid hL4; have hA4 := HA.out.below hB4; have z0 : w4.cell? ⟨w3.heap.size, 0, none⟩ = some (.int .i64 a0) := (hA4.cell 0).trans rfl; clear hL4 hB4 hA4)
        | (go_at_call 18; (with_reducible refine (live_lost HL4.out).mono ?_); rintro e w5 ⟨rfl, rfl⟩; rw [hlo'.out]))
        clear hw2 hw3 hw4
        go_roundw
        case rel => exact ⟨k + 1, y, i, o + a1.size, by omega, by go_num, rfl, rfl, HL4.out, hnext.out, hcs.out.1, hfin.out.1, hfin.out.2⟩
        case measure => simp [intOf]; omega
    · have hk2 : k = l.length := by omega
      subst hk2
      have hnl : ¬ (l.length < l.length) := by omega
      have hL' := Lib.hid hL
      clear hL hA
      go_wp2_with (go_at_call 9; (with_reducible refine (alive_any _).mono ?_); rintro e w2 ⟨rfl, hB2⟩; have HL2 := Lib.hid (hL'.out.below hB2); clear hB2)
      go_ret
      exact ⟨by simp, HL2.out.old⟩
theorem ChainCounts_any (room : Int) (v : Value) (l : List Op) (w : World) (hv : Script w v l) :
    Calls Try.prog 4 #[.int .i64 room, v] w fun e w' => e = .returned (.bool true) ∧ Below w.heap.size w w' := by
  cases hr : roomOk room with
  | false => exact ChainCounts_none room v w hr
  | true =>
    cases h : fewB l with
    | false => exact ChainCounts_long room v l w hv hr h
    | true => exact ChainCounts_yes room v l w hv hr h
theorem ChainKeeps_none (room : Int) (v : Value) (w : World) (hr : roomOk room = false) :
    Calls Try.prog 5 #[.int .i64 room, v] w fun e w' => e = .returned (.bool true) ∧ Below w.heap.size w w' := by
  have hn := fun (wr : World) => cNew_bad room 0 wr hr
  go_enter Try.func5, Try.ntmps5
  go_wp2_with fail
  refine (hn _).mono ?_
  rintro e w1 ⟨rfl, hB⟩
  have hB1 := Lib.hid hB
  clear hn hB
  go_wp2_with (go_at_call 9; (with_reducible refine (alive_any _).mono ?_); rintro e w2 ⟨rfl, hB2⟩; have hB2' := Lib.hid hB2; clear hB2)
  go_ret
  exact ⟨rfl, bw_below hB1.out hB2'.out⟩
theorem ChainKeeps_long (room : Int) (v : Value) (l : List Op) (w : World) (hv : Script w v l) (hr : roomOk room = true) (hf : fewB l = false) :
    Calls Try.prog 5 #[.int .i64 room, v] w fun e w' => e = .returned (.bool true) ∧ Below w.heap.size w w' := by
  have hn := fun (wr : World) hB => live_newC (w := w) (wr := wr) room 0 hr hB
  have hv' := Lib.hid hv
  have hf' := Lib.hid hf
  clear hr hv hf
  go_enter Try.func5, Try.ntmps5
  go_wp2_with fail
  refine (hn _ (Below.refl _ _)).mono ?_
  rintro e w1 ⟨c, rfl, hL, hB⟩
  have hB1 := Lib.hid hL.old
  clear hn hB hL
  go_wp2_with fail
  refine (few_any v l _ (hv'.out.below hB1.out)).mono ?_
  rintro e w2 ⟨rfl, hB⟩
  rw [hf'.out]
  have hB2 := Lib.hid (bw_below hB1.out hB)
  clear hB
  go_wp2_with (go_at_call 9; (with_reducible refine (alive_any _).mono ?_); rintro e w2 ⟨rfl, hB2⟩; have hB2' := Lib.hid hB2; clear hB2)
  go_ret
  exact ⟨rfl, bw_below hB2.out hB2'.out⟩
set_option maxHeartbeats 2000000 in
theorem ChainKeeps_yes (room : Int) (v : Value) (l : List Op) (w : World) (hv : Script w v l) (hr : roomOk room = true) (hf : fewB l = true) :
    Calls Try.prog 5 #[.int .i64 room, v] w fun e w' => e = .returned (.bool true) ∧ Below w.heap.size w w' := by
  have hn := fun (wr : World) hB => live_newC (w := w) (wr := wr) room 0 hr hB
  have hv' := Lib.hid hv
  have hf' := Lib.hid hf
  have hn5 : bytesOf l ≤ 2000 := by simp [fewB] at hf; exact hf.2
  have hl2 : l.length ≤ 80 := by simp [fewB] at hf; exact hf.1
  obtain ⟨a, cap, rfl, hmx, -, hA⟩ := hv
  have hok0 := Lib.hid (ok_newC room 0 hr)
  clear hr hf
  go_enter Try.func5, Try.ntmps5
  go_wp2_with fail
  refine (hn _ (Below.refl _ _)).mono ?_
  rintro e w1 ⟨c, rfl, hL, hB⟩
  have H1 := Lib.hid hL
  clear hn hB hL
  go_wp2_with fail
  refine (few_any _ l _ (hv'.out.below H1.out.old)).mono ?_
  rintro e w2 ⟨rfl, hB⟩
  rw [hf'.out]
  have H2 := Lib.hid (H1.out.below hB)
  clear hB H1
  go_wp2
  go_loopw [7, 8, 31] (fun nv ov iv wr => ∃ (k : Nat) (x : Ch) (i o : ByteArray), k ≤ l.length ∧ iv = .int .i64 k ∧ nv = .string i ∧ ov = .string o ∧ LiveC w wr c x ∧ OkC x (bytesOf (l.take k)) (20000 * k) ∧ KeepI x i o ∧ i.size ≤ bytesOf (l.take k)) (fun _ _ iv _ => l.length - (intOf iv).toNat)
  case atStart => exact ⟨0, newC room 0, ⟨#[]⟩, ⟨#[]⟩, by omega, rfl, rfl, rfl, H2.out, hok0.out, keep_new room 0, Nat.zero_le _⟩
  case round =>
    obtain ⟨k, x, i, o, hk, rfl, rfl, rfl, hL, hok, hkp, hin⟩ := hrel
    clear H2
    by_cases hlt : k < l.length
    · obtain ⟨g, oo, rfl, hc⟩ := hA (by intro h; subst h; simp at hlt)
      have hx : l[k]? = some l[k] := List.getElem?_eq_getElem hlt
      obtain ⟨d0, d1, d2, d3, d4, d5, d6, d7, d8, d9, d10⟩ := hc k _ hx
      have hbt := bytes_s l k _ hx
      have hble := bytesOf_le l (k + 1)
      rw [hbt] at hble
      have hbt' := Lib.hid hbt
      have hnext := Lib.hid (ok_next hok hx hn5)
      clear hbt
      generalize l[k] = p at *
      obtain ⟨p0, p1, p2, p3, ⟨t0, t1, t2, t3, t4, t5⟩, p5⟩ := p
      dsimp only at *
      have hold := hL.old
      have d0' := bcells hold d0
      have d1' := bcells hold d1
      have d2' := bcells hold d2
      have d3' := bcells hold d3
      have d4' := bcells hold d4
      have d5' := bcells hold d5
      have d6' := bcells hold d6
      have d7' := bcells hold d7
      have d8' := bcells hold d8
      have d9' := bcells hold d9
      have d10' := bcells hold d10
      have hL' := Lib.hid hL
      have hok' := Lib.hid hok
      have hszw : w.heap.size ≤ wr.heap.size := hold.size
      have hM0 : (bytesOf (l.take k) : Int) + p3.size ≤ 10000000 := by omega
      have hQ0 : (20000 * k : Int) ≤ 100000000 := by omega
      have hkn := Lib.hid (keep_does hkp ⟨p0, p1, p2, p3, ⟨t0, t1, t2, t3, t4, t5⟩, p5⟩)
      have hil := Lib.hid (inC_le x ⟨p0, p1, p2, p3, ⟨t0, t1, t2, t3, t4, t5⟩, p5⟩)
      have hpl := putCN_le x p1 p3
      have hic : Hid (inC x ⟨p0, p1, p2, p3, ⟨t0, t1, t2, t3, t4, t5⟩, p5⟩ = if p0 = 0 then p3.extract 0 (putCN x p1 p3) else ⟨#[]⟩) := Lib.hid rfl
      have hst := Lib.hid (show p0 = 0 → (doesA x ⟨p0, p1, p2, p3, ⟨t0, t1, t2, t3, t4, t5⟩, p5⟩).1 = ((putCN x p1 p3 : Nat) : Int) from fun e => by unfold doesA; rw [if_pos e])
      have hin' := Lib.hid hin
      clear hc hx hA hkp hin hold hL hok d0 d1 d2 d3 d4 d5 d6 d7 d8 d9 d10
      go_wp2_with fail
      have hBx : Below wr.heap.size wr (wr.alloc (.cells #[.int .i64 p0, .int .i64 p1, .int .i64 p2, .string p3, .string t0, .int .i64 t1, .bool t2, .int .i64 t3, .int .i64 t4, .int .i64 t5, .int .u64 p5] 41)) := (Below.refl _ _).alloc (Nat.le_refl _) _
      refine (live_does (hL'.out.below hBx) hok'.out ⟨p0, p1, p2, p3, ⟨t0, t1, t2, t3, t4, t5⟩, p5⟩ hM0 hQ0).mono ?_
      rintro e w3 ⟨rfl, hL3, hK3⟩
      have HX3 := Lib.hid (hK3 _ _ _ (Blk.new wr 41 #[.int .i64 p0, .int .i64 p1, .int .i64 p2, .string p3, .string t0, .int .i64 t1, .bool t2, .int .i64 t3, .int .i64 t4, .int .i64 t5, .int .u64 p5]) (by decide))
      have HL3 := Lib.hid hL3
      clear hL3 hK3 hBx hL'
      try dsimp only at hkn hil
      generalize doesC x ⟨p0, p1, p2, p3, ⟨t0, t1, t2, t3, t4, t5⟩, p5⟩ = y at *
      generalize doesA x ⟨p0, p1, p2, p3, ⟨t0, t1, t2, t3, t4, t5⟩, p5⟩ = an at *
      generalize inC x ⟨p0, p1, p2, p3, ⟨t0, t1, t2, t3, t4, t5⟩, p5⟩ = ic at *
      generalize putCN x p1 p3 = N at *
      obtain ⟨a0, a1, a2⟩ := an
      dsimp only at *
      have r0 : w3.cell? ⟨wr.heap.size, 0, none⟩ = some (.int .i64 p0) := (HX3.out.cell 0).trans rfl
      have r3 : w3.cell? ⟨wr.heap.size, 3, none⟩ = some (.string p3) := (HX3.out.cell 3).trans rfl
      have hwz : wr.heap.size < w3.heap.size := HX3.out.lt
      have HLA := Lib.hid (HL3.out.below ((Below.refl w3.heap.size w3).alloc (Nat.le_refl _) (.cells #[.int .i64 a0, .string a1, .int .i64 a2] 43)))
      clear hok'
      have hpre := keep_pre hkn.out
      have hsz1 : i.size + ic.size ≤ 2000 := by have h3 := hin'.out; have := hil.out; omega
      have hsz2 : o.size + a1.size ≤ 2000 := by have h4 := hpre.1; simp only [ByteArray.size_append] at h4; omega
      by_cases h0 : p0 = 0
      · have e0 := hst.out h0
        have e1 := hic.out
        rw [if_pos h0] at e1
        subst e0
        have hd0 : (p0 == 0) = true := by simpa using h0
        have tg : decide ((0 : Int) ≤ (N : Int)) = true := decide_eq_true (by omega)
        have tl : decide ((N : Int) ≤ (p3.size : Int)) = true := decide_eq_true (by omega)
        have tl2 : decide (p3.size < N) = false := decide_eq_false (by omega)
        have hnn : (0 : Int) ≤ (N : Int) := by omega
        subst e1
        have hx1 : (p3.extract 0 N).size ≤ 2000 := by omega
        have hfin := Lib.hid (show i.size + (p3.extract 0 N).size ≤ bytesOf (l.take (k + 1)) by rw [hbt'.out]; have := hil.out; have := hin'.out; omega)
        have hle : (o ++ a1).size ≤ (i ++ p3.extract 0 N).size := hpre.1
        have he : (i ++ p3.extract 0 N).extract 0 (o ++ a1).size = o ++ a1 := hpre.2
        have hxs : (p3.extract 0 N).size = N := ext_size _ _ hpl
        have tgt : decide ((i.size : Int) + (N : Int) < (o.size : Int) + (a1.size : Int)) = false := decide_eq_false (by simp only [ByteArray.size_append] at hle; omega)
        have tz0 : (0 : Int) ≤ (o.size : Int) + (a1.size : Int) := by omega
        have tz1 : (o.size : Int) + (a1.size : Int) ≤ (i.size : Int) + (N : Int) := by simp only [ByteArray.size_append] at hle; omega
        have tne : ((o ++ a1).toList == ((i ++ p3.extract 0 N).extract 0 (o.size + a1.size)).toList) = true := by rw [ByteArray.size_append] at he; rw [he]; simp
        have tle2 : decide ((i ++ p3.extract 0 N).size < (o ++ a1).size) = false := decide_eq_false (by omega)
        clear h0 hil hin' hst hic hpre
        go_wp2
        go_roundw
        case rel => exact ⟨k + 1, y, i ++ p3.extract 0 N, o ++ a1, by omega, by go_num, rfl, rfl, HLA.out, hnext.out, hkn.out, by rw [ByteArray.size_append]; exact hfin.out⟩
        case measure => simp [intOf]; omega
      · have e1 := hic.out
        rw [if_neg h0] at e1
        subst e1
        have hd0 : (p0 == 0) = false := by simpa using h0
        rw [app_nil] at hkn hpre
        have hle : (o ++ a1).size ≤ i.size := hpre.1
        have he : i.extract 0 (o ++ a1).size = o ++ a1 := hpre.2
        have tgt : decide ((i.size : Int) < (o.size : Int) + (a1.size : Int)) = false := decide_eq_false (by simp only [ByteArray.size_append] at hle; omega)
        have tz0 : (0 : Int) ≤ (o.size : Int) + (a1.size : Int) := by omega
        have tz1 : (o.size : Int) + (a1.size : Int) ≤ (i.size : Int) := by simp only [ByteArray.size_append] at hle; omega
        have tne : ((o ++ a1).toList == (i.extract 0 (o.size + a1.size)).toList) = true := by rw [ByteArray.size_append] at he; rw [he]; simp
        have tle2 : decide (i.size < (o ++ a1).size) = false := decide_eq_false (by omega)
        have hfin := Lib.hid (show i.size ≤ bytesOf (l.take (k + 1)) by rw [hbt'.out]; have := hin'.out; omega)
        clear h0 hil hin' hst hic hpre
        go_wp2
        go_roundw
        case rel => exact ⟨k + 1, y, i, o ++ a1, by omega, by go_num, rfl, rfl, HLA.out, hnext.out, hkn.out, hfin.out⟩
        case measure => simp [intOf]; omega
    · have hk2 : k = l.length := by omega
      subst hk2
      have hnl : ¬ (l.length < l.length) := by omega
      have hL' := Lib.hid hL
      clear hL hA
      go_wp2_with (go_at_call 9; (with_reducible refine (alive_any _).mono ?_); rintro e w2 ⟨rfl, hB2⟩; have HL2 := Lib.hid (hL'.out.below hB2); clear hB2)
      go_ret
      exact ⟨by simp, HL2.out.old⟩
theorem ChainKeeps_any (room : Int) (v : Value) (l : List Op) (w : World) (hv : Script w v l) :
    Calls Try.prog 5 #[.int .i64 room, v] w fun e w' => e = .returned (.bool true) ∧ Below w.heap.size w w' := by
  cases hr : roomOk room with
  | false => exact ChainKeeps_none room v w hr
  | true =>
    cases h : fewB l with
    | false => exact ChainKeeps_long room v l w hv hr h
    | true => exact ChainKeeps_yes room v l w hv hr h
theorem ends_say {x : Ch} (h : CntI x) (p : Op) : (x.state ≠ 0 → p.kind = 0 → (doesA x p).1 = 0) ∧ (x.state = 2 → heldL (doesC x p).l = 0 ∧ (doesA x p).2.1 = ⟨#[]⟩) := by
  refine ⟨fun hs hk => ?_, fun hs => ?_⟩
  · unfold doesA
    rw [if_pos hk]
    show ((putCN x p.now p.s : Nat) : Int) = 0
    rw [putCN_shut _ _ _ (.inr hs)]
    rfl
  · have h1 := h.does p
    refine ⟨h1.1.broken (by rw [h1.2.1 (by omega)]; exact hs), ?_⟩
    obtain ⟨hm1, hm2⟩ := flow_massIO (flow_does x p)
    have hin : (inC x p).size = 0 := by
      rw [inC_size]
      split
      · exact putCN_shut _ _ _ (.inr (by omega))
      · rfl
    have hb := h.broken hs
    exact empty_size (by omega)
theorem ChainEnds_none (room : Int) (v : Value) (w : World) (hr : roomOk room = false) :
    Calls Try.prog 7 #[.int .i64 room, v] w fun e w' => e = .returned (.bool true) ∧ Below w.heap.size w w' := by
  have hn := fun (wr : World) => cNew_bad room 0 wr hr
  go_enter Try.func7, Try.ntmps7
  go_wp2_with fail
  refine (hn _).mono ?_
  rintro e w1 ⟨rfl, hB⟩
  have hB1 := Lib.hid hB
  clear hn hB
  go_wp2_with (go_at_call 9; (with_reducible refine (alive_any _).mono ?_); rintro e w2 ⟨rfl, hB2⟩; have hB2' := Lib.hid hB2; clear hB2)
  go_ret
  exact ⟨rfl, bw_below hB1.out hB2'.out⟩
theorem ChainEnds_long (room : Int) (v : Value) (l : List Op) (w : World) (hv : Script w v l) (hr : roomOk room = true) (hf : fewB l = false) :
    Calls Try.prog 7 #[.int .i64 room, v] w fun e w' => e = .returned (.bool true) ∧ Below w.heap.size w w' := by
  have hn := fun (wr : World) hB => live_newC (w := w) (wr := wr) room 0 hr hB
  have hv' := Lib.hid hv
  have hf' := Lib.hid hf
  clear hr hv hf
  go_enter Try.func7, Try.ntmps7
  go_wp2_with fail
  refine (hn _ (Below.refl _ _)).mono ?_
  rintro e w1 ⟨c, rfl, hL, hB⟩
  have hB1 := Lib.hid hL.old
  clear hn hB hL
  go_wp2_with fail
  refine (few_any v l _ (hv'.out.below hB1.out)).mono ?_
  rintro e w2 ⟨rfl, hB⟩
  rw [hf'.out]
  have hB2 := Lib.hid (bw_below hB1.out hB)
  clear hB
  go_wp2_with (go_at_call 9; (with_reducible refine (alive_any _).mono ?_); rintro e w2 ⟨rfl, hB2⟩; have hB2' := Lib.hid hB2; clear hB2)
  go_ret
  exact ⟨rfl, bw_below hB2.out hB2'.out⟩
set_option maxHeartbeats 2000000 in
theorem ChainEnds_yes (room : Int) (v : Value) (l : List Op) (w : World) (hv : Script w v l) (hr : roomOk room = true) (hf : fewB l = true) :
    Calls Try.prog 7 #[.int .i64 room, v] w fun e w' => e = .returned (.bool true) ∧ Below w.heap.size w w' := by
  have hn := fun (wr : World) hB => live_newC (w := w) (wr := wr) room 0 hr hB
  have hv' := Lib.hid hv
  have hf' := Lib.hid hf
  have hn5 : bytesOf l ≤ 2000 := by simp [fewB] at hf; exact hf.2
  have hl2 : l.length ≤ 80 := by simp [fewB] at hf; exact hf.1
  obtain ⟨a, cap, rfl, hmx, -, hA⟩ := hv
  have hok0 := Lib.hid (ok_newC room 0 hr)
  clear hr hf
  go_enter Try.func7, Try.ntmps7
  go_wp2_with fail
  refine (hn _ (Below.refl _ _)).mono ?_
  rintro e w1 ⟨c, rfl, hL, hB⟩
  have H1 := Lib.hid hL
  clear hn hB hL
  go_wp2_with fail
  refine (few_any _ l _ (hv'.out.below H1.out.old)).mono ?_
  rintro e w2 ⟨rfl, hB⟩
  rw [hf'.out]
  have H2 := Lib.hid (H1.out.below hB)
  clear hB H1
  go_wp2
  go_loopw [30] (fun iv wr => ∃ (k : Nat) (x : Ch), k ≤ l.length ∧ iv = .int .i64 k ∧ LiveC w wr c x ∧ OkC x (bytesOf (l.take k)) (20000 * k) ∧ CntI x) (fun iv _ => l.length - (intOf iv).toNat)
  case atStart => exact ⟨0, newC room 0, by omega, rfl, H2.out, hok0.out, cnt_new room 0⟩
  case round =>
    obtain ⟨k, x, hk, rfl, hL, hok, hcn⟩ := hrel
    clear H2
    by_cases hlt : k < l.length
    · obtain ⟨g, oo, rfl, hc⟩ := hA (by intro h; subst h; simp at hlt)
      have hx : l[k]? = some l[k] := List.getElem?_eq_getElem hlt
      obtain ⟨d0, d1, d2, d3, d4, d5, d6, d7, d8, d9, d10⟩ := hc k _ hx
      have hbt := bytes_s l k _ hx
      have hble := bytesOf_le l (k + 1)
      rw [hbt] at hble
      have hbt' := Lib.hid hbt
      have hnext := Lib.hid (ok_next hok hx hn5)
      clear hbt
      generalize l[k] = p at *
      obtain ⟨p0, p1, p2, p3, ⟨t0, t1, t2, t3, t4, t5⟩, p5⟩ := p
      dsimp only at *
      have hold := hL.old
      have d0' := bcells hold d0
      have d1' := bcells hold d1
      have d2' := bcells hold d2
      have d3' := bcells hold d3
      have d4' := bcells hold d4
      have d5' := bcells hold d5
      have d6' := bcells hold d6
      have d7' := bcells hold d7
      have d8' := bcells hold d8
      have d9' := bcells hold d9
      have d10' := bcells hold d10
      have hL' := Lib.hid hL
      have hok' := Lib.hid hok
      have hszw : w.heap.size ≤ wr.heap.size := hold.size
      have hM0 : (bytesOf (l.take k) : Int) + p3.size ≤ 10000000 := by omega
      have hQ0 : (20000 * k : Int) ≤ 100000000 := by omega
      have hcs := Lib.hid (hcn.does ⟨p0, p1, p2, p3, ⟨t0, t1, t2, t3, t4, t5⟩, p5⟩)
      have hes := Lib.hid (ends_say hcn ⟨p0, p1, p2, p3, ⟨t0, t1, t2, t3, t4, t5⟩, p5⟩)
      clear hc hx hA hold hL hok hcn d0 d1 d2 d3 d4 d5 d6 d7 d8 d9 d10
      go_wp2_with fail
      refine (live_state (hL'.out.below ((Below.refl wr.heap.size wr).alloc (Nat.le_refl _) (.cells #[.int .i64 p0, .int .i64 p1, .int .i64 p2, .string p3, .string t0, .int .i64 t1, .bool t2, .int .i64 t3, .int .i64 t4, .int .i64 t5, .int .u64 p5] 41)))).mono ?_
      rintro e w9 ⟨rfl, rfl⟩
      go_wp2_with fail
      have hBx : Below wr.heap.size wr (wr.alloc (.cells #[.int .i64 p0, .int .i64 p1, .int .i64 p2, .string p3, .string t0, .int .i64 t1, .bool t2, .int .i64 t3, .int .i64 t4, .int .i64 t5, .int .u64 p5] 41)) := (Below.refl _ _).alloc (Nat.le_refl _) _
      refine (live_does (hL'.out.below hBx) hok'.out ⟨p0, p1, p2, p3, ⟨t0, t1, t2, t3, t4, t5⟩, p5⟩ hM0 hQ0).mono ?_
      rintro e w3 ⟨rfl, hL3, hK3⟩
      have HX3 := Lib.hid (hK3 _ _ _ (Blk.new wr 41 #[.int .i64 p0, .int .i64 p1, .int .i64 p2, .string p3, .string t0, .int .i64 t1, .bool t2, .int .i64 t3, .int .i64 t4, .int .i64 t5, .int .u64 p5]) (by decide))
      have HL3 := Lib.hid hL3
      clear hL3 hK3 hBx hL'
      try dsimp only at hcs hes
      have hys := hcs.out.2.1
      have hya := hes.out.1
      have hyb := hes.out.2
      generalize doesC x ⟨p0, p1, p2, p3, ⟨t0, t1, t2, t3, t4, t5⟩, p5⟩ = y at *
      generalize doesA x ⟨p0, p1, p2, p3, ⟨t0, t1, t2, t3, t4, t5⟩, p5⟩ = an at *
      obtain ⟨a0, a1, a2⟩ := an
      dsimp only at *
      have HA := Lib.hid (Blk.new w3 43 #[.int .i64 a0, .string a1, .int .i64 a2])
      have r0 : w3.cell? ⟨wr.heap.size, 0, none⟩ = some (.int .i64 p0) := (HX3.out.cell 0).trans rfl
      have hwz : wr.heap.size < w3.heap.size := HX3.out.lt
      have HLA := Lib.hid (HL3.out.below ((Below.refl w3.heap.size w3).alloc (Nat.le_refl _) (.cells #[.int .i64 a0, .string a1, .int .i64 a2] 43)))
      have hokn := Lib.hid (show OkC y (bytesOf (l.take (k + 1))) 1000000000 from hnext.out.more (Int.le_refl _) (by omega))
      have hMn := Lib.hid (show (bytesOf (l.take (k + 1)) : Int) ≤ 1000000000 by rw [hbt'.out]; omega)
      clear hok' hes
      by_cases hs0 : x.state = 0
      · have e0 : (x.state != 0) = false := by simpa using hs0
        have e2 : (x.state == 2) = false := by rw [hs0]; rfl
        clear hys hya hyb hs0
        go_wp2
        go_roundw
        case rel => exact ⟨k + 1, y, by omega, by go_num, HLA.out, hnext.out, hcs.out.1⟩
        case measure => simp [intOf]; omega
      · have e0 : (x.state != 0) = true := by simpa using hs0
        have hys' := hys hs0
        have hya' := hya hs0
        have hse : (y.state != x.state) = false := by rw [hys']; simp
        by_cases h0 : p0 = 0
        · have ha0 := hya' h0
          have hd0 : (p0 == 0) = true := by simpa using h0
          have hd1 : (a0 != 0) = false := by rw [ha0]; rfl
          by_cases hs2 : x.state = 2
          · obtain ⟨b1, b2⟩ := hyb hs2
            subst b2
            have e2 : (x.state == 2) = true := by simpa using hs2
            clear hys hya hyb hs0 hs2 h0 ha0 hys' hya'
            go_wp2_with (first
              | (go_at_call 14; (with_reducible refine (live_state HLA.out).mono ?_); rintro e w5 ⟨rfl, rfl⟩)
              | (go_at_call 15; (with_reducible refine (live_held HLA.out hokn.out hMn.out).mono ?_); rintro e w4 ⟨rfl, hL4, hB4⟩; have HL4 := Lib.hid hL4; have hA4 := HA.out.below hB4; have z1 : w4.cell? ⟨w3.heap.size, 1, none⟩ = some (.string ⟨#[]⟩) := (hA4.cell 1).trans rfl; rw [b1]; clear hL4 hB4 hA4))
            go_roundw
            case rel => exact ⟨k + 1, y, by omega, by go_num, HL4.out, hnext.out, hcs.out.1⟩
            case measure => simp [intOf]; omega
          · have e2 : (x.state == 2) = false := by simpa using hs2
            clear hys hya hyb hs0 hs2 h0 ha0 hys' hya'
            go_wp2_with (go_at_call 14; (with_reducible refine (live_state HLA.out).mono ?_); rintro e w5 ⟨rfl, rfl⟩)
            go_roundw
            case rel => exact ⟨k + 1, y, by omega, by go_num, HLA.out, hnext.out, hcs.out.1⟩
            case measure => simp [intOf]; omega
        · have hd0 : (p0 == 0) = false := by simpa using h0
          by_cases hs2 : x.state = 2
          · obtain ⟨b1, b2⟩ := hyb hs2
            subst b2
            have e2 : (x.state == 2) = true := by simpa using hs2
            clear hys hya hyb hs0 hs2 h0 hys' hya'
            go_wp2_with (first
              | (go_at_call 14; (with_reducible refine (live_state HLA.out).mono ?_); rintro e w5 ⟨rfl, rfl⟩)
              | (go_at_call 15; (with_reducible refine (live_held HLA.out hokn.out hMn.out).mono ?_); rintro e w4 ⟨rfl, hL4, hB4⟩; have HL4 := Lib.hid hL4; have hA4 := HA.out.below hB4; have z1 : w4.cell? ⟨w3.heap.size, 1, none⟩ = some (.string ⟨#[]⟩) := (hA4.cell 1).trans rfl; rw [b1]; clear hL4 hB4 hA4))
            go_roundw
            case rel => exact ⟨k + 1, y, by omega, by go_num, HL4.out, hnext.out, hcs.out.1⟩
            case measure => simp [intOf]; omega
          · have e2 : (x.state == 2) = false := by simpa using hs2
            clear hys hya hyb hs0 hs2 h0 hys' hya'
            go_wp2_with (go_at_call 14; (with_reducible refine (live_state HLA.out).mono ?_); rintro e w5 ⟨rfl, rfl⟩)
            go_roundw
            case rel => exact ⟨k + 1, y, by omega, by go_num, HLA.out, hnext.out, hcs.out.1⟩
            case measure => simp [intOf]; omega
    · have hk2 : k = l.length := by omega
      subst hk2
      have hnl : ¬ (l.length < l.length) := by omega
      have hL' := Lib.hid hL
      clear hL hA
      go_wp2_with (go_at_call 9; (with_reducible refine (alive_any _).mono ?_); rintro e w2 ⟨rfl, hB2⟩; have HL2 := Lib.hid (hL'.out.below hB2); clear hB2)
      go_ret
      exact ⟨by simp, HL2.out.old⟩
theorem ChainEnds_any (room : Int) (v : Value) (l : List Op) (w : World) (hv : Script w v l) :
    Calls Try.prog 7 #[.int .i64 room, v] w fun e w' => e = .returned (.bool true) ∧ Below w.heap.size w w' := by
  cases hr : roomOk room with
  | false => exact ChainEnds_none room v w hr
  | true =>
    cases h : fewB l with
    | false => exact ChainEnds_long room v l w hv hr h
    | true => exact ChainEnds_yes room v l w hv hr h
theorem ChainSafe_none (room : Int) (v : Value) (w : World) (hr : roomOk room = false) :
    Calls Try.prog 6 #[.int .i64 room, v] w fun e w' => e = .returned (.bool true) ∧ Below w.heap.size w w' := by
  have hn := fun (wr : World) => cNew_bad room 0 wr hr
  go_enter Try.func6, Try.ntmps6
  go_wp2_with fail
  refine (hn _).mono ?_
  rintro e w1 ⟨rfl, hB⟩
  have hB1 := Lib.hid hB
  clear hn hB
  go_wp2_with (go_at_call 9; (with_reducible refine (alive_any _).mono ?_); rintro e w2 ⟨rfl, hB2⟩; have hB2' := Lib.hid hB2; clear hB2)
  go_ret
  exact ⟨rfl, bw_below hB1.out hB2'.out⟩
theorem ChainSafe_long (room : Int) (v : Value) (l : List Op) (w : World) (hv : Script w v l) (hr : roomOk room = true) (hf : fewB l = false) :
    Calls Try.prog 6 #[.int .i64 room, v] w fun e w' => e = .returned (.bool true) ∧ Below w.heap.size w w' := by
  have hn := fun (wr : World) hB => live_newC (w := w) (wr := wr) room 0 hr hB
  have hv' := Lib.hid hv
  have hf' := Lib.hid hf
  clear hr hv hf
  go_enter Try.func6, Try.ntmps6
  go_wp2_with fail
  refine (hn _ (Below.refl _ _)).mono ?_
  rintro e w1 ⟨c, rfl, hL, hB⟩
  have hB1 := Lib.hid hL.old
  clear hn hB hL
  go_wp2_with fail
  refine (few_any v l _ (hv'.out.below hB1.out)).mono ?_
  rintro e w2 ⟨rfl, hB⟩
  rw [hf'.out]
  have hB2 := Lib.hid (bw_below hB1.out hB)
  clear hB
  go_wp2_with (go_at_call 9; (with_reducible refine (alive_any _).mono ?_); rintro e w2 ⟨rfl, hB2⟩; have hB2' := Lib.hid hB2; clear hB2)
  go_ret
  exact ⟨rfl, bw_below hB2.out hB2'.out⟩
set_option maxHeartbeats 2000000 in
theorem ChainSafe_yes (room : Int) (v : Value) (l : List Op) (w : World) (hv : Script w v l) (hr : roomOk room = true) (hf : fewB l = true) :
    Calls Try.prog 6 #[.int .i64 room, v] w fun e w' => e = .returned (.bool true) ∧ Below w.heap.size w w' := by
  have hn := fun (wr : World) hB => live_newC (w := w) (wr := wr) room 0 hr hB
  have hv' := Lib.hid hv
  have hf' := Lib.hid hf
  have hn5 : bytesOf l ≤ 2000 := by simp [fewB] at hf; exact hf.2
  have hl2 : l.length ≤ 80 := by simp [fewB] at hf; exact hf.1
  obtain ⟨a, cap, rfl, hmx, -, hA⟩ := hv
  have hok0 := Lib.hid (ok_newC room 0 hr)
  clear hr hf
  go_enter Try.func6, Try.ntmps6
  go_wp2_with fail
  refine (hn _ (Below.refl _ _)).mono ?_
  rintro e w1 ⟨c, rfl, hL, hB⟩
  have H1 := Lib.hid hL
  clear hn hB hL
  go_wp2_with fail
  refine (few_any _ l _ (hv'.out.below H1.out.old)).mono ?_
  rintro e w2 ⟨rfl, hB⟩
  rw [hf'.out]
  have H2 := Lib.hid (H1.out.below hB)
  clear hB H1
  go_wp2
  go_loopw [28] (fun iv wr => ∃ (k : Nat) (x : Ch), k ≤ l.length ∧ iv = .int .i64 k ∧ LiveC w wr c x ∧ OkC x (bytesOf (l.take k)) (20000 * k) ∧ SafeI x ∧ (x.state = 0 ∨ (x.state = 1 ∧ heldL x.l = 0))) (fun iv _ => l.length - (intOf iv).toNat)
  case atStart => exact ⟨0, newC room 0, by omega, rfl, H2.out, hok0.out, safe_new room 0, .inl rfl⟩
  case round =>
    obtain ⟨k, x, hk, rfl, hL, hok, hsa, hsb⟩ := hrel
    clear H2
    by_cases hlt : k < l.length
    · obtain ⟨g, oo, rfl, hc⟩ := hA (by intro h; subst h; simp at hlt)
      have hx : l[k]? = some l[k] := List.getElem?_eq_getElem hlt
      obtain ⟨d0, d1, d2, d3, d4, d5, d6, d7, d8, d9, d10⟩ := hc k _ hx
      have hbt := bytes_s l k _ hx
      have hble := bytesOf_le l (k + 1)
      rw [hbt] at hble
      have hbt' := Lib.hid hbt
      have hnext := Lib.hid (ok_next hok hx hn5)
      clear hbt
      generalize l[k] = p at *
      obtain ⟨p0, p1, p2, p3, ⟨t0, t1, t2, t3, t4, t5⟩, p5⟩ := p
      dsimp only at *
      have hold := hL.old
      have d0' := bcells hold d0
      have d1' := bcells hold d1
      have d2' := bcells hold d2
      have d3' := bcells hold d3
      have d4' := bcells hold d4
      have d5' := bcells hold d5
      have d6' := bcells hold d6
      have d7' := bcells hold d7
      have d8' := bcells hold d8
      have d9' := bcells hold d9
      have d10' := bcells hold d10
      have hL' := Lib.hid hL
      have hok' := Lib.hid hok
      have hszw : w.heap.size ≤ wr.heap.size := hold.size
      have hM0 : (bytesOf (l.take k) : Int) + p3.size ≤ 10000000 := by omega
      have hQ0 : (20000 * k : Int) ≤ 100000000 := by omega
      have hsd := Lib.hid (fun h2 h5 => safe_does hsa ⟨p0, p1, p2, p3, ⟨t0, t1, t2, t3, t4, t5⟩, p5⟩ h2 h5)
      have hss := Lib.hid (fun h2 h5 => safe_state hsa hsb ⟨p0, p1, p2, p3, ⟨t0, t1, t2, t3, t4, t5⟩, p5⟩ h2 h5)
      have hsx := Lib.hid (And.intro hsa hsb)
      clear hc hx hA hold hL hok hsa hsb d0 d1 d2 d3 d4 d5 d6 d7 d8 d9 d10
      by_cases k2 : p0 = 2
      · have e2 : (p0 == 2) = true := by simpa using k2
        clear k2
        have hokn := Lib.hid (hok'.out.more (M' := bytesOf (l.take (k + 1))) (Q' := 20000 * (k + 1 : Nat)) (by rw [hbt'.out]; omega) (by omega))
        clear hok' hsd hss hnext
        go_wp2
        go_roundw
        case rel => exact ⟨k + 1, x, by omega, by go_num, hL'.out.below ((Below.refl wr.heap.size wr).alloc (Nat.le_refl _) _), hokn.out, hsx.out.1, hsx.out.2⟩
        case measure => simp [intOf]; omega
      · have e2 : (p0 == 2) = false := by simpa using k2
        by_cases k5 : p0 = 5
        · have e5 : (p0 == 5) = true := by simpa using k5
          by_cases g4 : (4 : Int) ≤ t1
          · have f4 : decide ((4 : Int) ≤ t1) = true := decide_eq_true g4
            by_cases g6 : t1 ≤ 6
            · have f6 : decide (t1 ≤ 6) = true := decide_eq_true g6
              clear k2 k5 g4 g6
              have hokn := Lib.hid (hok'.out.more (M' := bytesOf (l.take (k + 1))) (Q' := 20000 * (k + 1 : Nat)) (by rw [hbt'.out]; omega) (by omega))
              clear hok' hsd hss hnext
              go_wp2
              go_roundw
              case rel => exact ⟨k + 1, x, by omega, by go_num, hL'.out.below ((Below.refl wr.heap.size wr).alloc (Nat.le_refl _) _), hokn.out, hsx.out.1, hsx.out.2⟩
              case measure => simp [intOf]; omega
            · have f6 : decide (t1 ≤ 6) = false := decide_eq_false g6
              have hsf := hsd.out (by exact k2) (fun e => by show t1 ≠ 4 ∧ t1 ≠ 5 ∧ t1 ≠ 6; omega)
              have hst := hss.out (by exact k2) (fun e => by show t1 ≠ 4 ∧ t1 ≠ 5 ∧ t1 ≠ 6; omega)
              clear k2 k5 g4 g6
              go_wp2_with fail
              have hBx : Below wr.heap.size wr (wr.alloc (.cells #[.int .i64 p0, .int .i64 p1, .int .i64 p2, .string p3, .string t0, .int .i64 t1, .bool t2, .int .i64 t3, .int .i64 t4, .int .i64 t5, .int .u64 p5] 41)) := (Below.refl _ _).alloc (Nat.le_refl _) _
              refine (live_does (hL'.out.below hBx) hok'.out ⟨p0, p1, p2, p3, ⟨t0, t1, t2, t3, t4, t5⟩, p5⟩ hM0 hQ0).mono ?_
              rintro e w3 ⟨rfl, hL3, hK3⟩
              have HX3 := Lib.hid (hK3 _ _ _ (Blk.new wr 41 #[.int .i64 p0, .int .i64 p1, .int .i64 p2, .string p3, .string t0, .int .i64 t1, .bool t2, .int .i64 t3, .int .i64 t4, .int .i64 t5, .int .u64 p5]) (by decide))
              have HL3 := Lib.hid hL3
              clear hL3 hK3 hBx hL'
              try dsimp only at hsf hst
              generalize doesC x ⟨p0, p1, p2, p3, ⟨t0, t1, t2, t3, t4, t5⟩, p5⟩ = y at *
              generalize doesA x ⟨p0, p1, p2, p3, ⟨t0, t1, t2, t3, t4, t5⟩, p5⟩ = an at *
              obtain ⟨a0, a1, a2⟩ := an
              dsimp only at *
              have hlo := hsf.lost
              have hsf' := Lib.hid hsf
              have hst' := Lib.hid hst
              have hn2 : (y.state == 2) = false := by rcases hst with e | ⟨e, _⟩ <;> rw [e] <;> rfl
              clear hsf hst hok' hsd hss
              go_wp2_with (first
                | (go_at_call 18; (with_reducible refine (live_lost HL3.out).mono ?_); rintro e w5 ⟨rfl, rfl⟩; rw [hlo])
                | (go_at_call 14; (with_reducible refine (live_state HL3.out).mono ?_); rintro e w6 ⟨rfl, rfl⟩))
              go_roundw
              case rel => exact ⟨k + 1, y, by omega, by go_num, HL3.out, hnext.out, hsf'.out, hst'.out⟩
              case measure => simp [intOf]; omega
          · have f4 : decide ((4 : Int) ≤ t1) = false := decide_eq_false g4
            have hsf := hsd.out (by exact k2) (fun e => by show t1 ≠ 4 ∧ t1 ≠ 5 ∧ t1 ≠ 6; omega)
            have hst := hss.out (by exact k2) (fun e => by show t1 ≠ 4 ∧ t1 ≠ 5 ∧ t1 ≠ 6; omega)
            clear k2 k5 g4
            go_wp2_with fail
            have hBx : Below wr.heap.size wr (wr.alloc (.cells #[.int .i64 p0, .int .i64 p1, .int .i64 p2, .string p3, .string t0, .int .i64 t1, .bool t2, .int .i64 t3, .int .i64 t4, .int .i64 t5, .int .u64 p5] 41)) := (Below.refl _ _).alloc (Nat.le_refl _) _
            refine (live_does (hL'.out.below hBx) hok'.out ⟨p0, p1, p2, p3, ⟨t0, t1, t2, t3, t4, t5⟩, p5⟩ hM0 hQ0).mono ?_
            rintro e w3 ⟨rfl, hL3, hK3⟩
            have HX3 := Lib.hid (hK3 _ _ _ (Blk.new wr 41 #[.int .i64 p0, .int .i64 p1, .int .i64 p2, .string p3, .string t0, .int .i64 t1, .bool t2, .int .i64 t3, .int .i64 t4, .int .i64 t5, .int .u64 p5]) (by decide))
            have HL3 := Lib.hid hL3
            clear hL3 hK3 hBx hL'
            try dsimp only at hsf hst
            generalize doesC x ⟨p0, p1, p2, p3, ⟨t0, t1, t2, t3, t4, t5⟩, p5⟩ = y at *
            generalize doesA x ⟨p0, p1, p2, p3, ⟨t0, t1, t2, t3, t4, t5⟩, p5⟩ = an at *
            obtain ⟨a0, a1, a2⟩ := an
            dsimp only at *
            have hlo := hsf.lost
            have hsf' := Lib.hid hsf
            have hst' := Lib.hid hst
            have hn2 : (y.state == 2) = false := by rcases hst with e | ⟨e, _⟩ <;> rw [e] <;> rfl
            clear hsf hst hok' hsd hss
            go_wp2_with (first
              | (go_at_call 18; (with_reducible refine (live_lost HL3.out).mono ?_); rintro e w5 ⟨rfl, rfl⟩; rw [hlo])
              | (go_at_call 14; (with_reducible refine (live_state HL3.out).mono ?_); rintro e w6 ⟨rfl, rfl⟩))
            go_roundw
            case rel => exact ⟨k + 1, y, by omega, by go_num, HL3.out, hnext.out, hsf'.out, hst'.out⟩
            case measure => simp [intOf]; omega
        · have e5 : (p0 == 5) = false := by simpa using k5
          have hsf := hsd.out (by exact k2) (fun e => by exact absurd e k5)
          have hst := hss.out (by exact k2) (fun e => by exact absurd e k5)
          clear k2 k5
          go_wp2_with fail
          have hBx : Below wr.heap.size wr (wr.alloc (.cells #[.int .i64 p0, .int .i64 p1, .int .i64 p2, .string p3, .string t0, .int .i64 t1, .bool t2, .int .i64 t3, .int .i64 t4, .int .i64 t5, .int .u64 p5] 41)) := (Below.refl _ _).alloc (Nat.le_refl _) _
          refine (live_does (hL'.out.below hBx) hok'.out ⟨p0, p1, p2, p3, ⟨t0, t1, t2, t3, t4, t5⟩, p5⟩ hM0 hQ0).mono ?_
          rintro e w3 ⟨rfl, hL3, hK3⟩
          have HX3 := Lib.hid (hK3 _ _ _ (Blk.new wr 41 #[.int .i64 p0, .int .i64 p1, .int .i64 p2, .string p3, .string t0, .int .i64 t1, .bool t2, .int .i64 t3, .int .i64 t4, .int .i64 t5, .int .u64 p5]) (by decide))
          have HL3 := Lib.hid hL3
          clear hL3 hK3 hBx hL'
          try dsimp only at hsf hst
          generalize doesC x ⟨p0, p1, p2, p3, ⟨t0, t1, t2, t3, t4, t5⟩, p5⟩ = y at *
          generalize doesA x ⟨p0, p1, p2, p3, ⟨t0, t1, t2, t3, t4, t5⟩, p5⟩ = an at *
          obtain ⟨a0, a1, a2⟩ := an
          dsimp only at *
          have hlo := hsf.lost
          have hsf' := Lib.hid hsf
          have hst' := Lib.hid hst
          have hn2 : (y.state == 2) = false := by rcases hst with e | ⟨e, _⟩ <;> rw [e] <;> rfl
          clear hsf hst hok' hsd hss
          go_wp2_with (first
            | (go_at_call 18; (with_reducible refine (live_lost HL3.out).mono ?_); rintro e w5 ⟨rfl, rfl⟩; rw [hlo])
            | (go_at_call 14; (with_reducible refine (live_state HL3.out).mono ?_); rintro e w6 ⟨rfl, rfl⟩))
          go_roundw
          case rel => exact ⟨k + 1, y, by omega, by go_num, HL3.out, hnext.out, hsf'.out, hst'.out⟩
          case measure => simp [intOf]; omega
    · have hk2 : k = l.length := by omega
      subst hk2
      have hnl : ¬ (l.length < l.length) := by omega
      have hL' := Lib.hid hL
      clear hL hA
      go_wp2_with (go_at_call 9; (with_reducible refine (alive_any _).mono ?_); rintro e w2 ⟨rfl, hB2⟩; have HL2 := Lib.hid (hL'.out.below hB2); clear hB2)
      go_ret
      exact ⟨by simp, HL2.out.old⟩
theorem ChainSafe_any (room : Int) (v : Value) (l : List Op) (w : World) (hv : Script w v l) :
    Calls Try.prog 6 #[.int .i64 room, v] w fun e w' => e = .returned (.bool true) ∧ Below w.heap.size w w' := by
  cases hr : roomOk room with
  | false => exact ChainSafe_none room v w hr
  | true =>
    cases h : fewB l with
    | false => exact ChainSafe_long room v l w hv hr h
    | true => exact ChainSafe_yes room v l w hv hr h
end Go.Proofs.Ytigimpkjfmfkhaa.Chain
