/- The law CargoHurries (chapter 07). Conditions: each text is shorter than 2^47 bytes. -/
import Derived.Test.YtcoennfpaimclaaLive
namespace Go.Proofs.Ytcoennfpaimclaa.Cargo
open Go.RowKit Mem Tick
set_option maxRecDepth 100000
set_option linter.unusedVariables false
set_option linter.unusedSimpArgs false
theorem hurries_few (v : Value) (l : List Op4) (t : Int) (s : ByteArray) (w : World) (hv : Script w v l) (hf : fewB l = false) :
    Calls Try.prog 5 #[v, .int .i64 t, .string s] w fun e w' => e = .returned (.bool true) ∧ Below w.heap.size w w' := by
  have hv' := Lib.hid hv
  have hf' := Lib.hid hf
  clear hv hf
  go_enter Try.func5, Try.ntmps5
  go_wp2_with fail
  refine (live_new w _ (Below.refl _ _)).mono ?_
  rintro e w0 ⟨b, rfl, hL, hB⟩
  have hL0 := Lib.hid hL
  clear hL hB
  go_wp2_with fail
  refine (few_any _ l _ (hv'.out.below hL0.out.old)).mono ?_
  rintro e w1 ⟨rfl, hB⟩
  have hH1 := Lib.hid (hL0.out.below hB)
  clear hB hL0
  rw [hf'.out]
  go_wp2_with (go_at_call 12; (with_reducible refine (alive_any _).mono ?_); rintro e w2 ⟨rfl, hB2⟩; have hB2' := Lib.hid hB2; clear hB2)
  go_ret
  exact ⟨by simp, hH1.out.old.trans (hB2'.out.mono hH1.out.old.size)⟩
theorem hurries_long (v : Value) (l : List Op4) (t : Int) (s : ByteArray) (w : World) (hv : Script w v l) (hf : fewB l = true) (h1 : 100 < s.size) (h9 : s.size ≤ 140737488351232) :
    Calls Try.prog 5 #[v, .int .i64 t, .string s] w fun e w' => e = .returned (.bool true) ∧ Below w.heap.size w w' := by
  have hv' := Lib.hid hv
  have hf' := Lib.hid hf
  clear hv hf
  go_enter Try.func5, Try.ntmps5
  go_wp2_with fail
  refine (live_new w _ (Below.refl _ _)).mono ?_
  rintro e w0 ⟨b, rfl, hL, hB⟩
  have hL0 := Lib.hid hL
  clear hL hB
  go_wp2_with fail
  refine (few_any _ l _ (hv'.out.below hL0.out.old)).mono ?_
  rintro e w1 ⟨rfl, hB⟩
  have hH1 := Lib.hid (hL0.out.below hB)
  clear hB hL0
  rw [hf'.out]
  go_wp2_with (go_at_call 12; (with_reducible refine (alive_any _).mono ?_); rintro e w2 ⟨rfl, hB2⟩; have hB2' := Lib.hid hB2; clear hB2)
  go_ret
  exact ⟨by simp, hH1.out.old.trans (hB2'.out.mono hH1.out.old.size)⟩
theorem hurries_neg (v : Value) (l : List Op4) (t : Int) (s : ByteArray) (w : World) (hv : Script w v l) (hf : fewB l = true) (h1 : s.size ≤ 100) (h2 : t < 0) :
    Calls Try.prog 5 #[v, .int .i64 t, .string s] w fun e w' => e = .returned (.bool true) ∧ Below w.heap.size w w' := by
  have hv' := Lib.hid hv
  have hf' := Lib.hid hf
  clear hv hf
  go_enter Try.func5, Try.ntmps5
  go_wp2_with fail
  refine (live_new w _ (Below.refl _ _)).mono ?_
  rintro e w0 ⟨b, rfl, hL, hB⟩
  have hL0 := Lib.hid hL
  clear hL hB
  go_wp2_with fail
  refine (few_any _ l _ (hv'.out.below hL0.out.old)).mono ?_
  rintro e w1 ⟨rfl, hB⟩
  have hH1 := Lib.hid (hL0.out.below hB)
  clear hB hL0
  rw [hf'.out]
  go_wp2_with (go_at_call 12; (with_reducible refine (alive_any _).mono ?_); rintro e w2 ⟨rfl, hB2⟩; have hB2' := Lib.hid hB2; clear hB2)
  go_ret
  exact ⟨by simp, hH1.out.old.trans (hB2'.out.mono hH1.out.old.size)⟩
theorem hurries_top (v : Value) (l : List Op4) (t : Int) (s : ByteArray) (w : World) (hv : Script w v l) (hf : fewB l = true) (h1 : s.size ≤ 100) (h2 : 0 ≤ t) (h3 : 549755813888 < t) :
    Calls Try.prog 5 #[v, .int .i64 t, .string s] w fun e w' => e = .returned (.bool true) ∧ Below w.heap.size w w' := by
  have hv' := Lib.hid hv
  have hf' := Lib.hid hf
  clear hv hf
  go_enter Try.func5, Try.ntmps5
  go_wp2_with fail
  refine (live_new w _ (Below.refl _ _)).mono ?_
  rintro e w0 ⟨b, rfl, hL, hB⟩
  have hL0 := Lib.hid hL
  clear hL hB
  go_wp2_with fail
  refine (few_any _ l _ (hv'.out.below hL0.out.old)).mono ?_
  rintro e w1 ⟨rfl, hB⟩
  have hH1 := Lib.hid (hL0.out.below hB)
  clear hB hL0
  rw [hf'.out]
  go_wp2_with (go_at_call 12; (with_reducible refine (alive_any _).mono ?_); rintro e w2 ⟨rfl, hB2⟩; have hB2' := Lib.hid hB2; clear hB2)
  go_ret
  exact ⟨by simp, hH1.out.old.trans (hB2'.out.mono hH1.out.old.size)⟩
theorem hurries_yes (v : Value) (l : List Op4) (t : Int) (s : ByteArray) (w : World) (hv : Script w v l) (hf : fewB l = true) (h1 : s.size ≤ 100) (h2 : 0 ≤ t) (h3 : t ≤ 549755813888) :
    Calls Try.prog 5 #[v, .int .i64 t, .string s] w fun e w' => e = .returned (.bool true) ∧ Below w.heap.size w w' := by
  have hcv := conv_str s
  have hn5 : bytesOf l ≤ 5000 := by simp [fewB] at hf; exact hf.2
  have hl2 : l.length ≤ 200 := by simp [fewB] at hf; exact hf.1
  have hv' := Lib.hid hv
  have hf' := Lib.hid hf
  obtain ⟨a, cap, rfl, hmx, -, hA⟩ := hv
  clear hf
  go_enter Try.func5, Try.ntmps5
  go_wp2_with fail
  refine (live_new w _ (Below.refl _ _)).mono ?_
  rintro e w0 ⟨b, rfl, hL, hB⟩
  have hL0 := Lib.hid hL
  clear hL hB
  go_wp2_with fail
  refine (few_any _ l _ (hv'.out.below hL0.out.old)).mono ?_
  rintro e w1 ⟨rfl, hB⟩
  have hH1 := Lib.hid (hL0.out.below hB)
  clear hB hL0
  rw [hf'.out]
  go_wp2
  go_loopw [41] (fun iv wr => ∃ (k : Nat) (x : St), k ≤ l.length ∧ iv = .int .i64 k ∧ Live w wr b x ∧ tot x.1 ≤ bytesOf (l.take k)) (fun iv _ => l.length - (intOf iv).toNat)
  case atStart => exact ⟨0, ([], 0), by omega, rfl, hH1.out, Nat.zero_le _⟩
  case round =>
    obtain ⟨k, x, hk, rfl, hL, hT⟩ := hrel
    clear hH1
    by_cases hlt : k < l.length
    · obtain ⟨g, oo, rfl, hc⟩ := hA (by intro h; subst h; simp at hlt)
      have hx : l[k]? = some l[k] := List.getElem?_eq_getElem hlt
      obtain ⟨d0, d1, d2, d3⟩ := hc k _ hx
      have hbt := Lib.hid (bytesOf_take l k _ hx)
      have hble := bytesOf_le l (k + 1)
      rw [hbt.out] at hble
      have hts := tot_stp x l[k]
      generalize l[k] = p at *
      obtain ⟨p0, p1, p2, p3⟩ := p
      dsimp only at *
      have d0' := bcells hL.old d0
      have d1' := bcells hL.old d1
      have d2' := bcells hL.old d2
      have d3' := bcells hL.old d3
      have hL' := Lib.hid hL
      have hsz := hL.old.size
      clear hc hx d0 d1 d2 d3 hL
      go_wp2_with fail
      refine (live_does (hL'.out.below ((Below.refl _ _).alloc (Nat.le_refl _) _)) (p0, p1, p2, p3) (by dsimp only; omega) (by omega)).mono ?_
      rintro e w2 ⟨rfl, hL2, -⟩
      have hL2' := Lib.hid hL2
      clear hL2
      go_wp2
      go_roundw
      case rel => exact ⟨k + 1, stp x (p0, p1, p2, p3), by omega, by go_num, hL2'.out, by rw [hbt.out]; omega⟩
      case measure => simp [intOf]; omega
    · have hk2 : k = l.length := by omega
      subst hk2
      have hnl : ¬ (l.length < l.length) := by omega
      have hble := bytesOf_le l l.length
      have hz1 : tot x.1 ≤ 5000 := by omega
      have hL1 := Lib.hid hL
      clear hL hA
      have ha0 : Tick.add t 0 = t := by show nr (nr t + nr 0) = t; rw [nr_in h2 (by omega), show nr 0 = 0 from rfl, Int.add_zero, nr_in h2 (by omega)]
      have ha5 : Tick.add (t + 5) 0 = t + 5 := by show nr (nr (t + 5) + nr 0) = t + 5; rw [show nr 0 = 0 from rfl, Int.add_zero, nr_in (n := t + 5) (by omega) (by omega), nr_in (n := t + 5) (by omega) (by omega)]
      go_wp2_with fail
      refine (live_len hL1.out (by omega)).mono ?_
      rintro e w2 ⟨rfl, hL, -⟩
      have hL2 := Lib.hid hL
      clear hL
      go_wp2_with fail
      refine (live_hurry t hL2.out (by omega)).mono ?_
      rintro e w3 ⟨rfl, hL, -⟩
      rw [ha0] at hL
      have hg := hL.good
      have hr := rdy_all (now := t) (ps := hur t x.1) (fun a ha => Int.le_trans (hg.2.2 a ha) (Int.min_le_right ..))
      have hth : tot (hur t x.1) = tot x.1 := tot_hur _ _
      have hL3 := Lib.hid hL
      clear hL
      have hq0 : putAt (min x.2 t) (t + 5) = t + 5 := by unfold putAt; rw [ha5]; omega
      have hr5 := rdy_all (now := t + 5) (ps := hur t x.1) (fun a ha => by have := hg.2.2 a ha; dsimp only at this; omega)
      have hadd := rdy_add t (hur t x.1) (t + 5) s
      have hadd5 := rdy_add (t + 5) (hur t x.1) (t + 5) s
      rw [if_neg (by omega)] at hadd
      rw [if_pos (by omega)] at hadd5
      have htp := tot_addP (hur t x.1) (t + 5) s
      have htp' : tot (addP (hur t x.1) (t + 5) s) ≤ 6000 := by omega
      have q1 := Lib.hid hr
      have q2 := Lib.hid hq0
      have q3 := Lib.hid (show rdy t (addP (hur t x.1) (t + 5) s) = tot x.1 by omega)
      have q4 := Lib.hid (show rdy (t + 5) (addP (hur t x.1) (t + 5) s) = tot x.1 + s.size by omega)
      have hth' := Lib.hid hth
      clear hr hq0 hr5 hadd hadd5 htp hg ha0 ha5 hth
      go_wp2_with fail
      refine (live_ready t hL3.out (by dsimp only; rw [hth'.out]; omega)).mono ?_
      rintro e w4 ⟨rfl, hL, -⟩
      have hL4 := Lib.hid hL
      clear hL
      dsimp only
      rw [q1.out, hth'.out]
      go_wp2_with fail
      refine (live_put (t + 5) _ _ s (hL4.out.below (bytes_below _ s)) (bytes_new _ s) (by dsimp only; rw [hth'.out]; omega) (by dsimp only; rw [hth'.out]; omega)).mono ?_
      rintro e w5 ⟨rfl, hL, -⟩
      dsimp only at hL ⊢
      rw [q2.out] at hL ⊢
      have hL5 := Lib.hid hL
      clear hL hcv
      generalize hPs : addP (hur t x.1) (t + 5) s = ps5 at *
      clear hPs
      go_wp2_with fail
      refine (alive_any _).mono ?_
      rintro e w6 ⟨rfl, hB6⟩
      have hL6 := Lib.hid (hL5.out.below hB6)
      clear hB6
      go_wp2_with fail
      refine (live_ready t hL6.out (Nat.le_trans htp' (by decide))).mono ?_
      rintro e w7 ⟨rfl, hL, -⟩
      have hL7 := Lib.hid hL
      clear hL
      dsimp only
      rw [q3.out]
      go_wp2_with fail
      refine (live_ready (t + 5) hL7.out (Nat.le_trans htp' (by decide))).mono ?_
      rintro e w8 ⟨rfl, hL, -⟩
      have hL8 := Lib.hid hL
      clear hL
      dsimp only
      rw [q4.out]
      go_wp2
      go_ret
      exact ⟨by simp, hL8.out.old⟩
theorem hurries_any (v : Value) (l : List Op4) (t : Int) (s : ByteArray) (w : World) (hv : Script w v l) (hs : s.size ≤ 140737488351232) :
    Calls Try.prog 5 #[v, .int .i64 t, .string s] w fun e w' => e = .returned (.bool true) ∧ Below w.heap.size w w' := by
  cases hf : fewB l with
  | false => exact hurries_few v l t s w hv hf
  | true =>
    by_cases h1 : s.size ≤ 100
    · by_cases h2 : t < 0
      · exact hurries_neg v l t s w hv hf h1 h2
      · by_cases h3 : t ≤ 549755813888
        · exact hurries_yes v l t s w hv hf h1 (by omega) h3
        · exact hurries_top v l t s w hv hf h1 (by omega) (by omega)
    · exact hurries_long v l t s w hv hf (by omega) hs
end Go.Proofs.Ytcoennfpaimclaa.Cargo
