/- The law StageLatency (chapter 10). Conditions: none. -/
import Derived.Test.YtehpliclknfmoaaStageU
import Derived.Maps.AppendAt
namespace Go.Proofs.Ytehpliclknfmoaa.Stage
open Go.RowKit Mem Tick Cargo Toxic
open Go.Proofs.YtehpliclknfmoaaW.PrintLast Pu
set_option maxRecDepth 100000
set_option linter.unusedVariables false
set_option linter.unusedSimpArgs false
theorem own_keep {w1 w2 : World} {B e n m : Nat} {v : Value} {xs : List Value} (h : w1.ownsRow B e n v m xs) (hk : KeepS w1 w2) (he : e ∉ [61, 78, 80]) : w2.ownsRow B e n v m xs := by
  obtain ⟨hl, h⟩ := h
  rcases h with ⟨rfl, h0⟩ | ⟨g, cap, cur, rfl, hg, hh, hnc, hcap, hsz, htake⟩
  · exact ⟨hl, .inl ⟨rfl, h0⟩⟩
  · exact ⟨hl, .inr ⟨g, cap, cur, rfl, hg, hk _ _ _ hh he, hnc, hcap, hsz, htake⟩⟩
theorem LiveS.grown {w wr w2 : World} {b k : Nat} {s : Sg} (h : LiveS w wr b k s) {B e n m : Nat} {v : Value} {xs : List Value} (ho : wr.ownsRow B e n v m xs) (hB : w.heap.size ≤ B) (he : e ∉ [61, 78, 80]) (hG : wr.grownBy w2 v.ownBlock) : LiveS w w2 b k s := by
  obtain ⟨F, hC, hF, hb, hok⟩ := h
  have hne : ∀ j, F j → some j ≠ v.ownBlock := by
    intro j hj e1
    obtain ⟨hl, h⟩ := ho
    rcases h with ⟨rfl, h0⟩ | ⟨g, cap, cur, rfl, hg, hh, hnc, hcap, hsz, htake⟩
    · simp [Value.ownBlock] at e1
    · simp [Value.ownBlock] at e1
      subst e1
      exact hC.off hh he hj
  refine ⟨F, hC.kept fun j hj => hG.block j (hC.lt hj) (hne j hj), hF, hb.grown hG hb.size fun j c => ?_, hok⟩
  have := (ho.lt j c).1
  omega
theorem row_below {B : Nat} {e : TypeId} {k : Nat} {v : Value} {n : Nat} {xs : List Value} {w w' : World} (h : w.ownsRow B e k v n xs) (hb : Below w.heap.size w w') : w'.ownsRow B e k v n xs :=
  h.kept (row := none) ⟨hb.os, hb.tape, hb.output, hb.size, fun j hj _ => hb.block j hj⟩ (by cases hv : v.ownBlock <;> simp)
abbrev ints (l : List Int) : List Value := l.map (Value.int .i64)
theorem own_cell {w : World} {B e : Nat} {v : Value} {l : List Int} (h : w.ownsRow B e 1 v l.length (l.map (Value.int .i64))) (i : Nat) (x : Int) (hx : l[i]? = some x) : ∃ ga cap, v = .slice (some ⟨ga, 0, none⟩) l.length cap ∧ w.cell? ⟨ga, i, none⟩ = some (.int .i64 x) := by
  obtain ⟨hl, h⟩ := h
  rcases h with ⟨rfl, h0⟩ | ⟨g, cap, cur, rfl, hg, hh, hnc, hcap, hsz, htake⟩
  · have : l = [] := by simpa using h0
    subst this; simp at hx
  · refine ⟨g, cap, rfl, ?_⟩
    have hlt := (List.getElem?_eq_some_iff.1 hx).1
    have e1 : (cur.toList.take (l.length * 1))[i]? = some (.int .i64 x) := by
      rw [htake, List.getElem?_map, hx]; rfl
    rw [List.getElem?_take, if_pos (by omega)] at e1
    simp only [World.cell?, hh]
    simpa using e1
theorem bs_byte (w : World) (n : Nat) (hn : n < 60) : BS (w.alloc (.cells #[.int .u8 (n : Int)] 5)) (some ⟨w.heap.size, 0, none⟩) (bOne n) :=
  bs_const w _ _ _ fun i hi => by
    have : i = 0 := by have : (bOne n).size = 1 := rfl; omega
    subst this
    have e : ((bOne n)[0]'hi).toNat = n := by
      show (UInt8.ofNat n).toNat = n
      simp; omega
    simp [e]
theorem live_byte {w wr w1 : World} {b k : Nat} {s : Sg} (h : LiveS w wr b k s) (hb1 : Below wr.heap.size wr w1) (n : Int) (c : Nat) (hc : c < 60) (ht : held s + 1 ≤ 1000000000) :
    Calls Try.prog 11 #[.pointer (some ⟨b, 0, none⟩), .int .i64 n, .slice (some ⟨w1.heap.size, 0, none⟩) 1 1] (w1.alloc (.cells #[.int .u8 (c : Int)] 5)) fun e w2 => e = .returned (.int .i64 (putN s n (bOne c))) ∧ LiveS w w2 b k (putS s n (bOne c)) ∧ KeepS wr w2 := by
  have hB2 := (Below.refl w1.heap.size w1).alloc (Nat.le_refl _) (.cells #[.int .u8 (c : Int)] 5)
  have hB3 := hb1.trans (hB2.mono hb1.size)
  exact (live_put h hB3 n (some ⟨w1.heap.size, 0, none⟩) 1 (bOne c) (Nat.le_refl 1) (bs_byte w1 c hc) (fun g o e => by injection e with e; injection e with e; have := hb1.size; omega) ht).mono fun e w2 ⟨h1, h2, h3⟩ => ⟨h1, h2, (KeepS.below hB3).trans h3⟩
theorem info_int : (Try.prog.info? 3).map (fun i => (i.zero, i.size, i.bytes)) = some (some (.int .i64 0), 1, 8) := by kernel_rfl
theorem latency_none (sa sb seed : Int) (v : Value) (l : List Pt) (w : World) (hv : Puts w v l) (he : newE ⟨⟨#[97]⟩, 1, false, 1, sa, sb⟩ 100 ≠ 0) :
    Calls Try.prog 3 #[.agg #[.int .i64 sa, .int .i64 sb], .int .u64 seed, v] w fun e w' => e = .returned (.bool true) ∧ Below w.heap.size w w' := by
  have hn := fun (wr : World) => live_none (wr := wr) ⟨⟨#[97]⟩, 1, false, 1, sa, sb⟩ seed 100 0 he
  have te : (newE ⟨⟨#[97]⟩, 1, false, 1, sa, sb⟩ 100 != 0) = true := by simpa using he
  have hB0 := Lib.hid (((Below.refl w.heap.size w).alloc (Nat.le_refl _) (.cells #[.int .i64 sa, .int .i64 sb] 22)).drew)
  clear hv he
  generalize newE ⟨⟨#[97]⟩, 1, false, 1, sa, sb⟩ 100 = E at *
  go_enter Try.func3, Try.ntmps3
  go_wp2
  refine start_ (n := 6) (S := fun w' => w'.cell? ⟨w.heap.size, 0, none⟩ = some (.int .i64 sa) ∧ w'.cell? ⟨w.heap.size, 1, none⟩ = some (.int .i64 sb)) (ds := []) (m_ 6 0) (by kernel_rfl) rfl (by kernel_rfl) ⟨(by go_simp), (by go_simp)⟩ (fun hHeld => ?_)
  refine pu_ 0 (some 17) (m_ 6 1) rfl rfl (by kernel_rfl) (fun _ _ _ h => h) (by rfl) (by intro w'; go_simp; with_reducible rfl) (by simp only [Act.put, List.setIfInBounds_toArray, List.set_cons_zero, List.set_cons_succ, i64_w, i32_w]; rfl) ?_
  refine pu_ 2 (some 19) (m_ 6 5) rfl rfl (by kernel_rfl) (fun _ _ _ h => h) (by rfl) (by intro w'; go_simp; with_reducible rfl) (by simp only [Act.put, List.setIfInBounds_toArray, List.set_cons_zero, List.set_cons_succ, i64_w, i32_w]; rfl) ?_
  refine tk_ 1 (some 18) (m_ 6 7) rfl rfl (by kernel_rfl) (fun _ _ _ h => h) (by rfl) (by rintro w' ⟨s0, s1⟩; go_simp; with_reducible rfl) hHeld (by simp only [Act.put, List.setIfInBounds_toArray, List.set_cons_zero, List.set_cons_succ, i64_w, i32_w]; rfl) ?_
  refine pu_ 4 (some 7) (m_ 6 23) rfl rfl (by kernel_rfl) (fun _ _ _ h => h) (by rfl) (by intro w'; go_simp; with_reducible rfl) (by simp only [Act.put, List.setIfInBounds_toArray, List.set_cons_zero, List.set_cons_succ, i64_w, i32_w]; rfl) ?_
  refine tk_ 3 (some 20) (m_ 6 31) rfl rfl (by kernel_rfl) (fun _ _ _ h => h) (by rfl) (by rintro w' ⟨s0, s1⟩; go_simp; with_reducible rfl) hHeld (by simp only [Act.put, List.setIfInBounds_toArray, List.set_cons_zero, List.set_cons_succ, i64_w, i32_w]; rfl) ?_
  refine pu_ 5 (some 8) (m_ 6 63) rfl rfl (by kernel_rfl) (fun _ _ _ h => h) (by rfl) (by intro w'; go_simp; with_reducible rfl) (by simp only [Act.put, List.setIfInBounds_toArray, List.set_cons_zero, List.set_cons_succ, i64_w, i32_w]; rfl) ?_
  refine done_ (by kernel_rfl) ?_
  clear hHeld
  go_wp2_with fail
  refine (hn _).mono ?_
  rintro e w1 ⟨rfl, hB⟩
  have hB1 := Lib.hid (bw_below hB0.out hB)
  clear hn hB
  go_wp2_with (go_at_call 9; (with_reducible refine (alive_any _).mono ?_); rintro e w3 ⟨rfl, hB3⟩; have hB3' := Lib.hid hB3; clear hB3)
  go_ret
  exact ⟨rfl, bw_below hB1.out hB3'.out⟩
theorem latency_long (sa sb seed : Int) (v : Value) (l : List Pt) (w : World) (hv : Puts w v l) (he : newE ⟨⟨#[97]⟩, 1, false, 1, sa, sb⟩ 100 = 0) (hl : 60 < l.length) :
    Calls Try.prog 3 #[.agg #[.int .i64 sa, .int .i64 sb], .int .u64 seed, v] w fun e w' => e = .returned (.bool true) ∧ Below w.heap.size w w' := by
  have hn := fun (wr : World) hB => live_new (w := w) (wr := wr) ⟨⟨#[97]⟩, 1, false, 1, sa, sb⟩ seed 100 0 he hB
  have hB0 := Lib.hid (((Below.refl w.heap.size w).alloc (Nat.le_refl _) (.cells #[.int .i64 sa, .int .i64 sb] 22)).drew)
  obtain ⟨a, cap, rfl, hmx, hA⟩ := hv
  have tl : decide (60 < (l.length : Int)) = true := decide_eq_true (by omega)
  clear he hA
  go_enter Try.func3, Try.ntmps3
  go_wp2
  refine start_ (n := 6) (S := fun w' => w'.cell? ⟨w.heap.size, 0, none⟩ = some (.int .i64 sa) ∧ w'.cell? ⟨w.heap.size, 1, none⟩ = some (.int .i64 sb)) (ds := []) (m_ 6 0) (by kernel_rfl) rfl (by kernel_rfl) ⟨(by go_simp), (by go_simp)⟩ (fun hHeld => ?_)
  refine pu_ 0 (some 17) (m_ 6 1) rfl rfl (by kernel_rfl) (fun _ _ _ h => h) (by rfl) (by intro w'; go_simp; with_reducible rfl) (by simp only [Act.put, List.setIfInBounds_toArray, List.set_cons_zero, List.set_cons_succ, i64_w, i32_w]; rfl) ?_
  refine pu_ 2 (some 19) (m_ 6 5) rfl rfl (by kernel_rfl) (fun _ _ _ h => h) (by rfl) (by intro w'; go_simp; with_reducible rfl) (by simp only [Act.put, List.setIfInBounds_toArray, List.set_cons_zero, List.set_cons_succ, i64_w, i32_w]; rfl) ?_
  refine tk_ 1 (some 18) (m_ 6 7) rfl rfl (by kernel_rfl) (fun _ _ _ h => h) (by rfl) (by rintro w' ⟨s0, s1⟩; go_simp; with_reducible rfl) hHeld (by simp only [Act.put, List.setIfInBounds_toArray, List.set_cons_zero, List.set_cons_succ, i64_w, i32_w]; rfl) ?_
  refine pu_ 4 (some 7) (m_ 6 23) rfl rfl (by kernel_rfl) (fun _ _ _ h => h) (by rfl) (by intro w'; go_simp; with_reducible rfl) (by simp only [Act.put, List.setIfInBounds_toArray, List.set_cons_zero, List.set_cons_succ, i64_w, i32_w]; rfl) ?_
  refine tk_ 3 (some 20) (m_ 6 31) rfl rfl (by kernel_rfl) (fun _ _ _ h => h) (by rfl) (by rintro w' ⟨s0, s1⟩; go_simp; with_reducible rfl) hHeld (by simp only [Act.put, List.setIfInBounds_toArray, List.set_cons_zero, List.set_cons_succ, i64_w, i32_w]; rfl) ?_
  refine pu_ 5 (some 8) (m_ 6 63) rfl rfl (by kernel_rfl) (fun _ _ _ h => h) (by rfl) (by intro w'; go_simp; with_reducible rfl) (by simp only [Act.put, List.setIfInBounds_toArray, List.set_cons_zero, List.set_cons_succ, i64_w, i32_w]; rfl) ?_
  refine done_ (by kernel_rfl) ?_
  clear hHeld
  go_wp2_with fail
  refine (hn _ hB0.out).mono ?_
  rintro e w1 ⟨b, kk, rfl, hL, hB⟩
  have hB1 := Lib.hid hL.old
  clear hn hB hL
  go_wp2_with (go_at_call 9; (with_reducible refine (alive_any _).mono ?_); rintro e w3 ⟨rfl, hB3⟩; have hB3' := Lib.hid hB3; clear hB3)
  go_ret
  exact ⟨rfl, bw_below hB1.out hB3'.out⟩
theorem latency_lag (sa sb seed : Int) (v : Value) (l : List Pt) (w : World) (hv : Puts w v l) (he : newE ⟨⟨#[97]⟩, 1, false, 1, sa, sb⟩ 100 = 0) (hl : l.length ≤ 60) (ha : 1000000 < sa) :
    Calls Try.prog 3 #[.agg #[.int .i64 sa, .int .i64 sb], .int .u64 seed, v] w fun e w' => e = .returned (.bool true) ∧ Below w.heap.size w w' := by
  have hn := fun (wr : World) hB => live_new (w := w) (wr := wr) ⟨⟨#[97]⟩, 1, false, 1, sa, sb⟩ seed 100 0 he hB
  have hB0 := Lib.hid (((Below.refl w.heap.size w).alloc (Nat.le_refl _) (.cells #[.int .i64 sa, .int .i64 sb] 22)).drew)
  obtain ⟨a, cap, rfl, hmx, hA⟩ := hv
  have tl : decide (60 < (l.length : Int)) = false := decide_eq_false (by omega)
  have tl2 : decide (1000000 < sa) = true := decide_eq_true ha
  clear ha
  clear he hA
  go_enter Try.func3, Try.ntmps3
  go_wp2
  refine start_ (n := 6) (S := fun w' => w'.cell? ⟨w.heap.size, 0, none⟩ = some (.int .i64 sa) ∧ w'.cell? ⟨w.heap.size, 1, none⟩ = some (.int .i64 sb)) (ds := []) (m_ 6 0) (by kernel_rfl) rfl (by kernel_rfl) ⟨(by go_simp), (by go_simp)⟩ (fun hHeld => ?_)
  refine pu_ 0 (some 17) (m_ 6 1) rfl rfl (by kernel_rfl) (fun _ _ _ h => h) (by rfl) (by intro w'; go_simp; with_reducible rfl) (by simp only [Act.put, List.setIfInBounds_toArray, List.set_cons_zero, List.set_cons_succ, i64_w, i32_w]; rfl) ?_
  refine pu_ 2 (some 19) (m_ 6 5) rfl rfl (by kernel_rfl) (fun _ _ _ h => h) (by rfl) (by intro w'; go_simp; with_reducible rfl) (by simp only [Act.put, List.setIfInBounds_toArray, List.set_cons_zero, List.set_cons_succ, i64_w, i32_w]; rfl) ?_
  refine tk_ 1 (some 18) (m_ 6 7) rfl rfl (by kernel_rfl) (fun _ _ _ h => h) (by rfl) (by rintro w' ⟨s0, s1⟩; go_simp; with_reducible rfl) hHeld (by simp only [Act.put, List.setIfInBounds_toArray, List.set_cons_zero, List.set_cons_succ, i64_w, i32_w]; rfl) ?_
  refine pu_ 4 (some 7) (m_ 6 23) rfl rfl (by kernel_rfl) (fun _ _ _ h => h) (by rfl) (by intro w'; go_simp; with_reducible rfl) (by simp only [Act.put, List.setIfInBounds_toArray, List.set_cons_zero, List.set_cons_succ, i64_w, i32_w]; rfl) ?_
  refine tk_ 3 (some 20) (m_ 6 31) rfl rfl (by kernel_rfl) (fun _ _ _ h => h) (by rfl) (by rintro w' ⟨s0, s1⟩; go_simp; with_reducible rfl) hHeld (by simp only [Act.put, List.setIfInBounds_toArray, List.set_cons_zero, List.set_cons_succ, i64_w, i32_w]; rfl) ?_
  refine pu_ 5 (some 8) (m_ 6 63) rfl rfl (by kernel_rfl) (fun _ _ _ h => h) (by rfl) (by intro w'; go_simp; with_reducible rfl) (by simp only [Act.put, List.setIfInBounds_toArray, List.set_cons_zero, List.set_cons_succ, i64_w, i32_w]; rfl) ?_
  refine done_ (by kernel_rfl) ?_
  clear hHeld
  go_wp2_with fail
  refine (hn _ hB0.out).mono ?_
  rintro e w1 ⟨b, kk, rfl, hL, hB⟩
  have hB1 := Lib.hid hL.old
  clear hn hB hL
  go_wp2_with (go_at_call 9; (with_reducible refine (alive_any _).mono ?_); rintro e w3 ⟨rfl, hB3⟩; have hB3' := Lib.hid hB3; clear hB3)
  go_ret
  exact ⟨rfl, bw_below hB1.out hB3'.out⟩
set_option maxHeartbeats 2000000 in
theorem latency_yes (sa sb seed : Int) (v : Value) (l : List Pt) (w : World) (hv : Puts w v l) (he : newE ⟨⟨#[97]⟩, 1, false, 1, sa, sb⟩ 100 = 0) (hl : l.length ≤ 60) (ha : sa ≤ 1000000) :
    Calls Try.prog 3 #[.agg #[.int .i64 sa, .int .i64 sb], .int .u64 seed, v] w fun e w' => e = .returned (.bool true) ∧ Below w.heap.size w w' := by
  have hn := fun (wr : World) hB => live_new (w := w) (wr := wr) ⟨⟨#[97]⟩, 1, false, 1, sa, sb⟩ seed 100 0 he hB
  have hB0 := Lib.hid (((Below.refl w.heap.size w).alloc (Nat.le_refl _) (.cells #[.int .i64 sa, .int .i64 sb] 22)).drew)
  obtain ⟨a, cap, rfl, hmx, hA⟩ := hv
  have tl : decide (60 < (l.length : Int)) = false := decide_eq_false (by omega)
  have tl2 : decide (1000000 < sa) = false := decide_eq_false (by omega)
  have hpt := tox_parts (newE_parts he).1
  dsimp only at hpt
  have hp1 := Lib.hid (show sb ≤ sa ∧ 0 ≤ sb ∧ sa ≤ 1000000 from ⟨hpt.2.2.2.2.2.2.1 rfl, hpt.2.2.2.2.1, ha⟩)
  have hI0 := Lib.hid (show LaI sa sb ⟨⟨#[97]⟩, 1, false, 1, sa, sb⟩ 0 [] (newS ⟨⟨#[97]⟩, 1, false, 1, sa, sb⟩ seed 100 0) from ⟨rfl, rfl, rfl, add_zero 0, rfl, (fun p hp => by cases hp), (by show (0 : Int) ≤ 0 + sa + sb; have := hp1.out; omega), Nat.le_refl 0, (fun a ha => by cases ha)⟩)
  have hs0 := Lib.hid (show (newS ⟨⟨#[97]⟩, 1, false, 1, sa, sb⟩ seed 100 0).passed = 0 ∧ held (newS ⟨⟨#[97]⟩, 1, false, 1, sa, sb⟩ seed 100 0) = 0 from ⟨rfl, rfl⟩)
  obtain ⟨i0, hi, hz0, hz1, hz2⟩ := info_parts info_int
  clear he ha hpt
  generalize newS ⟨⟨#[97]⟩, 1, false, 1, sa, sb⟩ seed 100 0 = s0 at *
  go_enter Try.func3, Try.ntmps3
  go_wp2
  refine start_ (n := 6) (S := fun w' => w'.cell? ⟨w.heap.size, 0, none⟩ = some (.int .i64 sa) ∧ w'.cell? ⟨w.heap.size, 1, none⟩ = some (.int .i64 sb)) (ds := []) (m_ 6 0) (by kernel_rfl) rfl (by kernel_rfl) ⟨(by go_simp), (by go_simp)⟩ (fun hHeld => ?_)
  refine pu_ 0 (some 17) (m_ 6 1) rfl rfl (by kernel_rfl) (fun _ _ _ h => h) (by rfl) (by intro w'; go_simp; with_reducible rfl) (by simp only [Act.put, List.setIfInBounds_toArray, List.set_cons_zero, List.set_cons_succ, i64_w, i32_w]; rfl) ?_
  refine pu_ 2 (some 19) (m_ 6 5) rfl rfl (by kernel_rfl) (fun _ _ _ h => h) (by rfl) (by intro w'; go_simp; with_reducible rfl) (by simp only [Act.put, List.setIfInBounds_toArray, List.set_cons_zero, List.set_cons_succ, i64_w, i32_w]; rfl) ?_
  refine tk_ 1 (some 18) (m_ 6 7) rfl rfl (by kernel_rfl) (fun _ _ _ h => h) (by rfl) (by rintro w' ⟨s0, s1⟩; go_simp; with_reducible rfl) hHeld (by simp only [Act.put, List.setIfInBounds_toArray, List.set_cons_zero, List.set_cons_succ, i64_w, i32_w]; rfl) ?_
  refine pu_ 4 (some 7) (m_ 6 23) rfl rfl (by kernel_rfl) (fun _ _ _ h => h) (by rfl) (by intro w'; go_simp; with_reducible rfl) (by simp only [Act.put, List.setIfInBounds_toArray, List.set_cons_zero, List.set_cons_succ, i64_w, i32_w]; rfl) ?_
  refine tk_ 3 (some 20) (m_ 6 31) rfl rfl (by kernel_rfl) (fun _ _ _ h => h) (by rfl) (by rintro w' ⟨s0, s1⟩; go_simp; with_reducible rfl) hHeld (by simp only [Act.put, List.setIfInBounds_toArray, List.set_cons_zero, List.set_cons_succ, i64_w, i32_w]; rfl) ?_
  refine pu_ 5 (some 8) (m_ 6 63) rfl rfl (by kernel_rfl) (fun _ _ _ h => h) (by rfl) (by intro w'; go_simp; with_reducible rfl) (by simp only [Act.put, List.setIfInBounds_toArray, List.set_cons_zero, List.set_cons_succ, i64_w, i32_w]; rfl) ?_
  refine done_ (by kernel_rfl) ?_
  clear hHeld
  go_wp2_with fail
  refine (hn _ hB0.out).mono ?_
  rintro e w1 ⟨b, kk, rfl, hL, hB⟩
  have H1 := Lib.hid hL
  clear hn hB hL hB0
  go_wp2
  go_loopw [11, 12, 47] (fun nv av iv wr => ∃ (k : Nat) (s : Sg) (now : Int) (at_ : List Int), k ≤ l.length ∧ iv = .int .i64 k ∧ nv = .int .i64 now ∧ LiveS w wr b kk s ∧ LaI sa sb ⟨⟨#[97]⟩, 1, false, 1, sa, sb⟩ now at_ s ∧ wr.ownsRow w.heap.size 3 1 av at_.length (ints at_) ∧ 0 ≤ now ∧ now ≤ 1099511627776 ∧ at_.length ≤ k ∧ s.passed + held s ≤ k) (fun _ _ iv _ => l.length - (intOf iv).toNat)
  case atStart => exact ⟨0, s0, 0, [], by omega, rfl, rfl, H1.out, hI0.out, World.ownsRow_nil _ _ _ _, by decide, by decide, Nat.le_refl _, by rw [hs0.out.1, hs0.out.2]; decide⟩
  case round =>
    obtain ⟨k, s, now, at_, hk, rfl, rfl, hL, hI, hO, hn0, hn1, hal, hm⟩ := hrel
    clear H1 hI0 hs0
    by_cases hlt : k < l.length
    · obtain ⟨g, oo, rfl, hc⟩ := hA (by intro h; subst h; simp at hlt)
      have hx : l[k]? = some l[k] := List.getElem?_eq_getElem hlt
      obtain ⟨d0, d1, d2⟩ := hc k _ hx
      generalize l[k] = p at *
      obtain ⟨p0, p1, p2⟩ := p
      dsimp only at *
      have hold := hL.old
      have d0' := bcells hold d0
      have d1' := bcells hold d1
      have d2' := bcells hold d2
      obtain ⟨ht0, ht1, ht2⟩ := tick_next now p0 hn0 hn1
      have hL' := Lib.hid hL
      have hI' := Lib.hid hI
      have hO' := Lib.hid hO
      have hm' := Lib.hid hm
      have hp0 := hL.ok.p0
      have hH1 : held s + 200 ≤ 1000000000 := by omega
      have hP1 : s.passed ≤ 1000000000 := by omega
      have HT := Lib.hid (show now ≤ Tick.add now p0 ∧ Tick.add now p0 ≤ 1099511627776 ∧ Tick.add (Tick.add now p0) 0 = Tick.add now p0 from ⟨ht0, ht1, ht2⟩)
      have hn0' := Lib.hid hn0
      have HBx := Lib.hid (show Below wr.heap.size wr (wr.alloc (.cells #[.int .i64 p0, .bool p1, .int .i64 p2] 34)) from (Below.refl _ _).alloc (Nat.le_refl _) _)
      have hszw : w.heap.size ≤ wr.heap.size := hold.size
      obtain ⟨Aa, ca, rfl⟩ : ∃ A c, u12 = .slice A at_.length c := by
        obtain ⟨hl, h⟩ := hO
        rcases h with ⟨rfl, h0⟩ | ⟨g, cap, cur, rfl, _⟩
        · have : at_ = [] := by simpa using h0
          subst this; exact ⟨none, 0, rfl⟩
        · exact ⟨_, _, rfl⟩
      clear hc hx hA hold hL hI hO hm hp0 ht0 ht1 ht2 hn0 hn1 d0 d1 d2
      generalize hNE : Tick.add now p0 = N at *
      have hNE' := Lib.hid hNE
      clear hNE
      cases p1 with
      | false =>
        go_wp2_with (go_at_call 10; (with_reducible refine (Ref01.add_any now p0 _).mono ?_); rintro e w3 ⟨rfl, rfl⟩; rw [hNE'.out])
        have hq := live_byte hL'.out HBx.out N at_.length (by omega) (by omega)
        rw [World.size_alloc] at hq
        refine hq.mono ?_
        rintro e w2 ⟨rfl, hL2, hK2⟩
        have hpu := hI'.out.put rfl rfl rfl hp1.out.1 hp1.out.2.1 hp1.out.2.2 N HT.out.1 HT.out.2.2 (Int.le_trans hn0'.out HT.out.1) HT.out.2.1 (by omega)
        rw [hpu.1]
        have HI2 := Lib.hid hpu.2
        have HL2 := Lib.hid hL2
        have HO2 := own_keep hO'.out hK2 (by decide)
        have HM2 := Lib.hid (show (putS s N (bOne at_.length)).passed + held (putS s N (bOne at_.length)) ≤ (k + 1 : Nat) by
          have h1 := held_put s N (bOne at_.length)
          have h2 := hm'.out
          have e : (bOne at_.length).size = 1 := rfl
          rw [e] at h1
          rw [put_passed]
          omega)
        have hsz2 : w.heap.size ≤ w2.heap.size := hL2.old.size
        clear hL2 hL' hI' hO' HBx hq hpu hK2
        generalize putS s N (bOne at_.length) = s2 at *
        go_wp2_with (at_builtin; refine wpList_append_own_at _ rfl _ _ 32 rfl w.heap.size 3 i0 (.int .i64 0) 1 8 Try.underlying32 hi hz0 hz1 hz2 rfl (by decide) _ _ _ rfl (HO2.alloc _) ⟨w2.heap.size, 0, none⟩ 1 1 [.int .i64 N] rfl rfl (cell_one_new _ _ _) (by simp [Value.oneCell']) (by unfold maxLen; omega) (by omega) (by simp; omega) ?_; intro vA w4 oA4 gA _ pA; have HL4 := Lib.hid ((HL2.out.below ((Below.refl w2.heap.size w2).alloc (Nat.le_refl _) (.cells #[.int .i64 N] 3))).grown (HO2.alloc _) (Nat.le_refl _) (by decide) gA); have oA4' := Lib.hid oA4; clear gA pA oA4)
        go_roundw
        case rel => exact ⟨k + 1, s2, N, at_ ++ [N], by omega, by go_num, rfl, HL4.out, HI2.out, by simpa [ints] using oA4'.out, Int.le_trans hn0'.out HT.out.1, HT.out.2.1, by simp; omega, HM2.out⟩
        case measure => simp [intOf]; omega
      | true =>
        go_wp2_with (go_at_call 10; (with_reducible refine (Ref01.add_any now p0 _).mono ?_); rintro e w3 ⟨rfl, rfl⟩; rw [hNE'.out])
        refine (live_take (hL'.out.below HBx.out) N p2 hP1 (by omega)).mono ?_
        rintro e w2 ⟨A2, c2, rfl, hb2, -, hL2, hK2⟩
        have HL2 := Lib.hid hL2
        have HO2 := Lib.hid (own_keep (row_below hO'.out HBx.out) hK2 (by decide))
        obtain ⟨hk1, hk2⟩ := hI'.out.take hL'.out.ok.good rfl N HT.out.1 HT.out.2.2 p2
        have HI2 := Lib.hid hk1
        have hk2' := Lib.hid hk2
        have hb2' := Lib.hid hb2
        have HM2 := Lib.hid (show (takeS s N p2).passed + held (takeS s N p2) ≤ (k + 1 : Nat) by
          have h1 := held_take s N p2
          have h2 := hm'.out
          rw [passed_take]
          omega)
        have hsz : (takeB s N p2).size ≤ 1000000000 := by have h1 := held_take s N p2; omega
        clear hL2 hL' hI' HBx hK2 hk1 hk2 hb2 hO'
        generalize takeS s N p2 = s2 at *
        generalize takeB s N p2 = X at *
        generalize hzE : X.size = z at *
        have hz' := Lib.hid hzE
        clear hzE
        go_wp2
        go_loop [76] (fun jv => ∃ j : Nat, j ≤ z ∧ jv = .int .i64 j) (fun jv => z - (intOf jv).toNat)
        case atStart => exact ⟨0, by omega, rfl⟩
        case round =>
          obtain ⟨j, hj, rfl⟩ := hrel
          by_cases hjz : j < z
          · have hjX : j < X.size := by rw [hz'.out]; exact hjz
            obtain ⟨gx, ox, rfl, hbx⟩ := hb2'.out (by omega)
            have hcx := hbx j hjX
            have hmem : X[j] ∈ X.data.toList := by
              rw [ByteArray.getElem_eq_getElem_data]
              exact Array.getElem_mem_toList _
            obtain ⟨hc1, hc2⟩ := hk2'.out _ hmem
            generalize X[j].toNat = cb at *
            have hax : at_[cb]? = some at_[cb] := List.getElem?_eq_getElem hc1
            have hle := hc2 _ hax
            obtain ⟨ga, cap2, he2, hcell⟩ := own_cell HO2.out cb _ hax
            injection he2 with he3 he4 he5
            subst he3
            generalize at_[cb] = av at *
            have t3 : decide (N < Tick.add av (sa - sb)) = false := decide_eq_false (by omega)
            have t4 : decide (at_.length ≤ cb) = false := decide_eq_false (by omega)
            obtain ⟨hp2, hp3, hp4⟩ := hp1.out
            clear hmem hbx hc2 hax hle he4 he5
            go_wp2_with (go_at_call 10; (with_reducible refine (Ref01.add_any av (sa - sb) _).mono ?_); rintro e w3 ⟨rfl, rfl⟩)
            go_round
            case rel => exact ⟨j + 1, by omega, by go_num⟩
            case measure => simp [intOf]; omega
          · obtain rfl : j = z := by omega
            have hnl : ¬ (j < j) := by omega
            go_wp2
            go_roundw
            case rel => exact ⟨k + 1, s2, N, at_, by omega, by go_num, rfl, HL2.out, HI2.out, HO2.out, Int.le_trans hn0'.out HT.out.1, HT.out.2.1, by omega, HM2.out⟩
            case measure => simp [intOf]; omega
    · have hk2 : k = l.length := by omega
      subst hk2
      have hnl : ¬ (l.length < l.length) := by omega
      have hL' := Lib.hid hL
      have hI' := Lib.hid hI
      obtain ⟨Aa, ca, rfl⟩ : ∃ A c, u12 = .slice A at_.length c := by
        obtain ⟨hl, h⟩ := hO
        rcases h with ⟨rfl, h0⟩ | ⟨g, cap, cur, rfl, _⟩
        · have : at_ = [] := by simpa using h0
          subst this; exact ⟨none, 0, rfl⟩
        · exact ⟨_, _, rfl⟩
      have hm' := Lib.hid hm
      have hp0 := hL.ok.p0
      have hH1 : held s ≤ 1000000000 := by omega
      have hP1 : s.passed ≤ 1000000000 := by omega
      have hn0' := Lib.hid hn0
      clear hL hI hO hm hA hp0
      by_cases hz : at_.length = 0
      · have t3 : ((at_.length : Int) == 0) = true := by simpa using hz
        clear hz
        go_wp2_with (go_at_call 9; (with_reducible refine (alive_any _).mono ?_); rintro e w2 ⟨rfl, hB2⟩; have HL2 := Lib.hid (hL'.out.below hB2); clear hB2)
        go_ret
        exact ⟨rfl, HL2.out.old⟩
      · have t3 : ((at_.length : Int) == 0) = false := by simpa using hz
        clear hz
        by_cases hb9 : 1000000000 < now
        · have t4 : decide (1000000000 < now) = true := decide_eq_true hb9
          clear hb9
          go_wp2_with (go_at_call 9; (with_reducible refine (alive_any _).mono ?_); rintro e w2 ⟨rfl, hB2⟩; have HL2 := Lib.hid (hL'.out.below hB2); clear hB2)
          go_ret
          exact ⟨rfl, HL2.out.old⟩
        · have t4 : decide (1000000000 < now) = false := decide_eq_false hb9
          have hlast := Lib.hid (hI'.out.last rfl hp1.out.1 hp1.out.2.1 hp1.out.2.2 hn0'.out (by omega) (by omega))
          obtain ⟨hp2, hp3, hp4⟩ := hp1.out
          go_wp2_with fail
          refine (live_take hL'.out (now + sa + sb) 100 hP1 hH1).mono ?_
          rintro e w2 ⟨A2, c2, rfl, -, -, hL2, -⟩
          have HL2 := Lib.hid hL2
          clear hL2
          go_wp2_with (first
            | (go_at_call 9; (with_reducible refine (alive_any _).mono ?_); rintro e w3 ⟨rfl, hB3⟩; have HL3 := Lib.hid (HL2.out.below hB3); clear hB3)
            | (go_at_call 13; (with_reducible refine (live_held HL3.out (by rw [hlast.out]; decide)).mono ?_); rintro e w4 ⟨rfl, hL4, -⟩; rw [hlast.out]; have HL4 := Lib.hid hL4; clear hL4))
          go_ret
          exact ⟨rfl, HL4.out.old⟩
theorem latency_row (sa sb seed : Int) (v : Value) (l : List Pt) (w : World) (hv : Puts w v l) :
    Calls Try.prog 3 #[.agg #[.int .i64 sa, .int .i64 sb], .int .u64 seed, v] w fun e w' => e = .returned (.bool true) ∧ Below w.heap.size w w' := by
  by_cases he : newE ⟨⟨#[97]⟩, 1, false, 1, sa, sb⟩ 100 = 0
  · by_cases hl : l.length ≤ 60
    · by_cases ha : sa ≤ 1000000
      · exact latency_yes sa sb seed v l w hv he hl ha
      · exact latency_lag sa sb seed v l w hv he hl (by omega)
    · exact latency_long sa sb seed v l w hv he (by omega)
  · exact latency_none sa sb seed v l w hv he
end Go.Proofs.Ytehpliclknfmoaa.Stage
