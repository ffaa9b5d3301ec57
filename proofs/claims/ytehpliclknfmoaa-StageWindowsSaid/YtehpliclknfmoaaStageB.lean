/- A stage's clock, room and state (chapter 10). Conditions: the bytes are fewer than 2^40. -/
import Derived.Test.YtehpliclknfmoaaStageA
import Derived.Test.YtehpliclknfmoaaPu
import Derived.Deep.DeepCutAuto
namespace Go.Proofs.Ytehpliclknfmoaa.Stage
open Go.RowKit Mem Tick Cargo Toxic
open Go.Proofs.YtehpliclknfmoaaW.PrintLast Pu
set_option maxRecDepth 100000
set_option linter.unusedVariables false
set_option linter.unusedSimpArgs false
variable {w w' : World} {F : Nat → Prop} {b k : Nat} {s : Sg}
def nowP (s : Sg) (n : Int) : Sg := { s with clock := max s.clock (add n 0) }
def lateB (s : Sg) (since n : Int) : Bool := decide (add since n ≤ s.clock)
def endedB (s : Sg) : Bool := s.closed && decide (held s = 0) && (decide (s.t.kind ≠ 7) || lateB s s.at_ s.t.a)
def lookS (s : Sg) : Int :=
  if s.state ≠ 0 then s.state else if s.t.kind = 5 ∧ lateB s s.began s.t.a = true then 2 else if s.t.kind = 4 then (if lateB s s.began s.t.a = true then 1 else 0)
  else if s.t.kind = 6 ∧ s.t.a ≤ s.passed then 1 else if endedB s = true then 1 else 0
def lookP (s : Sg) (n : Int) : Sg := { nowP s n with state := lookS (nowP s n) }
theorem below_drew {w w1 : World} (hB : Below w.drew.heap.size w.drew w1) : Below w.heap.size w w1 := ⟨hB.os, hB.tape, hB.output, hB.size, hB.block⟩
theorem now_any (h : SG w F b k s) (n : Int) :
    Calls Try.prog 36 #[.pointer (some ⟨b, 0, none⟩), .int .i64 n] w fun e w' => e = .returned (.int .i64 (nowP s n).clock) ∧ SG w' F b k (nowP s n) ∧ Did F w w' := by
  have c14 : w.cell? ⟨b, 14, none⟩ = some (.int .i64 s.clock) := (h.blk.cell 14).trans rfl
  have f14 := h.blk.free 14
  have H := Lib.hid h
  have hbl : b < w.heap.size := h.lt h.mine
  clear h
  go_enter Try.func36, Try.ntmps36
  go_wp2
  refine start_ (n := 11) (S := fun w' => w'.cell? ⟨b, 14, none⟩ = some (.int .i64 s.clock)) (ds := [10]) (m_ 11 0) (by kernel_rfl) rfl (by kernel_rfl) (c14) (fun hHeld => ?_)
  refine pu_ 0 (some 5) (m_ 11 1) rfl rfl (by kernel_rfl) (fun _ _ _ h => h) (by rfl) (by intro w'; go_simp; with_reducible rfl) (by simp only [Act.put, List.setIfInBounds_toArray, List.set_cons_zero, List.set_cons_succ, i64_w, i32_w]; rfl) ?_
  refine pu_ 1 (some 6) (m_ 11 3) rfl rfl (by kernel_rfl) (fun _ _ _ h => h) (by rfl) (by intro w'; go_simp; with_reducible rfl) (by simp only [Act.put, List.setIfInBounds_toArray, List.set_cons_zero, List.set_cons_succ, i64_w, i32_w]; rfl) ?_
  refine pu_ 2 (some 7) (m_ 11 7) rfl rfl (by kernel_rfl) (fun _ _ _ h => h) (by rfl) (by intro w'; go_simp; with_reducible rfl) (by simp only [Act.put, List.setIfInBounds_toArray, List.set_cons_zero, List.set_cons_succ, i64_w, i32_w]; rfl) ?_
  refine pu_ 3 (some 8) (m_ 11 15) rfl rfl (by kernel_rfl) (fun _ _ _ h => h) (by rfl) (by intro w'; go_simp; with_reducible rfl) (by simp only [Act.put, List.setIfInBounds_toArray, List.set_cons_zero, List.set_cons_succ, i64_w, i32_w]; rfl) ?_
  refine pu_ 5 (some 10) (m_ 11 47) rfl rfl (by kernel_rfl) (fun _ _ _ h => h) (by rfl) (by intro w'; go_simp; with_reducible rfl) (by simp only [Act.put, List.setIfInBounds_toArray, List.set_cons_zero, List.set_cons_succ, i64_w, i32_w]; rfl) ?_
  refine tk_ 4 (some 9) (m_ 11 63) rfl rfl (by kernel_rfl) (fun _ _ _ h => h) (by rfl) (by intro w' s0; go_simp; with_reducible rfl) hHeld (by simp only [Act.put, List.setIfInBounds_toArray, List.set_cons_zero, List.set_cons_succ, i64_w, i32_w]; rfl) ?_
  refine one_ (i := 6) (N := some 11) (m_ 11 127) rfl rfl (by kernel_rfl) (by decide) (fun K hK => ?_)
  refine goes_ Try.func23 (by kernel_rfl) rfl #[.int .i64 n, .int .i64 0] (by rfl) rfl rfl (by simp only [List.map_toArray, List.map_cons, List.map_nil]; rfl) ?_
  with_reducible refine (add_any n 0 w.drew).mono ?_
  rintro e w1 ⟨rfl, rfl⟩
  refine ⟨_, rfl, ?_⟩
  refine hK.out _ _ (c14) (fun hHeld => ?_)
  clear hK K
  refine norm_ (a' := ?_) ?_ ?_
  rotate_left
  · show Act.put _ (some 11) _ = _
    simp only [Act.put, List.setIfInBounds_toArray, List.set_cons_zero, List.set_cons_succ, i64_w, i32_w]
    rfl
  refine pu_ 7 (some 12) (m_ 11 255) rfl rfl (by kernel_rfl) (fun _ _ _ h => h) (by rfl) (by intro w'; go_simp; with_reducible rfl) (by simp only [Act.put, List.setIfInBounds_toArray, List.set_cons_zero, List.set_cons_succ, i64_w, i32_w]; rfl) ?_
  refine pu_ 8 (some 13) (m_ 11 511) rfl rfl (by kernel_rfl) (fun _ _ _ h => h) (by rfl) (by intro w'; go_simp; with_reducible rfl) (by simp only [Act.put, List.setIfInBounds_toArray, List.set_cons_zero, List.set_cons_succ, i64_w, i32_w]; rfl) ?_
  refine pu_ 9 (some 14) (m_ 11 1023) rfl rfl (by kernel_rfl) (fun _ _ _ h => h) (by rfl) (by intro w'; go_simp; with_reducible rfl) (by simp only [Act.put, List.setIfInBounds_toArray, List.set_cons_zero, List.set_cons_succ, i64_w, i32_w]; rfl) ?_
  refine last_ (i := 10) (N := none) (m_ 11 2047) rfl rfl (by kernel_rfl) (by decide) (fun K hK => ?_)
  refine skip_ (w1 := ?_) (by rfl) rfl ?_ ?_
  rotate_left
  · go_simp
    rfl
  refine hK.out _ _ ?_
  clear hK K
  refine done_ (by kernel_rfl) ?_
  go_wp2
  go_ret
  refine ⟨rfl, H.out.drew.set 14 _ (nowP s n) rfl rfl, ((Did.refl F w).drew).setCell (.inl H.out.mine) _⟩
theorem over_any (h : SG w F b k s) (since n : Int) :
    Calls Try.prog 37 #[.pointer (some ⟨b, 0, none⟩), .int .i64 since, .int .i64 n] w fun e w' => e = .returned (.bool (lateB s since n)) ∧ Below w.heap.size w w' := by
  have c14 : w.cell? ⟨b, 14, none⟩ = some (.int .i64 s.clock) := (h.blk.cell 14).trans rfl
  have H := Lib.hid h
  clear h
  go_enter Try.func37, Try.ntmps37
  go_wp2
  refine start_ (n := 9) (S := fun w' => w'.cell? ⟨b, 14, none⟩ = some (.int .i64 s.clock)) (ds := []) (m_ 9 0) (by kernel_rfl) rfl (by kernel_rfl) (c14) (fun hHeld => ?_)
  refine pu_ 0 (some 7) (m_ 9 1) rfl rfl (by kernel_rfl) (fun _ _ _ h => h) (by rfl) (by intro w'; go_simp; with_reducible rfl) (by simp only [Act.put, List.setIfInBounds_toArray, List.set_cons_zero, List.set_cons_succ, i64_w, i32_w]; rfl) ?_
  refine pu_ 1 (some 8) (m_ 9 3) rfl rfl (by kernel_rfl) (fun _ _ _ h => h) (by rfl) (by intro w'; go_simp; with_reducible rfl) (by simp only [Act.put, List.setIfInBounds_toArray, List.set_cons_zero, List.set_cons_succ, i64_w, i32_w]; rfl) ?_
  refine pu_ 2 (some 9) (m_ 9 7) rfl rfl (by kernel_rfl) (fun _ _ _ h => h) (by rfl) (by intro w'; go_simp; with_reducible rfl) (by simp only [Act.put, List.setIfInBounds_toArray, List.set_cons_zero, List.set_cons_succ, i64_w, i32_w]; rfl) ?_
  refine pu_ 4 (some 11) (m_ 9 23) rfl rfl (by kernel_rfl) (fun _ _ _ h => h) (by rfl) (by intro w'; go_simp; with_reducible rfl) (by simp only [Act.put, List.setIfInBounds_toArray, List.set_cons_zero, List.set_cons_succ, i64_w, i32_w]; rfl) ?_
  refine pu_ 5 (some 12) (m_ 9 55) rfl rfl (by kernel_rfl) (fun _ _ _ h => h) (by rfl) (by intro w'; go_simp; with_reducible rfl) (by simp only [Act.put, List.setIfInBounds_toArray, List.set_cons_zero, List.set_cons_succ, i64_w, i32_w]; rfl) ?_
  refine tk_ 3 (some 10) (m_ 9 63) rfl rfl (by kernel_rfl) (fun _ _ _ h => h) (by rfl) (by intro w' s0; go_simp; with_reducible rfl) hHeld (by simp only [Act.put, List.setIfInBounds_toArray, List.set_cons_zero, List.set_cons_succ, i64_w, i32_w]; rfl) ?_
  refine one_ (i := 6) (N := some 13) (m_ 9 127) rfl rfl (by kernel_rfl) (by decide) (fun K hK => ?_)
  refine goes_ Try.func23 (by kernel_rfl) rfl #[.int .i64 since, .int .i64 n] (by rfl) rfl rfl (by simp only [List.map_toArray, List.map_cons, List.map_nil]; rfl) ?_
  with_reducible refine (add_any since n w.drew).mono ?_
  rintro e w1 ⟨rfl, rfl⟩
  refine ⟨_, rfl, ?_⟩
  refine hK.out _ _ (c14) (fun hHeld => ?_)
  clear hK K
  refine norm_ (a' := ?_) ?_ ?_
  rotate_left
  · show Act.put _ (some 13) _ = _
    simp only [Act.put, List.setIfInBounds_toArray, List.set_cons_zero, List.set_cons_succ, i64_w, i32_w]
    rfl
  refine pu_ 7 (some 14) (m_ 9 255) rfl rfl (by kernel_rfl) (fun _ _ _ h => h) (by rfl) (by intro w'; go_simp; with_reducible rfl) (by simp only [Act.put, List.setIfInBounds_toArray, List.set_cons_zero, List.set_cons_succ, i64_w, i32_w]; rfl) ?_
  refine pu_ 8 (some 6) (m_ 9 511) rfl rfl (by kernel_rfl) (fun _ _ _ h => h) (by rfl) (by intro w'; go_simp; with_reducible rfl) (by simp only [Act.put, List.setIfInBounds_toArray, List.set_cons_zero, List.set_cons_succ, i64_w, i32_w]; rfl) ?_
  refine done_ (by kernel_rfl) ?_
  go_wp2
  go_ret
  exact ⟨rfl, (Below.refl _ _).drew⟩
theorem wr_room (r : Int) (h : Nat) (h0 : 0 ≤ r) (h1 : r ≤ 1000000000000) (h2 : h ≤ 1000000000000) : wrap64 (r - (h : Int)) = r - (h : Int) := by unfold wrap64; omega
def free (s : Sg) : Int := max (s.room - (held s : Int)) 0
theorem free_any (h : SG w F b k s) (ht : held s ≤ 1000000000000) (h0 : 0 ≤ s.room) (h1 : s.room ≤ 1000000000000) :
    Calls Try.prog 27 #[.pointer (some ⟨b, 0, none⟩)] w fun e w' => e = .returned (.int .i64 (free s)) ∧ Below w.heap.size w w' := by
  have c12 : w.cell? ⟨b, 12, none⟩ = some (.int .i64 s.room) := (h.blk.cell 12).trans rfl
  have H := Lib.hid h
  have hfd := Lib.hid (show free s = max (s.room - (held s : Int)) 0 from rfl)
  clear h
  go_enter Try.func27, Try.ntmps27
  go_wp2
  refine start_ (n := 9) (S := fun w' => w'.cell? ⟨b, 12, none⟩ = some (.int .i64 s.room)) (ds := []) (m_ 9 0) (by kernel_rfl) rfl (by kernel_rfl) (c12) (fun hHeld => ?_)
  refine pu_ 0 (some 3) (m_ 9 1) rfl rfl (by kernel_rfl) (fun _ _ _ h => h) (by rfl) (by intro w'; go_simp; with_reducible rfl) (by simp only [Act.put, List.setIfInBounds_toArray, List.set_cons_zero, List.set_cons_succ, i64_w, i32_w]; rfl) ?_
  refine pu_ 1 (some 4) (m_ 9 3) rfl rfl (by kernel_rfl) (fun _ _ _ h => h) (by rfl) (by intro w'; go_simp; with_reducible rfl) (by simp only [Act.put, List.setIfInBounds_toArray, List.set_cons_zero, List.set_cons_succ, i64_w, i32_w]; rfl) ?_
  refine pu_ 2 (some 5) (m_ 9 7) rfl rfl (by kernel_rfl) (fun _ _ _ h => h) (by rfl) (by intro w'; go_simp; with_reducible rfl) (by simp only [Act.put, List.setIfInBounds_toArray, List.set_cons_zero, List.set_cons_succ, i64_w, i32_w]; rfl) ?_
  refine pu_ 4 (some 7) (m_ 9 23) rfl rfl (by kernel_rfl) (fun _ _ _ h => h) (by rfl) (by intro w'; go_simp; with_reducible rfl) (by simp only [Act.put, List.setIfInBounds_toArray, List.set_cons_zero, List.set_cons_succ, i64_w, i32_w]; rfl) ?_
  refine tk_ 3 (some 6) (m_ 9 31) rfl rfl (by kernel_rfl) (fun _ _ _ h => h) (by rfl) (by intro w' s0; go_simp; with_reducible rfl) hHeld (by simp only [Act.put, List.setIfInBounds_toArray, List.set_cons_zero, List.set_cons_succ, i64_w, i32_w]; rfl) ?_
  refine one_ (i := 5) (N := some 8) (m_ 9 63) rfl rfl (by kernel_rfl) (by decide) (fun K hK => ?_)
  refine goes_ Try.func13 (by kernel_rfl) rfl #[.pointer (some ⟨b, 0, none⟩)] (by rfl) rfl rfl (by simp only [List.map_toArray, List.map_cons, List.map_nil]; rfl) ?_
  with_reducible refine (held_any (w := w.drew) H.out.drew ht).mono ?_
  rintro e w1 ⟨rfl, hB⟩
  have hB1 := below_drew hB
  have c12b := bcells hB1 c12
  have HB := Lib.hid hB1
  clear hB hB1
  refine ⟨_, rfl, ?_⟩
  refine hK.out _ _ (c12b) (fun hHeld => ?_)
  clear hK K
  refine norm_ (a' := ?_) ?_ ?_
  rotate_left
  · show Act.put _ (some 8) _ = _
    simp only [Act.put, List.setIfInBounds_toArray, List.set_cons_zero, List.set_cons_succ, i64_w, i32_w]
    rfl
  refine pu_ 6 (some 9) (m_ 9 127) rfl rfl (by kernel_rfl) (fun _ _ _ h => h) (by rfl) (by intro w'; go_simp; with_reducible rfl) (by simp only [Act.put, List.setIfInBounds_toArray, List.set_cons_zero, List.set_cons_succ, i64_w, i32_w]; rfl) ?_
  refine pu_ 7 (some 10) (m_ 9 255) rfl rfl (by kernel_rfl) (fun _ _ _ h => h) (by rfl) (by intro w'; go_simp; with_reducible rfl) (by simp only [Act.put, List.setIfInBounds_toArray, List.set_cons_zero, List.set_cons_succ, i64_w, i32_w]; rfl) ?_
  refine pu_ 8 (some 2) (m_ 9 511) rfl rfl (by kernel_rfl) (fun _ _ _ h => h) (by rfl) (by intro w'; go_simp; with_reducible rfl) (by simp only [Act.put, List.setIfInBounds_toArray, List.set_cons_zero, List.set_cons_succ, i64_w, i32_w]; rfl) ?_
  refine done_ (by kernel_rfl) ?_
  go_wp2
  go_ret
  refine ⟨?_, HB.out⟩
  rw [hfd.out]
  show Ending.returned (.int .i64 (max (wrap64 (s.room - (held s : Int))) 0)) = _
  rw [wr_room s.room (held s) h0 h1 ht]
end Go.Proofs.Ytehpliclknfmoaa.Stage
