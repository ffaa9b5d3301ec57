/- A stage's Force, Put, Close (chapter 10). Conditions: the bytes are fewer than 2^30, and not the stage's own. -/
import Derived.Test.YtehpliclknfmoaaStageC
namespace Go.Proofs.Ytehpliclknfmoaa.Stage
open Go.RowKit Mem Tick Cargo Toxic
open Go.Proofs.YtehpliclknfmoaaW.PrintLast
set_option maxRecDepth 100000
set_option linter.unusedVariables false
set_option linter.unusedSimpArgs false
variable {w w' : World} {F : Nat → Prop} {b k : Nat} {s : Sg}
def loP (s : Sg) : Int := wrap64 (s.t.a - s.t.b)
def hiP (s : Sg) : Int := wrap64 (s.t.a + s.t.b)
def diceP (s : Sg) : Sg := if s.t.kind = 1 then { s with dice := Ref02.rangeS s.dice (loP s) (hiP s) } else s
def whenP (s : Sg) : Int := if s.t.kind = 1 then add s.clock (Ref02.rangeN s.dice (loP s) (hiP s)) else s.clock
def putIn (s : Sg) (t : Int) (x : ByteArray) : Sg := { s with c := (addP s.c.1 (putAt s.c.2 t) x, putLast s.c.2 t x) }
def forceP (s : Sg) (n : Int) (x : ByteArray) : Sg := if (lookP s n).state ≠ 0 ∨ x.size = 0 then lookP s n else putIn (diceP (lookP s n)) (whenP (lookP s n)) x
theorem BS_did {A : Option Addr} {x : ByteArray} (h : BS w A x) (ho : BS.Off A F) (hd : Did F w w') : BS w' A x := h.kept fun g ⟨o, e⟩ hg => hd.block g hg (ho g o e)
/-- what is put into the cargo. -/
theorem putIn_any (h : SG w F b k s) (hg : Full s.c.1) (t : Int) (A : Option Addr) (cap : Nat) (x : ByteArray) (hb : BS w A x) (ht : held s + x.size ≤ 1000000000) :
    Calls Try.prog 46 #[.pointer (some ⟨k, 0, none⟩), .int .i64 t, .slice A x.size cap] w fun e w' => e = .returned (.int .i64 (putAt s.c.2 t)) ∧ ∃ F', SG w' F' b k (putIn s t x) ∧ Did F w w' ∧ Stem F F' w := by
  obtain ⟨G, hB, hC, hF⟩ := h
  have hl := len_tot hg
  unfold held at ht
  exact (put_any t A cap x hC hb (by omega) (by omega)).mono fun e w' ⟨he, G', hC', hd, hs⟩ => ⟨he, _, SG.cargo (s' := putIn s t x) hB hC hF hC' hd hs rfl⟩
set_option maxHeartbeats 1000000 in
theorem force_any (h : SG w F b k s) (hg : Full s.c.1) (n : Int) (A : Option Addr) (cap : Nat) (x : ByteArray) (hb : BS w A x) (ho : BS.Off A F) (ht : held s + x.size ≤ 1000000000) :
    Calls Try.prog 28 #[.pointer (some ⟨b, 0, none⟩), .int .i64 n, .slice A x.size cap] w fun e w' => e = .returned (.tuple #[]) ∧ ∃ F', SG w' F' b k (forceP s n x) ∧ Did F w w' ∧ Stem F F' w := by
  have H := Lib.hid h
  have HB := Lib.hid hb
  have HO := Lib.hid ho
  have hfp := Lib.hid (show forceP s n x = if (lookP s n).state ≠ 0 ∨ x.size = 0 then lookP s n else putIn (diceP (lookP s n)) (whenP (lookP s n)) x from rfl)
  have hg1 := Lib.hid (show Full (lookP s n).c.1 from hg)
  have ht1 : held (lookP s n) + x.size ≤ 1000000000 := ht
  have hs := state_any h (by omega) n
  have HS0 := Lib.hid hs
  clear h hb ho hg ht hs
  generalize forceP s n x = sL at *
  go_enter Try.func28, Try.ntmps28
  go_wp2_with fail
  refine HS0.out.mono ?_
  rintro e w1 ⟨rfl, HS, HD⟩
  clear HS0
  generalize lookP s n = s1 at *
  have HS' := Lib.hid HS
  have HD' := Lib.hid HD
  have HB' := Lib.hid (BS_did HB.out HO.out HD)
  clear HS HD H HB
  by_cases hst : s1.state = 0
  · by_cases hx : x.size = 0
    · have he := Lib.hid (show sL = s1 by rw [hfp.out, if_pos (.inr hx)])
      have tz : ((x.size : Int) == 0) = true := by simpa using hx
      rw [hst]
      clear hfp hx
      go_wp2
      (try simp only [Exit.inBlock, Exit.then])
      refine bodyPost_ret (results_none rfl _ _ _) rfl ?_
      rw [he.out]
      exact ⟨rfl, F, HS'.out, HD'.out, Stem.refl _ _⟩
    · have he := Lib.hid (show sL = putIn (diceP s1) (whenP s1) x by rw [hfp.out, if_neg (by rintro (h | h); exact h hst; exact hx h)])
      have tz : ((x.size : Int) == 0) = false := by simpa using hx
      have c14 : w1.cell? ⟨b, 14, none⟩ = some (.int .i64 s1.clock) := (HS'.out.blk.cell 14).trans rfl
      have c2 : w1.cell? ⟨b, 2, none⟩ = some (.int .i64 s1.t.kind) := (HS'.out.blk.cell 2).trans rfl
      have c0 : w1.cell? ⟨b, 0, none⟩ = some (.pointer (some ⟨k, 0, none⟩)) := (HS'.out.blk.cell 0).trans rfl
      rw [hst]
      clear hfp hx
      by_cases hk : s1.t.kind = 1
      · have hd1 := Lib.hid (show diceP s1 = { s1 with dice := Ref02.rangeS s1.dice (loP s1) (hiP s1) } from if_pos hk)
        have hw1 := Lib.hid (show whenP s1 = add s1.clock (Ref02.rangeN s1.dice (loP s1) (hiP s1)) from if_pos hk)
        have hl1 := Lib.hid (show wrap64 (s1.t.a - s1.t.b) = loP s1 from rfl)
        have hh1 := Lib.hid (show wrap64 (s1.t.a + s1.t.b) = hiP s1 from rfl)
        have c5 : w1.cell? ⟨b, 5, none⟩ = some (.int .i64 s1.t.a) := (HS'.out.blk.cell 5).trans rfl
        have c6 : w1.cell? ⟨b, 6, none⟩ = some (.int .i64 s1.t.b) := (HS'.out.blk.cell 6).trans rfl
        have c7 : w1.cell? ⟨b, 7, none⟩ = some (.int .u64 s1.dice) := (HS'.out.blk.cell 7).trans rfl
        rw [hk] at c2
        go_wp2
        refine start_ (n := 32) (S := fun w' => w'.cell? ⟨b, 7, none⟩ = some (.int .u64 s1.dice) ∧ w'.cell? ⟨b, 5, none⟩ = some (.int .i64 s1.t.a) ∧ w'.cell? ⟨b, 6, none⟩ = some (.int .i64 s1.t.b)) (ds := []) #[false, false, false, false, false, false, false, false, false, false, false, false, false, false, false, false, false, false, false, false, false, false, false, false, false, false, false, false, false, false, false, false] (by kernel_rfl) rfl rfl ⟨c7, c5, c6⟩ (fun hHeld => ?_)
        refine pure_ (i := 0) (N := some 29) (v := ?_) (a' := ?_) #[true, false, false, false, false, false, false, false, false, false, false, false, false, false, false, false, false, false, false, false, false, false, false, false, false, false, false, false, false, false, false, false] rfl rfl (by kernel_rfl) (fun _ _ _ h => h) (Or.inl ⟨by rfl, ?_⟩) ?_ ?_
        rotate_left
        · intro w'
          go_simp
          with_reducible rfl
        rotate_left
        · simp only [Act.put, List.setIfInBounds_toArray, List.set_cons_zero, List.set_cons_succ, i64_w, i32_w]
          rfl
        refine pure_ (i := 1) (N := some 30) (v := ?_) (a' := ?_) #[true, true, false, false, false, false, false, false, false, false, false, false, false, false, false, false, false, false, false, false, false, false, false, false, false, false, false, false, false, false, false, false] rfl rfl (by kernel_rfl) (fun _ _ _ h => h) (Or.inl ⟨by rfl, ?_⟩) ?_ ?_
        rotate_left
        · intro w'
          go_simp
          with_reducible rfl
        rotate_left
        · simp only [Act.put, List.setIfInBounds_toArray, List.set_cons_zero, List.set_cons_succ, i64_w, i32_w]
          rfl
        refine pure_ (i := 2) (N := some 31) (v := ?_) (a' := ?_) #[true, true, true, false, false, false, false, false, false, false, false, false, false, false, false, false, false, false, false, false, false, false, false, false, false, false, false, false, false, false, false, false] rfl rfl (by kernel_rfl) (fun _ _ _ h => h) (Or.inl ⟨by rfl, ?_⟩) ?_ ?_
        rotate_left
        · intro w'
          go_simp
          with_reducible rfl
        rotate_left
        · simp only [Act.put, List.setIfInBounds_toArray, List.set_cons_zero, List.set_cons_succ, i64_w, i32_w]
          rfl
        refine pure_ (i := 4) (N := some 33) (v := ?_) (a' := ?_) #[true, true, true, false, true, false, false, false, false, false, false, false, false, false, false, false, false, false, false, false, false, false, false, false, false, false, false, false, false, false, false, false] rfl rfl (by kernel_rfl) (fun _ _ _ h => h) (Or.inl ⟨by rfl, ?_⟩) ?_ ?_
        rotate_left
        · intro w'
          go_simp
          with_reducible rfl
        rotate_left
        · simp only [Act.put, List.setIfInBounds_toArray, List.set_cons_zero, List.set_cons_succ, i64_w, i32_w]
          rfl
        refine pure_ (i := 5) (N := some 34) (v := ?_) (a' := ?_) #[true, true, true, false, true, true, false, false, false, false, false, false, false, false, false, false, false, false, false, false, false, false, false, false, false, false, false, false, false, false, false, false] rfl rfl (by kernel_rfl) (fun _ _ _ h => h) (Or.inl ⟨by rfl, ?_⟩) ?_ ?_
        rotate_left
        · intro w'
          go_simp
          with_reducible rfl
        rotate_left
        · simp only [Act.put, List.setIfInBounds_toArray, List.set_cons_zero, List.set_cons_succ, i64_w, i32_w]
          rfl
        refine pure_ (i := 6) (N := some 35) (v := ?_) (a' := ?_) #[true, true, true, false, true, true, true, false, false, false, false, false, false, false, false, false, false, false, false, false, false, false, false, false, false, false, false, false, false, false, false, false] rfl rfl (by kernel_rfl) (fun _ _ _ h => h) (Or.inl ⟨by rfl, ?_⟩) ?_ ?_
        rotate_left
        · intro w'
          go_simp
          with_reducible rfl
        rotate_left
        · simp only [Act.put, List.setIfInBounds_toArray, List.set_cons_zero, List.set_cons_succ, i64_w, i32_w]
          rfl
        refine pure_ (i := 7) (N := some 36) (v := ?_) (a' := ?_) #[true, true, true, false, true, true, true, true, false, false, false, false, false, false, false, false, false, false, false, false, false, false, false, false, false, false, false, false, false, false, false, false] rfl rfl (by kernel_rfl) (fun _ _ _ h => h) (Or.inl ⟨by rfl, ?_⟩) ?_ ?_
        rotate_left
        · intro w'
          go_simp
          with_reducible rfl
        rotate_left
        · simp only [Act.put, List.setIfInBounds_toArray, List.set_cons_zero, List.set_cons_succ, i64_w, i32_w]
          rfl
        refine pure_ (i := 9) (N := some 38) (v := ?_) (a' := ?_) #[true, true, true, false, true, true, true, true, false, true, false, false, false, false, false, false, false, false, false, false, false, false, false, false, false, false, false, false, false, false, false, false] rfl rfl (by kernel_rfl) (fun _ _ _ h => h) (Or.inl ⟨by rfl, ?_⟩) ?_ ?_
        rotate_left
        · intro w'
          go_simp
          with_reducible rfl
        rotate_left
        · simp only [Act.put, List.setIfInBounds_toArray, List.set_cons_zero, List.set_cons_succ, i64_w, i32_w]
          rfl
        refine pure_ (i := 10) (N := some 39) (v := ?_) (a' := ?_) #[true, true, true, false, true, true, true, true, false, true, true, false, false, false, false, false, false, false, false, false, false, false, false, false, false, false, false, false, false, false, false, false] rfl rfl (by kernel_rfl) (fun _ _ _ h => h) (Or.inl ⟨by rfl, ?_⟩) ?_ ?_
        rotate_left
        · intro w'
          go_simp
          with_reducible rfl
        rotate_left
        · simp only [Act.put, List.setIfInBounds_toArray, List.set_cons_zero, List.set_cons_succ, i64_w, i32_w]
          rfl
        refine pure_ (i := 11) (N := some 40) (v := ?_) (a' := ?_) #[true, true, true, false, true, true, true, true, false, true, true, true, false, false, false, false, false, false, false, false, false, false, false, false, false, false, false, false, false, false, false, false] rfl rfl (by kernel_rfl) (fun _ _ _ h => h) (Or.inl ⟨by rfl, ?_⟩) ?_ ?_
        rotate_left
        · intro w'
          go_simp
          with_reducible rfl
        rotate_left
        · simp only [Act.put, List.setIfInBounds_toArray, List.set_cons_zero, List.set_cons_succ, i64_w, i32_w]
          rfl
        refine pure_ (i := 12) (N := some 41) (v := ?_) (a' := ?_) #[true, true, true, false, true, true, true, true, false, true, true, true, true, false, false, false, false, false, false, false, false, false, false, false, false, false, false, false, false, false, false, false] rfl rfl (by kernel_rfl) (fun _ _ _ h => h) (Or.inl ⟨by rfl, ?_⟩) ?_ ?_
        rotate_left
        · intro w'
          go_simp
          with_reducible rfl
        rotate_left
        · simp only [Act.put, List.setIfInBounds_toArray, List.set_cons_zero, List.set_cons_succ, i64_w, i32_w]
          rfl
        refine pure_ (i := 15) (N := some 44) (v := ?_) (a' := ?_) #[true, true, true, false, true, true, true, true, false, true, true, true, true, false, false, true, false, false, false, false, false, false, false, false, false, false, false, false, false, false, false, false] rfl rfl (by kernel_rfl) (fun _ _ _ h => h) (Or.inl ⟨by rfl, ?_⟩) ?_ ?_
        rotate_left
        · intro w'
          go_simp
          with_reducible rfl
        rotate_left
        · simp only [Act.put, List.setIfInBounds_toArray, List.set_cons_zero, List.set_cons_succ, i64_w, i32_w]
          rfl
        refine pure_ (i := 16) (N := some 45) (v := ?_) (a' := ?_) #[true, true, true, false, true, true, true, true, false, true, true, true, true, false, false, true, true, false, false, false, false, false, false, false, false, false, false, false, false, false, false, false] rfl rfl (by kernel_rfl) (fun _ _ _ h => h) (Or.inl ⟨by rfl, ?_⟩) ?_ ?_
        rotate_left
        · intro w'
          go_simp
          with_reducible rfl
        rotate_left
        · simp only [Act.put, List.setIfInBounds_toArray, List.set_cons_zero, List.set_cons_succ, i64_w, i32_w]
          rfl
        refine pure_ (i := 17) (N := some 46) (v := ?_) (a' := ?_) #[true, true, true, false, true, true, true, true, false, true, true, true, true, false, false, true, true, true, false, false, false, false, false, false, false, false, false, false, false, false, false, false] rfl rfl (by kernel_rfl) (fun _ _ _ h => h) (Or.inl ⟨by rfl, ?_⟩) ?_ ?_
        rotate_left
        · intro w'
          go_simp
          with_reducible rfl
        rotate_left
        · simp only [Act.put, List.setIfInBounds_toArray, List.set_cons_zero, List.set_cons_succ, i64_w, i32_w]
          rfl
        refine pure_ (i := 18) (N := some 47) (v := ?_) (a' := ?_) #[true, true, true, false, true, true, true, true, false, true, true, true, true, false, false, true, true, true, true, false, false, false, false, false, false, false, false, false, false, false, false, false] rfl rfl (by kernel_rfl) (fun _ _ _ h => h) (Or.inl ⟨by rfl, ?_⟩) ?_ ?_
        rotate_left
        · intro w'
          go_simp
          with_reducible rfl
        rotate_left
        · simp only [Act.put, List.setIfInBounds_toArray, List.set_cons_zero, List.set_cons_succ, i64_w, i32_w]
          rfl
        refine pure_ (i := 20) (N := some 49) (v := ?_) (a' := ?_) #[true, true, true, false, true, true, true, true, false, true, true, true, true, false, false, true, true, true, true, false, true, false, false, false, false, false, false, false, false, false, false, false] rfl rfl (by kernel_rfl) (fun _ _ _ h => h) (Or.inl ⟨by rfl, ?_⟩) ?_ ?_
        rotate_left
        · intro w'
          go_simp
          with_reducible rfl
        rotate_left
        · simp only [Act.put, List.setIfInBounds_toArray, List.set_cons_zero, List.set_cons_succ, i64_w, i32_w]
          rfl
        refine pure_ (i := 21) (N := some 50) (v := ?_) (a' := ?_) #[true, true, true, false, true, true, true, true, false, true, true, true, true, false, false, true, true, true, true, false, true, true, false, false, false, false, false, false, false, false, false, false] rfl rfl (by kernel_rfl) (fun _ _ _ h => h) (Or.inl ⟨by rfl, ?_⟩) ?_ ?_
        rotate_left
        · intro w'
          go_simp
          with_reducible rfl
        rotate_left
        · simp only [Act.put, List.setIfInBounds_toArray, List.set_cons_zero, List.set_cons_succ, i64_w, i32_w]
          rfl
        refine pure_ (i := 22) (N := some 51) (v := ?_) (a' := ?_) #[true, true, true, false, true, true, true, true, false, true, true, true, true, false, false, true, true, true, true, false, true, true, true, false, false, false, false, false, false, false, false, false] rfl rfl (by kernel_rfl) (fun _ _ _ h => h) (Or.inl ⟨by rfl, ?_⟩) ?_ ?_
        rotate_left
        · intro w'
          go_simp
          with_reducible rfl
        rotate_left
        · simp only [Act.put, List.setIfInBounds_toArray, List.set_cons_zero, List.set_cons_succ, i64_w, i32_w]
          rfl
        refine pure_ (i := 23) (N := some 52) (v := ?_) (a' := ?_) #[true, true, true, false, true, true, true, true, false, true, true, true, true, false, false, true, true, true, true, false, true, true, true, true, false, false, false, false, false, false, false, false] rfl rfl (by kernel_rfl) (fun _ _ _ h => h) (Or.inl ⟨by rfl, ?_⟩) ?_ ?_
        rotate_left
        · intro w'
          go_simp
          with_reducible rfl
        rotate_left
        · simp only [Act.put, List.setIfInBounds_toArray, List.set_cons_zero, List.set_cons_succ, i64_w, i32_w]
          rfl
        refine take_ (i := 3) (N := some 32) (v := ?_) (a' := ?_) #[true, true, true, true, true, true, true, true, false, true, true, true, true, false, false, true, true, true, true, false, true, true, true, true, false, false, false, false, false, false, false, false] rfl rfl (by kernel_rfl) (fun _ _ _ h => h) (Or.inl ⟨by rfl, ?_⟩) hHeld ?_ ?_
        rotate_left
        · rintro w' ⟨s0, s1, s2⟩
          go_simp
          with_reducible rfl
        rotate_left
        · simp only [Act.put, List.setIfInBounds_toArray, List.set_cons_zero, List.set_cons_succ, i64_w, i32_w]
          rfl
        refine take_ (i := 8) (N := some 37) (v := ?_) (a' := ?_) #[true, true, true, true, true, true, true, true, true, true, true, true, true, false, false, true, true, true, true, false, true, true, true, true, false, false, false, false, false, false, false, false] rfl rfl (by kernel_rfl) (fun _ _ _ h => h) (Or.inl ⟨by rfl, ?_⟩) hHeld ?_ ?_
        rotate_left
        · rintro w' ⟨s0, s1, s2⟩
          go_simp
          with_reducible rfl
        rotate_left
        · simp only [Act.put, List.setIfInBounds_toArray, List.set_cons_zero, List.set_cons_succ, i64_w, i32_w]
          rfl
        refine take_ (i := 13) (N := some 42) (v := ?_) (a' := ?_) #[true, true, true, true, true, true, true, true, true, true, true, true, true, true, false, true, true, true, true, false, true, true, true, true, false, false, false, false, false, false, false, false] rfl rfl (by kernel_rfl) (fun _ _ _ h => h) (Or.inl ⟨by rfl, ?_⟩) hHeld ?_ ?_
        rotate_left
        · rintro w' ⟨s0, s1, s2⟩
          go_simp
          with_reducible rfl
        rotate_left
        · simp only [Act.put, List.setIfInBounds_toArray, List.set_cons_zero, List.set_cons_succ, i64_w, i32_w]
          rfl
        refine pure_ (i := 14) (N := some 43) (v := ?_) (a' := ?_) #[true, true, true, true, true, true, true, true, true, true, true, true, true, true, true, true, true, true, true, false, true, true, true, true, false, false, false, false, false, false, false, false] rfl rfl (by kernel_rfl) (fun _ _ _ h => h) (Or.inl ⟨by rfl, ?_⟩) ?_ ?_
        rotate_left
        · intro w'
          go_simp
          with_reducible rfl
        rotate_left
        · simp only [Act.put, List.setIfInBounds_toArray, List.set_cons_zero, List.set_cons_succ, i64_w, i32_w]
          rfl
        refine take_ (i := 19) (N := some 48) (v := ?_) (a' := ?_) #[true, true, true, true, true, true, true, true, true, true, true, true, true, true, true, true, true, true, true, true, true, true, true, true, false, false, false, false, false, false, false, false] rfl rfl (by kernel_rfl) (fun _ _ _ h => h) (Or.inl ⟨by rfl, ?_⟩) hHeld ?_ ?_
        rotate_left
        · rintro w' ⟨s0, s1, s2⟩
          go_simp
          with_reducible rfl
        rotate_left
        · simp only [Act.put, List.setIfInBounds_toArray, List.set_cons_zero, List.set_cons_succ, i64_w, i32_w]
          rfl
        refine take_ (i := 24) (N := some 53) (v := ?_) (a' := ?_) #[true, true, true, true, true, true, true, true, true, true, true, true, true, true, true, true, true, true, true, true, true, true, true, true, true, false, false, false, false, false, false, false] rfl rfl (by kernel_rfl) (fun _ _ _ h => h) (Or.inl ⟨by rfl, ?_⟩) hHeld ?_ ?_
        rotate_left
        · rintro w' ⟨s0, s1, s2⟩
          go_simp
          with_reducible rfl
        rotate_left
        · simp only [Act.put, List.setIfInBounds_toArray, List.set_cons_zero, List.set_cons_succ, i64_w, i32_w]
          rfl
        refine pure_ (i := 25) (N := some 54) (v := ?_) (a' := ?_) #[true, true, true, true, true, true, true, true, true, true, true, true, true, true, true, true, true, true, true, true, true, true, true, true, true, true, false, false, false, false, false, false] rfl rfl (by kernel_rfl) (fun _ _ _ h => h) (Or.inl ⟨by rfl, ?_⟩) ?_ ?_
        rotate_left
        · intro w'
          go_simp
          with_reducible rfl
        rotate_left
        · simp only [Act.put, List.setIfInBounds_toArray, List.set_cons_zero, List.set_cons_succ, i64_w, i32_w]
          rfl
        refine one_ (i := 26) (N := some 55) #[true, true, true, true, true, true, true, true, true, true, true, true, true, true, true, true, true, true, true, true, true, true, true, true, true, true, true, false, false, false, false, false] rfl rfl (by kernel_rfl) (by decide) (fun K hK => ?_)
        refine goes_ Try.func45 (by kernel_rfl) rfl #[.int .u64 s1.dice, .int .i64 (wrap64 (s1.t.a - s1.t.b)), .int .i64 (wrap64 (s1.t.a + s1.t.b))] (by rfl) rfl rfl (by simp only [List.map_toArray, List.map_cons, List.map_nil]; rfl) ?_
        with_reducible refine (Dice.range_any s1.dice (wrap64 (s1.t.a - s1.t.b)) (wrap64 (s1.t.a + s1.t.b)) w1.drew).mono ?_
        rintro e w2 ⟨rfl, rfl⟩
        rw [hl1.out, hh1.out]
        refine ⟨_, rfl, ?_⟩
        refine hK.out _ _ ⟨c7, c5, c6⟩ (fun hHeld => ?_)
        clear hK K
        refine norm_ (a' := ?_) ?_ ?_
        rotate_left
        · show Act.put _ (some 55) _ = _
          simp only [Act.put, List.setIfInBounds_toArray, List.set_cons_zero, List.set_cons_succ, i64_w, i32_w]
          rfl
        refine pure_ (i := 27) (N := some 28) (v := ?_) (a' := ?_) #[true, true, true, true, true, true, true, true, true, true, true, true, true, true, true, true, true, true, true, true, true, true, true, true, true, true, true, true, false, false, false, false] rfl rfl (by kernel_rfl) (fun _ _ _ h => h) (Or.inl ⟨by rfl, ?_⟩) ?_ ?_
        rotate_left
        · intro w'
          go_simp
          with_reducible rfl
        rotate_left
        · simp only [Act.put, List.setIfInBounds_toArray, List.set_cons_zero, List.set_cons_succ, i64_w, i32_w]
          rfl
        refine pure_ (i := 28) (N := some 56) (v := ?_) (a' := ?_) #[true, true, true, true, true, true, true, true, true, true, true, true, true, true, true, true, true, true, true, true, true, true, true, true, true, true, true, true, true, false, false, false] rfl rfl (by kernel_rfl) (fun _ _ _ h => h) (Or.inl ⟨by rfl, ?_⟩) ?_ ?_
        rotate_left
        · intro w'
          go_simp
          with_reducible rfl
        rotate_left
        · simp only [Act.put, List.setIfInBounds_toArray, List.set_cons_zero, List.set_cons_succ, i64_w, i32_w]
          rfl
        refine pure_ (i := 29) (N := some 57) (v := ?_) (a' := ?_) #[true, true, true, true, true, true, true, true, true, true, true, true, true, true, true, true, true, true, true, true, true, true, true, true, true, true, true, true, true, true, false, false] rfl rfl (by kernel_rfl) (fun _ _ _ h => h) (Or.inl ⟨by rfl, ?_⟩) ?_ ?_
        rotate_left
        · intro w'
          go_simp
          with_reducible rfl
        rotate_left
        · simp only [Act.put, List.setIfInBounds_toArray, List.set_cons_zero, List.set_cons_succ, i64_w, i32_w]
          rfl
        refine pure_ (i := 30) (N := some 7) (v := ?_) (a' := ?_) #[true, true, true, true, true, true, true, true, true, true, true, true, true, true, true, true, true, true, true, true, true, true, true, true, true, true, true, true, true, true, true, false] rfl rfl (by kernel_rfl) (fun _ _ _ h => h) (Or.inl ⟨by rfl, ?_⟩) ?_ ?_
        rotate_left
        · intro w'
          go_simp
          with_reducible rfl
        rotate_left
        · simp only [Act.put, List.setIfInBounds_toArray, List.set_cons_zero, List.set_cons_succ, i64_w, i32_w]
          rfl
        refine pure_ (i := 31) (N := some 8) (v := ?_) (a' := ?_) #[true, true, true, true, true, true, true, true, true, true, true, true, true, true, true, true, true, true, true, true, true, true, true, true, true, true, true, true, true, true, true, true] rfl rfl (by kernel_rfl) (fun _ _ _ h => h) (Or.inl ⟨by rfl, ?_⟩) ?_ ?_
        rotate_left
        · intro w'
          go_simp
          with_reducible rfl
        rotate_left
        · simp only [Act.put, List.setIfInBounds_toArray, List.set_cons_zero, List.set_cons_succ, i64_w, i32_w]
          rfl
        refine done_ (by kernel_rfl) ?_
        clear c5 c6 c7 c14 c2 c0 hHeld
        replace HS' := Lib.hid HS'.out.drew
        replace HD' := Lib.hid HD'.out.drew
        replace HB' := Lib.hid (show BS w1.drew A x from HB'.out.below (Below.refl _ _).drew)
        generalize w1.drew = w2 at *
        have c7 : w2.cell? ⟨b, 7, none⟩ = some (.int .u64 s1.dice) := (HS'.out.blk.cell 7).trans rfl
        have f7 := HS'.out.blk.free 7
        have hbl : b < w2.heap.size := HS'.out.lt HS'.out.mine
        have HX := Lib.hid (HS'.out.set 7 (.int .u64 (Ref02.rangeS s1.dice (loP s1) (hiP s1))) (diceP s1) (by rw [hd1.out]; rfl) (by rw [hd1.out]))
        have HY := Lib.hid (HD'.out.setCell (p := ⟨b, 7, none⟩) (.inl HS'.out.mine) (.int .u64 (Ref02.rangeS s1.dice (loP s1) (hiP s1))))
        have HZ := Lib.hid (show BS (w2.setCell ⟨b, 7, none⟩ (.int .u64 (Ref02.rangeS s1.dice (loP s1) (hiP s1)))) A x from BS_did HB'.out HO.out ((Did.refl F w2).setCell (p := ⟨b, 7, none⟩) (.inl HS'.out.mine) _))
        go_wp2_with fail
        refine (Tick.add_any _ _ _).mono ?_
        rintro e w3 ⟨rfl, rfl⟩
        have hgd := Lib.hid (show Full (diceP s1).c.1 by rw [hd1.out]; exact hg1.out)
        have htd : held (diceP s1) + x.size ≤ 1000000000 := by
          have : held (diceP s1) = held s1 := by unfold held; rw [hd1.out]
          rw [this]; exact ht1
        generalize w2.setCell ⟨b, 7, none⟩ (.int .u64 (Ref02.rangeS s1.dice (loP s1) (hiP s1))) = w4 at *
        have c0 : w4.cell? ⟨b, 0, none⟩ = some (.pointer (some ⟨k, 0, none⟩)) := (HX.out.blk.cell 0).trans rfl
        rw [← hw1.out]
        go_wp2_with fail
        refine (putIn_any HX.out hgd.out (whenP s1) A cap x HZ.out htd).mono ?_
        rintro e w5 ⟨rfl, F', hS5, hD5, hF5⟩
        have HS5 := Lib.hid hS5
        have HD5 := Lib.hid (HY.out.trans (Stem.refl _ _) hD5)
        have HF5 := Lib.hid (show Stem F F' w from fun j hj => (hF5 j hj).imp id fun h => Nat.le_trans HY.out.size h)
        clear hS5 hD5 hF5
        go_wp2
        go_end0
        rw [he.out]
        exact ⟨rfl, F', HS5.out, HD5.out, HF5.out⟩
      · have hd1 := Lib.hid (show diceP s1 = s1 from if_neg hk)
        have hw1 := Lib.hid (show whenP s1 = s1.clock from if_neg hk)
        have tk : (s1.t.kind == 1) = false := by simpa using hk
        rw [hd1.out, hw1.out] at he
        go_wp2_with fail
        refine (putIn_any HS'.out hg1.out s1.clock A cap x HB'.out ht1).mono ?_
        rintro e w5 ⟨rfl, F', hS5, hD5, hF5⟩
        have HS5 := Lib.hid hS5
        have HD5 := Lib.hid (HD'.out.trans (Stem.refl _ _) hD5)
        have HF5 := Lib.hid (show Stem F F' w from fun j hj => (hF5 j hj).imp id fun h => Nat.le_trans HD'.out.size h)
        clear hS5 hD5 hF5
        go_wp2
        go_end0
        rw [he.out]
        exact ⟨rfl, F', HS5.out, HD5.out, HF5.out⟩
  · have he := Lib.hid (show sL = s1 by rw [hfp.out, if_pos (.inl hst)])
    have tn : (s1.state != 0) = true := by simpa using hst
    clear hfp
    go_wp2
    (try simp only [Exit.inBlock, Exit.then])
    refine bodyPost_ret (results_none rfl _ _ _) rfl ?_
    rw [he.out]
    exact ⟨rfl, F, HS'.out, HD'.out, Stem.refl _ _⟩
end Go.Proofs.Ytehpliclknfmoaa.Stage
