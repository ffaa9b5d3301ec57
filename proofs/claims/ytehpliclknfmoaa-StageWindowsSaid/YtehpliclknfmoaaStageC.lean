/- A stage's state (chapter 10). Conditions: the bytes are fewer than 2^40. -/
import Derived.Test.YtehpliclknfmoaaStageB
import Derived.Test.YtehpliclknfmoaaPu
import Derived.Deep.DeepCutAuto
namespace Go.Proofs.Ytehpliclknfmoaa.Stage
open Go.RowKit Mem Tick Cargo Toxic
open Go.Proofs.YtehpliclknfmoaaW.PrintLast Pu
set_option maxRecDepth 100000
set_option linter.unusedVariables false
set_option linter.unusedSimpArgs false
variable {w w' : World} {F : Nat → Prop} {b k : Nat} {s : Sg}
set_option maxHeartbeats 4000000 in
theorem state_any (h : SG w F b k s) (ht : held s ≤ 1000000000000) (n : Int) :
    Calls Try.prog 17 #[.pointer (some ⟨b, 0, none⟩), .int .i64 n] w fun e w' => e = .returned (.int .i64 (lookP s n).state) ∧ SG w' F b k (lookP s n) ∧ Did F w w' := by
  have H := Lib.hid h
  have hlp := Lib.hid (show lookP s n = { nowP s n with state := lookS (nowP s n) } from rfl)
  have hth : held (nowP s n) ≤ 1000000000000 := ht
  clear h ht
  generalize lookP s n = sL at *
  go_enter Try.func17, Try.ntmps17
  go_wp2_with fail
  refine (now_any H.out n).mono ?_
  rintro e w1 ⟨rfl, HS, HD⟩
  have hsl := hlp.out
  clear hlp
  generalize nowP s n = s1 at *
  subst hsl
  replace HS := Lib.hid HS
  replace HD := Lib.hid HD
  clear H
  go_wp2
  go_cut [5] (fun v wx => ∃ E : Bool, v = .bool E ∧ Hid (endedB s1 = E) ∧ SG wx F b k s1 ∧ Did F w wx)
  case first =>
    by_cases hc : s1.closed = true
    · have hclosed := Lib.hid hc
      by_cases hz : held s1 = 0
      · have hzz : (((held s1 : Nat) : Int) == 0) = true := by rw [hz]; rfl
        by_cases k7 : s1.t.kind = 7
        · have hkind := k7
          have hE := Lib.hid (show endedB s1 = lateB s1 s1.at_ s1.t.a by unfold endedB; rw [hclosed.out, hz, hkind]; simp)
          clear hc hz k7
          have c17 : w1.cell? ⟨b, 17, none⟩ = some (.bool true) := (HS.out.blk.cell 17).trans (by rw [show (scells k s1)[17]? = some (.bool s1.closed) from rfl, hclosed.out])
          have c2 : w1.cell? ⟨b, 2, none⟩ = some (.int .i64 7) := (HS.out.blk.cell 2).trans (by rw [show (scells k s1)[2]? = some (.int .i64 s1.t.kind) from rfl, hkind])
          have c18 : w1.cell? ⟨b, 18, none⟩ = some (.int .i64 s1.at_) := (HS.out.blk.cell 18).trans rfl
          have c5 : w1.cell? ⟨b, 5, none⟩ = some (.int .i64 s1.t.a) := (HS.out.blk.cell 5).trans rfl
          refine start_ (n := 31) (S := fun w' => w'.cell? ⟨b, 17, none⟩ = some (.bool true) ∧ w'.cell? ⟨b, 2, none⟩ = some (.int .i64 7) ∧ w'.cell? ⟨b, 18, none⟩ = some (.int .i64 s1.at_) ∧ w'.cell? ⟨b, 5, none⟩ = some (.int .i64 s1.t.a)) (ds := []) (m_ 31 0) (by kernel_rfl) rfl (by kernel_rfl) ⟨c17, c2, c18, c5⟩ (fun hHeld => ?_)
          refine pu_ 0 (some 9) (m_ 31 1) rfl rfl (by kernel_rfl) (fun _ _ _ h => h) (by rfl) (by intro w'; go_simp; with_reducible rfl) (by simp only [Act.put, List.setIfInBounds_toArray, List.set_cons_zero, List.set_cons_succ, i64_w, i32_w]; rfl) ?_
          refine pu_ 1 (some 10) (m_ 31 3) rfl rfl (by kernel_rfl) (fun _ _ _ h => h) (by rfl) (by intro w'; go_simp; with_reducible rfl) (by simp only [Act.put, List.setIfInBounds_toArray, List.set_cons_zero, List.set_cons_succ, i64_w, i32_w]; rfl) ?_
          refine pu_ 2 (some 11) (m_ 31 7) rfl rfl (by kernel_rfl) (fun _ _ _ h => h) (by rfl) (by intro w'; go_simp; with_reducible rfl) (by simp only [Act.put, List.setIfInBounds_toArray, List.set_cons_zero, List.set_cons_succ, i64_w, i32_w]; rfl) ?_
          refine tk_ 3 (some 12) (m_ 31 15) rfl rfl (by kernel_rfl) (fun _ _ _ h => h) (by rfl) (by rintro w' ⟨s0, s1, s2, s3⟩; go_simp; with_reducible rfl) hHeld (by simp only [Act.put, List.setIfInBounds_toArray, List.set_cons_zero, List.set_cons_succ, i64_w, i32_w]; rfl) ?_
          refine pu_ 4 (some 13) (m_ 31 31) rfl rfl (by kernel_rfl) (fun _ _ _ h => h) (by rfl) (by intro w'; go_simp; with_reducible rfl) (by simp only [Act.put, List.setIfInBounds_toArray, List.set_cons_zero, List.set_cons_succ, i64_w, i32_w]; rfl) ?_
          refine pu_ 5 (some 14) (m_ 31 63) rfl rfl (by kernel_rfl) (fun _ _ _ h => h) (by rfl) (by intro w'; go_simp; with_reducible rfl) (by simp only [Act.put, List.setIfInBounds_toArray, List.set_cons_zero, List.set_cons_succ, i64_w, i32_w]; rfl) ?_
          refine one_ (i := 6) (N := some 15) (m_ 31 127) rfl rfl (by kernel_rfl) (by decide) (fun K hK => ?_)
          refine goes_ Try.func13 (by kernel_rfl) rfl #[.pointer (some ⟨b, 0, none⟩)] (by rfl) rfl rfl (by simp only [List.map_toArray, List.map_cons, List.map_nil]; rfl) ?_
          with_reducible refine (held_any (w := w1.drew) HS.out.drew hth).mono ?_
          rintro e w2 ⟨rfl, hB⟩
          have hB1 := below_drew hB
          have HS1 := Lib.hid (HS.out.below hB1)
          have HD1 := Lib.hid (HD.out.trans (Stem.refl F _) (Did.of_below hB1))
          have d0_17 := bcells hB1 c17
          have d0_2 := bcells hB1 c2
          have d0_18 := bcells hB1 c18
          have d0_5 := bcells hB1 c5
          clear hB hB1
          refine ⟨_, rfl, ?_⟩
          refine hK.out _ _ ⟨d0_17, d0_2, d0_18, d0_5⟩ (fun hHeld => ?_)
          clear hK K
          refine norm_ (a' := ?_) ?_ ?_
          rotate_left
          · show Act.put _ (some 15) _ = _
            simp only [Act.put, List.setIfInBounds_toArray, List.set_cons_zero, List.set_cons_succ, i64_w, i32_w]
            rfl
          refine pu_ 7 (some 16) (m_ 31 255) rfl rfl (by kernel_rfl) (fun _ _ _ h => h) (by rfl) (by intro w'; go_simp; with_reducible rfl) (by simp only [Act.put, List.setIfInBounds_toArray, List.set_cons_zero, List.set_cons_succ, i64_w, i32_w]; rfl) ?_
          refine pu_ 8 (some 17) (m_ 31 511) rfl rfl (by kernel_rfl) (fun _ _ _ h => h) (by rfl) (by intro w'; go_simp; with_reducible rfl) (by simp only [Act.put, List.setIfInBounds_toArray, List.set_cons_zero, List.set_cons_succ, i64_w, i32_w]; rfl) ?_
          refine pu_ 9 (some 18) (m_ 31 1023) rfl rfl (by kernel_rfl) (fun _ _ _ h => h) (by rfl) (by intro w'; go_simp; with_reducible rfl) (by simp only [Act.put, List.setIfInBounds_toArray, List.set_cons_zero, List.set_cons_succ, i64_w, i32_w]; rfl) ?_
          refine pu_ 10 (some 19) (m_ 31 2047) rfl rfl (by kernel_rfl) (fun _ _ _ h => h) (by rfl) (by intro w'; go_simp; with_reducible rfl) (by simp only [Act.put, List.setIfInBounds_toArray, List.set_cons_zero, List.set_cons_succ, i64_w, i32_w]; rfl) ?_
          refine pu_ 11 (some 20) (m_ 31 4095) rfl rfl (by kernel_rfl) (fun _ _ _ h => h) (by rfl) (by intro w'; go_simp; with_reducible rfl) (by simp only [Act.put, List.setIfInBounds_toArray, List.set_cons_zero, List.set_cons_succ, i64_w, i32_w]; rfl) ?_
          refine pu_ 12 (some 21) (m_ 31 8191) rfl rfl (by kernel_rfl) (fun _ _ _ h => h) (by rfl) (by intro w'; go_simp; with_reducible rfl) (by simp only [Act.put, List.setIfInBounds_toArray, List.set_cons_zero, List.set_cons_succ, i64_w, i32_w]; rfl) ?_
          refine pu_ 13 (some 22) (m_ 31 16383) rfl rfl (by kernel_rfl) (fun _ _ _ h => h) (by rfl) (by intro w'; go_simp; with_reducible rfl) (by simp only [Act.put, List.setIfInBounds_toArray, List.set_cons_zero, List.set_cons_succ, i64_w, i32_w]; rfl) ?_
          refine tk_ 14 (some 23) (m_ 31 32767) rfl rfl (by kernel_rfl) (fun _ _ _ h => h) (by rfl) (by rintro w' ⟨s0, s1, s2, s3⟩; go_simp; with_reducible rfl) hHeld (by simp only [Act.put, List.setIfInBounds_toArray, List.set_cons_zero, List.set_cons_succ, i64_w, i32_w]; rfl) ?_
          refine pu_ 15 (some 24) (m_ 31 65535) rfl rfl (by kernel_rfl) (fun _ _ _ h => h) (by rfl) (by intro w'; go_simp; with_reducible rfl) (by simp only [Act.put, List.setIfInBounds_toArray, List.set_cons_zero, List.set_cons_succ, i64_w, i32_w]; rfl) ?_
          refine pu_ 16 (some 25) (m_ 31 131071) rfl rfl (by kernel_rfl) (fun _ _ _ h => h) (by rfl) (by intro w'; go_simp; with_reducible rfl) (by simp only [Act.put, List.setIfInBounds_toArray, List.set_cons_zero, List.set_cons_succ, i64_w, i32_w]; rfl) ?_
          refine pu_ 17 (some 26) (m_ 31 262143) rfl rfl (by kernel_rfl) (fun _ _ _ h => h) (by rfl) (by intro w'; go_simp; with_reducible rfl) (by simp only [Act.put, List.setIfInBounds_toArray, List.set_cons_zero, List.set_cons_succ, i64_w, i32_w]; rfl) ?_
          refine pu_ 18 (some 27) (m_ 31 524287) rfl rfl (by kernel_rfl) (fun _ _ _ h => h) (by rfl) (by intro w'; go_simp; with_reducible rfl) (by simp only [Act.put, List.setIfInBounds_toArray, List.set_cons_zero, List.set_cons_succ, i64_w, i32_w]; rfl) ?_
          refine pu_ 19 (some 28) (m_ 31 1048575) rfl rfl (by kernel_rfl) (fun _ _ _ h => h) (by rfl) (by intro w'; go_simp; with_reducible rfl) (by simp only [Act.put, List.setIfInBounds_toArray, List.set_cons_zero, List.set_cons_succ, i64_w, i32_w]; rfl) ?_
          refine pu_ 20 (some 29) (m_ 31 2097151) rfl rfl (by kernel_rfl) (fun _ _ _ h => h) (by rfl) (by intro w'; go_simp; with_reducible rfl) (by simp only [Act.put, List.setIfInBounds_toArray, List.set_cons_zero, List.set_cons_succ, i64_w, i32_w]; rfl) ?_
          refine pu_ 22 (some 31) (m_ 31 6291455) rfl rfl (by kernel_rfl) (fun _ _ _ h => h) (by rfl) (by intro w'; go_simp; with_reducible rfl) (by simp only [Act.put, List.setIfInBounds_toArray, List.set_cons_zero, List.set_cons_succ, i64_w, i32_w]; rfl) ?_
          refine pu_ 23 (some 32) (m_ 31 14680063) rfl rfl (by kernel_rfl) (fun _ _ _ h => h) (by rfl) (by intro w'; go_simp; with_reducible rfl) (by simp only [Act.put, List.setIfInBounds_toArray, List.set_cons_zero, List.set_cons_succ, i64_w, i32_w]; rfl) ?_
          refine pu_ 24 (some 33) (m_ 31 31457279) rfl rfl (by kernel_rfl) (fun _ _ _ h => h) (by rfl) (by intro w'; go_simp; with_reducible rfl) (by simp only [Act.put, List.setIfInBounds_toArray, List.set_cons_zero, List.set_cons_succ, i64_w, i32_w]; rfl) ?_
          refine pu_ 25 (some 34) (m_ 31 65011711) rfl rfl (by kernel_rfl) (fun _ _ _ h => h) (by rfl) (by intro w'; go_simp; with_reducible rfl) (by simp only [Act.put, List.setIfInBounds_toArray, List.set_cons_zero, List.set_cons_succ, i64_w, i32_w]; rfl) ?_
          refine tk_ 21 (some 30) (m_ 31 67108863) rfl rfl (by kernel_rfl) (fun _ _ _ h => h) (by rfl) (by rintro w' ⟨s0, s1, s2, s3⟩; go_simp; with_reducible rfl) hHeld (by simp only [Act.put, List.setIfInBounds_toArray, List.set_cons_zero, List.set_cons_succ, i64_w, i32_w]; rfl) ?_
          refine tk_ 26 (some 35) (m_ 31 134217727) rfl rfl (by kernel_rfl) (fun _ _ _ h => h) (by rfl) (by rintro w' ⟨s0, s1, s2, s3⟩; go_simp; with_reducible rfl) hHeld (by simp only [Act.put, List.setIfInBounds_toArray, List.set_cons_zero, List.set_cons_succ, i64_w, i32_w]; rfl) ?_
          refine one_ (i := 27) (N := some 36) (m_ 31 268435455) rfl rfl (by kernel_rfl) (by decide) (fun K hK => ?_)
          refine goes_ Try.func37 (by kernel_rfl) rfl #[.pointer (some ⟨b, 0, none⟩), .int .i64 s1.at_, .int .i64 s1.t.a] (by rfl) rfl rfl (by simp only [List.map_toArray, List.map_cons, List.map_nil]; rfl) ?_
          with_reducible refine (over_any (w := w2) HS1.out s1.at_ s1.t.a).mono ?_
          rintro e w3 ⟨rfl, hB⟩
          have hB1 := hB
          have HS2 := Lib.hid (HS1.out.below hB1)
          have HD2 := Lib.hid (HD1.out.trans (Stem.refl F _) (Did.of_below hB1))
          have d1_17 := bcells hB1 d0_17
          have d1_2 := bcells hB1 d0_2
          have d1_18 := bcells hB1 d0_18
          have d1_5 := bcells hB1 d0_5
          clear hB hB1
          refine ⟨_, rfl, ?_⟩
          refine hK.out _ _ ⟨d1_17, d1_2, d1_18, d1_5⟩ (fun hHeld => ?_)
          clear hK K
          refine norm_ (a' := ?_) ?_ ?_
          rotate_left
          · show Act.put _ (some 36) _ = _
            simp only [Act.put, List.setIfInBounds_toArray, List.set_cons_zero, List.set_cons_succ, i64_w, i32_w]
            rfl
          refine pu_ 28 (some 37) (m_ 31 536870911) rfl rfl (by kernel_rfl) (fun _ _ _ h => h) (by rfl) (by intro w'; go_simp; with_reducible rfl) (by simp only [Act.put, List.setIfInBounds_toArray, List.set_cons_zero, List.set_cons_succ, i64_w, i32_w]; rfl) ?_
          refine pu_ 29 (some 38) (m_ 31 1073741823) rfl rfl (by kernel_rfl) (fun _ _ _ h => h) (by rfl) (by intro w'; go_simp; with_reducible rfl) (by simp only [Act.put, List.setIfInBounds_toArray, List.set_cons_zero, List.set_cons_succ, i64_w, i32_w]; rfl) ?_
          refine pu_ 30 (some 5) (m_ 31 2147483647) rfl rfl (by kernel_rfl) (fun _ _ _ h => h) (by rfl) (by intro w'; go_simp; with_reducible rfl) (by simp only [Act.put, List.setIfInBounds_toArray, List.set_cons_zero, List.set_cons_succ, i64_w, i32_w]; rfl) ?_
          refine done_ (by kernel_rfl) ?_
          replace HS := HS2
          replace HD := HD2
          clear HS1 HD1
          clear HS2 HD2
          clear d0_17 d0_2 d0_18 d0_5
          clear d1_17 d1_2 d1_18 d1_5
          clear hHeld
          clear c17 c2 c18 c5
          go_wp2_with fail
          go_meet
          exact ⟨_, rfl, hE, HS.out, HD.out⟩
        · have t7 : (s1.t.kind != 7) = true := by simpa using k7
          have hE := Lib.hid (show endedB s1 = true by unfold endedB; rw [hclosed.out, hz, decide_eq_true k7]; simp)
          clear hc hz k7
          have c17 : w1.cell? ⟨b, 17, none⟩ = some (.bool true) := (HS.out.blk.cell 17).trans (by rw [show (scells k s1)[17]? = some (.bool s1.closed) from rfl, hclosed.out])
          have c2 : w1.cell? ⟨b, 2, none⟩ = some (.int .i64 s1.t.kind) := (HS.out.blk.cell 2).trans rfl
          refine start_ (n := 31) (S := fun w' => w'.cell? ⟨b, 17, none⟩ = some (.bool true) ∧ w'.cell? ⟨b, 2, none⟩ = some (.int .i64 s1.t.kind)) (ds := []) (m_ 31 0) (by kernel_rfl) rfl (by kernel_rfl) ⟨c17, c2⟩ (fun hHeld => ?_)
          refine pu_ 0 (some 9) (m_ 31 1) rfl rfl (by kernel_rfl) (fun _ _ _ h => h) (by rfl) (by intro w'; go_simp; with_reducible rfl) (by simp only [Act.put, List.setIfInBounds_toArray, List.set_cons_zero, List.set_cons_succ, i64_w, i32_w]; rfl) ?_
          refine pu_ 1 (some 10) (m_ 31 3) rfl rfl (by kernel_rfl) (fun _ _ _ h => h) (by rfl) (by intro w'; go_simp; with_reducible rfl) (by simp only [Act.put, List.setIfInBounds_toArray, List.set_cons_zero, List.set_cons_succ, i64_w, i32_w]; rfl) ?_
          refine pu_ 2 (some 11) (m_ 31 7) rfl rfl (by kernel_rfl) (fun _ _ _ h => h) (by rfl) (by intro w'; go_simp; with_reducible rfl) (by simp only [Act.put, List.setIfInBounds_toArray, List.set_cons_zero, List.set_cons_succ, i64_w, i32_w]; rfl) ?_
          refine tk_ 3 (some 12) (m_ 31 15) rfl rfl (by kernel_rfl) (fun _ _ _ h => h) (by rfl) (by rintro w' ⟨s0, s1⟩; go_simp; with_reducible rfl) hHeld (by simp only [Act.put, List.setIfInBounds_toArray, List.set_cons_zero, List.set_cons_succ, i64_w, i32_w]; rfl) ?_
          refine pu_ 4 (some 13) (m_ 31 31) rfl rfl (by kernel_rfl) (fun _ _ _ h => h) (by rfl) (by intro w'; go_simp; with_reducible rfl) (by simp only [Act.put, List.setIfInBounds_toArray, List.set_cons_zero, List.set_cons_succ, i64_w, i32_w]; rfl) ?_
          refine pu_ 5 (some 14) (m_ 31 63) rfl rfl (by kernel_rfl) (fun _ _ _ h => h) (by rfl) (by intro w'; go_simp; with_reducible rfl) (by simp only [Act.put, List.setIfInBounds_toArray, List.set_cons_zero, List.set_cons_succ, i64_w, i32_w]; rfl) ?_
          refine one_ (i := 6) (N := some 15) (m_ 31 127) rfl rfl (by kernel_rfl) (by decide) (fun K hK => ?_)
          refine goes_ Try.func13 (by kernel_rfl) rfl #[.pointer (some ⟨b, 0, none⟩)] (by rfl) rfl rfl (by simp only [List.map_toArray, List.map_cons, List.map_nil]; rfl) ?_
          with_reducible refine (held_any (w := w1.drew) HS.out.drew hth).mono ?_
          rintro e w4 ⟨rfl, hB⟩
          have hB1 := below_drew hB
          have HS1 := Lib.hid (HS.out.below hB1)
          have HD1 := Lib.hid (HD.out.trans (Stem.refl F _) (Did.of_below hB1))
          have d0_17 := bcells hB1 c17
          have d0_2 := bcells hB1 c2
          clear hB hB1
          refine ⟨_, rfl, ?_⟩
          refine hK.out _ _ ⟨d0_17, d0_2⟩ (fun hHeld => ?_)
          clear hK K
          refine norm_ (a' := ?_) ?_ ?_
          rotate_left
          · show Act.put _ (some 15) _ = _
            simp only [Act.put, List.setIfInBounds_toArray, List.set_cons_zero, List.set_cons_succ, i64_w, i32_w]
            rfl
          refine pu_ 7 (some 16) (m_ 31 255) rfl rfl (by kernel_rfl) (fun _ _ _ h => h) (by rfl) (by intro w'; go_simp; with_reducible rfl) (by simp only [Act.put, List.setIfInBounds_toArray, List.set_cons_zero, List.set_cons_succ, i64_w, i32_w]; rfl) ?_
          refine pu_ 8 (some 17) (m_ 31 511) rfl rfl (by kernel_rfl) (fun _ _ _ h => h) (by rfl) (by intro w'; go_simp; with_reducible rfl) (by simp only [Act.put, List.setIfInBounds_toArray, List.set_cons_zero, List.set_cons_succ, i64_w, i32_w]; rfl) ?_
          refine pu_ 9 (some 18) (m_ 31 1023) rfl rfl (by kernel_rfl) (fun _ _ _ h => h) (by rfl) (by intro w'; go_simp; with_reducible rfl) (by simp only [Act.put, List.setIfInBounds_toArray, List.set_cons_zero, List.set_cons_succ, i64_w, i32_w]; rfl) ?_
          refine pu_ 10 (some 19) (m_ 31 2047) rfl rfl (by kernel_rfl) (fun _ _ _ h => h) (by rfl) (by intro w'; go_simp; with_reducible rfl) (by simp only [Act.put, List.setIfInBounds_toArray, List.set_cons_zero, List.set_cons_succ, i64_w, i32_w]; rfl) ?_
          refine pu_ 11 (some 20) (m_ 31 4095) rfl rfl (by kernel_rfl) (fun _ _ _ h => h) (by rfl) (by intro w'; go_simp; with_reducible rfl) (by simp only [Act.put, List.setIfInBounds_toArray, List.set_cons_zero, List.set_cons_succ, i64_w, i32_w]; rfl) ?_
          refine pu_ 12 (some 21) (m_ 31 8191) rfl rfl (by kernel_rfl) (fun _ _ _ h => h) (by rfl) (by intro w'; go_simp; with_reducible rfl) (by simp only [Act.put, List.setIfInBounds_toArray, List.set_cons_zero, List.set_cons_succ, i64_w, i32_w]; rfl) ?_
          refine pu_ 13 (some 22) (m_ 31 16383) rfl rfl (by kernel_rfl) (fun _ _ _ h => h) (by rfl) (by intro w'; go_simp; with_reducible rfl) (by simp only [Act.put, List.setIfInBounds_toArray, List.set_cons_zero, List.set_cons_succ, i64_w, i32_w]; rfl) ?_
          refine tk_ 14 (some 23) (m_ 31 32767) rfl rfl (by kernel_rfl) (fun _ _ _ h => h) (by rfl) (by rintro w' ⟨s0, s1⟩; go_simp; with_reducible rfl) hHeld (by simp only [Act.put, List.setIfInBounds_toArray, List.set_cons_zero, List.set_cons_succ, i64_w, i32_w]; rfl) ?_
          refine pu_ 15 (some 24) (m_ 31 65535) rfl rfl (by kernel_rfl) (fun _ _ _ h => h) (by rfl) (by intro w'; go_simp; with_reducible rfl) (by simp only [Act.put, List.setIfInBounds_toArray, List.set_cons_zero, List.set_cons_succ, i64_w, i32_w]; rfl) ?_
          refine pu_ 16 (some 25) (m_ 31 131071) rfl rfl (by kernel_rfl) (fun _ _ _ h => h) (by rfl) (by intro w'; go_simp; with_reducible rfl) (by simp only [Act.put, List.setIfInBounds_toArray, List.set_cons_zero, List.set_cons_succ, i64_w, i32_w]; rfl) ?_
          refine po_ 17 (some 26) (m_ 31 262143) rfl rfl (by kernel_rfl) (fun _ _ _ h => h) (by rfl) (by simp only [Act.put, List.setIfInBounds_toArray, List.set_cons_zero, List.set_cons_succ, i64_w, i32_w]; rfl) ?_
          refine po_ 18 (some 27) (m_ 31 524287) rfl rfl (by kernel_rfl) (fun _ _ _ h => h) (by rfl) (by simp only [Act.put, List.setIfInBounds_toArray, List.set_cons_zero, List.set_cons_succ, i64_w, i32_w]; rfl) ?_
          refine po_ 19 (some 28) (m_ 31 1048575) rfl rfl (by kernel_rfl) (fun _ _ _ h => h) (by rfl) (by simp only [Act.put, List.setIfInBounds_toArray, List.set_cons_zero, List.set_cons_succ, i64_w, i32_w]; rfl) ?_
          refine po_ 20 (some 29) (m_ 31 2097151) rfl rfl (by kernel_rfl) (fun _ _ _ h => h) (by rfl) (by simp only [Act.put, List.setIfInBounds_toArray, List.set_cons_zero, List.set_cons_succ, i64_w, i32_w]; rfl) ?_
          refine po_ 21 (some 30) (m_ 31 4194303) rfl rfl (by kernel_rfl) (fun _ _ _ h => h) (by rfl) (by simp only [Act.put, List.setIfInBounds_toArray, List.set_cons_zero, List.set_cons_succ, i64_w, i32_w]; rfl) ?_
          refine po_ 22 (some 31) (m_ 31 8388607) rfl rfl (by kernel_rfl) (fun _ _ _ h => h) (by rfl) (by simp only [Act.put, List.setIfInBounds_toArray, List.set_cons_zero, List.set_cons_succ, i64_w, i32_w]; rfl) ?_
          refine po_ 23 (some 32) (m_ 31 16777215) rfl rfl (by kernel_rfl) (fun _ _ _ h => h) (by rfl) (by simp only [Act.put, List.setIfInBounds_toArray, List.set_cons_zero, List.set_cons_succ, i64_w, i32_w]; rfl) ?_
          refine po_ 24 (some 33) (m_ 31 33554431) rfl rfl (by kernel_rfl) (fun _ _ _ h => h) (by rfl) (by simp only [Act.put, List.setIfInBounds_toArray, List.set_cons_zero, List.set_cons_succ, i64_w, i32_w]; rfl) ?_
          refine po_ 25 (some 34) (m_ 31 67108863) rfl rfl (by kernel_rfl) (fun _ _ _ h => h) (by rfl) (by simp only [Act.put, List.setIfInBounds_toArray, List.set_cons_zero, List.set_cons_succ, i64_w, i32_w]; rfl) ?_
          refine po_ 26 (some 35) (m_ 31 134217727) rfl rfl (by kernel_rfl) (fun _ _ _ h => h) (by rfl) (by simp only [Act.put, List.setIfInBounds_toArray, List.set_cons_zero, List.set_cons_succ, i64_w, i32_w]; rfl) ?_
          refine po_ 27 (some 36) (m_ 31 268435455) rfl rfl (by kernel_rfl) (fun _ _ _ h => h) (by rfl) (by simp only [Act.put, List.setIfInBounds_toArray, List.set_cons_zero, List.set_cons_succ, i64_w, i32_w]; rfl) ?_
          refine pu_ 28 (some 37) (m_ 31 536870911) rfl rfl (by kernel_rfl) (fun _ _ _ h => h) (by rfl) (by intro w'; go_simp; with_reducible rfl) (by simp only [Act.put, List.setIfInBounds_toArray, List.set_cons_zero, List.set_cons_succ, i64_w, i32_w]; rfl) ?_
          refine pu_ 29 (some 38) (m_ 31 1073741823) rfl rfl (by kernel_rfl) (fun _ _ _ h => h) (by rfl) (by intro w'; go_simp; with_reducible rfl) (by simp only [Act.put, List.setIfInBounds_toArray, List.set_cons_zero, List.set_cons_succ, i64_w, i32_w]; rfl) ?_
          refine pu_ 30 (some 5) (m_ 31 2147483647) rfl rfl (by kernel_rfl) (fun _ _ _ h => h) (by rfl) (by intro w'; go_simp; with_reducible rfl) (by simp only [Act.put, List.setIfInBounds_toArray, List.set_cons_zero, List.set_cons_succ, i64_w, i32_w]; rfl) ?_
          refine done_ (by kernel_rfl) ?_
          replace HS := HS1
          replace HD := HD1
          clear HS1 HD1
          clear d0_17 d0_2
          clear hHeld
          clear c17 c2
          go_wp2_with fail
          go_meet
          exact ⟨true, rfl, hE, HS.out, HD.out⟩
      · have hzz : (((held s1 : Nat) : Int) == 0) = false := by simpa using hz
        have hE := Lib.hid (show endedB s1 = false by unfold endedB; rw [hclosed.out, decide_eq_false hz]; rfl)
        clear hc hz
        have c17 : w1.cell? ⟨b, 17, none⟩ = some (.bool true) := (HS.out.blk.cell 17).trans (by rw [show (scells k s1)[17]? = some (.bool s1.closed) from rfl, hclosed.out])
        refine start_ (n := 31) (S := fun w' => w'.cell? ⟨b, 17, none⟩ = some (.bool true)) (ds := []) (m_ 31 0) (by kernel_rfl) rfl (by kernel_rfl) (c17) (fun hHeld => ?_)
        refine pu_ 0 (some 9) (m_ 31 1) rfl rfl (by kernel_rfl) (fun _ _ _ h => h) (by rfl) (by intro w'; go_simp; with_reducible rfl) (by simp only [Act.put, List.setIfInBounds_toArray, List.set_cons_zero, List.set_cons_succ, i64_w, i32_w]; rfl) ?_
        refine pu_ 1 (some 10) (m_ 31 3) rfl rfl (by kernel_rfl) (fun _ _ _ h => h) (by rfl) (by intro w'; go_simp; with_reducible rfl) (by simp only [Act.put, List.setIfInBounds_toArray, List.set_cons_zero, List.set_cons_succ, i64_w, i32_w]; rfl) ?_
        refine pu_ 2 (some 11) (m_ 31 7) rfl rfl (by kernel_rfl) (fun _ _ _ h => h) (by rfl) (by intro w'; go_simp; with_reducible rfl) (by simp only [Act.put, List.setIfInBounds_toArray, List.set_cons_zero, List.set_cons_succ, i64_w, i32_w]; rfl) ?_
        refine tk_ 3 (some 12) (m_ 31 15) rfl rfl (by kernel_rfl) (fun _ _ _ h => h) (by rfl) (by intro w' s0; go_simp; with_reducible rfl) hHeld (by simp only [Act.put, List.setIfInBounds_toArray, List.set_cons_zero, List.set_cons_succ, i64_w, i32_w]; rfl) ?_
        refine pu_ 4 (some 13) (m_ 31 31) rfl rfl (by kernel_rfl) (fun _ _ _ h => h) (by rfl) (by intro w'; go_simp; with_reducible rfl) (by simp only [Act.put, List.setIfInBounds_toArray, List.set_cons_zero, List.set_cons_succ, i64_w, i32_w]; rfl) ?_
        refine pu_ 5 (some 14) (m_ 31 63) rfl rfl (by kernel_rfl) (fun _ _ _ h => h) (by rfl) (by intro w'; go_simp; with_reducible rfl) (by simp only [Act.put, List.setIfInBounds_toArray, List.set_cons_zero, List.set_cons_succ, i64_w, i32_w]; rfl) ?_
        refine one_ (i := 6) (N := some 15) (m_ 31 127) rfl rfl (by kernel_rfl) (by decide) (fun K hK => ?_)
        refine goes_ Try.func13 (by kernel_rfl) rfl #[.pointer (some ⟨b, 0, none⟩)] (by rfl) rfl rfl (by simp only [List.map_toArray, List.map_cons, List.map_nil]; rfl) ?_
        with_reducible refine (held_any (w := w1.drew) HS.out.drew hth).mono ?_
        rintro e w5 ⟨rfl, hB⟩
        have hB1 := below_drew hB
        have HS1 := Lib.hid (HS.out.below hB1)
        have HD1 := Lib.hid (HD.out.trans (Stem.refl F _) (Did.of_below hB1))
        have d0_17 := bcells hB1 c17
        clear hB hB1
        refine ⟨_, rfl, ?_⟩
        refine hK.out _ _ (d0_17) (fun hHeld => ?_)
        clear hK K
        refine norm_ (a' := ?_) ?_ ?_
        rotate_left
        · show Act.put _ (some 15) _ = _
          simp only [Act.put, List.setIfInBounds_toArray, List.set_cons_zero, List.set_cons_succ, i64_w, i32_w]
          rfl
        refine pu_ 7 (some 16) (m_ 31 255) rfl rfl (by kernel_rfl) (fun _ _ _ h => h) (by rfl) (by intro w'; go_simp; with_reducible rfl) (by simp only [Act.put, List.setIfInBounds_toArray, List.set_cons_zero, List.set_cons_succ, i64_w, i32_w]; rfl) ?_
        refine pu_ 8 (some 17) (m_ 31 511) rfl rfl (by kernel_rfl) (fun _ _ _ h => h) (by rfl) (by intro w'; go_simp; with_reducible rfl) (by simp only [Act.put, List.setIfInBounds_toArray, List.set_cons_zero, List.set_cons_succ, i64_w, i32_w]; rfl) ?_
        refine pu_ 9 (some 18) (m_ 31 1023) rfl rfl (by kernel_rfl) (fun _ _ _ h => h) (by rfl) (by intro w'; go_simp; with_reducible rfl) (by simp only [Act.put, List.setIfInBounds_toArray, List.set_cons_zero, List.set_cons_succ, i64_w, i32_w]; rfl) ?_
        refine po_ 10 (some 19) (m_ 31 2047) rfl rfl (by kernel_rfl) (fun _ _ _ h => h) (by rfl) (by simp only [Act.put, List.setIfInBounds_toArray, List.set_cons_zero, List.set_cons_succ, i64_w, i32_w]; rfl) ?_
        refine po_ 11 (some 20) (m_ 31 4095) rfl rfl (by kernel_rfl) (fun _ _ _ h => h) (by rfl) (by simp only [Act.put, List.setIfInBounds_toArray, List.set_cons_zero, List.set_cons_succ, i64_w, i32_w]; rfl) ?_
        refine po_ 12 (some 21) (m_ 31 8191) rfl rfl (by kernel_rfl) (fun _ _ _ h => h) (by rfl) (by simp only [Act.put, List.setIfInBounds_toArray, List.set_cons_zero, List.set_cons_succ, i64_w, i32_w]; rfl) ?_
        refine po_ 13 (some 22) (m_ 31 16383) rfl rfl (by kernel_rfl) (fun _ _ _ h => h) (by rfl) (by simp only [Act.put, List.setIfInBounds_toArray, List.set_cons_zero, List.set_cons_succ, i64_w, i32_w]; rfl) ?_
        refine po_ 14 (some 23) (m_ 31 32767) rfl rfl (by kernel_rfl) (fun _ _ _ h => h) (by rfl) (by simp only [Act.put, List.setIfInBounds_toArray, List.set_cons_zero, List.set_cons_succ, i64_w, i32_w]; rfl) ?_
        refine po_ 15 (some 24) (m_ 31 65535) rfl rfl (by kernel_rfl) (fun _ _ _ h => h) (by rfl) (by simp only [Act.put, List.setIfInBounds_toArray, List.set_cons_zero, List.set_cons_succ, i64_w, i32_w]; rfl) ?_
        refine po_ 16 (some 25) (m_ 31 131071) rfl rfl (by kernel_rfl) (fun _ _ _ h => h) (by rfl) (by simp only [Act.put, List.setIfInBounds_toArray, List.set_cons_zero, List.set_cons_succ, i64_w, i32_w]; rfl) ?_
        refine po_ 17 (some 26) (m_ 31 262143) rfl rfl (by kernel_rfl) (fun _ _ _ h => h) (by rfl) (by simp only [Act.put, List.setIfInBounds_toArray, List.set_cons_zero, List.set_cons_succ, i64_w, i32_w]; rfl) ?_
        refine po_ 18 (some 27) (m_ 31 524287) rfl rfl (by kernel_rfl) (fun _ _ _ h => h) (by rfl) (by simp only [Act.put, List.setIfInBounds_toArray, List.set_cons_zero, List.set_cons_succ, i64_w, i32_w]; rfl) ?_
        refine po_ 19 (some 28) (m_ 31 1048575) rfl rfl (by kernel_rfl) (fun _ _ _ h => h) (by rfl) (by simp only [Act.put, List.setIfInBounds_toArray, List.set_cons_zero, List.set_cons_succ, i64_w, i32_w]; rfl) ?_
        refine po_ 20 (some 29) (m_ 31 2097151) rfl rfl (by kernel_rfl) (fun _ _ _ h => h) (by rfl) (by simp only [Act.put, List.setIfInBounds_toArray, List.set_cons_zero, List.set_cons_succ, i64_w, i32_w]; rfl) ?_
        refine po_ 21 (some 30) (m_ 31 4194303) rfl rfl (by kernel_rfl) (fun _ _ _ h => h) (by rfl) (by simp only [Act.put, List.setIfInBounds_toArray, List.set_cons_zero, List.set_cons_succ, i64_w, i32_w]; rfl) ?_
        refine po_ 22 (some 31) (m_ 31 8388607) rfl rfl (by kernel_rfl) (fun _ _ _ h => h) (by rfl) (by simp only [Act.put, List.setIfInBounds_toArray, List.set_cons_zero, List.set_cons_succ, i64_w, i32_w]; rfl) ?_
        refine po_ 23 (some 32) (m_ 31 16777215) rfl rfl (by kernel_rfl) (fun _ _ _ h => h) (by rfl) (by simp only [Act.put, List.setIfInBounds_toArray, List.set_cons_zero, List.set_cons_succ, i64_w, i32_w]; rfl) ?_
        refine po_ 24 (some 33) (m_ 31 33554431) rfl rfl (by kernel_rfl) (fun _ _ _ h => h) (by rfl) (by simp only [Act.put, List.setIfInBounds_toArray, List.set_cons_zero, List.set_cons_succ, i64_w, i32_w]; rfl) ?_
        refine po_ 25 (some 34) (m_ 31 67108863) rfl rfl (by kernel_rfl) (fun _ _ _ h => h) (by rfl) (by simp only [Act.put, List.setIfInBounds_toArray, List.set_cons_zero, List.set_cons_succ, i64_w, i32_w]; rfl) ?_
        refine po_ 26 (some 35) (m_ 31 134217727) rfl rfl (by kernel_rfl) (fun _ _ _ h => h) (by rfl) (by simp only [Act.put, List.setIfInBounds_toArray, List.set_cons_zero, List.set_cons_succ, i64_w, i32_w]; rfl) ?_
        refine po_ 27 (some 36) (m_ 31 268435455) rfl rfl (by kernel_rfl) (fun _ _ _ h => h) (by rfl) (by simp only [Act.put, List.setIfInBounds_toArray, List.set_cons_zero, List.set_cons_succ, i64_w, i32_w]; rfl) ?_
        refine po_ 28 (some 37) (m_ 31 536870911) rfl rfl (by kernel_rfl) (fun _ _ _ h => h) (by rfl) (by simp only [Act.put, List.setIfInBounds_toArray, List.set_cons_zero, List.set_cons_succ, i64_w, i32_w]; rfl) ?_
        refine pu_ 29 (some 38) (m_ 31 1073741823) rfl rfl (by kernel_rfl) (fun _ _ _ h => h) (by rfl) (by intro w'; go_simp; with_reducible rfl) (by simp only [Act.put, List.setIfInBounds_toArray, List.set_cons_zero, List.set_cons_succ, i64_w, i32_w]; rfl) ?_
        refine pu_ 30 (some 5) (m_ 31 2147483647) rfl rfl (by kernel_rfl) (fun _ _ _ h => h) (by rfl) (by intro w'; go_simp; with_reducible rfl) (by simp only [Act.put, List.setIfInBounds_toArray, List.set_cons_zero, List.set_cons_succ, i64_w, i32_w]; rfl) ?_
        refine done_ (by kernel_rfl) ?_
        replace HS := HS1
        replace HD := HD1
        clear HS1 HD1
        clear d0_17
        clear hHeld
        clear c17
        go_wp2_with fail
        go_meet
        exact ⟨false, rfl, hE, HS.out, HD.out⟩
    · have hclosed := Lib.hid (show s1.closed = false by simpa using hc)
      have hE := Lib.hid (show endedB s1 = false by unfold endedB; rw [hclosed.out]; rfl)
      clear hc
      have c17 : w1.cell? ⟨b, 17, none⟩ = some (.bool false) := (HS.out.blk.cell 17).trans (by rw [show (scells k s1)[17]? = some (.bool s1.closed) from rfl, hclosed.out])
      refine start_ (n := 31) (S := fun w' => w'.cell? ⟨b, 17, none⟩ = some (.bool false)) (ds := []) (m_ 31 0) (by kernel_rfl) rfl (by kernel_rfl) (c17) (fun hHeld => ?_)
      refine pu_ 0 (some 9) (m_ 31 1) rfl rfl (by kernel_rfl) (fun _ _ _ h => h) (by rfl) (by intro w'; go_simp; with_reducible rfl) (by simp only [Act.put, List.setIfInBounds_toArray, List.set_cons_zero, List.set_cons_succ, i64_w, i32_w]; rfl) ?_
      refine pu_ 1 (some 10) (m_ 31 3) rfl rfl (by kernel_rfl) (fun _ _ _ h => h) (by rfl) (by intro w'; go_simp; with_reducible rfl) (by simp only [Act.put, List.setIfInBounds_toArray, List.set_cons_zero, List.set_cons_succ, i64_w, i32_w]; rfl) ?_
      refine pu_ 2 (some 11) (m_ 31 7) rfl rfl (by kernel_rfl) (fun _ _ _ h => h) (by rfl) (by intro w'; go_simp; with_reducible rfl) (by simp only [Act.put, List.setIfInBounds_toArray, List.set_cons_zero, List.set_cons_succ, i64_w, i32_w]; rfl) ?_
      refine tk_ 3 (some 12) (m_ 31 15) rfl rfl (by kernel_rfl) (fun _ _ _ h => h) (by rfl) (by intro w' s0; go_simp; with_reducible rfl) hHeld (by simp only [Act.put, List.setIfInBounds_toArray, List.set_cons_zero, List.set_cons_succ, i64_w, i32_w]; rfl) ?_
      refine pu_ 4 (some 13) (m_ 31 31) rfl rfl (by kernel_rfl) (fun _ _ _ h => h) (by rfl) (by intro w'; go_simp; with_reducible rfl) (by simp only [Act.put, List.setIfInBounds_toArray, List.set_cons_zero, List.set_cons_succ, i64_w, i32_w]; rfl) ?_
      refine po_ 5 (some 14) (m_ 31 63) rfl rfl (by kernel_rfl) (fun _ _ _ h => h) (by rfl) (by simp only [Act.put, List.setIfInBounds_toArray, List.set_cons_zero, List.set_cons_succ, i64_w, i32_w]; rfl) ?_
      refine po_ 6 (some 15) (m_ 31 127) rfl rfl (by kernel_rfl) (fun _ _ _ h => h) (by rfl) (by simp only [Act.put, List.setIfInBounds_toArray, List.set_cons_zero, List.set_cons_succ, i64_w, i32_w]; rfl) ?_
      refine po_ 7 (some 16) (m_ 31 255) rfl rfl (by kernel_rfl) (fun _ _ _ h => h) (by rfl) (by simp only [Act.put, List.setIfInBounds_toArray, List.set_cons_zero, List.set_cons_succ, i64_w, i32_w]; rfl) ?_
      refine pu_ 8 (some 17) (m_ 31 511) rfl rfl (by kernel_rfl) (fun _ _ _ h => h) (by rfl) (by intro w'; go_simp; with_reducible rfl) (by simp only [Act.put, List.setIfInBounds_toArray, List.set_cons_zero, List.set_cons_succ, i64_w, i32_w]; rfl) ?_
      refine pu_ 9 (some 18) (m_ 31 1023) rfl rfl (by kernel_rfl) (fun _ _ _ h => h) (by rfl) (by intro w'; go_simp; with_reducible rfl) (by simp only [Act.put, List.setIfInBounds_toArray, List.set_cons_zero, List.set_cons_succ, i64_w, i32_w]; rfl) ?_
      refine po_ 10 (some 19) (m_ 31 2047) rfl rfl (by kernel_rfl) (fun _ _ _ h => h) (by rfl) (by simp only [Act.put, List.setIfInBounds_toArray, List.set_cons_zero, List.set_cons_succ, i64_w, i32_w]; rfl) ?_
      refine po_ 11 (some 20) (m_ 31 4095) rfl rfl (by kernel_rfl) (fun _ _ _ h => h) (by rfl) (by simp only [Act.put, List.setIfInBounds_toArray, List.set_cons_zero, List.set_cons_succ, i64_w, i32_w]; rfl) ?_
      refine po_ 12 (some 21) (m_ 31 8191) rfl rfl (by kernel_rfl) (fun _ _ _ h => h) (by rfl) (by simp only [Act.put, List.setIfInBounds_toArray, List.set_cons_zero, List.set_cons_succ, i64_w, i32_w]; rfl) ?_
      refine po_ 13 (some 22) (m_ 31 16383) rfl rfl (by kernel_rfl) (fun _ _ _ h => h) (by rfl) (by simp only [Act.put, List.setIfInBounds_toArray, List.set_cons_zero, List.set_cons_succ, i64_w, i32_w]; rfl) ?_
      refine po_ 14 (some 23) (m_ 31 32767) rfl rfl (by kernel_rfl) (fun _ _ _ h => h) (by rfl) (by simp only [Act.put, List.setIfInBounds_toArray, List.set_cons_zero, List.set_cons_succ, i64_w, i32_w]; rfl) ?_
      refine po_ 15 (some 24) (m_ 31 65535) rfl rfl (by kernel_rfl) (fun _ _ _ h => h) (by rfl) (by simp only [Act.put, List.setIfInBounds_toArray, List.set_cons_zero, List.set_cons_succ, i64_w, i32_w]; rfl) ?_
      refine po_ 16 (some 25) (m_ 31 131071) rfl rfl (by kernel_rfl) (fun _ _ _ h => h) (by rfl) (by simp only [Act.put, List.setIfInBounds_toArray, List.set_cons_zero, List.set_cons_succ, i64_w, i32_w]; rfl) ?_
      refine po_ 17 (some 26) (m_ 31 262143) rfl rfl (by kernel_rfl) (fun _ _ _ h => h) (by rfl) (by simp only [Act.put, List.setIfInBounds_toArray, List.set_cons_zero, List.set_cons_succ, i64_w, i32_w]; rfl) ?_
      refine po_ 18 (some 27) (m_ 31 524287) rfl rfl (by kernel_rfl) (fun _ _ _ h => h) (by rfl) (by simp only [Act.put, List.setIfInBounds_toArray, List.set_cons_zero, List.set_cons_succ, i64_w, i32_w]; rfl) ?_
      refine po_ 19 (some 28) (m_ 31 1048575) rfl rfl (by kernel_rfl) (fun _ _ _ h => h) (by rfl) (by simp only [Act.put, List.setIfInBounds_toArray, List.set_cons_zero, List.set_cons_succ, i64_w, i32_w]; rfl) ?_
      refine po_ 20 (some 29) (m_ 31 2097151) rfl rfl (by kernel_rfl) (fun _ _ _ h => h) (by rfl) (by simp only [Act.put, List.setIfInBounds_toArray, List.set_cons_zero, List.set_cons_succ, i64_w, i32_w]; rfl) ?_
      refine po_ 21 (some 30) (m_ 31 4194303) rfl rfl (by kernel_rfl) (fun _ _ _ h => h) (by rfl) (by simp only [Act.put, List.setIfInBounds_toArray, List.set_cons_zero, List.set_cons_succ, i64_w, i32_w]; rfl) ?_
      refine po_ 22 (some 31) (m_ 31 8388607) rfl rfl (by kernel_rfl) (fun _ _ _ h => h) (by rfl) (by simp only [Act.put, List.setIfInBounds_toArray, List.set_cons_zero, List.set_cons_succ, i64_w, i32_w]; rfl) ?_
      refine po_ 23 (some 32) (m_ 31 16777215) rfl rfl (by kernel_rfl) (fun _ _ _ h => h) (by rfl) (by simp only [Act.put, List.setIfInBounds_toArray, List.set_cons_zero, List.set_cons_succ, i64_w, i32_w]; rfl) ?_
      refine po_ 24 (some 33) (m_ 31 33554431) rfl rfl (by kernel_rfl) (fun _ _ _ h => h) (by rfl) (by simp only [Act.put, List.setIfInBounds_toArray, List.set_cons_zero, List.set_cons_succ, i64_w, i32_w]; rfl) ?_
      refine po_ 25 (some 34) (m_ 31 67108863) rfl rfl (by kernel_rfl) (fun _ _ _ h => h) (by rfl) (by simp only [Act.put, List.setIfInBounds_toArray, List.set_cons_zero, List.set_cons_succ, i64_w, i32_w]; rfl) ?_
      refine po_ 26 (some 35) (m_ 31 134217727) rfl rfl (by kernel_rfl) (fun _ _ _ h => h) (by rfl) (by simp only [Act.put, List.setIfInBounds_toArray, List.set_cons_zero, List.set_cons_succ, i64_w, i32_w]; rfl) ?_
      refine po_ 27 (some 36) (m_ 31 268435455) rfl rfl (by kernel_rfl) (fun _ _ _ h => h) (by rfl) (by simp only [Act.put, List.setIfInBounds_toArray, List.set_cons_zero, List.set_cons_succ, i64_w, i32_w]; rfl) ?_
      refine po_ 28 (some 37) (m_ 31 536870911) rfl rfl (by kernel_rfl) (fun _ _ _ h => h) (by rfl) (by simp only [Act.put, List.setIfInBounds_toArray, List.set_cons_zero, List.set_cons_succ, i64_w, i32_w]; rfl) ?_
      refine pu_ 29 (some 38) (m_ 31 1073741823) rfl rfl (by kernel_rfl) (fun _ _ _ h => h) (by rfl) (by intro w'; go_simp; with_reducible rfl) (by simp only [Act.put, List.setIfInBounds_toArray, List.set_cons_zero, List.set_cons_succ, i64_w, i32_w]; rfl) ?_
      refine pu_ 30 (some 5) (m_ 31 2147483647) rfl rfl (by kernel_rfl) (fun _ _ _ h => h) (by rfl) (by intro w'; go_simp; with_reducible rfl) (by simp only [Act.put, List.setIfInBounds_toArray, List.set_cons_zero, List.set_cons_succ, i64_w, i32_w]; rfl) ?_
      refine done_ (by kernel_rfl) ?_
      replace HS := Lib.hid HS.out.drew
      replace HD := Lib.hid HD.out.drew
      clear hHeld
      clear c17
      generalize w1.drew = w6 at *
      go_wp2_with fail
      go_meet
      exact ⟨false, rfl, hE, HS.out, HD.out⟩
  case rest =>
    obtain ⟨E, rfl, hE, HS2, HD2⟩ := hcut
    replace HS := Lib.hid HS2
    replace HD := Lib.hid HD2
    clear HS2 HD2
    generalize wc = w9 at *
    have c19 : w9.cell? ⟨b, 19, none⟩ = some (.int .i64 s1.state) := (HS.out.blk.cell 19).trans rfl
    by_cases hst : s1.state = 0
    · rw [hst] at c19
      go_wp2
      clear c19
      by_cases k5 : s1.t.kind = 5
      · have hkind := k5
        have c2 : w9.cell? ⟨b, 2, none⟩ = some (.int .i64 5) := (HS.out.blk.cell 2).trans (by rw [show (scells k s1)[2]? = some (.int .i64 s1.t.kind) from rfl, hkind])
        have c13 : w9.cell? ⟨b, 13, none⟩ = some (.int .i64 s1.began) := (HS.out.blk.cell 13).trans rfl
        have c5 : w9.cell? ⟨b, 5, none⟩ = some (.int .i64 s1.t.a) := (HS.out.blk.cell 5).trans rfl
        refine start_ (n := 20) (S := fun w' => w'.cell? ⟨b, 2, none⟩ = some (.int .i64 5) ∧ w'.cell? ⟨b, 13, none⟩ = some (.int .i64 s1.began) ∧ w'.cell? ⟨b, 5, none⟩ = some (.int .i64 s1.t.a)) (ds := []) (m_ 20 0) (by kernel_rfl) rfl (by kernel_rfl) ⟨c2, c13, c5⟩ (fun hHeld => ?_)
        refine pu_ 0 (some 46) (m_ 20 1) rfl rfl (by kernel_rfl) (fun _ _ _ h => h) (by rfl) (by intro w'; go_simp; with_reducible rfl) (by simp only [Act.put, List.setIfInBounds_toArray, List.set_cons_zero, List.set_cons_succ, i64_w, i32_w]; rfl) ?_
        refine pu_ 1 (some 47) (m_ 20 3) rfl rfl (by kernel_rfl) (fun _ _ _ h => h) (by rfl) (by intro w'; go_simp; with_reducible rfl) (by simp only [Act.put, List.setIfInBounds_toArray, List.set_cons_zero, List.set_cons_succ, i64_w, i32_w]; rfl) ?_
        refine pu_ 2 (some 48) (m_ 20 7) rfl rfl (by kernel_rfl) (fun _ _ _ h => h) (by rfl) (by intro w'; go_simp; with_reducible rfl) (by simp only [Act.put, List.setIfInBounds_toArray, List.set_cons_zero, List.set_cons_succ, i64_w, i32_w]; rfl) ?_
        refine pu_ 3 (some 49) (m_ 20 15) rfl rfl (by kernel_rfl) (fun _ _ _ h => h) (by rfl) (by intro w'; go_simp; with_reducible rfl) (by simp only [Act.put, List.setIfInBounds_toArray, List.set_cons_zero, List.set_cons_succ, i64_w, i32_w]; rfl) ?_
        refine tk_ 4 (some 50) (m_ 20 31) rfl rfl (by kernel_rfl) (fun _ _ _ h => h) (by rfl) (by rintro w' ⟨s0, s1, s2⟩; go_simp; with_reducible rfl) hHeld (by simp only [Act.put, List.setIfInBounds_toArray, List.set_cons_zero, List.set_cons_succ, i64_w, i32_w]; rfl) ?_
        refine pu_ 5 (some 51) (m_ 20 63) rfl rfl (by kernel_rfl) (fun _ _ _ h => h) (by rfl) (by intro w'; go_simp; with_reducible rfl) (by simp only [Act.put, List.setIfInBounds_toArray, List.set_cons_zero, List.set_cons_succ, i64_w, i32_w]; rfl) ?_
        refine pu_ 6 (some 52) (m_ 20 127) rfl rfl (by kernel_rfl) (fun _ _ _ h => h) (by rfl) (by intro w'; go_simp; with_reducible rfl) (by simp only [Act.put, List.setIfInBounds_toArray, List.set_cons_zero, List.set_cons_succ, i64_w, i32_w]; rfl) ?_
        refine pu_ 7 (some 53) (m_ 20 255) rfl rfl (by kernel_rfl) (fun _ _ _ h => h) (by rfl) (by intro w'; go_simp; with_reducible rfl) (by simp only [Act.put, List.setIfInBounds_toArray, List.set_cons_zero, List.set_cons_succ, i64_w, i32_w]; rfl) ?_
        refine pu_ 8 (some 54) (m_ 20 511) rfl rfl (by kernel_rfl) (fun _ _ _ h => h) (by rfl) (by intro w'; go_simp; with_reducible rfl) (by simp only [Act.put, List.setIfInBounds_toArray, List.set_cons_zero, List.set_cons_succ, i64_w, i32_w]; rfl) ?_
        refine pu_ 9 (some 55) (m_ 20 1023) rfl rfl (by kernel_rfl) (fun _ _ _ h => h) (by rfl) (by intro w'; go_simp; with_reducible rfl) (by simp only [Act.put, List.setIfInBounds_toArray, List.set_cons_zero, List.set_cons_succ, i64_w, i32_w]; rfl) ?_
        refine pu_ 10 (some 56) (m_ 20 2047) rfl rfl (by kernel_rfl) (fun _ _ _ h => h) (by rfl) (by intro w'; go_simp; with_reducible rfl) (by simp only [Act.put, List.setIfInBounds_toArray, List.set_cons_zero, List.set_cons_succ, i64_w, i32_w]; rfl) ?_
        refine pu_ 12 (some 58) (m_ 20 6143) rfl rfl (by kernel_rfl) (fun _ _ _ h => h) (by rfl) (by intro w'; go_simp; with_reducible rfl) (by simp only [Act.put, List.setIfInBounds_toArray, List.set_cons_zero, List.set_cons_succ, i64_w, i32_w]; rfl) ?_
        refine pu_ 13 (some 59) (m_ 20 14335) rfl rfl (by kernel_rfl) (fun _ _ _ h => h) (by rfl) (by intro w'; go_simp; with_reducible rfl) (by simp only [Act.put, List.setIfInBounds_toArray, List.set_cons_zero, List.set_cons_succ, i64_w, i32_w]; rfl) ?_
        refine pu_ 14 (some 60) (m_ 20 30719) rfl rfl (by kernel_rfl) (fun _ _ _ h => h) (by rfl) (by intro w'; go_simp; with_reducible rfl) (by simp only [Act.put, List.setIfInBounds_toArray, List.set_cons_zero, List.set_cons_succ, i64_w, i32_w]; rfl) ?_
        refine pu_ 15 (some 61) (m_ 20 63487) rfl rfl (by kernel_rfl) (fun _ _ _ h => h) (by rfl) (by intro w'; go_simp; with_reducible rfl) (by simp only [Act.put, List.setIfInBounds_toArray, List.set_cons_zero, List.set_cons_succ, i64_w, i32_w]; rfl) ?_
        refine tk_ 11 (some 57) (m_ 20 65535) rfl rfl (by kernel_rfl) (fun _ _ _ h => h) (by rfl) (by rintro w' ⟨s0, s1, s2⟩; go_simp; with_reducible rfl) hHeld (by simp only [Act.put, List.setIfInBounds_toArray, List.set_cons_zero, List.set_cons_succ, i64_w, i32_w]; rfl) ?_
        refine tk_ 16 (some 62) (m_ 20 131071) rfl rfl (by kernel_rfl) (fun _ _ _ h => h) (by rfl) (by rintro w' ⟨s0, s1, s2⟩; go_simp; with_reducible rfl) hHeld (by simp only [Act.put, List.setIfInBounds_toArray, List.set_cons_zero, List.set_cons_succ, i64_w, i32_w]; rfl) ?_
        refine one_ (i := 17) (N := some 63) (m_ 20 262143) rfl rfl (by kernel_rfl) (by decide) (fun K hK => ?_)
        refine goes_ Try.func37 (by kernel_rfl) rfl #[.pointer (some ⟨b, 0, none⟩), .int .i64 s1.began, .int .i64 s1.t.a] (by rfl) rfl rfl (by simp only [List.map_toArray, List.map_cons, List.map_nil]; rfl) ?_
        with_reducible refine (over_any (w := w9.drew) HS.out.drew s1.began s1.t.a).mono ?_
        rintro e w10 ⟨rfl, hB⟩
        have hB1 := below_drew hB
        have HS1 := Lib.hid (HS.out.below hB1)
        have HD1 := Lib.hid (HD.out.trans (Stem.refl F _) (Did.of_below hB1))
        have d0_2 := bcells hB1 c2
        have d0_13 := bcells hB1 c13
        have d0_5 := bcells hB1 c5
        clear hB hB1
        refine ⟨_, rfl, ?_⟩
        refine hK.out _ _ ⟨d0_2, d0_13, d0_5⟩ (fun hHeld => ?_)
        clear hK K
        refine norm_ (a' := ?_) ?_ ?_
        rotate_left
        · show Act.put _ (some 63) _ = _
          simp only [Act.put, List.setIfInBounds_toArray, List.set_cons_zero, List.set_cons_succ, i64_w, i32_w]
          rfl
        refine pu_ 18 (some 64) (m_ 20 524287) rfl rfl (by kernel_rfl) (fun _ _ _ h => h) (by rfl) (by intro w'; go_simp; with_reducible rfl) (by simp only [Act.put, List.setIfInBounds_toArray, List.set_cons_zero, List.set_cons_succ, i64_w, i32_w]; rfl) ?_
        refine pu_ 19 (some 45) (m_ 20 1048575) rfl rfl (by kernel_rfl) (fun _ _ _ h => h) (by rfl) (by intro w'; go_simp; with_reducible rfl) (by simp only [Act.put, List.setIfInBounds_toArray, List.set_cons_zero, List.set_cons_succ, i64_w, i32_w]; rfl) ?_
        refine done_ (by kernel_rfl) ?_
        replace HS := HS1
        replace HD := HD1
        clear HS1 HD1
        clear d0_2 d0_13 d0_5
        clear hHeld
        clear c2 c13 c5
        by_cases hl : lateB s1 s1.began s1.t.a = true
        · skip
          rw [hl]
          have hv := Lib.hid (show lookS s1 = 2 by unfold lookS; rw [if_neg (by rw [hst]; decide), if_pos ⟨hkind, hl⟩])
          have f19 := HS.out.blk.free 19
          have hbl : b < w10.heap.size := HS.out.lt HS.out.mine
          have c19 : w10.cell? ⟨b, 19, none⟩ = some (.int .i64 s1.state) := (HS.out.blk.cell 19).trans rfl
          go_wp2
          go_ret
          exact ⟨by rw [hv.out]; rfl, HS.out.set 19 _ _ (by rw [hv.out]; rfl) rfl, HD.out.setCell (.inl HS.out.mine) _⟩
        · skip
          rw [show lateB s1 s1.began s1.t.a = false by simpa using hl]
          go_wp2
          have c2 : w10.cell? ⟨b, 2, none⟩ = some (.int .i64 5) := (HS.out.blk.cell 2).trans (by rw [show (scells k s1)[2]? = some (.int .i64 s1.t.kind) from rfl, hkind])
          refine start_ (n := 21) (S := fun w' => w'.cell? ⟨b, 2, none⟩ = some (.int .i64 5)) (ds := []) (m_ 21 0) (by kernel_rfl) rfl (by kernel_rfl) (c2) (fun hHeld => ?_)
          refine pu_ 0 (some 69) (m_ 21 1) rfl rfl (by kernel_rfl) (fun _ _ _ h => h) (by rfl) (by intro w'; go_simp; with_reducible rfl) (by simp only [Act.put, List.setIfInBounds_toArray, List.set_cons_zero, List.set_cons_succ, i64_w, i32_w]; rfl) ?_
          refine pu_ 1 (some 70) (m_ 21 3) rfl rfl (by kernel_rfl) (fun _ _ _ h => h) (by rfl) (by intro w'; go_simp; with_reducible rfl) (by simp only [Act.put, List.setIfInBounds_toArray, List.set_cons_zero, List.set_cons_succ, i64_w, i32_w]; rfl) ?_
          refine pu_ 2 (some 71) (m_ 21 7) rfl rfl (by kernel_rfl) (fun _ _ _ h => h) (by rfl) (by intro w'; go_simp; with_reducible rfl) (by simp only [Act.put, List.setIfInBounds_toArray, List.set_cons_zero, List.set_cons_succ, i64_w, i32_w]; rfl) ?_
          refine pu_ 3 (some 72) (m_ 21 15) rfl rfl (by kernel_rfl) (fun _ _ _ h => h) (by rfl) (by intro w'; go_simp; with_reducible rfl) (by simp only [Act.put, List.setIfInBounds_toArray, List.set_cons_zero, List.set_cons_succ, i64_w, i32_w]; rfl) ?_
          refine tk_ 4 (some 73) (m_ 21 31) rfl rfl (by kernel_rfl) (fun _ _ _ h => h) (by rfl) (by intro w' s0; go_simp; with_reducible rfl) hHeld (by simp only [Act.put, List.setIfInBounds_toArray, List.set_cons_zero, List.set_cons_succ, i64_w, i32_w]; rfl) ?_
          refine pu_ 5 (some 74) (m_ 21 63) rfl rfl (by kernel_rfl) (fun _ _ _ h => h) (by rfl) (by intro w'; go_simp; with_reducible rfl) (by simp only [Act.put, List.setIfInBounds_toArray, List.set_cons_zero, List.set_cons_succ, i64_w, i32_w]; rfl) ?_
          refine pu_ 6 (some 75) (m_ 21 127) rfl rfl (by kernel_rfl) (fun _ _ _ h => h) (by rfl) (by intro w'; go_simp; with_reducible rfl) (by simp only [Act.put, List.setIfInBounds_toArray, List.set_cons_zero, List.set_cons_succ, i64_w, i32_w]; rfl) ?_
          refine po_ 7 (some 76) (m_ 21 255) rfl rfl (by kernel_rfl) (fun _ _ _ h => h) (by rfl) (by simp only [Act.put, List.setIfInBounds_toArray, List.set_cons_zero, List.set_cons_succ, i64_w, i32_w]; rfl) ?_
          refine po_ 8 (some 77) (m_ 21 511) rfl rfl (by kernel_rfl) (fun _ _ _ h => h) (by rfl) (by simp only [Act.put, List.setIfInBounds_toArray, List.set_cons_zero, List.set_cons_succ, i64_w, i32_w]; rfl) ?_
          refine po_ 9 (some 78) (m_ 21 1023) rfl rfl (by kernel_rfl) (fun _ _ _ h => h) (by rfl) (by simp only [Act.put, List.setIfInBounds_toArray, List.set_cons_zero, List.set_cons_succ, i64_w, i32_w]; rfl) ?_
          refine po_ 10 (some 79) (m_ 21 2047) rfl rfl (by kernel_rfl) (fun _ _ _ h => h) (by rfl) (by simp only [Act.put, List.setIfInBounds_toArray, List.set_cons_zero, List.set_cons_succ, i64_w, i32_w]; rfl) ?_
          refine po_ 11 (some 80) (m_ 21 4095) rfl rfl (by kernel_rfl) (fun _ _ _ h => h) (by rfl) (by simp only [Act.put, List.setIfInBounds_toArray, List.set_cons_zero, List.set_cons_succ, i64_w, i32_w]; rfl) ?_
          refine po_ 12 (some 81) (m_ 21 8191) rfl rfl (by kernel_rfl) (fun _ _ _ h => h) (by rfl) (by simp only [Act.put, List.setIfInBounds_toArray, List.set_cons_zero, List.set_cons_succ, i64_w, i32_w]; rfl) ?_
          refine po_ 13 (some 82) (m_ 21 16383) rfl rfl (by kernel_rfl) (fun _ _ _ h => h) (by rfl) (by simp only [Act.put, List.setIfInBounds_toArray, List.set_cons_zero, List.set_cons_succ, i64_w, i32_w]; rfl) ?_
          refine po_ 14 (some 83) (m_ 21 32767) rfl rfl (by kernel_rfl) (fun _ _ _ h => h) (by rfl) (by simp only [Act.put, List.setIfInBounds_toArray, List.set_cons_zero, List.set_cons_succ, i64_w, i32_w]; rfl) ?_
          refine po_ 15 (some 84) (m_ 21 65535) rfl rfl (by kernel_rfl) (fun _ _ _ h => h) (by rfl) (by simp only [Act.put, List.setIfInBounds_toArray, List.set_cons_zero, List.set_cons_succ, i64_w, i32_w]; rfl) ?_
          refine po_ 16 (some 85) (m_ 21 131071) rfl rfl (by kernel_rfl) (fun _ _ _ h => h) (by rfl) (by simp only [Act.put, List.setIfInBounds_toArray, List.set_cons_zero, List.set_cons_succ, i64_w, i32_w]; rfl) ?_
          refine po_ 17 (some 86) (m_ 21 262143) rfl rfl (by kernel_rfl) (fun _ _ _ h => h) (by rfl) (by simp only [Act.put, List.setIfInBounds_toArray, List.set_cons_zero, List.set_cons_succ, i64_w, i32_w]; rfl) ?_
          refine po_ 18 (some 87) (m_ 21 524287) rfl rfl (by kernel_rfl) (fun _ _ _ h => h) (by rfl) (by simp only [Act.put, List.setIfInBounds_toArray, List.set_cons_zero, List.set_cons_succ, i64_w, i32_w]; rfl) ?_
          refine pu_ 19 (some 88) (m_ 21 1048575) rfl rfl (by kernel_rfl) (fun _ _ _ h => h) (by rfl) (by intro w'; go_simp; with_reducible rfl) (by simp only [Act.put, List.setIfInBounds_toArray, List.set_cons_zero, List.set_cons_succ, i64_w, i32_w]; rfl) ?_
          refine pu_ 20 (some 68) (m_ 21 2097151) rfl rfl (by kernel_rfl) (fun _ _ _ h => h) (by rfl) (by intro w'; go_simp; with_reducible rfl) (by simp only [Act.put, List.setIfInBounds_toArray, List.set_cons_zero, List.set_cons_succ, i64_w, i32_w]; rfl) ?_
          refine done_ (by kernel_rfl) ?_
          replace HS := Lib.hid HS.out.drew
          replace HD := Lib.hid HD.out.drew
          clear hHeld
          clear c2
          generalize w10.drew = w11 at *
          go_wp2
          have c2 : w11.cell? ⟨b, 2, none⟩ = some (.int .i64 5) := (HS.out.blk.cell 2).trans (by rw [show (scells k s1)[2]? = some (.int .i64 s1.t.kind) from rfl, hkind])
          refine start_ (n := 30) (S := fun w' => w'.cell? ⟨b, 2, none⟩ = some (.int .i64 5)) (ds := []) (m_ 30 0) (by kernel_rfl) rfl (by kernel_rfl) (c2) (fun hHeld => ?_)
          refine pu_ 0 (some 90) (m_ 30 1) rfl rfl (by kernel_rfl) (fun _ _ _ h => h) (by rfl) (by intro w'; go_simp; with_reducible rfl) (by simp only [Act.put, List.setIfInBounds_toArray, List.set_cons_zero, List.set_cons_succ, i64_w, i32_w]; rfl) ?_
          refine pu_ 1 (some 91) (m_ 30 3) rfl rfl (by kernel_rfl) (fun _ _ _ h => h) (by rfl) (by intro w'; go_simp; with_reducible rfl) (by simp only [Act.put, List.setIfInBounds_toArray, List.set_cons_zero, List.set_cons_succ, i64_w, i32_w]; rfl) ?_
          refine pu_ 2 (some 92) (m_ 30 7) rfl rfl (by kernel_rfl) (fun _ _ _ h => h) (by rfl) (by intro w'; go_simp; with_reducible rfl) (by simp only [Act.put, List.setIfInBounds_toArray, List.set_cons_zero, List.set_cons_succ, i64_w, i32_w]; rfl) ?_
          refine pu_ 3 (some 93) (m_ 30 15) rfl rfl (by kernel_rfl) (fun _ _ _ h => h) (by rfl) (by intro w'; go_simp; with_reducible rfl) (by simp only [Act.put, List.setIfInBounds_toArray, List.set_cons_zero, List.set_cons_succ, i64_w, i32_w]; rfl) ?_
          refine tk_ 4 (some 94) (m_ 30 31) rfl rfl (by kernel_rfl) (fun _ _ _ h => h) (by rfl) (by intro w' s0; go_simp; with_reducible rfl) hHeld (by simp only [Act.put, List.setIfInBounds_toArray, List.set_cons_zero, List.set_cons_succ, i64_w, i32_w]; rfl) ?_
          refine pu_ 5 (some 95) (m_ 30 63) rfl rfl (by kernel_rfl) (fun _ _ _ h => h) (by rfl) (by intro w'; go_simp; with_reducible rfl) (by simp only [Act.put, List.setIfInBounds_toArray, List.set_cons_zero, List.set_cons_succ, i64_w, i32_w]; rfl) ?_
          refine pu_ 6 (some 96) (m_ 30 127) rfl rfl (by kernel_rfl) (fun _ _ _ h => h) (by rfl) (by intro w'; go_simp; with_reducible rfl) (by simp only [Act.put, List.setIfInBounds_toArray, List.set_cons_zero, List.set_cons_succ, i64_w, i32_w]; rfl) ?_
          refine pu_ 7 (some 97) (m_ 30 255) rfl rfl (by kernel_rfl) (fun _ _ _ h => h) (by rfl) (by intro w'; go_simp; with_reducible rfl) (by simp only [Act.put, List.setIfInBounds_toArray, List.set_cons_zero, List.set_cons_succ, i64_w, i32_w]; rfl) ?_
          refine pu_ 8 (some 98) (m_ 30 511) rfl rfl (by kernel_rfl) (fun _ _ _ h => h) (by rfl) (by intro w'; go_simp; with_reducible rfl) (by simp only [Act.put, List.setIfInBounds_toArray, List.set_cons_zero, List.set_cons_succ, i64_w, i32_w]; rfl) ?_
          refine pu_ 9 (some 99) (m_ 30 1023) rfl rfl (by kernel_rfl) (fun _ _ _ h => h) (by rfl) (by intro w'; go_simp; with_reducible rfl) (by simp only [Act.put, List.setIfInBounds_toArray, List.set_cons_zero, List.set_cons_succ, i64_w, i32_w]; rfl) ?_
          refine pu_ 10 (some 100) (m_ 30 2047) rfl rfl (by kernel_rfl) (fun _ _ _ h => h) (by rfl) (by intro w'; go_simp; with_reducible rfl) (by simp only [Act.put, List.setIfInBounds_toArray, List.set_cons_zero, List.set_cons_succ, i64_w, i32_w]; rfl) ?_
          refine tk_ 11 (some 101) (m_ 30 4095) rfl rfl (by kernel_rfl) (fun _ _ _ h => h) (by rfl) (by intro w' s0; go_simp; with_reducible rfl) hHeld (by simp only [Act.put, List.setIfInBounds_toArray, List.set_cons_zero, List.set_cons_succ, i64_w, i32_w]; rfl) ?_
          refine pu_ 12 (some 102) (m_ 30 8191) rfl rfl (by kernel_rfl) (fun _ _ _ h => h) (by rfl) (by intro w'; go_simp; with_reducible rfl) (by simp only [Act.put, List.setIfInBounds_toArray, List.set_cons_zero, List.set_cons_succ, i64_w, i32_w]; rfl) ?_
          refine pu_ 13 (some 103) (m_ 30 16383) rfl rfl (by kernel_rfl) (fun _ _ _ h => h) (by rfl) (by intro w'; go_simp; with_reducible rfl) (by simp only [Act.put, List.setIfInBounds_toArray, List.set_cons_zero, List.set_cons_succ, i64_w, i32_w]; rfl) ?_
          refine po_ 14 (some 104) (m_ 30 32767) rfl rfl (by kernel_rfl) (fun _ _ _ h => h) (by rfl) (by simp only [Act.put, List.setIfInBounds_toArray, List.set_cons_zero, List.set_cons_succ, i64_w, i32_w]; rfl) ?_
          refine po_ 15 (some 105) (m_ 30 65535) rfl rfl (by kernel_rfl) (fun _ _ _ h => h) (by rfl) (by simp only [Act.put, List.setIfInBounds_toArray, List.set_cons_zero, List.set_cons_succ, i64_w, i32_w]; rfl) ?_
          refine po_ 16 (some 106) (m_ 30 131071) rfl rfl (by kernel_rfl) (fun _ _ _ h => h) (by rfl) (by simp only [Act.put, List.setIfInBounds_toArray, List.set_cons_zero, List.set_cons_succ, i64_w, i32_w]; rfl) ?_
          refine po_ 17 (some 107) (m_ 30 262143) rfl rfl (by kernel_rfl) (fun _ _ _ h => h) (by rfl) (by simp only [Act.put, List.setIfInBounds_toArray, List.set_cons_zero, List.set_cons_succ, i64_w, i32_w]; rfl) ?_
          refine po_ 18 (some 108) (m_ 30 524287) rfl rfl (by kernel_rfl) (fun _ _ _ h => h) (by rfl) (by simp only [Act.put, List.setIfInBounds_toArray, List.set_cons_zero, List.set_cons_succ, i64_w, i32_w]; rfl) ?_
          refine po_ 19 (some 109) (m_ 30 1048575) rfl rfl (by kernel_rfl) (fun _ _ _ h => h) (by rfl) (by simp only [Act.put, List.setIfInBounds_toArray, List.set_cons_zero, List.set_cons_succ, i64_w, i32_w]; rfl) ?_
          refine po_ 20 (some 110) (m_ 30 2097151) rfl rfl (by kernel_rfl) (fun _ _ _ h => h) (by rfl) (by simp only [Act.put, List.setIfInBounds_toArray, List.set_cons_zero, List.set_cons_succ, i64_w, i32_w]; rfl) ?_
          refine po_ 21 (some 111) (m_ 30 4194303) rfl rfl (by kernel_rfl) (fun _ _ _ h => h) (by rfl) (by simp only [Act.put, List.setIfInBounds_toArray, List.set_cons_zero, List.set_cons_succ, i64_w, i32_w]; rfl) ?_
          refine po_ 22 (some 112) (m_ 30 8388607) rfl rfl (by kernel_rfl) (fun _ _ _ h => h) (by rfl) (by simp only [Act.put, List.setIfInBounds_toArray, List.set_cons_zero, List.set_cons_succ, i64_w, i32_w]; rfl) ?_
          refine po_ 23 (some 113) (m_ 30 16777215) rfl rfl (by kernel_rfl) (fun _ _ _ h => h) (by rfl) (by simp only [Act.put, List.setIfInBounds_toArray, List.set_cons_zero, List.set_cons_succ, i64_w, i32_w]; rfl) ?_
          refine pu_ 24 (some 114) (m_ 30 33554431) rfl rfl (by kernel_rfl) (fun _ _ _ h => h) (by rfl) (by intro w'; go_simp; with_reducible rfl) (by simp only [Act.put, List.setIfInBounds_toArray, List.set_cons_zero, List.set_cons_succ, i64_w, i32_w]; rfl) ?_
          refine pu_ 25 (some 115) (m_ 30 67108863) rfl rfl (by kernel_rfl) (fun _ _ _ h => h) (by rfl) (by intro w'; go_simp; with_reducible rfl) (by simp only [Act.put, List.setIfInBounds_toArray, List.set_cons_zero, List.set_cons_succ, i64_w, i32_w]; rfl) ?_
          refine pu_ 26 (some 116) (m_ 30 134217727) rfl rfl (by kernel_rfl) (fun _ _ _ h => h) (by rfl) (by intro w'; go_simp; with_reducible rfl) (by simp only [Act.put, List.setIfInBounds_toArray, List.set_cons_zero, List.set_cons_succ, i64_w, i32_w]; rfl) ?_
          refine pu_ 27 (some 117) (m_ 30 268435455) rfl rfl (by kernel_rfl) (fun _ _ _ h => h) (by rfl) (by intro w'; go_simp; with_reducible rfl) (by simp only [Act.put, List.setIfInBounds_toArray, List.set_cons_zero, List.set_cons_succ, i64_w, i32_w]; rfl) ?_
          refine pu_ 28 (some 118) (m_ 30 536870911) rfl rfl (by kernel_rfl) (fun _ _ _ h => h) (by rfl) (by intro w'; go_simp; with_reducible rfl) (by simp only [Act.put, List.setIfInBounds_toArray, List.set_cons_zero, List.set_cons_succ, i64_w, i32_w]; rfl) ?_
          refine pu_ 29 (some 89) (m_ 30 1073741823) rfl rfl (by kernel_rfl) (fun _ _ _ h => h) (by rfl) (by intro w'; go_simp; with_reducible rfl) (by simp only [Act.put, List.setIfInBounds_toArray, List.set_cons_zero, List.set_cons_succ, i64_w, i32_w]; rfl) ?_
          refine done_ (by kernel_rfl) ?_
          replace HS := Lib.hid HS.out.drew
          replace HD := Lib.hid HD.out.drew
          clear hHeld
          clear c2
          generalize w11.drew = w12 at *
          cases E with
          | false =>
            have hv := Lib.hid (show lookS s1 = s1.state by rw [hst]; unfold lookS; rw [if_neg (by rw [hst]; decide), if_neg (fun h => hl h.2), if_neg (by rw [hkind]; decide), if_neg (by rw [hkind]; omega), if_neg (by rw [hE.out]; decide)])
            have c19 : w12.cell? ⟨b, 19, none⟩ = some (.int .i64 s1.state) := (HS.out.blk.cell 19).trans rfl
            go_wp2
            go_ret
            have he : ({ s1 with state := lookS s1 } : Sg) = s1 := by rw [hv.out]
            rw [he]
            exact ⟨by rw [hv.out]; first | rfl | (rw [hst]; rfl), HS.out, HD.out⟩
          | true =>
            have hv := Lib.hid (show lookS s1 = 1 by unfold lookS; rw [if_neg (by rw [hst]; decide), if_neg (fun h => hl h.2), if_neg (by rw [hkind]; decide), if_neg (by rw [hkind]; omega), if_pos hE.out])
            have f19 := HS.out.blk.free 19
            have hbl : b < w12.heap.size := HS.out.lt HS.out.mine
            have c19 : w12.cell? ⟨b, 19, none⟩ = some (.int .i64 s1.state) := (HS.out.blk.cell 19).trans rfl
            go_wp2
            go_ret
            exact ⟨by rw [hv.out]; rfl, HS.out.set 19 _ _ (by rw [hv.out]; rfl) rfl, HD.out.setCell (.inl HS.out.mine) _⟩
      · skip
        by_cases k4 : s1.t.kind = 4
        · have hkind := k4
          have c2 : w9.cell? ⟨b, 2, none⟩ = some (.int .i64 4) := (HS.out.blk.cell 2).trans (by rw [show (scells k s1)[2]? = some (.int .i64 s1.t.kind) from rfl, hkind])
          refine start_ (n := 20) (S := fun w' => w'.cell? ⟨b, 2, none⟩ = some (.int .i64 4)) (ds := []) (m_ 20 0) (by kernel_rfl) rfl (by kernel_rfl) (c2) (fun hHeld => ?_)
          refine pu_ 0 (some 46) (m_ 20 1) rfl rfl (by kernel_rfl) (fun _ _ _ h => h) (by rfl) (by intro w'; go_simp; with_reducible rfl) (by simp only [Act.put, List.setIfInBounds_toArray, List.set_cons_zero, List.set_cons_succ, i64_w, i32_w]; rfl) ?_
          refine pu_ 1 (some 47) (m_ 20 3) rfl rfl (by kernel_rfl) (fun _ _ _ h => h) (by rfl) (by intro w'; go_simp; with_reducible rfl) (by simp only [Act.put, List.setIfInBounds_toArray, List.set_cons_zero, List.set_cons_succ, i64_w, i32_w]; rfl) ?_
          refine pu_ 2 (some 48) (m_ 20 7) rfl rfl (by kernel_rfl) (fun _ _ _ h => h) (by rfl) (by intro w'; go_simp; with_reducible rfl) (by simp only [Act.put, List.setIfInBounds_toArray, List.set_cons_zero, List.set_cons_succ, i64_w, i32_w]; rfl) ?_
          refine pu_ 3 (some 49) (m_ 20 15) rfl rfl (by kernel_rfl) (fun _ _ _ h => h) (by rfl) (by intro w'; go_simp; with_reducible rfl) (by simp only [Act.put, List.setIfInBounds_toArray, List.set_cons_zero, List.set_cons_succ, i64_w, i32_w]; rfl) ?_
          refine tk_ 4 (some 50) (m_ 20 31) rfl rfl (by kernel_rfl) (fun _ _ _ h => h) (by rfl) (by intro w' s0; go_simp; with_reducible rfl) hHeld (by simp only [Act.put, List.setIfInBounds_toArray, List.set_cons_zero, List.set_cons_succ, i64_w, i32_w]; rfl) ?_
          refine pu_ 5 (some 51) (m_ 20 63) rfl rfl (by kernel_rfl) (fun _ _ _ h => h) (by rfl) (by intro w'; go_simp; with_reducible rfl) (by simp only [Act.put, List.setIfInBounds_toArray, List.set_cons_zero, List.set_cons_succ, i64_w, i32_w]; rfl) ?_
          refine pu_ 6 (some 52) (m_ 20 127) rfl rfl (by kernel_rfl) (fun _ _ _ h => h) (by rfl) (by intro w'; go_simp; with_reducible rfl) (by simp only [Act.put, List.setIfInBounds_toArray, List.set_cons_zero, List.set_cons_succ, i64_w, i32_w]; rfl) ?_
          refine po_ 7 (some 53) (m_ 20 255) rfl rfl (by kernel_rfl) (fun _ _ _ h => h) (by rfl) (by simp only [Act.put, List.setIfInBounds_toArray, List.set_cons_zero, List.set_cons_succ, i64_w, i32_w]; rfl) ?_
          refine po_ 8 (some 54) (m_ 20 511) rfl rfl (by kernel_rfl) (fun _ _ _ h => h) (by rfl) (by simp only [Act.put, List.setIfInBounds_toArray, List.set_cons_zero, List.set_cons_succ, i64_w, i32_w]; rfl) ?_
          refine po_ 9 (some 55) (m_ 20 1023) rfl rfl (by kernel_rfl) (fun _ _ _ h => h) (by rfl) (by simp only [Act.put, List.setIfInBounds_toArray, List.set_cons_zero, List.set_cons_succ, i64_w, i32_w]; rfl) ?_
          refine po_ 10 (some 56) (m_ 20 2047) rfl rfl (by kernel_rfl) (fun _ _ _ h => h) (by rfl) (by simp only [Act.put, List.setIfInBounds_toArray, List.set_cons_zero, List.set_cons_succ, i64_w, i32_w]; rfl) ?_
          refine po_ 11 (some 57) (m_ 20 4095) rfl rfl (by kernel_rfl) (fun _ _ _ h => h) (by rfl) (by simp only [Act.put, List.setIfInBounds_toArray, List.set_cons_zero, List.set_cons_succ, i64_w, i32_w]; rfl) ?_
          refine po_ 12 (some 58) (m_ 20 8191) rfl rfl (by kernel_rfl) (fun _ _ _ h => h) (by rfl) (by simp only [Act.put, List.setIfInBounds_toArray, List.set_cons_zero, List.set_cons_succ, i64_w, i32_w]; rfl) ?_
          refine po_ 13 (some 59) (m_ 20 16383) rfl rfl (by kernel_rfl) (fun _ _ _ h => h) (by rfl) (by simp only [Act.put, List.setIfInBounds_toArray, List.set_cons_zero, List.set_cons_succ, i64_w, i32_w]; rfl) ?_
          refine po_ 14 (some 60) (m_ 20 32767) rfl rfl (by kernel_rfl) (fun _ _ _ h => h) (by rfl) (by simp only [Act.put, List.setIfInBounds_toArray, List.set_cons_zero, List.set_cons_succ, i64_w, i32_w]; rfl) ?_
          refine po_ 15 (some 61) (m_ 20 65535) rfl rfl (by kernel_rfl) (fun _ _ _ h => h) (by rfl) (by simp only [Act.put, List.setIfInBounds_toArray, List.set_cons_zero, List.set_cons_succ, i64_w, i32_w]; rfl) ?_
          refine po_ 16 (some 62) (m_ 20 131071) rfl rfl (by kernel_rfl) (fun _ _ _ h => h) (by rfl) (by simp only [Act.put, List.setIfInBounds_toArray, List.set_cons_zero, List.set_cons_succ, i64_w, i32_w]; rfl) ?_
          refine po_ 17 (some 63) (m_ 20 262143) rfl rfl (by kernel_rfl) (fun _ _ _ h => h) (by rfl) (by simp only [Act.put, List.setIfInBounds_toArray, List.set_cons_zero, List.set_cons_succ, i64_w, i32_w]; rfl) ?_
          refine pu_ 18 (some 64) (m_ 20 524287) rfl rfl (by kernel_rfl) (fun _ _ _ h => h) (by rfl) (by intro w'; go_simp; with_reducible rfl) (by simp only [Act.put, List.setIfInBounds_toArray, List.set_cons_zero, List.set_cons_succ, i64_w, i32_w]; rfl) ?_
          refine pu_ 19 (some 45) (m_ 20 1048575) rfl rfl (by kernel_rfl) (fun _ _ _ h => h) (by rfl) (by intro w'; go_simp; with_reducible rfl) (by simp only [Act.put, List.setIfInBounds_toArray, List.set_cons_zero, List.set_cons_succ, i64_w, i32_w]; rfl) ?_
          refine done_ (by kernel_rfl) ?_
          replace HS := Lib.hid HS.out.drew
          replace HD := Lib.hid HD.out.drew
          clear hHeld
          clear c2
          generalize w9.drew = w13 at *
          go_wp2
          have c2 : w13.cell? ⟨b, 2, none⟩ = some (.int .i64 4) := (HS.out.blk.cell 2).trans (by rw [show (scells k s1)[2]? = some (.int .i64 s1.t.kind) from rfl, hkind])
          have c13 : w13.cell? ⟨b, 13, none⟩ = some (.int .i64 s1.began) := (HS.out.blk.cell 13).trans rfl
          have c5 : w13.cell? ⟨b, 5, none⟩ = some (.int .i64 s1.t.a) := (HS.out.blk.cell 5).trans rfl
          refine start_ (n := 21) (S := fun w' => w'.cell? ⟨b, 2, none⟩ = some (.int .i64 4) ∧ w'.cell? ⟨b, 13, none⟩ = some (.int .i64 s1.began) ∧ w'.cell? ⟨b, 5, none⟩ = some (.int .i64 s1.t.a)) (ds := []) (m_ 21 0) (by kernel_rfl) rfl (by kernel_rfl) ⟨c2, c13, c5⟩ (fun hHeld => ?_)
          refine pu_ 0 (some 69) (m_ 21 1) rfl rfl (by kernel_rfl) (fun _ _ _ h => h) (by rfl) (by intro w'; go_simp; with_reducible rfl) (by simp only [Act.put, List.setIfInBounds_toArray, List.set_cons_zero, List.set_cons_succ, i64_w, i32_w]; rfl) ?_
          refine pu_ 1 (some 70) (m_ 21 3) rfl rfl (by kernel_rfl) (fun _ _ _ h => h) (by rfl) (by intro w'; go_simp; with_reducible rfl) (by simp only [Act.put, List.setIfInBounds_toArray, List.set_cons_zero, List.set_cons_succ, i64_w, i32_w]; rfl) ?_
          refine pu_ 2 (some 71) (m_ 21 7) rfl rfl (by kernel_rfl) (fun _ _ _ h => h) (by rfl) (by intro w'; go_simp; with_reducible rfl) (by simp only [Act.put, List.setIfInBounds_toArray, List.set_cons_zero, List.set_cons_succ, i64_w, i32_w]; rfl) ?_
          refine pu_ 3 (some 72) (m_ 21 15) rfl rfl (by kernel_rfl) (fun _ _ _ h => h) (by rfl) (by intro w'; go_simp; with_reducible rfl) (by simp only [Act.put, List.setIfInBounds_toArray, List.set_cons_zero, List.set_cons_succ, i64_w, i32_w]; rfl) ?_
          refine tk_ 4 (some 73) (m_ 21 31) rfl rfl (by kernel_rfl) (fun _ _ _ h => h) (by rfl) (by rintro w' ⟨s0, s1, s2⟩; go_simp; with_reducible rfl) hHeld (by simp only [Act.put, List.setIfInBounds_toArray, List.set_cons_zero, List.set_cons_succ, i64_w, i32_w]; rfl) ?_
          refine pu_ 5 (some 74) (m_ 21 63) rfl rfl (by kernel_rfl) (fun _ _ _ h => h) (by rfl) (by intro w'; go_simp; with_reducible rfl) (by simp only [Act.put, List.setIfInBounds_toArray, List.set_cons_zero, List.set_cons_succ, i64_w, i32_w]; rfl) ?_
          refine pu_ 6 (some 75) (m_ 21 127) rfl rfl (by kernel_rfl) (fun _ _ _ h => h) (by rfl) (by intro w'; go_simp; with_reducible rfl) (by simp only [Act.put, List.setIfInBounds_toArray, List.set_cons_zero, List.set_cons_succ, i64_w, i32_w]; rfl) ?_
          refine pu_ 7 (some 76) (m_ 21 255) rfl rfl (by kernel_rfl) (fun _ _ _ h => h) (by rfl) (by intro w'; go_simp; with_reducible rfl) (by simp only [Act.put, List.setIfInBounds_toArray, List.set_cons_zero, List.set_cons_succ, i64_w, i32_w]; rfl) ?_
          refine pu_ 8 (some 77) (m_ 21 511) rfl rfl (by kernel_rfl) (fun _ _ _ h => h) (by rfl) (by intro w'; go_simp; with_reducible rfl) (by simp only [Act.put, List.setIfInBounds_toArray, List.set_cons_zero, List.set_cons_succ, i64_w, i32_w]; rfl) ?_
          refine pu_ 9 (some 78) (m_ 21 1023) rfl rfl (by kernel_rfl) (fun _ _ _ h => h) (by rfl) (by intro w'; go_simp; with_reducible rfl) (by simp only [Act.put, List.setIfInBounds_toArray, List.set_cons_zero, List.set_cons_succ, i64_w, i32_w]; rfl) ?_
          refine pu_ 10 (some 79) (m_ 21 2047) rfl rfl (by kernel_rfl) (fun _ _ _ h => h) (by rfl) (by intro w'; go_simp; with_reducible rfl) (by simp only [Act.put, List.setIfInBounds_toArray, List.set_cons_zero, List.set_cons_succ, i64_w, i32_w]; rfl) ?_
          refine pu_ 12 (some 81) (m_ 21 6143) rfl rfl (by kernel_rfl) (fun _ _ _ h => h) (by rfl) (by intro w'; go_simp; with_reducible rfl) (by simp only [Act.put, List.setIfInBounds_toArray, List.set_cons_zero, List.set_cons_succ, i64_w, i32_w]; rfl) ?_
          refine pu_ 13 (some 82) (m_ 21 14335) rfl rfl (by kernel_rfl) (fun _ _ _ h => h) (by rfl) (by intro w'; go_simp; with_reducible rfl) (by simp only [Act.put, List.setIfInBounds_toArray, List.set_cons_zero, List.set_cons_succ, i64_w, i32_w]; rfl) ?_
          refine pu_ 14 (some 83) (m_ 21 30719) rfl rfl (by kernel_rfl) (fun _ _ _ h => h) (by rfl) (by intro w'; go_simp; with_reducible rfl) (by simp only [Act.put, List.setIfInBounds_toArray, List.set_cons_zero, List.set_cons_succ, i64_w, i32_w]; rfl) ?_
          refine pu_ 15 (some 84) (m_ 21 63487) rfl rfl (by kernel_rfl) (fun _ _ _ h => h) (by rfl) (by intro w'; go_simp; with_reducible rfl) (by simp only [Act.put, List.setIfInBounds_toArray, List.set_cons_zero, List.set_cons_succ, i64_w, i32_w]; rfl) ?_
          refine tk_ 11 (some 80) (m_ 21 65535) rfl rfl (by kernel_rfl) (fun _ _ _ h => h) (by rfl) (by rintro w' ⟨s0, s1, s2⟩; go_simp; with_reducible rfl) hHeld (by simp only [Act.put, List.setIfInBounds_toArray, List.set_cons_zero, List.set_cons_succ, i64_w, i32_w]; rfl) ?_
          refine tk_ 16 (some 85) (m_ 21 131071) rfl rfl (by kernel_rfl) (fun _ _ _ h => h) (by rfl) (by rintro w' ⟨s0, s1, s2⟩; go_simp; with_reducible rfl) hHeld (by simp only [Act.put, List.setIfInBounds_toArray, List.set_cons_zero, List.set_cons_succ, i64_w, i32_w]; rfl) ?_
          refine one_ (i := 17) (N := some 86) (m_ 21 262143) rfl rfl (by kernel_rfl) (by decide) (fun K hK => ?_)
          refine goes_ Try.func37 (by kernel_rfl) rfl #[.pointer (some ⟨b, 0, none⟩), .int .i64 s1.began, .int .i64 s1.t.a] (by rfl) rfl rfl (by simp only [List.map_toArray, List.map_cons, List.map_nil]; rfl) ?_
          with_reducible refine (over_any (w := w13.drew) HS.out.drew s1.began s1.t.a).mono ?_
          rintro e w14 ⟨rfl, hB⟩
          have hB1 := below_drew hB
          have HS1 := Lib.hid (HS.out.below hB1)
          have HD1 := Lib.hid (HD.out.trans (Stem.refl F _) (Did.of_below hB1))
          have d0_2 := bcells hB1 c2
          have d0_13 := bcells hB1 c13
          have d0_5 := bcells hB1 c5
          clear hB hB1
          refine ⟨_, rfl, ?_⟩
          refine hK.out _ _ ⟨d0_2, d0_13, d0_5⟩ (fun hHeld => ?_)
          clear hK K
          refine norm_ (a' := ?_) ?_ ?_
          rotate_left
          · show Act.put _ (some 86) _ = _
            simp only [Act.put, List.setIfInBounds_toArray, List.set_cons_zero, List.set_cons_succ, i64_w, i32_w]
            rfl
          refine pu_ 18 (some 87) (m_ 21 524287) rfl rfl (by kernel_rfl) (fun _ _ _ h => h) (by rfl) (by intro w'; go_simp; with_reducible rfl) (by simp only [Act.put, List.setIfInBounds_toArray, List.set_cons_zero, List.set_cons_succ, i64_w, i32_w]; rfl) ?_
          refine pu_ 19 (some 88) (m_ 21 1048575) rfl rfl (by kernel_rfl) (fun _ _ _ h => h) (by rfl) (by intro w'; go_simp; with_reducible rfl) (by simp only [Act.put, List.setIfInBounds_toArray, List.set_cons_zero, List.set_cons_succ, i64_w, i32_w]; rfl) ?_
          refine pu_ 20 (some 68) (m_ 21 2097151) rfl rfl (by kernel_rfl) (fun _ _ _ h => h) (by rfl) (by intro w'; go_simp; with_reducible rfl) (by simp only [Act.put, List.setIfInBounds_toArray, List.set_cons_zero, List.set_cons_succ, i64_w, i32_w]; rfl) ?_
          refine done_ (by kernel_rfl) ?_
          replace HS := HS1
          replace HD := HD1
          clear HS1 HD1
          clear d0_2 d0_13 d0_5
          clear hHeld
          clear c2 c13 c5
          by_cases hl : lateB s1 s1.began s1.t.a = true
          · skip
            rw [hl]
            go_wp2
            have c2 : w14.cell? ⟨b, 2, none⟩ = some (.int .i64 4) := (HS.out.blk.cell 2).trans (by rw [show (scells k s1)[2]? = some (.int .i64 s1.t.kind) from rfl, hkind])
            refine start_ (n := 30) (S := fun w' => w'.cell? ⟨b, 2, none⟩ = some (.int .i64 4)) (ds := []) (m_ 30 0) (by kernel_rfl) rfl (by kernel_rfl) (c2) (fun hHeld => ?_)
            refine pu_ 0 (some 90) (m_ 30 1) rfl rfl (by kernel_rfl) (fun _ _ _ h => h) (by rfl) (by intro w'; go_simp; with_reducible rfl) (by simp only [Act.put, List.setIfInBounds_toArray, List.set_cons_zero, List.set_cons_succ, i64_w, i32_w]; rfl) ?_
            refine pu_ 1 (some 91) (m_ 30 3) rfl rfl (by kernel_rfl) (fun _ _ _ h => h) (by rfl) (by intro w'; go_simp; with_reducible rfl) (by simp only [Act.put, List.setIfInBounds_toArray, List.set_cons_zero, List.set_cons_succ, i64_w, i32_w]; rfl) ?_
            refine pu_ 2 (some 92) (m_ 30 7) rfl rfl (by kernel_rfl) (fun _ _ _ h => h) (by rfl) (by intro w'; go_simp; with_reducible rfl) (by simp only [Act.put, List.setIfInBounds_toArray, List.set_cons_zero, List.set_cons_succ, i64_w, i32_w]; rfl) ?_
            refine pu_ 3 (some 93) (m_ 30 15) rfl rfl (by kernel_rfl) (fun _ _ _ h => h) (by rfl) (by intro w'; go_simp; with_reducible rfl) (by simp only [Act.put, List.setIfInBounds_toArray, List.set_cons_zero, List.set_cons_succ, i64_w, i32_w]; rfl) ?_
            refine tk_ 4 (some 94) (m_ 30 31) rfl rfl (by kernel_rfl) (fun _ _ _ h => h) (by rfl) (by intro w' s0; go_simp; with_reducible rfl) hHeld (by simp only [Act.put, List.setIfInBounds_toArray, List.set_cons_zero, List.set_cons_succ, i64_w, i32_w]; rfl) ?_
            refine pu_ 5 (some 95) (m_ 30 63) rfl rfl (by kernel_rfl) (fun _ _ _ h => h) (by rfl) (by intro w'; go_simp; with_reducible rfl) (by simp only [Act.put, List.setIfInBounds_toArray, List.set_cons_zero, List.set_cons_succ, i64_w, i32_w]; rfl) ?_
            refine pu_ 6 (some 96) (m_ 30 127) rfl rfl (by kernel_rfl) (fun _ _ _ h => h) (by rfl) (by intro w'; go_simp; with_reducible rfl) (by simp only [Act.put, List.setIfInBounds_toArray, List.set_cons_zero, List.set_cons_succ, i64_w, i32_w]; rfl) ?_
            refine po_ 7 (some 97) (m_ 30 255) rfl rfl (by kernel_rfl) (fun _ _ _ h => h) (by rfl) (by simp only [Act.put, List.setIfInBounds_toArray, List.set_cons_zero, List.set_cons_succ, i64_w, i32_w]; rfl) ?_
            refine po_ 8 (some 98) (m_ 30 511) rfl rfl (by kernel_rfl) (fun _ _ _ h => h) (by rfl) (by simp only [Act.put, List.setIfInBounds_toArray, List.set_cons_zero, List.set_cons_succ, i64_w, i32_w]; rfl) ?_
            refine po_ 9 (some 99) (m_ 30 1023) rfl rfl (by kernel_rfl) (fun _ _ _ h => h) (by rfl) (by simp only [Act.put, List.setIfInBounds_toArray, List.set_cons_zero, List.set_cons_succ, i64_w, i32_w]; rfl) ?_
            refine po_ 10 (some 100) (m_ 30 2047) rfl rfl (by kernel_rfl) (fun _ _ _ h => h) (by rfl) (by simp only [Act.put, List.setIfInBounds_toArray, List.set_cons_zero, List.set_cons_succ, i64_w, i32_w]; rfl) ?_
            refine po_ 11 (some 101) (m_ 30 4095) rfl rfl (by kernel_rfl) (fun _ _ _ h => h) (by rfl) (by simp only [Act.put, List.setIfInBounds_toArray, List.set_cons_zero, List.set_cons_succ, i64_w, i32_w]; rfl) ?_
            refine po_ 12 (some 102) (m_ 30 8191) rfl rfl (by kernel_rfl) (fun _ _ _ h => h) (by rfl) (by simp only [Act.put, List.setIfInBounds_toArray, List.set_cons_zero, List.set_cons_succ, i64_w, i32_w]; rfl) ?_
            refine po_ 13 (some 103) (m_ 30 16383) rfl rfl (by kernel_rfl) (fun _ _ _ h => h) (by rfl) (by simp only [Act.put, List.setIfInBounds_toArray, List.set_cons_zero, List.set_cons_succ, i64_w, i32_w]; rfl) ?_
            refine po_ 14 (some 104) (m_ 30 32767) rfl rfl (by kernel_rfl) (fun _ _ _ h => h) (by rfl) (by simp only [Act.put, List.setIfInBounds_toArray, List.set_cons_zero, List.set_cons_succ, i64_w, i32_w]; rfl) ?_
            refine po_ 15 (some 105) (m_ 30 65535) rfl rfl (by kernel_rfl) (fun _ _ _ h => h) (by rfl) (by simp only [Act.put, List.setIfInBounds_toArray, List.set_cons_zero, List.set_cons_succ, i64_w, i32_w]; rfl) ?_
            refine po_ 16 (some 106) (m_ 30 131071) rfl rfl (by kernel_rfl) (fun _ _ _ h => h) (by rfl) (by simp only [Act.put, List.setIfInBounds_toArray, List.set_cons_zero, List.set_cons_succ, i64_w, i32_w]; rfl) ?_
            refine po_ 17 (some 107) (m_ 30 262143) rfl rfl (by kernel_rfl) (fun _ _ _ h => h) (by rfl) (by simp only [Act.put, List.setIfInBounds_toArray, List.set_cons_zero, List.set_cons_succ, i64_w, i32_w]; rfl) ?_
            refine po_ 18 (some 108) (m_ 30 524287) rfl rfl (by kernel_rfl) (fun _ _ _ h => h) (by rfl) (by simp only [Act.put, List.setIfInBounds_toArray, List.set_cons_zero, List.set_cons_succ, i64_w, i32_w]; rfl) ?_
            refine po_ 19 (some 109) (m_ 30 1048575) rfl rfl (by kernel_rfl) (fun _ _ _ h => h) (by rfl) (by simp only [Act.put, List.setIfInBounds_toArray, List.set_cons_zero, List.set_cons_succ, i64_w, i32_w]; rfl) ?_
            refine po_ 20 (some 110) (m_ 30 2097151) rfl rfl (by kernel_rfl) (fun _ _ _ h => h) (by rfl) (by simp only [Act.put, List.setIfInBounds_toArray, List.set_cons_zero, List.set_cons_succ, i64_w, i32_w]; rfl) ?_
            refine po_ 21 (some 111) (m_ 30 4194303) rfl rfl (by kernel_rfl) (fun _ _ _ h => h) (by rfl) (by simp only [Act.put, List.setIfInBounds_toArray, List.set_cons_zero, List.set_cons_succ, i64_w, i32_w]; rfl) ?_
            refine po_ 22 (some 112) (m_ 30 8388607) rfl rfl (by kernel_rfl) (fun _ _ _ h => h) (by rfl) (by simp only [Act.put, List.setIfInBounds_toArray, List.set_cons_zero, List.set_cons_succ, i64_w, i32_w]; rfl) ?_
            refine po_ 23 (some 113) (m_ 30 16777215) rfl rfl (by kernel_rfl) (fun _ _ _ h => h) (by rfl) (by simp only [Act.put, List.setIfInBounds_toArray, List.set_cons_zero, List.set_cons_succ, i64_w, i32_w]; rfl) ?_
            refine po_ 24 (some 114) (m_ 30 33554431) rfl rfl (by kernel_rfl) (fun _ _ _ h => h) (by rfl) (by simp only [Act.put, List.setIfInBounds_toArray, List.set_cons_zero, List.set_cons_succ, i64_w, i32_w]; rfl) ?_
            refine pu_ 25 (some 115) (m_ 30 67108863) rfl rfl (by kernel_rfl) (fun _ _ _ h => h) (by rfl) (by intro w'; go_simp; with_reducible rfl) (by simp only [Act.put, List.setIfInBounds_toArray, List.set_cons_zero, List.set_cons_succ, i64_w, i32_w]; rfl) ?_
            refine pu_ 26 (some 116) (m_ 30 134217727) rfl rfl (by kernel_rfl) (fun _ _ _ h => h) (by rfl) (by intro w'; go_simp; with_reducible rfl) (by simp only [Act.put, List.setIfInBounds_toArray, List.set_cons_zero, List.set_cons_succ, i64_w, i32_w]; rfl) ?_
            refine po_ 27 (some 117) (m_ 30 268435455) rfl rfl (by kernel_rfl) (fun _ _ _ h => h) (by rfl) (by simp only [Act.put, List.setIfInBounds_toArray, List.set_cons_zero, List.set_cons_succ, i64_w, i32_w]; rfl) ?_
            refine pu_ 28 (some 118) (m_ 30 536870911) rfl rfl (by kernel_rfl) (fun _ _ _ h => h) (by rfl) (by intro w'; go_simp; with_reducible rfl) (by simp only [Act.put, List.setIfInBounds_toArray, List.set_cons_zero, List.set_cons_succ, i64_w, i32_w]; rfl) ?_
            refine pu_ 29 (some 89) (m_ 30 1073741823) rfl rfl (by kernel_rfl) (fun _ _ _ h => h) (by rfl) (by intro w'; go_simp; with_reducible rfl) (by simp only [Act.put, List.setIfInBounds_toArray, List.set_cons_zero, List.set_cons_succ, i64_w, i32_w]; rfl) ?_
            refine done_ (by kernel_rfl) ?_
            replace HS := Lib.hid HS.out.drew
            replace HD := Lib.hid HD.out.drew
            clear hHeld
            clear c2
            generalize w14.drew = w15 at *
            have hv := Lib.hid (show lookS s1 = 1 by unfold lookS; rw [if_neg (by rw [hst]; decide), if_neg (by rw [hkind]; omega), if_pos hkind, if_pos hl])
            have f19 := HS.out.blk.free 19
            have hbl : b < w15.heap.size := HS.out.lt HS.out.mine
            have c19 : w15.cell? ⟨b, 19, none⟩ = some (.int .i64 s1.state) := (HS.out.blk.cell 19).trans rfl
            go_wp2
            go_ret
            exact ⟨by rw [hv.out]; rfl, HS.out.set 19 _ _ (by rw [hv.out]; rfl) rfl, HD.out.setCell (.inl HS.out.mine) _⟩
          · skip
            rw [show lateB s1 s1.began s1.t.a = false by simpa using hl]
            have hv := Lib.hid (show lookS s1 = s1.state by rw [hst]; unfold lookS; rw [if_neg (by rw [hst]; decide), if_neg (by rw [hkind]; omega), if_pos hkind, if_neg hl])
            have c19 : w14.cell? ⟨b, 19, none⟩ = some (.int .i64 s1.state) := (HS.out.blk.cell 19).trans rfl
            go_wp2
            go_ret
            have he : ({ s1 with state := lookS s1 } : Sg) = s1 := by rw [hv.out]
            rw [he]
            exact ⟨by rw [hv.out]; first | rfl | (rw [hst]; rfl), HS.out, HD.out⟩
        · skip
          by_cases k6 : s1.t.kind = 6
          · have hkind := k6
            have c2 : w9.cell? ⟨b, 2, none⟩ = some (.int .i64 6) := (HS.out.blk.cell 2).trans (by rw [show (scells k s1)[2]? = some (.int .i64 s1.t.kind) from rfl, hkind])
            refine start_ (n := 20) (S := fun w' => w'.cell? ⟨b, 2, none⟩ = some (.int .i64 6)) (ds := []) (m_ 20 0) (by kernel_rfl) rfl (by kernel_rfl) (c2) (fun hHeld => ?_)
            refine pu_ 0 (some 46) (m_ 20 1) rfl rfl (by kernel_rfl) (fun _ _ _ h => h) (by rfl) (by intro w'; go_simp; with_reducible rfl) (by simp only [Act.put, List.setIfInBounds_toArray, List.set_cons_zero, List.set_cons_succ, i64_w, i32_w]; rfl) ?_
            refine pu_ 1 (some 47) (m_ 20 3) rfl rfl (by kernel_rfl) (fun _ _ _ h => h) (by rfl) (by intro w'; go_simp; with_reducible rfl) (by simp only [Act.put, List.setIfInBounds_toArray, List.set_cons_zero, List.set_cons_succ, i64_w, i32_w]; rfl) ?_
            refine pu_ 2 (some 48) (m_ 20 7) rfl rfl (by kernel_rfl) (fun _ _ _ h => h) (by rfl) (by intro w'; go_simp; with_reducible rfl) (by simp only [Act.put, List.setIfInBounds_toArray, List.set_cons_zero, List.set_cons_succ, i64_w, i32_w]; rfl) ?_
            refine pu_ 3 (some 49) (m_ 20 15) rfl rfl (by kernel_rfl) (fun _ _ _ h => h) (by rfl) (by intro w'; go_simp; with_reducible rfl) (by simp only [Act.put, List.setIfInBounds_toArray, List.set_cons_zero, List.set_cons_succ, i64_w, i32_w]; rfl) ?_
            refine tk_ 4 (some 50) (m_ 20 31) rfl rfl (by kernel_rfl) (fun _ _ _ h => h) (by rfl) (by intro w' s0; go_simp; with_reducible rfl) hHeld (by simp only [Act.put, List.setIfInBounds_toArray, List.set_cons_zero, List.set_cons_succ, i64_w, i32_w]; rfl) ?_
            refine pu_ 5 (some 51) (m_ 20 63) rfl rfl (by kernel_rfl) (fun _ _ _ h => h) (by rfl) (by intro w'; go_simp; with_reducible rfl) (by simp only [Act.put, List.setIfInBounds_toArray, List.set_cons_zero, List.set_cons_succ, i64_w, i32_w]; rfl) ?_
            refine pu_ 6 (some 52) (m_ 20 127) rfl rfl (by kernel_rfl) (fun _ _ _ h => h) (by rfl) (by intro w'; go_simp; with_reducible rfl) (by simp only [Act.put, List.setIfInBounds_toArray, List.set_cons_zero, List.set_cons_succ, i64_w, i32_w]; rfl) ?_
            refine po_ 7 (some 53) (m_ 20 255) rfl rfl (by kernel_rfl) (fun _ _ _ h => h) (by rfl) (by simp only [Act.put, List.setIfInBounds_toArray, List.set_cons_zero, List.set_cons_succ, i64_w, i32_w]; rfl) ?_
            refine po_ 8 (some 54) (m_ 20 511) rfl rfl (by kernel_rfl) (fun _ _ _ h => h) (by rfl) (by simp only [Act.put, List.setIfInBounds_toArray, List.set_cons_zero, List.set_cons_succ, i64_w, i32_w]; rfl) ?_
            refine po_ 9 (some 55) (m_ 20 1023) rfl rfl (by kernel_rfl) (fun _ _ _ h => h) (by rfl) (by simp only [Act.put, List.setIfInBounds_toArray, List.set_cons_zero, List.set_cons_succ, i64_w, i32_w]; rfl) ?_
            refine po_ 10 (some 56) (m_ 20 2047) rfl rfl (by kernel_rfl) (fun _ _ _ h => h) (by rfl) (by simp only [Act.put, List.setIfInBounds_toArray, List.set_cons_zero, List.set_cons_succ, i64_w, i32_w]; rfl) ?_
            refine po_ 11 (some 57) (m_ 20 4095) rfl rfl (by kernel_rfl) (fun _ _ _ h => h) (by rfl) (by simp only [Act.put, List.setIfInBounds_toArray, List.set_cons_zero, List.set_cons_succ, i64_w, i32_w]; rfl) ?_
            refine po_ 12 (some 58) (m_ 20 8191) rfl rfl (by kernel_rfl) (fun _ _ _ h => h) (by rfl) (by simp only [Act.put, List.setIfInBounds_toArray, List.set_cons_zero, List.set_cons_succ, i64_w, i32_w]; rfl) ?_
            refine po_ 13 (some 59) (m_ 20 16383) rfl rfl (by kernel_rfl) (fun _ _ _ h => h) (by rfl) (by simp only [Act.put, List.setIfInBounds_toArray, List.set_cons_zero, List.set_cons_succ, i64_w, i32_w]; rfl) ?_
            refine po_ 14 (some 60) (m_ 20 32767) rfl rfl (by kernel_rfl) (fun _ _ _ h => h) (by rfl) (by simp only [Act.put, List.setIfInBounds_toArray, List.set_cons_zero, List.set_cons_succ, i64_w, i32_w]; rfl) ?_
            refine po_ 15 (some 61) (m_ 20 65535) rfl rfl (by kernel_rfl) (fun _ _ _ h => h) (by rfl) (by simp only [Act.put, List.setIfInBounds_toArray, List.set_cons_zero, List.set_cons_succ, i64_w, i32_w]; rfl) ?_
            refine po_ 16 (some 62) (m_ 20 131071) rfl rfl (by kernel_rfl) (fun _ _ _ h => h) (by rfl) (by simp only [Act.put, List.setIfInBounds_toArray, List.set_cons_zero, List.set_cons_succ, i64_w, i32_w]; rfl) ?_
            refine po_ 17 (some 63) (m_ 20 262143) rfl rfl (by kernel_rfl) (fun _ _ _ h => h) (by rfl) (by simp only [Act.put, List.setIfInBounds_toArray, List.set_cons_zero, List.set_cons_succ, i64_w, i32_w]; rfl) ?_
            refine pu_ 18 (some 64) (m_ 20 524287) rfl rfl (by kernel_rfl) (fun _ _ _ h => h) (by rfl) (by intro w'; go_simp; with_reducible rfl) (by simp only [Act.put, List.setIfInBounds_toArray, List.set_cons_zero, List.set_cons_succ, i64_w, i32_w]; rfl) ?_
            refine pu_ 19 (some 45) (m_ 20 1048575) rfl rfl (by kernel_rfl) (fun _ _ _ h => h) (by rfl) (by intro w'; go_simp; with_reducible rfl) (by simp only [Act.put, List.setIfInBounds_toArray, List.set_cons_zero, List.set_cons_succ, i64_w, i32_w]; rfl) ?_
            refine done_ (by kernel_rfl) ?_
            replace HS := Lib.hid HS.out.drew
            replace HD := Lib.hid HD.out.drew
            clear hHeld
            clear c2
            generalize w9.drew = w16 at *
            go_wp2
            have c2 : w16.cell? ⟨b, 2, none⟩ = some (.int .i64 6) := (HS.out.blk.cell 2).trans (by rw [show (scells k s1)[2]? = some (.int .i64 s1.t.kind) from rfl, hkind])
            refine start_ (n := 21) (S := fun w' => w'.cell? ⟨b, 2, none⟩ = some (.int .i64 6)) (ds := []) (m_ 21 0) (by kernel_rfl) rfl (by kernel_rfl) (c2) (fun hHeld => ?_)
            refine pu_ 0 (some 69) (m_ 21 1) rfl rfl (by kernel_rfl) (fun _ _ _ h => h) (by rfl) (by intro w'; go_simp; with_reducible rfl) (by simp only [Act.put, List.setIfInBounds_toArray, List.set_cons_zero, List.set_cons_succ, i64_w, i32_w]; rfl) ?_
            refine pu_ 1 (some 70) (m_ 21 3) rfl rfl (by kernel_rfl) (fun _ _ _ h => h) (by rfl) (by intro w'; go_simp; with_reducible rfl) (by simp only [Act.put, List.setIfInBounds_toArray, List.set_cons_zero, List.set_cons_succ, i64_w, i32_w]; rfl) ?_
            refine pu_ 2 (some 71) (m_ 21 7) rfl rfl (by kernel_rfl) (fun _ _ _ h => h) (by rfl) (by intro w'; go_simp; with_reducible rfl) (by simp only [Act.put, List.setIfInBounds_toArray, List.set_cons_zero, List.set_cons_succ, i64_w, i32_w]; rfl) ?_
            refine pu_ 3 (some 72) (m_ 21 15) rfl rfl (by kernel_rfl) (fun _ _ _ h => h) (by rfl) (by intro w'; go_simp; with_reducible rfl) (by simp only [Act.put, List.setIfInBounds_toArray, List.set_cons_zero, List.set_cons_succ, i64_w, i32_w]; rfl) ?_
            refine tk_ 4 (some 73) (m_ 21 31) rfl rfl (by kernel_rfl) (fun _ _ _ h => h) (by rfl) (by intro w' s0; go_simp; with_reducible rfl) hHeld (by simp only [Act.put, List.setIfInBounds_toArray, List.set_cons_zero, List.set_cons_succ, i64_w, i32_w]; rfl) ?_
            refine pu_ 5 (some 74) (m_ 21 63) rfl rfl (by kernel_rfl) (fun _ _ _ h => h) (by rfl) (by intro w'; go_simp; with_reducible rfl) (by simp only [Act.put, List.setIfInBounds_toArray, List.set_cons_zero, List.set_cons_succ, i64_w, i32_w]; rfl) ?_
            refine pu_ 6 (some 75) (m_ 21 127) rfl rfl (by kernel_rfl) (fun _ _ _ h => h) (by rfl) (by intro w'; go_simp; with_reducible rfl) (by simp only [Act.put, List.setIfInBounds_toArray, List.set_cons_zero, List.set_cons_succ, i64_w, i32_w]; rfl) ?_
            refine po_ 7 (some 76) (m_ 21 255) rfl rfl (by kernel_rfl) (fun _ _ _ h => h) (by rfl) (by simp only [Act.put, List.setIfInBounds_toArray, List.set_cons_zero, List.set_cons_succ, i64_w, i32_w]; rfl) ?_
            refine po_ 8 (some 77) (m_ 21 511) rfl rfl (by kernel_rfl) (fun _ _ _ h => h) (by rfl) (by simp only [Act.put, List.setIfInBounds_toArray, List.set_cons_zero, List.set_cons_succ, i64_w, i32_w]; rfl) ?_
            refine po_ 9 (some 78) (m_ 21 1023) rfl rfl (by kernel_rfl) (fun _ _ _ h => h) (by rfl) (by simp only [Act.put, List.setIfInBounds_toArray, List.set_cons_zero, List.set_cons_succ, i64_w, i32_w]; rfl) ?_
            refine po_ 10 (some 79) (m_ 21 2047) rfl rfl (by kernel_rfl) (fun _ _ _ h => h) (by rfl) (by simp only [Act.put, List.setIfInBounds_toArray, List.set_cons_zero, List.set_cons_succ, i64_w, i32_w]; rfl) ?_
            refine po_ 11 (some 80) (m_ 21 4095) rfl rfl (by kernel_rfl) (fun _ _ _ h => h) (by rfl) (by simp only [Act.put, List.setIfInBounds_toArray, List.set_cons_zero, List.set_cons_succ, i64_w, i32_w]; rfl) ?_
            refine po_ 12 (some 81) (m_ 21 8191) rfl rfl (by kernel_rfl) (fun _ _ _ h => h) (by rfl) (by simp only [Act.put, List.setIfInBounds_toArray, List.set_cons_zero, List.set_cons_succ, i64_w, i32_w]; rfl) ?_
            refine po_ 13 (some 82) (m_ 21 16383) rfl rfl (by kernel_rfl) (fun _ _ _ h => h) (by rfl) (by simp only [Act.put, List.setIfInBounds_toArray, List.set_cons_zero, List.set_cons_succ, i64_w, i32_w]; rfl) ?_
            refine po_ 14 (some 83) (m_ 21 32767) rfl rfl (by kernel_rfl) (fun _ _ _ h => h) (by rfl) (by simp only [Act.put, List.setIfInBounds_toArray, List.set_cons_zero, List.set_cons_succ, i64_w, i32_w]; rfl) ?_
            refine po_ 15 (some 84) (m_ 21 65535) rfl rfl (by kernel_rfl) (fun _ _ _ h => h) (by rfl) (by simp only [Act.put, List.setIfInBounds_toArray, List.set_cons_zero, List.set_cons_succ, i64_w, i32_w]; rfl) ?_
            refine po_ 16 (some 85) (m_ 21 131071) rfl rfl (by kernel_rfl) (fun _ _ _ h => h) (by rfl) (by simp only [Act.put, List.setIfInBounds_toArray, List.set_cons_zero, List.set_cons_succ, i64_w, i32_w]; rfl) ?_
            refine po_ 17 (some 86) (m_ 21 262143) rfl rfl (by kernel_rfl) (fun _ _ _ h => h) (by rfl) (by simp only [Act.put, List.setIfInBounds_toArray, List.set_cons_zero, List.set_cons_succ, i64_w, i32_w]; rfl) ?_
            refine po_ 18 (some 87) (m_ 21 524287) rfl rfl (by kernel_rfl) (fun _ _ _ h => h) (by rfl) (by simp only [Act.put, List.setIfInBounds_toArray, List.set_cons_zero, List.set_cons_succ, i64_w, i32_w]; rfl) ?_
            refine pu_ 19 (some 88) (m_ 21 1048575) rfl rfl (by kernel_rfl) (fun _ _ _ h => h) (by rfl) (by intro w'; go_simp; with_reducible rfl) (by simp only [Act.put, List.setIfInBounds_toArray, List.set_cons_zero, List.set_cons_succ, i64_w, i32_w]; rfl) ?_
            refine pu_ 20 (some 68) (m_ 21 2097151) rfl rfl (by kernel_rfl) (fun _ _ _ h => h) (by rfl) (by intro w'; go_simp; with_reducible rfl) (by simp only [Act.put, List.setIfInBounds_toArray, List.set_cons_zero, List.set_cons_succ, i64_w, i32_w]; rfl) ?_
            refine done_ (by kernel_rfl) ?_
            replace HS := Lib.hid HS.out.drew
            replace HD := Lib.hid HD.out.drew
            clear hHeld
            clear c2
            generalize w16.drew = w17 at *
            go_wp2
            by_cases hpa : s1.t.a ≤ s1.passed
            · skip
              have tq : decide (s1.t.a ≤ s1.passed) = true := decide_eq_true hpa
              have c2 : w17.cell? ⟨b, 2, none⟩ = some (.int .i64 6) := (HS.out.blk.cell 2).trans (by rw [show (scells k s1)[2]? = some (.int .i64 s1.t.kind) from rfl, hkind])
              have c16 : w17.cell? ⟨b, 16, none⟩ = some (.int .i64 s1.passed) := (HS.out.blk.cell 16).trans rfl
              have c5 : w17.cell? ⟨b, 5, none⟩ = some (.int .i64 s1.t.a) := (HS.out.blk.cell 5).trans rfl
              refine start_ (n := 30) (S := fun w' => w'.cell? ⟨b, 2, none⟩ = some (.int .i64 6) ∧ w'.cell? ⟨b, 16, none⟩ = some (.int .i64 s1.passed) ∧ w'.cell? ⟨b, 5, none⟩ = some (.int .i64 s1.t.a)) (ds := []) (m_ 30 0) (by kernel_rfl) rfl (by kernel_rfl) ⟨c2, c16, c5⟩ (fun hHeld => ?_)
              refine pu_ 0 (some 90) (m_ 30 1) rfl rfl (by kernel_rfl) (fun _ _ _ h => h) (by rfl) (by intro w'; go_simp; with_reducible rfl) (by simp only [Act.put, List.setIfInBounds_toArray, List.set_cons_zero, List.set_cons_succ, i64_w, i32_w]; rfl) ?_
              refine pu_ 1 (some 91) (m_ 30 3) rfl rfl (by kernel_rfl) (fun _ _ _ h => h) (by rfl) (by intro w'; go_simp; with_reducible rfl) (by simp only [Act.put, List.setIfInBounds_toArray, List.set_cons_zero, List.set_cons_succ, i64_w, i32_w]; rfl) ?_
              refine pu_ 2 (some 92) (m_ 30 7) rfl rfl (by kernel_rfl) (fun _ _ _ h => h) (by rfl) (by intro w'; go_simp; with_reducible rfl) (by simp only [Act.put, List.setIfInBounds_toArray, List.set_cons_zero, List.set_cons_succ, i64_w, i32_w]; rfl) ?_
              refine pu_ 3 (some 93) (m_ 30 15) rfl rfl (by kernel_rfl) (fun _ _ _ h => h) (by rfl) (by intro w'; go_simp; with_reducible rfl) (by simp only [Act.put, List.setIfInBounds_toArray, List.set_cons_zero, List.set_cons_succ, i64_w, i32_w]; rfl) ?_
              refine tk_ 4 (some 94) (m_ 30 31) rfl rfl (by kernel_rfl) (fun _ _ _ h => h) (by rfl) (by rintro w' ⟨s0, s1, s2⟩; go_simp; with_reducible rfl) hHeld (by simp only [Act.put, List.setIfInBounds_toArray, List.set_cons_zero, List.set_cons_succ, i64_w, i32_w]; rfl) ?_
              refine pu_ 5 (some 95) (m_ 30 63) rfl rfl (by kernel_rfl) (fun _ _ _ h => h) (by rfl) (by intro w'; go_simp; with_reducible rfl) (by simp only [Act.put, List.setIfInBounds_toArray, List.set_cons_zero, List.set_cons_succ, i64_w, i32_w]; rfl) ?_
              refine pu_ 6 (some 96) (m_ 30 127) rfl rfl (by kernel_rfl) (fun _ _ _ h => h) (by rfl) (by intro w'; go_simp; with_reducible rfl) (by simp only [Act.put, List.setIfInBounds_toArray, List.set_cons_zero, List.set_cons_succ, i64_w, i32_w]; rfl) ?_
              refine pu_ 7 (some 97) (m_ 30 255) rfl rfl (by kernel_rfl) (fun _ _ _ h => h) (by rfl) (by intro w'; go_simp; with_reducible rfl) (by simp only [Act.put, List.setIfInBounds_toArray, List.set_cons_zero, List.set_cons_succ, i64_w, i32_w]; rfl) ?_
              refine pu_ 8 (some 98) (m_ 30 511) rfl rfl (by kernel_rfl) (fun _ _ _ h => h) (by rfl) (by intro w'; go_simp; with_reducible rfl) (by simp only [Act.put, List.setIfInBounds_toArray, List.set_cons_zero, List.set_cons_succ, i64_w, i32_w]; rfl) ?_
              refine pu_ 9 (some 99) (m_ 30 1023) rfl rfl (by kernel_rfl) (fun _ _ _ h => h) (by rfl) (by intro w'; go_simp; with_reducible rfl) (by simp only [Act.put, List.setIfInBounds_toArray, List.set_cons_zero, List.set_cons_succ, i64_w, i32_w]; rfl) ?_
              refine pu_ 10 (some 100) (m_ 30 2047) rfl rfl (by kernel_rfl) (fun _ _ _ h => h) (by rfl) (by intro w'; go_simp; with_reducible rfl) (by simp only [Act.put, List.setIfInBounds_toArray, List.set_cons_zero, List.set_cons_succ, i64_w, i32_w]; rfl) ?_
              refine tk_ 11 (some 101) (m_ 30 4095) rfl rfl (by kernel_rfl) (fun _ _ _ h => h) (by rfl) (by rintro w' ⟨s0, s1, s2⟩; go_simp; with_reducible rfl) hHeld (by simp only [Act.put, List.setIfInBounds_toArray, List.set_cons_zero, List.set_cons_succ, i64_w, i32_w]; rfl) ?_
              refine pu_ 12 (some 102) (m_ 30 8191) rfl rfl (by kernel_rfl) (fun _ _ _ h => h) (by rfl) (by intro w'; go_simp; with_reducible rfl) (by simp only [Act.put, List.setIfInBounds_toArray, List.set_cons_zero, List.set_cons_succ, i64_w, i32_w]; rfl) ?_
              refine pu_ 13 (some 103) (m_ 30 16383) rfl rfl (by kernel_rfl) (fun _ _ _ h => h) (by rfl) (by intro w'; go_simp; with_reducible rfl) (by simp only [Act.put, List.setIfInBounds_toArray, List.set_cons_zero, List.set_cons_succ, i64_w, i32_w]; rfl) ?_
              refine pu_ 14 (some 104) (m_ 30 32767) rfl rfl (by kernel_rfl) (fun _ _ _ h => h) (by rfl) (by intro w'; go_simp; with_reducible rfl) (by simp only [Act.put, List.setIfInBounds_toArray, List.set_cons_zero, List.set_cons_succ, i64_w, i32_w]; rfl) ?_
              refine pu_ 15 (some 105) (m_ 30 65535) rfl rfl (by kernel_rfl) (fun _ _ _ h => h) (by rfl) (by intro w'; go_simp; with_reducible rfl) (by simp only [Act.put, List.setIfInBounds_toArray, List.set_cons_zero, List.set_cons_succ, i64_w, i32_w]; rfl) ?_
              refine pu_ 16 (some 106) (m_ 30 131071) rfl rfl (by kernel_rfl) (fun _ _ _ h => h) (by rfl) (by intro w'; go_simp; with_reducible rfl) (by simp only [Act.put, List.setIfInBounds_toArray, List.set_cons_zero, List.set_cons_succ, i64_w, i32_w]; rfl) ?_
              refine pu_ 18 (some 108) (m_ 30 393215) rfl rfl (by kernel_rfl) (fun _ _ _ h => h) (by rfl) (by intro w'; go_simp; with_reducible rfl) (by simp only [Act.put, List.setIfInBounds_toArray, List.set_cons_zero, List.set_cons_succ, i64_w, i32_w]; rfl) ?_
              refine pu_ 19 (some 109) (m_ 30 917503) rfl rfl (by kernel_rfl) (fun _ _ _ h => h) (by rfl) (by intro w'; go_simp; with_reducible rfl) (by simp only [Act.put, List.setIfInBounds_toArray, List.set_cons_zero, List.set_cons_succ, i64_w, i32_w]; rfl) ?_
              refine pu_ 20 (some 110) (m_ 30 1966079) rfl rfl (by kernel_rfl) (fun _ _ _ h => h) (by rfl) (by intro w'; go_simp; with_reducible rfl) (by simp only [Act.put, List.setIfInBounds_toArray, List.set_cons_zero, List.set_cons_succ, i64_w, i32_w]; rfl) ?_
              refine pu_ 21 (some 111) (m_ 30 4063231) rfl rfl (by kernel_rfl) (fun _ _ _ h => h) (by rfl) (by intro w'; go_simp; with_reducible rfl) (by simp only [Act.put, List.setIfInBounds_toArray, List.set_cons_zero, List.set_cons_succ, i64_w, i32_w]; rfl) ?_
              refine tk_ 17 (some 107) (m_ 30 4194303) rfl rfl (by kernel_rfl) (fun _ _ _ h => h) (by rfl) (by rintro w' ⟨s0, s1, s2⟩; go_simp; with_reducible rfl) hHeld (by simp only [Act.put, List.setIfInBounds_toArray, List.set_cons_zero, List.set_cons_succ, i64_w, i32_w]; rfl) ?_
              refine tk_ 22 (some 112) (m_ 30 8388607) rfl rfl (by kernel_rfl) (fun _ _ _ h => h) (by rfl) (by rintro w' ⟨s0, s1, s2⟩; go_simp; with_reducible rfl) hHeld (by simp only [Act.put, List.setIfInBounds_toArray, List.set_cons_zero, List.set_cons_succ, i64_w, i32_w]; rfl) ?_
              refine pu_ 23 (some 113) (m_ 30 16777215) rfl rfl (by kernel_rfl) (fun _ _ _ h => h) (by rfl) (by intro w'; go_simp; with_reducible rfl) (by simp only [Act.put, List.setIfInBounds_toArray, List.set_cons_zero, List.set_cons_succ, i64_w, i32_w]; rfl) ?_
              refine pu_ 24 (some 114) (m_ 30 33554431) rfl rfl (by kernel_rfl) (fun _ _ _ h => h) (by rfl) (by intro w'; go_simp; with_reducible rfl) (by simp only [Act.put, List.setIfInBounds_toArray, List.set_cons_zero, List.set_cons_succ, i64_w, i32_w]; rfl) ?_
              refine pu_ 25 (some 115) (m_ 30 67108863) rfl rfl (by kernel_rfl) (fun _ _ _ h => h) (by rfl) (by intro w'; go_simp; with_reducible rfl) (by simp only [Act.put, List.setIfInBounds_toArray, List.set_cons_zero, List.set_cons_succ, i64_w, i32_w]; rfl) ?_
              refine pu_ 26 (some 116) (m_ 30 134217727) rfl rfl (by kernel_rfl) (fun _ _ _ h => h) (by rfl) (by intro w'; go_simp; with_reducible rfl) (by simp only [Act.put, List.setIfInBounds_toArray, List.set_cons_zero, List.set_cons_succ, i64_w, i32_w]; rfl) ?_
              refine po_ 27 (some 117) (m_ 30 268435455) rfl rfl (by kernel_rfl) (fun _ _ _ h => h) (by rfl) (by simp only [Act.put, List.setIfInBounds_toArray, List.set_cons_zero, List.set_cons_succ, i64_w, i32_w]; rfl) ?_
              refine pu_ 28 (some 118) (m_ 30 536870911) rfl rfl (by kernel_rfl) (fun _ _ _ h => h) (by rfl) (by intro w'; go_simp; with_reducible rfl) (by simp only [Act.put, List.setIfInBounds_toArray, List.set_cons_zero, List.set_cons_succ, i64_w, i32_w]; rfl) ?_
              refine pu_ 29 (some 89) (m_ 30 1073741823) rfl rfl (by kernel_rfl) (fun _ _ _ h => h) (by rfl) (by intro w'; go_simp; with_reducible rfl) (by simp only [Act.put, List.setIfInBounds_toArray, List.set_cons_zero, List.set_cons_succ, i64_w, i32_w]; rfl) ?_
              refine done_ (by kernel_rfl) ?_
              replace HS := Lib.hid HS.out.drew
              replace HD := Lib.hid HD.out.drew
              clear hHeld
              clear c2 c16 c5
              generalize w17.drew = w18 at *
              have t1 := tq
              have hv := Lib.hid (show lookS s1 = 1 by unfold lookS; rw [if_neg (by rw [hst]; decide), if_neg (by rw [hkind]; omega), if_neg (by rw [hkind]; decide), if_pos ⟨hkind, hpa⟩])
              have f19 := HS.out.blk.free 19
              have hbl : b < w18.heap.size := HS.out.lt HS.out.mine
              have c19 : w18.cell? ⟨b, 19, none⟩ = some (.int .i64 s1.state) := (HS.out.blk.cell 19).trans rfl
              go_wp2
              go_ret
              exact ⟨by rw [hv.out]; rfl, HS.out.set 19 _ _ (by rw [hv.out]; rfl) rfl, HD.out.setCell (.inl HS.out.mine) _⟩
            · skip
              have tq : decide (s1.t.a ≤ s1.passed) = false := decide_eq_false hpa
              have c2 : w17.cell? ⟨b, 2, none⟩ = some (.int .i64 6) := (HS.out.blk.cell 2).trans (by rw [show (scells k s1)[2]? = some (.int .i64 s1.t.kind) from rfl, hkind])
              have c16 : w17.cell? ⟨b, 16, none⟩ = some (.int .i64 s1.passed) := (HS.out.blk.cell 16).trans rfl
              have c5 : w17.cell? ⟨b, 5, none⟩ = some (.int .i64 s1.t.a) := (HS.out.blk.cell 5).trans rfl
              refine start_ (n := 30) (S := fun w' => w'.cell? ⟨b, 2, none⟩ = some (.int .i64 6) ∧ w'.cell? ⟨b, 16, none⟩ = some (.int .i64 s1.passed) ∧ w'.cell? ⟨b, 5, none⟩ = some (.int .i64 s1.t.a)) (ds := []) (m_ 30 0) (by kernel_rfl) rfl (by kernel_rfl) ⟨c2, c16, c5⟩ (fun hHeld => ?_)
              refine pu_ 0 (some 90) (m_ 30 1) rfl rfl (by kernel_rfl) (fun _ _ _ h => h) (by rfl) (by intro w'; go_simp; with_reducible rfl) (by simp only [Act.put, List.setIfInBounds_toArray, List.set_cons_zero, List.set_cons_succ, i64_w, i32_w]; rfl) ?_
              refine pu_ 1 (some 91) (m_ 30 3) rfl rfl (by kernel_rfl) (fun _ _ _ h => h) (by rfl) (by intro w'; go_simp; with_reducible rfl) (by simp only [Act.put, List.setIfInBounds_toArray, List.set_cons_zero, List.set_cons_succ, i64_w, i32_w]; rfl) ?_
              refine pu_ 2 (some 92) (m_ 30 7) rfl rfl (by kernel_rfl) (fun _ _ _ h => h) (by rfl) (by intro w'; go_simp; with_reducible rfl) (by simp only [Act.put, List.setIfInBounds_toArray, List.set_cons_zero, List.set_cons_succ, i64_w, i32_w]; rfl) ?_
              refine pu_ 3 (some 93) (m_ 30 15) rfl rfl (by kernel_rfl) (fun _ _ _ h => h) (by rfl) (by intro w'; go_simp; with_reducible rfl) (by simp only [Act.put, List.setIfInBounds_toArray, List.set_cons_zero, List.set_cons_succ, i64_w, i32_w]; rfl) ?_
              refine tk_ 4 (some 94) (m_ 30 31) rfl rfl (by kernel_rfl) (fun _ _ _ h => h) (by rfl) (by rintro w' ⟨s0, s1, s2⟩; go_simp; with_reducible rfl) hHeld (by simp only [Act.put, List.setIfInBounds_toArray, List.set_cons_zero, List.set_cons_succ, i64_w, i32_w]; rfl) ?_
              refine pu_ 5 (some 95) (m_ 30 63) rfl rfl (by kernel_rfl) (fun _ _ _ h => h) (by rfl) (by intro w'; go_simp; with_reducible rfl) (by simp only [Act.put, List.setIfInBounds_toArray, List.set_cons_zero, List.set_cons_succ, i64_w, i32_w]; rfl) ?_
              refine pu_ 6 (some 96) (m_ 30 127) rfl rfl (by kernel_rfl) (fun _ _ _ h => h) (by rfl) (by intro w'; go_simp; with_reducible rfl) (by simp only [Act.put, List.setIfInBounds_toArray, List.set_cons_zero, List.set_cons_succ, i64_w, i32_w]; rfl) ?_
              refine pu_ 7 (some 97) (m_ 30 255) rfl rfl (by kernel_rfl) (fun _ _ _ h => h) (by rfl) (by intro w'; go_simp; with_reducible rfl) (by simp only [Act.put, List.setIfInBounds_toArray, List.set_cons_zero, List.set_cons_succ, i64_w, i32_w]; rfl) ?_
              refine pu_ 8 (some 98) (m_ 30 511) rfl rfl (by kernel_rfl) (fun _ _ _ h => h) (by rfl) (by intro w'; go_simp; with_reducible rfl) (by simp only [Act.put, List.setIfInBounds_toArray, List.set_cons_zero, List.set_cons_succ, i64_w, i32_w]; rfl) ?_
              refine pu_ 9 (some 99) (m_ 30 1023) rfl rfl (by kernel_rfl) (fun _ _ _ h => h) (by rfl) (by intro w'; go_simp; with_reducible rfl) (by simp only [Act.put, List.setIfInBounds_toArray, List.set_cons_zero, List.set_cons_succ, i64_w, i32_w]; rfl) ?_
              refine pu_ 10 (some 100) (m_ 30 2047) rfl rfl (by kernel_rfl) (fun _ _ _ h => h) (by rfl) (by intro w'; go_simp; with_reducible rfl) (by simp only [Act.put, List.setIfInBounds_toArray, List.set_cons_zero, List.set_cons_succ, i64_w, i32_w]; rfl) ?_
              refine tk_ 11 (some 101) (m_ 30 4095) rfl rfl (by kernel_rfl) (fun _ _ _ h => h) (by rfl) (by rintro w' ⟨s0, s1, s2⟩; go_simp; with_reducible rfl) hHeld (by simp only [Act.put, List.setIfInBounds_toArray, List.set_cons_zero, List.set_cons_succ, i64_w, i32_w]; rfl) ?_
              refine pu_ 12 (some 102) (m_ 30 8191) rfl rfl (by kernel_rfl) (fun _ _ _ h => h) (by rfl) (by intro w'; go_simp; with_reducible rfl) (by simp only [Act.put, List.setIfInBounds_toArray, List.set_cons_zero, List.set_cons_succ, i64_w, i32_w]; rfl) ?_
              refine pu_ 13 (some 103) (m_ 30 16383) rfl rfl (by kernel_rfl) (fun _ _ _ h => h) (by rfl) (by intro w'; go_simp; with_reducible rfl) (by simp only [Act.put, List.setIfInBounds_toArray, List.set_cons_zero, List.set_cons_succ, i64_w, i32_w]; rfl) ?_
              refine pu_ 14 (some 104) (m_ 30 32767) rfl rfl (by kernel_rfl) (fun _ _ _ h => h) (by rfl) (by intro w'; go_simp; with_reducible rfl) (by simp only [Act.put, List.setIfInBounds_toArray, List.set_cons_zero, List.set_cons_succ, i64_w, i32_w]; rfl) ?_
              refine pu_ 15 (some 105) (m_ 30 65535) rfl rfl (by kernel_rfl) (fun _ _ _ h => h) (by rfl) (by intro w'; go_simp; with_reducible rfl) (by simp only [Act.put, List.setIfInBounds_toArray, List.set_cons_zero, List.set_cons_succ, i64_w, i32_w]; rfl) ?_
              refine pu_ 16 (some 106) (m_ 30 131071) rfl rfl (by kernel_rfl) (fun _ _ _ h => h) (by rfl) (by intro w'; go_simp; with_reducible rfl) (by simp only [Act.put, List.setIfInBounds_toArray, List.set_cons_zero, List.set_cons_succ, i64_w, i32_w]; rfl) ?_
              refine pu_ 18 (some 108) (m_ 30 393215) rfl rfl (by kernel_rfl) (fun _ _ _ h => h) (by rfl) (by intro w'; go_simp; with_reducible rfl) (by simp only [Act.put, List.setIfInBounds_toArray, List.set_cons_zero, List.set_cons_succ, i64_w, i32_w]; rfl) ?_
              refine pu_ 19 (some 109) (m_ 30 917503) rfl rfl (by kernel_rfl) (fun _ _ _ h => h) (by rfl) (by intro w'; go_simp; with_reducible rfl) (by simp only [Act.put, List.setIfInBounds_toArray, List.set_cons_zero, List.set_cons_succ, i64_w, i32_w]; rfl) ?_
              refine pu_ 20 (some 110) (m_ 30 1966079) rfl rfl (by kernel_rfl) (fun _ _ _ h => h) (by rfl) (by intro w'; go_simp; with_reducible rfl) (by simp only [Act.put, List.setIfInBounds_toArray, List.set_cons_zero, List.set_cons_succ, i64_w, i32_w]; rfl) ?_
              refine pu_ 21 (some 111) (m_ 30 4063231) rfl rfl (by kernel_rfl) (fun _ _ _ h => h) (by rfl) (by intro w'; go_simp; with_reducible rfl) (by simp only [Act.put, List.setIfInBounds_toArray, List.set_cons_zero, List.set_cons_succ, i64_w, i32_w]; rfl) ?_
              refine tk_ 17 (some 107) (m_ 30 4194303) rfl rfl (by kernel_rfl) (fun _ _ _ h => h) (by rfl) (by rintro w' ⟨s0, s1, s2⟩; go_simp; with_reducible rfl) hHeld (by simp only [Act.put, List.setIfInBounds_toArray, List.set_cons_zero, List.set_cons_succ, i64_w, i32_w]; rfl) ?_
              refine tk_ 22 (some 112) (m_ 30 8388607) rfl rfl (by kernel_rfl) (fun _ _ _ h => h) (by rfl) (by rintro w' ⟨s0, s1, s2⟩; go_simp; with_reducible rfl) hHeld (by simp only [Act.put, List.setIfInBounds_toArray, List.set_cons_zero, List.set_cons_succ, i64_w, i32_w]; rfl) ?_
              refine pu_ 23 (some 113) (m_ 30 16777215) rfl rfl (by kernel_rfl) (fun _ _ _ h => h) (by rfl) (by intro w'; go_simp; with_reducible rfl) (by simp only [Act.put, List.setIfInBounds_toArray, List.set_cons_zero, List.set_cons_succ, i64_w, i32_w]; rfl) ?_
              refine pu_ 24 (some 114) (m_ 30 33554431) rfl rfl (by kernel_rfl) (fun _ _ _ h => h) (by rfl) (by intro w'; go_simp; with_reducible rfl) (by simp only [Act.put, List.setIfInBounds_toArray, List.set_cons_zero, List.set_cons_succ, i64_w, i32_w]; rfl) ?_
              refine pu_ 25 (some 115) (m_ 30 67108863) rfl rfl (by kernel_rfl) (fun _ _ _ h => h) (by rfl) (by intro w'; go_simp; with_reducible rfl) (by simp only [Act.put, List.setIfInBounds_toArray, List.set_cons_zero, List.set_cons_succ, i64_w, i32_w]; rfl) ?_
              refine pu_ 26 (some 116) (m_ 30 134217727) rfl rfl (by kernel_rfl) (fun _ _ _ h => h) (by rfl) (by intro w'; go_simp; with_reducible rfl) (by simp only [Act.put, List.setIfInBounds_toArray, List.set_cons_zero, List.set_cons_succ, i64_w, i32_w]; rfl) ?_
              refine pu_ 27 (some 117) (m_ 30 268435455) rfl rfl (by kernel_rfl) (fun _ _ _ h => h) (by rfl) (by intro w'; go_simp; with_reducible rfl) (by simp only [Act.put, List.setIfInBounds_toArray, List.set_cons_zero, List.set_cons_succ, i64_w, i32_w]; rfl) ?_
              refine pu_ 28 (some 118) (m_ 30 536870911) rfl rfl (by kernel_rfl) (fun _ _ _ h => h) (by rfl) (by intro w'; go_simp; with_reducible rfl) (by simp only [Act.put, List.setIfInBounds_toArray, List.set_cons_zero, List.set_cons_succ, i64_w, i32_w]; rfl) ?_
              refine pu_ 29 (some 89) (m_ 30 1073741823) rfl rfl (by kernel_rfl) (fun _ _ _ h => h) (by rfl) (by intro w'; go_simp; with_reducible rfl) (by simp only [Act.put, List.setIfInBounds_toArray, List.set_cons_zero, List.set_cons_succ, i64_w, i32_w]; rfl) ?_
              refine done_ (by kernel_rfl) ?_
              replace HS := Lib.hid HS.out.drew
              replace HD := Lib.hid HD.out.drew
              clear hHeld
              clear c2 c16 c5
              generalize w17.drew = w19 at *
              cases E with
              | false =>
                have hv := Lib.hid (show lookS s1 = s1.state by rw [hst]; unfold lookS; rw [if_neg (by rw [hst]; decide), if_neg (by rw [hkind]; omega), if_neg (by rw [hkind]; decide), if_neg (fun h => hpa h.2), if_neg (by rw [hE.out]; decide)])
                have c19 : w19.cell? ⟨b, 19, none⟩ = some (.int .i64 s1.state) := (HS.out.blk.cell 19).trans rfl
                go_wp2
                go_ret
                have he : ({ s1 with state := lookS s1 } : Sg) = s1 := by rw [hv.out]
                rw [he]
                exact ⟨by rw [hv.out]; first | rfl | (rw [hst]; rfl), HS.out, HD.out⟩
              | true =>
                have hv := Lib.hid (show lookS s1 = 1 by unfold lookS; rw [if_neg (by rw [hst]; decide), if_neg (by rw [hkind]; omega), if_neg (by rw [hkind]; decide), if_neg (fun h => hpa h.2), if_pos hE.out])
                have f19 := HS.out.blk.free 19
                have hbl : b < w19.heap.size := HS.out.lt HS.out.mine
                have c19 : w19.cell? ⟨b, 19, none⟩ = some (.int .i64 s1.state) := (HS.out.blk.cell 19).trans rfl
                go_wp2
                go_ret
                exact ⟨by rw [hv.out]; rfl, HS.out.set 19 _ _ (by rw [hv.out]; rfl) rfl, HD.out.setCell (.inl HS.out.mine) _⟩
          · skip
            have t5 : (s1.t.kind == 5) = false := by simpa using k5
            have t4 : (s1.t.kind == 4) = false := by simpa using k4
            have t6 : (s1.t.kind == 6) = false := by simpa using k6
            have c2 : w9.cell? ⟨b, 2, none⟩ = some (.int .i64 s1.t.kind) := (HS.out.blk.cell 2).trans rfl
            refine start_ (n := 20) (S := fun w' => w'.cell? ⟨b, 2, none⟩ = some (.int .i64 s1.t.kind)) (ds := []) (m_ 20 0) (by kernel_rfl) rfl (by kernel_rfl) (c2) (fun hHeld => ?_)
            refine pu_ 0 (some 46) (m_ 20 1) rfl rfl (by kernel_rfl) (fun _ _ _ h => h) (by rfl) (by intro w'; go_simp; with_reducible rfl) (by simp only [Act.put, List.setIfInBounds_toArray, List.set_cons_zero, List.set_cons_succ, i64_w, i32_w]; rfl) ?_
            refine pu_ 1 (some 47) (m_ 20 3) rfl rfl (by kernel_rfl) (fun _ _ _ h => h) (by rfl) (by intro w'; go_simp; with_reducible rfl) (by simp only [Act.put, List.setIfInBounds_toArray, List.set_cons_zero, List.set_cons_succ, i64_w, i32_w]; rfl) ?_
            refine pu_ 2 (some 48) (m_ 20 7) rfl rfl (by kernel_rfl) (fun _ _ _ h => h) (by rfl) (by intro w'; go_simp; with_reducible rfl) (by simp only [Act.put, List.setIfInBounds_toArray, List.set_cons_zero, List.set_cons_succ, i64_w, i32_w]; rfl) ?_
            refine pu_ 3 (some 49) (m_ 20 15) rfl rfl (by kernel_rfl) (fun _ _ _ h => h) (by rfl) (by intro w'; go_simp; with_reducible rfl) (by simp only [Act.put, List.setIfInBounds_toArray, List.set_cons_zero, List.set_cons_succ, i64_w, i32_w]; rfl) ?_
            refine tk_ 4 (some 50) (m_ 20 31) rfl rfl (by kernel_rfl) (fun _ _ _ h => h) (by rfl) (by intro w' s0; go_simp; with_reducible rfl) hHeld (by simp only [Act.put, List.setIfInBounds_toArray, List.set_cons_zero, List.set_cons_succ, i64_w, i32_w]; rfl) ?_
            refine pu_ 5 (some 51) (m_ 20 63) rfl rfl (by kernel_rfl) (fun _ _ _ h => h) (by rfl) (by intro w'; go_simp; with_reducible rfl) (by simp only [Act.put, List.setIfInBounds_toArray, List.set_cons_zero, List.set_cons_succ, i64_w, i32_w]; rfl) ?_
            refine pu_ 6 (some 52) (m_ 20 127) rfl rfl (by kernel_rfl) (fun _ _ _ h => h) (by rfl) (by intro w'; go_simp; with_reducible rfl) (by simp only [Act.put, List.setIfInBounds_toArray, List.set_cons_zero, List.set_cons_succ, i64_w, i32_w]; rfl) ?_
            refine po_ 7 (some 53) (m_ 20 255) rfl rfl (by kernel_rfl) (fun _ _ _ h => h) (by rfl) (by simp only [Act.put, List.setIfInBounds_toArray, List.set_cons_zero, List.set_cons_succ, i64_w, i32_w]; rfl) ?_
            refine po_ 8 (some 54) (m_ 20 511) rfl rfl (by kernel_rfl) (fun _ _ _ h => h) (by rfl) (by simp only [Act.put, List.setIfInBounds_toArray, List.set_cons_zero, List.set_cons_succ, i64_w, i32_w]; rfl) ?_
            refine po_ 9 (some 55) (m_ 20 1023) rfl rfl (by kernel_rfl) (fun _ _ _ h => h) (by rfl) (by simp only [Act.put, List.setIfInBounds_toArray, List.set_cons_zero, List.set_cons_succ, i64_w, i32_w]; rfl) ?_
            refine po_ 10 (some 56) (m_ 20 2047) rfl rfl (by kernel_rfl) (fun _ _ _ h => h) (by rfl) (by simp only [Act.put, List.setIfInBounds_toArray, List.set_cons_zero, List.set_cons_succ, i64_w, i32_w]; rfl) ?_
            refine po_ 11 (some 57) (m_ 20 4095) rfl rfl (by kernel_rfl) (fun _ _ _ h => h) (by rfl) (by simp only [Act.put, List.setIfInBounds_toArray, List.set_cons_zero, List.set_cons_succ, i64_w, i32_w]; rfl) ?_
            refine po_ 12 (some 58) (m_ 20 8191) rfl rfl (by kernel_rfl) (fun _ _ _ h => h) (by rfl) (by simp only [Act.put, List.setIfInBounds_toArray, List.set_cons_zero, List.set_cons_succ, i64_w, i32_w]; rfl) ?_
            refine po_ 13 (some 59) (m_ 20 16383) rfl rfl (by kernel_rfl) (fun _ _ _ h => h) (by rfl) (by simp only [Act.put, List.setIfInBounds_toArray, List.set_cons_zero, List.set_cons_succ, i64_w, i32_w]; rfl) ?_
            refine po_ 14 (some 60) (m_ 20 32767) rfl rfl (by kernel_rfl) (fun _ _ _ h => h) (by rfl) (by simp only [Act.put, List.setIfInBounds_toArray, List.set_cons_zero, List.set_cons_succ, i64_w, i32_w]; rfl) ?_
            refine po_ 15 (some 61) (m_ 20 65535) rfl rfl (by kernel_rfl) (fun _ _ _ h => h) (by rfl) (by simp only [Act.put, List.setIfInBounds_toArray, List.set_cons_zero, List.set_cons_succ, i64_w, i32_w]; rfl) ?_
            refine po_ 16 (some 62) (m_ 20 131071) rfl rfl (by kernel_rfl) (fun _ _ _ h => h) (by rfl) (by simp only [Act.put, List.setIfInBounds_toArray, List.set_cons_zero, List.set_cons_succ, i64_w, i32_w]; rfl) ?_
            refine po_ 17 (some 63) (m_ 20 262143) rfl rfl (by kernel_rfl) (fun _ _ _ h => h) (by rfl) (by simp only [Act.put, List.setIfInBounds_toArray, List.set_cons_zero, List.set_cons_succ, i64_w, i32_w]; rfl) ?_
            refine pu_ 18 (some 64) (m_ 20 524287) rfl rfl (by kernel_rfl) (fun _ _ _ h => h) (by rfl) (by intro w'; go_simp; with_reducible rfl) (by simp only [Act.put, List.setIfInBounds_toArray, List.set_cons_zero, List.set_cons_succ, i64_w, i32_w]; rfl) ?_
            refine pu_ 19 (some 45) (m_ 20 1048575) rfl rfl (by kernel_rfl) (fun _ _ _ h => h) (by rfl) (by intro w'; go_simp; with_reducible rfl) (by simp only [Act.put, List.setIfInBounds_toArray, List.set_cons_zero, List.set_cons_succ, i64_w, i32_w]; rfl) ?_
            refine done_ (by kernel_rfl) ?_
            replace HS := Lib.hid HS.out.drew
            replace HD := Lib.hid HD.out.drew
            clear hHeld
            clear c2
            generalize w9.drew = w20 at *
            go_wp2
            have c2 : w20.cell? ⟨b, 2, none⟩ = some (.int .i64 s1.t.kind) := (HS.out.blk.cell 2).trans rfl
            refine start_ (n := 21) (S := fun w' => w'.cell? ⟨b, 2, none⟩ = some (.int .i64 s1.t.kind)) (ds := []) (m_ 21 0) (by kernel_rfl) rfl (by kernel_rfl) (c2) (fun hHeld => ?_)
            refine pu_ 0 (some 69) (m_ 21 1) rfl rfl (by kernel_rfl) (fun _ _ _ h => h) (by rfl) (by intro w'; go_simp; with_reducible rfl) (by simp only [Act.put, List.setIfInBounds_toArray, List.set_cons_zero, List.set_cons_succ, i64_w, i32_w]; rfl) ?_
            refine pu_ 1 (some 70) (m_ 21 3) rfl rfl (by kernel_rfl) (fun _ _ _ h => h) (by rfl) (by intro w'; go_simp; with_reducible rfl) (by simp only [Act.put, List.setIfInBounds_toArray, List.set_cons_zero, List.set_cons_succ, i64_w, i32_w]; rfl) ?_
            refine pu_ 2 (some 71) (m_ 21 7) rfl rfl (by kernel_rfl) (fun _ _ _ h => h) (by rfl) (by intro w'; go_simp; with_reducible rfl) (by simp only [Act.put, List.setIfInBounds_toArray, List.set_cons_zero, List.set_cons_succ, i64_w, i32_w]; rfl) ?_
            refine pu_ 3 (some 72) (m_ 21 15) rfl rfl (by kernel_rfl) (fun _ _ _ h => h) (by rfl) (by intro w'; go_simp; with_reducible rfl) (by simp only [Act.put, List.setIfInBounds_toArray, List.set_cons_zero, List.set_cons_succ, i64_w, i32_w]; rfl) ?_
            refine tk_ 4 (some 73) (m_ 21 31) rfl rfl (by kernel_rfl) (fun _ _ _ h => h) (by rfl) (by intro w' s0; go_simp; with_reducible rfl) hHeld (by simp only [Act.put, List.setIfInBounds_toArray, List.set_cons_zero, List.set_cons_succ, i64_w, i32_w]; rfl) ?_
            refine pu_ 5 (some 74) (m_ 21 63) rfl rfl (by kernel_rfl) (fun _ _ _ h => h) (by rfl) (by intro w'; go_simp; with_reducible rfl) (by simp only [Act.put, List.setIfInBounds_toArray, List.set_cons_zero, List.set_cons_succ, i64_w, i32_w]; rfl) ?_
            refine pu_ 6 (some 75) (m_ 21 127) rfl rfl (by kernel_rfl) (fun _ _ _ h => h) (by rfl) (by intro w'; go_simp; with_reducible rfl) (by simp only [Act.put, List.setIfInBounds_toArray, List.set_cons_zero, List.set_cons_succ, i64_w, i32_w]; rfl) ?_
            refine po_ 7 (some 76) (m_ 21 255) rfl rfl (by kernel_rfl) (fun _ _ _ h => h) (by rfl) (by simp only [Act.put, List.setIfInBounds_toArray, List.set_cons_zero, List.set_cons_succ, i64_w, i32_w]; rfl) ?_
            refine po_ 8 (some 77) (m_ 21 511) rfl rfl (by kernel_rfl) (fun _ _ _ h => h) (by rfl) (by simp only [Act.put, List.setIfInBounds_toArray, List.set_cons_zero, List.set_cons_succ, i64_w, i32_w]; rfl) ?_
            refine po_ 9 (some 78) (m_ 21 1023) rfl rfl (by kernel_rfl) (fun _ _ _ h => h) (by rfl) (by simp only [Act.put, List.setIfInBounds_toArray, List.set_cons_zero, List.set_cons_succ, i64_w, i32_w]; rfl) ?_
            refine po_ 10 (some 79) (m_ 21 2047) rfl rfl (by kernel_rfl) (fun _ _ _ h => h) (by rfl) (by simp only [Act.put, List.setIfInBounds_toArray, List.set_cons_zero, List.set_cons_succ, i64_w, i32_w]; rfl) ?_
            refine po_ 11 (some 80) (m_ 21 4095) rfl rfl (by kernel_rfl) (fun _ _ _ h => h) (by rfl) (by simp only [Act.put, List.setIfInBounds_toArray, List.set_cons_zero, List.set_cons_succ, i64_w, i32_w]; rfl) ?_
            refine po_ 12 (some 81) (m_ 21 8191) rfl rfl (by kernel_rfl) (fun _ _ _ h => h) (by rfl) (by simp only [Act.put, List.setIfInBounds_toArray, List.set_cons_zero, List.set_cons_succ, i64_w, i32_w]; rfl) ?_
            refine po_ 13 (some 82) (m_ 21 16383) rfl rfl (by kernel_rfl) (fun _ _ _ h => h) (by rfl) (by simp only [Act.put, List.setIfInBounds_toArray, List.set_cons_zero, List.set_cons_succ, i64_w, i32_w]; rfl) ?_
            refine po_ 14 (some 83) (m_ 21 32767) rfl rfl (by kernel_rfl) (fun _ _ _ h => h) (by rfl) (by simp only [Act.put, List.setIfInBounds_toArray, List.set_cons_zero, List.set_cons_succ, i64_w, i32_w]; rfl) ?_
            refine po_ 15 (some 84) (m_ 21 65535) rfl rfl (by kernel_rfl) (fun _ _ _ h => h) (by rfl) (by simp only [Act.put, List.setIfInBounds_toArray, List.set_cons_zero, List.set_cons_succ, i64_w, i32_w]; rfl) ?_
            refine po_ 16 (some 85) (m_ 21 131071) rfl rfl (by kernel_rfl) (fun _ _ _ h => h) (by rfl) (by simp only [Act.put, List.setIfInBounds_toArray, List.set_cons_zero, List.set_cons_succ, i64_w, i32_w]; rfl) ?_
            refine po_ 17 (some 86) (m_ 21 262143) rfl rfl (by kernel_rfl) (fun _ _ _ h => h) (by rfl) (by simp only [Act.put, List.setIfInBounds_toArray, List.set_cons_zero, List.set_cons_succ, i64_w, i32_w]; rfl) ?_
            refine po_ 18 (some 87) (m_ 21 524287) rfl rfl (by kernel_rfl) (fun _ _ _ h => h) (by rfl) (by simp only [Act.put, List.setIfInBounds_toArray, List.set_cons_zero, List.set_cons_succ, i64_w, i32_w]; rfl) ?_
            refine pu_ 19 (some 88) (m_ 21 1048575) rfl rfl (by kernel_rfl) (fun _ _ _ h => h) (by rfl) (by intro w'; go_simp; with_reducible rfl) (by simp only [Act.put, List.setIfInBounds_toArray, List.set_cons_zero, List.set_cons_succ, i64_w, i32_w]; rfl) ?_
            refine pu_ 20 (some 68) (m_ 21 2097151) rfl rfl (by kernel_rfl) (fun _ _ _ h => h) (by rfl) (by intro w'; go_simp; with_reducible rfl) (by simp only [Act.put, List.setIfInBounds_toArray, List.set_cons_zero, List.set_cons_succ, i64_w, i32_w]; rfl) ?_
            refine done_ (by kernel_rfl) ?_
            replace HS := Lib.hid HS.out.drew
            replace HD := Lib.hid HD.out.drew
            clear hHeld
            clear c2
            generalize w20.drew = w21 at *
            go_wp2
            have c2 : w21.cell? ⟨b, 2, none⟩ = some (.int .i64 s1.t.kind) := (HS.out.blk.cell 2).trans rfl
            refine start_ (n := 30) (S := fun w' => w'.cell? ⟨b, 2, none⟩ = some (.int .i64 s1.t.kind)) (ds := []) (m_ 30 0) (by kernel_rfl) rfl (by kernel_rfl) (c2) (fun hHeld => ?_)
            refine pu_ 0 (some 90) (m_ 30 1) rfl rfl (by kernel_rfl) (fun _ _ _ h => h) (by rfl) (by intro w'; go_simp; with_reducible rfl) (by simp only [Act.put, List.setIfInBounds_toArray, List.set_cons_zero, List.set_cons_succ, i64_w, i32_w]; rfl) ?_
            refine pu_ 1 (some 91) (m_ 30 3) rfl rfl (by kernel_rfl) (fun _ _ _ h => h) (by rfl) (by intro w'; go_simp; with_reducible rfl) (by simp only [Act.put, List.setIfInBounds_toArray, List.set_cons_zero, List.set_cons_succ, i64_w, i32_w]; rfl) ?_
            refine pu_ 2 (some 92) (m_ 30 7) rfl rfl (by kernel_rfl) (fun _ _ _ h => h) (by rfl) (by intro w'; go_simp; with_reducible rfl) (by simp only [Act.put, List.setIfInBounds_toArray, List.set_cons_zero, List.set_cons_succ, i64_w, i32_w]; rfl) ?_
            refine pu_ 3 (some 93) (m_ 30 15) rfl rfl (by kernel_rfl) (fun _ _ _ h => h) (by rfl) (by intro w'; go_simp; with_reducible rfl) (by simp only [Act.put, List.setIfInBounds_toArray, List.set_cons_zero, List.set_cons_succ, i64_w, i32_w]; rfl) ?_
            refine tk_ 4 (some 94) (m_ 30 31) rfl rfl (by kernel_rfl) (fun _ _ _ h => h) (by rfl) (by intro w' s0; go_simp; with_reducible rfl) hHeld (by simp only [Act.put, List.setIfInBounds_toArray, List.set_cons_zero, List.set_cons_succ, i64_w, i32_w]; rfl) ?_
            refine pu_ 5 (some 95) (m_ 30 63) rfl rfl (by kernel_rfl) (fun _ _ _ h => h) (by rfl) (by intro w'; go_simp; with_reducible rfl) (by simp only [Act.put, List.setIfInBounds_toArray, List.set_cons_zero, List.set_cons_succ, i64_w, i32_w]; rfl) ?_
            refine pu_ 6 (some 96) (m_ 30 127) rfl rfl (by kernel_rfl) (fun _ _ _ h => h) (by rfl) (by intro w'; go_simp; with_reducible rfl) (by simp only [Act.put, List.setIfInBounds_toArray, List.set_cons_zero, List.set_cons_succ, i64_w, i32_w]; rfl) ?_
            refine pu_ 7 (some 97) (m_ 30 255) rfl rfl (by kernel_rfl) (fun _ _ _ h => h) (by rfl) (by intro w'; go_simp; with_reducible rfl) (by simp only [Act.put, List.setIfInBounds_toArray, List.set_cons_zero, List.set_cons_succ, i64_w, i32_w]; rfl) ?_
            refine pu_ 8 (some 98) (m_ 30 511) rfl rfl (by kernel_rfl) (fun _ _ _ h => h) (by rfl) (by intro w'; go_simp; with_reducible rfl) (by simp only [Act.put, List.setIfInBounds_toArray, List.set_cons_zero, List.set_cons_succ, i64_w, i32_w]; rfl) ?_
            refine pu_ 9 (some 99) (m_ 30 1023) rfl rfl (by kernel_rfl) (fun _ _ _ h => h) (by rfl) (by intro w'; go_simp; with_reducible rfl) (by simp only [Act.put, List.setIfInBounds_toArray, List.set_cons_zero, List.set_cons_succ, i64_w, i32_w]; rfl) ?_
            refine pu_ 10 (some 100) (m_ 30 2047) rfl rfl (by kernel_rfl) (fun _ _ _ h => h) (by rfl) (by intro w'; go_simp; with_reducible rfl) (by simp only [Act.put, List.setIfInBounds_toArray, List.set_cons_zero, List.set_cons_succ, i64_w, i32_w]; rfl) ?_
            refine tk_ 11 (some 101) (m_ 30 4095) rfl rfl (by kernel_rfl) (fun _ _ _ h => h) (by rfl) (by intro w' s0; go_simp; with_reducible rfl) hHeld (by simp only [Act.put, List.setIfInBounds_toArray, List.set_cons_zero, List.set_cons_succ, i64_w, i32_w]; rfl) ?_
            refine pu_ 12 (some 102) (m_ 30 8191) rfl rfl (by kernel_rfl) (fun _ _ _ h => h) (by rfl) (by intro w'; go_simp; with_reducible rfl) (by simp only [Act.put, List.setIfInBounds_toArray, List.set_cons_zero, List.set_cons_succ, i64_w, i32_w]; rfl) ?_
            refine pu_ 13 (some 103) (m_ 30 16383) rfl rfl (by kernel_rfl) (fun _ _ _ h => h) (by rfl) (by intro w'; go_simp; with_reducible rfl) (by simp only [Act.put, List.setIfInBounds_toArray, List.set_cons_zero, List.set_cons_succ, i64_w, i32_w]; rfl) ?_
            refine po_ 14 (some 104) (m_ 30 32767) rfl rfl (by kernel_rfl) (fun _ _ _ h => h) (by rfl) (by simp only [Act.put, List.setIfInBounds_toArray, List.set_cons_zero, List.set_cons_succ, i64_w, i32_w]; rfl) ?_
            refine po_ 15 (some 105) (m_ 30 65535) rfl rfl (by kernel_rfl) (fun _ _ _ h => h) (by rfl) (by simp only [Act.put, List.setIfInBounds_toArray, List.set_cons_zero, List.set_cons_succ, i64_w, i32_w]; rfl) ?_
            refine po_ 16 (some 106) (m_ 30 131071) rfl rfl (by kernel_rfl) (fun _ _ _ h => h) (by rfl) (by simp only [Act.put, List.setIfInBounds_toArray, List.set_cons_zero, List.set_cons_succ, i64_w, i32_w]; rfl) ?_
            refine po_ 17 (some 107) (m_ 30 262143) rfl rfl (by kernel_rfl) (fun _ _ _ h => h) (by rfl) (by simp only [Act.put, List.setIfInBounds_toArray, List.set_cons_zero, List.set_cons_succ, i64_w, i32_w]; rfl) ?_
            refine po_ 18 (some 108) (m_ 30 524287) rfl rfl (by kernel_rfl) (fun _ _ _ h => h) (by rfl) (by simp only [Act.put, List.setIfInBounds_toArray, List.set_cons_zero, List.set_cons_succ, i64_w, i32_w]; rfl) ?_
            refine po_ 19 (some 109) (m_ 30 1048575) rfl rfl (by kernel_rfl) (fun _ _ _ h => h) (by rfl) (by simp only [Act.put, List.setIfInBounds_toArray, List.set_cons_zero, List.set_cons_succ, i64_w, i32_w]; rfl) ?_
            refine po_ 20 (some 110) (m_ 30 2097151) rfl rfl (by kernel_rfl) (fun _ _ _ h => h) (by rfl) (by simp only [Act.put, List.setIfInBounds_toArray, List.set_cons_zero, List.set_cons_succ, i64_w, i32_w]; rfl) ?_
            refine po_ 21 (some 111) (m_ 30 4194303) rfl rfl (by kernel_rfl) (fun _ _ _ h => h) (by rfl) (by simp only [Act.put, List.setIfInBounds_toArray, List.set_cons_zero, List.set_cons_succ, i64_w, i32_w]; rfl) ?_
            refine po_ 22 (some 112) (m_ 30 8388607) rfl rfl (by kernel_rfl) (fun _ _ _ h => h) (by rfl) (by simp only [Act.put, List.setIfInBounds_toArray, List.set_cons_zero, List.set_cons_succ, i64_w, i32_w]; rfl) ?_
            refine po_ 23 (some 113) (m_ 30 16777215) rfl rfl (by kernel_rfl) (fun _ _ _ h => h) (by rfl) (by simp only [Act.put, List.setIfInBounds_toArray, List.set_cons_zero, List.set_cons_succ, i64_w, i32_w]; rfl) ?_
            refine pu_ 24 (some 114) (m_ 30 33554431) rfl rfl (by kernel_rfl) (fun _ _ _ h => h) (by rfl) (by intro w'; go_simp; with_reducible rfl) (by simp only [Act.put, List.setIfInBounds_toArray, List.set_cons_zero, List.set_cons_succ, i64_w, i32_w]; rfl) ?_
            refine pu_ 25 (some 115) (m_ 30 67108863) rfl rfl (by kernel_rfl) (fun _ _ _ h => h) (by rfl) (by intro w'; go_simp; with_reducible rfl) (by simp only [Act.put, List.setIfInBounds_toArray, List.set_cons_zero, List.set_cons_succ, i64_w, i32_w]; rfl) ?_
            refine pu_ 26 (some 116) (m_ 30 134217727) rfl rfl (by kernel_rfl) (fun _ _ _ h => h) (by rfl) (by intro w'; go_simp; with_reducible rfl) (by simp only [Act.put, List.setIfInBounds_toArray, List.set_cons_zero, List.set_cons_succ, i64_w, i32_w]; rfl) ?_
            refine pu_ 27 (some 117) (m_ 30 268435455) rfl rfl (by kernel_rfl) (fun _ _ _ h => h) (by rfl) (by intro w'; go_simp; with_reducible rfl) (by simp only [Act.put, List.setIfInBounds_toArray, List.set_cons_zero, List.set_cons_succ, i64_w, i32_w]; rfl) ?_
            refine pu_ 28 (some 118) (m_ 30 536870911) rfl rfl (by kernel_rfl) (fun _ _ _ h => h) (by rfl) (by intro w'; go_simp; with_reducible rfl) (by simp only [Act.put, List.setIfInBounds_toArray, List.set_cons_zero, List.set_cons_succ, i64_w, i32_w]; rfl) ?_
            refine pu_ 29 (some 89) (m_ 30 1073741823) rfl rfl (by kernel_rfl) (fun _ _ _ h => h) (by rfl) (by intro w'; go_simp; with_reducible rfl) (by simp only [Act.put, List.setIfInBounds_toArray, List.set_cons_zero, List.set_cons_succ, i64_w, i32_w]; rfl) ?_
            refine done_ (by kernel_rfl) ?_
            replace HS := Lib.hid HS.out.drew
            replace HD := Lib.hid HD.out.drew
            clear hHeld
            clear c2
            generalize w21.drew = w22 at *
            cases E with
            | false =>
              have hv := Lib.hid (show lookS s1 = s1.state by rw [hst]; unfold lookS; rw [if_neg (by rw [hst]; decide), if_neg (fun h => k5 h.1), if_neg k4, if_neg (fun h => k6 h.1), if_neg (by rw [hE.out]; decide)])
              have c19 : w22.cell? ⟨b, 19, none⟩ = some (.int .i64 s1.state) := (HS.out.blk.cell 19).trans rfl
              go_wp2
              go_ret
              have he : ({ s1 with state := lookS s1 } : Sg) = s1 := by rw [hv.out]
              rw [he]
              exact ⟨by rw [hv.out]; first | rfl | (rw [hst]; rfl), HS.out, HD.out⟩
            | true =>
              have hv := Lib.hid (show lookS s1 = 1 by unfold lookS; rw [if_neg (by rw [hst]; decide), if_neg (fun h => k5 h.1), if_neg k4, if_neg (fun h => k6 h.1), if_pos hE.out])
              have f19 := HS.out.blk.free 19
              have hbl : b < w22.heap.size := HS.out.lt HS.out.mine
              have c19 : w22.cell? ⟨b, 19, none⟩ = some (.int .i64 s1.state) := (HS.out.blk.cell 19).trans rfl
              go_wp2
              go_ret
              exact ⟨by rw [hv.out]; rfl, HS.out.set 19 _ _ (by rw [hv.out]; rfl) rfl, HD.out.setCell (.inl HS.out.mine) _⟩
    · have tn : (s1.state != 0) = true := by simpa using hst
      clear c19
      have hv := Lib.hid (show lookS s1 = s1.state by unfold lookS; rw [if_pos hst])
      have c19 : w9.cell? ⟨b, 19, none⟩ = some (.int .i64 s1.state) := (HS.out.blk.cell 19).trans rfl
      go_wp2
      go_ret
      have he : ({ s1 with state := lookS s1 } : Sg) = s1 := by rw [hv.out]
      rw [he]
      exact ⟨by rw [hv.out]; first | rfl | (rw [hst]; rfl), HS.out, HD.out⟩
end Go.Proofs.Ytehpliclknfmoaa.Stage
