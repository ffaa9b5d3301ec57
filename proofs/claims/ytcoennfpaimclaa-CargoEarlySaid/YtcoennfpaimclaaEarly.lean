/- The law CargoEarly (chapter 07). Conditions: each text is shorter than 2^47 bytes. -/
import Derived.Test.YtcoennfpaimclaaLive
namespace Go.Proofs.Ytcoennfpaimclaa.Cargo
open Go.RowKit Mem Tick
set_option maxRecDepth 100000
set_option linter.unusedVariables false
set_option linter.unusedSimpArgs false
theorem takeN_all (now : Int) (ps : List Pc) : takeN now (tot ps) ps = rdy now ps := by
  have := rdy_le now ps
  unfold takeN
  omega
theorem takeN_none (now m : Int) (ps : List Pc) (h : rdy now ps = 0) : takeN now m ps = 0 := by
  unfold takeN
  omega
theorem early_few (v : Value) (l : List Op4) (now : Int) (w : World) (hv : Script w v l) (hf : fewB l = false) :
    Calls Try.prog 8 #[v, .int .i64 now] w fun e w' => e = .returned (.bool true) ∧ Below w.heap.size w w' := by
  have hv' := Lib.hid hv
  have hf' := Lib.hid hf
  clear hv hf
  go_enter Try.func8, Try.ntmps8
  go_wp2_with fail
  refine (live_new w _ (Below.refl _ _)).mono ?_
  rintro e w0 ⟨b, rfl, hL, hB⟩
  have hL0 := Lib.hid hL
  clear hL hB
  go_wp2_with fail
  refine (few_any _ l _ (hv'.out.below hL0.out.old)).mono ?_
  rintro e w1 ⟨rfl, hB⟩
  have hH1 := Lib.hid (hL0.out.below hB)
  clear hB hL0
  rw [hf'.out]
  go_wp2_with (go_at_call 12; (with_reducible refine (alive_any _).mono ?_); rintro e w2 ⟨rfl, hB2⟩; have hB2' := Lib.hid hB2; clear hB2)
  go_ret
  exact ⟨by simp, hH1.out.old.trans (hB2'.out.mono hH1.out.old.size)⟩
theorem early_yes (v : Value) (l : List Op4) (now : Int) (w : World) (hv : Script w v l) (hf : fewB l = true) :
    Calls Try.prog 8 #[v, .int .i64 now] w fun e w' => e = .returned (.bool true) ∧ Below w.heap.size w w' := by
  have hn5 : bytesOf l ≤ 5000 := by simp [fewB] at hf; exact hf.2
  have hl2 : l.length ≤ 200 := by simp [fewB] at hf; exact hf.1
  have hv' := Lib.hid hv
  have hf' := Lib.hid hf
  obtain ⟨a, cap, rfl, hmx, -, hA⟩ := hv
  clear hf
  go_enter Try.func8, Try.ntmps8
  go_wp2_with fail
  refine (live_new w _ (Below.refl _ _)).mono ?_
  rintro e w0 ⟨b, rfl, hL, hB⟩
  have hL0 := Lib.hid hL
  clear hL hB
  go_wp2_with fail
  refine (few_any _ l _ (hv'.out.below hL0.out.old)).mono ?_
  rintro e w1 ⟨rfl, hB⟩
  have hH1 := Lib.hid (hL0.out.below hB)
  clear hB hL0
  rw [hf'.out]
  go_wp2
  go_loopw [29] (fun iv wr => ∃ (k : Nat) (x : St), k ≤ l.length ∧ iv = .int .i64 k ∧ Live w wr b x ∧ tot x.1 ≤ bytesOf (l.take k)) (fun iv _ => l.length - (intOf iv).toNat)
  case atStart => exact ⟨0, ([], 0), by omega, rfl, hH1.out, Nat.zero_le _⟩
  case round =>
    obtain ⟨k, x, hk, rfl, hL, hT⟩ := hrel
    clear hH1
    by_cases hlt : k < l.length
    · obtain ⟨g, oo, rfl, hc⟩ := hA (by intro h; subst h; simp at hlt)
      have hx : l[k]? = some l[k] := List.getElem?_eq_getElem hlt
      obtain ⟨d0, d1, d2, d3⟩ := hc k _ hx
      have hbt := Lib.hid (bytesOf_take l k _ hx)
      have hble := bytesOf_le l (k + 1)
      rw [hbt.out] at hble
      have hts := tot_stp x l[k]
      generalize l[k] = p at *
      obtain ⟨p0, p1, p2, p3⟩ := p
      dsimp only at *
      have d0' := bcells hL.old d0
      have d1' := bcells hL.old d1
      have d2' := bcells hL.old d2
      have d3' := bcells hL.old d3
      have hL' := Lib.hid hL
      have hsz := hL.old.size
      clear hc hx d0 d1 d2 d3 hL
      go_wp2_with fail
      refine (live_does (hL'.out.below ((Below.refl _ _).alloc (Nat.le_refl _) _)) (p0, p1, p2, p3) (by dsimp only; omega) (by omega)).mono ?_
      rintro e w2 ⟨rfl, hL2, -⟩
      have hL2' := Lib.hid hL2
      clear hL2
      go_wp2
      go_roundw
      case rel => exact ⟨k + 1, stp x (p0, p1, p2, p3), by omega, by go_num, hL2'.out, by rw [hbt.out]; omega⟩
      case measure => simp [intOf]; omega
    · have hk2 : k = l.length := by omega
      subst hk2
      have hnl : ¬ (l.length < l.length) := by omega
      have hble := bytesOf_le l l.length
      have hz1 : tot x.1 ≤ 5000 := by omega
      have hL1 := Lib.hid hL
      clear hL hA
      go_wp2_with fail
      refine (live_ready now hL1.out (by omega)).mono ?_
      rintro e w2 ⟨rfl, hL, -⟩
      have hL2 := Lib.hid hL
      clear hL
      go_wp2_with fail
      refine (live_list hL2.out (by omega)).mono ?_
      rintro e w3 ⟨v3, rfl, hF, hL⟩
      obtain ⟨A3, c3, rfl, hlc3, hm3, hA3⟩ := row_view hF.1
      have hL3 := Lib.hid hL
      have hrd := rdy_le now x.1
      have hg := Lib.hid hL.good
      clear hL hF
      obtain ⟨wo, hwo⟩ : ∃ wo, wo = wr := ⟨_, rfl⟩
      clear hwo
      go_wp2
      go_loopw [8, 43] (fun nv iv wr => ∃ j : Nat, j ≤ x.1.length ∧ iv = .int .i64 j ∧ nv = .int .i64 ((rdy now x.1 : Int) - rdy now (x.1.take j)) ∧ Below w3.heap.size w3 wr) (fun _ iv _ => x.1.length - (intOf iv).toNat)
      case atStart => exact ⟨0, by omega, rfl, by simp [rdy], Below.refl _ _⟩
      case round =>
        obtain ⟨j, hj, rfl, rfl, hB⟩ := hrel
        by_cases hjl : j < x.1.length
        · obtain ⟨g3, o3, rfl, hc3⟩ := hA3 (by intro h; rw [h] at hjl; simp at hjl)
          have hx3 : x.1[j]? = some x.1[j] := List.getElem?_eq_getElem hjl
          obtain ⟨e0, e1⟩ := hc3 j _ hx3
          have hrt := Lib.hid (rdy_take now x.1 j _ hx3)
          have hrl := rdy_take_le now x.1 (j + 1)
          have hrl0 := rdy_take_le now x.1 j
          rw [hrt.out] at hrl
          generalize x.1[j] = q at *
          have e0' := bcells hB e0
          have e1' := bcells hB e1
          generalize hs1 : rdy now (x.1.take (j + 1)) = s1 at *
          have hs1' := Lib.hid hs1
          generalize rdy now (x.1.take j) = s0 at *
          have hsz3 := hB.size
          have hB' := Lib.hid hB
          clear hc3 hx3 hA3 e0 e1 hs1 hB
          by_cases hqn : q.1 ≤ now
          · rw [if_pos hqn] at hrl hrt
            have hd : decide (q.1 ≤ now) = true := decide_eq_true hqn
            clear hqn
            go_wp2
            go_roundw
            case rel => exact ⟨j + 1, by omega, by go_num, by rw [hs1'.out, hrt.out]; congr 1; omega, hB'.out.alloc hB'.out.size _⟩
            case measure => simp [intOf]; omega
          · rw [if_neg hqn] at hrl hrt
            have hd : decide (q.1 ≤ now) = false := decide_eq_false hqn
            clear hqn
            go_wp2
            go_roundw
            case rel => exact ⟨j + 1, by omega, by go_num, by rw [hs1'.out, hrt.out]; congr 1, hB'.out.alloc hB'.out.size _⟩
            case measure => simp [intOf]; omega
        · have hj2 : j = x.1.length := by omega
          subst hj2
          have hnl3 : ¬ (x.1.length < x.1.length) := by omega
          rw [List.take_length]
          have hn0 : (rdy now x.1 : Int) - rdy now x.1 = 0 := by omega
          have hn0' := Lib.hid hn0
          have hL4 := Lib.hid (hL3.out.below hB)
          clear hB hA3 hn0
          go_wp2_with fail
          refine (live_len hL4.out (by omega)).mono ?_
          rintro e w5 ⟨rfl, hL, -⟩
          have hL5 := Lib.hid hL
          clear hL
          go_wp2_with fail
          refine (live_take now (tot x.1) hL5.out (by omega)).mono ?_
          rintro e w6 ⟨A6, c6, rfl, -, hL, -⟩
          have ht6 := tot_takeP (rdy now x.1) x.1
          have hr6 := rdy_takeP now (rdy now x.1) x.1 hg.out.2.1 (Nat.le_refl _)
          have hs6 := size_takeP (rdy now x.1) x.1 hrd
          rw [takeN_all] at hL ⊢
          have hg6 := hL.good
          have hlate := rest_late (now := now) hg6.2.1 hg6.1 (show rdy now (takeP (rdy now x.1) x.1).2 = 0 by omega)
          dsimp only at hlate
          rw [hs6]
          generalize takeP (rdy now x.1) x.1 = R at *
          obtain ⟨R1, R2⟩ := R
          dsimp only at *
          have hL6 := Lib.hid hL
          have hr60 : rdy now R2 = 0 := by omega
          have hr60' := Lib.hid hr60
          have htn := Lib.hid (takeN_none now 1000 R2 hr60)
          have hlate' := Lib.hid hlate
          have hle5 : rdy now x.1 ≤ 5000 := by omega
          have hdz : decide ((rdy now x.1 : Int) ≤ 5000) = true := decide_eq_true (by omega)
          clear hL hg6 hlate hr6 hr60 hs6
          go_wp2_with fail
          refine (live_next hL6.out).mono ?_
          rintro e w7 ⟨rfl, rfl⟩
          cases R2 with
          | nil =>
            dsimp only [List.isEmpty_nil, Bool.not_true]
            go_wp2_with fail
            refine (alive_any _).mono ?_
            rintro e w8 ⟨rfl, hB8⟩
            have hL8 := Lib.hid (hL6.out.below hB8)
            clear hB8
            go_wp2_with fail
            refine (live_ready now hL8.out (Nat.zero_le _)).mono ?_
            rintro e w9 ⟨rfl, hL, -⟩
            have hL9 := Lib.hid hL
            clear hL
            dsimp only
            rw [hr60'.out]
            go_wp2_with fail
            refine (live_take now 1000 hL9.out (Nat.zero_le _)).mono ?_
            rintro e w10 ⟨A10, c10, rfl, -, hL, -⟩
            have hL10 := Lib.hid hL.old
            clear hL
            dsimp only
            rw [htn.out, takeP_zero]
            go_wp2
            go_ret
            exact ⟨by simp, hL10.out⟩
          | cons q r =>
            have hqn : now < q.1 := hlate'.out q.1 (by simp [ats])
            have hdq : decide (now < q.1) = true := decide_eq_true hqn
            clear hqn
            have hnx : nxt (q :: r) = q.1 := rfl
            dsimp only [List.isEmpty_cons, Bool.not_false]
            rw [hnx]
            clear hnx
            go_wp2_with fail
            refine (alive_any _).mono ?_
            rintro e w8 ⟨rfl, hB8⟩
            have hL8 := Lib.hid (hL6.out.below hB8)
            clear hB8
            have htq : tot (q :: r) ≤ 5000 := by omega
            go_wp2_with fail
            refine (live_ready now hL8.out (by dsimp only; omega)).mono ?_
            rintro e w9 ⟨rfl, hL, -⟩
            have hL9 := Lib.hid hL
            clear hL
            dsimp only
            rw [hr60'.out]
            go_wp2_with fail
            refine (live_take now 1000 hL9.out (by dsimp only; omega)).mono ?_
            rintro e w10 ⟨A10, c10, rfl, -, hL, -⟩
            have hL10 := Lib.hid hL.old
            clear hL
            dsimp only
            rw [htn.out, takeP_zero]
            go_wp2
            go_ret
            exact ⟨by simp, hL10.out⟩
theorem early_any (v : Value) (l : List Op4) (now : Int) (w : World) (hv : Script w v l) :
    Calls Try.prog 8 #[v, .int .i64 now] w fun e w' => e = .returned (.bool true) ∧ Below w.heap.size w w' := by
  cases hf : fewB l with
  | false => exact early_few v l now w hv hf
  | true => exact early_yes v l now w hv hf
end Go.Proofs.Ytcoennfpaimclaa.Cargo
