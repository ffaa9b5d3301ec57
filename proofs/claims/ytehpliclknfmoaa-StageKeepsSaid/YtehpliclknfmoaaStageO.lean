/- alive (chapter 10). Conditions: none. -/
import Derived.Test.YtehpliclknfmoaaStageN
import Derived.Test.YtehpliclknfmoaaAlive7
import Derived.Lib.SlBytesConst
namespace Go.Proofs.Ytehpliclknfmoaa.Stage
open Go.RowKit Mem Tick Cargo Toxic
set_option maxRecDepth 100000
set_option linter.unusedVariables false
set_option linter.unusedSimpArgs false
def aT : Tox := ⟨⟨#[97]⟩, 1, false, 100, 5, 0⟩
theorem al0 : newE aT 9 = 0 := by
  have hp : passB aT = false := by simp [passB, sameT, noTox, aT]
  have hc : chk aT = 0 := by decide
  unfold newE
  rw [if_neg (fun h => h.2 hc)]
  decide
def S1 : Sg := { new0 aT 7 9 0 with dice := Ref02.rangeS 7 5 5, c := ([(5, sAB)], 5) }
theorem al1 : putS (newS aT 7 9 0) 0 sAB = S1 := by
  have h0 : newS aT 7 9 0 = new0 aT 7 9 0 := if_neg (by decide)
  rw [h0]
  have h1 : lookP (new0 aT 7 9 0) 0 = new0 aT 7 9 0 := by rfl
  unfold putS
  rw [h1, if_neg (by decide)]
  have h2 : sAB.extract 0 (roomFor (new0 aT 7 9 0) sAB) = sAB := by rfl
  rw [h2]
  unfold forceP
  rw [h1, if_neg (by decide)]
  unfold putIn
  have h3 : (diceP (new0 aT 7 9 0)).c = ([], 0) := by rfl
  have h4 : whenP (new0 aT 7 9 0) = 5 := by kernel_rfl
  rw [h3, h4]
  show ({ diceP (new0 aT 7 9 0) with c := (addP [] (putAt 0 5) sAB, putLast 0 5 sAB) } : Sg) = S1
  rw [alive_e1.1, alive_e2.1, alive_e5.1]
  kernel_rfl
theorem al2 : putN (newS aT 7 9 0) 0 sAB = 2 := by rfl
theorem al3 : takeB S1 4 9 = ⟨#[]⟩ := by rfl
def S2 : Sg := takeS S1 4 9
theorem al4 : takeB S2 5 1 = ⟨#[97]⟩ := by rfl
def S3 : Sg := takeS S2 5 1
def S4 : Sg := lookP (closeP S3 5) 5
theorem al5 : S4.state = 0 := by rfl
theorem al6 : takeB S4 6 9 = ⟨#[98]⟩ := by rfl
def S5 : Sg := takeS S4 6 9
theorem al7 : (lookP S5 6).state = 1 := by rfl
theorem al8 : (lookP S5 6).passed = 2 := by rfl
theorem al9 : held (lookP S5 6) = 0 := by rfl
theorem al10 : held (newS aT 7 9 0) = 0 ∧ held S1 = 2 ∧ held S2 = 2 ∧ held S3 = 1 ∧ held S4 = 1 ∧ held S5 = 0 := by refine ⟨?_, ?_, ?_, ?_, ?_, ?_⟩ <;> rfl
theorem al11 : S1.passed = 0 ∧ S2.passed = 0 ∧ S4.passed = 1 := by refine ⟨?_, ?_, ?_⟩ <;> rfl
theorem held_close (s : Sg) (n : Int) : held (closeP s n) = held s := by unfold closeP; split <;> rfl
theorem bs_ab (w : World) : BS (w.alloc (.cells #[.int .u8 97, .int .u8 98] 5 (2, 3))) (some ⟨w.heap.size, 0, none⟩) sAB := sAB_of w
theorem alive_any (w : World) : Calls Try.prog 9 #[] w fun e w' => e = .returned (.bool true) ∧ Below w.heap.size w w' := by
  have hn := fun (wr : World) (hB : Below w.heap.size w wr) => live_new (w := w) (wr := wr) aT 7 9 0 al0 hB
  go_enter Try.func9, Try.ntmps9
  go_wp2_with fail
  refine (hn _ (Below.refl _ _)).mono ?_
  rintro e w0 ⟨b, k, rfl, HL, hB⟩
  have H0 := Lib.hid HL
  clear hn HL hB
  have k1 := Lib.run_convert_bytes_const (P := Try.prog) w0 37 5 #[.int .u8 97, .int .u8 98] 2 2 Try.underlying37 Try.underlying5
  go_wp2_with fail
  refine (live_put H0.out ((Below.refl w0.heap.size w0).alloc (Nat.le_refl _) _) 0 _ 2 sAB (by decide) (sAB_of w0) (fun g o e => by injection e with e; injection e with e; omega) (by rw [al10.1]; decide)).mono ?_
  rintro e w1 ⟨rfl, HL, -⟩
  rw [al1] at HL
  rw [al2]
  have H1 := Lib.hid HL
  clear k1 HL H0
  go_wp2_with fail
  refine (live_take H1.out 4 9 (by rw [al11.1]; decide) (by rw [al10.2.1]; decide)).mono ?_
  rintro e w2 ⟨A2, c2, rfl, -, -, HL, -⟩
  rw [al3]
  have H2 := Lib.hid (show LiveS w w2 b k S2 from HL)
  clear HL H1
  obtain ⟨F, hC2, hF, hB2, hG2⟩ := H2.out
  have HF := Lib.hid (show (∀ j, F j → w.heap.size ≤ j) ∧ Below w.heap.size w w2 from ⟨hF, hB2⟩)
  have HC2 := Lib.hid hC2
  have hOk2 := Lib.hid hG2
  clear H2 hC2 hF hB2 hG2
  go_wp2_with fail
  refine (take_any HC2.out hOk2.out.good.1 (hOk2.out.fit (by rw [al11.2.1]; decide)) (by rw [al10.2.2.1]; decide) 5 1).mono ?_
  rintro e w3 ⟨A3, c3, rfl, hb3, hC3, hD3, hN3⟩
  have HO := Lib.hid (show BS.Off A3 F from fun g o e hf => by have := HC2.out.lt hf; have := hN3 g o e; omega)
  rw [al4] at hb3 ⊢
  have HC3 := Lib.hid (show SG w3 F b k S3 from hC3)
  have HD3 := Lib.hid hD3
  have HB3 := Lib.hid hb3
  clear hb3 hC3 hD3 hN3
  go_wp2_with fail
  refine (close_any HC3.out 5).mono ?_
  rintro e w4 ⟨rfl, hC4, hD4⟩
  have HC4 := Lib.hid hC4
  have HD4 := Lib.hid (HD3.out.trans (Stem.refl _ _) hD4)
  have HB4 := Lib.hid (BS_did HB3.out HO.out hD4)
  clear hC4 hD4 HC3 HD3 HB3
  go_wp2_with fail
  refine (state_any HC4.out (by rw [held_close, al10.2.2.2.1]; decide) 5).mono ?_
  rintro e w5 ⟨rfl, hC5, hD5⟩
  rw [show (lookP (closeP S3 5) 5).state = 0 from al5]
  have HC5 := Lib.hid (show SG w5 F b k S4 from hC5)
  have HD5 := Lib.hid (HD4.out.trans (Stem.refl _ _) hD5)
  have HB5 := Lib.hid (BS_did HB4.out HO.out hD5)
  have hOk4 := Lib.hid (show Ok S4 from (((hOk2.out.take 5 1).close 5).look 5))
  clear hC5 hD5 HC4 HD4 HB4
  go_wp2_with fail
  refine (take_any HC5.out hOk4.out.good.1 (hOk4.out.fit (by rw [al11.2.2]; decide)) (by rw [al10.2.2.2.2.1]; decide) 6 9).mono ?_
  rintro e w6 ⟨A6, c6, rfl, hb6, hC6, hD6, hN6⟩
  rw [al6] at hb6 ⊢
  have hcv3 : (convert 37 9 (.slice A3 1 c3)).run Try.prog w6 = .ok (.string ⟨#[97]⟩) w6 := conv_bytes c3 (BS_did HB5.out HO.out hD6)
  have hcv6 : (convert 37 9 (.slice A6 1 c6)).run Try.prog w6 = .ok (.string ⟨#[98]⟩) w6 := conv_bytes c6 hb6
  have HC6 := Lib.hid (show SG w6 F b k S5 from hC6)
  have HD6 := Lib.hid (HD5.out.trans (Stem.refl _ _) hD6)
  clear hb6 hC6 hD6 hN6 HC5 HD5 HB5
  have e2 : (⟨#[98]⟩ : ByteArray).size = 1 := rfl
  rw [e2]
  clear e2
  go_wp2_with (first
    | (go_at_call 17; (with_reducible refine (state_any HC6.out (by rw [al10.2.2.2.2.2]; decide) 6).mono ?_); rintro e w7 ⟨rfl, hC7, hD7⟩; rw [al7]; have HC7 := Lib.hid hC7; have HD7 := Lib.hid (HD6.out.trans (Stem.refl _ _) hD7); clear hC7 hD7)
    | (go_at_call 21; (with_reducible refine (passed_any HC7.out).mono ?_); rintro e w8 ⟨rfl, rfl⟩; rw [al8])
    | (go_at_call 13; (with_reducible refine (held_any HC7.out (by rw [al9]; decide)).mono ?_); rintro e w9 ⟨rfl, hB9⟩; rw [al9]; have HB9 := Lib.hid hB9; clear hB9))
  go_ret
  exact ⟨by simp, HF.out.2.trans ((HD7.out.below HF.out.2.size HF.out.1).trans (HB9.out.mono (Nat.le_trans HF.out.2.size HD7.out.size)))⟩
end Go.Proofs.Ytehpliclknfmoaa.Stage
