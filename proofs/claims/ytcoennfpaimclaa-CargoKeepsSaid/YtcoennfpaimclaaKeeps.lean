/- The law CargoKeeps (chapter 07). Conditions: each text is shorter than 2^47 bytes. -/
import Derived.Test.YtcoennfpaimclaaCargoP
namespace Go.Proofs.Ytcoennfpaimclaa.Cargo
open Go.RowKit Mem Tick
set_option maxRecDepth 100000
set_option linter.unusedVariables false
set_option linter.unusedSimpArgs false
theorem keeps_no (v : Value) (l : List Op4) (w : World) (hv : Script w v l) (hf : fewB l = false) :
    Calls Try.prog 3 #[v] w fun e w' => e = .returned (.bool true) ∧ Below w.heap.size w w' := by
  have hv' := Lib.hid hv
  have hf' := Lib.hid hf
  clear hv hf
  go_enter Try.func3, Try.ntmps3
  go_wp2_with fail
  refine (new_any _).mono ?_
  rintro e w0 ⟨b, F, rfl, hC, hF, hB⟩
  have hB0 := Lib.hid hB
  clear hC hF hB
  go_wp2_with fail
  refine (few_any v l _ (hv'.out.below hB0.out)).mono ?_
  rintro e w1 ⟨rfl, hB⟩
  have hB1 := Lib.hid (hB0.out.trans (hB.mono hB0.out.size))
  clear hB hB0
  rw [hf'.out]
  go_wp2_with (go_at_call 12; (with_reducible refine (alive_any _).mono ?_); rintro e w2 ⟨rfl, hB2⟩; have hB2' := Lib.hid hB2; clear hB2)
  go_ret
  exact ⟨by simp, hB1.out.trans (hB2'.out.mono hB1.out.size)⟩
theorem keeps_yes (v : Value) (l : List Op4) (w : World) (hv : Script w v l) (hf : fewB l = true) :
    Calls Try.prog 3 #[v] w fun e w' => e = .returned (.bool true) ∧ Below w.heap.size w w' := by
  have hv' := Lib.hid hv
  have hf' := Lib.hid hf
  have hn5 : bytesOf l ≤ 5000 := by simp [fewB] at hf; exact hf.2
  have hl2 : l.length ≤ 200 := by simp [fewB] at hf; exact hf.1
  obtain ⟨a, cap, rfl, hmx, -, hA⟩ := hv
  clear hf
  go_enter Try.func3, Try.ntmps3
  go_wp2_with fail
  refine (new_any _).mono ?_
  rintro e w0 ⟨b, F, rfl, hC, hF, hB⟩
  have hH0 := Lib.hid (show CG w0 F b [] 0 ∧ (∀ k, F k → w.heap.size ≤ k) ∧ Below w.heap.size w w0 from ⟨hC, hF, hB⟩)
  clear hC hF hB
  go_wp2_with fail
  refine (few_any _ l _ (hv'.out.below hH0.out.2.2)).mono ?_
  rintro e w1 ⟨rfl, hB⟩
  have hH1 := Lib.hid (show CG w1 F b [] 0 ∧ (∀ k, F k → w.heap.size ≤ k) ∧ Below w.heap.size w w1 from ⟨hH0.out.1.below hB, hH0.out.2.1, hH0.out.2.2.trans (hB.mono hH0.out.2.2.size)⟩)
  clear hB hH0
  rw [hf'.out]
  go_wp2
  go_loopw [4, 5, 25] (fun nv ov iv wr => ∃ (k : Nat) (x : St) (F' : Nat → Prop) (i o : ByteArray), k ≤ l.length ∧ iv = .int .i64 k ∧ nv = .string i ∧ ov = .string o ∧ CG wr F' b x.1 x.2 ∧ (∀ k, F' k → w.heap.size ≤ k) ∧ Below w.heap.size w wr ∧ Full x.1 ∧ o ++ cat x.1 = i ∧ i.size ≤ bytesOf (l.take k)) (fun _ _ iv _ => l.length - (intOf iv).toNat)
  case atStart => exact ⟨0, ([], 0), F, ⟨#[]⟩, ⟨#[]⟩, by omega, rfl, rfl, rfl, hH1.out.1, hH1.out.2.1, hH1.out.2.2, Full.nil, nil_app _, Nat.zero_le _⟩
  case round =>
    obtain ⟨k, x, F', i, o, hk, rfl, rfl, rfl, hC, hF, hB, hFu, hio, hin⟩ := hrel
    clear hH1
    by_cases hlt : k < l.length
    · obtain ⟨g, oo, rfl, hc⟩ := hA (by intro h; subst h; simp at hlt)
      have hx : l[k]? = some l[k] := List.getElem?_eq_getElem hlt
      obtain ⟨d0, d1, d2, d3⟩ := hc k _ hx
      have hbt := bytesOf_take l k _ hx
      have hble := bytesOf_le l (k + 1)
      have hcs := Lib.hid (cat_stp x l[k])
      have hfs := Lib.hid (hFu.stp l[k])
      have hsz := congrArg ByteArray.size hio
      rw [ByteArray.size_append, cat_size] at hsz
      have hts := tot_stp x l[k]
      have hlt2 := len_tot hFu
      have hou : (outp x l[k]) = (doesP l[k].1 l[k].2.1 l[k].2.2.1 l[k].2.2.2 x).1.2 := rfl
      have hst : (stp x l[k]) = (doesP l[k].1 l[k].2.1 l[k].2.2.1 l[k].2.2.2 x).2 := rfl
      generalize l[k] = p at *
      obtain ⟨p0, p1, p2, p3⟩ := p
      dsimp only at *
      have d0' := bcells hB d0
      have d1' := bcells hB d1
      have d2' := bcells hB d2
      have d3' := bcells hB d3
      have hH := Lib.hid (show CG wr F' b x.1 x.2 ∧ (∀ k, F' k → w.heap.size ≤ k) ∧ Below w.heap.size w wr ∧ Full x.1 ∧ o ++ cat x.1 = i from ⟨hC, hF, hB, hFu, hio⟩)
      have hou' := Lib.hid hou
      have hst' := Lib.hid hst
      have hbt' := Lib.hid hbt
      rw [hbt] at hble
      have hsz' : w.heap.size ≤ wr.heap.size := hB.size
      have hob : o.size + (outp x (p0, p1, p2, p3)).size ≤ 5000 := by omega
      have hib : i.size + p3.size ≤ 5000 := by omega
      clear hc hx d0 d1 d2 d3 hC hF hB hFu hio hou hst hbt
      go_wp2_with fail
      have hBx : Below wr.heap.size wr (wr.alloc (.cells #[.int .i64 p0, .int .i64 p1, .int .i64 p2, .string p3] 28)) := (Below.refl _ _).alloc (Nat.le_refl _) _
      refine (does_any p0 p1 p2 p3 (hH.out.1.below hBx) hH.out.2.2.2.1 (by omega) (by omega)).mono ?_
      rintro e w2 ⟨rfl, F2, hC2, hD2, hS2⟩
      have q0 : w2.cell? ⟨wr.heap.size, 0, none⟩ = some (.int .i64 p0) := dcells hD2 (show (wr.alloc (.cells #[.int .i64 p0, .int .i64 p1, .int .i64 p2, .string p3] 28)).cell? ⟨wr.heap.size, 0, none⟩ = _ by go_simp) (fun c => by have := hH.out.1.lt c; omega)
      have q3 : w2.cell? ⟨wr.heap.size, 3, none⟩ = some (.string p3) := dcells hD2 (show (wr.alloc (.cells #[.int .i64 p0, .int .i64 p1, .int .i64 p2, .string p3] 28)).cell? ⟨wr.heap.size, 3, none⟩ = _ by go_simp) (fun c => by have := hH.out.1.lt c; omega)
      rw [← hou'.out]
      generalize hoo : outp x (p0, p1, p2, p3) = oo2 at *
      have hoo' := Lib.hid hoo
      rw [← hst'.out] at hC2
      have hH2 := Lib.hid (show CG w2 F2 b (stp x (p0, p1, p2, p3)).1 (stp x (p0, p1, p2, p3)).2 ∧ (∀ k, F2 k → w.heap.size ≤ k) ∧ Below w.heap.size w w2 from ⟨hC2, fun k hk => by
          rcases hS2 k hk with h | h
          · exact hH.out.2.1 k h
          · simp at h; omega, hH.out.2.2.1.trans (((Did.of_below (F := F') hBx).trans (Stem.refl _ _) hD2).below hsz' hH.out.2.1)⟩)
      clear hC2 hD2 hS2 hoo hBx hst' hou'
      by_cases h0 : p0 = 0
      · have hd : (p0 == 0) = true := by simpa using h0
        have h0' := Lib.hid h0
        clear h0
        go_wp2
        go_roundw
        case rel => exact ⟨k + 1, stp x (p0, p1, p2, p3), F2, i ++ p3, o ++ oo2, by omega, by go_num, rfl, rfl, hH2.out.1, hH2.out.2.1, hH2.out.2.2, hfs.out, by
            have := hcs.out
            rw [if_pos h0'.out] at this
            rw [ByteArray.append_assoc, this, ← ByteArray.append_assoc, hH.out.2.2.2.2], by rw [ByteArray.size_append, hbt'.out]; omega⟩
        case measure => simp [intOf]; omega
      · have hd : (p0 == 0) = false := by simpa using h0
        have h0' := Lib.hid h0
        clear h0
        go_wp2
        go_roundw
        case rel => exact ⟨k + 1, stp x (p0, p1, p2, p3), F2, i, o ++ oo2, by omega, by go_num, rfl, rfl, hH2.out.1, hH2.out.2.1, hH2.out.2.2, hfs.out, by
            have := hcs.out
            rw [if_neg h0'.out, app_nil] at this
            rw [ByteArray.append_assoc, this, hH.out.2.2.2.2], by rw [hbt'.out]; omega⟩
        case measure => simp [intOf]; omega
    · have hk2 : k = l.length := by omega
      subst hk2
      have hnl : ¬ (l.length < l.length) := by omega
      have hble := bytesOf_le l l.length
      have hsz := congrArg ByteArray.size hio
      rw [ByteArray.size_append, cat_size] at hsz
      have hcm : ((o ++ cat x.1).toList == i.toList) = true := by rw [hio]; simp
      have hz1 : tot x.1 ≤ 5000 := by omega
      have hz2 : o.size + (cat x.1).size ≤ 9223372036854775807 := by rw [cat_size]; omega
      have hz3 : ¬ (9223372036854775807 < o.size + (cat x.1).size) := by omega
      have hH := Lib.hid (show CG wr F' b x.1 x.2 ∧ (∀ k, F' k → w.heap.size ≤ k) ∧ Below w.heap.size w wr from ⟨hC, hF, hB⟩)
      clear hC hF hB hFu hio hin hble hsz
      go_wp2_with (first
        | (go_at_call 12; (with_reducible refine (alive_any _).mono ?_); rintro e w2 ⟨rfl, hB2⟩; have hH2 := Lib.hid (show CG w2 F' b x.1 x.2 ∧ Below w.heap.size w w2 from ⟨hH.out.1.below hB2, hH.out.2.2.trans (hB2.mono hH.out.2.2.size)⟩); clear hB2)
        | (go_at_call 14; (with_reducible refine (drain_any hH2.out.1 (by omega)).mono ?_); rintro e w3 ⟨A3, c3, rfl, hS3, hC3, hD3⟩; have hcv := conv_bytes c3 hS3; have hH3 := Lib.hid (show CG w3 (· = b) b [] x.2 ∧ Below w.heap.size w w3 from ⟨hC3, hH2.out.2.trans (hD3.below hH2.out.2.size hH.out.2.1)⟩); clear hS3 hC3 hD3)
        | (go_at_call 15; (with_reducible refine (len_any hH3.out.1 (by decide)).mono ?_); rintro e w4 ⟨rfl, hB4⟩; have hB4' := Lib.hid (hH3.out.2.trans (hB4.mono hH3.out.2.size)); clear hB4))
      go_ret
      exact ⟨by simp [tot], hB4'.out⟩
theorem keeps_any (v : Value) (l : List Op4) (w : World) (hv : Script w v l) :
    Calls Try.prog 3 #[v] w fun e w' => e = .returned (.bool true) ∧ Below w.heap.size w w' := by
  cases h : fewB l with
  | false => exact keeps_no v l w hv h
  | true => exact keeps_yes v l w hv h
end Go.Proofs.Ytcoennfpaimclaa.Cargo
