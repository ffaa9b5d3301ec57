/- The law CargoCopies (chapter 07). Conditions: each text is shorter than 2^47 bytes. -/
import Derived.Test.YtcoennfpaimclaaAll07
namespace Go.Proofs.Ytcoennfpaimclaa.Ref07
open Go.RowKit Mem Tick Cargo
set_option maxRecDepth 100000
set_option linter.unusedVariables false
set_option linter.unusedSimpArgs false
/-- two cargos of the call's own, apart. -/
def Two (w wr : World) (b d : Nat) (x y : St) : Prop := ∃ F G, CG wr F b x.1 x.2 ∧ CG wr G d y.1 y.2 ∧ (∀ k, F k → ¬ G k) ∧ (∀ k, F k → w.heap.size ≤ k) ∧ (∀ k, G k → w.heap.size ≤ k) ∧ Below w.heap.size w wr ∧ Cargo.Good x ∧ Cargo.Good y
theorem Two.old {w wr : World} {b d : Nat} {x y : St} (h : Two w wr b d x y) : Below w.heap.size w wr := by obtain ⟨F, G, _, _, _, _, _, hb, _⟩ := h; exact hb
theorem Two.goods {w wr : World} {b d : Nat} {x y : St} (h : Two w wr b d x y) : Cargo.Good x ∧ Cargo.Good y := by obtain ⟨F, G, _, _, _, _, _, _, hg⟩ := h; exact hg
theorem Two.below {w wr w2 : World} {b d : Nat} {x y : St} (h : Two w wr b d x y) (hb : Below wr.heap.size wr w2) : Two w w2 b d x y := by
  obtain ⟨F, G, h1, h2, h3, h4, h5, h6, h7⟩ := h
  exact ⟨F, G, h1.below hb, h2.below hb, h3, h4, h5, h6.trans (hb.mono h6.size), h7⟩
theorem Two.set_ {w wr : World} {b d : Nat} {x y : St} {k : Nat} {cs : Array Value} (h : Two w wr b d x y) (hb : Blk wr k 47 cs) (hk : w.heap.size ≤ k) (o : Nat) (u : Value) : Two w (wr.setCell ⟨k, o, none⟩ u) b d x y := by
  obtain ⟨F, G, h1, h2, h3, h4, h5, h6, h7⟩ := h
  refine ⟨F, G, h1.kept fun g hg => Below.heap_setCell _ _ _ g ?_, h2.kept fun g hg => Below.heap_setCell _ _ _ g ?_, h3, h4, h5, h6.setCell hk u, h7⟩
  · rintro rfl; exact h1.typed.out hb (by decide) hg
  · rintro rfl; exact h2.typed.out hb (by decide) hg
theorem two_copy {w wr : World} {b : Nat} {x : St} (h : Live w wr b x) (ht : tot x.1 ≤ 1000000000000) :
    Calls Try.prog 21 #[.pointer (some ⟨b, 0, none⟩)] wr fun e w2 => ∃ d, e = .returned (.pointer (some ⟨d, 0, none⟩)) ∧ Two w w2 b d x x ∧ Below wr.heap.size wr w2 := by
  obtain ⟨F, hC, hF, hB, hG⟩ := h
  have hl := len_tot hG.1
  exact (copy_any hC (by omega)).mono fun e w2 ⟨d, G, he, hC2, hGn, hb⟩ => ⟨d, he, ⟨F, G, hC.below hb, hC2, fun k hk hg => by have := hC.lt hk; have := hGn k hg; omega, hF, fun k hk => Nat.le_trans hB.size (hGn k hk), hB.trans (hb.mono hB.size), hG, hG⟩, hb⟩
theorem two_does {w wr : World} {b d : Nat} {x y : St} (h : Two w wr b d x y) (p : Op4) (ht : tot y.1 + p.2.2.2.size ≤ 70368744177664) (hn : tot y.1 ≤ 1000000000000) :
    Calls Try.prog 13 #[.pointer (some ⟨d, 0, none⟩), .agg #[.int .i64 p.1, .int .i64 p.2.1, .int .i64 p.2.2.1, .string p.2.2.2]] wr fun e w2 =>
      e = .returned (.tuple #[.int .i64 (doesP p.1 p.2.1 p.2.2.1 p.2.2.2 y).1.1, .string (outp y p)]) ∧ Two w w2 b d x (stp y p) ∧ Keep2 wr w2 := by
  obtain ⟨F, G, h1, h2, h3, h4, h5, h6, h7, h8⟩ := h
  have hl := len_tot h8.1
  refine (does_any p.1 p.2.1 p.2.2.1 p.2.2.2 h2 h8.1 ht (by omega)).mono fun e w2 ⟨he, G', hC2, hd, hs⟩ => ⟨he, ⟨F, G', h1.did hd h3, hC2, fun k hk hg => ?_, h4, fun k hk => (hs k hk).elim (h5 k) (fun h => Nat.le_trans h6.size h), h6.trans (hd.below h6.size h5), h7, h8.stp p⟩, keep2_of h2 hd⟩
  rcases hs k hg with h | h
  · exact h3 k hk h
  · have := h1.lt hk; omega
theorem two_stands {w wr : World} {b d : Nat} {x y : St} (h : Two w wr b d x y) (A : Option Addr) (c n : Nat) (hn : n = (tk x.1).length) (hi : IR wr A (tk x.1)) (hc : (tk x.1).length ≤ c) (ht : tot x.1 ≤ 1000000000) :
    Calls Try.prog 24 #[.pointer (some ⟨b, 0, none⟩), .agg #[.string (cat x.1), .slice A n c, .int .i64 x.2]] wr fun e w2 => e = .returned (.bool true) ∧ Two w w2 b d x y ∧ Below wr.heap.size wr w2 := by
  have h' := h
  obtain ⟨F, G, h1, _, _, _, _, _, h7, _⟩ := h
  subst hn
  exact (stands_any x _ h1 h7 ⟨A, c, rfl, hi, hc⟩ ht).mono fun e w2 ⟨he, hb⟩ => ⟨he, h'.below hb, hb⟩
theorem two_stands2 {w wr : World} {b d : Nat} {x y : St} (h : Two w wr b d x y) (A : Option Addr) (c n : Nat) (hn : n = (tk y.1).length) (hi : IR wr A (tk y.1)) (hc : (tk y.1).length ≤ c) (ht : tot y.1 ≤ 1000000000) :
    Calls Try.prog 24 #[.pointer (some ⟨d, 0, none⟩), .agg #[.string (cat y.1), .slice A n c, .int .i64 y.2]] wr fun e w2 => e = .returned (.bool true) ∧ Two w w2 b d x y ∧ Below wr.heap.size wr w2 := by
  have h' := h
  obtain ⟨F, G, _, h2, _, _, _, _, _, h8⟩ := h
  subst hn
  exact (stands_any y _ h2 h8 ⟨A, c, rfl, hi, hc⟩ ht).mono fun e w2 ⟨he, hb⟩ => ⟨he, h'.below hb, hb⟩
theorem copies_few (v : Value) (l : List Op4) (w : World) (hv : Script w v l) (v2 : Value) (m : List Op4) (hu : Script w v2 m) (hf : fewB l = false) :
    Calls Try.prog 9 #[v, v2] w fun e w' => e = .returned (.bool true) ∧ Below w.heap.size w w' := by
  have hv' := Lib.hid hv
  have hf' := Lib.hid hf
  clear hv hf
  have hu' := Lib.hid hu
  clear hu
  go_enter Try.func9, Try.ntmps9
  go_wp2_with fail
  refine (live_new w _ (Below.refl _ _)).mono ?_
  rintro e w0 ⟨b, rfl, hL, hB⟩
  have hL0 := Lib.hid hL
  clear hL hB
  go_wp2_with fail
  refine (few_any _ l _ (hv'.out.below hL0.out.old)).mono ?_
  rintro e w1 ⟨rfl, hB⟩
  have hH1 := Lib.hid (hL0.out.below hB)
  clear hB hL0
  rw [hf'.out]
  go_wp2_with (go_at_call 12; (with_reducible refine (alive_any _).mono ?_); rintro e w2 ⟨rfl, hB2⟩; have hB2' := Lib.hid hB2; clear hB2)
  go_ret
  exact ⟨by simp, hH1.out.old.trans (hB2'.out.mono hH1.out.old.size)⟩
theorem copies_few2 (v : Value) (l : List Op4) (w : World) (hv : Script w v l) (v2 : Value) (m : List Op4) (hu : Script w v2 m) (hf : fewB l = true) (hf2 : fewB m = false) :
    Calls Try.prog 9 #[v, v2] w fun e w' => e = .returned (.bool true) ∧ Below w.heap.size w w' := by
  have hv' := Lib.hid hv
  have hf' := Lib.hid hf
  clear hv hf
  have hu' := Lib.hid hu
  clear hu
  have hf2' := Lib.hid hf2
  clear hf2
  go_enter Try.func9, Try.ntmps9
  go_wp2_with fail
  refine (live_new w _ (Below.refl _ _)).mono ?_
  rintro e w0 ⟨b, rfl, hL, hB⟩
  have hL0 := Lib.hid hL
  clear hL hB
  go_wp2_with fail
  refine (few_any _ l _ (hv'.out.below hL0.out.old)).mono ?_
  rintro e w1 ⟨rfl, hB⟩
  have hH1 := Lib.hid (hL0.out.below hB)
  clear hB hL0
  rw [hf'.out]
  go_wp2_with fail
  refine (few_any _ m _ (hu'.out.below hH1.out.old)).mono ?_
  rintro e w1b ⟨rfl, hB⟩
  have hH2 := Lib.hid (hH1.out.below hB)
  clear hB hH1
  rw [hf2'.out]
  go_wp2_with (go_at_call 12; (with_reducible refine (alive_any _).mono ?_); rintro e w2 ⟨rfl, hB2⟩; have hB2' := Lib.hid hB2; clear hB2)
  go_ret
  exact ⟨by simp, hH2.out.old.trans (hB2'.out.mono hH2.out.old.size)⟩
theorem copies_yes (v : Value) (l : List Op4) (w : World) (hv : Script w v l) (v2 : Value) (m : List Op4) (hu : Script w v2 m) (hf : fewB l = true) (hf2 : fewB m = true) :
    Calls Try.prog 9 #[v, v2] w fun e w' => e = .returned (.bool true) ∧ Below w.heap.size w w' := by
  have hn5 : bytesOf l ≤ 5000 := by simp [fewB] at hf; exact hf.2
  have hl2 : l.length ≤ 200 := by simp [fewB] at hf; exact hf.1
  have hv' := Lib.hid hv
  have hf' := Lib.hid hf
  obtain ⟨a, cap, rfl, hmx, -, hA⟩ := hv
  clear hf
  have hm5 : bytesOf m ≤ 5000 := by simp [fewB] at hf2; exact hf2.2
  have hm2 : m.length ≤ 200 := by simp [fewB] at hf2; exact hf2.1
  have hu' := Lib.hid hu
  have hf2' := Lib.hid hf2
  obtain ⟨a2, cap2, rfl, hmx2, -, hA2⟩ := hu
  clear hf2
  go_enter Try.func9, Try.ntmps9
  go_wp2_with fail
  refine (live_new w _ (Below.refl _ _)).mono ?_
  rintro e w0 ⟨b, rfl, hL, hB⟩
  have hL0 := Lib.hid hL
  clear hL hB
  go_wp2_with fail
  refine (few_any _ l _ (hv'.out.below hL0.out.old)).mono ?_
  rintro e w1 ⟨rfl, hB⟩
  have hH1 := Lib.hid (hL0.out.below hB)
  clear hB hL0
  rw [hf'.out]
  go_wp2_with fail
  refine (few_any _ m _ (hu'.out.below hH1.out.old)).mono ?_
  rintro e w1b ⟨rfl, hB⟩
  have hH2 := Lib.hid (hH1.out.below hB)
  clear hB hH1
  rw [hf2'.out]
  go_wp2
  have hz0 := Lib.hid (show Live w (w1b.alloc (.cells #[.string ⟨#[]⟩, .slice none 0 0, .int .i64 0] 47)) b ([], 0) from hH2.out.below ((Below.refl _ _).alloc (Nat.le_refl _) _))
  have hz1 := Lib.hid (Blk.new w1b 47 #[.string ⟨#[]⟩, .slice none 0 0, .int .i64 0])
  have hz2 := Lib.hid hH2.out.old.size
  go_loopw [41] (fun iv wr => ∃ (k : Nat) (x : St) (A1 : Option Addr) (c1 n1 : Nat), k ≤ l.length ∧ iv = .int .i64 k ∧ Live w wr b x ∧ tot x.1 ≤ bytesOf (l.take k) ∧ Blk wr w1b.heap.size 47 #[.string (cat x.1), .slice A1 n1 c1, .int .i64 x.2] ∧ n1 = (tk x.1).length ∧ IR wr A1 (tk x.1) ∧ (tk x.1).length ≤ c1) (fun iv _ => l.length - (intOf iv).toNat)
  case atStart => exact ⟨0, ([], 0), none, 0, 0, by omega, rfl, hz0.out, Nat.zero_le _, hz1.out, rfl, IR.nil _ _, Nat.le_refl _⟩
  case round =>
    obtain ⟨k, x, A1, c1, n1, hk, rfl, hL, hT, hK0, hn1', hI0, hc1'⟩ := hrel
    clear hH2 hz0 hz1
    have hKw := hz2.out
    generalize w1b.heap.size = K at *
    by_cases hlt : k < l.length
    · obtain ⟨g, oo, rfl, hc⟩ := hA (by intro h; subst h; simp at hlt)
      have hx : l[k]? = some l[k] := List.getElem?_eq_getElem hlt
      obtain ⟨d0, d1, d2, d3⟩ := hc k _ hx
      have hbt := Lib.hid (bytesOf_take l k _ hx)
      have hble := bytesOf_le l (k + 1)
      rw [hbt.out] at hble
      have hts := tot_stp x l[k]
      generalize l[k] = p at *
      obtain ⟨p0, p1, p2, p3⟩ := p
      dsimp only at *
      have d0' := bcells hL.old d0
      have d1' := bcells hL.old d1
      have d2' := bcells hL.old d2
      have d3' := bcells hL.old d3
      have hL' := Lib.hid hL
      have hsz := hL.old.size
      clear hc hx d0 d1 d2 d3 hL
      have hGx := Lib.hid hL'.out.good
      have hc0 : wr.cell? ⟨K, 0, none⟩ = some (.string (cat x.1)) := (hK0.cell 0).trans rfl
      have hc1x : wr.cell? ⟨K, 1, none⟩ = some (.slice A1 n1 c1) := (hK0.cell 1).trans rfl
      have hc2x : wr.cell? ⟨K, 2, none⟩ = some (.int .i64 x.2) := (hK0.cell 2).trans rfl
      have hKl : K < wr.heap.size := hK0.lt
      have hK := Lib.hid hK0
      have hI := Lib.hid hI0
      have hn1 := Lib.hid hn1'
      have hc1 := Lib.hid hc1'
      have hob : tot x.1 + p3.size ≤ 1000000000 := by omega
      clear hK0 hI0 hn1' hc1'
      go_wp2_with fail
      have hBx : Below wr.heap.size wr (wr.alloc (.cells #[.int .i64 p0, .int .i64 p1, .int .i64 p2, .string p3] 28)) := (Below.refl _ _).alloc (Nat.le_refl _) _
      have hOb : Blk (wr.alloc (.cells #[.int .i64 p0, .int .i64 p1, .int .i64 p2, .string p3] 28)) wr.heap.size 28 #[.int .i64 p0, .int .i64 p1, .int .i64 p2, .string p3] := Blk.new wr _ _
      refine (ref_call _ x (p0, p1, p2, p3) hGx.out A1 c1 n1 hn1.out (hI.out.below hBx) hc1.out hob).mono ?_
      rintro e wq ⟨A2, c2, n2, rfl, hn2', hI2, hc2', hB2⟩
      dsimp only at hn2' hI2 hc2' hB2 ⊢
      have hK1 : Blk wq K 47 _ := (hK.out.below hBx).below hB2
      have hO1 : Blk wq wr.heap.size 28 _ := hOb.below hB2
      have hL1' : Live w wq b x := (hL'.out.below hBx).below hB2
      have f0 := hK1.free 0
      have f1 := hK1.free 1
      have f2 := hK1.free 2
      have k0 : wq.cell? ⟨K, 0, none⟩ = some (.string (cat x.1)) := (hK1.cell 0).trans rfl
      have k1 : wq.cell? ⟨K, 1, none⟩ = some (.slice A1 n1 c1) := (hK1.cell 1).trans rfl
      have k2 : wq.cell? ⟨K, 2, none⟩ = some (.int .i64 x.2) := (hK1.cell 2).trans rfl
      have o0 : wq.cell? ⟨wr.heap.size, 0, none⟩ = some (.int .i64 p0) := (hO1.cell 0).trans rfl
      have o1 : wq.cell? ⟨wr.heap.size, 1, none⟩ = some (.int .i64 p1) := (hO1.cell 1).trans rfl
      have o2 : wq.cell? ⟨wr.heap.size, 2, none⟩ = some (.int .i64 p2) := (hO1.cell 2).trans rfl
      have o3 : wq.cell? ⟨wr.heap.size, 3, none⟩ = some (.string p3) := (hO1.cell 3).trans rfl
      have hol : wr.heap.size < wq.heap.size := hO1.lt
      have hKl1 : K < wq.heap.size := hK1.lt
      have hK1' := Lib.hid hK1
      have hL1h := Lib.hid hL1'
      have hI2' := Lib.hid hI2
      have hn2 := Lib.hid hn2'
      have hc2 := Lib.hid hc2'
      have hGy := Lib.hid (Cargo.Good.stp (p0, p1, p2, p3) hGx.out)
      generalize hy : stp x (p0, p1, p2, p3) = y at *
      have hy' := Lib.hid hy
      clear hOb hK1 hO1 hL1' hI2 hn2' hc2' hB2 hBx hy hc0 hc1x hc2x
      go_wp2_with fail
      have LX := ((((hL1h.out.set_ hK1'.out hKw 0 (.string (cat y.1))).set_ (hK1'.out.set_ 0 _) hKw 1 (.slice A2 n2 c2)).set_ ((hK1'.out.set_ 0 _).set_ 1 _) hKw 2 (.int .i64 y.2))).below ((Below.refl _ _).alloc (Nat.le_refl _) (.cells #[.string (cat y.1), .slice A2 n2 c2, .int .i64 y.2] 47))
      have KX := (blk3_set (x := .string (cat y.1)) (y := .slice A2 n2 c2) (z := .int .i64 y.2) hK1'.out).below ((Below.refl _ _).alloc (Nat.le_refl _) (.cells #[.string (cat y.1), .slice A2 n2 c2, .int .i64 y.2] 47))
      have IX := (IR.sets (x := .string (cat y.1)) (y := .slice A2 n2 c2) (z := .int .i64 y.2) hI2'.out hK1'.out).below ((Below.refl _ _).alloc (Nat.le_refl _) (.cells #[.string (cat y.1), .slice A2 n2 c2, .int .i64 y.2] 47))
      refine (live_does2 LX (p0, p1, p2, p3) (by dsimp only; omega) (by omega)).mono ?_
      rintro e w3 ⟨rfl, hL3x, hKp⟩
      rw [hy'.out] at hL3x
      dsimp only
      have hK3 := Lib.hid (hKp.blk KX (by decide) (by decide))
      have hI3 := Lib.hid (IX.keep2 hKp)
      have hL3 := Lib.hid hL3x
      clear LX KX IX hL3x hKp f0 f1 f2 k0 k1 k2 o0 o1 o2 o3 hK1' hL1h hI2' hol hKl1
      go_wp2
      go_roundw
      case rel => exact ⟨k + 1, y, A2, c2, n2, by omega, by go_num, hL3.out, by rw [hbt.out]; omega, hK3.out, hn2.out, hI3.out, hc2.out⟩
      case measure => simp [intOf]; omega
    · have hk2 : k = l.length := by omega
      subst hk2
      have hnl : ¬ (l.length < l.length) := by omega
      have hble := bytesOf_le l l.length
      have hx5 : tot x.1 ≤ 5000 := by omega
      have hL1 := Lib.hid hL
      have hKr := Lib.hid hK0
      have hIr := Lib.hid hI0
      have hnr := Lib.hid hn1'
      have hcr := Lib.hid hc1'
      clear hL hA hK0 hn1' hI0 hc1' hT hble
      go_wp2_with fail
      refine (two_copy hL1.out (by omega)).mono ?_
      rintro e wc ⟨d, rfl, hT2, hBc⟩
      have hT2' := Lib.hid hT2
      have hKc := Lib.hid (hKr.out.below hBc)
      have hIc := Lib.hid (hIr.out.below hBc)
      have k0 : wc.cell? ⟨K, 0, none⟩ = some (.string (cat x.1)) := (hKc.out.cell 0).trans rfl
      have k1 : wc.cell? ⟨K, 1, none⟩ = some (.slice A1 n1 c1) := (hKc.out.cell 1).trans rfl
      have k2 : wc.cell? ⟨K, 2, none⟩ = some (.int .i64 x.2) := (hKc.out.cell 2).trans rfl
      clear hT2 hBc
      go_wp2
      have hBA : Below wc.heap.size wc (wc.alloc (.cells #[.string (cat x.1), .slice A1 n1 c1, .int .i64 x.2] 47)) := (Below.refl _ _).alloc (Nat.le_refl _) _
      have hs0 := Lib.hid (hT2'.out.below hBA)
      have hs1 := Lib.hid (hKc.out.below hBA)
      have hs2 := Lib.hid (hIc.out.below hBA)
      have hs3 := Lib.hid (Blk.new wc 47 #[.string (cat x.1), .slice A1 n1 c1, .int .i64 x.2])
      have hs4 := Lib.hid hT2'.out.old.size
      have hKlc : K < wc.heap.size := hKc.out.lt
      have hAr := A1
      clear hBA k0 k1 k2 hKc hIc hT2'
      obtain ⟨wo, hwo⟩ : ∃ wo, wo = wr := ⟨_, rfl⟩
      subst hwo
      go_loopw [64] (fun iv wr => ∃ (k : Nat) (y : St) (A2 : Option Addr) (c2 n2 : Nat), k ≤ m.length ∧ iv = .int .i64 k ∧ Two w wr b d x y ∧ tot y.1 ≤ tot x.1 + bytesOf (m.take k) ∧ Blk wr K 47 #[.string (cat x.1), .slice A1 n1 c1, .int .i64 x.2] ∧ IR wr A1 (tk x.1) ∧ Blk wr wc.heap.size 47 #[.string (cat y.1), .slice A2 n2 c2, .int .i64 y.2] ∧ n2 = (tk y.1).length ∧ IR wr A2 (tk y.1) ∧ (tk y.1).length ≤ c2) (fun iv _ => m.length - (intOf iv).toNat)
      case atStart => exact ⟨0, x, A1, c1, n1, by omega, rfl, hs0.out, by omega, hs1.out, hs2.out, hs3.out, hnr.out, hs2.out, hcr.out⟩
      case round =>
        have hK1w : w.heap.size ≤ K := hKw
        clear hs0 hs1 hs2 hs3
        obtain ⟨k, y, A0, c0, n0, hk, rfl, hL, hT, hKx, hIx, hK0, hn1', hI0, hc1'⟩ := hrel
        have hK2w := hs4.out
        generalize wc.heap.size = K2 at *
        by_cases hlt : k < m.length
        · obtain ⟨g, oo, rfl, hc⟩ := hA2 (by intro h; subst h; simp at hlt)
          have hx : m[k]? = some m[k] := List.getElem?_eq_getElem hlt
          obtain ⟨d0, d1, d2, d3⟩ := hc k _ hx
          have hbt := Lib.hid (bytesOf_take m k _ hx)
          have hble := bytesOf_le m (k + 1)
          rw [hbt.out] at hble
          have hts := tot_stp y m[k]
          generalize m[k] = p at *
          obtain ⟨p0, p1, p2, p3⟩ := p
          dsimp only at *
          have d0' := bcells hL.old d0
          have d1' := bcells hL.old d1
          have d2' := bcells hL.old d2
          have d3' := bcells hL.old d3
          have hL' := Lib.hid hL
          have hsz := hL.old.size
          clear hc hx d0 d1 d2 d3 hL
          have hGx := Lib.hid hL'.out.goods.2
          have hKxh := Lib.hid hKx
          have hIxh := Lib.hid hIx
          have hKne : K ≠ K2 := by omega
          clear hKx hIx
          have hc0 : wr.cell? ⟨K2, 0, none⟩ = some (.string (cat y.1)) := (hK0.cell 0).trans rfl
          have hc1x : wr.cell? ⟨K2, 1, none⟩ = some (.slice A0 n0 c0) := (hK0.cell 1).trans rfl
          have hc2x : wr.cell? ⟨K2, 2, none⟩ = some (.int .i64 y.2) := (hK0.cell 2).trans rfl
          have hKl : K2 < wr.heap.size := hK0.lt
          have hK := Lib.hid hK0
          have hI := Lib.hid hI0
          have hn1 := Lib.hid hn1'
          have hc1 := Lib.hid hc1'
          have hob : tot y.1 + p3.size ≤ 1000000000 := by omega
          clear hK0 hI0 hn1' hc1'
          go_wp2_with fail
          have hBx : Below wr.heap.size wr (wr.alloc (.cells #[.int .i64 p0, .int .i64 p1, .int .i64 p2, .string p3] 28)) := (Below.refl _ _).alloc (Nat.le_refl _) _
          have hOb : Blk (wr.alloc (.cells #[.int .i64 p0, .int .i64 p1, .int .i64 p2, .string p3] 28)) wr.heap.size 28 #[.int .i64 p0, .int .i64 p1, .int .i64 p2, .string p3] := Blk.new wr _ _
          refine (ref_call _ y (p0, p1, p2, p3) hGx.out A0 c0 n0 hn1.out (hI.out.below hBx) hc1.out hob).mono ?_
          rintro e wq ⟨A2, c2, n2, rfl, hn2', hI2, hc2', hB2⟩
          dsimp only at hn2' hI2 hc2' hB2 ⊢
          have hK1 : Blk wq K2 47 _ := (hK.out.below hBx).below hB2
          have hO1 : Blk wq wr.heap.size 28 _ := hOb.below hB2
          have hL1' : Two w wq b d x y := (hL'.out.below hBx).below hB2
          have f0 := hK1.free 0
          have f1 := hK1.free 1
          have f2 := hK1.free 2
          have k0 : wq.cell? ⟨K2, 0, none⟩ = some (.string (cat y.1)) := (hK1.cell 0).trans rfl
          have k1 : wq.cell? ⟨K2, 1, none⟩ = some (.slice A0 n0 c0) := (hK1.cell 1).trans rfl
          have k2 : wq.cell? ⟨K2, 2, none⟩ = some (.int .i64 y.2) := (hK1.cell 2).trans rfl
          have o0 : wq.cell? ⟨wr.heap.size, 0, none⟩ = some (.int .i64 p0) := (hO1.cell 0).trans rfl
          have o1 : wq.cell? ⟨wr.heap.size, 1, none⟩ = some (.int .i64 p1) := (hO1.cell 1).trans rfl
          have o2 : wq.cell? ⟨wr.heap.size, 2, none⟩ = some (.int .i64 p2) := (hO1.cell 2).trans rfl
          have o3 : wq.cell? ⟨wr.heap.size, 3, none⟩ = some (.string p3) := (hO1.cell 3).trans rfl
          have hol : wr.heap.size < wq.heap.size := hO1.lt
          have hKl1 : K2 < wq.heap.size := hK1.lt
          have hK1' := Lib.hid hK1
          have hL1h := Lib.hid hL1'
          have hI2' := Lib.hid hI2
          have hn2 := Lib.hid hn2'
          have hc2 := Lib.hid hc2'
          have hGy := Lib.hid (Cargo.Good.stp (p0, p1, p2, p3) hGx.out)
          have hKxq := Lib.hid ((hKxh.out.below hBx).below hB2)
          have hIxq := Lib.hid ((hIxh.out.below hBx).below hB2)
          generalize hy : stp y (p0, p1, p2, p3) = z at *
          have hy' := Lib.hid hy
          clear hOb hK1 hO1 hL1' hI2 hn2' hc2' hB2 hBx hy hc0 hc1x hc2x
          go_wp2_with fail
          have LX := ((((hL1h.out.set_ hK1'.out hK2w 0 (.string (cat z.1))).set_ (hK1'.out.set_ 0 _) hK2w 1 (.slice A2 n2 c2)).set_ ((hK1'.out.set_ 0 _).set_ 1 _) hK2w 2 (.int .i64 z.2))).below ((Below.refl _ _).alloc (Nat.le_refl _) (.cells #[.string (cat z.1), .slice A2 n2 c2, .int .i64 z.2] 47))
          have KX := (blk3_set (x := .string (cat z.1)) (y := .slice A2 n2 c2) (z := .int .i64 z.2) hK1'.out).below ((Below.refl _ _).alloc (Nat.le_refl _) (.cells #[.string (cat z.1), .slice A2 n2 c2, .int .i64 z.2] 47))
          have IX := (IR.sets (x := .string (cat z.1)) (y := .slice A2 n2 c2) (z := .int .i64 z.2) hI2'.out hK1'.out).below ((Below.refl _ _).alloc (Nat.le_refl _) (.cells #[.string (cat z.1), .slice A2 n2 c2, .int .i64 z.2] 47))
          have KY := (((hKxq.out.far (p := ⟨K2, 0, none⟩) hKne (.string (cat z.1))).far (p := ⟨K2, 1, none⟩) hKne (.slice A2 n2 c2)).far (p := ⟨K2, 2, none⟩) hKne (.int .i64 z.2)).below ((Below.refl _ _).alloc (Nat.le_refl _) (.cells #[.string (cat z.1), .slice A2 n2 c2, .int .i64 z.2] 47))
          have IY := (IR.sets (x := .string (cat z.1)) (y := .slice A2 n2 c2) (z := .int .i64 z.2) hIxq.out hK1'.out).below ((Below.refl _ _).alloc (Nat.le_refl _) (.cells #[.string (cat z.1), .slice A2 n2 c2, .int .i64 z.2] 47))
          refine (two_does LX (p0, p1, p2, p3) (by dsimp only; omega) (by omega)).mono ?_
          rintro e w3 ⟨rfl, hL3x, hKp⟩
          rw [hy'.out] at hL3x
          dsimp only
          have hK3 := Lib.hid (hKp.blk KX (by decide) (by decide))
          have hI3 := Lib.hid (IX.keep2 hKp)
          have hKx3 := Lib.hid (hKp.blk KY (by decide) (by decide))
          have hIx3 := Lib.hid (IY.keep2 hKp)
          have hL3 := Lib.hid hL3x
          clear LX KX IX KY IY hL3x hKp f0 f1 f2 k0 k1 k2 o0 o1 o2 o3 hK1' hL1h hI2' hol hKl1 hKxq hIxq
          go_wp2
          go_roundw
          case rel => exact ⟨k + 1, z, A2, c2, n2, by omega, by go_num, hL3.out, by rw [hbt.out]; omega, hKx3.out, hIx3.out, hK3.out, hn2.out, hI3.out, hc2.out⟩
          case measure => simp [intOf]; omega
        · have hk2 : k = m.length := by omega
          subst hk2
          have hnl : ¬ (m.length < m.length) := by omega
          have hble := bytesOf_le m m.length
          have hy5 : tot y.1 ≤ 10000 := by omega
          have hL1 := Lib.hid hL
          have hK1 := Lib.hid hKx
          have hI1 := Lib.hid hIx
          have hK2 := Lib.hid hK0
          have hI2 := Lib.hid hI0
          have hn2 := Lib.hid hn1'
          have hc2 := Lib.hid hc1'
          clear hL hA2 hKx hIx hK0 hI0 hn1' hc1' hT hble
          go_wp2_with fail
          refine (alive_any _).mono ?_
          rintro e w2 ⟨rfl, hB2⟩
          have hL2 := Lib.hid (hL1.out.below hB2)
          have hKa := Lib.hid (hK1.out.below hB2)
          have hIa := Lib.hid (hI1.out.below hB2)
          have hKb := Lib.hid (hK2.out.below hB2)
          have hIb := Lib.hid (hI2.out.below hB2)
          have k0 : w2.cell? ⟨K, 0, none⟩ = some (.string (cat x.1)) := (hKa.out.cell 0).trans rfl
          have k1 : w2.cell? ⟨K, 1, none⟩ = some (.slice A1 n1 c1) := (hKa.out.cell 1).trans rfl
          have k2 : w2.cell? ⟨K, 2, none⟩ = some (.int .i64 x.2) := (hKa.out.cell 2).trans rfl
          clear hB2 hL1 hK1 hI1 hK2 hI2
          go_wp2_with fail
          refine (two_stands hL2.out A1 c1 n1 hnr.out hIa.out hcr.out (by omega)).mono ?_
          rintro e w3 ⟨rfl, hT3, hB3⟩
          have hL3 := Lib.hid hT3
          have hKc := Lib.hid (hKb.out.below hB3)
          have hIc := Lib.hid (hIb.out.below hB3)
          have k0' : w3.cell? ⟨K2, 0, none⟩ = some (.string (cat y.1)) := (hKc.out.cell 0).trans rfl
          have k1' : w3.cell? ⟨K2, 1, none⟩ = some (.slice A0 n0 c0) := (hKc.out.cell 1).trans rfl
          have k2' : w3.cell? ⟨K2, 2, none⟩ = some (.int .i64 y.2) := (hKc.out.cell 2).trans rfl
          clear hB3 hT3 k0 k1 k2 hKa hIa hL2
          go_wp2_with fail
          refine (two_stands2 hL3.out A0 c0 n0 hn2.out hIc.out hc2.out (by omega)).mono ?_
          rintro e w4 ⟨rfl, hT4, hB4⟩
          have hL4 := Lib.hid hT4.old
          clear hT4 hB4
          go_wp2
          go_ret
          exact ⟨by simp, hL4.out⟩
theorem copies_any (v : Value) (l : List Op4) (w : World) (hv : Script w v l) (v2 : Value) (m : List Op4) (hu : Script w v2 m) :
    Calls Try.prog 9 #[v, v2] w fun e w' => e = .returned (.bool true) ∧ Below w.heap.size w w' := by
  cases hf : fewB l with
  | false => exact copies_few v l w hv v2 m hu hf
  | true => cases hf2 : fewB m with
    | false => exact copies_few2 v l w hv v2 m hu hf hf2
    | true => exact copies_yes v l w hv v2 m hu hf hf2
end Go.Proofs.Ytcoennfpaimclaa.Ref07
