/- The law CargoAll (chapter 07). Conditions: each text is shorter than 2^47 bytes. -/
import Derived.Test.YtcoennfpaimclaaStands
namespace Go.Proofs.Ytcoennfpaimclaa.Ref07
open Go.RowKit Mem Tick Cargo
open Go.Proofs.YtcoennfpaimclaaW.PrintLast
set_option maxRecDepth 100000
set_option linter.unusedVariables false
set_option linter.unusedSimpArgs false
/-- blocks of other types are as they were. -/
def Keep2 (wr w2 : World) : Prop := ∀ (k : Nat) (t : TypeId) (cs : Array Value) (fr : Nat × Nat), wr.heap[k]? = some (Obj.cells cs t fr) → t ≠ 57 → t ≠ 37 → w2.heap[k]? = wr.heap[k]?
theorem keep2_of {wr w2 : World} {F : Nat → Prop} {b : Nat} {ps : List Pc} {last : Int} (h : CG wr F b ps last) (hd : Did F wr w2) : Keep2 wr w2 := fun k t cs fr hb h1 h2 =>
  hd.block k (Array.getElem?_eq_some_iff.1 hb).1 fun c => by
    obtain ⟨t', ht', cs', hb'⟩ := h.typed k c
    have hb2 : wr.heap[k]? = some (.cells cs' t' (0, 0)) := hb'
    rw [hb] at hb2
    injection hb2 with e
    injection e with _ e
    subst e
    simp only [List.mem_cons, List.not_mem_nil, or_false] at ht'
    rcases ht' with e | e <;> contradiction
theorem Keep2.blk {wr w2 : World} (h : Keep2 wr w2) {k : Nat} {t : TypeId} {cs : Array Value} (hb : Blk wr k t cs) (h1 : t ≠ 57) (h2 : t ≠ 37) : Blk w2 k t cs := (h k t cs (0, 0) hb h1 h2).trans hb
theorem IR.keep2 {w w' : World} {A : Option Addr} {ts : List Int} (h : IR w A ts) (hk : Keep2 w w') : IR w' A ts := h.kept fun g ⟨cs, fr, hg⟩ => hk g _ cs fr hg (by decide) (by decide)
theorem live_does2 {w wr : World} {b : Nat} {x : St} (h : Live w wr b x) (p : Op4) (ht : tot x.1 + p.2.2.2.size ≤ 70368744177664) (hn : tot x.1 ≤ 1000000000000) :
    Calls Try.prog 13 #[.pointer (some ⟨b, 0, none⟩), .agg #[.int .i64 p.1, .int .i64 p.2.1, .int .i64 p.2.2.1, .string p.2.2.2]] wr fun e w2 =>
      e = .returned (.tuple #[.int .i64 (doesP p.1 p.2.1 p.2.2.1 p.2.2.2 x).1.1, .string (outp x p)]) ∧ Live w w2 b (stp x p) ∧ Keep2 wr w2 := by
  obtain ⟨F, hC, hF, hB, hG⟩ := h
  have hl := len_tot hG.1
  exact (does_any p.1 p.2.1 p.2.2.1 p.2.2.2 hC hG.1 ht (by omega)).mono fun e w2 ⟨he, F', hC2, hd, hs⟩ => ⟨he, (Live.step hC hF hB (hG.stp p) hC2 hd hs).1, keep2_of hC hd⟩
theorem _root_.Go.Proofs.Ytcoennfpaimclaa.Cargo.Live.set_ {w wr : World} {b : Nat} {x : St} {k : Nat} {cs : Array Value} (h : Live w wr b x) (hb : Blk wr k 47 cs) (hk : w.heap.size ≤ k) (o : Nat) (u : Value) : Live w (wr.setCell ⟨k, o, none⟩ u) b x := by
  obtain ⟨F, hC, hF, hB, hG⟩ := h
  refine ⟨F, hC.kept fun g hg => Below.heap_setCell _ _ _ g ?_, hF, hB.setCell hk u, hG⟩
  rintro rfl
  exact hC.typed.out hb (by decide) hg
theorem live_stands {w wr : World} {b : Nat} {x : St} (h : Live w wr b x) (A : Option Addr) (c n : Nat) (hn : n = (tk x.1).length) (hi : IR wr A (tk x.1)) (hc : (tk x.1).length ≤ c) (ht : tot x.1 ≤ 1000000000) :
    Calls Try.prog 24 #[.pointer (some ⟨b, 0, none⟩), .agg #[.string (cat x.1), .slice A n c, .int .i64 x.2]] wr fun e w2 => e = .returned (.bool true) ∧ Live w w2 b x ∧ Below wr.heap.size wr w2 := by
  have h' := h
  obtain ⟨F, hC, _, _, hG⟩ := h
  subst hn
  exact (stands_any x _ hC hG ⟨A, c, rfl, hi, hc⟩ ht).mono fun e w2 ⟨he, hb⟩ => ⟨he, h'.below hb, hb⟩
theorem ref_ready {wr : World} {x : St} (hg : Cargo.Good x) (A : Option Addr) (c n : Nat) (now : Int) (hn : n = (tk x.1).length) (hi : IR wr A (tk x.1)) (ht : tot x.1 ≤ 1000000000) :
    Calls Try.prog 25 #[.agg #[.string (cat x.1), .slice A n c, .int .i64 x.2], .int .i64 now] wr fun e w2 => e = .returned (.int .i64 (rdy now x.1)) ∧ Below wr.heap.size wr w2 := by
  subst hn
  rw [← cnt_tk now x.1 hg.1 hg.2.1]
  exact ready_any wr (cat x.1) A c (tk x.1) x.2 now hi (by rw [cat_size, tk_length]) (by rw [tk_length]; omega)
theorem ref_call (w : World) (x : St) (o : Op4) (hG : Cargo.Good x) (A : Option Addr) (c n : Nat) (hn : n = (tk x.1).length) (hi : IR w A (tk x.1)) (hc : (tk x.1).length ≤ c) (ht : tot x.1 + o.2.2.2.size ≤ 1000000000) :
    Calls Try.prog 23 #[.agg #[.string (cat x.1), .slice A n c, .int .i64 x.2], .agg #[.int .i64 o.1, .int .i64 o.2.1, .int .i64 o.2.2.1, .string o.2.2.2]] w fun e w' =>
      ∃ A2 c2 n2, e = .returned (.tuple #[.agg #[.string (cat (stp x o).1), .slice A2 n2 c2, .int .i64 (stp x o).2], .int .i64 (doesP o.1 o.2.1 o.2.2.1 o.2.2.2 x).1.1, .string (outp x o)]) ∧ n2 = (tk (stp x o).1).length ∧ IR w' A2 (tk (stp x o).1) ∧ (tk (stp x o).1).length ≤ c2 ∧ Below w.heap.size w w' := by
  subst hn
  refine (do_any w _ (refOf x) o.1 o.2.1 o.2.2.1 o.2.2.2 ⟨A, c, rfl, hi, hc⟩ (ref_size x) (by show (tk x.1).length + _ ≤ _; rw [tk_length]; omega)).mono fun e w' hq => ?_
  rw [ref_do x o hG] at hq
  obtain ⟨v, he, ⟨A2, c2, rfl, hi2, hc2⟩, hb⟩ := hq
  exact ⟨A2, c2, _, he, rfl, hi2, hc2, hb⟩
theorem all_few (v : Value) (l : List Op4) (w : World) (hv : Script w v l) (hf : fewB l = false) :
    Calls Try.prog 7 #[v] w fun e w' => e = .returned (.bool true) ∧ Below w.heap.size w w' := by
  have hv' := Lib.hid hv
  have hf' := Lib.hid hf
  clear hv hf
  go_enter Try.func7, Try.ntmps7
  go_wp2_with fail
  refine (live_new w _ (Below.refl _ _)).mono ?_
  rintro e w0 ⟨b, rfl, hL, hB⟩
  have hL0 := Lib.hid hL
  clear hL hB
  go_wp2_with fail
  refine (few_any _ l _ (hv'.out.below hL0.out.old)).mono ?_
  rintro e w1 ⟨rfl, hB⟩
  have hH1 := Lib.hid (hL0.out.below hB)
  clear hB hL0
  rw [hf'.out]
  go_wp2_with (go_at_call 12; (with_reducible refine (alive_any _).mono ?_); rintro e w2 ⟨rfl, hB2⟩; have hB2' := Lib.hid hB2; clear hB2)
  go_ret
  exact ⟨by simp, hH1.out.old.trans (hB2'.out.mono hH1.out.old.size)⟩
theorem all_yes (v : Value) (l : List Op4) (w : World) (hv : Script w v l) (hf : fewB l = true) :
    Calls Try.prog 7 #[v] w fun e w' => e = .returned (.bool true) ∧ Below w.heap.size w w' := by
  have hn5 : bytesOf l ≤ 5000 := by simp [fewB] at hf; exact hf.2
  have hl2 : l.length ≤ 200 := by simp [fewB] at hf; exact hf.1
  have hv' := Lib.hid hv
  have hf' := Lib.hid hf
  obtain ⟨a, cap, rfl, hmx, -, hA⟩ := hv
  clear hf
  go_enter Try.func7, Try.ntmps7
  go_wp2_with fail
  refine (live_new w _ (Below.refl _ _)).mono ?_
  rintro e w0 ⟨b, rfl, hL, hB⟩
  have hL0 := Lib.hid hL
  clear hL hB
  go_wp2_with fail
  refine (few_any _ l _ (hv'.out.below hL0.out.old)).mono ?_
  rintro e w1 ⟨rfl, hB⟩
  have hH1 := Lib.hid (hL0.out.below hB)
  clear hB hL0
  rw [hf'.out]
  go_wp2
  have hz0 := Lib.hid (show Live w (w1.alloc (.cells #[.string ⟨#[]⟩, .slice none 0 0, .int .i64 0] 47)) b ([], 0) from hH1.out.below ((Below.refl _ _).alloc (Nat.le_refl _) _))
  have hz1 := Lib.hid (Blk.new w1 47 #[.string ⟨#[]⟩, .slice none 0 0, .int .i64 0])
  have hz2 := Lib.hid hH1.out.old.size
  go_loopw [27] (fun iv wr => ∃ (k : Nat) (x : St) (A1 : Option Addr) (c1 n1 : Nat), k ≤ l.length ∧ iv = .int .i64 k ∧ Live w wr b x ∧ tot x.1 ≤ bytesOf (l.take k) ∧ Blk wr w1.heap.size 47 #[.string (cat x.1), .slice A1 n1 c1, .int .i64 x.2] ∧ n1 = (tk x.1).length ∧ IR wr A1 (tk x.1) ∧ (tk x.1).length ≤ c1) (fun iv _ => l.length - (intOf iv).toNat)
  case atStart => exact ⟨0, ([], 0), none, 0, 0, by omega, rfl, hz0.out, Nat.zero_le _, hz1.out, rfl, IR.nil _ _, Nat.le_refl _⟩
  case round =>
    obtain ⟨k, x, A1, c1, n1, hk, rfl, hL, hT, hK0, hn1', hI0, hc1'⟩ := hrel
    clear hH1 hz0 hz1
    have hKw := hz2.out
    generalize w1.heap.size = K at *
    by_cases hlt : k < l.length
    · obtain ⟨g, oo, rfl, hc⟩ := hA (by intro h; subst h; simp at hlt)
      have hx : l[k]? = some l[k] := List.getElem?_eq_getElem hlt
      obtain ⟨d0, d1, d2, d3⟩ := hc k _ hx
      have hbt := Lib.hid (bytesOf_take l k _ hx)
      have hble := bytesOf_le l (k + 1)
      rw [hbt.out] at hble
      have hts := tot_stp x l[k]
      generalize l[k] = p at *
      obtain ⟨p0, p1, p2, p3⟩ := p
      dsimp only at *
      have d0' := bcells hL.old d0
      have d1' := bcells hL.old d1
      have d2' := bcells hL.old d2
      have d3' := bcells hL.old d3
      have hL' := Lib.hid hL
      have hsz := hL.old.size
      clear hc hx d0 d1 d2 d3 hL
      have hc0 : wr.cell? ⟨K, 0, none⟩ = some (.string (cat x.1)) := (hK0.cell 0).trans rfl
      have hc1x : wr.cell? ⟨K, 1, none⟩ = some (.slice A1 n1 c1) := (hK0.cell 1).trans rfl
      have hc2x : wr.cell? ⟨K, 2, none⟩ = some (.int .i64 x.2) := (hK0.cell 2).trans rfl
      have hKl : K < wr.heap.size := hK0.lt
      have hK := Lib.hid hK0
      have hI := Lib.hid hI0
      have hn1 := Lib.hid hn1'
      have hc1 := Lib.hid hc1'
      have hob : tot x.1 + p3.size ≤ 1000000000 := by omega
      clear hK0 hI0 hn1' hc1'
      go_wp2_with fail
      have hBx : Below wr.heap.size wr (wr.alloc (.cells #[.int .i64 p0, .int .i64 p1, .int .i64 p2, .string p3] 28)) := (Below.refl _ _).alloc (Nat.le_refl _) _
      have hOb : Blk (wr.alloc (.cells #[.int .i64 p0, .int .i64 p1, .int .i64 p2, .string p3] 28)) wr.heap.size 28 #[.int .i64 p0, .int .i64 p1, .int .i64 p2, .string p3] := Blk.new wr _ _
      refine (ref_call _ x (p0, p1, p2, p3) hL'.out.good A1 c1 n1 hn1.out (hI.out.below hBx) hc1.out hob).mono ?_
      rintro e w1 ⟨A2, c2, n2, rfl, hn2', hI2, hc2', hB2⟩
      dsimp only at hn2' hI2 hc2' hB2 ⊢
      have hK1 : Blk w1 K 47 _ := (hK.out.below hBx).below hB2
      have hO1 : Blk w1 wr.heap.size 28 _ := hOb.below hB2
      have hL1' : Live w w1 b x := (hL'.out.below hBx).below hB2
      have f0 := hK1.free 0
      have f1 := hK1.free 1
      have f2 := hK1.free 2
      have k0 : w1.cell? ⟨K, 0, none⟩ = some (.string (cat x.1)) := (hK1.cell 0).trans rfl
      have k1 : w1.cell? ⟨K, 1, none⟩ = some (.slice A1 n1 c1) := (hK1.cell 1).trans rfl
      have k2 : w1.cell? ⟨K, 2, none⟩ = some (.int .i64 x.2) := (hK1.cell 2).trans rfl
      have o0 : w1.cell? ⟨wr.heap.size, 0, none⟩ = some (.int .i64 p0) := (hO1.cell 0).trans rfl
      have o1 : w1.cell? ⟨wr.heap.size, 1, none⟩ = some (.int .i64 p1) := (hO1.cell 1).trans rfl
      have o2 : w1.cell? ⟨wr.heap.size, 2, none⟩ = some (.int .i64 p2) := (hO1.cell 2).trans rfl
      have o3 : w1.cell? ⟨wr.heap.size, 3, none⟩ = some (.string p3) := (hO1.cell 3).trans rfl
      have hol : wr.heap.size < w1.heap.size := hO1.lt
      have hKl1 : K < w1.heap.size := hK1.lt
      have hK1' := Lib.hid hK1
      have hO1' := Lib.hid hO1
      have hL1h := Lib.hid hL1'
      have hI2' := Lib.hid hI2
      have hn2 := Lib.hid hn2'
      have hc2 := Lib.hid hc2'
      have hGy := Lib.hid (hL1'.good.stp (p0, p1, p2, p3))
      generalize hy : stp x (p0, p1, p2, p3) = y at *
      have hy' := Lib.hid hy
      have hKo : K ≠ wr.heap.size := by omega
      clear hOb hK1 hO1 hL1' hI2 hn2' hc2' hB2 hBx hy hc0 hc1x hc2x
      go_wp2_with fail
      have LX := ((((hL1h.out.set_ hK1'.out hKw 0 (.string (cat y.1))).set_ (hK1'.out.set_ 0 _) hKw 1 (.slice A2 n2 c2)).set_ ((hK1'.out.set_ 0 _).set_ 1 _) hKw 2 (.int .i64 y.2))).below ((Below.refl _ _).alloc (Nat.le_refl _) (.cells #[.string (cat y.1), .slice A2 n2 c2, .int .i64 y.2] 47))
      have KX := (blk3_set (x := .string (cat y.1)) (y := .slice A2 n2 c2) (z := .int .i64 y.2) hK1'.out).below ((Below.refl _ _).alloc (Nat.le_refl _) (.cells #[.string (cat y.1), .slice A2 n2 c2, .int .i64 y.2] 47))
      have OX := (((hO1'.out.far (p := ⟨K, 0, none⟩) (Ne.symm hKo) (.string (cat y.1))).far (p := ⟨K, 1, none⟩) (Ne.symm hKo) (.slice A2 n2 c2)).far (p := ⟨K, 2, none⟩) (Ne.symm hKo) (.int .i64 y.2)).below ((Below.refl _ _).alloc (Nat.le_refl _) (.cells #[.string (cat y.1), .slice A2 n2 c2, .int .i64 y.2] 47))
      have IX := (IR.sets (x := .string (cat y.1)) (y := .slice A2 n2 c2) (z := .int .i64 y.2) hI2'.out hK1'.out).below ((Below.refl _ _).alloc (Nat.le_refl _) (.cells #[.string (cat y.1), .slice A2 n2 c2, .int .i64 y.2] 47))
      refine (live_does2 LX (p0, p1, p2, p3) (by dsimp only; omega) (by omega)).mono ?_
      rintro e w3 ⟨rfl, hL3x, hKp⟩
      rw [hy'.out] at hL3x
      dsimp only
      have hK3 := Lib.hid (hKp.blk KX (by decide) (by decide))
      have hO3 := Lib.hid (hKp.blk OX (by decide) (by decide))
      have hI3 := Lib.hid (IX.keep2 hKp)
      have hL3 := Lib.hid hL3x
      have c0 : w3.cell? ⟨K, 0, none⟩ = some (.string (cat y.1)) := (hK3.out.cell 0).trans rfl
      have c1 : w3.cell? ⟨K, 1, none⟩ = some (.slice A2 n2 c2) := (hK3.out.cell 1).trans rfl
      have c2' : w3.cell? ⟨K, 2, none⟩ = some (.int .i64 y.2) := (hK3.out.cell 2).trans rfl
      have c3 : w3.cell? ⟨wr.heap.size, 1, none⟩ = some (.int .i64 p1) := (hO3.out.cell 1).trans rfl
      have bdr : Below w3.heap.size w3 w3.drew := (Below.refl _ _).drew
      have hty : tot y.1 ≤ 1000000000 := by omega
      have hty2 : tot y.1 ≤ 1000000000000 := by omega
      clear LX KX OX IX hL3x hKp f0 f1 f2 k0 k1 k2 o0 o1 o2 o3 hK1' hO1' hL1h hI2' hol hKl1
      go_wp2
      refine start_ (n := 25) (S := fun w' => w'.cell? ⟨K, 0, none⟩ = some (.string (cat y.1)) ∧ w'.cell? ⟨K, 1, none⟩ = some (.slice A2 n2 c2) ∧ w'.cell? ⟨K, 2, none⟩ = some (.int .i64 y.2) ∧ w'.cell? ⟨wr.heap.size, 1, none⟩ = some (.int .i64 p1)) (ds := []) #[false, false, false, false, false, false, false, false, false, false, false, false, false, false, false, false, false, false, false, false, false, false, false, false, false] (by kernel_rfl) rfl rfl ⟨c0, c1, c2', c3⟩ (fun hHeld => ?_)
      refine pure_ (i := 0) (N := some 45) (v := ?_) (a' := ?_) #[true, false, false, false, false, false, false, false, false, false, false, false, false, false, false, false, false, false, false, false, false, false, false, false, false] rfl rfl (by kernel_rfl) (fun _ _ _ h => h) (Or.inl ⟨by rfl, ?_⟩) ?_ ?_
      rotate_left
      · intro w'
        go_simp
        with_reducible rfl
      rotate_left
      · simp only [Act.put, List.setIfInBounds_toArray, List.set_cons_zero, List.set_cons_succ, i64_w, i32_w]
        rfl
      refine pure_ (i := 1) (N := some 46) (v := ?_) (a' := ?_) #[true, true, false, false, false, false, false, false, false, false, false, false, false, false, false, false, false, false, false, false, false, false, false, false, false] rfl rfl (by kernel_rfl) (fun _ _ _ h => h) (Or.inl ⟨by rfl, ?_⟩) ?_ ?_
      rotate_left
      · intro w'
        go_simp
        with_reducible rfl
      rotate_left
      · simp only [Act.put, List.setIfInBounds_toArray, List.set_cons_zero, List.set_cons_succ, i64_w, i32_w]
        rfl
      refine pure_ (i := 2) (N := some 47) (v := ?_) (a' := ?_) #[true, true, true, false, false, false, false, false, false, false, false, false, false, false, false, false, false, false, false, false, false, false, false, false, false] rfl rfl (by kernel_rfl) (fun _ _ _ h => h) (Or.inl ⟨by rfl, ?_⟩) ?_ ?_
      rotate_left
      · intro w'
        go_simp
        with_reducible rfl
      rotate_left
      · simp only [Act.put, List.setIfInBounds_toArray, List.set_cons_zero, List.set_cons_succ, i64_w, i32_w]
        rfl
      refine pure_ (i := 3) (N := some 48) (v := ?_) (a' := ?_) #[true, true, true, true, false, false, false, false, false, false, false, false, false, false, false, false, false, false, false, false, false, false, false, false, false] rfl rfl (by kernel_rfl) (fun _ _ _ h => h) (Or.inl ⟨by rfl, ?_⟩) ?_ ?_
      rotate_left
      · intro w'
        go_simp
        with_reducible rfl
      rotate_left
      · simp only [Act.put, List.setIfInBounds_toArray, List.set_cons_zero, List.set_cons_succ, i64_w, i32_w]
        rfl
      refine pure_ (i := 4) (N := some 49) (v := ?_) (a' := ?_) #[true, true, true, true, true, false, false, false, false, false, false, false, false, false, false, false, false, false, false, false, false, false, false, false, false] rfl rfl (by kernel_rfl) (fun _ _ _ h => h) (Or.inl ⟨by rfl, ?_⟩) ?_ ?_
      rotate_left
      · intro w'
        go_simp
        with_reducible rfl
      rotate_left
      · simp only [Act.put, List.setIfInBounds_toArray, List.set_cons_zero, List.set_cons_succ, i64_w, i32_w]
        rfl
      refine pure_ (i := 5) (N := some 50) (v := ?_) (a' := ?_) #[true, true, true, true, true, true, false, false, false, false, false, false, false, false, false, false, false, false, false, false, false, false, false, false, false] rfl rfl (by kernel_rfl) (fun _ _ _ h => h) (Or.inl ⟨by rfl, ?_⟩) ?_ ?_
      rotate_left
      · intro w'
        go_simp
        with_reducible rfl
      rotate_left
      · simp only [Act.put, List.setIfInBounds_toArray, List.set_cons_zero, List.set_cons_succ, i64_w, i32_w]
        rfl
      refine pure_ (i := 6) (N := some 51) (v := ?_) (a' := ?_) #[true, true, true, true, true, true, true, false, false, false, false, false, false, false, false, false, false, false, false, false, false, false, false, false, false] rfl rfl (by kernel_rfl) (fun _ _ _ h => h) (Or.inl ⟨by rfl, ?_⟩) ?_ ?_
      rotate_left
      · intro w'
        go_simp
        with_reducible rfl
      rotate_left
      · simp only [Act.put, List.setIfInBounds_toArray, List.set_cons_zero, List.set_cons_succ, i64_w, i32_w]
        rfl
      refine pure_ (i := 7) (N := some 52) (v := ?_) (a' := ?_) #[true, true, true, true, true, true, true, true, false, false, false, false, false, false, false, false, false, false, false, false, false, false, false, false, false] rfl rfl (by kernel_rfl) (fun _ _ _ h => h) (Or.inl ⟨by rfl, ?_⟩) ?_ ?_
      rotate_left
      · intro w'
        go_simp
        with_reducible rfl
      rotate_left
      · simp only [Act.put, List.setIfInBounds_toArray, List.set_cons_zero, List.set_cons_succ, i64_w, i32_w]
        rfl
      refine pure_ (i := 8) (N := some 53) (v := ?_) (a' := ?_) #[true, true, true, true, true, true, true, true, true, false, false, false, false, false, false, false, false, false, false, false, false, false, false, false, false] rfl rfl (by kernel_rfl) (fun _ _ _ h => h) (Or.inl ⟨by rfl, ?_⟩) ?_ ?_
      rotate_left
      · intro w'
        go_simp
        with_reducible rfl
      rotate_left
      · simp only [Act.put, List.setIfInBounds_toArray, List.set_cons_zero, List.set_cons_succ, i64_w, i32_w]
        rfl
      refine pure_ (i := 9) (N := some 54) (v := ?_) (a' := ?_) #[true, true, true, true, true, true, true, true, true, true, false, false, false, false, false, false, false, false, false, false, false, false, false, false, false] rfl rfl (by kernel_rfl) (fun _ _ _ h => h) (Or.inl ⟨by rfl, ?_⟩) ?_ ?_
      rotate_left
      · intro w'
        go_simp
        with_reducible rfl
      rotate_left
      · simp only [Act.put, List.setIfInBounds_toArray, List.set_cons_zero, List.set_cons_succ, i64_w, i32_w]
        rfl
      refine take_ (i := 10) (N := some 55) (v := ?_) (a' := ?_) #[true, true, true, true, true, true, true, true, true, true, true, false, false, false, false, false, false, false, false, false, false, false, false, false, false] rfl rfl (by kernel_rfl) (fun _ _ _ h => h) (Or.inl ⟨by rfl, ?_⟩) hHeld ?_ ?_
      rotate_left
      · rintro w' ⟨s0, s1, s2, s3⟩
        go_simp
        with_reducible rfl
      rotate_left
      · simp only [Act.put, List.setIfInBounds_toArray, List.set_cons_zero, List.set_cons_succ, i64_w, i32_w]
        rfl
      refine one_ (i := 11) (N := some 56) #[true, true, true, true, true, true, true, true, true, true, true, true, false, false, false, false, false, false, false, false, false, false, false, false, false] rfl rfl (by kernel_rfl) (by decide) (fun K hK => ?_)
      refine goes_ Try.func24 (by kernel_rfl) rfl #[.pointer (some ⟨b, 0, none⟩), .agg #[.string (cat y.1), .slice A2 n2 c2, .int .i64 y.2]] (by rfl) rfl rfl (by simp only [List.map_toArray, List.map_cons, List.map_nil]; rfl) ?_
      with_reducible refine (live_stands (wr := w3.drew) (hL3.out.below bdr) A2 c2 n2 hn2.out (hI3.out.below bdr) hc2.out hty).mono ?_
      rintro e w4 ⟨rfl, hL4, hB4⟩
      have hB4' : Below w3.heap.size w3 w4 := ⟨hB4.os, hB4.tape, hB4.output, hB4.size, hB4.block⟩
      have hK4 := Lib.hid (hK3.out.below hB4')
      have hO4 := Lib.hid (hO3.out.below hB4')
      have hI4 := Lib.hid (hI3.out.below hB4')
      have hL4' := Lib.hid hL4
      clear hL4 hB4 hB4'
      refine ⟨_, rfl, ?_⟩
      refine hK.out _ _ ⟨((hK4.out).cell 0).trans rfl, ((hK4.out).cell 1).trans rfl, ((hK4.out).cell 2).trans rfl, ((hO4.out).cell 1).trans rfl⟩ (fun hHeld => ?_)
      clear hK K
      refine norm_ (a' := ?_) ?_ ?_
      rotate_left
      · show Act.put _ (some 56) _ = _
        simp only [Act.put, List.setIfInBounds_toArray, List.set_cons_zero, List.set_cons_succ, i64_w, i32_w]
        rfl
      refine pure_ (i := 12) (N := some 57) (v := ?_) (a' := ?_) #[true, true, true, true, true, true, true, true, true, true, true, true, true, false, false, false, false, false, false, false, false, false, false, false, false] rfl rfl (by kernel_rfl) (fun _ _ _ h => h) (Or.inl ⟨by rfl, ?_⟩) ?_ ?_
      rotate_left
      · intro w'
        go_simp
        with_reducible rfl
      rotate_left
      · simp only [Act.put, List.setIfInBounds_toArray, List.set_cons_zero, List.set_cons_succ, i64_w, i32_w]
        rfl
      refine pure_ (i := 13) (N := some 58) (v := ?_) (a' := ?_) #[true, true, true, true, true, true, true, true, true, true, true, true, true, true, false, false, false, false, false, false, false, false, false, false, false] rfl rfl (by kernel_rfl) (fun _ _ _ h => h) (Or.inl ⟨by rfl, ?_⟩) ?_ ?_
      rotate_left
      · intro w'
        go_simp
        with_reducible rfl
      rotate_left
      · simp only [Act.put, List.setIfInBounds_toArray, List.set_cons_zero, List.set_cons_succ, i64_w, i32_w]
        rfl
      refine pure_ (i := 14) (N := some 59) (v := ?_) (a' := ?_) #[true, true, true, true, true, true, true, true, true, true, true, true, true, true, true, false, false, false, false, false, false, false, false, false, false] rfl rfl (by kernel_rfl) (fun _ _ _ h => h) (Or.inl ⟨by rfl, ?_⟩) ?_ ?_
      rotate_left
      · intro w'
        go_simp
        with_reducible rfl
      rotate_left
      · simp only [Act.put, List.setIfInBounds_toArray, List.set_cons_zero, List.set_cons_succ, i64_w, i32_w]
        rfl
      refine pure_ (i := 15) (N := some 60) (v := ?_) (a' := ?_) #[true, true, true, true, true, true, true, true, true, true, true, true, true, true, true, true, false, false, false, false, false, false, false, false, false] rfl rfl (by kernel_rfl) (fun _ _ _ h => h) (Or.inl ⟨by rfl, ?_⟩) ?_ ?_
      rotate_left
      · intro w'
        go_simp
        with_reducible rfl
      rotate_left
      · simp only [Act.put, List.setIfInBounds_toArray, List.set_cons_zero, List.set_cons_succ, i64_w, i32_w]
        rfl
      refine pure_ (i := 16) (N := some 61) (v := ?_) (a' := ?_) #[true, true, true, true, true, true, true, true, true, true, true, true, true, true, true, true, true, false, false, false, false, false, false, false, false] rfl rfl (by kernel_rfl) (fun _ _ _ h => h) (Or.inl ⟨by rfl, ?_⟩) ?_ ?_
      rotate_left
      · intro w'
        go_simp
        with_reducible rfl
      rotate_left
      · simp only [Act.put, List.setIfInBounds_toArray, List.set_cons_zero, List.set_cons_succ, i64_w, i32_w]
        rfl
      refine pure_ (i := 20) (N := some 65) (v := ?_) (a' := ?_) #[true, true, true, true, true, true, true, true, true, true, true, true, true, true, true, true, true, false, false, false, true, false, false, false, false] rfl rfl (by kernel_rfl) (fun _ _ _ h => h) (Or.inl ⟨by rfl, ?_⟩) ?_ ?_
      rotate_left
      · intro w'
        go_simp
        with_reducible rfl
      rotate_left
      · simp only [Act.put, List.setIfInBounds_toArray, List.set_cons_zero, List.set_cons_succ, i64_w, i32_w]
        rfl
      refine take_ (i := 17) (N := some 62) (v := ?_) (a' := ?_) #[true, true, true, true, true, true, true, true, true, true, true, true, true, true, true, true, true, true, false, false, true, false, false, false, false] rfl rfl (by kernel_rfl) (fun _ _ _ h => h) (Or.inl ⟨by rfl, ?_⟩) hHeld ?_ ?_
      rotate_left
      · rintro w' ⟨s0, s1, s2, s3⟩
        go_simp
        with_reducible rfl
      rotate_left
      · simp only [Act.put, List.setIfInBounds_toArray, List.set_cons_zero, List.set_cons_succ, i64_w, i32_w]
        rfl
      refine take_ (i := 19) (N := some 64) (v := ?_) (a' := ?_) #[true, true, true, true, true, true, true, true, true, true, true, true, true, true, true, true, true, true, false, true, true, false, false, false, false] rfl rfl (by kernel_rfl) (fun _ _ _ h => h) (Or.inl ⟨by rfl, ?_⟩) hHeld ?_ ?_
      rotate_left
      · rintro w' ⟨s0, s1, s2, s3⟩
        go_simp
        with_reducible rfl
      rotate_left
      · simp only [Act.put, List.setIfInBounds_toArray, List.set_cons_zero, List.set_cons_succ, i64_w, i32_w]
        rfl
      refine take_ (i := 21) (N := some 66) (v := ?_) (a' := ?_) #[true, true, true, true, true, true, true, true, true, true, true, true, true, true, true, true, true, true, false, true, true, true, false, false, false] rfl rfl (by kernel_rfl) (fun _ _ _ h => h) (Or.inl ⟨by rfl, ?_⟩) hHeld ?_ ?_
      rotate_left
      · rintro w' ⟨s0, s1, s2, s3⟩
        go_simp
        with_reducible rfl
      rotate_left
      · simp only [Act.put, List.setIfInBounds_toArray, List.set_cons_zero, List.set_cons_succ, i64_w, i32_w]
        rfl
      refine one_ (i := 18) (N := some 63) #[true, true, true, true, true, true, true, true, true, true, true, true, true, true, true, true, true, true, true, true, true, true, false, false, false] rfl rfl (by kernel_rfl) (by decide) (fun K hK => ?_)
      refine goes_ Try.func19 (by kernel_rfl) rfl #[.pointer (some ⟨b, 0, none⟩), .int .i64 p1] (by rfl) rfl rfl (by simp only [List.map_toArray, List.map_cons, List.map_nil]; rfl) ?_
      with_reducible refine (live_ready p1 hL4'.out hty2).mono ?_
      rintro e w5 ⟨rfl, hL5, hB5⟩
      have hK5 := Lib.hid (hK4.out.below hB5)
      have hO5 := Lib.hid (hO4.out.below hB5)
      have hI5 := Lib.hid (hI4.out.below hB5)
      have hL5' := Lib.hid hL5
      clear hL5 hB5
      refine ⟨_, rfl, ?_⟩
      refine hK.out _ _ ⟨((hK5.out).cell 0).trans rfl, ((hK5.out).cell 1).trans rfl, ((hK5.out).cell 2).trans rfl, ((hO5.out).cell 1).trans rfl⟩ (fun hHeld => ?_)
      clear hK K
      refine norm_ (a' := ?_) ?_ ?_
      rotate_left
      · show Act.put _ (some 63) _ = _
        simp only [Act.put, List.setIfInBounds_toArray, List.set_cons_zero, List.set_cons_succ, i64_w, i32_w]
        rfl
      refine one_ (i := 22) (N := some 67) #[true, true, true, true, true, true, true, true, true, true, true, true, true, true, true, true, true, true, true, true, true, true, true, false, false] rfl rfl (by kernel_rfl) (by decide) (fun K hK => ?_)
      refine goes_ Try.func25 (by kernel_rfl) rfl #[.agg #[.string (cat y.1), .slice A2 n2 c2, .int .i64 y.2], .int .i64 p1] (by rfl) rfl rfl (by simp only [List.map_toArray, List.map_cons, List.map_nil]; rfl) ?_
      with_reducible refine (ref_ready hGy.out A2 c2 n2 p1 hn2.out hI5.out hty).mono ?_
      rintro e w6 ⟨rfl, hB6⟩
      have hK6 := Lib.hid (hK5.out.below hB6)
      have hO6 := Lib.hid (hO5.out.below hB6)
      have hI6 := Lib.hid (hI5.out.below hB6)
      have hL6' := Lib.hid (hL5'.out.below hB6)
      clear hB6
      refine ⟨_, rfl, ?_⟩
      refine hK.out _ _ ⟨((hK6.out).cell 0).trans rfl, ((hK6.out).cell 1).trans rfl, ((hK6.out).cell 2).trans rfl, ((hO6.out).cell 1).trans rfl⟩ (fun hHeld => ?_)
      clear hK K
      refine norm_ (a' := ?_) ?_ ?_
      rotate_left
      · show Act.put _ (some 67) _ = _
        simp only [Act.put, List.setIfInBounds_toArray, List.set_cons_zero, List.set_cons_succ, i64_w, i32_w]
        rfl
      refine pure_ (i := 23) (N := some 68) (v := ?_) (a' := ?_) #[true, true, true, true, true, true, true, true, true, true, true, true, true, true, true, true, true, true, true, true, true, true, true, true, false] rfl rfl (by kernel_rfl) (fun _ _ _ h => h) (Or.inl ⟨by rfl, ?_⟩) ?_ ?_
      rotate_left
      · intro w'
        go_simp
        with_reducible rfl
      rotate_left
      · simp only [Act.put, List.setIfInBounds_toArray, List.set_cons_zero, List.set_cons_succ, i64_w, i32_w]
        rfl
      refine pure_ (i := 24) (N := some 69) (v := ?_) (a' := ?_) #[true, true, true, true, true, true, true, true, true, true, true, true, true, true, true, true, true, true, true, true, true, true, true, true, true] rfl rfl (by kernel_rfl) (fun _ _ _ h => h) (Or.inl ⟨by rfl, ?_⟩) ?_ ?_
      rotate_left
      · intro w'
        go_simp
        with_reducible rfl
      rotate_left
      · simp only [Act.put, List.setIfInBounds_toArray, List.set_cons_zero, List.set_cons_succ, i64_w, i32_w]
        rfl
      refine done_ (by kernel_rfl) ?_
      clear c0 c1 c2' c3 bdr hHeld
      go_wp2
      go_roundw
      case rel => exact ⟨k + 1, y, A2, c2, n2, by omega, by go_num, hL6'.out, by rw [hbt.out]; omega, hK6.out, hn2.out, hI6.out, hc2.out⟩
      case measure => simp [intOf]; omega
    · have hk2 : k = l.length := by omega
      subst hk2
      have hnl : ¬ (l.length < l.length) := by omega
      have hL1 := Lib.hid hL.old
      clear hL hA hK0 hn1' hI0 hc1'
      go_wp2_with (go_at_call 12; (with_reducible refine (alive_any _).mono ?_); rintro e w2 ⟨rfl, hB2⟩; have hB2' := Lib.hid hB2; clear hB2)
      go_ret
      exact ⟨rfl, hL1.out.trans (hB2'.out.mono hL1.out.size)⟩
theorem all_any (v : Value) (l : List Op4) (w : World) (hv : Script w v l) :
    Calls Try.prog 7 #[v] w fun e w' => e = .returned (.bool true) ∧ Below w.heap.size w w' := by
  cases hf : fewB l with
  | false => exact all_few v l w hv hf
  | true => exact all_yes v l w hv hf
end Go.Proofs.Ytcoennfpaimclaa.Ref07
