/- slices.Insert and slices.Delete at a chain's row (chapter 11). Conditions: the row is short. -/
import Derived.Laws.CopyOwn
import Derived.Lib.AppendZeros
import Derived.Deep.RegionLaw
import Derived.Test.YtnkgjnmhiedfoaaGreatK22
namespace Go.Proofs.YtnkgjnmhiedfoaaGreat.Chain
open Go.RowKit Mem Tick Cargo Toxic Stage
open Go.Proofs.YtnkgjnmhiedfoaaGreatW.PrintLast Pu
open Go.Proofs.YtnkgjnmhiedfoaaGreatW.PrintWords (add_at)
set_option maxRecDepth 100000
set_option linter.unusedVariables false
set_option linter.unusedSimpArgs false
theorem run_append_zeros {P : Program} (w : World) (t tn ty e : TypeId) (i : TypeInfo) (z : Value) (k kn : IntKind) (ht : P.underlying t = some (.slice e)) (htn : P.underlying tn = some (.int kn)) (hi : P.info? e = some i) (hz : i.zero = some z)
    (b : Addr) (sLen sCap : Nat) (olds : List Value) (hlo : olds.length = sLen * i.size) (holds : ∀ j v, olds[j]? = some v → w.cell? (b.add j) = some v)
    (n : Nat) (h0 : 0 < n) (hs : 0 < i.size) (hg : sCap < sLen + n) (h63 : ((sLen + n : Nat) : Int) ≤ 9223372036854775807) (hfit : Builtin.nextslicecap (sLen + n) sCap * i.bytes ≤ 281474976710656) (h48 : n * i.bytes ≤ 281474976710656) :
    (Builtin.append_ #[t, tn] ty #[.slice (some b) sLen sCap, .int k n]).run P w =
      .ok (.slice (some ⟨w.heap.size, 0, none⟩) (sLen + n) (grownCap w (sLen + n) sCap e))
        (w.drew.alloc (.cells (olds.toArray ++ Builtin.zeroCells z.cells n ++ Builtin.zeroCells z.cells (grownCap w (sLen + n) sCap e - (sLen + n))) e)) := by
  have hn : ¬ (sLen + n ≤ sCap) := by omega
  have hw : IntKind.i64.wrap (n : Int) = n := by rw [IntKind.wrap_i64]; omega
  have h63' : ¬ (9223372036854775807 < ((sLen : Int) + (n : Int))) := by omega
  have h48' : ¬ (281474976710656 < Builtin.nextslicecap (sLen + n) sCap * i.bytes) := by omega
  have h48i : ¬ (281474976710656 < (n : Int) * (i.bytes : Int)) := by
    rw [← Int.natCast_mul]
    omega
  have hneg : ¬ ((n : Int) < 0) := by omega
  have hns : ¬ (n = 0 ∨ i.size = 0) := by omega
  have hfo := run_firstCells_some (P := P) w.drew i.size sLen b sLen sCap olds hlo (by simpa using holds)
  simp [Builtin.append_, run_underlying ht, run_underlying htn, sizeOf, typeInfo, zeroValue, hi, hz, asInt, asIntOf, hw, hn, hneg, hns, h63', h48', h48i, Question.forced, hfo, newRow, grownCap]
  intro h
  exact absurd h (Nat.mul_ne_zero (by omega) (by omega))
theorem step_copy_own {P : Program} {w : World} {ops : Array Oper} {o : Oper} {a : Act} {K : Act → World → Prop} {Q : Exit → Act → World → Prop} {E : Prop} (hgd : o.guard = none) (d s : Operand) (dT sT : TypeId)
    (ho : o.op = .call { callee := .builtin .copy, args := #[d, s], argTypes := #[dT, sT] }) (elem : TypeId) (hu : P.underlying dT = some (.slice elem)) (hsz : (P.info? elem).map (·.size) = some 1)
    (g off dLen dCap : Nat) (ad : Addr) (sLen sCap : Nat) (hd : a.eval d = .slice (some ⟨g, off, none⟩) dLen dCap) (hs : a.eval s = .slice (some ad) sLen sCap)
    (cur : Array Value) (t : TypeId) (hg : w.heap[g]? = some (.cells cur t (0, 0))) (cs : List Value) (hn : cs.length = Nat.min sLen dLen)
    (hsrc : ∀ j v, cs[j]? = some v → w.cell? (ad.add j) = some v) (hfit : off + cs.length ≤ cur.size) (h1 : ∀ v ∈ cs, v.oneCell' = true)
    (h : K (a.put o.dst (goInt cs.length)) (w.setRow g (cur.toList.take off ++ (cs ++ cur.toList.drop (off + cs.length))).toArray)) : if Region.wanted o (yielded ops a.tmps) = true then Oper.wp P o a w K Q else E := by
  have hw : Region.wanted o (yielded ops a.tmps) = true := by simp [Region.wanted, hgd]
  rw [if_pos hw]
  have hrun := run_copy_row (P := P) w dT sT o.type elem g off dLen dCap ad sLen sCap cur t cs hu hsz hg hn hsrc hfit h1
  unfold Oper.wp
  simp [execOp, ho, resolve, invoke, builtin, hd, hs, hrun, Result.andThen]
  exact h
theorem wr_n1 (i : Nat) (h : i ≤ 20) : wrap64 ((i : Int) + 1) = (i : Int) + 1 := by unfold wrap64; omega
theorem info_pt : (Tryz.prog.info? 101).map (fun i => (i.zero, i.size, i.bytes)) = some (some (.pointer none), 1, 8) := by kernel_rfl
theorem did_row {F : Nat → Prop} {a : World} (w : World) (r : Nat) (cs : Array Value) (h : Did F a w) (hF : F r := by rfl) : Did F a (w.setRow r cs) :=
  ⟨h.os, h.tape, h.output, by simpa [World.setRow] using h.size, fun k hk hn => (setRow_other w r k cs (fun e => hn (e ▸ hF))).trans (h.block k hk hn)⟩
def RV (w : World) (r cap : Nat) (xs : List Value) : Prop := ∃ rest, Blk w r 101 (xs ++ rest).toArray ∧ (xs ++ rest).length = cap
def insL (i : Nat) (v : Value) (xs : List Value) : List Value := xs.take i ++ v :: xs.drop i
theorem insert_grow (w : World) (r g n i : Nat) (p : Nat) (xs : List Value) (hx : ∀ u ∈ xs, u.oneCell' = true) (hn : xs.length = n) (hi : i < n) (h0 : 0 < i) (h20 : n ≤ 15) (hr : Blk w r 101 xs.toArray) (hg : Blk w g 101 #[ptr p]) :
    Calls Tryz.prog 66 #[.slice (some ⟨r, 0, none⟩) n n, .int .i64 i, .slice (some ⟨g, 0, none⟩) 1 1] w fun e w' =>
      ∃ r' cap', e = .returned (.slice (some ⟨r', 0, none⟩) (n + 1) cap') ∧ RV w' r' cap' (insL i (ptr p) xs) ∧ Below w.heap.size w w' ∧ w.heap.size ≤ r' ∧ cap' ≤ 9223372036854775807 := by
  have hin : ((i : Int) == (n : Int)) = false := by simp; omega
  obtain ⟨inf, hi0, hz0, hz1, hz2⟩ := info_parts info_pt
  have hu52 : Tryz.prog.underlying 104 = some (.slice 101) := Tryz.underlying104
  have hs49 : (Tryz.prog.info? 101).map (·.size) = some 1 := by rw [hi0]; simp [hz1]
  have hti : (xs.take i).length = i := by rw [List.length_take]; omega
  have hinf : inf.size = 1 := hz1
  obtain ⟨gc, C0, hgc, hgm, hC0, htk, hra⟩ : ∃ (gc : Nat) (C0 : List Value), n + 1 ≤ gc ∧ gc ≤ 9223372036854775807 ∧ C0.length = gc ∧ C0.take i = xs.take i ∧ ∀ ty, (Builtin.append_ #[104, 3] ty #[.slice (some ⟨r, 0, none⟩) i n, .int .i64 ((n : Int) + 1 - (i : Int))]).run Tryz.prog w = .ok (.slice (some ⟨w.heap.size, 0, none⟩) (n + 1) gc) (w.drew.alloc (.cells C0.toArray 101)) := by
    have e1 : (n : Int) + 1 - (i : Int) = ((n + 1 - i : Nat) : Int) := by omega
    have hns : Builtin.nextslicecap (i + (n + 1 - i)) n ≤ 2 * (i + (n + 1 - i)) := nextslicecap_le (by omega)
    have hrun := fun ty => run_append_zeros (P := Tryz.prog) w 104 3 ty 101 inf (.pointer none) .i64 .i64 hu52 Tryz.underlying3 hi0 hz0 ⟨r, 0, none⟩ i n (xs.take i) (by rw [hti, hz1]; omega) (fun j v hv => by
      rw [add_at, Nat.zero_add]
      refine (hr.cell j).trans ?_
      rw [List.getElem?_toArray]
      rw [List.getElem?_take] at hv
      split at hv
      · exact hv
      · cases hv) (n + 1 - i) (by omega) (by omega) (by omega) (by omega) (by rw [hz2]; omega) (by rw [hz2]; omega)
    have hge := grownCap_ge w (i + (n + 1 - i)) n 101
    have hgx := grownCap_le_maxLen w (i + (n + 1 - i)) n 101 (by simp only [maxLen]; omega)
    simp only [maxLen] at hgx
    have e2 : i + (n + 1 - i) = n + 1 := by omega
    rw [e2] at hrun hge hgx
    refine ⟨grownCap w (n + 1) n 101, (xs.take i) ++ ((Builtin.zeroCells (Value.pointer none).cells (n + 1 - i)).toList ++ (Builtin.zeroCells (Value.pointer none).cells (grownCap w (n + 1) n 101 - (n + 1))).toList), hge, hgx, ?_, ?_, fun ty => ?_⟩
    · have z1 := size_zeroCells (Value.pointer none).cells (n + 1 - i)
      have z2 := size_zeroCells (Value.pointer none).cells (grownCap w (n + 1) n 101 - (n + 1))
      have z3 : (Value.pointer none).cells.size = 1 := rfl
      rw [z3] at z1 z2
      simp only [List.length_append, Array.length_toList, hti]
      omega
    · rw [List.take_append_of_le_length (by omega), List.take_of_length_le (by omega)]
    · rw [e1, hrun ty]
      congr 3
      apply Array.ext'
      simp [List.append_assoc]
  have hgm' := Lib.hid hgm
  clear hgm
  have hgl : g < w.heap.size := hg.lt
  have hrl : r < w.heap.size := hr.lt
  have hblkA : ((w.alloc (.cells C0.toArray 101)).drew).heap[w.heap.size]? = some (.cells C0.toArray 101 (0, 0)) := heap_alloc_new w _
  have hbA := Lib.hid (((Below.refl w.heap.size w).alloc (Nat.le_refl _) (.cells C0.toArray 101)).drew)
  have hsrc1 : ∀ j v, [ptr p][j]? = some v → ((w.alloc (.cells C0.toArray 101)).drew).cell? ((⟨g, 0, none⟩ : Addr).add j) = some v := fun j v hv => by
    rw [add_at, Nat.zero_add]
    exact ((hg.below hbA.out).cell j).trans (by rw [← hv]; rcases j with _ | j <;> rfl)
  have hfit1 : i + [ptr p].length ≤ C0.toArray.size := by rw [List.size_toArray, hC0]; show i + 1 ≤ gc; omega
  have hmin1 : [ptr p].length = Nat.min 1 (n + 1 - i) := (Nat.min_eq_left (by omega : 1 ≤ n + 1 - i)).symm
  have hg1 : ¬ gc = i := by omega
  have hg2 : ¬ gc = i + 1 := by omega
  have hni : ¬ n = i := by omega
  have hw1 : (0 : Int) ≤ (n : Int) + 1 - (i : Int) := by omega
  have hI1 : (0 : Int) ≤ (i : Int) + 1 := by omega
  have hI2 : (i : Int) + 1 ≤ (n : Int) + 1 := by omega
  have hI3 : ((i : Int) + 1).toNat = i + 1 := by omega
  have hone1 : ∀ v ∈ [ptr p], v.oneCell' = true := by intro v hv; simp at hv; subst hv; rfl
  have hr' := Lib.hid hr
  clear hr hg hti hinf hz0 hz1 hz2 hi0 hgl
  go_enter Tryz.func66, Tryz.ntmps66
  go_wp2_with (first | (at_builtin; refine Lib.wpList_append_run _ rfl _ _ _ _ rfl _ _ rfl rfl _ _ (hra _) ?_) | (refine wpList_copy_own rfl (.tmp 43) (.tmp 44) 104 104 rfl 101 hu52 hs49 w.heap.size i (n + 1 - i) (gc - i) ⟨g, 0, none⟩ 1 1 rfl rfl C0.toArray 101 hblkA [ptr p] hmin1 hsrc1 hfit1 hone1 ?_))
  simp only [Act.put, List.setIfInBounds_toArray, List.set_cons_zero, List.set_cons_succ]
  obtain ⟨L1, hL1⟩ : ∃ L1, L1 = List.take i C0 ++ ([ptr p] ++ List.drop (i + [ptr p].length) C0) := ⟨_, rfl⟩
  rw [← hL1]
  obtain ⟨W1, hW1⟩ : ∃ W1, (w.alloc (.cells C0.toArray 101)).drew.setRow w.heap.size L1.toArray = W1 := ⟨_, rfl⟩
  rw [hW1]
  have hb1 : Below w.heap.size w W1 := by rw [← hW1]; exact below_setRow hbA.out (Nat.le_refl _) _
  have hblk1 : W1.drew.heap[w.heap.size]? = some (.cells L1.toArray 101 (0, 0)) := by rw [← hW1]; exact setRow_heap _ _ _ _ _ _ hblkA
  have hl1 : L1.length = gc := by rw [hL1]; simp only [List.length_append, List.length_take, List.length_drop, List.length_cons, List.length_nil, hC0]; omega
  have hsrc2 : ∀ j v, (xs.drop i)[j]? = some v → W1.drew.cell? ((⟨r, i, none⟩ : Addr).add j) = some v := fun j v hv => by
    rw [add_at]
    refine ((hr'.out.below hb1).cell (i + j)).trans ?_
    rw [List.getElem?_toArray, ← List.getElem?_drop]
    exact hv
  have hmin2 : (xs.drop i).length = Nat.min (n - i) (n - i) := by rw [List.length_drop, hn]; exact (Nat.min_self _).symm
  have hfit2 : (i + 1) + (xs.drop i).length ≤ L1.toArray.size := by rw [List.size_toArray, hl1, List.length_drop, hn]; omega
  have hone2 : ∀ v ∈ xs.drop i, v.oneCell' = true := fun v hv => hx v (List.mem_of_mem_drop hv)
  have hle : i ≤ n := by omega
  have hI4 : wrap64 ((i : Int) + 1) = (i : Int) + 1 := wr_n1 i (by omega)
  clear hW1 hra hbA hsrc1 hblkA hmin1 hfit1 hone1
  refine start_ (n := 9) (S := fun w' => True) (ds := []) (m_ 9 0) (by kernel_rfl) rfl (by kernel_rfl) trivial (fun hHeld => ?_)
  refine pq_ 0 46 9 1 ?_
  refine pq_ 1 47 9 3 ?_
  refine pq_ 2 48 9 7 ?_
  refine pq_ 3 49 9 15 ?_
  refine pq_ 4 50 9 31 ?_
  refine pq_ 5 51 9 63 ?_
  refine pq_ 6 52 9 127 ?_
  refine pq_ 7 53 9 255 ?_
  refine one_ (i := 8) (N := some 54) (m_ 9 511) rfl rfl (by kernel_rfl) (by decide) (fun K hK => ?_)
  refine step_copy_own rfl (.tmp 50) (.tmp 53) 104 104 rfl 101 hu52 hs49 w.heap.size (i + 1) _ _ ⟨r, i, none⟩ _ _ rfl rfl L1.toArray 101 hblk1 (xs.drop i) hmin2 hsrc2 hfit2 hone2 ?_
  refine hK.out _ _ trivial (fun hHeld => ?_)
  clear hK K
  refine norm_ (a' := ?_) ?_ ?_
  rotate_left
  · show Act.put _ (some 54) _ = _
    simp only [Act.put, List.setIfInBounds_toArray, List.set_cons_zero, List.set_cons_succ, i64_w, i32_w]
    rfl
  refine done_ (by kernel_rfl) ?_
  clear hI4
  obtain ⟨L2, hL2⟩ : ∃ L2, L2 = L1.toArray.toList.take (i + 1) ++ (xs.drop i ++ L1.toArray.toList.drop (i + 1 + (xs.drop i).length)) := ⟨_, rfl⟩
  rw [← hL2]
  obtain ⟨W2, hW2⟩ : ∃ W2, W1.drew.setRow w.heap.size L2.toArray = W2 := ⟨_, rfl⟩
  rw [hW2]
  have hb2 : Below w.heap.size w W2 := by rw [← hW2]; exact below_setRow hb1.drew (Nat.le_refl _) _
  have hblk2 : Blk W2 w.heap.size 101 L2.toArray := by rw [← hW2]; exact setRow_heap _ _ _ _ _ _ hblk1
  have hl2 : L2.length = gc := by
    rw [hL2]
    simp only [List.length_append, List.length_take, List.length_drop, hl1, hn]
    omega
  have hfin : L2 = insL i (ptr p) xs ++ L1.drop (n + 1) := by
    have e1 : L1.take (i + 1) = xs.take i ++ [ptr p] := by
      rw [hL1, htk, ← List.append_assoc, List.take_append_of_le_length (by simp; omega), List.take_of_length_le (by simp; omega)]
    rw [hL2, List.length_drop, hn, show i + 1 + (n - i) = n + 1 by omega]
    show L1.take (i + 1) ++ (xs.drop i ++ L1.drop (n + 1)) = _
    rw [e1]
    simp [insL]
  have hres := Lib.hid (show RV W2 w.heap.size gc (insL i (ptr p) xs) from ⟨L1.drop (n + 1), by rw [← hfin]; exact hblk2, by rw [← hfin]; exact hl2⟩)
  clear hW2 hblk2 hl2 hfin hL2 hblk1 hsrc2 hmin2 hfit2 hone2 hL1 hb1 hl1
  have hb2' := Lib.hid hb2
  clear hb2
  go_wp2
  go_ret
  exact ⟨w.heap.size, gc, rfl, hres.out, hb2'.out, Nat.le_refl _, hgm'.out⟩
theorem pure_bind_ {α β : Type} (x : α) (f : α → Sem β) : (pure x : Sem α).bind f = f x := rfl
theorem ov_run (w : World) (g r i la c : Nat) (cg cr : Array Value) (hg : Blk w g 101 cg) (hr : Blk w r 101 cr) (hne : g ≠ r) (hl : la ≠ 0) :
    (Extern.SlicesOverlaps.overlaps #[104, 104] #[4] #[.slice (some ⟨g, 0, none⟩) 1 1, .slice (some ⟨r, i, none⟩) la c]).run Tryz.prog w = .ok (.bool false) w := by
  obtain ⟨inf, hi0, hz0, hz1, hz2⟩ := info_parts info_pt
  have f1 := fun o => hg.free o
  have f2 := fun o => hr.free o
  unfold Blk at hg hr
  delta Extern.SlicesOverlaps.overlaps
  conv => lhs; arg 2; whnf
  have hu : Tryz.prog.underlying 104 = some (.slice 101) := Tryz.underlying104
  have hs1 : w.shape? g = some (101, cg.size) := by simp [World.shape?, hg]
  have hs2 : w.shape? r = some (101, cr.size) := by simp [World.shape?, hr]
  have hne2 : (g == r) = false := by simpa using hne
  simp [Sem.run, Sem.bind, pure_bind_, viewAt, hne2, sizeOf, typeInfo, hu, hi0, hz1, hl, hne, f1, f2, noView, mayBeOne, stringish, hs1, hs2, Result.andThen]
theorem overlaps_run (w : World) (g r i la c : Nat) (cg cr : Array Value) (hg : Blk w g 101 cg) (hr : Blk w r 101 cr) (hne : g ≠ r) (hl : la ≠ 0) :
    (callFunc 94 #[.slice (some ⟨g, 0, none⟩) 1 1, .slice (some ⟨r, i, none⟩) la c]).run Tryz.prog w = .ok (.value (.bool false)) w := by
  have he : Extern.find Tryz.f94 = some (Extern.SlicesOverlaps.overlaps #[104, 104] #[4]) := by rfl
  rw [run_callFunc_extern Tryz.func94 (by kernel_rfl) (by kernel_rfl) (by rfl) he, ov_run w g r i la c cg cr hg hr hne hl]
  rfl
theorem insert_room (w : World) (r g n cap i : Nat) (p : Nat) (xs rest : List Value) (hx : ∀ u ∈ xs, u.oneCell' = true) (hn : xs.length = n) (hi : i < n) (h0 : 0 < i) (h20 : n ≤ 15) (hcap : n < cap) (hcs : (xs ++ rest).length = cap) (hm : cap ≤ 9223372036854775807) (hr : Blk w r 101 (xs ++ rest).toArray) (hg : Blk w g 101 #[ptr p]) (hgr : g ≠ r) :
    Calls Tryz.prog 66 #[.slice (some ⟨r, 0, none⟩) n cap, .int .i64 i, .slice (some ⟨g, 0, none⟩) 1 1] w fun e w' =>
      e = .returned (.slice (some ⟨r, 0, none⟩) (n + 1) cap) ∧ RV w' r cap (insL i (ptr p) xs) ∧ Did (· = r) w w' := by
  have hin : ((i : Int) == (n : Int)) = false := by simp; omega
  obtain ⟨inf, hi0, hz0, hz1, hz2⟩ := info_parts info_pt
  have hu52 : Tryz.prog.underlying 104 = some (.slice 101) := Tryz.underlying104
  have hs49 : (Tryz.prog.info? 101).map (·.size) = some 1 := by rw [hi0]; simp [hz1]
  have hgl : g < w.heap.size := hg.lt
  have hrl : r < w.heap.size := hr.lt
  have hg1 : ¬ cap = i := by omega
  have hg2 : ¬ cap = i + 1 := by omega
  have hq1 : ¬ (cap : Int) < (n : Int) + 1 := by omega
  have hq2 : (n : Int) + 1 ≤ (cap : Int) := by omega
  have hle : i ≤ n := by omega
  have hov := overlaps_run w g r (i + 1) (n - i) (cap - (i + 1)) _ _ hg hr hgr (by omega)
  have hr' := Lib.hid hr
  have hg' := Lib.hid hg
  clear hr hg hz0 hz1 hz2 hi0
  have hcs' := Lib.hid hcs
  clear hcs
  go_enter Tryz.func66, Tryz.ntmps66
  go_wp2
  have hblk0 : w.drew.heap[r]? = some (.cells (xs ++ rest).toArray 101 (0, 0)) := hr'.out
  have hsrc1 : ∀ j v, (xs.drop i)[j]? = some v → w.drew.cell? ((⟨r, i, none⟩ : Addr).add j) = some v := fun j v hv => by
    rw [add_at]
    refine (hr'.out.cell (i + j)).trans ?_
    rw [List.getElem?_toArray]
    rw [List.getElem?_drop] at hv
    rw [List.getElem?_append_left (List.getElem?_eq_some_iff.1 hv).1]
    exact hv
  have hmin1 : (xs.drop i).length = Nat.min (n + 1 - i) (n - i) := by rw [List.length_drop, hn]; exact (Nat.min_eq_right (by omega)).symm
  have hfit1 : (i + 1) + (xs.drop i).length ≤ (xs ++ rest).toArray.size := by rw [List.size_toArray, hcs'.out, List.length_drop, hn]; omega
  have hone1 : ∀ v ∈ xs.drop i, v.oneCell' = true := fun v hv => hx v (List.mem_of_mem_drop hv)
  have hle1 : (i : Int) ≤ (n : Int) + 1 := by omega
  have hle2 : (0 : Int) ≤ (i : Int) + 1 := by omega
  have hI4 : wrap64 ((i : Int) + 1) = (i : Int) + 1 := wr_n1 i (by omega)
  clear hov
  refine start_ (n := 9) (S := fun w' => True) (ds := []) (m_ 9 0) (by kernel_rfl) rfl (by kernel_rfl) trivial (fun hHeld => ?_)
  refine pq_ 0 69 9 1 ?_
  refine pq_ 1 70 9 3 ?_
  refine pq_ 2 71 9 7 ?_
  refine pq_ 3 72 9 15 ?_
  refine pq_ 4 73 9 31 ?_
  refine pq_ 5 74 9 63 ?_
  refine pq_ 6 75 9 127 ?_
  refine pq_ 7 76 9 255 ?_
  refine one_ (i := 8) (N := some 77) (m_ 9 511) rfl rfl (by kernel_rfl) (by decide) (fun K hK => ?_)
  refine step_copy_own rfl (.tmp 73) (.tmp 76) 104 104 rfl 101 hu52 hs49 r (i + 1) _ _ ⟨r, i, none⟩ _ _ rfl rfl (xs ++ rest).toArray 101 hblk0 (xs.drop i) hmin1 hsrc1 hfit1 hone1 ?_
  refine hK.out _ _ trivial (fun hHeld => ?_)
  clear hK K
  refine norm_ (a' := ?_) ?_ ?_
  rotate_left
  · show Act.put _ (some 77) _ = _
    simp only [Act.put, List.setIfInBounds_toArray, List.set_cons_zero, List.set_cons_succ, i64_w, i32_w]
    rfl
  refine done_ (by kernel_rfl) ?_
  clear hI4
  obtain ⟨L1, hL1⟩ : ∃ L1, L1 = (xs ++ rest).toArray.toList.take (i + 1) ++ (xs.drop i ++ (xs ++ rest).toArray.toList.drop (i + 1 + (xs.drop i).length)) := ⟨_, rfl⟩
  rw [← hL1]
  obtain ⟨W1, hW1⟩ : ∃ W1, w.drew.setRow r L1.toArray = W1 := ⟨_, rfl⟩
  rw [hW1]
  have hblk1 : W1.heap[r]? = some (.cells L1.toArray 101 (0, 0)) := by rw [← hW1]; exact setRow_heap _ _ _ _ _ _ hblk0
  have hD1 : Did (· = r) w W1 := by rw [← hW1]; exact did_row w.drew r _ (Did.refl _ _).drew
  have hl1 : L1.length = cap := by
    have := hcs'.out
    rw [hL1]
    simp only [List.length_append, List.length_take, List.length_drop, hn] at *
    omega
  have hg1' : Blk W1 g 101 #[ptr p] := hg'.out.did hD1 hgr
  have hsrc2 : ∀ j v, [ptr p][j]? = some v → W1.cell? ((⟨g, 0, none⟩ : Addr).add j) = some v := fun j v hv => by
    rw [add_at, Nat.zero_add]
    exact (hg1'.cell j).trans (by rw [← hv]; rcases j with _ | j <;> rfl)
  have hmin2 : [ptr p].length = Nat.min 1 (n + 1 - i) := (Nat.min_eq_left (by omega : 1 ≤ n + 1 - i)).symm
  have hfit2 : i + [ptr p].length ≤ L1.toArray.size := by rw [List.size_toArray, hl1]; show i + 1 ≤ cap; omega
  have hone2 : ∀ v ∈ [ptr p], v.oneCell' = true := by intro v hv; simp at hv; subst hv; rfl
  have hL1' := Lib.hid hL1
  clear hL1 hblk0 hsrc1 hmin1 hfit1 hone1 hW1
  go_wp2_with (refine wpList_copy_own rfl (.tmp 80) (.tmp 81) 104 104 rfl 101 hu52 hs49 r i (n + 1 - i) (cap - i) ⟨g, 0, none⟩ 1 1 rfl rfl L1.toArray 101 hblk1 [ptr p] hmin2 hsrc2 hfit2 hone2 ?_)
  go_ret
  have e1 : Nat.min 1 (n + 1 - i) = 1 := Nat.min_eq_left (by omega)
  rw [e1]
  have hti : (xs.take (i + 1)).length = i + 1 := by rw [List.length_take]; omega
  have hL : L1 = xs.take (i + 1) ++ (xs.drop i ++ rest.drop 1) := by
    rw [hL1'.out]
    show (xs ++ rest).take (i + 1) ++ (xs.drop i ++ (xs ++ rest).drop (i + 1 + (xs.drop i).length)) = _
    rw [List.take_append_of_le_length (by omega), List.length_drop, hn, show i + 1 + (n - i) = n + 1 by omega, List.drop_append, List.drop_of_length_le (by omega : xs.length ≤ n + 1), hn, show n + 1 - n = 1 by omega, List.nil_append]
  have hfin : L1.take i ++ ptr p :: L1.drop (i + 1) = insL i (ptr p) xs ++ rest.drop 1 := by
    rw [hL, List.take_append_of_le_length (by omega), List.take_take, Nat.min_eq_left (by omega), List.drop_append, List.drop_of_length_le (by omega : (xs.take (i + 1)).length ≤ i + 1), hti, Nat.sub_self, List.drop_zero, List.nil_append]
    simp [insL]
  have hlf : (L1.take i ++ ptr p :: L1.drop (i + 1)).length = cap := by
    simp only [List.length_append, List.length_take, List.length_cons, List.length_drop, hl1]
    omega
  rw [hfin] at hlf ⊢
  exact ⟨rfl, ⟨rest.drop 1, setRow_heap _ _ _ _ _ _ hblk1, hlf⟩, did_row W1 r _ hD1⟩
theorem insert_any (w : World) (r g n cap i : Nat) (p : Nat) (xs : List Value) (hx : ∀ u ∈ xs, u.oneCell' = true) (hn : xs.length = n) (hi : i < n) (h0 : 0 < i) (h20 : n ≤ 15) (hcap : n ≤ cap) (hm : cap ≤ 9223372036854775807) (hr : RV w r cap xs) (hg : Blk w g 101 #[ptr p]) (hgr : g ≠ r) :
    Calls Tryz.prog 66 #[.slice (some ⟨r, 0, none⟩) n cap, .int .i64 i, .slice (some ⟨g, 0, none⟩) 1 1] w fun e w' =>
      ∃ r' cap', e = .returned (.slice (some ⟨r', 0, none⟩) (n + 1) cap') ∧ RV w' r' cap' (insL i (ptr p) xs) ∧ Did (· = r) w w' ∧ (r' = r ∨ w.heap.size ≤ r') ∧ cap' ≤ 9223372036854775807 := by
  obtain ⟨rest, hb, hl⟩ := hr
  by_cases h : n < cap
  · exact (insert_room w r g n cap i p xs rest hx hn hi h0 h20 h hl hm hb hg hgr).mono fun e w' ⟨h1, h2, h3⟩ => ⟨r, cap, h1, h2, h3, .inl rfl, hm⟩
  · have hc : cap = n := by omega
    have hr0 : rest = [] := by
      rw [List.length_append] at hl
      exact List.eq_nil_of_length_eq_zero (by omega)
    subst hc hr0
    rw [List.append_nil] at hb
    exact (insert_grow w r g cap i p xs hx hn hi h0 h20 hb hg).mono fun e w' ⟨r', cap', h1, h2, h3, h4, h5⟩ => ⟨r', cap', h1, h2, Did.of_below h3, .inr h4, h5⟩
theorem run_append_room_row {P : Program} (w : World) (t ty e : TypeId) (inf : TypeInfo) (ht : P.underlying t = some (.slice e)) (hi : P.info? e = some inf) (hs : inf.size = 1)
    (g sLen sCap : Nat) (a : Addr) (m c : Nat) (cur : Array Value) (te : TypeId) (news : List Value) (hl : news.length = m) (hnews : ∀ j u, news[j]? = some u → w.cell? (a.add j) = some u) (h1 : ∀ u ∈ news, u.oneCell' = true)
    (hroom : sLen + m ≤ sCap) (hg : w.heap[g]? = some (.cells cur te (0, 0))) (hfit : sLen + m ≤ cur.size) :
    (Builtin.append_ #[t, t] ty #[.slice (some ⟨g, 0, none⟩) sLen sCap, .slice (some a) m c]).run P w = .ok (.slice (some ⟨g, 0, none⟩) (sLen + m) sCap) (w.setRow g (cur.toList.take sLen ++ news ++ cur.toList.drop (sLen + m)).toArray) := by
  have hfc := run_firstCells_some (P := P) w inf.size m a m c news (by rw [hs]; omega) hnews
  have hst := run_storeCells_at P g sLen te news 0 cur w hg (by rw [hl]; exact hfit) h1
  rw [hs] at hfc
  simp only [Nat.add_zero, hl] at hst
  simp [Builtin.append_, run_underlying ht, sizeOf, typeInfo, hi, hs, Builtin.lenOf, hroom, hfc, Addr.add_lit, hst]
theorem step_append_row {P : Program} {w : World} {ops : Array Oper} {o : Oper} {a : Act} {K : Act → World → Prop} {Q : Exit → Act → World → Prop} {E : Prop} (hgd : o.guard = none) (s x : Operand) (t : TypeId)
    (ho : o.op = .call { callee := .builtin .append, args := #[s, x], argTypes := #[t, t] }) (vs vx : Value) (hs : a.eval s = vs) (hx : a.eval x = vx)
    (v' : Value) (w' : World) (hr : ∀ ty, (Builtin.append_ #[t, t] ty #[vs, vx]).run P w = .ok v' w') (h : K (a.put o.dst v') w') : if Region.wanted o (yielded ops a.tmps) = true then Oper.wp P o a w K Q else E := by
  rw [if_pos (by simp [Region.wanted, hgd])]
  exact Lib.wp_append_run w s x t t ho vs vx hs hx v' w' (hr _) h
theorem run_clear_row {P : Program} (w : World) (t ty e : TypeId) (inf : TypeInfo) (z : Value) (ht : P.underlying t = some (.slice e)) (hi : P.info? e = some inf) (hz : inf.zero = some z) (hz1 : z.cells = #[z]) (h1 : z.oneCell' = true)
    (g o c : Nat) (cur : Array Value) (te : TypeId) (hg : w.heap[g]? = some (.cells cur te (0, 0))) (hfit : o + 1 ≤ cur.size) :
    (Builtin.clear_ #[t] ty #[.slice (some ⟨g, o, none⟩) 1 c]).run P w = .ok (.tuple #[]) (w.setRow g (cur.toList.take o ++ [z] ++ cur.toList.drop (o + 1)).toArray) := by
  have hst := run_storeCells_at P g o te [z] 0 cur w hg (by simpa using hfit) (by simpa using h1)
  simp only [Nat.add_zero, List.length_cons, List.length_nil] at hst
  have hzc : (Builtin.zeroCells z.cells 1).toList = [z] := by rw [hz1]; simp [Builtin.zeroCells]
  simp [Builtin.clear_, run_underlying ht, typeInfo, zeroValue, hi, hz, hzc, hst]
theorem delete_any (w : World) (r n cap i : Nat) (xs : List Value) (hx : ∀ u ∈ xs, u.oneCell' = true) (hn : xs.length = n) (hi : i + 1 < n) (h20 : n ≤ 15) (hcap : n ≤ cap) (hm : cap ≤ 9223372036854775807) (hr : RV w r cap xs) :
    Calls Tryz.prog 72 #[.slice (some ⟨r, 0, none⟩) n cap, .int .i64 i, .int .i64 ((i : Int) + 1)] w fun e w' =>
      e = .returned (.slice (some ⟨r, 0, none⟩) (n - 1) cap) ∧ RV w' r cap (xs.eraseIdx i) ∧ Did (· = r) w w' := by
  obtain ⟨rest, hb, hcs⟩ := hr
  obtain ⟨inf, hi0, hz0, hz1, hz2⟩ := info_parts info_pt
  have hu52 : Tryz.prog.underlying 104 = some (.slice 101) := Tryz.underlying104
  have hin : ((i : Int) == (i : Int) + 1) = false := by simp; omega
  have hg2 : ¬ cap = i + 1 := by omega
  have q1 : (i : Int) ≤ (i : Int) + 1 := by omega
  have q2 : (i : Int) + 1 ≤ (n : Int) := by omega
  have q3 : (n : Int) ≤ (cap : Int) := by omega
  have q4 : (0 : Int) ≤ (i : Int) + 1 := by omega
  have q5 : ((i : Int) + 1).toNat = i + 1 := by omega
  have q6 : (i : Int) ≤ (cap : Int) := by omega
  have hblk0 : w.drew.heap[r]? = some (.cells (xs ++ rest).toArray 101 (0, 0)) := hb
  obtain ⟨L1, hL1⟩ : ∃ L1, L1 = (xs ++ rest).toArray.toList.take i ++ xs.drop (i + 1) ++ (xs ++ rest).toArray.toList.drop (i + (n - (i + 1))) := ⟨_, rfl⟩
  have hra : ∀ ty, (Builtin.append_ #[104, 104] ty #[.slice (some ⟨r, 0, none⟩) i cap, .slice (some ⟨r, i + 1, none⟩) (n - (i + 1)) (cap - (i + 1))]).run Tryz.prog w.drew = .ok (.slice (some ⟨r, 0, none⟩) (i + (n - (i + 1))) cap) (w.drew.setRow r L1.toArray) := fun ty => by
    rw [hL1]
    exact run_append_room_row w.drew 104 ty 101 inf hu52 hi0 hz1 r i cap ⟨r, i + 1, none⟩ (n - (i + 1)) (cap - (i + 1)) (xs ++ rest).toArray 101 (xs.drop (i + 1)) (by rw [List.length_drop, hn]) (fun j u hu => by
      rw [add_at]
      refine (hb.cell (i + 1 + j)).trans ?_
      rw [List.getElem?_toArray]
      rw [List.getElem?_drop] at hu
      rw [List.getElem?_append_left (List.getElem?_eq_some_iff.1 hu).1]
      exact hu) (fun v hv => hx v (List.mem_of_mem_drop hv)) (by omega) hblk0 (by rw [List.size_toArray, hcs]; omega)
  obtain ⟨W1, hW1⟩ : ∃ W1, w.drew.setRow r L1.toArray = W1 := ⟨_, rfl⟩
  rw [hW1] at hra
  have hblk1 : W1.heap[r]? = some (.cells L1.toArray 101 (0, 0)) := by rw [← hW1]; exact setRow_heap _ _ _ _ _ _ hblk0
  have hD1 : Did (· = r) w W1 := by rw [← hW1]; exact did_row w.drew r _ (Did.refl _ _).drew
  have hl1 : L1.length = cap := by
    rw [hL1]
    simp only [List.length_append, List.length_take, List.length_drop, hn] at *
    omega
  have e1 : i + (n - (i + 1)) = n - 1 := by omega
  obtain ⟨L2, hL2⟩ : ∃ L2, L2 = L1.toArray.toList.take (n - 1) ++ [.pointer none] ++ L1.toArray.toList.drop (n - 1 + 1) := ⟨_, rfl⟩
  have hcl : ∀ ty, (Builtin.clear_ #[104] ty #[.slice (some ⟨r, n - 1, none⟩) 1 (cap - (n - 1))]).run Tryz.prog W1 = .ok (.tuple #[]) (W1.setRow r L2.toArray) := fun ty => by
    rw [hL2]
    exact run_clear_row W1 104 ty 101 inf (.pointer none) hu52 hi0 hz0 rfl rfl r (n - 1) (cap - (n - 1)) L1.toArray 101 hblk1 (by rw [List.size_toArray, hl1]; omega)
  have hfin : L2 = xs.eraseIdx i ++ (.pointer none :: rest) := by
    have a1 : (xs ++ rest).take i = xs.take i := List.take_append_of_le_length (by omega)
    have a2 : (xs ++ rest).drop (n - 1) = xs.drop (n - 1) ++ rest := by rw [List.drop_append, show n - 1 - xs.length = 0 by omega, List.drop_zero]
    have a3 : L1 = xs.eraseIdx i ++ (xs.drop (n - 1) ++ rest) := by
      rw [hL1, e1]
      show (xs ++ rest).take i ++ xs.drop (i + 1) ++ (xs ++ rest).drop (n - 1) = _
      rw [a1, a2, List.eraseIdx_eq_take_drop_succ]
    have a4 : (xs.eraseIdx i).length = n - 1 := by rw [List.length_eraseIdx, if_pos (by omega), hn]
    have a5 : (xs.drop (n - 1)).length = 1 := by rw [List.length_drop, hn]; omega
    rw [hL2]
    show L1.take (n - 1) ++ [.pointer none] ++ L1.drop (n - 1 + 1) = _
    rw [a3, List.take_append_of_le_length (by omega), List.take_of_length_le (by omega), List.drop_append, List.drop_of_length_le (by omega : (xs.eraseIdx i).length ≤ n - 1 + 1), a4, show n - 1 + 1 - (n - 1) = 1 by omega, List.drop_append, List.drop_of_length_le (by omega : (xs.drop (n - 1)).length ≤ 1), a5]
    simp
  have hl2 : L2.length = cap := by
    rw [hfin]
    have a4 : (xs.eraseIdx i).length = n - 1 := by rw [List.length_eraseIdx, if_pos (by omega), hn]
    rw [List.length_append, List.length_cons, a4]
    rw [List.length_append, hn] at hcs
    omega
  have hres := Lib.hid (show RV (W1.setRow r L2.toArray) r cap (xs.eraseIdx i) ∧ Did (· = r) w (W1.setRow r L2.toArray) from ⟨⟨.pointer none :: rest, by rw [← hfin]; exact setRow_heap _ _ _ _ _ _ hblk1, by rw [← hfin]; exact hl2⟩, did_row W1 r _ hD1⟩)
  rw [e1] at hra
  have q7 : (0 : Int) ≤ ((n - 1 : Nat) : Int) := by omega
  have q8 : ((n - 1 : Nat) : Int) ≤ (n : Int) := by omega
  have q9 : n - (n - 1) = 1 := by omega
  have q10 : ¬ cap = n - 1 := by omega
  have q11 : n - 1 ≤ n := by omega
  have e2 : i + (n - (i + 1)) = n - 1 := e1
  clear hz0 hz1 hz2 hi0 hW1 hL1 hL2 hfin hl2 hl1 hblk1 hD1 hb hcs hblk0 e1
  go_enter Tryz.func72, Tryz.ntmps72
  go_wp2
  refine start_ (n := 8) (S := fun w' => True) (ds := []) (m_ 8 0) (by kernel_rfl) rfl (by kernel_rfl) trivial (fun hHeld => ?_)
  refine pq_ 0 20 8 1 ?_
  refine pq_ 1 21 8 3 ?_
  refine pq_ 2 22 8 7 ?_
  refine pq_ 3 23 8 15 ?_
  refine pq_ 4 24 8 31 ?_
  refine pq_ 5 25 8 63 ?_
  refine one_ (i := 6) (N := some 26) (m_ 8 127) rfl rfl (by kernel_rfl) (by decide) (fun K hK => ?_)
  refine step_append_row rfl (.tmp 22) (.tmp 25) 104 rfl _ _ rfl rfl _ _ hra ?_
  refine hK.out _ _ trivial (fun hHeld => ?_)
  clear hK K
  refine norm_ (a' := ?_) ?_ ?_
  rotate_left
  · show Act.put _ (some 26) _ = _
    simp only [Act.put, List.setIfInBounds_toArray, List.set_cons_zero, List.set_cons_succ, i64_w, i32_w]
    rfl
  refine pq_ 7 0 8 255 ?_
  refine done_ (by kernel_rfl) ?_
  go_wp2
  go_ret
  exact ⟨rfl, hres.out⟩
end Go.Proofs.YtnkgjnmhiedfoaaGreat.Chain
