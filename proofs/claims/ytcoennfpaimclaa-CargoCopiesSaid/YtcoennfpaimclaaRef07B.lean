/- The reference's cargo (chapter 07): Put. Conditions: the bytes are fewer than 2^39. -/
import Derived.Test.YtcoennfpaimclaaIr
import Derived.Laws.AppendOwn
namespace Go.Proofs.Ytcoennfpaimclaa.Ref07
open Go.RowKit Mem Tick Cargo
set_option maxRecDepth 100000
set_option linter.unusedVariables false
set_option linter.unusedSimpArgs false
def refAt (last at_ : Int) : Int := if nr at_ < last then last else nr at_
theorem blk3_set {w : World} {k : Nat} {t : TypeId} {a b c x y z : Value} (h : Blk w k t #[a, b, c]) : Blk (((w.setCell ⟨k, 0, none⟩ x).setCell ⟨k, 1, none⟩ y).setCell ⟨k, 2, none⟩ z) k t #[x, y, z] :=
  ((h.set_ 0 x).set_ 1 y).set_ 2 z
theorem below3_set {B : Nat} {a w : World} {k : Nat} {x y z : Value} (h : Below B a w) (hk : B ≤ k) : Below B a (((w.setCell ⟨k, 0, none⟩ x).setCell ⟨k, 1, none⟩ y).setCell ⟨k, 2, none⟩ z) :=
  ((h.setCell (p := ⟨k, 0, none⟩) hk x).setCell (p := ⟨k, 1, none⟩) hk y).setCell (p := ⟨k, 2, none⟩) hk z

theorem put_none_late (w : World) (S : ByteArray) (A : Option Addr) (c : Nat) (ts : List Int) (last at_ : Int) (hi : IR w A ts) (hl : nr at_ < last) :
    Calls Try.prog 30 #[cg S A ts.length c last, .int .i64 at_, .string ⟨#[]⟩] w fun e w' => e = .returned (.tuple #[cg S A ts.length c last, .int .i64 (refAt last at_)]) ∧ IR w' A ts ∧ Below w.heap.size w w' := by
  obtain ⟨i0, hi1, hz0, hz1, hz2⟩ := info_parts info_int
  unfold cg
  go_enter Try.func30, Try.ntmps30
  go_wp2_with fail
  refine (Ref01.near_any at_ _).mono ?_
  rintro e wn ⟨rfl, rfl⟩
  obtain ⟨W, hW⟩ : ∃ W, W = (w.alloc (.cells #[.string S, .slice A ts.length c, .int .i64 last] 47)).alloc (.cells #[.string ⟨#[]⟩, .slice none 0 0, .int .i64 0] 47) := ⟨_, rfl⟩
  rw [← hW]
  have hB : Below w.heap.size w W := by rw [hW]; exact ((Below.refl _ _).alloc (Nat.le_refl _) _).alloc (by simp) _
  have hbx : Blk W w.heap.size 47 #[.string S, .slice A ts.length c, .int .i64 last] := by rw [hW]; exact (Blk.new w _ _).below ((Below.refl _ _).alloc (Nat.le_refl _) _)
  have hrs : Blk W (w.heap.size + 1) 47 #[.string ⟨#[]⟩, .slice none 0 0, .int .i64 0] := by
    rw [hW]
    have := Blk.new (w.alloc (.cells #[.string S, .slice A ts.length c, .int .i64 last] 47)) 47 #[.string ⟨#[]⟩, .slice none 0 0, .int .i64 0]
    simpa using this
  have hB' := Lib.hid hB
  have hbx' := Lib.hid hbx
  have hlw0 : w.heap.size < W.heap.size := hbx.lt
  have hrs' := Lib.hid hrs
  have hi' := Lib.hid (hi.below hB)
  have hi0 := Lib.hid hi
  have c0 : W.cell? ⟨w.heap.size, 0, none⟩ = some (.string S) := (hbx.cell 0).trans rfl
  have c1 : W.cell? ⟨w.heap.size, 1, none⟩ = some (.slice A ts.length c) := (hbx.cell 1).trans rfl
  have c2 : W.cell? ⟨w.heap.size, 2, none⟩ = some (.int .i64 last) := (hbx.cell 2).trans rfl
  clear hW hB hbx hi hrs
  have hAt := Lib.hid (show refAt last at_ = last from if_pos hl)
  have hd : decide (nr at_ < last) = true := decide_eq_true hl
  clear hl
  have z0 : W.cell? ⟨w.heap.size + 1, 0, none⟩ = some (.string ⟨#[]⟩) := (hrs'.out.cell 0).trans rfl
  have z1 : W.cell? ⟨w.heap.size + 1, 1, none⟩ = some (.slice none 0 0) := (hrs'.out.cell 1).trans rfl
  have z2 : W.cell? ⟨w.heap.size + 1, 2, none⟩ = some (.int .i64 0) := (hrs'.out.cell 2).trans rfl
  have y0 := hrs'.out.free 0
  have y1 := hrs'.out.free 1
  have y2 := hrs'.out.free 2
  generalize hna : nr at_ = na at *
  have hna' := Lib.hid hna
  clear hna
  go_wp2
  have r := blk3_set (x := .string S) (y := .slice A ts.length c) (z := .int .i64 last) hrs'.out
  have r0 := (r.cell 0).trans rfl
  have r1 := (r.cell 1).trans rfl
  have r2 := (r.cell 2).trans rfl
  simp only [List.getElem?_toArray, List.getElem?_cons_zero, List.getElem?_cons_succ] at r0 r1 r2
  have hB3 := below3_set (x := .string S) (y := .slice A ts.length c) (z := .int .i64 last) hB'.out (Nat.le_succ w.heap.size)
  have hI3 : IR (((W.setCell ⟨w.heap.size + 1, 0, none⟩ (.string S)).setCell ⟨w.heap.size + 1, 1, none⟩ (.slice A ts.length c)).setCell ⟨w.heap.size + 1, 2, none⟩ (.int .i64 last)) A ts := hi0.out.below hB3
  exact bodyPost_ret (v := .tuple #[cg S A ts.length c last, .int .i64 last]) (by simp [results, Try.results30, go_sem, r0, r1, r2, cg]) rfl ⟨by rw [hAt.out]; rfl, hI3, hB3⟩

theorem put_none_soon (w : World) (S : ByteArray) (A : Option Addr) (c : Nat) (ts : List Int) (last at_ : Int) (hi : IR w A ts) (hl : ¬ nr at_ < last) :
    Calls Try.prog 30 #[cg S A ts.length c last, .int .i64 at_, .string ⟨#[]⟩] w fun e w' => e = .returned (.tuple #[cg S A ts.length c last, .int .i64 (refAt last at_)]) ∧ IR w' A ts ∧ Below w.heap.size w w' := by
  obtain ⟨i0, hi1, hz0, hz1, hz2⟩ := info_parts info_int
  unfold cg
  go_enter Try.func30, Try.ntmps30
  go_wp2_with fail
  refine (Ref01.near_any at_ _).mono ?_
  rintro e wn ⟨rfl, rfl⟩
  obtain ⟨W, hW⟩ : ∃ W, W = (w.alloc (.cells #[.string S, .slice A ts.length c, .int .i64 last] 47)).alloc (.cells #[.string ⟨#[]⟩, .slice none 0 0, .int .i64 0] 47) := ⟨_, rfl⟩
  rw [← hW]
  have hB : Below w.heap.size w W := by rw [hW]; exact ((Below.refl _ _).alloc (Nat.le_refl _) _).alloc (by simp) _
  have hbx : Blk W w.heap.size 47 #[.string S, .slice A ts.length c, .int .i64 last] := by rw [hW]; exact (Blk.new w _ _).below ((Below.refl _ _).alloc (Nat.le_refl _) _)
  have hrs : Blk W (w.heap.size + 1) 47 #[.string ⟨#[]⟩, .slice none 0 0, .int .i64 0] := by
    rw [hW]
    have := Blk.new (w.alloc (.cells #[.string S, .slice A ts.length c, .int .i64 last] 47)) 47 #[.string ⟨#[]⟩, .slice none 0 0, .int .i64 0]
    simpa using this
  have hB' := Lib.hid hB
  have hbx' := Lib.hid hbx
  have hlw0 : w.heap.size < W.heap.size := hbx.lt
  have hrs' := Lib.hid hrs
  have hi' := Lib.hid (hi.below hB)
  have hi0 := Lib.hid hi
  have c0 : W.cell? ⟨w.heap.size, 0, none⟩ = some (.string S) := (hbx.cell 0).trans rfl
  have c1 : W.cell? ⟨w.heap.size, 1, none⟩ = some (.slice A ts.length c) := (hbx.cell 1).trans rfl
  have c2 : W.cell? ⟨w.heap.size, 2, none⟩ = some (.int .i64 last) := (hbx.cell 2).trans rfl
  clear hW hB hbx hi hrs
  have hAt0 : refAt last at_ = nr at_ := if_neg (by omega)
  have hd : decide (nr at_ < last) = false := decide_eq_false (by omega)
  clear hl
  have z0 : W.cell? ⟨w.heap.size + 1, 0, none⟩ = some (.string ⟨#[]⟩) := (hrs'.out.cell 0).trans rfl
  have z1 : W.cell? ⟨w.heap.size + 1, 1, none⟩ = some (.slice none 0 0) := (hrs'.out.cell 1).trans rfl
  have z2 : W.cell? ⟨w.heap.size + 1, 2, none⟩ = some (.int .i64 0) := (hrs'.out.cell 2).trans rfl
  have y0 := hrs'.out.free 0
  have y1 := hrs'.out.free 1
  have y2 := hrs'.out.free 2
  generalize hna : nr at_ = na at *
  have hAt := Lib.hid hAt0
  clear hAt0
  have hna' := Lib.hid hna
  clear hna
  go_wp2
  have r := blk3_set (x := .string S) (y := .slice A ts.length c) (z := .int .i64 last) hrs'.out
  have r0 := (r.cell 0).trans rfl
  have r1 := (r.cell 1).trans rfl
  have r2 := (r.cell 2).trans rfl
  simp only [List.getElem?_toArray, List.getElem?_cons_zero, List.getElem?_cons_succ] at r0 r1 r2
  have hB3 := below3_set (x := .string S) (y := .slice A ts.length c) (z := .int .i64 last) hB'.out (Nat.le_succ w.heap.size)
  have hI3 : IR (((W.setCell ⟨w.heap.size + 1, 0, none⟩ (.string S)).setCell ⟨w.heap.size + 1, 1, none⟩ (.slice A ts.length c)).setCell ⟨w.heap.size + 1, 2, none⟩ (.int .i64 last)) A ts := hi0.out.below hB3
  exact bodyPost_ret (v := .tuple #[cg S A ts.length c last, .int .i64 na]) (by simp [results, Try.results30, go_sem, r0, r1, r2, cg]) rfl ⟨by rw [hAt.out]; rfl, hI3, hB3⟩

theorem put_some_late (w : World) (S : ByteArray) (A : Option Addr) (c : Nat) (ts : List Int) (last at_ : Int) (s : ByteArray) (hi : IR w A ts) (hs : 0 < s.size) (hz : ts.length + s.size ≤ 1000000000000) (hzS : S.size + s.size ≤ 1000000000000) (hl : nr at_ < last) :
    Calls Try.prog 30 #[cg S A ts.length c last, .int .i64 at_, .string s] w fun e w' => ∃ v, e = .returned (.tuple #[v, .int .i64 (refAt last at_)]) ∧ RefIs w' v (S ++ s) (ts ++ List.replicate s.size (refAt last at_)) (refAt last at_) ∧ Below w.heap.size w w' := by
  have hem := isEmpty_false hs
  obtain ⟨i0, hi1, hz0, hz1, hz2⟩ := info_parts info_int
  unfold cg
  go_enter Try.func30, Try.ntmps30
  go_wp2_with fail
  refine (Ref01.near_any at_ _).mono ?_
  rintro e wn ⟨rfl, rfl⟩
  obtain ⟨W, hW⟩ : ∃ W, W = (w.alloc (.cells #[.string S, .slice A ts.length c, .int .i64 last] 47)).alloc (.cells #[.string ⟨#[]⟩, .slice none 0 0, .int .i64 0] 47) := ⟨_, rfl⟩
  rw [← hW]
  have hB : Below w.heap.size w W := by rw [hW]; exact ((Below.refl _ _).alloc (Nat.le_refl _) _).alloc (by simp) _
  have hbx : Blk W w.heap.size 47 #[.string S, .slice A ts.length c, .int .i64 last] := by rw [hW]; exact (Blk.new w _ _).below ((Below.refl _ _).alloc (Nat.le_refl _) _)
  have hrs : Blk W (w.heap.size + 1) 47 #[.string ⟨#[]⟩, .slice none 0 0, .int .i64 0] := by
    rw [hW]
    have := Blk.new (w.alloc (.cells #[.string S, .slice A ts.length c, .int .i64 last] 47)) 47 #[.string ⟨#[]⟩, .slice none 0 0, .int .i64 0]
    simpa using this
  have hB' := Lib.hid hB
  have hbx' := Lib.hid hbx
  have hlw0 : w.heap.size < W.heap.size := hbx.lt
  have hrs' := Lib.hid hrs
  have hi' := Lib.hid (hi.below hB)
  have hi0 := Lib.hid hi
  have c0 : W.cell? ⟨w.heap.size, 0, none⟩ = some (.string S) := (hbx.cell 0).trans rfl
  have c1 : W.cell? ⟨w.heap.size, 1, none⟩ = some (.slice A ts.length c) := (hbx.cell 1).trans rfl
  have c2 : W.cell? ⟨w.heap.size, 2, none⟩ = some (.int .i64 last) := (hbx.cell 2).trans rfl
  clear hW hB hbx hi hrs
  have hAt := Lib.hid (show refAt last at_ = last from if_pos hl)
  have hd : decide (nr at_ < last) = true := decide_eq_true hl
  clear hl
  generalize hna : nr at_ = na at *
  have hna' := Lib.hid hna
  clear hna
  have hown0 := Lib.hid (show (W.alloc (.cells #[] 3)).ownsRow W.heap.size 3 1 (.slice (some ⟨W.heap.size, 0, none⟩) 0 0) 0 [] from ⟨rfl, .inr ⟨W.heap.size, 0, #[], rfl, Nat.le_refl _, heap_alloc_new W _, Nat.le_refl _, Nat.zero_le _, rfl, rfl⟩⟩)
  go_wp2_with (at_builtin; refine wpList_append_ir rfl (.tmp 22) (.tmp 24) 45 rfl W.heap.size 3 i0 _ Try.underlying45 hi1 hz0 hz1 hz2 rfl _ 0 [] rfl hown0.out A c ts rfl (hi'.out.below ((Below.refl _ _).alloc (Nat.le_refl _) _)) (by omega) (by simp) ?_; intro tv w1 hO hG)
  have hO1 : w1.ownsRow W.heap.size 3 1 tv (ts.length + 0) ((ts ++ List.replicate 0 (refAt last at_)).map (Value.int .i64)) := by simpa using hO
  have hG1 : (W.alloc (.cells #[] 3)).grownBy w1 (some W.heap.size) := hG
  have hB1 : Below W.heap.size W w1 := ((Below.refl W.heap.size W).alloc (Nat.le_refl _) _).grown hG1 (by simp) (fun k hk => by injection hk with hk; omega)
  have hH := Lib.hid (show _ ∧ Below W.heap.size W w1 from ⟨hO1, hB1⟩)
  clear hO hG hO1 hG1 hB1 hown0
  go_loopw [8, 9] (fun tv iv wr => ∃ k : Nat, k ≤ s.size ∧ iv = .int .i64 k ∧ wr.ownsRow W.heap.size 3 1 tv (ts.length + k) ((ts ++ List.replicate k (refAt last at_)).map (Value.int .i64)) ∧ Below W.heap.size W wr) (fun _ iv _ => s.size - (intOf iv).toNat)
  case atStart => exact ⟨0, by omega, rfl, hH.out.1, hH.out.2⟩
  case round =>
    obtain ⟨k, hk, rfl, hO, hB⟩ := hrel
    clear hH
    by_cases hlt : k < s.size
    · have hsz := hB.size
      go_wp2_with (at_builtin; refine wpList_append_own _ rfl (.tmp 32) (.tmp 34) 45 rfl W.heap.size 3 i0 (.int .i64 0) 1 8 Try.underlying45 hi1 hz0 hz1 hz2 rfl (by decide) _ _ _ rfl (hO.alloc _) ⟨wr.heap.size, 0, none⟩ 1 1 [.int .i64 last] rfl rfl (by intro j u hu; match j, hu with | 0, hu => simp at hu; subst hu; simp [Addr.add]) (by intro u hu; simp at hu; subst hu; rfl) (by unfold maxLen; omega) (by omega) (by simp; omega) ?_; intro v' w2 hO2 hG2 _)
      have hG3 : (wr.alloc (.cells #[.int .i64 last] 3)).grownBy w2 u8.ownBlock := hG2
      have hO3 : w2.ownsRow W.heap.size 3 1 v' (ts.length + (k + 1)) ((ts ++ List.replicate (k + 1) (refAt last at_)).map (Value.int .i64)) := by
        rw [hAt.out, List.replicate_succ', ← List.append_assoc, List.map_append]
        rw [hAt.out] at hO2
        exact hO2
      have hQ := Lib.hid (show _ ∧ Below W.heap.size W w2 from ⟨hO3, (hB.alloc hB.size _).grown hG3 (by simp; omega) (own_ge hO)⟩)
      clear hO2 hG2 hG3 hO3 hO hB
      go_roundw
      case rel => exact ⟨k + 1, by omega, by go_num, hQ.out.1, hQ.out.2⟩
      case measure => simp [intOf]; omega
    · have hk2 : k = s.size := by omega
      subst hk2
      have hnl : ¬ (s.size < s.size) := by omega
      have hlw : w.heap.size + 1 < W.heap.size := hrs'.out.lt
      have hbr := Lib.hid (hrs'.out.below hB)
      have d0 := bcells hB c0
      have z0 : wr.cell? ⟨w.heap.size + 1, 0, none⟩ = some (.string ⟨#[]⟩) := (hbr.out.cell 0).trans rfl
      have z1 : wr.cell? ⟨w.heap.size + 1, 1, none⟩ = some (.slice none 0 0) := (hbr.out.cell 1).trans rfl
      have z2 : wr.cell? ⟨w.heap.size + 1, 2, none⟩ = some (.int .i64 0) := (hbr.out.cell 2).trans rfl
      have y0 := hbr.out.free 0
      have y1 := hbr.out.free 1
      have y2 := hbr.out.free 2
      have hO' : wr.ownsRow W.heap.size 3 1 u8 (ts ++ List.replicate s.size (refAt last at_)).length ((ts ++ List.replicate s.size (refAt last at_)).map (Value.int .i64)) := by simpa using hO
      obtain ⟨A2, cc, rfl, hI, hcc⟩ := ir_of_owns hO'
      have hge2 : ∀ k, (Value.slice A2 (ts ++ List.replicate s.size (refAt last at_)).length cc).ownBlock = some k → W.heap.size ≤ k := own_ge hO'
      have hBw : Below w.heap.size w wr := hB'.out.trans (hB.mono hB'.out.size)
      have hQ := Lib.hid (show IR wr A2 (ts ++ List.replicate s.size (refAt last at_)) ∧ Below w.heap.size w wr from ⟨hI, hBw⟩)
      have hcc' := Lib.hid hcc
      have hge3 := Lib.hid hge2
      clear hO hB hO' hI hBw hcc c0 c1 c2 hge2
      generalize hn2 : (ts ++ List.replicate s.size (refAt last at_)).length = n2 at *
      have hn2' := Lib.hid hn2
      clear hn2
      go_wp2
      have r := blk3_set (x := .string (S ++ s)) (y := .slice A2 n2 cc) (z := .int .i64 last) hbr.out
      have r0 := (r.cell 0).trans rfl
      have r1 := (r.cell 1).trans rfl
      have r2 := (r.cell 2).trans rfl
      simp only [List.getElem?_toArray, List.getElem?_cons_zero, List.getElem?_cons_succ] at r0 r1 r2
      have hB3 := below3_set (x := .string (S ++ s)) (y := .slice A2 n2 cc) (z := .int .i64 last) hQ.out.2 (Nat.le_succ w.heap.size)
      have hI3 : IR (((wr.setCell ⟨w.heap.size + 1, 0, none⟩ (.string (S ++ s))).setCell ⟨w.heap.size + 1, 1, none⟩ (.slice A2 n2 cc)).setCell ⟨w.heap.size + 1, 2, none⟩ (.int .i64 last)) A2 (ts ++ List.replicate s.size (refAt last at_)) := by
        intro hne
        obtain ⟨g, o, he, ⟨cs, fr, hb⟩, hc⟩ := hQ.out.1 hne
        have hg := hge3.out g (by rw [he]; rfl)
        have hgk : g ≠ w.heap.size + 1 := by omega
        have E := (Below.heap_setCell ((wr.setCell ⟨w.heap.size + 1, 0, none⟩ (.string (S ++ s))).setCell ⟨w.heap.size + 1, 1, none⟩ (.slice A2 n2 cc)) ⟨w.heap.size + 1, 2, none⟩ (.int .i64 last) g hgk).trans ((Below.heap_setCell (wr.setCell ⟨w.heap.size + 1, 0, none⟩ (.string (S ++ s))) ⟨w.heap.size + 1, 1, none⟩ (.slice A2 n2 cc) g hgk).trans (Below.heap_setCell wr ⟨w.heap.size + 1, 0, none⟩ (.string (S ++ s)) g hgk))
        exact ⟨g, o, he, ⟨cs, fr, E.trans hb⟩, fun j x hx => (World.cell?_of_block (a := ⟨g, o + j, none⟩) E).trans (hc j x hx)⟩
      refine bodyPost_ret (v := .tuple #[cg (S ++ s) A2 n2 cc last, .int .i64 last]) (by simp [results, Try.results30, go_sem, r0, r1, r2, cg]) rfl ⟨cg (S ++ s) A2 n2 cc last, by rw [hAt.out], ⟨A2, cc, by rw [hn2'.out, hAt.out], hI3, by rw [hn2'.out]; exact hcc'.out⟩, hB3⟩

theorem put_some_soon (w : World) (S : ByteArray) (A : Option Addr) (c : Nat) (ts : List Int) (last at_ : Int) (s : ByteArray) (hi : IR w A ts) (hs : 0 < s.size) (hz : ts.length + s.size ≤ 1000000000000) (hzS : S.size + s.size ≤ 1000000000000) (hl : ¬ nr at_ < last) :
    Calls Try.prog 30 #[cg S A ts.length c last, .int .i64 at_, .string s] w fun e w' => ∃ v, e = .returned (.tuple #[v, .int .i64 (refAt last at_)]) ∧ RefIs w' v (S ++ s) (ts ++ List.replicate s.size (refAt last at_)) (refAt last at_) ∧ Below w.heap.size w w' := by
  have hem := isEmpty_false hs
  obtain ⟨i0, hi1, hz0, hz1, hz2⟩ := info_parts info_int
  unfold cg
  go_enter Try.func30, Try.ntmps30
  go_wp2_with fail
  refine (Ref01.near_any at_ _).mono ?_
  rintro e wn ⟨rfl, rfl⟩
  obtain ⟨W, hW⟩ : ∃ W, W = (w.alloc (.cells #[.string S, .slice A ts.length c, .int .i64 last] 47)).alloc (.cells #[.string ⟨#[]⟩, .slice none 0 0, .int .i64 0] 47) := ⟨_, rfl⟩
  rw [← hW]
  have hB : Below w.heap.size w W := by rw [hW]; exact ((Below.refl _ _).alloc (Nat.le_refl _) _).alloc (by simp) _
  have hbx : Blk W w.heap.size 47 #[.string S, .slice A ts.length c, .int .i64 last] := by rw [hW]; exact (Blk.new w _ _).below ((Below.refl _ _).alloc (Nat.le_refl _) _)
  have hrs : Blk W (w.heap.size + 1) 47 #[.string ⟨#[]⟩, .slice none 0 0, .int .i64 0] := by
    rw [hW]
    have := Blk.new (w.alloc (.cells #[.string S, .slice A ts.length c, .int .i64 last] 47)) 47 #[.string ⟨#[]⟩, .slice none 0 0, .int .i64 0]
    simpa using this
  have hB' := Lib.hid hB
  have hbx' := Lib.hid hbx
  have hlw0 : w.heap.size < W.heap.size := hbx.lt
  have hrs' := Lib.hid hrs
  have hi' := Lib.hid (hi.below hB)
  have hi0 := Lib.hid hi
  have c0 : W.cell? ⟨w.heap.size, 0, none⟩ = some (.string S) := (hbx.cell 0).trans rfl
  have c1 : W.cell? ⟨w.heap.size, 1, none⟩ = some (.slice A ts.length c) := (hbx.cell 1).trans rfl
  have c2 : W.cell? ⟨w.heap.size, 2, none⟩ = some (.int .i64 last) := (hbx.cell 2).trans rfl
  clear hW hB hbx hi hrs
  have hAt0 : refAt last at_ = nr at_ := if_neg (by omega)
  have hd : decide (nr at_ < last) = false := decide_eq_false (by omega)
  clear hl
  generalize hna : nr at_ = na at *
  have hAt := Lib.hid hAt0
  clear hAt0
  have hna' := Lib.hid hna
  clear hna
  have hown0 := Lib.hid (show (W.alloc (.cells #[] 3)).ownsRow W.heap.size 3 1 (.slice (some ⟨W.heap.size, 0, none⟩) 0 0) 0 [] from ⟨rfl, .inr ⟨W.heap.size, 0, #[], rfl, Nat.le_refl _, heap_alloc_new W _, Nat.le_refl _, Nat.zero_le _, rfl, rfl⟩⟩)
  go_wp2_with (at_builtin; refine wpList_append_ir rfl (.tmp 22) (.tmp 24) 45 rfl W.heap.size 3 i0 _ Try.underlying45 hi1 hz0 hz1 hz2 rfl _ 0 [] rfl hown0.out A c ts rfl (hi'.out.below ((Below.refl _ _).alloc (Nat.le_refl _) _)) (by omega) (by simp) ?_; intro tv w1 hO hG)
  have hO1 : w1.ownsRow W.heap.size 3 1 tv (ts.length + 0) ((ts ++ List.replicate 0 (refAt last at_)).map (Value.int .i64)) := by simpa using hO
  have hG1 : (W.alloc (.cells #[] 3)).grownBy w1 (some W.heap.size) := hG
  have hB1 : Below W.heap.size W w1 := ((Below.refl W.heap.size W).alloc (Nat.le_refl _) _).grown hG1 (by simp) (fun k hk => by injection hk with hk; omega)
  have hH := Lib.hid (show _ ∧ Below W.heap.size W w1 from ⟨hO1, hB1⟩)
  clear hO hG hO1 hG1 hB1 hown0
  go_loopw [8, 9] (fun tv iv wr => ∃ k : Nat, k ≤ s.size ∧ iv = .int .i64 k ∧ wr.ownsRow W.heap.size 3 1 tv (ts.length + k) ((ts ++ List.replicate k (refAt last at_)).map (Value.int .i64)) ∧ Below W.heap.size W wr) (fun _ iv _ => s.size - (intOf iv).toNat)
  case atStart => exact ⟨0, by omega, rfl, hH.out.1, hH.out.2⟩
  case round =>
    obtain ⟨k, hk, rfl, hO, hB⟩ := hrel
    clear hH
    by_cases hlt : k < s.size
    · have hsz := hB.size
      go_wp2_with (at_builtin; refine wpList_append_own _ rfl (.tmp 32) (.tmp 34) 45 rfl W.heap.size 3 i0 (.int .i64 0) 1 8 Try.underlying45 hi1 hz0 hz1 hz2 rfl (by decide) _ _ _ rfl (hO.alloc _) ⟨wr.heap.size, 0, none⟩ 1 1 [.int .i64 na] rfl rfl (by intro j u hu; match j, hu with | 0, hu => simp at hu; subst hu; simp [Addr.add]) (by intro u hu; simp at hu; subst hu; rfl) (by unfold maxLen; omega) (by omega) (by simp; omega) ?_; intro v' w2 hO2 hG2 _)
      have hG3 : (wr.alloc (.cells #[.int .i64 na] 3)).grownBy w2 u8.ownBlock := hG2
      have hO3 : w2.ownsRow W.heap.size 3 1 v' (ts.length + (k + 1)) ((ts ++ List.replicate (k + 1) (refAt last at_)).map (Value.int .i64)) := by
        rw [hAt.out, List.replicate_succ', ← List.append_assoc, List.map_append]
        rw [hAt.out] at hO2
        exact hO2
      have hQ := Lib.hid (show _ ∧ Below W.heap.size W w2 from ⟨hO3, (hB.alloc hB.size _).grown hG3 (by simp; omega) (own_ge hO)⟩)
      clear hO2 hG2 hG3 hO3 hO hB
      go_roundw
      case rel => exact ⟨k + 1, by omega, by go_num, hQ.out.1, hQ.out.2⟩
      case measure => simp [intOf]; omega
    · have hk2 : k = s.size := by omega
      subst hk2
      have hnl : ¬ (s.size < s.size) := by omega
      have hlw : w.heap.size + 1 < W.heap.size := hrs'.out.lt
      have hbr := Lib.hid (hrs'.out.below hB)
      have d0 := bcells hB c0
      have z0 : wr.cell? ⟨w.heap.size + 1, 0, none⟩ = some (.string ⟨#[]⟩) := (hbr.out.cell 0).trans rfl
      have z1 : wr.cell? ⟨w.heap.size + 1, 1, none⟩ = some (.slice none 0 0) := (hbr.out.cell 1).trans rfl
      have z2 : wr.cell? ⟨w.heap.size + 1, 2, none⟩ = some (.int .i64 0) := (hbr.out.cell 2).trans rfl
      have y0 := hbr.out.free 0
      have y1 := hbr.out.free 1
      have y2 := hbr.out.free 2
      have hO' : wr.ownsRow W.heap.size 3 1 u8 (ts ++ List.replicate s.size (refAt last at_)).length ((ts ++ List.replicate s.size (refAt last at_)).map (Value.int .i64)) := by simpa using hO
      obtain ⟨A2, cc, rfl, hI, hcc⟩ := ir_of_owns hO'
      have hge2 : ∀ k, (Value.slice A2 (ts ++ List.replicate s.size (refAt last at_)).length cc).ownBlock = some k → W.heap.size ≤ k := own_ge hO'
      have hBw : Below w.heap.size w wr := hB'.out.trans (hB.mono hB'.out.size)
      have hQ := Lib.hid (show IR wr A2 (ts ++ List.replicate s.size (refAt last at_)) ∧ Below w.heap.size w wr from ⟨hI, hBw⟩)
      have hcc' := Lib.hid hcc
      have hge3 := Lib.hid hge2
      clear hO hB hO' hI hBw hcc c0 c1 c2 hge2
      generalize hn2 : (ts ++ List.replicate s.size (refAt last at_)).length = n2 at *
      have hn2' := Lib.hid hn2
      clear hn2
      go_wp2
      have r := blk3_set (x := .string (S ++ s)) (y := .slice A2 n2 cc) (z := .int .i64 na) hbr.out
      have r0 := (r.cell 0).trans rfl
      have r1 := (r.cell 1).trans rfl
      have r2 := (r.cell 2).trans rfl
      simp only [List.getElem?_toArray, List.getElem?_cons_zero, List.getElem?_cons_succ] at r0 r1 r2
      have hB3 := below3_set (x := .string (S ++ s)) (y := .slice A2 n2 cc) (z := .int .i64 na) hQ.out.2 (Nat.le_succ w.heap.size)
      have hI3 : IR (((wr.setCell ⟨w.heap.size + 1, 0, none⟩ (.string (S ++ s))).setCell ⟨w.heap.size + 1, 1, none⟩ (.slice A2 n2 cc)).setCell ⟨w.heap.size + 1, 2, none⟩ (.int .i64 na)) A2 (ts ++ List.replicate s.size (refAt last at_)) := by
        intro hne
        obtain ⟨g, o, he, ⟨cs, fr, hb⟩, hc⟩ := hQ.out.1 hne
        have hg := hge3.out g (by rw [he]; rfl)
        have hgk : g ≠ w.heap.size + 1 := by omega
        have E := (Below.heap_setCell ((wr.setCell ⟨w.heap.size + 1, 0, none⟩ (.string (S ++ s))).setCell ⟨w.heap.size + 1, 1, none⟩ (.slice A2 n2 cc)) ⟨w.heap.size + 1, 2, none⟩ (.int .i64 na) g hgk).trans ((Below.heap_setCell (wr.setCell ⟨w.heap.size + 1, 0, none⟩ (.string (S ++ s))) ⟨w.heap.size + 1, 1, none⟩ (.slice A2 n2 cc) g hgk).trans (Below.heap_setCell wr ⟨w.heap.size + 1, 0, none⟩ (.string (S ++ s)) g hgk))
        exact ⟨g, o, he, ⟨cs, fr, E.trans hb⟩, fun j x hx => (World.cell?_of_block (a := ⟨g, o + j, none⟩) E).trans (hc j x hx)⟩
      refine bodyPost_ret (v := .tuple #[cg (S ++ s) A2 n2 cc na, .int .i64 na]) (by simp [results, Try.results30, go_sem, r0, r1, r2, cg]) rfl ⟨cg (S ++ s) A2 n2 cc na, by rw [hAt.out], ⟨A2, cc, by rw [hn2'.out, hAt.out], hI3, by rw [hn2'.out]; exact hcc'.out⟩, hB3⟩
end Go.Proofs.Ytcoennfpaimclaa.Ref07
