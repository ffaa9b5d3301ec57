/- The reference's cargo (chapter 07): Do. Conditions: the bytes are fewer than 2^39. -/
import Derived.Test.YtcoennfpaimclaaRef07D
namespace Go.Proofs.Ytcoennfpaimclaa.Ref07
open Go.RowKit Mem Tick Cargo
open Go.Proofs.YtcoennfpaimclaaW.PrintLast
set_option maxRecDepth 100000
set_option linter.unusedVariables false
set_option linter.unusedSimpArgs false
def putL (last at_ : Int) (s : ByteArray) : Int := if s.size = 0 then last else refAt last at_
/-- bytes, ticks, the last one. -/
abbrev RS := ByteArray × List Int × Int
def refDo (k at_ n : Int) (s : ByteArray) (x : RS) : RS × Int × ByteArray :=
  if k = 0 then ((x.1 ++ s, x.2.1 ++ List.replicate s.size (refAt x.2.2 at_), putL x.2.2 at_ s), refAt x.2.2 at_, ⟨#[]⟩)
  else if k = 1 then ((x.1.extract (takeM at_ n x.2.1) x.1.size, x.2.1.drop (takeM at_ n x.2.1), x.2.2), 0, x.1.extract 0 (takeM at_ n x.2.1))
  else if k = 2 then ((x.1, x.2.1.map (low (nr at_)), low (nr at_) x.2.2), 0, ⟨#[]⟩)
  else if k = 3 then ((⟨#[]⟩, [], x.2.2), 0, x.1)
  else (x, 0, ⟨#[]⟩)
theorem put_anyL (w : World) (v : Value) (S : ByteArray) (ts : List Int) (last at_ : Int) (s : ByteArray) (hv : RefIs w v S ts last) (hz : ts.length + s.size ≤ 1000000000000) (hzS : S.size + s.size ≤ 1000000000000) :
    Calls Try.prog 30 #[v, .int .i64 at_, .string s] w fun e w' => ∃ v', e = .returned (.tuple #[v', .int .i64 (refAt last at_)]) ∧ RefIs w' v' (S ++ s) (ts ++ List.replicate s.size (refAt last at_)) (putL last at_ s) ∧ Below w.heap.size w w' := put_any w v S ts last at_ s hv hz hzS
def DoQ (w : World) (r : RS × Int × ByteArray) (e : Ending) (w' : World) : Prop :=
  ∃ v, e = .returned (.tuple #[v, .int .i64 r.2.1, .string r.2.2]) ∧ RefIs w' v r.1.1 r.1.2.1 r.1.2.2 ∧ Below w.heap.size w w'
theorem IR.sets {w : World} {A : Option Addr} {ts : List Int} {k : Nat} {cs : Array Value} {x y z : Value} (h : IR w A ts) (hb : Blk w k 47 cs) : IR (((w.setCell ⟨k, 0, none⟩ x).setCell ⟨k, 1, none⟩ y).setCell ⟨k, 2, none⟩ z) A ts :=
  h.kept fun g ⟨cs2, fr, hg⟩ => by
    have hne : g ≠ k := by
      rintro rfl
      have : w.heap[g]? = some (.cells cs 47 (0, 0)) := hb
      rw [hg] at this
      injection this with this
      injection this with _ e
      exact absurd e (by decide)
    exact (Below.heap_setCell _ ⟨k, 2, none⟩ z g hne).trans ((Below.heap_setCell _ ⟨k, 1, none⟩ y g hne).trans (Below.heap_setCell _ ⟨k, 0, none⟩ x g hne))
theorem do_0 (w : World) (v : Value) (S : ByteArray) (ts : List Int) (last at_ n : Int) (s : ByteArray) (hv : RefIs w v S ts last) (hz : ts.length + s.size ≤ 1000000000000) (hzS : S.size + s.size ≤ 1000000000000) :
    Calls Try.prog 23 #[v, .agg #[.int .i64 0, .int .i64 at_, .int .i64 n, .string s]] w (DoQ w ((S ++ s, ts ++ List.replicate s.size (refAt last at_), putL last at_ s), refAt last at_, ⟨#[]⟩)) := by
  obtain ⟨A, c, rfl, hi, hcc⟩ := hv
  unfold cg
  go_enter Try.func23, Try.ntmps23
  go_wp2_with fail
  obtain ⟨W, hW⟩ : ∃ W, W = ((w.alloc (.cells #[.string S, .slice A ts.length c, .int .i64 last] 47)).alloc (.cells #[.int .i64 0, .int .i64 at_, .int .i64 n, .string s] 28)).alloc (.cells #[.string ⟨#[]⟩, .slice none 0 0, .int .i64 0] 47) := ⟨_, rfl⟩
  rw [← hW]
  have hB : Below w.heap.size w W := by rw [hW]; exact (((Below.refl _ _).alloc (Nat.le_refl _) _).alloc (by simp) _).alloc (by simp; omega) _
  have hrs : Blk W (w.heap.size + 1 + 1) 47 #[.string ⟨#[]⟩, .slice none 0 0, .int .i64 0] := by
    rw [hW]
    have := Blk.new ((w.alloc (.cells #[.string S, .slice A ts.length c, .int .i64 last] 47)).alloc (.cells #[.int .i64 0, .int .i64 at_, .int .i64 n, .string s] 28)) 47 #[.string ⟨#[]⟩, .slice none 0 0, .int .i64 0]
    simpa using this
  refine (put_anyL W _ S ts last at_ s ⟨A, c, rfl, hi.below hB, hcc⟩ hz hzS).mono ?_
  rintro e w1 ⟨v2, rfl, ⟨A2, c2, rfl, hI, hc2⟩, hBW⟩
  have hrr := Lib.hid (hrs.below hBW)
  have hB1 := Lib.hid (hB.trans (hBW.mono hB.size))
  have hlw : w.heap.size + 1 + 1 < w1.heap.size := (hrs.below hBW).lt
  have z0 : w1.cell? ⟨w.heap.size + 1 + 1, 0, none⟩ = some (.string ⟨#[]⟩) := (hrr.out.cell 0).trans rfl
  have z1 : w1.cell? ⟨w.heap.size + 1 + 1, 1, none⟩ = some (.slice none 0 0) := (hrr.out.cell 1).trans rfl
  have z2 : w1.cell? ⟨w.heap.size + 1 + 1, 2, none⟩ = some (.int .i64 0) := (hrr.out.cell 2).trans rfl
  have y0 := hrr.out.free 0
  have y1 := hrr.out.free 1
  have y2 := hrr.out.free 2
  have hI := Lib.hid hI
  have hc2 := Lib.hid hc2
  have hlt := hrs.lt
  clear hW hB hrs hBW hi
  generalize hn2' : (ts ++ List.replicate s.size (refAt last at_)).length = n2 at *
  have hn2 := Lib.hid hn2'
  clear hn2'
  generalize hl2 : putL last at_ s = l2 at *

  unfold cg
  go_wp2
  have r := blk3_set (x := .string (S ++ s)) (y := .slice A2 n2 c2) (z := .int .i64 l2) hrr.out
  replace r := r.below ((Below.refl _ _).alloc (Nat.le_refl _) (.cells #[.string (S ++ s), .slice A2 n2 c2, .int .i64 l2] 47))
  have r0 := (r.cell 0).trans rfl
  have r1 := (r.cell 1).trans rfl
  have r2 := (r.cell 2).trans rfl
  simp only [List.getElem?_toArray, List.getElem?_cons_zero, List.getElem?_cons_succ] at r0 r1 r2
  have hB3 := below3_set (x := .string (S ++ s)) (y := .slice A2 n2 c2) (z := .int .i64 l2) hB1.out (show w.heap.size ≤ w.heap.size + 1 + 1 by omega)
  replace hB3 := hB3.alloc hB3.size (.cells #[.string (S ++ s), .slice A2 n2 c2, .int .i64 l2] 47)
  refine bodyPost_ret (v := .tuple #[cg (S ++ s) A2 n2 c2 l2, .int .i64 (refAt last at_), .string ⟨#[]⟩]) (by simp [results, Try.results23, go_sem, r0, r1, r2, cg]) rfl ⟨_, rfl, ⟨A2, c2, by rw [hn2.out], (hI.out.sets hrr.out).below ((Below.refl _ _).alloc (Nat.le_refl _) (.cells #[.string (S ++ s), .slice A2 n2 c2, .int .i64 l2] 47)), by rw [hn2.out]; exact hc2.out⟩, hB3⟩
theorem do_1 (w : World) (v : Value) (S : ByteArray) (ts : List Int) (last at_ n : Int) (s : ByteArray) (hv : RefIs w v S ts last) (hz : ts.length ≤ 1000000000000) (hs : S.size = ts.length) :
    Calls Try.prog 23 #[v, .agg #[.int .i64 1, .int .i64 at_, .int .i64 n, .string s]] w (DoQ w ((S.extract (takeM at_ n ts) S.size, ts.drop (takeM at_ n ts), last), 0, S.extract 0 (takeM at_ n ts))) := by
  obtain ⟨A, c, rfl, hi, hcc⟩ := hv
  unfold cg
  go_enter Try.func23, Try.ntmps23
  go_wp2_with fail
  obtain ⟨W, hW⟩ : ∃ W, W = ((w.alloc (.cells #[.string S, .slice A ts.length c, .int .i64 last] 47)).alloc (.cells #[.int .i64 1, .int .i64 at_, .int .i64 n, .string s] 28)).alloc (.cells #[.string ⟨#[]⟩, .slice none 0 0, .int .i64 0] 47) := ⟨_, rfl⟩
  rw [← hW]
  have hB : Below w.heap.size w W := by rw [hW]; exact (((Below.refl _ _).alloc (Nat.le_refl _) _).alloc (by simp) _).alloc (by simp; omega) _
  have hrs : Blk W (w.heap.size + 1 + 1) 47 #[.string ⟨#[]⟩, .slice none 0 0, .int .i64 0] := by
    rw [hW]
    have := Blk.new ((w.alloc (.cells #[.string S, .slice A ts.length c, .int .i64 last] 47)).alloc (.cells #[.int .i64 1, .int .i64 at_, .int .i64 n, .string s] 28)) 47 #[.string ⟨#[]⟩, .slice none 0 0, .int .i64 0]
    simpa using this
  refine (take_any W _ S ts last at_ n ⟨A, c, rfl, hi.below hB, hcc⟩ hs hz).mono ?_
  rintro e w1 ⟨v2, rfl, ⟨A2, c2, rfl, hI, hc2⟩, hBW⟩
  have hrr := Lib.hid (hrs.below hBW)
  have hB1 := Lib.hid (hB.trans (hBW.mono hB.size))
  have hlw : w.heap.size + 1 + 1 < w1.heap.size := (hrs.below hBW).lt
  have z0 : w1.cell? ⟨w.heap.size + 1 + 1, 0, none⟩ = some (.string ⟨#[]⟩) := (hrr.out.cell 0).trans rfl
  have z1 : w1.cell? ⟨w.heap.size + 1 + 1, 1, none⟩ = some (.slice none 0 0) := (hrr.out.cell 1).trans rfl
  have z2 : w1.cell? ⟨w.heap.size + 1 + 1, 2, none⟩ = some (.int .i64 0) := (hrr.out.cell 2).trans rfl
  have y0 := hrr.out.free 0
  have y1 := hrr.out.free 1
  have y2 := hrr.out.free 2
  have hI := Lib.hid hI
  have hc2 := Lib.hid hc2
  have hlt := hrs.lt
  clear hW hB hrs hBW hi
  generalize hm2 : takeM at_ n ts = m2 at *
  generalize hn2' : (ts.drop m2).length = n2 at *
  have hn2 := Lib.hid hn2'
  clear hn2'
  generalize hS2 : S.extract m2 S.size = S2 at *
  generalize hT2 : S.extract 0 m2 = T2 at *

  unfold cg
  go_wp2
  have r := blk3_set (x := .string (S2)) (y := .slice A2 n2 c2) (z := .int .i64 last) hrr.out
  replace r := r.below ((Below.refl _ _).alloc (Nat.le_refl _) (.cells #[.string (S2), .slice A2 n2 c2, .int .i64 last] 47))
  have r0 := (r.cell 0).trans rfl
  have r1 := (r.cell 1).trans rfl
  have r2 := (r.cell 2).trans rfl
  simp only [List.getElem?_toArray, List.getElem?_cons_zero, List.getElem?_cons_succ] at r0 r1 r2
  have hB3 := below3_set (x := .string (S2)) (y := .slice A2 n2 c2) (z := .int .i64 last) hB1.out (show w.heap.size ≤ w.heap.size + 1 + 1 by omega)
  replace hB3 := hB3.alloc hB3.size (.cells #[.string (S2), .slice A2 n2 c2, .int .i64 last] 47)
  refine bodyPost_ret (v := .tuple #[cg (S2) A2 n2 c2 last, .int .i64 0, .string T2]) (by simp [results, Try.results23, go_sem, r0, r1, r2, cg]) rfl ⟨_, rfl, ⟨A2, c2, by rw [hn2.out], (hI.out.sets hrr.out).below ((Below.refl _ _).alloc (Nat.le_refl _) (.cells #[.string (S2), .slice A2 n2 c2, .int .i64 last] 47)), by rw [hn2.out]; exact hc2.out⟩, hB3⟩
theorem do_2 (w : World) (v : Value) (S : ByteArray) (ts : List Int) (last at_ n : Int) (s : ByteArray) (hv : RefIs w v S ts last) (hz : ts.length ≤ 1000000000000) :
    Calls Try.prog 23 #[v, .agg #[.int .i64 2, .int .i64 at_, .int .i64 n, .string s]] w (DoQ w ((S, ts.map (low (nr at_)), low (nr at_) last), 0, ⟨#[]⟩)) := by
  obtain ⟨A, c, rfl, hi, hcc⟩ := hv
  unfold cg
  go_enter Try.func23, Try.ntmps23
  go_wp2_with fail
  obtain ⟨W, hW⟩ : ∃ W, W = ((w.alloc (.cells #[.string S, .slice A ts.length c, .int .i64 last] 47)).alloc (.cells #[.int .i64 2, .int .i64 at_, .int .i64 n, .string s] 28)).alloc (.cells #[.string ⟨#[]⟩, .slice none 0 0, .int .i64 0] 47) := ⟨_, rfl⟩
  rw [← hW]
  have hB : Below w.heap.size w W := by rw [hW]; exact (((Below.refl _ _).alloc (Nat.le_refl _) _).alloc (by simp) _).alloc (by simp; omega) _
  have hrs : Blk W (w.heap.size + 1 + 1) 47 #[.string ⟨#[]⟩, .slice none 0 0, .int .i64 0] := by
    rw [hW]
    have := Blk.new ((w.alloc (.cells #[.string S, .slice A ts.length c, .int .i64 last] 47)).alloc (.cells #[.int .i64 2, .int .i64 at_, .int .i64 n, .string s] 28)) 47 #[.string ⟨#[]⟩, .slice none 0 0, .int .i64 0]
    simpa using this
  refine (hurry_any W _ S ts last at_ ⟨A, c, rfl, hi.below hB, hcc⟩ hz).mono ?_
  rintro e w1 ⟨v2, rfl, ⟨A2, c2, rfl, hI, hc2⟩, hBW⟩
  have hrr := Lib.hid (hrs.below hBW)
  have hB1 := Lib.hid (hB.trans (hBW.mono hB.size))
  have hlw : w.heap.size + 1 + 1 < w1.heap.size := (hrs.below hBW).lt
  have z0 : w1.cell? ⟨w.heap.size + 1 + 1, 0, none⟩ = some (.string ⟨#[]⟩) := (hrr.out.cell 0).trans rfl
  have z1 : w1.cell? ⟨w.heap.size + 1 + 1, 1, none⟩ = some (.slice none 0 0) := (hrr.out.cell 1).trans rfl
  have z2 : w1.cell? ⟨w.heap.size + 1 + 1, 2, none⟩ = some (.int .i64 0) := (hrr.out.cell 2).trans rfl
  have y0 := hrr.out.free 0
  have y1 := hrr.out.free 1
  have y2 := hrr.out.free 2
  have hI := Lib.hid hI
  have hc2 := Lib.hid hc2
  have hlt := hrs.lt
  clear hW hB hrs hBW hi
  generalize hl2 : low (nr at_) last = l2 at *
  generalize hn2' : (ts.map (low (nr at_))).length = n2 at *
  have hn2 := Lib.hid hn2'
  clear hn2'

  unfold cg
  go_wp2
  have r := blk3_set (x := .string (S)) (y := .slice A2 n2 c2) (z := .int .i64 l2) hrr.out
  have r0 := (r.cell 0).trans rfl
  have r1 := (r.cell 1).trans rfl
  have r2 := (r.cell 2).trans rfl
  simp only [List.getElem?_toArray, List.getElem?_cons_zero, List.getElem?_cons_succ] at r0 r1 r2
  have hB3 := below3_set (x := .string (S)) (y := .slice A2 n2 c2) (z := .int .i64 l2) hB1.out (show w.heap.size ≤ w.heap.size + 1 + 1 by omega)
  refine bodyPost_ret (v := .tuple #[cg (S) A2 n2 c2 l2, .int .i64 0, .string ⟨#[]⟩]) (by simp [results, Try.results23, go_sem, r0, r1, r2, cg]) rfl ⟨_, rfl, ⟨A2, c2, by rw [hn2.out], hI.out.sets hrr.out, by rw [hn2.out]; exact hc2.out⟩, hB3⟩
theorem do_3 (w : World) (v : Value) (S : ByteArray) (ts : List Int) (last at_ n : Int) (s : ByteArray) (hv : RefIs w v S ts last) :
    Calls Try.prog 23 #[v, .agg #[.int .i64 3, .int .i64 at_, .int .i64 n, .string s]] w (DoQ w ((⟨#[]⟩, [], last), 0, S)) := by
  obtain ⟨A, c, rfl, hi, hcc⟩ := hv
  unfold cg
  go_enter Try.func23, Try.ntmps23
  go_wp2
  obtain ⟨W, hW⟩ : ∃ W, W = ((w.alloc (.cells #[.string S, .slice A ts.length c, .int .i64 last] 47)).alloc (.cells #[.int .i64 3, .int .i64 at_, .int .i64 n, .string s] 28)).alloc (.cells #[.string ⟨#[]⟩, .slice none 0 0, .int .i64 0] 47) := ⟨_, rfl⟩
  rw [← hW]
  have hB : Below w.heap.size w W := by rw [hW]; exact (((Below.refl _ _).alloc (Nat.le_refl _) _).alloc (by simp) _).alloc (by simp; omega) _
  have hrs : Blk W (w.heap.size + 1 + 1) 47 #[.string ⟨#[]⟩, .slice none 0 0, .int .i64 0] := by
    rw [hW]
    have := Blk.new ((w.alloc (.cells #[.string S, .slice A ts.length c, .int .i64 last] 47)).alloc (.cells #[.int .i64 3, .int .i64 at_, .int .i64 n, .string s] 28)) 47 #[.string ⟨#[]⟩, .slice none 0 0, .int .i64 0]
    simpa using this
  have hbx := Lib.hid (show Blk W.drew w.heap.size 47 #[.string S, .slice A ts.length c, .int .i64 last] from (show Blk W _ _ _ from by rw [hW]; exact (Blk.new w _ _).below (((Below.refl _ _).alloc (Nat.le_refl _) _).alloc (by simp) _)))
  have c0 : W.cell? ⟨w.heap.size, 0, none⟩ = some (.string S) := (hbx.out.cell 0).trans rfl
  have c2 : W.cell? ⟨w.heap.size, 2, none⟩ = some (.int .i64 last) := (hbx.out.cell 2).trans rfl
  have hrr := Lib.hid hrs
  have hB1 := Lib.hid hB
  have z0 : W.cell? ⟨w.heap.size + 1 + 1, 0, none⟩ = some (.string ⟨#[]⟩) := (hrr.out.cell 0).trans rfl
  have z1 : W.cell? ⟨w.heap.size + 1 + 1, 1, none⟩ = some (.slice none 0 0) := (hrr.out.cell 1).trans rfl
  have z2 : W.cell? ⟨w.heap.size + 1 + 1, 2, none⟩ = some (.int .i64 0) := (hrr.out.cell 2).trans rfl
  have y0 := hrr.out.free 0
  have y1 := hrr.out.free 1
  have y2 := hrr.out.free 2
  clear hW hB hrs hi hcc
  refine start_ (n := 8) (S := fun w' => w'.cell? ⟨w.heap.size, 0, none⟩ = some (.string S) ∧ w'.cell? ⟨w.heap.size, 2, none⟩ = some (.int .i64 last)) (ds := []) #[false, false, false, false, false, false, false, false] (by kernel_rfl) rfl rfl ⟨c0, c2⟩ (fun hHeld => ?_)
  refine pure_ (i := 0) (N := some 47) (v := ?_) (a' := ?_) #[true, false, false, false, false, false, false, false] rfl rfl (by kernel_rfl) (fun _ _ _ h => h) (Or.inl ⟨by rfl, ?_⟩) ?_ ?_
  rotate_left
  · intro w'
    go_simp
    with_reducible rfl
  rotate_left
  · simp only [Act.put, List.setIfInBounds_toArray, List.set_cons_zero, List.set_cons_succ, i64_w, i32_w]
    rfl
  refine pure_ (i := 3) (N := some 50) (v := ?_) (a' := ?_) #[true, false, false, true, false, false, false, false] rfl rfl (by kernel_rfl) (fun _ _ _ h => h) (Or.inl ⟨by rfl, ?_⟩) ?_ ?_
  rotate_left
  · intro w'
    go_simp
    with_reducible rfl
  rotate_left
  · simp only [Act.put, List.setIfInBounds_toArray, List.set_cons_zero, List.set_cons_succ, i64_w, i32_w]
    rfl
  refine take_ (i := 1) (N := some 48) (v := ?_) (a' := ?_) #[true, true, false, true, false, false, false, false] rfl rfl (by kernel_rfl) (fun _ _ _ h => h) (Or.inl ⟨by rfl, ?_⟩) hHeld ?_ ?_
  rotate_left
  · rintro w' ⟨s0, s1⟩
    go_simp
    with_reducible rfl
  rotate_left
  · simp only [Act.put, List.setIfInBounds_toArray, List.set_cons_zero, List.set_cons_succ, i64_w, i32_w]
    rfl
  refine pure_ (i := 2) (N := some 49) (v := ?_) (a' := ?_) #[true, true, true, true, false, false, false, false] rfl rfl (by kernel_rfl) (fun _ _ _ h => h) (Or.inl ⟨by rfl, ?_⟩) ?_ ?_
  rotate_left
  · intro w'
    go_simp
    with_reducible rfl
  rotate_left
  · simp only [Act.put, List.setIfInBounds_toArray, List.set_cons_zero, List.set_cons_succ, i64_w, i32_w]
    rfl
  refine take_ (i := 4) (N := some 51) (v := ?_) (a' := ?_) #[true, true, true, true, true, false, false, false] rfl rfl (by kernel_rfl) (fun _ _ _ h => h) (Or.inl ⟨by rfl, ?_⟩) hHeld ?_ ?_
  rotate_left
  · rintro w' ⟨s0, s1⟩
    go_simp
    with_reducible rfl
  rotate_left
  · simp only [Act.put, List.setIfInBounds_toArray, List.set_cons_zero, List.set_cons_succ, i64_w, i32_w]
    rfl
  refine one_ (i := 5) (N := none) #[true, true, true, true, true, true, false, false] rfl rfl (by kernel_rfl) (by decide) (fun K hK => ?_)
  refine skip_ (w1 := ?_) (by rfl) rfl ?_ ?_
  rotate_left
  · go_simp
    rfl
  refine hK.out _ _ ⟨((((hbx.out.far (p := ⟨w.heap.size + 1 + 1, 0, none⟩) (by show w.heap.size ≠ w.heap.size + 1 + 1; omega) _).far (p := ⟨w.heap.size + 1 + 1, 1, none⟩) (by show w.heap.size ≠ w.heap.size + 1 + 1; omega) _).far (p := ⟨w.heap.size + 1 + 1, 2, none⟩) (by show w.heap.size ≠ w.heap.size + 1 + 1; omega) _).cell 0).trans rfl, ((((hbx.out.far (p := ⟨w.heap.size + 1 + 1, 0, none⟩) (by show w.heap.size ≠ w.heap.size + 1 + 1; omega) _).far (p := ⟨w.heap.size + 1 + 1, 1, none⟩) (by show w.heap.size ≠ w.heap.size + 1 + 1; omega) _).far (p := ⟨w.heap.size + 1 + 1, 2, none⟩) (by show w.heap.size ≠ w.heap.size + 1 + 1; omega) _).cell 2).trans rfl⟩ (fun hHeld => ?_)
  clear hK K
  refine pure_ (i := 6) (N := some 5) (v := ?_) (a' := ?_) #[true, true, true, true, true, true, true, false] rfl rfl (by kernel_rfl) (fun _ _ _ h => h) (Or.inl ⟨by rfl, ?_⟩) ?_ ?_
  rotate_left
  · intro w'
    go_simp
    with_reducible rfl
  rotate_left
  · simp only [Act.put, List.setIfInBounds_toArray, List.set_cons_zero, List.set_cons_succ, i64_w, i32_w]
    rfl
  refine pure_ (i := 7) (N := some 6) (v := ?_) (a' := ?_) #[true, true, true, true, true, true, true, true] rfl rfl (by kernel_rfl) (fun _ _ _ h => h) (Or.inl ⟨by rfl, ?_⟩) ?_ ?_
  rotate_left
  · intro w'
    go_simp
    with_reducible rfl
  rotate_left
  · simp only [Act.put, List.setIfInBounds_toArray, List.set_cons_zero, List.set_cons_succ, i64_w, i32_w]
    rfl
  refine done_ (by kernel_rfl) ?_
  go_wp2
  have r := blk3_set (x := .string ⟨#[]⟩) (y := .slice none 0 0) (z := .int .i64 last) hrr.out
  have r0 := (r.cell 0).trans rfl
  have r1 := (r.cell 1).trans rfl
  have r2 := (r.cell 2).trans rfl
  simp only [List.getElem?_toArray, List.getElem?_cons_zero, List.getElem?_cons_succ] at r0 r1 r2
  have hB3 := below3_set (x := .string ⟨#[]⟩) (y := .slice none 0 0) (z := .int .i64 last) hB1.out (show w.heap.size ≤ w.heap.size + 1 + 1 by omega)
  refine bodyPost_ret (v := .tuple #[cg ⟨#[]⟩ none 0 0 last, .int .i64 0, .string S]) (by simp [results, Try.results23, go_sem, r0, r1, r2, cg]) rfl ⟨_, rfl, ⟨none, 0, rfl, IR.nil _ _, Nat.le_refl _⟩, hB3.drew⟩
theorem do_else (w : World) (v : Value) (S : ByteArray) (ts : List Int) (last k at_ n : Int) (s : ByteArray) (hv : RefIs w v S ts last) (h0 : k ≠ 0) (h1 : k ≠ 1) (h2 : k ≠ 2) (h3 : k ≠ 3) :
    Calls Try.prog 23 #[v, .agg #[.int .i64 k, .int .i64 at_, .int .i64 n, .string s]] w (DoQ w ((S, ts, last), 0, ⟨#[]⟩)) := by
  obtain ⟨A, c, rfl, hi, hcc⟩ := hv
  have d0 : (k == 0) = false := by simpa using h0
  have d1 : (k == 1) = false := by simpa using h1
  have d2 : (k == 2) = false := by simpa using h2
  have d3 : (k == 3) = false := by simpa using h3
  have hi' := Lib.hid hi
  have hcc' := Lib.hid hcc
  generalize hn : ts.length = nn at *
  have hn' := Lib.hid hn
  clear h0 h1 h2 h3 hi hcc hn
  unfold cg
  go_enter Try.func23, Try.ntmps23
  go_wp2
  refine bodyPost_ret (v := .tuple #[cg S A nn c last, .int .i64 0, .string ⟨#[]⟩]) (by simp [results, Try.results23, go_sem, cg]) rfl ⟨_, rfl, ⟨A, c, by rw [hn'.out], hi'.out.below ((((Below.refl _ _).alloc (Nat.le_refl _) _).alloc (by simp) _).alloc (by simp; omega) _), by rw [hn'.out]; exact hcc'.out⟩, (((Below.refl _ _).alloc (Nat.le_refl _) _).alloc (by simp) _).alloc (by simp; omega) _⟩
theorem do_any (w : World) (v : Value) (x : RS) (k at_ n : Int) (s : ByteArray) (hv : RefIs w v x.1 x.2.1 x.2.2) (hs : x.1.size = x.2.1.length) (hz : x.2.1.length + s.size ≤ 1000000000000) :
    Calls Try.prog 23 #[v, .agg #[.int .i64 k, .int .i64 at_, .int .i64 n, .string s]] w (DoQ w (refDo k at_ n s x)) := by
  unfold refDo
  by_cases h0 : k = 0
  · subst h0; rw [if_pos rfl]; exact do_0 w v x.1 x.2.1 x.2.2 at_ n s hv hz (by omega)
  rw [if_neg h0]
  by_cases h1 : k = 1
  · subst h1; rw [if_pos rfl]; exact do_1 w v x.1 x.2.1 x.2.2 at_ n s hv (by omega) hs
  rw [if_neg h1]
  by_cases h2 : k = 2
  · subst h2; rw [if_pos rfl]; exact do_2 w v x.1 x.2.1 x.2.2 at_ n s hv (by omega)
  rw [if_neg h2]
  by_cases h3 : k = 3
  · subst h3; rw [if_pos rfl]; exact do_3 w v x.1 x.2.1 x.2.2 at_ n s hv
  rw [if_neg h3]
  exact do_else w v x.1 x.2.1 x.2.2 k at_ n s hv h0 h1 h2 h3
end Go.Proofs.Ytcoennfpaimclaa.Ref07
