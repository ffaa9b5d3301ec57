/- The reference's cargo (chapter 07): Hurry. Conditions: the bytes are fewer than 2^39. -/
import Derived.Test.YtcoennfpaimclaaRef07B
namespace Go.Proofs.Ytcoennfpaimclaa.Ref07
open Go.RowKit Mem Tick Cargo
set_option maxRecDepth 100000
set_option linter.unusedVariables false
set_option linter.unusedSimpArgs false
def low (a t : Int) : Int := if a < t then a else t

theorem hurry_late (w : World) (S : ByteArray) (A : Option Addr) (c : Nat) (ts : List Int) (last at_ : Int) (hi : IR w A ts) (hz : ts.length ≤ 1000000000000) (hl : nr at_ < last) :
    Calls Try.prog 32 #[cg S A ts.length c last, .int .i64 at_] w fun e w' => ∃ v, e = .returned v ∧ RefIs w' v S (ts.map (low (nr at_))) (low (nr at_) last) ∧ Below w.heap.size w w' := by
  obtain ⟨i0, hi1, hz0, hz1, hz2⟩ := info_parts info_int
  unfold cg
  go_enter Try.func32, Try.ntmps32
  go_wp2_with fail
  refine (Ref01.near_any at_ _).mono ?_
  rintro e wn ⟨rfl, rfl⟩
  obtain ⟨W, hW⟩ : ∃ W, W = (w.alloc (.cells #[.string S, .slice A ts.length c, .int .i64 last] 47)).alloc (.cells #[.string ⟨#[]⟩, .slice none 0 0, .int .i64 0] 47) := ⟨_, rfl⟩
  rw [← hW]
  have hB : Below w.heap.size w W := by rw [hW]; exact ((Below.refl _ _).alloc (Nat.le_refl _) _).alloc (by simp) _
  have hbx : Blk W w.heap.size 47 #[.string S, .slice A ts.length c, .int .i64 last] := by rw [hW]; exact (Blk.new w _ _).below ((Below.refl _ _).alloc (Nat.le_refl _) _)
  have hrs : Blk W (w.heap.size + 1) 47 #[.string ⟨#[]⟩, .slice none 0 0, .int .i64 0] := by
    rw [hW]
    have := Blk.new (w.alloc (.cells #[.string S, .slice A ts.length c, .int .i64 last] 47)) 47 #[.string ⟨#[]⟩, .slice none 0 0, .int .i64 0]
    simpa using this
  have hB' := Lib.hid hB
  have hbx' := Lib.hid hbx
  have hlw0 : w.heap.size < W.heap.size := hbx.lt
  have hrs' := Lib.hid hrs
  have hi' := Lib.hid (hi.below hB)
  clear hW hB hbx hi hrs
  have hd1 : decide (nr at_ < last) = true := decide_eq_true hl
  have hLo := Lib.hid (show low (nr at_) last = nr at_ from if_pos hl)
  clear hl
  generalize hna : nr at_ = na at *
  have hna' := Lib.hid hna
  clear hna
  go_wp2
  go_loopw [5, 6] (fun tv iv wr => ∃ k : Nat, k ≤ ts.length ∧ iv = .int .i64 k ∧ wr.ownsRow W.heap.size 3 1 tv (ts.take k).length (((ts.take k).map (low na)).map (Value.int .i64)) ∧ Below W.heap.size W wr) (fun _ iv _ => ts.length - (intOf iv).toNat)
  case atStart => exact ⟨0, by omega, rfl, World.ownsRow_nil _ _ _ _, Below.refl _ _⟩
  case round =>
    obtain ⟨k, hk, rfl, hO, hB⟩ := hrel
    have hbr := hbx'.out.below hB
    have c1 : wr.cell? ⟨w.heap.size, 1, none⟩ = some (.slice A ts.length c) := (hbr.cell 1).trans rfl
    have hsz := hB.size
    by_cases hlt : k < ts.length
    · obtain ⟨g, o, rfl, -, hc⟩ := hi'.out (by rintro rfl; simp at hlt)
      have hx : ts[k]? = some ts[k] := List.getElem?_eq_getElem hlt
      have d0 := bcells hB (hc k _ hx)
      have htk : ts.take (k + 1) = ts.take k ++ [ts[k]] := by rw [List.take_add_one, hx]; rfl
      have hlk : (ts.take k).length = k := by rw [List.length_take]; omega
      rw [hlk] at hO
      generalize ts[k] = t at *
      have htk' := Lib.hid htk
      have hlk' := Lib.hid hlk
      clear hx hc htk hlk hbr
      by_cases hta : na < t
      · have hd : decide (na < t) = true := decide_eq_true hta
        have hlo := Lib.hid (show low na t = na from if_pos hta)
        clear hta
        go_wp2_with (at_builtin; refine wpList_append_own _ rfl (.tmp 26) (.tmp 28) 45 rfl W.heap.size 3 i0 (.int .i64 0) 1 8 Try.underlying45 hi1 hz0 hz1 hz2 rfl (by decide) _ _ _ rfl (hO.alloc _) ⟨wr.heap.size, 0, none⟩ 1 1 [.int .i64 na] rfl rfl (by intro j u hu; match j, hu with | 0, hu => simp at hu; subst hu; simp [Addr.add]) (by intro u hu; simp at hu; subst hu; rfl) (by unfold maxLen; omega) (by omega) (by simp; omega) ?_; intro v' w2 hO2 hG2 _)
        have hG3 : (wr.alloc (.cells #[.int .i64 na] 3)).grownBy w2 u5.ownBlock := hG2
        have hO3 : w2.ownsRow W.heap.size 3 1 v' (ts.take (k + 1)).length (((ts.take (k + 1)).map (low na)).map (Value.int .i64)) := by
          rw [htk'.out, List.length_append, hlk'.out, List.map_append, List.map_append, List.map_cons, hlo.out]
          exact hO2
        have hQ := Lib.hid (show _ ∧ Below W.heap.size W w2 from ⟨hO3, (hB.alloc hB.size _).grown hG3 (by simp; omega) (own_ge hO)⟩)
        clear hO2 hG2 hG3 hO3 hO hB
        go_roundw
        case rel => exact ⟨k + 1, by omega, by go_num, hQ.out.1, hQ.out.2⟩
        case measure => simp [intOf]; omega
      · have hd : decide (na < t) = false := decide_eq_false hta
        have hlo := Lib.hid (show low na t = t from if_neg hta)
        clear hta
        go_wp2_with (at_builtin; refine wpList_append_own _ rfl (.tmp 26) (.tmp 28) 45 rfl W.heap.size 3 i0 (.int .i64 0) 1 8 Try.underlying45 hi1 hz0 hz1 hz2 rfl (by decide) _ _ _ rfl (hO.alloc _) ⟨wr.heap.size, 0, none⟩ 1 1 [.int .i64 t] rfl rfl (by intro j u hu; match j, hu with | 0, hu => simp at hu; subst hu; simp [Addr.add]) (by intro u hu; simp at hu; subst hu; rfl) (by unfold maxLen; omega) (by omega) (by simp; omega) ?_; intro v' w2 hO2 hG2 _)
        have hG3 : (wr.alloc (.cells #[.int .i64 t] 3)).grownBy w2 u5.ownBlock := hG2
        have hO3 : w2.ownsRow W.heap.size 3 1 v' (ts.take (k + 1)).length (((ts.take (k + 1)).map (low na)).map (Value.int .i64)) := by
          rw [htk'.out, List.length_append, hlk'.out, List.map_append, List.map_append, List.map_cons, hlo.out]
          exact hO2
        have hQ := Lib.hid (show _ ∧ Below W.heap.size W w2 from ⟨hO3, (hB.alloc hB.size _).grown hG3 (by simp; omega) (own_ge hO)⟩)
        clear hO2 hG2 hG3 hO3 hO hB
        go_roundw
        case rel => exact ⟨k + 1, by omega, by go_num, hQ.out.1, hQ.out.2⟩
        case measure => simp [intOf]; omega
    · have hk2 : k = ts.length := by omega
      subst hk2
      have hnl : ¬ (ts.length < ts.length) := by omega
      have hlw : w.heap.size + 1 < W.heap.size := hrs'.out.lt
      have hrr := Lib.hid (hrs'.out.below hB)
      have hbr' := Lib.hid hbr
      rw [List.take_length] at hO
      have c0 : wr.cell? ⟨w.heap.size, 0, none⟩ = some (.string S) := (hbr.cell 0).trans rfl
      have c2 : wr.cell? ⟨w.heap.size, 2, none⟩ = some (.int .i64 last) := (hbr.cell 2).trans rfl
      have f1 := hbr.free 1
      have f2 := hbr.free 2
      have z0 : wr.cell? ⟨w.heap.size + 1, 0, none⟩ = some (.string ⟨#[]⟩) := (hrr.out.cell 0).trans rfl
      have z1 : wr.cell? ⟨w.heap.size + 1, 1, none⟩ = some (.slice none 0 0) := (hrr.out.cell 1).trans rfl
      have z2 : wr.cell? ⟨w.heap.size + 1, 2, none⟩ = some (.int .i64 0) := (hrr.out.cell 2).trans rfl
      have y0 := hrr.out.free 0
      have y1 := hrr.out.free 1
      have y2 := hrr.out.free 2
      have hO' : wr.ownsRow W.heap.size 3 1 u5 (ts.map (low na)).length ((ts.map (low na)).map (Value.int .i64)) := by simpa using hO
      obtain ⟨A2, cc, rfl, hI, hcc⟩ := ir_of_owns hO'
      have hge2 : ∀ k, (Value.slice A2 (ts.map (low na)).length cc).ownBlock = some k → W.heap.size ≤ k := own_ge hO'
      have hBw : Below w.heap.size w wr := hB'.out.trans (hB.mono hB'.out.size)
      have hQ := Lib.hid (show IR wr A2 (ts.map (low na)) ∧ Below w.heap.size w wr from ⟨hI, hBw⟩)
      have hcc' := Lib.hid hcc
      have hge3 := Lib.hid hge2
      clear hO hB hO' hI hBw hcc hge2 hbr
      generalize hn2 : (ts.map (low na)).length = n2 at *
      have hn2' := Lib.hid hn2
      clear hn2
      go_wp2
      have r := blk3_set (x := .string S) (y := .slice A2 n2 cc) (z := .int .i64 na) ((hrr.out.far (p := ⟨w.heap.size, 1, none⟩) (by show w.heap.size + 1 ≠ w.heap.size; omega) (.slice A2 n2 cc)).far (p := ⟨w.heap.size, 2, none⟩) (by show w.heap.size + 1 ≠ w.heap.size; omega) (.int .i64 na))
      have r0 := (r.cell 0).trans rfl
      have r1 := (r.cell 1).trans rfl
      have r2 := (r.cell 2).trans rfl
      simp only [List.getElem?_toArray, List.getElem?_cons_zero, List.getElem?_cons_succ] at r0 r1 r2
      have hB3 := below3_set (x := .string S) (y := .slice A2 n2 cc) (z := .int .i64 na) ((hQ.out.2.setCell (p := ⟨w.heap.size, 1, none⟩) (Nat.le_refl _) (.slice A2 n2 cc)).setCell (p := ⟨w.heap.size, 2, none⟩) (Nat.le_refl _) (.int .i64 na)) (Nat.le_succ w.heap.size)
      have hI3 : IR (((((wr.setCell ⟨w.heap.size, 1, none⟩ (.slice A2 n2 cc)).setCell ⟨w.heap.size, 2, none⟩ (.int .i64 na)).setCell ⟨w.heap.size + 1, 0, none⟩ (.string S)).setCell ⟨w.heap.size + 1, 1, none⟩ (.slice A2 n2 cc)).setCell ⟨w.heap.size + 1, 2, none⟩ (.int .i64 na)) A2 (ts.map (low na)) := by
        intro hne
        obtain ⟨g, o, he, ⟨cs, fr, hb⟩, hc⟩ := hQ.out.1 hne
        have hg := hge3.out g (by rw [he]; rfl)
        have hgk : g ≠ w.heap.size + 1 := by omega
        have hgk2 : g ≠ w.heap.size := by omega
        have E : (((((wr.setCell ⟨w.heap.size, 1, none⟩ (.slice A2 n2 cc)).setCell ⟨w.heap.size, 2, none⟩ (.int .i64 na)).setCell ⟨w.heap.size + 1, 0, none⟩ (.string S)).setCell ⟨w.heap.size + 1, 1, none⟩ (.slice A2 n2 cc)).setCell ⟨w.heap.size + 1, 2, none⟩ (.int .i64 na)).heap[g]? = wr.heap[g]? := (Below.heap_setCell _ ⟨w.heap.size + 1, 2, none⟩ _ g hgk).trans ((Below.heap_setCell _ ⟨w.heap.size + 1, 1, none⟩ _ g hgk).trans ((Below.heap_setCell _ ⟨w.heap.size + 1, 0, none⟩ _ g hgk).trans ((Below.heap_setCell _ ⟨w.heap.size, 2, none⟩ _ g hgk2).trans (Below.heap_setCell _ ⟨w.heap.size, 1, none⟩ _ g hgk2))))
        exact ⟨g, o, he, ⟨cs, fr, E.trans hb⟩, fun j x hx => (World.cell?_of_block (a := ⟨g, o + j, none⟩) E).trans (hc j x hx)⟩
      refine bodyPost_ret (v := cg S A2 n2 cc na) (by simp [results, Try.results32, go_sem, r0, r1, r2, cg]) rfl ⟨cg S A2 n2 cc na, rfl, ⟨A2, cc, by rw [hna'.out, hn2'.out, hLo.out], by rw [hna'.out]; exact hI3, by rw [hna'.out, hn2'.out]; exact hcc'.out⟩, hB3⟩

theorem hurry_soon (w : World) (S : ByteArray) (A : Option Addr) (c : Nat) (ts : List Int) (last at_ : Int) (hi : IR w A ts) (hz : ts.length ≤ 1000000000000) (hl : ¬ nr at_ < last) :
    Calls Try.prog 32 #[cg S A ts.length c last, .int .i64 at_] w fun e w' => ∃ v, e = .returned v ∧ RefIs w' v S (ts.map (low (nr at_))) (low (nr at_) last) ∧ Below w.heap.size w w' := by
  obtain ⟨i0, hi1, hz0, hz1, hz2⟩ := info_parts info_int
  unfold cg
  go_enter Try.func32, Try.ntmps32
  go_wp2_with fail
  refine (Ref01.near_any at_ _).mono ?_
  rintro e wn ⟨rfl, rfl⟩
  obtain ⟨W, hW⟩ : ∃ W, W = (w.alloc (.cells #[.string S, .slice A ts.length c, .int .i64 last] 47)).alloc (.cells #[.string ⟨#[]⟩, .slice none 0 0, .int .i64 0] 47) := ⟨_, rfl⟩
  rw [← hW]
  have hB : Below w.heap.size w W := by rw [hW]; exact ((Below.refl _ _).alloc (Nat.le_refl _) _).alloc (by simp) _
  have hbx : Blk W w.heap.size 47 #[.string S, .slice A ts.length c, .int .i64 last] := by rw [hW]; exact (Blk.new w _ _).below ((Below.refl _ _).alloc (Nat.le_refl _) _)
  have hrs : Blk W (w.heap.size + 1) 47 #[.string ⟨#[]⟩, .slice none 0 0, .int .i64 0] := by
    rw [hW]
    have := Blk.new (w.alloc (.cells #[.string S, .slice A ts.length c, .int .i64 last] 47)) 47 #[.string ⟨#[]⟩, .slice none 0 0, .int .i64 0]
    simpa using this
  have hB' := Lib.hid hB
  have hbx' := Lib.hid hbx
  have hlw0 : w.heap.size < W.heap.size := hbx.lt
  have hrs' := Lib.hid hrs
  have hi' := Lib.hid (hi.below hB)
  clear hW hB hbx hi hrs
  have hd1 : decide (nr at_ < last) = false := decide_eq_false (by omega)
  have hLo := Lib.hid (show low (nr at_) last = last from if_neg (by omega))
  clear hl
  generalize hna : nr at_ = na at *
  have hna' := Lib.hid hna
  clear hna
  go_wp2
  go_loopw [5, 6] (fun tv iv wr => ∃ k : Nat, k ≤ ts.length ∧ iv = .int .i64 k ∧ wr.ownsRow W.heap.size 3 1 tv (ts.take k).length (((ts.take k).map (low na)).map (Value.int .i64)) ∧ Below W.heap.size W wr) (fun _ iv _ => ts.length - (intOf iv).toNat)
  case atStart => exact ⟨0, by omega, rfl, World.ownsRow_nil _ _ _ _, Below.refl _ _⟩
  case round =>
    obtain ⟨k, hk, rfl, hO, hB⟩ := hrel
    have hbr := hbx'.out.below hB
    have c1 : wr.cell? ⟨w.heap.size, 1, none⟩ = some (.slice A ts.length c) := (hbr.cell 1).trans rfl
    have hsz := hB.size
    by_cases hlt : k < ts.length
    · obtain ⟨g, o, rfl, -, hc⟩ := hi'.out (by rintro rfl; simp at hlt)
      have hx : ts[k]? = some ts[k] := List.getElem?_eq_getElem hlt
      have d0 := bcells hB (hc k _ hx)
      have htk : ts.take (k + 1) = ts.take k ++ [ts[k]] := by rw [List.take_add_one, hx]; rfl
      have hlk : (ts.take k).length = k := by rw [List.length_take]; omega
      rw [hlk] at hO
      generalize ts[k] = t at *
      have htk' := Lib.hid htk
      have hlk' := Lib.hid hlk
      clear hx hc htk hlk hbr
      by_cases hta : na < t
      · have hd : decide (na < t) = true := decide_eq_true hta
        have hlo := Lib.hid (show low na t = na from if_pos hta)
        clear hta
        go_wp2_with (at_builtin; refine wpList_append_own _ rfl (.tmp 26) (.tmp 28) 45 rfl W.heap.size 3 i0 (.int .i64 0) 1 8 Try.underlying45 hi1 hz0 hz1 hz2 rfl (by decide) _ _ _ rfl (hO.alloc _) ⟨wr.heap.size, 0, none⟩ 1 1 [.int .i64 na] rfl rfl (by intro j u hu; match j, hu with | 0, hu => simp at hu; subst hu; simp [Addr.add]) (by intro u hu; simp at hu; subst hu; rfl) (by unfold maxLen; omega) (by omega) (by simp; omega) ?_; intro v' w2 hO2 hG2 _)
        have hG3 : (wr.alloc (.cells #[.int .i64 na] 3)).grownBy w2 u5.ownBlock := hG2
        have hO3 : w2.ownsRow W.heap.size 3 1 v' (ts.take (k + 1)).length (((ts.take (k + 1)).map (low na)).map (Value.int .i64)) := by
          rw [htk'.out, List.length_append, hlk'.out, List.map_append, List.map_append, List.map_cons, hlo.out]
          exact hO2
        have hQ := Lib.hid (show _ ∧ Below W.heap.size W w2 from ⟨hO3, (hB.alloc hB.size _).grown hG3 (by simp; omega) (own_ge hO)⟩)
        clear hO2 hG2 hG3 hO3 hO hB
        go_roundw
        case rel => exact ⟨k + 1, by omega, by go_num, hQ.out.1, hQ.out.2⟩
        case measure => simp [intOf]; omega
      · have hd : decide (na < t) = false := decide_eq_false hta
        have hlo := Lib.hid (show low na t = t from if_neg hta)
        clear hta
        go_wp2_with (at_builtin; refine wpList_append_own _ rfl (.tmp 26) (.tmp 28) 45 rfl W.heap.size 3 i0 (.int .i64 0) 1 8 Try.underlying45 hi1 hz0 hz1 hz2 rfl (by decide) _ _ _ rfl (hO.alloc _) ⟨wr.heap.size, 0, none⟩ 1 1 [.int .i64 t] rfl rfl (by intro j u hu; match j, hu with | 0, hu => simp at hu; subst hu; simp [Addr.add]) (by intro u hu; simp at hu; subst hu; rfl) (by unfold maxLen; omega) (by omega) (by simp; omega) ?_; intro v' w2 hO2 hG2 _)
        have hG3 : (wr.alloc (.cells #[.int .i64 t] 3)).grownBy w2 u5.ownBlock := hG2
        have hO3 : w2.ownsRow W.heap.size 3 1 v' (ts.take (k + 1)).length (((ts.take (k + 1)).map (low na)).map (Value.int .i64)) := by
          rw [htk'.out, List.length_append, hlk'.out, List.map_append, List.map_append, List.map_cons, hlo.out]
          exact hO2
        have hQ := Lib.hid (show _ ∧ Below W.heap.size W w2 from ⟨hO3, (hB.alloc hB.size _).grown hG3 (by simp; omega) (own_ge hO)⟩)
        clear hO2 hG2 hG3 hO3 hO hB
        go_roundw
        case rel => exact ⟨k + 1, by omega, by go_num, hQ.out.1, hQ.out.2⟩
        case measure => simp [intOf]; omega
    · have hk2 : k = ts.length := by omega
      subst hk2
      have hnl : ¬ (ts.length < ts.length) := by omega
      have hlw : w.heap.size + 1 < W.heap.size := hrs'.out.lt
      have hrr := Lib.hid (hrs'.out.below hB)
      have hbr' := Lib.hid hbr
      rw [List.take_length] at hO
      have c0 : wr.cell? ⟨w.heap.size, 0, none⟩ = some (.string S) := (hbr.cell 0).trans rfl
      have c2 : wr.cell? ⟨w.heap.size, 2, none⟩ = some (.int .i64 last) := (hbr.cell 2).trans rfl
      have f1 := hbr.free 1
      have f2 := hbr.free 2
      have z0 : wr.cell? ⟨w.heap.size + 1, 0, none⟩ = some (.string ⟨#[]⟩) := (hrr.out.cell 0).trans rfl
      have z1 : wr.cell? ⟨w.heap.size + 1, 1, none⟩ = some (.slice none 0 0) := (hrr.out.cell 1).trans rfl
      have z2 : wr.cell? ⟨w.heap.size + 1, 2, none⟩ = some (.int .i64 0) := (hrr.out.cell 2).trans rfl
      have y0 := hrr.out.free 0
      have y1 := hrr.out.free 1
      have y2 := hrr.out.free 2
      have hO' : wr.ownsRow W.heap.size 3 1 u5 (ts.map (low na)).length ((ts.map (low na)).map (Value.int .i64)) := by simpa using hO
      obtain ⟨A2, cc, rfl, hI, hcc⟩ := ir_of_owns hO'
      have hge2 : ∀ k, (Value.slice A2 (ts.map (low na)).length cc).ownBlock = some k → W.heap.size ≤ k := own_ge hO'
      have hBw : Below w.heap.size w wr := hB'.out.trans (hB.mono hB'.out.size)
      have hQ := Lib.hid (show IR wr A2 (ts.map (low na)) ∧ Below w.heap.size w wr from ⟨hI, hBw⟩)
      have hcc' := Lib.hid hcc
      have hge3 := Lib.hid hge2
      clear hO hB hO' hI hBw hcc hge2 hbr
      generalize hn2 : (ts.map (low na)).length = n2 at *
      have hn2' := Lib.hid hn2
      clear hn2
      go_wp2
      have r := blk3_set (x := .string S) (y := .slice A2 n2 cc) (z := .int .i64 last) (hrr.out.far (p := ⟨w.heap.size, 1, none⟩) (by show w.heap.size + 1 ≠ w.heap.size; omega) (.slice A2 n2 cc))
      have r0 := (r.cell 0).trans rfl
      have r1 := (r.cell 1).trans rfl
      have r2 := (r.cell 2).trans rfl
      simp only [List.getElem?_toArray, List.getElem?_cons_zero, List.getElem?_cons_succ] at r0 r1 r2
      have hB3 := below3_set (x := .string S) (y := .slice A2 n2 cc) (z := .int .i64 last) (hQ.out.2.setCell (p := ⟨w.heap.size, 1, none⟩) (Nat.le_refl _) (.slice A2 n2 cc)) (Nat.le_succ w.heap.size)
      have hI3 : IR ((((wr.setCell ⟨w.heap.size, 1, none⟩ (.slice A2 n2 cc)).setCell ⟨w.heap.size + 1, 0, none⟩ (.string S)).setCell ⟨w.heap.size + 1, 1, none⟩ (.slice A2 n2 cc)).setCell ⟨w.heap.size + 1, 2, none⟩ (.int .i64 last)) A2 (ts.map (low na)) := by
        intro hne
        obtain ⟨g, o, he, ⟨cs, fr, hb⟩, hc⟩ := hQ.out.1 hne
        have hg := hge3.out g (by rw [he]; rfl)
        have hgk : g ≠ w.heap.size + 1 := by omega
        have hgk2 : g ≠ w.heap.size := by omega
        have E : ((((wr.setCell ⟨w.heap.size, 1, none⟩ (.slice A2 n2 cc)).setCell ⟨w.heap.size + 1, 0, none⟩ (.string S)).setCell ⟨w.heap.size + 1, 1, none⟩ (.slice A2 n2 cc)).setCell ⟨w.heap.size + 1, 2, none⟩ (.int .i64 last)).heap[g]? = wr.heap[g]? := (Below.heap_setCell _ ⟨w.heap.size + 1, 2, none⟩ _ g hgk).trans ((Below.heap_setCell _ ⟨w.heap.size + 1, 1, none⟩ _ g hgk).trans ((Below.heap_setCell _ ⟨w.heap.size + 1, 0, none⟩ _ g hgk).trans (Below.heap_setCell _ ⟨w.heap.size, 1, none⟩ _ g hgk2)))
        exact ⟨g, o, he, ⟨cs, fr, E.trans hb⟩, fun j x hx => (World.cell?_of_block (a := ⟨g, o + j, none⟩) E).trans (hc j x hx)⟩
      refine bodyPost_ret (v := cg S A2 n2 cc last) (by simp [results, Try.results32, go_sem, r0, r1, r2, cg]) rfl ⟨cg S A2 n2 cc last, rfl, ⟨A2, cc, by rw [hna'.out, hn2'.out, hLo.out], by rw [hna'.out]; exact hI3, by rw [hna'.out, hn2'.out]; exact hcc'.out⟩, hB3⟩
end Go.Proofs.Ytcoennfpaimclaa.Ref07
