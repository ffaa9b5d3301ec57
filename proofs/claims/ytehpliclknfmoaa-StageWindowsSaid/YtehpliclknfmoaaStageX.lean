/- The law StageWindows (chapter 10). Conditions: none. -/
import Derived.Test.YtehpliclknfmoaaStageW
import Derived.Maps.AppendAt
import Derived.Deep.AppendLies
import Derived.Laws.MakeOwn
namespace Go.Proofs.Ytehpliclknfmoaa.Stage
open Go.RowKit Mem Tick Cargo Toxic
open Go.Proofs.YtehpliclknfmoaaW.PrintLast Pu
set_option maxRecDepth 100000
set_option linter.unusedVariables false
set_option linter.unusedSimpArgs false
theorem own_keep {w1 w2 : World} {B e n m : Nat} {v : Value} {xs : List Value} (h : w1.ownsRow B e n v m xs) (hk : KeepS w1 w2) (he : e ∉ [61, 78, 80]) : w2.ownsRow B e n v m xs := by
  obtain ⟨hl, h⟩ := h
  rcases h with ⟨rfl, h0⟩ | ⟨g, cap, cur, rfl, hg, hh, hnc, hcap, hsz, htake⟩
  · exact ⟨hl, .inl ⟨rfl, h0⟩⟩
  · exact ⟨hl, .inr ⟨g, cap, cur, rfl, hg, hk _ _ _ hh he, hnc, hcap, hsz, htake⟩⟩
theorem LiveS.grown {w wr w2 : World} {b k : Nat} {s : Sg} (h : LiveS w wr b k s) {B e n m : Nat} {v : Value} {xs : List Value} (ho : wr.ownsRow B e n v m xs) (hB : w.heap.size ≤ B) (he : e ∉ [61, 78, 80]) (hG : wr.grownBy w2 v.ownBlock) : LiveS w w2 b k s := by
  obtain ⟨F, hC, hF, hb, hok⟩ := h
  have hne : ∀ j, F j → some j ≠ v.ownBlock := by
    intro j hj e1
    obtain ⟨hl, h⟩ := ho
    rcases h with ⟨rfl, h0⟩ | ⟨g, cap, cur, rfl, hg, hh, hnc, hcap, hsz, htake⟩
    · simp [Value.ownBlock] at e1
    · simp [Value.ownBlock] at e1
      subst e1
      exact hC.off hh he hj
  refine ⟨F, hC.kept fun j hj => hG.block j (hC.lt hj) (hne j hj), hF, hb.grown hG hb.size fun j c => ?_, hok⟩
  have := (ho.lt j c).1
  omega
theorem own_cell {w : World} {B e : Nat} {v : Value} {l : List Int} (h : w.ownsRow B e 1 v l.length (l.map (Value.int .i64))) (i : Nat) (x : Int) (hx : l[i]? = some x) : ∃ ga cap, v = .slice (some ⟨ga, 0, none⟩) l.length cap ∧ w.cell? ⟨ga, i, none⟩ = some (.int .i64 x) := by
  obtain ⟨hl, h⟩ := h
  rcases h with ⟨rfl, h0⟩ | ⟨g, cap, cur, rfl, hg, hh, hnc, hcap, hsz, htake⟩
  · have : l = [] := by simpa using h0
    subst this; simp at hx
  · refine ⟨g, cap, rfl, ?_⟩
    have hlt := (List.getElem?_eq_some_iff.1 hx).1
    have e1 : (cur.toList.take (l.length * 1))[i]? = some (.int .i64 x) := by
      rw [htake, List.getElem?_map, hx]; rfl
    rw [List.getElem?_take, if_pos (by omega)] at e1
    simp only [World.cell?, hh]
    simpa using e1
theorem row_below {B : Nat} {e : TypeId} {k : Nat} {v : Value} {n : Nat} {xs : List Value} {w w' : World} (h : w.ownsRow B e k v n xs) (hb : Below w.heap.size w w') : w'.ownsRow B e k v n xs :=
  h.kept (row := none) ⟨hb.os, hb.tape, hb.output, hb.size, fun j hj _ => hb.block j hj⟩ (by cases hv : v.ownBlock <;> simp)
abbrev ints (l : List Int) : List Value := l.map (Value.int .i64)
theorem info_int : (Try.prog.info? 3).map (fun i => (i.zero, i.size, i.bytes)) = some (some (.int .i64 0), 1, 8) := by kernel_rfl
theorem info_u8 : (Try.prog.info? 5).map (fun i => (i.zero, i.size, i.bytes)) = some (some (.int .u8 0), 1, 1) := by kernel_rfl
theorem make_u8 (M : Nat) (hM : M ≤ 200) (W : World) : (Instr.makeSlice 37 (.int .i64 (M : Int)) (.int .i64 (M : Int))).run Try.prog W = .ok (.slice (some ⟨W.heap.size, 0, none⟩) M M) (W.alloc (.cells (madeCells #[.int .u8 0] M) 5)) := by
  obtain ⟨i0, hi, hz0, hz1, hz2⟩ := info_parts info_u8
  have := run_makeSlice (w := W) 37 5 i0 (.int .u8 0) Try.underlying37 hi hz0 .i64 .i64 (M : Int) (M : Int) (by omega) (Int.le_refl _) (by rw [hz1]; simp; omega) (by rw [hz2]; omega) (by omega)
  rw [this, hz1]
  simp [Value.cells]
theorem bs_made (w : World) (m : Nat) : BS (w.alloc (.cells (madeCells #[.int .u8 0] m) 5)) (some ⟨w.heap.size, 0, none⟩) (zeros m) :=
  bs_const w _ _ _ fun i hi => by
    rw [zeros_size] at hi
    simp [madeCells, zeros, hi, ByteArray.getElem_eq_getElem_data, Nat.mod_one]
theorem live_zeros {w wr w1 : World} {b k : Nat} {s : Sg} (h : LiveS w wr b k s) (hb1 : Below wr.heap.size wr w1) (n : Int) (M : Nat) (ht : held s + M ≤ 1000000000) :
    Calls Try.prog 11 #[.pointer (some ⟨b, 0, none⟩), .int .i64 n, .slice (some ⟨w1.heap.size, 0, none⟩) M M] (w1.alloc (.cells (madeCells #[.int .u8 0] M) 5)) fun e w2 => e = .returned (.int .i64 (putN s n (zeros M))) ∧ LiveS w w2 b k (putS s n (zeros M)) ∧ KeepS w1 w2 := by
  have hz := zeros_size M
  have hB2 := (Below.refl w1.heap.size w1).alloc (Nat.le_refl _) (.cells (madeCells #[.int .u8 0] M) 5)
  have := live_put h (hb1.trans (hB2.mono hb1.size)) n (some ⟨w1.heap.size, 0, none⟩) M (zeros M) (by omega) (bs_made w1 M) (fun g o e => by injection e with e; injection e with e; have := hb1.size; omega) (by omega)
  rw [hz] at this
  exact this.mono fun e w2 ⟨h1, h2, h3⟩ => ⟨h1, h2, (KeepS.below hB2).trans h3⟩
theorem news_one (W : World) (x : Value) (t : TypeId) (m : Nat) (h : W.heap.size = m) : ∀ j u, [x][j]? = some u → (W.alloc (.cells #[x] t)).cell? ((⟨m, 0, none⟩ : Addr).add j) = some u := by
  subst h
  exact cell_one_new _ _ _
theorem own_ne {w : World} {B e n m : Nat} {v : Value} {xs : List Value} (h : w.ownsRow B e n v m xs) {x : Nat} {t : TypeId} {cs : Array Value} (hb : Blk w x t cs) (ht : t ≠ e) : some x ≠ v.ownBlock := by
  intro e1
  obtain ⟨hl, h⟩ := h
  rcases h with ⟨rfl, h0⟩ | ⟨g, cap, cur, rfl, hg, hh, hnc, hcap, hsz, htake⟩
  · simp [Value.ownBlock] at e1
  · simp [Value.ownBlock] at e1
    subst e1
    exact ht (hb.ty (show Blk w x e cur from hh))
theorem own_slice {w : World} {B e : Nat} {v : Value} {l : List Int} (h : w.ownsRow B e 1 v l.length (ints l)) : ∃ A c, v = .slice A l.length c := by
  obtain ⟨hl, h⟩ := h
  rcases h with ⟨rfl, h0⟩ | ⟨g, cap, cur, rfl, _⟩
  · have : l = [] := by simpa using h0
    subst this; exact ⟨none, 0, rfl⟩
  · exact ⟨_, _, rfl⟩
theorem wr_sub (t u : Int) (h0 : 0 ≤ t) (h1 : t ≤ u) (h2 : u ≤ 1099511627776) : IntKind.i64.wrap (u - t) = u - t := by rw [IntKind.wrap_i64]; omega
theorem own_at {w : World} {B e n c : Nat} {A : Option Addr} {l : List Int} (h : w.ownsRow B e 1 (.slice A n c) l.length (l.map (Value.int .i64))) (i : Nat) (x : Int) (hx : l[i]? = some x) : ∃ ga, A = some ⟨ga, 0, none⟩ ∧ w.cell? ⟨ga, i, none⟩ = some (.int .i64 x) := by
  obtain ⟨ga, cap, h1, h2⟩ := own_cell h i x hx
  injection h1 with h1 _ _
  exact ⟨ga, h1, h2⟩
theorem total_le {M : Int} (hM : 0 ≤ M) : ∀ {l : List Int}, (∀ x ∈ l, x ≤ M) → total l ≤ M * l.length
  | [], _ => by simp [total]
  | x :: l, h => by
    have h1 := h x (List.mem_cons_self ..)
    have h2 := total_le hM (l := l) fun y hy => h y (List.mem_cons_of_mem _ hy)
    simp only [total, List.length_cons]
    have : M * ((l.length + 1 : Nat) : Int) = M * (l.length : Int) + M := by rw [Int.natCast_add, Int.mul_add]; simp
    omega
theorem newOk_of {T : Tox} (h : passB T = true ∨ chk T = 0) (hk : T.kind = 2) : Ref08.newOk T.a T.b 0 = true ∧ Bucket.okB T.a T.b T.b 0 = true := by
  obtain ⟨_, _, h1, h2, h3, h4, _, h5, _⟩ := tox_parts h
  have h6 := h5 hk
  constructor
  · unfold Ref08.newOk rightB
    simp only [Bool.and_eq_true, decide_eq_true_eq]
    omega
  · exact decide_eq_true ⟨⟨h1, h2⟩, ⟨h3, h4⟩, ⟨h3, h4⟩, ⟨by decide, by decide⟩, by omega, by omega⟩
theorem windows_none (r bu : Int) (v : Value) (l : List Pt) (w : World) (hv : Puts w v l) (he : newE ⟨⟨#[97]⟩, 2, false, 1, r, bu⟩ 4096 ≠ 0) :
    Calls Try.prog 4 #[.int .i64 r, .int .i64 bu, v] w fun e w' => e = .returned (.bool true) ∧ Below w.heap.size w w' := by
  have hn := fun (wr : World) => live_none (wr := wr) ⟨⟨#[97]⟩, 2, false, 1, r, bu⟩ 1 4096 0 he
  have te : (newE ⟨⟨#[97]⟩, 2, false, 1, r, bu⟩ 4096 != 0) = true := by simpa using he
  clear hv he
  generalize newE ⟨⟨#[97]⟩, 2, false, 1, r, bu⟩ 4096 = E at *
  go_enter Try.func4, Try.ntmps4
  go_wp2_with fail
  refine (hn _).mono ?_
  rintro e w1 ⟨rfl, hB⟩
  have hB1 := Lib.hid hB
  clear hn hB
  go_wp2_with fail
  refine (Ref08.new_any r bu 0 _).mono ?_
  rintro e w2 ⟨rfl, hB⟩
  have hB2 := Lib.hid (bw_below hB1.out hB)
  clear hB hB1
  cases hb : Ref08.newOk r bu 0 with
  | true =>
    rw [show Ref08.newV r bu 0 = .tuple #[.agg #[.int .i64 r, .int .i64 bu, .int .i64 bu, .int .i64 0], .int .i64 0] from if_pos hb]
    clear hb
    go_wp2_with (go_at_call 9; (with_reducible refine (alive_any _).mono ?_); rintro e w3 ⟨rfl, hB3⟩; have hB3' := Lib.hid hB3; clear hB3)
    go_ret
    exact ⟨rfl, bw_below (hB2.out.alloc hB2.out.size _) hB3'.out⟩
  | false =>
    rw [show Ref08.newV r bu 0 = .tuple #[.agg #[.int .i64 0, .int .i64 0, .int .i64 0, .int .i64 0], .int .i64 1] from if_neg (by rw [hb]; decide)]
    clear hb
    go_wp2_with (go_at_call 9; (with_reducible refine (alive_any _).mono ?_); rintro e w3 ⟨rfl, hB3⟩; have hB3' := Lib.hid hB3; clear hB3)
    go_ret
    exact ⟨rfl, bw_below (hB2.out.alloc hB2.out.size _) hB3'.out⟩
theorem windows_long (r bu : Int) (v : Value) (l : List Pt) (w : World) (hv : Puts w v l) (he : newE ⟨⟨#[97]⟩, 2, false, 1, r, bu⟩ 4096 = 0) (hl : 40 < l.length) :
    Calls Try.prog 4 #[.int .i64 r, .int .i64 bu, v] w fun e w' => e = .returned (.bool true) ∧ Below w.heap.size w w' := by
  have hn := fun (wr : World) hB => live_new (w := w) (wr := wr) ⟨⟨#[97]⟩, 2, false, 1, r, bu⟩ 1 4096 0 he hB
  obtain ⟨a, cap, rfl, hmx, hA⟩ := hv
  have hno := newOk_of (newE_parts he).1 rfl
  dsimp only at hno
  have hno1 := Lib.hid hno.1
  have hno2 := Lib.hid hno.2
  clear hno
  have tl : decide (40 < (l.length : Int)) = true := decide_eq_true (by omega)
  clear he hA
  go_enter Try.func4, Try.ntmps4
  go_wp2_with fail
  refine (hn _ (Below.refl _ _)).mono ?_
  rintro e w1 ⟨b, kk, rfl, hL, hB⟩
  have H1 := Lib.hid hL
  clear hn hB hL
  go_wp2_with fail
  refine (Ref08.new_any r bu 0 _).mono ?_
  rintro e w2 ⟨rfl, hB⟩
  have H2 := Lib.hid (H1.out.below hB)
  clear hB H1
  rw [show Ref08.newV r bu 0 = .tuple #[.agg #[.int .i64 r, .int .i64 bu, .int .i64 bu, .int .i64 0], .int .i64 0] from if_pos hno1.out]
  have hBx := (Below.refl w2.heap.size w2).alloc (Nat.le_refl _) (.cells #[.int .i64 r, .int .i64 bu, .int .i64 bu, .int .i64 0] 42)
  have H3 := Lib.hid (H2.out.below hBx)
  have HK := Lib.hid (Blk.new w2 42 #[.int .i64 r, .int .i64 bu, .int .i64 bu, .int .i64 0])
  have hKw : w.heap.size ≤ w2.heap.size := H2.out.old.size
  clear H2 hBx
  go_wp2_with (go_at_call 9; (with_reducible refine (alive_any _).mono ?_); rintro e w3 ⟨rfl, hB3⟩; have hB3' := Lib.hid hB3; clear hB3)
  go_ret
  exact ⟨rfl, bw_below H3.out.old hB3'.out⟩
set_option maxHeartbeats 4000000 in
theorem windows_yes (r bu : Int) (v : Value) (l : List Pt) (w : World) (hv : Puts w v l) (he : newE ⟨⟨#[97]⟩, 2, false, 1, r, bu⟩ 4096 = 0) (hl : l.length ≤ 40) :
    Calls Try.prog 4 #[.int .i64 r, .int .i64 bu, v] w fun e w' => e = .returned (.bool true) ∧ Below w.heap.size w w' := by
  have hn := fun (wr : World) hB => live_new (w := w) (wr := wr) ⟨⟨#[97]⟩, 2, false, 1, r, bu⟩ 1 4096 0 he hB
  obtain ⟨a, cap, rfl, hmx, hA⟩ := hv
  have hno := newOk_of (newE_parts he).1 rfl
  dsimp only at hno
  have hno1 := Lib.hid hno.1
  have hno2 := Lib.hid hno.2
  clear hno
  have tl : decide (40 < (l.length : Int)) = false := decide_eq_false (by omega)
  have hI0 := Lib.hid (show WinI ⟨⟨#[97]⟩, 2, false, 1, r, bu⟩ 0 [] [] (newS ⟨⟨#[97]⟩, 2, false, 1, r, bu⟩ 1 4096 0) from ⟨rfl, rfl, rfl, add_zero 0, rfl, rfl, rfl, hno2.out, Int.le_refl 0, (fun x hx => by cases hx), (fun x hx => by cases hx), (fun i a hx => by simp at hx), (fun i k a u hx => by simp at hx)⟩)
  have hs0 := Lib.hid (show (newS ⟨⟨#[97]⟩, 2, false, 1, r, bu⟩ 1 4096 0).passed = 0 ∧ held (newS ⟨⟨#[97]⟩, 2, false, 1, r, bu⟩ 1 4096 0) = 0 from ⟨rfl, rfl⟩)
  obtain ⟨i0, hi, hz0, hz1, hz2⟩ := info_parts info_int
  clear he
  generalize newS ⟨⟨#[97]⟩, 2, false, 1, r, bu⟩ 1 4096 0 = s0 at *
  go_enter Try.func4, Try.ntmps4
  go_wp2_with fail
  refine (hn _ (Below.refl _ _)).mono ?_
  rintro e w1 ⟨b, kk, rfl, hL, hB⟩
  have H1 := Lib.hid hL
  clear hn hB hL
  go_wp2_with fail
  refine (Ref08.new_any r bu 0 _).mono ?_
  rintro e w2 ⟨rfl, hB⟩
  have H2 := Lib.hid (H1.out.below hB)
  clear hB H1
  rw [show Ref08.newV r bu 0 = .tuple #[.agg #[.int .i64 r, .int .i64 bu, .int .i64 bu, .int .i64 0], .int .i64 0] from if_pos hno1.out]
  have hBx := (Below.refl w2.heap.size w2).alloc (Nat.le_refl _) (.cells #[.int .i64 r, .int .i64 bu, .int .i64 bu, .int .i64 0] 42)
  have H3 := Lib.hid (H2.out.below hBx)
  have HK := Lib.hid (Blk.new w2 42 #[.int .i64 r, .int .i64 bu, .int .i64 bu, .int .i64 0])
  have hKw : w.heap.size ≤ w2.heap.size := H2.out.old.size
  clear H2 hBx
  go_wp2
  go_loopw [11, 12, 13, 50] (fun nv av gv iv wr => ∃ (k : Nat) (s : Sg) (now : Int) (at_ got : List Int), k ≤ l.length ∧ iv = .int .i64 k ∧ nv = .int .i64 now ∧ LiveS w wr b kk s ∧ WinI ⟨⟨#[97]⟩, 2, false, 1, r, bu⟩ now at_ got s ∧ wr.ownsRow w.heap.size 3 1 av at_.length (ints at_) ∧ wr.ownsRow w.heap.size 3 1 gv got.length (ints got) ∧ Apart av gv ∧ Blk wr w2.heap.size 42 #[.int .i64 r, .int .i64 bu, .int .i64 bu, .int .i64 0] ∧ 0 ≤ now ∧ now ≤ 1099511627776 ∧ at_.length ≤ k ∧ s.passed + held s ≤ 200 * k ∧ ∀ x ∈ got, x ≤ 8000) (fun _ _ _ iv _ => l.length - (intOf iv).toNat)
  case atStart => exact ⟨0, s0, 0, [], [], by omega, rfl, rfl, H3.out, hI0.out, World.ownsRow_nil _ _ _ _, World.ownsRow_nil _ _ _ _, .inl rfl, HK.out, by decide, by decide, Nat.le_refl _, by rw [hs0.out.1, hs0.out.2]; decide, fun x hx => by cases hx⟩
  case round =>
    obtain ⟨k, s, now, at_, got, hk, rfl, rfl, hL, hI, hOA, hOG, hap, hKB, hn0, hn1, hal, hm, hg8⟩ := hrel
    clear H3 HK hI0 hs0
    obtain ⟨Aa, ca, rfl⟩ := own_slice hOA
    obtain ⟨Ag, cg, rfl⟩ := own_slice hOG
    have hlen := hI.w.len
    by_cases hlt : k < l.length
    · obtain ⟨g, oo, rfl, hc⟩ := hA (by intro h; subst h; simp at hlt)
      have hx : l[k]? = some l[k] := List.getElem?_eq_getElem hlt
      obtain ⟨d0, d1, d2⟩ := hc k _ hx
      generalize l[k] = p at *
      obtain ⟨p0, p1, p2⟩ := p
      dsimp only at *
      have hold := hL.old
      have d0' := bcells hold d0
      have d1' := bcells hold d1
      have d2' := bcells hold d2
      obtain ⟨ht0, ht1, ht2⟩ := tick_next now p0 hn0 hn1
      have hL' := Lib.hid hL
      have hI' := Lib.hid hI
      have hOA' := Lib.hid hOA
      have hOG' := Lib.hid hOG
      have hap' := Lib.hid hap
      have hKB' := Lib.hid hKB
      have hm' := Lib.hid hm
      have hg8' := Lib.hid hg8
      have hlen' := Lib.hid hlen
      have hgl : got.length ≤ k := by omega
      have hp0 := hL.ok.p0
      have hH1 : held s + 200 ≤ 1000000000 := by omega
      have hH2 : held s ≤ 1000000000 := by omega
      have hH3 : held s ≤ 8000 := by omega
      have hP1 : s.passed ≤ 1000000000 := by omega
      have HT := Lib.hid (show now ≤ Tick.add now p0 ∧ Tick.add now p0 ≤ 1099511627776 ∧ Tick.add (Tick.add now p0) 0 = Tick.add now p0 from ⟨ht0, ht1, ht2⟩)
      have hn0' := Lib.hid hn0
      have hszw : w.heap.size ≤ wr.heap.size := hold.size
      clear hc hx hA hold hL hI hOA hOG hap hKB hm hp0 ht0 ht1 ht2 hn0 hn1 d0 d1 d2 hg8 hlen
      generalize hNE : Tick.add now p0 = N at *
      have hNE' := Lib.hid hNE
      clear hNE
      cases p1 with
      | false =>
        have hmm : min (max p2 0) 200 = (mk p2 : Int) := mk_eq p2
        have hmk := make_u8 (mk p2) (mk_le p2)
        have hM := mk_le p2
        generalize mk p2 = M at *
        have HBx := Lib.hid (show Below wr.heap.size wr (wr.alloc (.cells #[.int .i64 p0, .bool false, .int .i64 p2] 34)) from (Below.refl _ _).alloc (Nat.le_refl _) _)
        go_wp2_with (go_at_call 10; (with_reducible refine (Ref01.add_any now p0 _).mono ?_); rintro e w3 ⟨rfl, rfl⟩; rw [hNE'.out])
        have hq := live_zeros hL'.out HBx.out N M (by omega)
        rw [World.size_alloc] at hq
        refine hq.mono ?_
        rintro e wz ⟨rfl, hL2, hK2⟩
        have HL2 := Lib.hid hL2
        have hK3 := (KeepS.below HBx.out).trans hK2
        have HA2 := Lib.hid (own_keep hOA'.out hK3 (by decide))
        have HG2 := Lib.hid (own_keep hOG'.out hK3 (by decide))
        have HK2 := Lib.hid (hK3 _ _ _ hKB'.out (by decide))
        have HI2 := Lib.hid (hI'.out.put rfl N HT.out.1 HT.out.2.2 (zeros M))
        have HM2 := Lib.hid (show (putS s N (zeros M)).passed + held (putS s N (zeros M)) ≤ 200 * (k + 1 : Nat) by
          have h1 := held_put s N (zeros M)
          have h2 := hm'.out
          rw [zeros_size] at h1
          rw [put_passed]
          omega)
        clear hL2 hmm hmk hL' hI' HBx hK2 hK3 hq hOA' hOG' hKB'
        generalize putS s N (zeros M) = s2 at *
        go_wp2
        go_roundw
        case rel => exact ⟨k + 1, s2, N, at_, got, by omega, by go_num, rfl, HL2.out, HI2.out, HA2.out, HG2.out, hap'.out, HK2.out, Int.le_trans hn0'.out HT.out.1, HT.out.2.1, by omega, HM2.out, hg8'.out⟩
        case measure => simp [intOf]; omega
      | true =>
        go_wp2_with (go_at_call 10; (with_reducible refine (Ref01.add_any now p0 _).mono ?_); rintro e w3 ⟨rfl, rfl⟩; rw [hNE'.out])
        have hBx : Below wr.heap.size wr ((wr.alloc (.cells #[.int .i64 p0, .bool true, .int .i64 p2] 34)).drew) := ((Below.refl wr.heap.size wr).alloc (Nat.le_refl _) (.cells #[.int .i64 p0, .bool true, .int .i64 p2] 34)).drew
        have L0 := Lib.hid (hL'.out.below hBx)
        have A0 := Lib.hid (row_below hOA'.out hBx)
        have G0 := Lib.hid (row_below hOG'.out hBx)
        have X0 := Lib.hid (show Blk ((wr.alloc (.cells #[.int .i64 p0, .bool true, .int .i64 p2] 34)).drew) wr.heap.size 34 #[.int .i64 p0, .bool true, .int .i64 p2] from Blk.new wr _ _)
        have K0 := Lib.hid (hKB'.out.below hBx)
        clear hBx hL' hOA' hOG' hKB'
        refine start_ (n := 15) (S := fun w' => w'.cell? ⟨wr.heap.size, 2, none⟩ = some (.int .i64 p2)) (ds := []) (m_ 15 0) (by kernel_rfl) rfl (by kernel_rfl) (((X0.out.cell 2).trans rfl)) (fun hHeld => ?_)
        refine pu_ 0 (some 69) (m_ 15 1) rfl rfl (by kernel_rfl) (fun _ _ _ h => h) (by rfl) (by intro w'; go_simp; with_reducible rfl) (by simp only [Act.put, List.setIfInBounds_toArray, List.set_cons_zero, List.set_cons_succ, i64_w, i32_w]; rfl) ?_
        refine pu_ 1 (some 70) (m_ 15 3) rfl rfl (by kernel_rfl) (fun _ _ _ h => h) (by rfl) (by intro w'; go_simp; with_reducible rfl) (by simp only [Act.put, List.setIfInBounds_toArray, List.set_cons_zero, List.set_cons_succ, i64_w, i32_w]; rfl) ?_
        refine pu_ 4 (some 73) (m_ 15 19) rfl rfl (by kernel_rfl) (fun _ _ _ h => h) (by rfl) (by intro w'; go_simp; with_reducible rfl) (by simp only [Act.put, List.setIfInBounds_toArray, List.set_cons_zero, List.set_cons_succ, i64_w, i32_w]; rfl) ?_
        refine pu_ 5 (some 74) (m_ 15 51) rfl rfl (by kernel_rfl) (fun _ _ _ h => h) (by rfl) (by intro w'; go_simp; with_reducible rfl) (by simp only [Act.put, List.setIfInBounds_toArray, List.set_cons_zero, List.set_cons_succ, i64_w, i32_w]; rfl) ?_
        refine pu_ 6 (some 75) (m_ 15 115) rfl rfl (by kernel_rfl) (fun _ _ _ h => h) (by rfl) (by intro w'; go_simp; with_reducible rfl) (by simp only [Act.put, List.setIfInBounds_toArray, List.set_cons_zero, List.set_cons_succ, i64_w, i32_w]; rfl) ?_
        refine pu_ 7 (some 76) (m_ 15 243) rfl rfl (by kernel_rfl) (fun _ _ _ h => h) (by rfl) (by intro w'; go_simp; with_reducible rfl) (by simp only [Act.put, List.setIfInBounds_toArray, List.set_cons_zero, List.set_cons_succ, i64_w, i32_w]; rfl) ?_
        refine tk_ 8 (some 77) (m_ 15 499) rfl rfl (by kernel_rfl) (fun _ _ _ h => h) (by rfl) (by intro w' s0; go_simp; with_reducible rfl) hHeld (by simp only [Act.put, List.setIfInBounds_toArray, List.set_cons_zero, List.set_cons_succ, i64_w, i32_w]; rfl) ?_
        refine one_ (i := 2) (N := some 71) (m_ 15 503) rfl rfl (by kernel_rfl) (by decide) (fun K hK => ?_)
        refine value_ (w1 := ?_) (v := ?_) (by rfl) rfl ?_ ?_
        rotate_left 2
        · go_simp
          constructor
          · rfl
          · rfl
        have La := Lib.hid (L0.out.below ((Below.refl ((wr.alloc (.cells #[.int .i64 p0, .bool true, .int .i64 p2] 34)).drew).heap.size ((wr.alloc (.cells #[.int .i64 p0, .bool true, .int .i64 p2] 34)).drew)).alloc (Nat.le_refl _) (.cells #[.int .i64 N] 3)))
        have Aa1 := Lib.hid (A0.out.alloc (.cells #[.int .i64 N] 3))
        have Ga1 := Lib.hid (G0.out.alloc (.cells #[.int .i64 N] 3))
        have Xa := Lib.hid (X0.out.below ((Below.refl ((wr.alloc (.cells #[.int .i64 p0, .bool true, .int .i64 p2] 34)).drew).heap.size ((wr.alloc (.cells #[.int .i64 p0, .bool true, .int .i64 p2] 34)).drew)).alloc (Nat.le_refl _) (.cells #[.int .i64 N] 3)))
        have Ka := Lib.hid (K0.out.below ((Below.refl ((wr.alloc (.cells #[.int .i64 p0, .bool true, .int .i64 p2] 34)).drew).heap.size ((wr.alloc (.cells #[.int .i64 p0, .bool true, .int .i64 p2] 34)).drew)).alloc (Nat.le_refl _) (.cells #[.int .i64 N] 3)))
        refine hK.out _ _ (((Xa.out.cell 2).trans rfl)) (fun hHeld => ?_)
        clear hK K
        refine norm_ (a' := ?_) ?_ ?_
        rotate_left
        · show Act.put _ (some 71) _ = _
          simp only [Act.put, List.setIfInBounds_toArray, List.set_cons_zero, List.set_cons_succ, i64_w, i32_w]
          rfl
        refine one_ (i := 3) (N := some 72) (m_ 15 511) rfl rfl (by kernel_rfl) (by decide) (fun K hK => ?_)
        refine step_append_lies _ rfl (.tmp 69) (.tmp 71) 32 rfl w.heap.size 3 i0 (.int .i64 0) 1 8 Try.underlying32 hi hz0 hz1 hz2 rfl (by decide) (.slice Aa at_.length ca) at_.length (ints at_) (by rfl) Aa1.out ⟨wr.heap.size + 1, 0, none⟩ 1 1 [.int .i64 N] (by rfl) rfl (news_one _ _ _ _ (by simp)) (by simp [Value.oneCell']) (by decide) (by unfold maxLen; omega) (by omega) (by have := La.out.old.size; exact this) _ rfl ?_
        intro g1 c1 wb oA gA hat hlt1
        have Lb := Lib.hid (La.out.grown Aa1.out (Nat.le_refl _) (by decide) gA)
        have Ab := Lib.hid oA
        have Gb := Lib.hid (Ga1.out.kept gA hap'.out.symm)
        have Pb := Lib.hid (hap'.out.grow (a' := .slice (some ⟨g1, 0, none⟩) (at_.length + 1) c1) (hat.elim (fun e => .inl (by rw [e]; rfl)) (fun e => .inr (by rw [e]; rfl))) (fun j c => (Ga1.out.lt _ c).2))
        have Xb := Lib.hid (show Blk wb wr.heap.size 34 #[.int .i64 p0, .bool true, .int .i64 p2] from (gA.block _ Xa.out.lt (own_ne Aa1.out Xa.out (by decide))).trans Xa.out)
        have Kb := Lib.hid (show Blk wb w2.heap.size 42 #[.int .i64 r, .int .i64 bu, .int .i64 bu, .int .i64 0] from (gA.block _ Ka.out.lt (own_ne Aa1.out Ka.out (by decide))).trans Ka.out)
        clear oA gA hat hlt1
        refine hK.out _ _ (((Xb.out.cell 2).trans rfl)) (fun hHeld => ?_)
        clear hK K
        refine norm_ (a' := ?_) ?_ ?_
        rotate_left
        · show Act.put _ (some 72) _ = _
          simp only [Act.put, List.setIfInBounds_toArray, List.set_cons_zero, List.set_cons_succ, i64_w, i32_w]
          rfl
        refine one_ (i := 9) (N := some 78) (m_ 15 1023) rfl rfl (by kernel_rfl) (by decide) (fun K hK => ?_)
        refine goes_ Try.func12 (by kernel_rfl) rfl #[.pointer (some ⟨b, 0, none⟩), .int .i64 N, .int .i64 p2] (by rfl) rfl rfl (by simp only [List.map_toArray, List.map_cons, List.map_nil]; rfl) ?_
        with_reducible refine (live_take Lb.out N p2 hP1 hH2).mono ?_
        rintro e wt ⟨A2, c2, rfl, -, -, hL, hKp⟩
        have Lc := Lib.hid hL
        have Ac := Lib.hid (own_keep Ab.out hKp (by decide))
        have Gc := Lib.hid (own_keep Gb.out hKp (by decide))
        have Xc := Lib.hid (hKp _ _ _ Xb.out (by decide))
        have Kc := Lib.hid (hKp _ _ _ Kb.out (by decide))
        clear hL hKp
        refine ⟨_, rfl, ?_⟩
        refine hK.out _ _ (((Xc.out.cell 2).trans rfl)) (fun hHeld => ?_)
        clear hK K
        refine norm_ (a' := ?_) ?_ ?_
        rotate_left
        · show Act.put _ (some 78) _ = _
          simp only [Act.put, List.setIfInBounds_toArray, List.set_cons_zero, List.set_cons_succ, i64_w, i32_w]
          rfl
        refine pu_ 10 (some 79) (m_ 15 2047) rfl rfl (by kernel_rfl) (fun _ _ _ h => h) (by rfl) (by intro w'; go_simp; with_reducible rfl) (by simp only [Act.put, List.setIfInBounds_toArray, List.set_cons_zero, List.set_cons_succ, i64_w, i32_w]; rfl) ?_
        refine one_ (i := 11) (N := some 80) (m_ 15 4095) rfl rfl (by kernel_rfl) (by decide) (fun K hK => ?_)
        refine value_ (w1 := ?_) (v := ?_) (by rfl) rfl ?_ ?_
        rotate_left 2
        · go_simp
          constructor
          · rfl
          · rfl
        have Ld := Lib.hid (Lc.out.below ((Below.refl (wt).heap.size (wt)).alloc (Nat.le_refl _) (.cells #[.int .i64 ((takeB s N p2).size : Int)] 3)))
        have Ad := Lib.hid (Ac.out.alloc (.cells #[.int .i64 ((takeB s N p2).size : Int)] 3))
        have Gd := Lib.hid (Gc.out.alloc (.cells #[.int .i64 ((takeB s N p2).size : Int)] 3))
        have Xd := Lib.hid (Xc.out.below ((Below.refl (wt).heap.size (wt)).alloc (Nat.le_refl _) (.cells #[.int .i64 ((takeB s N p2).size : Int)] 3)))
        have Kd := Lib.hid (Kc.out.below ((Below.refl (wt).heap.size (wt)).alloc (Nat.le_refl _) (.cells #[.int .i64 ((takeB s N p2).size : Int)] 3)))
        refine hK.out _ _ (((Xd.out.cell 2).trans rfl)) (fun hHeld => ?_)
        clear hK K
        refine norm_ (a' := ?_) ?_ ?_
        rotate_left
        · show Act.put _ (some 80) _ = _
          simp only [Act.put, List.setIfInBounds_toArray, List.set_cons_zero, List.set_cons_succ, i64_w, i32_w]
          rfl
        refine one_ (i := 12) (N := some 81) (m_ 15 8191) rfl rfl (by kernel_rfl) (by decide) (fun K hK => ?_)
        refine step_append_lies _ rfl (.tmp 73) (.tmp 80) 32 rfl w.heap.size 3 i0 (.int .i64 0) 1 8 Try.underlying32 hi hz0 hz1 hz2 rfl (by decide) (.slice Ag got.length cg) got.length (ints got) (by rfl) Gd.out ⟨wt.heap.size, 0, none⟩ 1 1 [.int .i64 ((takeB s N p2).size : Int)] (by rfl) rfl (cell_one_new _ _ _) (by simp [Value.oneCell']) (by decide) (by unfold maxLen; omega) (by omega) (by have := Ld.out.old.size; exact this) _ rfl ?_
        intro g2 c3 we oG gG hat hlt2
        have Le := Lib.hid (Ld.out.grown Gd.out (Nat.le_refl _) (by decide) gG)
        have Ge := Lib.hid oG
        have Ae := Lib.hid (Ad.out.kept gG Pb.out)
        have Pe := Lib.hid ((Pb.out.symm.grow (a' := .slice (some ⟨g2, 0, none⟩) (got.length + 1) c3) (hat.elim (fun e => .inl (by rw [e]; rfl)) (fun e => .inr (by rw [e]; rfl))) (fun j c => (Ad.out.lt _ c).2)).symm)
        have Xe := Lib.hid (show Blk we wr.heap.size 34 #[.int .i64 p0, .bool true, .int .i64 p2] from (gG.block _ Xd.out.lt (own_ne Gd.out Xd.out (by decide))).trans Xd.out)
        have Ke := Lib.hid (show Blk we w2.heap.size 42 #[.int .i64 r, .int .i64 bu, .int .i64 bu, .int .i64 0] from (gG.block _ Kd.out.lt (own_ne Gd.out Kd.out (by decide))).trans Kd.out)
        clear oG gG hat hlt2
        refine hK.out _ _ (((Xe.out.cell 2).trans rfl)) (fun hHeld => ?_)
        clear hK K
        refine norm_ (a' := ?_) ?_ ?_
        rotate_left
        · show Act.put _ (some 81) _ = _
          simp only [Act.put, List.setIfInBounds_toArray, List.set_cons_zero, List.set_cons_succ, i64_w, i32_w]
          rfl
        refine pu_ 13 (some 12) (m_ 15 16383) rfl rfl (by kernel_rfl) (fun _ _ _ h => h) (by rfl) (by intro w'; go_simp; with_reducible rfl) (by simp only [Act.put, List.setIfInBounds_toArray, List.set_cons_zero, List.set_cons_succ, i64_w, i32_w]; rfl) ?_
        refine pu_ 14 (some 13) (m_ 15 32767) rfl rfl (by kernel_rfl) (fun _ _ _ h => h) (by rfl) (by intro w'; go_simp; with_reducible rfl) (by simp only [Act.put, List.setIfInBounds_toArray, List.set_cons_zero, List.set_cons_succ, i64_w, i32_w]; rfl) ?_
        refine done_ (by kernel_rfl) ?_
        have HI2 := Lib.hid (hI'.out.take rfl N (Int.le_trans hn0'.out HT.out.1) HT.out.1 HT.out.2.2 HT.out.2.1 p2)
        have HM2 := Lib.hid (show (takeS s N p2).passed + held (takeS s N p2) ≤ 200 * (k + 1 : Nat) by
          have h1 := held_take s N p2
          have h2 := hm'.out
          rw [passed_take]
          omega)
        have hg9 := Lib.hid (show ∀ x ∈ got ++ [((takeB s N p2).size : Int)], x ≤ 8000 by
          intro x hx
          rcases List.mem_append.1 hx with hx | hx
          · exact hg8'.out x hx
          · have h1 := held_take s N p2
            simp at hx
            omega)
        have hAe := Lib.hid (show we.ownsRow w.heap.size 3 1 (.slice (some ⟨g1, 0, none⟩) (at_.length + 1) c1) (at_ ++ [N]).length (ints (at_ ++ [N])) by simpa [ints] using Ae.out)
        have hGe := Lib.hid (show we.ownsRow w.heap.size 3 1 (.slice (some ⟨g2, 0, none⟩) (got.length + 1) c3) (got ++ [((takeB s N p2).size : Int)]).length (ints (got ++ [((takeB s N p2).size : Int)])) by simpa [ints] using Ge.out)
        clear hHeld hI' L0 A0 G0 X0 K0 La Aa1 Ga1 Xa Ka Lb Ab Gb Pb Xb Kb Lc Ac Gc Xc Kc Ld Ad Gd Xd Kd Ge Ae Xe
        generalize hsz : ((takeB s N p2).size : Int) = Z at *
        clear hsz
        go_wp2
        go_roundw
        case rel => exact ⟨k + 1, takeS s N p2, N, at_ ++ [N], got ++ [Z], by omega, by go_num, rfl, Le.out, HI2.out, hAe.out, hGe.out, Pe.out, Ke.out, Int.le_trans hn0'.out HT.out.1, HT.out.2.1, by simp; omega, HM2.out, hg9.out⟩
        case measure => simp [intOf]; omega
    · obtain rfl : k = l.length := by omega
      have hnl : ¬ (l.length < l.length) := by omega
      have hB5 := Lib.hid hL.old
      have hI' := Lib.hid hI
      have hOA' := Lib.hid hOA
      have hOG' := Lib.hid hOG
      have hKB' := Lib.hid hKB
      have hg8' := Lib.hid hg8
      have hn01 := Lib.hid (And.intro hn0 hn1)
      have hov := of_decide_eq_true hno2.out
      have br := hov.1
      have bb := hov.2.1
      have hl40 : at_.length ≤ 40 := by omega
      have hg40 : got.length = at_.length := hlen.symm
      clear hL hI hOA hOG hap hKB hm hA hg8 hlen hn0 hn1 hov
      generalize wr = W1 at *
      rw [hg40]
      go_wp2
      go_loopw [85] (fun iv wi => ∃ i : Nat, i ≤ at_.length ∧ iv = .int .i64 i ∧ Below W1.heap.size W1 wi) (fun iv _ => at_.length - (intOf iv).toNat)
      case atStart => exact ⟨0, by omega, rfl, Below.refl _ _⟩
      case round =>
        obtain ⟨i, hi2, rfl, hbi⟩ := hrel
        by_cases hil : i < at_.length
        · have hit : at_[i]? = some at_[i] := List.getElem?_eq_getElem hil
          generalize at_[i] = t at hit
          have hit' := Lib.hid hit
          clear hit
          obtain ⟨wi, rfl⟩ : ∃ wi : World, wi = wr := ⟨_, rfl⟩
          go_wp2
          go_loopw [17, 18] (fun sv kv wk => ∃ k : Nat, i ≤ k ∧ k ≤ at_.length ∧ kv = .int .i64 k ∧ sv = .int .i64 (total ((got.drop i).take (k - i))) ∧ Below W1.heap.size W1 wk) (fun _ kv _ => at_.length - (intOf kv).toNat)
          case atStart => exact ⟨i, Nat.le_refl _, by omega, rfl, by rw [Nat.sub_self]; rfl, hbi⟩
          case round =>
            obtain ⟨k, hik, hkn, rfl, rfl, hbk⟩ := hrel
            by_cases hkl : k < at_.length
            · have hku : at_[k]? = some at_[k] := List.getElem?_eq_getElem hkl
              have hkg : got[k]? = some (got[k]'(by omega)) := List.getElem?_eq_getElem (by omega)
              generalize at_[k] = u at hku
              generalize got[k]'(by omega) = g at hkg
              obtain ⟨ga, rfl, ck⟩ := own_at hOA'.out k u hku
              obtain ⟨ga', hse, ci⟩ := own_at hOA'.out i t hit'.out
              injection hse with hse
              injection hse with hse
              subst hse
              obtain ⟨gg, rfl, cg⟩ := own_at hOG'.out k g hkg
              have z4 := bcells hbk ck
              have z5 := bcells hbk ci
              have zg := bcells hbk cg
              have z0 : wr.cell? ⟨w2.heap.size, 0, none⟩ = some (.int .i64 r) := bcells hbk ((hKB'.out.cell 0).trans rfl)
              have z1 : wr.cell? ⟨w2.heap.size, 1, none⟩ = some (.int .i64 bu) := bcells hbk ((hKB'.out.cell 1).trans rfl)
              have z2 : wr.cell? ⟨w2.heap.size, 2, none⟩ = some (.int .i64 bu) := bcells hbk ((hKB'.out.cell 2).trans rfl)
              have z3 : wr.cell? ⟨w2.heap.size, 3, none⟩ = some (.int .i64 0) := bcells hbk ((hKB'.out.cell 3).trans rfl)
              have hw1 := hI'.out.w.win i k t u hit'.out hku hik
              have ht := hI'.out.w.ticks t (List.mem_of_getElem? hit'.out)
              have hu := hI'.out.w.ticks u (List.mem_of_getElem? hku)
              have hgb := hg8'.out g (List.mem_of_getElem? hkg)
              have hg0 := hI'.out.w.bd g (List.mem_of_getElem? hkg)
              have hS := total_nonneg (l := (got.drop i).take (k - i)) fun x hx => hI'.out.w.bd x (List.mem_of_mem_drop (List.mem_of_mem_take hx))
              have hS2 := total_le (M := 8000) (by decide) (l := (got.drop i).take (k - i)) fun x hx => hg8'.out x (List.mem_of_mem_drop (List.mem_of_mem_take hx))
              have hS3 : ((got.drop i).take (k - i)).length ≤ 40 := by simp; omega
              have hnx := total_next hik hkg
              obtain ⟨n0, n1⟩ := hn01.out
              have hcl := cap_le (r := r) (b := bu) (d := u - t) br bb ⟨by omega, by omega⟩ hw1.2
              rw [hnx] at hcl
              have hlast := Lib.hid hnx
              have hS4 : total ((got.drop i).take (k - i)) ≤ 320000 := by omega
              generalize total ((got.drop i).take (k - i)) = Sm at *
              have hcc : Stage.cap (Sm + g) = Sm + g := by unfold Stage.cap; rw [if_neg (by omega)]
              have hmN := Lib.hid (show Bucket.mostN r bu bu 0 (u - t) = Tick.add bu (mul r (u - t)) from if_pos hno2.out)
              have hdec : decide (Tick.add bu (mul r (u - t)) < Sm + g) = false := decide_eq_false (by omega)
              have hbk' := Lib.hid hbk
              have hkg2 : k < got.length := by omega
              have hs1 := wr_sub t u ht.1 hw1.1 (by omega)
              clear ck ci cg hku hkg hw1 hnx hcl hS2 hS3 hcc ht hu hbk
              go_wp2
              refine start_ (n := 13) (S := fun w' => w'.cell? ⟨w2.heap.size, 0, none⟩ = some (.int .i64 r) ∧ w'.cell? ⟨w2.heap.size, 1, none⟩ = some (.int .i64 bu) ∧ w'.cell? ⟨w2.heap.size, 2, none⟩ = some (.int .i64 bu) ∧ w'.cell? ⟨w2.heap.size, 3, none⟩ = some (.int .i64 0) ∧ w'.cell? ⟨ga, k, none⟩ = some (.int .i64 u) ∧ w'.cell? ⟨ga, i, none⟩ = some (.int .i64 t)) (ds := []) (m_ 13 0) (by kernel_rfl) rfl (by kernel_rfl) ⟨z0, z1, z2, z3, z4, z5⟩ (fun hHeld => ?_)
              refine pu_ 0 (some 101) (m_ 13 1) rfl rfl (by kernel_rfl) (fun _ _ _ h => h) (by rfl) (by intro w'; go_simp; with_reducible rfl) (by simp only [Act.put, List.setIfInBounds_toArray, List.set_cons_zero, List.set_cons_succ, i64_w, i32_w]; rfl) ?_
              refine pu_ 2 (some 103) (m_ 13 5) rfl rfl (by kernel_rfl) (fun _ _ _ h => h) (by rfl) (by intro w'; go_simp; with_reducible rfl) (by simp only [Act.put, List.setIfInBounds_toArray, List.set_cons_zero, List.set_cons_succ, i64_w, i32_w]; rfl) ?_
              refine pu_ 3 (some 104) (m_ 13 13) rfl rfl (by kernel_rfl) (fun _ _ _ h => h) (by rfl) (by intro w'; go_simp; with_reducible rfl) (by simp only [Act.put, List.setIfInBounds_toArray, List.set_cons_zero, List.set_cons_succ, i64_w, i32_w]; rfl) ?_
              refine pu_ 4 (some 105) (m_ 13 29) rfl rfl (by kernel_rfl) (fun _ _ _ h => h) (by rfl) (by intro w'; go_simp; with_reducible rfl) (by simp only [Act.put, List.setIfInBounds_toArray, List.set_cons_zero, List.set_cons_succ, i64_w, i32_w]; rfl) ?_
              refine pu_ 6 (some 107) (m_ 13 93) rfl rfl (by kernel_rfl) (fun _ _ _ h => h) (by rfl) (by intro w'; go_simp; with_reducible rfl) (by simp only [Act.put, List.setIfInBounds_toArray, List.set_cons_zero, List.set_cons_succ, i64_w, i32_w]; rfl) ?_
              refine pu_ 7 (some 108) (m_ 13 221) rfl rfl (by kernel_rfl) (fun _ _ _ h => h) (by rfl) (by intro w'; go_simp; with_reducible rfl) (by simp only [Act.put, List.setIfInBounds_toArray, List.set_cons_zero, List.set_cons_succ, i64_w, i32_w]; rfl) ?_
              refine pu_ 8 (some 109) (m_ 13 477) rfl rfl (by kernel_rfl) (fun _ _ _ h => h) (by rfl) (by intro w'; go_simp; with_reducible rfl) (by simp only [Act.put, List.setIfInBounds_toArray, List.set_cons_zero, List.set_cons_succ, i64_w, i32_w]; rfl) ?_
              refine tk_ 1 (some 102) (m_ 13 479) rfl rfl (by kernel_rfl) (fun _ _ _ h => h) (by rfl) (by rintro w' ⟨s0, s1, s2, s3, s4, s5⟩; go_simp; with_reducible rfl) hHeld (by simp only [Act.put, List.setIfInBounds_toArray, List.set_cons_zero, List.set_cons_succ, i64_w, i32_w]; rfl) ?_
              refine tk_ 5 (some 106) (m_ 13 511) rfl rfl (by kernel_rfl) (fun _ _ _ h => h) (by rfl) (by rintro w' ⟨s0, s1, s2, s3, s4, s5⟩; go_simp; with_reducible rfl) hHeld (by simp only [Act.put, List.setIfInBounds_toArray, List.set_cons_zero, List.set_cons_succ, i64_w, i32_w]; rfl) ?_
              refine tk_ 9 (some 110) (m_ 13 1023) rfl rfl (by kernel_rfl) (fun _ _ _ h => h) (by rfl) (by rintro w' ⟨s0, s1, s2, s3, s4, s5⟩; go_simp; with_reducible rfl) hHeld (by simp only [Act.put, List.setIfInBounds_toArray, List.set_cons_zero, List.set_cons_succ, i64_w, i32_w]; rfl) ?_
              refine pu_ 10 (some 111) (m_ 13 2047) rfl rfl (by kernel_rfl) (fun _ _ _ h => h) (by rfl) (by intro w'; go_simp; with_reducible rfl) (by simp only [Act.put, List.setIfInBounds_toArray, List.set_cons_zero, List.set_cons_succ, i64_w, i32_w]; rfl) ?_
              refine one_ (i := 11) (N := some 112) (m_ 13 4095) rfl rfl (by kernel_rfl) (by decide) (fun K hK => ?_)
              refine goes_ Try.func15 (by kernel_rfl) rfl #[.agg #[.int .i64 r, .int .i64 bu, .int .i64 bu, .int .i64 0], .int .i64 (u - t)] (by rfl) rfl rfl (by simp only [List.map_toArray, List.map_cons, List.map_nil]; rfl) ?_
              with_reducible refine (Ref08.most_any r bu bu 0 (u - t) _).mono ?_
              rintro e wm ⟨rfl, hB⟩
              have hBm := below_drew hB
              have m0 := bcells hBm z0
              have m1 := bcells hBm z1
              have m2 := bcells hBm z2
              have m3 := bcells hBm z3
              have m4 := bcells hBm z4
              have m5 := bcells hBm z5
              have HBm := Lib.hid (bw_below hbk'.out hBm)
              clear hB hBm
              rw [hmN.out]
              refine ⟨_, rfl, ?_⟩
              refine hK.out _ _ ⟨m0, m1, m2, m3, m4, m5⟩ (fun hHeld => ?_)
              clear hK K
              refine norm_ (a' := ?_) ?_ ?_
              rotate_left
              · show Act.put _ (some 112) _ = _
                simp only [Act.put, List.setIfInBounds_toArray, List.set_cons_zero, List.set_cons_succ, i64_w, i32_w]
                rfl
              refine pu_ 12 (some 113) (m_ 13 8191) rfl rfl (by kernel_rfl) (fun _ _ _ h => h) (by rfl) (by intro w'; go_simp; with_reducible rfl) (by simp only [Act.put, List.setIfInBounds_toArray, List.set_cons_zero, List.set_cons_succ, i64_w, i32_w]; rfl) ?_
              refine done_ (by kernel_rfl) ?_
              clear hs1 hHeld z0 z1 z2 z3 z4 z5 m0 m1 m2 m3 m4 m5
              go_wp2
              go_roundw
              case rel => exact ⟨k + 1, by omega, by omega, by go_num, by rw [hlast.out], HBm.out⟩
              case measure => simp [intOf]; omega
            · obtain rfl : k = at_.length := by omega
              have hnl2 : ¬ (at_.length < at_.length) := by omega
              go_wp2
              go_roundw
              case rel => exact ⟨i + 1, by omega, by go_num, hbk⟩
              case measure => simp [intOf]; omega
        · obtain rfl : i = at_.length := by omega
          have hnl2 : ¬ (at_.length < at_.length) := by omega
          have hB6 := Lib.hid (bw_below hB5.out hbi)
          go_wp2_with (go_at_call 9; (with_reducible refine (alive_any _).mono ?_); rintro e w3 ⟨rfl, hB3⟩; have hB3' := Lib.hid hB3; clear hB3)
          go_ret
          exact ⟨rfl, bw_below hB6.out hB3'.out⟩
theorem windows_row (r bu : Int) (v : Value) (l : List Pt) (w : World) (hv : Puts w v l) :
    Calls Try.prog 4 #[.int .i64 r, .int .i64 bu, v] w fun e w' => e = .returned (.bool true) ∧ Below w.heap.size w w' := by
  by_cases he : newE ⟨⟨#[97]⟩, 2, false, 1, r, bu⟩ 4096 = 0
  · by_cases hl : l.length ≤ 40
    · exact windows_yes r bu v l w hv he hl
    · exact windows_long r bu v l w hv he (by omega)
  · exact windows_none r bu v l w hv he
end Go.Proofs.Ytehpliclknfmoaa.Stage
