/- Cargo (chapter 07): List and Copy. Conditions: the bytes are fewer than 2^46. -/
import Derived.Test.YtnkgjnmhiedfoaaGreatK14
import Derived.WalkSpells
import Derived.Test.YtnkgjnmhiedfoaaGreatK4
import Derived.Laws.AppendOwn
namespace Go.Proofs.YtnkgjnmhiedfoaaGreat.Cargo
open Go.RowKit Mem Tick
open Go.Proofs.YtnkgjnmhiedfoaaGreatW.PrintWords (QRow q_slice q_cells q_max q_append q_drop q_move q_typed q_lt q_of_own add_at)
set_option maxRecDepth 100000
set_option linter.unusedVariables false
set_option linter.unusedSimpArgs false
def hurF (at_ : Int) (acc : List Pc) (p : Pc) : List Pc := addP acc (min p.1 at_) p.2
def hur (at_ : Int) (ps : List Pc) : List Pc := ps.foldl (hurF at_) []
theorem dcells {F : Nat → Prop} {w w' : World} (hd : Did F w w') {g o : Nat} {v : Value} (h : w.cell? ⟨g, o, none⟩ = some v) (hg : ¬ F g) : w'.cell? ⟨g, o, none⟩ = some v :=
  (World.cell?_of_block (a := ⟨g, o, none⟩) (hd.block g (World.block_lt_of_cell? w _ h) hg)).trans h
end Go.Proofs.YtnkgjnmhiedfoaaGreat.Cargo
namespace Go.Proofs.YtnkgjnmhiedfoaaGreat.Cargo
open Go.RowKit Mem Tick
open Go.Proofs.YtnkgjnmhiedfoaaGreatW.PrintWords (QRow q_slice q_cells q_max q_append q_drop q_move q_typed q_lt q_of_own add_at cut_from)
set_option maxRecDepth 100000
set_option linter.unusedVariables false
set_option linter.unusedSimpArgs false
def takeP : Nat → List Pc → ByteArray × List Pc
  | _, [] => (⟨#[]⟩, [])
  | n, p :: r => if n = 0 then (⟨#[]⟩, p :: r) else if n < p.2.size then (p.2.extract 0 n, (p.1, p.2.extract n p.2.size) :: r) else (p.2 ++ (takeP (n - p.2.size) r).1, (takeP (n - p.2.size) r).2)
theorem takeP_zero (ps : List Pc) : takeP 0 ps = (⟨#[]⟩, ps) := by cases ps <;> simp [takeP]
def Full (ps : List Pc) : Prop := ∀ p ∈ ps, 0 < p.2.size
def takeN (now most : Int) (ps : List Pc) : Nat := (min (rdy now ps : Int) (max most 0)).toNat
theorem takeN_le (now most : Int) (ps : List Pc) : takeN now most ps ≤ tot ps := by
  have := rdy_le now ps
  unfold takeN
  omega
theorem takeN_eq (now most : Int) (ps : List Pc) : min (rdy now ps : Int) (max most 0) = (takeN now most ps : Int) := by
  unfold takeN
  omega
theorem own_set {w : World} {B e n : Nat} {v : Value} {xs : List Value} (h : w.ownsRow B e 1 v n xs) {a : Addr} (ha : a.block < B) (u : Value) : (w.setCell a u).ownsRow B e 1 v n xs := ownsRow_setCell_below h ha u
theorem far_ {w w1 : World} {row : Option Nat} (hG : w.grownBy w1 row) {k o : Nat} {v : Value} (h : w.cell? ⟨k, o, none⟩ = some v) (hne : some k ≠ row) : w1.cell? ⟨k, o, none⟩ = some v :=
  (World.cell?_of_block (a := ⟨k, o, none⟩) (hG.block k (World.block_lt_of_cell? w _ h) hne)).trans h
theorem farf_ {w w1 : World} {row : Option Nat} (hG : w.grownBy w1 row) {k o : Nat} {b : Bool} (hk : k < w.heap.size) (h : w.frozen? ⟨k, o, none⟩ = b) (hne : some k ≠ row) : w1.frozen? ⟨k, o, none⟩ = b :=
  (World.frozen?_of_block (a := ⟨k, o, none⟩) (hG.block k hk hne)).trans h
theorem _root_.Go.Proofs.YtnkgjnmhiedfoaaGreat.Mem.Did.grown {F : Nat → Prop} {a w w1 : World} {row : Option Nat} (h : Did F a w) (hG : w.grownBy w1 row) (hr : ∀ k, row = some k → F k ∨ a.heap.size ≤ k) : Did F a w1 :=
  ⟨hG.os.trans h.os, hG.tape.trans h.tape, hG.output.trans h.output, Nat.le_trans h.size hG.size, fun k hk hn => (hG.block k (Nat.lt_of_lt_of_le hk h.size) fun e => (hr k e.symm).elim hn (fun d => by omega)).trans (h.block k hk hn)⟩
def cutA (A : Option Addr) (cap : Nat) : Option Addr := if cap = 1 then A else A.map (·.add 2)
theorem cutA_block {A : Option Addr} {cap n c n' c' : Nat} : (Value.slice (cutA A cap) n c).ownBlock = (Value.slice A n' c').ownBlock := by
  unfold cutA
  split
  · cases A <;> rfl
  · cases A with
    | none => rfl
    | some a =>
      obtain ⟨g, o, sp⟩ := a
      simp only [Option.map_some, Value.ownBlock, Addr.add]
      split <;> rfl
theorem CG.cut_ {w : World} {F : Nat → Prop} {b : Nat} {p : Pc} {r : List Pc} {last : Int} {A : Option Addr} {n cap : Nat} (h : CG w F b (p :: r) last) (h0 : w.cell? ⟨b, 0, none⟩ = some (.slice A n cap)) : CG (w.setCell ⟨b, 0, none⟩ (.slice (cutA A cap) r.length (cap - 1))) F b r last := by
  obtain ⟨v, hb, hq, hf⟩ := h
  have := hb.cell 0
  rw [h0] at this
  simp at this
  subst this
  obtain ⟨_, _, he, _⟩ := q_slice hq
  injection he with _ hn _
  subst hn
  have hbk : ∀ k, (Value.slice A (p :: r).length cap).ownBlock = some k → k ≠ b := fun k hk => by
    obtain ⟨_, cs, hc⟩ := q_typed hq k hk
    exact Blk.ne (t := 146) (t' := 144) hc hb (by decide)
  refine ⟨_, hb.set_ 0 _, ?_, fun k => by rw [hf k, cutA_block (n' := (p :: r).length) (c' := cap)]⟩
  have hd := q_drop (k := 1) hq (by simp)
  have hm := q_move (w1 := w.setCell ⟨b, 0, none⟩ (.slice (cutA A cap) r.length (cap - 1))) hd fun k hk => Below.heap_setCell _ _ _ k (hbk k (by
    rw [← hk]
    exact (cutA_block (A := A) (cap := cap) (n := (p :: r).length - 1) (c := cap - 1)).symm))
  exact hm
theorem take_far {w : World} {F : Nat → Prop} {b : Nat} {ps : List Pc} {last : Int} (now most : Int) (h : CG w F b ps last) (hf : Full ps) (ht : tot ps ≤ 70368744177664) :
    Calls Tryz.prog 107 #[.pointer (some ⟨b, 0, none⟩), .int .i64 now, .int .i64 most] w fun e w' =>
      ∃ A cap, e = .returned (.slice A (takeP (takeN now most ps) ps).1.size cap) ∧ BS w' A (takeP (takeN now most ps) ps).1 ∧ CG w' F b (takeP (takeN now most ps) ps).2 last ∧ Did F w w' ∧ (∀ g, (∃ o, A = some ⟨g, o, none⟩) → w.heap.size ≤ g) := by
  have H := Lib.hid h
  have hF := Lib.hid hf
  have hlt := h.lt h.mine
  clear h hf
  obtain ⟨i0, hi, hz0, hz1, hz2⟩ := info_parts info_byte
  have hN := Lib.hid (takeN_eq now most ps)
  have hNl := takeN_le now most ps
  go_enter Tryz.func107, Tryz.ntmps107
  go_wp2_with fail
  refine (ready_any now H.out (by omega)).mono ?_
  rintro e w0 ⟨rfl, hb0⟩
  have hb0' := Lib.hid hb0
  clear hb0
  go_wp2
  rw [hN.out]
  generalize hn0 : takeN now most ps = n0 at *
  have hn0' := Lib.hid hn0
  clear hn0 hN
  generalize hR : takeP n0 ps = R at *
  have hR' := Lib.hid hR
  clear hR
  have hC0 := Lib.hid (show CG w0 F b ps last ∧ Did F w w0 ∧ w.heap.size ≤ w0.heap.size from ⟨H.out.below hb0'.out, Did.of_below hb0'.out, hb0'.out.size⟩)
  go_loopw [7, 8] (fun nv ov wr => ∃ (m : Nat) (o : ByteArray) (qs : List Pc), nv = .int .i64 m ∧ wr.ownsRow w.heap.size 5 1 ov o.size (Lib.strCells o) ∧ CG wr F b qs last ∧ Did F w wr ∧ Full qs ∧ m ≤ tot qs ∧ o.size + tot qs = tot ps ∧ o ++ (takeP m qs).1 = R.1 ∧ (takeP m qs).2 = R.2) (fun nv _ _ => (intOf nv).toNat)
  case atStart => exact ⟨n0, ⟨#[]⟩, ps, rfl, World.ownsRow_nil _ _ _ _, hC0.out.1, hC0.out.2.1, hF.out, by omega, by show 0 + tot ps = tot ps; omega, by rw [hR'.out]; exact ByteArray.empty_append (b := R.1), by rw [hR'.out]⟩
  case round =>
    obtain ⟨m, o, qs, rfl, hO, hC, hD, hFu, hm, hto, hr1, hr2⟩ := hrel
    clear hC0 hb0'
    by_cases h0 : 0 < m
    · cases qs with
      | nil => simp [tot] at hm; omega
      | cons p r =>
        have hfp := hFu p (List.mem_cons_self ..)
        have hV := hC.view
        obtain ⟨A, cap, hb, hlc, hmx, hA⟩ := hV
        obtain ⟨g, oo, rfl, hc⟩ := hA (by simp)
        obtain ⟨d0, d1⟩ := hc 0 p rfl
        rw [Nat.zero_mul, Nat.add_zero] at d0 d1
        have c0 := hb.cell 0
        have f0 := hb.free 0
        simp at c0
        have hrow := hC.row c0
        have hrow' := Lib.hid hrow
        have hfr : ∀ i, wr.frozen? ⟨g, i, none⟩ = false := hrow.2.2.2.1
        have f1 := hfr (oo + 1)
        have hgb := hrow.2.1
        have hH := Lib.hid (show CG wr F b (p :: r) last ∧ Did F w wr ∧ Full (p :: r) ∧ o ++ (takeP m (p :: r)).1 = R.1 ∧ (takeP m (p :: r)).2 = R.2 ∧ wr.ownsRow w.heap.size 5 1 u8 o.size (Lib.strCells o) from ⟨hC, hD, hFu, hr1, hr2, hO⟩)
        clear hA hc hfr hrow hb hC hD hFu hr1 hr2
        simp only [tot] at hm hto
        have hgF : F g := hrow'.out.1
        have hgl : g < w.heap.size := H.out.lt hgF
        have hne1 : some g ≠ u8.ownBlock := fun e => by have := own_ge hO g e.symm; omega
        have hne2 : some b ≠ u8.ownBlock := fun e => by have := own_ge hO b e.symm; omega
        have hwr : w.heap.size ≤ wr.heap.size := hH.out.2.1.size
        by_cases hlt2 : m < p.2.size
        · have hmin : min (m : Int) (p.2.size : Int) = m := by omega
          have hz1' : (p.2.extract 0 m).size = m := by rw [ByteArray.size_extract]; omega
          have hz2' : (p.2.extract m p.2.size).size = p.2.size - m := by rw [ByteArray.size_extract]; omega
          have hem : (p.2.extract m p.2.size).toList.isEmpty = false := isEmpty_false (by omega)
          have hZ := Lib.hid hz1'
          have hZ2 := Lib.hid hz2'
          clear hz1' hz2'
          go_wp2_with (at_builtin; refine Lib.wpList_append_own_string _ rfl (.tmp 31) (.tmp 37) 62 9 rfl w.heap.size 5 i0 Tryz.underlying62 Tryz.underlying9 hi hz0 hz1 hz2 _ _ _ rfl hO _ rfl (by unfold maxLen; rw [hZ.out]; omega) (by rw [hZ.out]; omega) hwr ?_; intro v' w1 hO' hG _; have hG' := Lib.hid (show wr.grownBy w1 u8.ownBlock from hG); clear hG; have d0' := far_ hG'.out d0 hne1; have d1' := far_ hG'.out d1 hne1; have c0' := far_ hG'.out c0 hne2; have f0' := farf_ hG'.out (by omega) f0 hne2; have f1' := farf_ hG'.out (by omega) f1 hne1)
          have hO2 := Lib.hid hO'
          clear hO'
          go_roundw
          case rel =>
            refine ⟨0, o ++ p.2.extract 0 m, (p.1, p.2.extract m p.2.size) :: r, by simp, ?_, ?_, ?_, ?_, by omega, ?_, ?_, ?_⟩
            · rw [ByteArray.size_append, str_append]
              exact own_set hO2.out hgl _
            · exact (hH.out.1.kept fun k hk => hG'.out.block k (hH.out.1.lt hk) fun e => by have := own_ge hO k e.symm; have := H.out.lt hk; omega).put_ (j := 1) c0' (by simp; omega) rfl rfl
            · exact (hH.out.2.1.grown hG'.out fun k hk => .inr (own_ge hO k hk)).setCell (.inl hgF) _
            · intro q hq
              rcases List.mem_cons.1 hq with rfl | hq
              · show 0 < (p.2.extract m p.2.size).size
                rw [hZ2.out]; omega
              · exact hH.out.2.2.1 q (List.mem_cons_of_mem _ hq)
            · simp only [tot]
              rw [ByteArray.size_append, hZ.out, hZ2.out]; omega
            · have := hH.out.2.2.2.1
              simp only [takeP, if_neg (show ¬ m = 0 by omega), if_pos hlt2] at this
              rw [takeP_zero, ← this]
              exact ByteArray.append_empty
            · have := hH.out.2.2.2.2.1
              simp only [takeP, if_neg (show ¬ m = 0 by omega), if_pos hlt2] at this
              rw [takeP_zero, ← this]
          case measure => simp [intOf]; omega
        · have hmin : min (m : Int) (p.2.size : Int) = p.2.size := by omega
          have hz1' : (p.2.extract 0 p.2.size) = p.2 := ByteArray.extract_zero_size
          have hz2' : (p.2.extract p.2.size p.2.size).size = 0 := by rw [ByteArray.size_extract]; omega
          have hem : (p.2.extract p.2.size p.2.size).toList.isEmpty = true := by rw [isEmpty_size, hz2']; rfl
          have hZ := Lib.hid hz1'
          clear hz1' hz2'
          obtain ⟨A', hA'⟩ : ∃ A', cutA (some ⟨g, oo, none⟩) cap = A' := ⟨_, rfl⟩
          obtain ⟨i1, hi1, _, hs1, _⟩ := info_parts info_piece
          have hcut : ∀ W : World, (Instr.slice 142 (.slice (some ⟨g, oo, none⟩) (r.length + 1) cap) (some (.int .i64 1)) none none).run Tryz.prog W = .ok (.slice A' r.length (cap - 1)) W := by
            intro W
            have := cut_from (P := Tryz.prog) 142 146 .i64 Tryz.underlying142 hi1 2 hs1 (some ⟨g, oo, none⟩) (r.length + 1) cap 1 (by omega) (by omega) W
            rw [this, ← hA']
            rfl
          have hA2 := Lib.hid hA'
          clear hA' hi1 hs1
          go_wp2_with (at_builtin; refine Lib.wpList_append_own_string _ rfl (.tmp 31) (.tmp 37) 62 9 rfl w.heap.size 5 i0 Tryz.underlying62 Tryz.underlying9 hi hz0 hz1 hz2 _ _ _ rfl hO p.2 (by first | rfl | exact congrArg Value.string hZ.out) (by unfold maxLen; omega) (by omega) hwr ?_; intro v' w1 hO' hG _; have hG' := Lib.hid (show wr.grownBy w1 u8.ownBlock from hG); clear hG; have d0' := far_ hG'.out d0 hne1; have d1' := far_ hG'.out d1 hne1; have c0' := far_ hG'.out c0 hne2; have f0' := farf_ hG'.out (by omega) f0 hne2; have f1' := farf_ hG'.out (by omega) f1 hne1)
          have hO2 := Lib.hid hO'
          clear hO'
          go_roundw
          case rel =>
            refine ⟨m - p.2.size, o ++ p.2, r, by go_num, ?_, ?_, ?_, ?_, by omega, ?_, ?_, ?_⟩
            · rw [ByteArray.size_append, str_append]
              exact own_set (own_set hO2.out hgl _) hlt _
            · have h1 := (hH.out.1.kept fun k hk => hG'.out.block k (hH.out.1.lt hk) fun e => by have := own_ge hO k e.symm; have := H.out.lt hk; omega).put_ (j := 1) (u := .string ByteArray.empty) (qs := (p.1, ByteArray.empty) :: r) c0' (by simp; omega) rfl rfl
              have h2 := h1.cut_ (A := some ⟨g, oo, none⟩) (n := r.length + 1) (cap := cap) ((World.cell?_setCell_other _ _ _ _ (by simp [Ne.symm hgb])).trans c0')
              rw [hA2.out] at h2
              exact h2
            · exact ((hH.out.2.1.grown hG'.out fun k hk => .inr (own_ge hO k hk)).setCell (.inl hgF) _).setCell (.inl H.out.mine) _
            · exact fun q hq => hH.out.2.2.1 q (List.mem_cons_of_mem _ hq)
            · rw [ByteArray.size_append]; omega
            · have := hH.out.2.2.2.1
              simp only [takeP, if_neg (show ¬ m = 0 by omega), if_neg hlt2] at this
              rw [← this, ByteArray.append_assoc]
            · have := hH.out.2.2.2.2.1
              simp only [takeP, if_neg (show ¬ m = 0 by omega), if_neg hlt2] at this
              exact this
          case measure => simp [intOf]; omega
    · have hm0 : m = 0 := by omega
      subst hm0
      rw [takeP_zero] at hr1 hr2
      have hO2 := Lib.hid hO
      have hH := Lib.hid (show CG wr F b qs last ∧ Did F w wr from ⟨hC, hD⟩)
      have hr1' := Lib.hid hr1
      have hr2' := Lib.hid hr2
      clear hO hC hD hFu hr1 hr2
      go_wp2
      go_ret
      have e1 : o = R.1 := by rw [← hr1'.out]; exact ByteArray.append_empty.symm
      have e2 : qs = R.2 := hr2'.out
      rw [hn0'.out, hR'.out, ← e1, ← e2]
      obtain ⟨A', cap', rfl, hS, _, hge⟩ := bs_of_owns hO2.out
      exact ⟨A', ⟨cap', rfl⟩, hS, hH.out.1, hH.out.2, fun g o e => hge g ⟨o, e⟩⟩
end Go.Proofs.YtnkgjnmhiedfoaaGreat.Cargo
namespace Go.Proofs.YtnkgjnmhiedfoaaGreat.Cargo
open Go.RowKit Mem Tick
open Go.Proofs.YtnkgjnmhiedfoaaGreatW.PrintWords (QRow q_slice q_cells q_max q_append q_drop q_move q_typed q_lt q_of_own add_at cut_from)
open Go.Proofs.YtnkgjnmhiedfoaaGreatW.PrintLast
set_option maxRecDepth 100000
set_option linter.unusedVariables false
set_option linter.unusedSimpArgs false
theorem conv_str (s : ByteArray) (W : World) : (convert 9 62 (.string s)).run Tryz.prog W = .ok (.slice (some ⟨W.heap.size, 0, none⟩) s.size (grownCap W s.size 0 5)) (Lib.bytesWorld W 5 s) :=
  Lib.run_convert_string_bytes W _ _ _ s Tryz.underlying9 Tryz.underlying62 Tryz.underlying5
abbrev St := List Pc × Int
def doesP (k at_ n : Int) (s : ByteArray) (x : St) : (Int × ByteArray) × St :=
  if k = 0 then ((putAt x.2 at_, ⟨#[]⟩), (addP x.1 (putAt x.2 at_) s, putLast x.2 at_ s))
  else if k = 1 then ((0, (takeP (takeN at_ n x.1) x.1).1), ((takeP (takeN at_ n x.1) x.1).2, x.2))
  else if k = 2 then ((0, ⟨#[]⟩), (hur (add at_ 0) x.1, min x.2 (add at_ 0)))
  else if k = 3 then ((0, cat x.1), ([], x.2))
  else ((0, ⟨#[]⟩), x)
end Go.Proofs.YtnkgjnmhiedfoaaGreat.Cargo
namespace Go.Proofs.YtnkgjnmhiedfoaaGreat.Cargo
open Go.RowKit Mem Tick
set_option maxRecDepth 100000
set_option linter.unusedVariables false
set_option linter.unusedSimpArgs false
abbrev Op4 := Int × Int × Int × ByteArray
end Go.Proofs.YtnkgjnmhiedfoaaGreat.Cargo
