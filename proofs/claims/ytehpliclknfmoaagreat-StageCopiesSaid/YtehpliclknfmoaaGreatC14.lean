/- Cargo (chapter 07): Put. Conditions: the bytes are fewer than 2^46. -/
import Derived.Test.YtehpliclknfmoaaGreatC13
import Derived.Laws.Cover2
import Derived.Lib.AppendStr
namespace Go.Proofs.YtehpliclknfmoaaGreat.Cargo
open Go.RowKit Mem Tick
open Go.Proofs.YtehpliclknfmoaaGreatW.PrintWords (QRow q_slice q_cells q_max q_append q_drop q_move q_typed q_lt q_of_own add_at)
set_option maxRecDepth 100000
set_option linter.unusedVariables false
set_option linter.unusedSimpArgs false

theorem CG.last_ {w : World} {F : Nat → Prop} {b : Nat} {ps : List Pc} {last : Int} (h : CG w F b ps last) (x : Int) : CG (w.setCell ⟨b, 1, none⟩ (.int .i64 x)) F b ps x := by
  obtain ⟨v, hb, hq, hf⟩ := h
  refine ⟨v, hb.set_ 1 _, q_move hq fun k hk => Below.heap_setCell _ _ _ k ?_, hf⟩
  obtain ⟨_, cs, hc⟩ := q_typed hq k hk
  exact Blk.ne (t := 100) (t' := 83) hc hb (by decide)
theorem CG.drewN {w : World} {F : Nat → Prop} {b : Nat} {ps : List Pc} {last : Int} (h : CG w F b ps last) (n : Nat) : CG (w.drewN n) F b ps last := h.kept fun _ _ => rfl
theorem CG.noBytes {w : World} {F : Nat → Prop} {b : Nat} {ps : List Pc} {last : Int} (h : CG w F b ps last) {o : Nat} {n : Int} : w.cell? ⟨b, o, none⟩ ≠ some (.int .u8 n) := by
  intro hx
  obtain ⟨A, c, hb, _⟩ := h.view
  rw [hb.cell o] at hx
  match o, hx with
  | 0, hx => simp at hx
  | 1, hx => simp at hx
  | o + 2, hx => simp at hx
def putAt (last at_ : Int) : Int := max (add at_ 0) last
def putLast (last at_ : Int) (s : ByteArray) : Int := if s.toList.isEmpty then last else putAt last at_
theorem put_some {w : World} {F : Nat → Prop} {b : Nat} {ps : List Pc} {last : Int} (at_ : Int) (A : Option Addr) (cap : Nat) (s : ByteArray) (h : CG w F b ps last) (hb : BS w A s) (hs : 0 < s.size) (ht : tot ps + s.size ≤ 4611686018427387904) (hn : ps.length ≤ 2000000000000) :
    Calls Tryz.prog 59 #[.pointer (some ⟨b, 0, none⟩), .int .i64 at_, .slice A s.size cap] w fun e w' => e = .returned (.int .i64 (putAt last at_)) ∧ ∃ F', CG w' F' b (addP ps (putAt last at_) s) (putAt last at_) ∧ Did F w w' ∧ Stem F F' w := by
  have H := Lib.hid h
  obtain ⟨A', cap', hb', hlc, hm, hA⟩ := h.view
  have c0 := hb'.cell 0
  have c1 := hb'.cell 1
  have f1 := hb'.free 1
  have hlt := hb'.lt
  simp at c0 c1
  have hcv : ∀ nq x, (convert 67 9 (.slice A s.size cap)).run Tryz.prog ((w.drewN nq).setCell ⟨b, 1, none⟩ x) = .ok (.string s) ((w.drewN nq).setCell ⟨b, 1, none⟩ x) := by
    intro nq x
    refine conv_bytes cap (hb.kept fun g ⟨o, hg⟩ hlt => Below.heap_setCell _ _ _ g ?_)
    rintro rfl
    obtain ⟨g, o', e, hc⟩ := hb hs
    rw [hg] at e
    injection e with e
    injection e with e1 e2
    subst e1 e2
    exact h.noBytes (hc 0 hs)
  clear h hA hb'
  have hb'' := Lib.hid hb
  clear hb
  go_enter Tryz.func59, Tryz.ntmps59
  go_wp2
  go_quiet ((go_at_call 14; exact Calls.quiet_of_same ((Tick.add_any at_ 0 _).mono fun e w' ⟨he, hw⟩ => ⟨he, hw.symm⟩)))
  go_wp2_with fail
  refine (add_any (max (add at_ 0) last) s ((H.out.drewN nq).last_ (max (add at_ 0) last)) ht hn).mono ?_
  rintro e w1 ⟨rfl, F', hC, hD, hS⟩
  have hQ := Lib.hid (show CG w1 F' b (addP ps (putAt last at_) s) (putAt last at_) ∧ Did F w w1 ∧ Stem F F' w from ⟨hC, (((Did.refl F w).drewN nq).setCell (.inl H.out.mine) _).trans (Stem.refl F w) hD, fun k hk => (hS k hk).imp_right fun d => by simpa [World.setCell] using d⟩)
  clear hC hD hS hcv
  go_wp2
  go_ret
  exact ⟨rfl, F', hQ.out⟩
theorem put_none {w : World} {F : Nat → Prop} {b : Nat} {ps : List Pc} {last : Int} (at_ : Int) (A : Option Addr) (cap : Nat) (h : CG w F b ps last) (hn : ps.length ≤ 2000000000000) :
    Calls Tryz.prog 59 #[.pointer (some ⟨b, 0, none⟩), .int .i64 at_, .slice A 0 cap] w fun e w' => e = .returned (.int .i64 (putAt last at_)) ∧ Below w.heap.size w w' := by
  have H := Lib.hid h
  obtain ⟨A', cap', hb', hlc, hm, hA⟩ := h.view
  have c0 := hb'.cell 0
  have c1 := hb'.cell 1
  have hlt := hb'.lt
  simp at c0 c1
  have hcv : ∀ nq, (convert 67 9 (.slice A 0 cap)).run Tryz.prog (w.drewN nq) = .ok (.string ⟨#[]⟩) (w.drewN nq) := fun nq => conv_bytes (s := ⟨#[]⟩) cap fun h => absurd h (by decide)
  clear h hA hb'
  go_enter Tryz.func59, Tryz.ntmps59
  go_wp2
  go_quiet ((go_at_call 14; exact Calls.quiet_of_same ((Tick.add_any at_ 0 _).mono fun e w' ⟨he, hw⟩ => ⟨he, hw.symm⟩)))
  go_wp2_with fail
  refine (add_none (max (add at_ 0) last) (H.out.drewN nq)).mono ?_
  rintro e w1 ⟨rfl, hB⟩
  have hB' := Lib.hid (show Below w.heap.size w w1 from ⟨hB.os, hB.tape, hB.output, hB.size, hB.block⟩)
  clear hB hcv
  go_wp2
  go_ret
  exact ⟨rfl, hB'.out⟩
theorem empty_of {s : ByteArray} (h : ¬ 0 < s.size) : s = ⟨#[]⟩ := by
  obtain ⟨d⟩ := s
  have h0 : d.size = 0 := by have : ¬ 0 < d.size := h; omega
  rw [Array.eq_empty_of_size_eq_zero h0]
theorem isEmpty_false {s : ByteArray} (h : 0 < s.size) : s.toList.isEmpty = false := by
  rw [ByteArray.toList_eq]
  obtain ⟨⟨l⟩⟩ := s
  cases l with
  | nil => exact absurd h (by decide)
  | cons _ _ => rfl
theorem isEmpty_size {s : ByteArray} : s.toList.isEmpty = decide (s.size = 0) := by
  by_cases h : 0 < s.size
  · rw [isEmpty_false h]; exact (decide_eq_false (by omega)).symm
  · rw [empty_of h, ByteArray.toList_eq]; rfl
theorem empty_yes : (⟨#[]⟩ : ByteArray).toList.isEmpty = true := by rw [ByteArray.toList_eq]; rfl
theorem put_any {w : World} {F : Nat → Prop} {b : Nat} {ps : List Pc} {last : Int} (at_ : Int) (A : Option Addr) (cap : Nat) (s : ByteArray) (h : CG w F b ps last) (hb : BS w A s) (ht : tot ps + s.size ≤ 4611686018427387904) (hn : ps.length ≤ 2000000000000) :
    Calls Tryz.prog 59 #[.pointer (some ⟨b, 0, none⟩), .int .i64 at_, .slice A s.size cap] w fun e w' => e = .returned (.int .i64 (putAt last at_)) ∧ ∃ F', CG w' F' b (addP ps (putAt last at_) s) (putLast last at_ s) ∧ Did F w w' ∧ Stem F F' w := by
  by_cases hs : 0 < s.size
  · have e : putLast last at_ s = putAt last at_ := by unfold putLast; rw [isEmpty_false hs]; rfl
    rw [e]
    exact put_some at_ A cap s h hb hs ht hn
  · obtain rfl := empty_of hs
    exact (put_none at_ A cap h hn).mono fun e w' ⟨he, hB⟩ => ⟨he, F, by unfold addP putLast; rw [if_pos empty_yes, if_pos empty_yes]; exact h.below hB, Did.of_below hB, Stem.refl _ _⟩
end Go.Proofs.YtehpliclknfmoaaGreat.Cargo
namespace Go.Proofs.YtehpliclknfmoaaGreat.Cargo
open Go.RowKit Mem Tick
open Go.Proofs.YtehpliclknfmoaaGreatW.PrintWords (QRow q_slice q_cells q_max q_append q_drop q_move q_typed q_lt q_of_own add_at)
set_option maxRecDepth 100000
set_option linter.unusedVariables false
set_option linter.unusedSimpArgs false
def cat : List Pc → ByteArray
  | [] => ⟨#[]⟩
  | p :: r => p.2 ++ cat r
theorem cat_append (a b : List Pc) : cat (a ++ b) = cat a ++ cat b := by
  induction a with
  | nil => show cat b = ⟨#[]⟩ ++ cat b; exact (ByteArray.empty_append (b := cat b)).symm
  | cons p r ih => rw [List.cons_append, cat, cat, ih, ByteArray.append_assoc]
theorem cat_size (a : List Pc) : (cat a).size = tot a := by
  induction a with
  | nil => rfl
  | cons p r ih => rw [cat, tot, ByteArray.size_append, ih]
theorem cat_take (ps : List Pc) (k : Nat) (p : Pc) (h : ps[k]? = some p) : cat (ps.take (k + 1)) = cat (ps.take k) ++ p.2 := by
  rw [List.take_add_one, h, cat_append]
  show _ ++ (p.2 ++ ⟨#[]⟩) = _
  rw [show (p.2 ++ (⟨#[]⟩ : ByteArray)) = p.2 from ByteArray.append_empty]
theorem str_append (a b : ByteArray) : Lib.strCells (a ++ b) = Lib.strCells a ++ Lib.strCells b := by
  unfold Lib.strCells
  simp
theorem bs_of_owns {w : World} {base e : Nat} {v : Value} {s : ByteArray} (h : w.ownsRow base e 1 v s.size (Lib.strCells s)) : ∃ A cap, v = .slice A s.size cap ∧ BS w A s ∧ s.size ≤ cap ∧ ∀ g, (∃ o, A = some ⟨g, o, none⟩) → base ≤ g := by
  obtain ⟨hl, h⟩ := h
  rcases h with ⟨rfl, h0⟩ | ⟨g, cap, cur, rfl, hg, hh, hnc, hcap, hsz, htake⟩
  · exact ⟨none, 0, by rw [h0], fun hs => by omega, by omega, fun g ⟨o, e⟩ => by cases e⟩
  · refine ⟨_, cap, rfl, fun hs => ⟨g, 0, rfl, fun i hi => ?_⟩, hnc, fun g' ⟨o, e⟩ => by injection e with e; injection e with e; omega⟩
    have e1 : (cur.toList.take (s.size * 1))[i]? = some (.int .u8 (s[i].toNat : Int)) := by
      rw [htake]
      unfold Lib.strCells
      rw [List.getElem?_map]
      have : s.data.toList[i]? = some s[i] := by
        rw [List.getElem?_eq_getElem (by simpa using hi)]; rfl
      rw [this]; rfl
    rw [List.getElem?_take, if_pos (by omega)] at e1
    rw [Nat.zero_add]
    simp only [World.cell?, hh]
    simp at e1
    simpa using e1
theorem own_ge {w : World} {base e n size : Nat} {v : Value} {xs : List Value} (h : w.ownsRow base e size v n xs) : ∀ k, v.ownBlock = some k → base ≤ k := by
  intro k hk
  rcases h.2 with ⟨rfl, _⟩ | ⟨g, cap, cur, rfl, hg, _⟩
  · simp [Value.ownBlock] at hk
  · have : g = k := by simpa [Value.ownBlock] using hk
    omega
theorem info_byte : (Tryz.prog.info? 5).map (fun i => (i.zero, i.size, i.bytes)) = some (some (.int .u8 0), 1, 1) := by kernel_rfl
theorem CG.nil_ {w : World} {F : Nat → Prop} {b : Nat} {ps : List Pc} {last : Int} (h : CG w F b ps last) : CG (w.setCell ⟨b, 0, none⟩ (.slice none 0 0)) (· = b) b [] last := by
  obtain ⟨v, hb, hq, hf⟩ := h
  refine ⟨.slice none 0 0, hb.set_ 0 _, ⟨rfl, .inl ⟨rfl, none, rfl, fun a h => by cases h⟩⟩, fun k => by simp [Value.ownBlock]⟩
theorem drain_far {w : World} {F : Nat → Prop} {b : Nat} {ps : List Pc} {last : Int} (h : CG w F b ps last) (ht : tot ps ≤ 70368744177664) :
    Calls Tryz.prog 33 #[.pointer (some ⟨b, 0, none⟩)] w fun e w' => ∃ A cap, e = .returned (.slice A (cat ps).size cap) ∧ BS w' A (cat ps) ∧ CG w' (· = b) b [] last ∧ Did F w w' ∧ ∀ g o, A = some ⟨g, o, none⟩ → w.heap.size ≤ g := by
  have H := Lib.hid h
  obtain ⟨A, cap, hb, hlc, hm, hA⟩ := h.view
  have c0 := hb.cell 0
  have hlt := hb.lt
  have f0 := hb.free 0
  simp at c0
  clear hb h
  obtain ⟨i0, hi, hz0, hz1, hz2⟩ := info_parts info_byte
  go_enter Tryz.func33, Tryz.ntmps33
  go_wp2
  go_loopw [3, 11] (fun ov iv wr => ∃ k : Nat, k ≤ ps.length ∧ iv = .int .i64 k ∧ wr.ownsRow w.heap.size 5 1 ov (cat (ps.take k)).size (Lib.strCells (cat (ps.take k))) ∧ Below w.heap.size w wr) (fun _ iv _ => ps.length - (intOf iv).toNat)
  case atStart => exact ⟨0, by omega, rfl, World.ownsRow_nil _ _ _ _, Below.refl _ _⟩
  case round =>
    obtain ⟨k, hk, rfl, hO, hB⟩ := hrel
    by_cases hlt' : k < ps.length
    · obtain ⟨g, o, rfl, hc⟩ := hA (by intro h; subst h; simp at hlt')
      have hx : ps[k]? = some ps[k] := List.getElem?_eq_getElem hlt'
      obtain ⟨d0, d1⟩ := hc k _ hx
      have hs := Lib.hid (cat_take ps k _ hx)
      have hle := tot_take_le ps (k + 1)
      rw [← cat_size, hs.out, ByteArray.size_append] at hle
      generalize ps[k] = p at *
      have d0' := bcells hB d0
      have d1' := bcells hB d1
      generalize hs1 : cat (ps.take (k + 1)) = s1 at *
      have hs1' := Lib.hid hs1
      generalize cat (ps.take k) = s0 at *
      have hsz := hB.size
      clear hc hx hA d0 d1 hs1
      go_wp2_with (at_builtin; refine Lib.wpList_append_own_string _ rfl (.tmp 15) (.tmp 17) 67 9 rfl w.heap.size 5 i0 Tryz.underlying67 Tryz.underlying9 hi hz0 hz1 hz2 _ _ _ rfl (hO.alloc _) p.2 rfl (by unfold maxLen; omega) (by omega) (by simp; omega) ?_; intro v' w1 hO' hG _)
      have hG' := Lib.hid (show (wr.alloc (.cells #[.int .i64 p.1, .string p.2] 100)).grownBy w1 u3.ownBlock from hG)
      clear hG
      go_roundw
      case rel => exact ⟨k + 1, by omega, by go_num, by rw [hs1'.out, hs.out, ByteArray.size_append, str_append]; exact hO', (hB.alloc hB.size _).grown hG'.out (by simp; omega) (own_ge hO)⟩
      case measure => simp [intOf]; omega
    · have hk2 : k = ps.length := by omega
      subst hk2
      have hnl : ¬ (ps.length < ps.length) := by omega
      have c0' := bcells hB c0
      have f0' : wr.frozen? ⟨b, 0, none⟩ = false := (hB.frozen (p := ⟨b, 0, none⟩) hlt).trans f0
      have hO2 := Lib.hid hO
      have hB' := Lib.hid hB
      clear hO hB c0 f0
      go_wp2
      go_ret
      have hO3 := hO2.out
      rw [List.take_length] at hO3
      obtain ⟨A', cap', rfl, hS, _, hge⟩ := bs_of_owns hO3
      have hd : Did F w wr := Did.of_below hB'.out
      exact ⟨A', cap', rfl, hS.kept fun g hg _ => Below.heap_setCell _ _ _ g (by have := hge g hg; show g ≠ b; omega), (H.out.below hB'.out).nil_, hd.setCell (.inl H.out.mine) _, fun g o e => hge g ⟨o, e⟩⟩
end Go.Proofs.YtehpliclknfmoaaGreat.Cargo
