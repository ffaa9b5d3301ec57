/- A link's New, and doubles (chapter 12). Conditions: each name is shorter than 2^47 bytes. -/
import Derived.Test.YtnkgjnmhiedfoaaGreatA25
import Derived.Test.YtnkgjnmhiedfoaaGreatA17
import Derived.Lib.SlBytesConst
import Derived.Maps.AppendAt
import Derived.RangeFuncNested
import Derived.RangeFuncBound
import Derived.RangeFuncCalls
import Derived.RangeFuncLeaves
import Derived.Shelf.Abstract
import Derived.WalkKit
import Derived.OwnWalkIn
import Derived.TacticsInMore
import Derived.LoopNIn
import Derived.LoopIn
import Derived.Test.YtnkgjnmhiedfoaaGreatA24
import Derived.Deep.AppendLies
namespace Go.Proofs.YtnkgjnmhiedfoaaGreat.Link
open Go.RowKit Mem Tick Cargo Toxic Stage Chain
set_option maxRecDepth 100000
set_option linter.unusedVariables false
set_option linter.unusedSimpArgs false
def Toxs (w : World) (v : Value) (l : List Tox) : Prop :=
  ∃ a cap, v = .slice a l.length cap ∧ l.length ≤ 9223372036854775807 ∧ l.length ≤ cap ∧ (l ≠ [] → ∃ g o, a = some ⟨g, o, none⟩ ∧ ∀ j t, l[j]? = some t → w.cell? ⟨g, o + j * 6, none⟩ = some (.string t.name) ∧ w.cell? ⟨g, o + j * 6 + 1, none⟩ = some (.int .i64 t.kind) ∧ w.cell? ⟨g, o + j * 6 + 2, none⟩ = some (.bool t.up) ∧ w.cell? ⟨g, o + j * 6 + 3, none⟩ = some (.int .i64 t.often) ∧ w.cell? ⟨g, o + j * 6 + 4, none⟩ = some (.int .i64 t.a) ∧ w.cell? ⟨g, o + j * 6 + 5, none⟩ = some (.int .i64 t.b))
theorem Toxs.below {w w' : World} {v : Value} {l : List Tox} (h : Toxs w v l) (hb : Below w.heap.size w w') : Toxs w' v l := by
  obtain ⟨a, cap, h1, h2, h3, h4⟩ := h
  refine ⟨a, cap, h1, h2, h3, fun hn => ?_⟩
  obtain ⟨g, o, e, hc⟩ := h4 hn
  refine ⟨g, o, e, fun j t ht => ?_⟩
  obtain ⟨c0, c1, c2, c3, c4, c5⟩ := hc j t ht
  exact ⟨bcells hb c0, bcells hb c1, bcells hb c2, bcells hb c3, bcells hb c4, bcells hb c5⟩
theorem same_any (t : Tox) (g : Nat) (n : ByteArray) (w : World) (hc : w.cell? ⟨g, 0, none⟩ = some (.string n)) :
    Calls Tryz.prog 54 #[t.v, ptr g] w fun e w' => e = .returned (.bool (t.name.toList == n.toList)) ∧ Below w.heap.size w w' := by
  obtain ⟨t0, t1, t2, t3, t4, t5⟩ := t
  have hl := World.block_lt_of_cell? w _ hc
  have hl2 : g < w.heap.size := hl
  have hne : g ≠ w.heap.size := by omega
  have hB := Lib.hid ((Below.refl w.heap.size w).alloc (Nat.le_refl _) (.cells #[.string t0, .int .i64 t1, .bool t2, .int .i64 t3, .int .i64 t4, .int .i64 t5] 27))
  have hc2 := bcells hB.out hc
  go_enter Tryz.func54, Tryz.ntmps54
  go_wp2
  go_ret
  exact ⟨rfl, hB.out⟩
def hasB (l : List Tox) (n : ByteArray) : Bool := l.any fun x => x.name.toList == n.toList
theorem hasB_succ {l : List Tox} {k : Nat} {t : Tox} (h : l[k]? = some t) (n : ByteArray) : hasB (l.take (k + 1)) n = (hasB (l.take k) n || (t.name.toList == n.toList)) := by
  unfold hasB
  rw [List.take_add_one, h, List.any_append]
  simp
theorem indexF_any (w : World) (v : Value) (l : List Tox) (g : Nat) (n : ByteArray) (hv : Toxs w v l) (hc : w.cell? ⟨g, 0, none⟩ = some (.string n)) :
    Calls Tryz.prog 79 #[v, .func (.func 54) #[] #[ptr g]] w fun e w' => (∃ i : Int, e = .returned (.int .i64 i) ∧ (decide (0 ≤ i) = hasB l n)) ∧ Below w.heap.size w w' := by
  obtain ⟨a, cap, rfl, hmx, hcp, hA⟩ := hv
  have hs := Lib.hid (fun (t : Tox) (wy : World) (hb : Below w.heap.size w wy) => same_any t g n wy (bcells hb hc))
  clear hc
  go_enter Tryz.func79, Tryz.ntmps79
  go_wp2
  go_loopw [8] (fun iv wr => ∃ k : Nat, k ≤ l.length ∧ iv = .int .i64 k ∧ Below w.heap.size w wr ∧ hasB (l.take k) n = false) (fun iv _ => l.length - (intOf iv).toNat)
  case atStart => exact ⟨0, by omega, rfl, Below.refl _ _, rfl⟩
  case round =>
    obtain ⟨k, hk, rfl, hB, hno⟩ := hrel
    by_cases hlt : k < l.length
    · obtain ⟨g2, o, rfl, hc⟩ := hA (by intro h; subst h; simp at hlt)
      have hx : l[k]? = some l[k] := List.getElem?_eq_getElem hlt
      obtain ⟨d0, d1, d2, d3, d4, d5⟩ := hc k _ hx
      have hsucc := Lib.hid (hasB_succ hx n)
      rw [hno, Bool.false_or] at hsucc
      have hmem := Lib.hid (show ∀ (t : Tox), l[k]? = some t → (t.name.toList == n.toList) = true → hasB l n = true from fun t ht e => List.any_eq_true.2 ⟨t, List.mem_of_getElem? ht, e⟩)
      have hx' := Lib.hid hx
      generalize l[k] = p at *
      obtain ⟨t0, t1, t2, t3, t4, t5⟩ := p
      dsimp only at *
      have d0' := bcells hB d0
      have d1' := bcells hB d1
      have d2' := bcells hB d2
      have d3' := bcells hB d3
      have d4' := bcells hB d4
      have d5' := bcells hB d5
      have hB' := Lib.hid hB
      clear hc hx hA d0 d1 d2 d3 d4 d5 hB hno
      go_wp2_with fail
      refine (hs.out ⟨t0, t1, t2, t3, t4, t5⟩ _ hB'.out).mono ?_
      rintro e w2 ⟨rfl, hB2⟩
      have hB3 := Lib.hid (bw_below hB'.out hB2)
      clear hB2
      cases he : (t0.toList == n.toList) with
      | true =>
        have hr := Lib.hid (show hasB l n = true from hmem.out _ hx'.out he)
        clear hsucc hmem he
        go_wp2
        go_ret
        exact ⟨⟨_, rfl, by rw [hr.out]; simp⟩, hB3.out⟩
      | false =>
        have hr := Lib.hid (show hasB (l.take (k + 1)) n = false from by rw [hsucc.out]; exact he)
        clear hsucc hmem he
        go_wp2
        go_roundw
        case rel => exact ⟨k + 1, by omega, by go_num, hB3.out, hr.out⟩
        case measure => simp [intOf]; omega
    · have hk2 : k = l.length := by omega
      subst hk2
      have hnl : ¬ (l.length < l.length) := by omega
      rw [List.take_length] at hno
      have hr := Lib.hid hno
      clear hno hA
      go_wp2
      go_ret
      exact ⟨⟨_, rfl, by rw [hr.out]; rfl⟩, hB⟩
theorem containsF_any (w : World) (v : Value) (l : List Tox) (g : Nat) (n : ByteArray) (hv : Toxs w v l) (hc : w.cell? ⟨g, 0, none⟩ = some (.string n)) :
    Calls Tryz.prog 53 #[v, .func (.func 54) #[] #[ptr g]] w fun e w' => e = .returned (.bool (hasB l n)) ∧ Below w.heap.size w w' := by
  have hh := Lib.hid (indexF_any w v l g n hv hc)
  clear hv hc
  go_enter Tryz.func53, Tryz.ntmps53
  go_wp2_with fail
  refine hh.out.mono ?_
  rintro e w2 ⟨⟨i, rfl, hi⟩, hB2⟩
  have hi' := Lib.hid hi
  have hB3 := Lib.hid hB2
  clear hh hi hB2
  go_wp2
  go_ret
  exact ⟨by rw [← hi'.out]; rfl, hB3.out⟩
theorem Toxs.take {w : World} {a : Option Addr} {cap : Nat} {l : List Tox} (h : Toxs w (.slice a l.length cap) l) {k : Nat} (hk : k ≤ l.length) : Toxs w (.slice a k cap) (l.take k) := by
  obtain ⟨a', cap', he, h2, h3, h4⟩ := h
  injection he with e1 e2 e3
  subst e1 e3
  have hl : (l.take k).length = k := by rw [List.length_take]; omega
  refine ⟨a, cap, by rw [hl], by omega, by omega, fun hn => ?_⟩
  obtain ⟨g, o, e, hc⟩ := h4 (by rintro rfl; simp at hn)
  refine ⟨g, o, e, fun j t ht => hc j t ?_⟩
  rw [List.getElem?_take] at ht
  split at ht
  · exact ht
  · cases ht
def dblN (l : List Tox) : Nat → Bool
  | 0 => false
  | k + 1 => dblN l k || (match l[k]? with | some t => hasB (l.take k) t.name | none => false)
def dblB (l : List Tox) : Bool := dblN l l.length
theorem dblN_mono {l : List Tox} {k m : Nat} (h : dblN l k = true) (hm : k ≤ m) : dblN l m = true := by
  induction m with
  | zero => have : k = 0 := by omega
            subst this; exact h
  | succ m ih =>
    by_cases e : k = m + 1
    · subst e; exact h
    · unfold dblN; rw [ih (by omega)]; rfl
theorem doubles_any (w : World) (v : Value) (l : List Tox) (hv : Toxs w v l) :
    Calls Tryz.prog 36 #[v] w fun e w' => e = .returned (.bool (dblB l)) ∧ Below w.heap.size w w' := by
  have hv0 := Lib.hid hv
  obtain ⟨a, cap, rfl, hmx, hcp, hA⟩ := hv
  go_enter Tryz.func36, Tryz.ntmps36
  go_wp2
  go_loopw [7] (fun iv wr => ∃ k : Nat, k ≤ l.length ∧ iv = .int .i64 k ∧ Below w.heap.size w wr ∧ dblN l k = false) (fun iv _ => l.length - (intOf iv).toNat)
  case atStart => exact ⟨0, by omega, rfl, Below.refl _ _, rfl⟩
  case round =>
    obtain ⟨k, hk, rfl, hB, hno⟩ := hrel
    by_cases hlt : k < l.length
    · have hpre := Lib.hid ((hv0.out.below hB).take hk)
      obtain ⟨g2, o, rfl, hc⟩ := hA (by intro h; subst h; simp at hlt)
      have hx : l[k]? = some l[k] := List.getElem?_eq_getElem hlt
      obtain ⟨d0, d1, d2, d3, d4, d5⟩ := hc k _ hx
      have hsucc := Lib.hid (show dblN l (k + 1) = hasB (l.take k) (l[k]).name from by show (dblN l k || _) = _; rw [hno, hx]; rfl)
      generalize l[k] = p at *
      obtain ⟨t0, t1, t2, t3, t4, t5⟩ := p
      dsimp only at *
      have d0' := bcells hB d0
      have d1' := bcells hB d1
      have d2' := bcells hB d2
      have d3' := bcells hB d3
      have d4' := bcells hB d4
      have d5' := bcells hB d5
      have hB1 := Lib.hid (hB.alloc hB.size (.cells #[.string t0, .int .i64 t1, .bool t2, .int .i64 t3, .int .i64 t4, .int .i64 t5] 27))
      have hcon := Lib.hid (containsF_any (wr.alloc (.cells #[.string t0, .int .i64 t1, .bool t2, .int .i64 t3, .int .i64 t4, .int .i64 t5] 27)) (.slice (some ⟨g2, o, none⟩) k cap) (l.take k) wr.heap.size t0 (hpre.out.below ((Below.refl _ _).alloc (Nat.le_refl _) _)) (((Blk.new wr 27 #[.string t0, .int .i64 t1, .bool t2, .int .i64 t3, .int .i64 t4, .int .i64 t5]).cell 0).trans rfl))
      have hkc : k ≤ cap := by omega
      have hkc2 : (k : Int) ≤ (cap : Int) := by omega
      have hmono := Lib.hid (fun h => show dblB l = true from dblN_mono (l := l) (k := k + 1) h (by omega))
      clear hc hx hA d0 d1 d2 d3 d4 d5 hB hno hpre
      go_wp2_with fail
      refine hcon.out.mono ?_
      rintro e w2 ⟨rfl, hB2⟩
      have hB3 := Lib.hid (bw_below hB1.out hB2)
      clear hB2 hB1
      cases he : hasB (l.take k) t0 with
      | true =>
        have hr := Lib.hid (hmono.out (by rw [hsucc.out]; exact he))
        clear hsucc hmono he hcon
        go_wp2
        go_ret
        exact ⟨by rw [hr.out]; rfl, hB3.out⟩
      | false =>
        have hr := Lib.hid (show dblN l (k + 1) = false from by rw [hsucc.out]; exact he)
        clear hsucc hmono he hcon
        go_wp2
        go_roundw
        case rel => exact ⟨k + 1, by omega, by go_num, hB3.out, hr.out⟩
        case measure => simp [intOf]; omega
    · have hk2 : k = l.length := by omega
      subst hk2
      have hnl : ¬ (l.length < l.length) := by omega
      have hr := Lib.hid (show dblB l = false from hno)
      clear hno hA
      go_wp2
      go_ret
      exact ⟨by rw [hr.out]; rfl, hB⟩
/-! what lives -/
def LiveK (w wr : World) (b : Nat) (x : Lk) : Prop := ∃ F, LK wr F b x ∧ (∀ j, F j → w.heap.size ≤ j) ∧ Below w.heap.size w wr
def KeepK (wr w2 : World) : Prop := ∀ g t cs, Blk wr g t cs → t ∉ lts → Blk w2 g t cs
variable {w wr w2 w1 : World} {F : Nat → Prop} {b : Nat} {x y : Lk} {M Q : Int}
theorem LiveK.old (h : LiveK w wr b x) : Below w.heap.size w wr := by obtain ⟨F, _, _, hb⟩ := h; exact hb
theorem LiveK.below (h : LiveK w wr b x) (hb : Below wr.heap.size wr w2) : LiveK w w2 b x := by
  obtain ⟨F, hC, hF, hB⟩ := h
  exact ⟨F, hC.below hb, hF, hB.trans (hb.mono hB.size)⟩
theorem LiveK.turn (hC : LK wr F b x) (hF : ∀ j, F j → w.heap.size ≤ j) (hB : Below w.heap.size w wr) (h : LTu wr F w2 b y) : LiveK w w2 b y ∧ KeepK wr w2 := by
  obtain ⟨F', hC2, hd, hs⟩ := h
  exact ⟨⟨F', hC2, fun j hj => (hs j hj).elim (hF j) (fun h => Nat.le_trans hB.size h), hB.trans (hd.below hB.size hF)⟩, fun g t cs hb ht => hb.did hd (hC.off hb ht)⟩
def firstE : List Tox → Int
  | [] => 0
  | t :: r => if chk t ≠ 0 then chk t else firstE r
theorem first_succ {l : List Tox} {k : Nat} {t : Tox} (h : l[k]? = some t) (hk : firstE (l.take k) = 0) : firstE (l.take (k + 1)) = chk t := by
  induction l generalizing k with
  | nil => simp at h
  | cons u r ih =>
    cases k with
    | zero =>
      injection h with h
      subst h
      simp [firstE]
      intro e
      omega
    | succ k =>
      simp only [List.take_succ_cons, firstE] at hk ⊢
      split at hk
      · omega
      · rename_i hu
        rw [if_neg hu]
        exact ih h hk
theorem first_mono {l : List Tox} {k : Nat} (h : firstE (l.take k) ≠ 0) : firstE l = firstE (l.take k) := by
  induction l generalizing k with
  | nil => simp
  | cons u r ih =>
    cases k with
    | zero => exact absurd rfl h
    | succ k =>
      simp only [List.take_succ_cons, firstE] at h ⊢
      split at h
      · rename_i hu; rw [if_pos hu, if_pos hu]
      · rename_i hu; rw [if_neg hu, if_neg hu]; exact ih h
def linkE (l : List Tox) (room : Int) : Int := if roomOk room = false ∨ 8 < l.length then 1 else if firstE l ≠ 0 then firstE l else if dblB l = true then 141 else 0
def link0 (up : Bool) (seed room now : Int) : Lk := ⟨newC room now, [], up, seed, 0, 0, 0, false⟩
def linkN (l : List Tox) (up : Bool) (seed room now : Int) : Lk := l.foldl (fun x t => addK x t now) (link0 up seed room now)
theorem ok_link0 (up : Bool) (seed room now : Int) (h : roomOk room = true) (h0 : 0 ≤ seed) (h1 : seed < 18446744073709551616) : OkK (link0 up seed room now) 0 0 :=
  ⟨ok_newC room now h, rfl, Int.le_refl 0, (by decide : (0 : Int) ≤ 1000000000), h0, h1, Int.le_refl 0, Int.le_refl 0⟩
theorem drawn_add (x : Lk) (t : Tox) (now : Int) : (addK x t now).drawn ≤ x.drawn + 1 := by
  unfold addK
  split
  · exact Int.le_refl _
  · omega
theorem ok_fold (now : Int) : ∀ (l : List Tox) (x : Lk), OkK x 0 0 → x.drawn + l.length ≤ 1000 → OkK (l.foldl (fun x t => addK x t now) x) 0 0 ∧ (l.foldl (fun x t => addK x t now) x).drawn ≤ x.drawn + l.length
  | [], x, h, hd => ⟨h, by simp⟩
  | t :: r, x, h, hd => by
    rw [List.length_cons] at hd
    have h1 := drawn_add x t now
    obtain ⟨h2, h3⟩ := ok_fold now r (addK x t now) (h.add (Int.le_refl 0) (by omega) t now) (by omega)
    exact ⟨h2, by rw [List.foldl_cons, List.length_cons]; omega⟩
theorem ok_linkN (l : List Tox) (up : Bool) (seed room now : Int) (h : roomOk room = true) (h0 : 0 ≤ seed) (h1 : seed < 18446744073709551616) (hl : l.length ≤ 8) : OkK (linkN l up seed room now) 0 0 ∧ (linkN l up seed room now).drawn ≤ 8 := by
  have := ok_fold now l _ (ok_link0 up seed room now h h0 h1) (by show (0 : Int) + l.length ≤ 1000; omega)
  exact ⟨this.1, by have h2 := this.2; have h3 : (link0 up seed room now).drawn = 0 := rfl; unfold linkN; omega⟩
theorem new_bad (v : Value) (l : List Tox) (up : Bool) (seed room now : Int) (w : World) (hv : Toxs w v l) (hr : roomOk room = false) :
    Calls Tryz.prog 16 #[v, .bool up, .int .u64 seed, .int .i64 room, .int .i64 now] w fun e w' => e = .returned (.tuple #[.pointer none, .int .i64 (1)]) ∧ Below w.heap.size w w' := by
  have hn := Lib.hid (cNew_bad room now w hr)
  clear hv
  go_enter Tryz.func16, Tryz.ntmps16
  go_wp2_with fail
  refine hn.out.mono ?_
  rintro e w1 ⟨rfl, hB⟩
  have hB1 := Lib.hid hB
  clear hn hB
  go_wp2
  go_ret2
  exact ⟨rfl, hB1.out⟩
theorem new_long (v : Value) (l : List Tox) (up : Bool) (seed room now : Int) (w : World) (hv : Toxs w v l) (hr : roomOk room = true) (hl : 8 < l.length) :
    Calls Tryz.prog 16 #[v, .bool up, .int .u64 seed, .int .i64 room, .int .i64 now] w fun e w' => e = .returned (.tuple #[.pointer none, .int .i64 (1)]) ∧ Below w.heap.size w w' := by
  have hn := Lib.hid (cNew_any room now w hr)
  obtain ⟨a, cap, rfl, hmx, hcp, hA⟩ := hv
  have tl : decide ((8 : Int) < (l.length : Int)) = true := decide_eq_true (by omega)
  clear hA
  go_enter Tryz.func16, Tryz.ntmps16
  go_wp2_with fail
  refine hn.out.mono ?_
  rintro e w1 ⟨c, F, D, rfl, hC, hF, hcp2, hB⟩
  have hB1 := Lib.hid hB
  clear hn hB hC hF hcp2
  go_wp2
  go_ret2
  exact ⟨rfl, hB1.out⟩
theorem new_chk (v : Value) (l : List Tox) (up : Bool) (seed room now : Int) (w : World) (hv : Toxs w v l) (hr : roomOk room = true) (hl : l.length ≤ 8) (hf : firstE l ≠ 0) :
    Calls Tryz.prog 16 #[v, .bool up, .int .u64 seed, .int .i64 room, .int .i64 now] w fun e w' => e = .returned (.tuple #[.pointer none, .int .i64 (firstE l)]) ∧ Below w.heap.size w w' := by
  have hn := Lib.hid (cNew_any room now w hr)
  have hv0 := Lib.hid hv
  obtain ⟨a, cap, rfl, hmx, hcp, hA⟩ := hv
  have tl : decide ((8 : Int) < (l.length : Int)) = false := decide_eq_false (by omega)
  go_enter Tryz.func16, Tryz.ntmps16
  go_wp2_with fail
  refine hn.out.mono ?_
  rintro e w1 ⟨c, F, D, rfl, hC, hF, hcp2, hB⟩
  have hBw1 := Lib.hid hB
  have hCh := Lib.hid (And.intro hC (And.intro hF hcp2))
  clear hn hB hC hF hcp2
  go_wp2
  go_loopw [35] (fun iv wr => ∃ k : Nat, k ≤ l.length ∧ iv = .int .i64 k ∧ Below w1.heap.size w1 wr ∧ firstE (l.take k) = 0) (fun iv _ => l.length - (intOf iv).toNat)
  case atStart => exact ⟨0, by omega, rfl, Below.refl _ _, rfl⟩
  case round =>
    obtain ⟨k, hk, rfl, hB, hno⟩ := hrel
    by_cases hlt : k < l.length
    · obtain ⟨g2, o, rfl, hc⟩ := hA (by intro h; subst h; simp at hlt)
      have hx : l[k]? = some l[k] := List.getElem?_eq_getElem hlt
      obtain ⟨d0, d1, d2, d3, d4, d5⟩ := hc k _ hx
      have hsucc := Lib.hid (first_succ hx hno)
      have hmono := Lib.hid (fun h => first_mono (l := l) (k := k + 1) h)
      generalize l[k] = p at *
      obtain ⟨t0, t1, t2, t3, t4, t5⟩ := p
      dsimp only at *
      have hBw := hBw1.out.trans (hB.mono hBw1.out.size)
      have d0' := bcells hBw d0
      have d1' := bcells hBw d1
      have d2' := bcells hBw d2
      have d3' := bcells hBw d3
      have d4' := bcells hBw d4
      have d5' := bcells hBw d5
      have hB' := Lib.hid (hB.alloc hB.size (.cells #[.string t0, .int .i64 t1, .bool t2, .int .i64 t3, .int .i64 t4, .int .i64 t5] 27))
      have hck := Lib.hid (fun wy => check_any ⟨t0, t1, t2, t3, t4, t5⟩ wy)
      clear hc hx hA d0 d1 d2 d3 d4 d5 hB hno hBw
      go_wp2_with fail
      refine (hck.out _).mono ?_
      rintro e w2 ⟨rfl, hB2⟩
      have hB3 := Lib.hid (bw_below hB'.out hB2)
      clear hB2 hB' hck
      by_cases he : chk ⟨t0, t1, t2, t3, t4, t5⟩ = 0
      · have hr := Lib.hid (show firstE (l.take (k + 1)) = 0 from by rw [hsucc.out]; exact he)
        rw [he]
        clear hsucc hmono he
        go_wp2
        go_roundw
        case rel => exact ⟨k + 1, by omega, by go_num, hB3.out, hr.out⟩
        case measure => simp [intOf]; omega
      · have te : (chk ⟨t0, t1, t2, t3, t4, t5⟩ != 0) = true := by simpa using he
        have hr := Lib.hid (show firstE l = chk ⟨t0, t1, t2, t3, t4, t5⟩ from by have := hmono.out (by rw [hsucc.out]; exact he); rw [hsucc.out] at this; exact this)
        clear hsucc hmono he
        go_wp2
        go_ret2
        exact ⟨by rw [hr.out]; rfl, bw_below hBw1.out hB3.out⟩
    · have hk2 : k = l.length := by omega
      subst hk2
      have hnl : ¬ (l.length < l.length) := by omega
      rw [List.take_length] at hno
      exact absurd hno hf
theorem new_dbl (v : Value) (l : List Tox) (up : Bool) (seed room now : Int) (w : World) (hv : Toxs w v l) (hr : roomOk room = true) (hl : l.length ≤ 8) (hf : firstE l = 0) (hd : dblB l = true) :
    Calls Tryz.prog 16 #[v, .bool up, .int .u64 seed, .int .i64 room, .int .i64 now] w fun e w' => e = .returned (.tuple #[.pointer none, .int .i64 (141)]) ∧ Below w.heap.size w w' := by
  have hn := Lib.hid (cNew_any room now w hr)
  have hv0 := Lib.hid hv
  obtain ⟨a, cap, rfl, hmx, hcp, hA⟩ := hv
  have tl : decide ((8 : Int) < (l.length : Int)) = false := decide_eq_false (by omega)
  go_enter Tryz.func16, Tryz.ntmps16
  go_wp2_with fail
  refine hn.out.mono ?_
  rintro e w1 ⟨c, F, D, rfl, hC, hF, hcp2, hB⟩
  have hBw1 := Lib.hid hB
  have hCh := Lib.hid (And.intro hC (And.intro hF hcp2))
  clear hn hB hC hF hcp2
  go_wp2
  go_loopw [35] (fun iv wr => ∃ k : Nat, k ≤ l.length ∧ iv = .int .i64 k ∧ Below w1.heap.size w1 wr ∧ firstE (l.take k) = 0) (fun iv _ => l.length - (intOf iv).toNat)
  case atStart => exact ⟨0, by omega, rfl, Below.refl _ _, rfl⟩
  case round =>
    obtain ⟨k, hk, rfl, hB, hno⟩ := hrel
    by_cases hlt : k < l.length
    · obtain ⟨g2, o, rfl, hc⟩ := hA (by intro h; subst h; simp at hlt)
      have hx : l[k]? = some l[k] := List.getElem?_eq_getElem hlt
      obtain ⟨d0, d1, d2, d3, d4, d5⟩ := hc k _ hx
      have hsucc := Lib.hid (first_succ hx hno)
      have hmono := Lib.hid (fun h => first_mono (l := l) (k := k + 1) h)
      generalize l[k] = p at *
      obtain ⟨t0, t1, t2, t3, t4, t5⟩ := p
      dsimp only at *
      have hBw := hBw1.out.trans (hB.mono hBw1.out.size)
      have d0' := bcells hBw d0
      have d1' := bcells hBw d1
      have d2' := bcells hBw d2
      have d3' := bcells hBw d3
      have d4' := bcells hBw d4
      have d5' := bcells hBw d5
      have hB' := Lib.hid (hB.alloc hB.size (.cells #[.string t0, .int .i64 t1, .bool t2, .int .i64 t3, .int .i64 t4, .int .i64 t5] 27))
      have hck := Lib.hid (fun wy => check_any ⟨t0, t1, t2, t3, t4, t5⟩ wy)
      clear hc hx hA d0 d1 d2 d3 d4 d5 hB hno hBw
      go_wp2_with fail
      refine (hck.out _).mono ?_
      rintro e w2 ⟨rfl, hB2⟩
      have hB3 := Lib.hid (bw_below hB'.out hB2)
      clear hB2 hB' hck
      by_cases he : chk ⟨t0, t1, t2, t3, t4, t5⟩ = 0
      · have hr := Lib.hid (show firstE (l.take (k + 1)) = 0 from by rw [hsucc.out]; exact he)
        rw [he]
        clear hsucc hmono he
        go_wp2
        go_roundw
        case rel => exact ⟨k + 1, by omega, by go_num, hB3.out, hr.out⟩
        case measure => simp [intOf]; omega
      · have te : (chk ⟨t0, t1, t2, t3, t4, t5⟩ != 0) = true := by simpa using he
        have hr := Lib.hid (show firstE l = chk ⟨t0, t1, t2, t3, t4, t5⟩ from by have := hmono.out (by rw [hsucc.out]; exact he); rw [hsucc.out] at this; exact this)
        clear hsucc hmono he
        exact absurd (hr.out.symm.trans hf) (by simpa using te)
    · have hk2 : k = l.length := by omega
      subst hk2
      have hnl : ¬ (l.length < l.length) := by omega
      rw [List.take_length] at hno
      have hdb := Lib.hid (doubles_any wr (.slice a l.length cap) l (hv0.out.below (hBw1.out.trans (hB.mono hBw1.out.size))))
      rw [hd] at hdb
      have hB' := Lib.hid (bw_below hBw1.out hB)
      clear hA hB hno
      go_wp2_with fail
      refine hdb.out.mono ?_
      rintro e w2 ⟨rfl, hB2⟩
      have hB3 := Lib.hid (bw_below hB'.out hB2)
      clear hB2 hdb
      go_wp2
      go_ret2
      exact ⟨rfl, hB3.out⟩
set_option maxHeartbeats 1000000 in
theorem new_ok (v : Value) (l : List Tox) (up : Bool) (seed room now : Int) (w : World) (hv : Toxs w v l) (hr : roomOk room = true) (hl : l.length ≤ 8) (hf : firstE l = 0) (hd : dblB l = false) (h0 : 0 ≤ seed) (h1 : seed < 18446744073709551616) :
    Calls Tryz.prog 16 #[v, .bool up, .int .u64 seed, .int .i64 room, .int .i64 now] w fun e w' => ∃ b, e = .returned (.tuple #[ptr b, .int .i64 0]) ∧ LiveK w w' b (linkN l up seed room now) := by
  have hn := Lib.hid (cNew_any room now w hr)
  have hv0 := Lib.hid hv
  obtain ⟨a, cap, rfl, hmx, hcp, hA⟩ := hv
  have tl : decide ((8 : Int) < (l.length : Int)) = false := decide_eq_false (by omega)
  go_enter Tryz.func16, Tryz.ntmps16
  go_wp2_with fail
  refine hn.out.mono ?_
  rintro e w1 ⟨c, F, D, rfl, hC, hF, hcp2, hB⟩
  have hBw1 := Lib.hid hB
  have hCh := Lib.hid (And.intro hC (And.intro hF hcp2))
  clear hn hB hC hF hcp2
  go_wp2
  go_loopw [35] (fun iv wr => ∃ k : Nat, k ≤ l.length ∧ iv = .int .i64 k ∧ Below w1.heap.size w1 wr ∧ firstE (l.take k) = 0) (fun iv _ => l.length - (intOf iv).toNat)
  case atStart => exact ⟨0, by omega, rfl, Below.refl _ _, rfl⟩
  case round =>
    obtain ⟨k, hk, rfl, hB, hno⟩ := hrel
    by_cases hlt : k < l.length
    · obtain ⟨g2, o, rfl, hc⟩ := hA (by intro h; subst h; simp at hlt)
      have hx : l[k]? = some l[k] := List.getElem?_eq_getElem hlt
      obtain ⟨d0, d1, d2, d3, d4, d5⟩ := hc k _ hx
      have hsucc := Lib.hid (first_succ hx hno)
      have hmono := Lib.hid (fun h => first_mono (l := l) (k := k + 1) h)
      generalize l[k] = p at *
      obtain ⟨t0, t1, t2, t3, t4, t5⟩ := p
      dsimp only at *
      have hBw := hBw1.out.trans (hB.mono hBw1.out.size)
      have d0' := bcells hBw d0
      have d1' := bcells hBw d1
      have d2' := bcells hBw d2
      have d3' := bcells hBw d3
      have d4' := bcells hBw d4
      have d5' := bcells hBw d5
      have hB' := Lib.hid (hB.alloc hB.size (.cells #[.string t0, .int .i64 t1, .bool t2, .int .i64 t3, .int .i64 t4, .int .i64 t5] 27))
      have hck := Lib.hid (fun wy => check_any ⟨t0, t1, t2, t3, t4, t5⟩ wy)
      clear hc hx hA d0 d1 d2 d3 d4 d5 hB hno hBw
      go_wp2_with fail
      refine (hck.out _).mono ?_
      rintro e w2 ⟨rfl, hB2⟩
      have hB3 := Lib.hid (bw_below hB'.out hB2)
      clear hB2 hB' hck
      by_cases he : chk ⟨t0, t1, t2, t3, t4, t5⟩ = 0
      · have hr := Lib.hid (show firstE (l.take (k + 1)) = 0 from by rw [hsucc.out]; exact he)
        rw [he]
        clear hsucc hmono he
        go_wp2
        go_roundw
        case rel => exact ⟨k + 1, by omega, by go_num, hB3.out, hr.out⟩
        case measure => simp [intOf]; omega
      · have te : (chk ⟨t0, t1, t2, t3, t4, t5⟩ != 0) = true := by simpa using he
        have hr := Lib.hid (show firstE l = chk ⟨t0, t1, t2, t3, t4, t5⟩ from by have := hmono.out (by rw [hsucc.out]; exact he); rw [hsucc.out] at this; exact this)
        clear hsucc hmono he
        exact absurd (hr.out.symm.trans hf) (by simpa using te)
    · have hk2 : k = l.length := by omega
      subst hk2
      have hnl : ¬ (l.length < l.length) := by omega
      rw [List.take_length] at hno
      have hdb := Lib.hid (doubles_any wr (.slice a l.length cap) l (hv0.out.below (hBw1.out.trans (hB.mono hBw1.out.size))))
      rw [hd] at hdb
      have hB' := Lib.hid (bw_below hBw1.out hB)
      have hCr := Lib.hid (hCh.out.1.below hB)
      clear hB hno
      go_wp2_with fail
      refine hdb.out.mono ?_
      rintro e w2 ⟨rfl, hB2⟩
      have hB3 := Lib.hid (bw_below hB'.out hB2)
      have hC2 := Lib.hid (hCr.out.below hB2)
      have hBL := (Below.refl w2.heap.size w2).alloc (Nat.le_refl _) (.cells #[ptr c, .slice none 0 0, .bool up, .int .u64 seed, .int .i64 0, .int .i64 0, .int .i64 0, .int .i64 0, .int .i64 0, .bool false] 83)
      have hL0 := Lib.hid (show LiveK w (w2.alloc (.cells #[ptr c, .slice none 0 0, .bool up, .int .u64 seed, .int .i64 0, .int .i64 0, .int .i64 0, .int .i64 0, .int .i64 0, .bool false] 83)) w2.heap.size (link0 up seed room now) from
        ⟨fun j => j = w2.heap.size ∨ F j ∨ (Value.slice none 0 0).ownBlock = some j, ⟨F, c, D, .slice none 0 0, Blk.new w2 _ _, hC2.out.below hBL, hCh.out.2.2, .inl ⟨rfl, rfl⟩, fun j => Iff.rfl⟩, (fun j hj => by
          rcases hj with rfl | hj | hj
          · exact hB3.out.size
          · exact hCh.out.2.1 j hj
          · cases hj), hB3.out.alloc hB3.out.size _⟩)
      clear hB2 hdb hBL hB' hCr
      go_wp2
      go_loopw [54] (fun iv wr => ∃ k : Nat, k ≤ l.length ∧ iv = .int .i64 k ∧ LiveK w wr w2.heap.size (linkN (l.take k) up seed room now)) (fun iv _ => l.length - (intOf iv).toNat)
      case atStart => exact ⟨0, by omega, rfl, hL0.out⟩
      case round =>
        obtain ⟨k, hk, rfl, hL⟩ := hrel
        clear hL0
        by_cases hlt : k < l.length
        · obtain ⟨g2, o, rfl, hc⟩ := hA (by intro h; subst h; simp at hlt)
          have hx : l[k]? = some l[k] := List.getElem?_eq_getElem hlt
          obtain ⟨d0, d1, d2, d3, d4, d5⟩ := hc k _ hx
          have hok := Lib.hid (ok_linkN (l.take k) up seed room now hr h0 h1 (by rw [List.length_take]; omega)).1
          have hsucc := Lib.hid (show linkN (l.take (k + 1)) up seed room now = addK (linkN (l.take k) up seed room now) l[k] now from by unfold linkN; rw [List.take_add_one, hx, List.foldl_append]; rfl)
          generalize l[k] = p at *
          obtain ⟨t0, t1, t2, t3, t4, t5⟩ := p
          dsimp only at *
          have hBw := hL.old
          have d0' := bcells hBw d0
          have d1' := bcells hBw d1
          have d2' := bcells hBw d2
          have d3' := bcells hBw d3
          have d4' := bcells hBw d4
          have d5' := bcells hBw d5
          have hL' := Lib.hid (hL.below ((Below.refl wr.heap.size wr).alloc (Nat.le_refl _) (.cells #[.string t0, .int .i64 t1, .bool t2, .int .i64 t3, .int .i64 t4, .int .i64 t5] 27)))
          clear hc hx hA d0 d1 d2 d3 d4 d5 hL hBw
          generalize linkN (l.take k) up seed room now = x0 at *
          obtain ⟨F0, hLK, hF0, hB0⟩ := hL'.out
          have hadd := Lib.hid (kAdd_any hLK hok.out ⟨t0, t1, t2, t3, t4, t5⟩ now)
          have hFB := Lib.hid (And.intro hLK (And.intro hF0 hB0))
          clear hLK hF0 hB0 hL'
          go_wp2_with fail
          refine hadd.out.mono ?_
          rintro e w4 ⟨rfl, hT⟩
          have hL4 := Lib.hid (LiveK.turn hFB.out.1 hFB.out.2.1 hFB.out.2.2 hT).1
          clear hT hadd hFB
          go_wp2
          go_roundw
          case rel => exact ⟨k + 1, by omega, by go_num, by rw [hsucc.out]; exact hL4.out⟩
          case measure => simp [intOf]; omega
        · have hk2 : k = l.length := by omega
          subst hk2
          have hnl : ¬ (l.length < l.length) := by omega
          rw [List.take_length] at hL
          have hr := Lib.hid hL
          clear hA hL
          go_wp2
          go_ret2
          exact ⟨_, rfl, hr.out⟩
end Go.Proofs.YtnkgjnmhiedfoaaGreat.Link
namespace Go.Proofs.YtnkgjnmhiedfoaaGreat.Link
open Go.RowKit Mem Tick Cargo Toxic Stage Chain
set_option linter.unusedVariables false
set_option linter.unusedSimpArgs false
def EndZ (x : Ch) : Prop := x.state ≠ 0 → x.state = 2 ∨ ∃ a, x.l[x.l.length - 1]? = some a ∧ a.s.state ≠ 0
theorem look_stays {s : Sg} (n : Int) (h : s.state ≠ 0) : (lookP s n).state ≠ 0 := by
  rcases look_cases s n with e | ⟨e, _⟩
  · rw [e]; exact h
  · exact absurd e h
theorem ins_state (c : Ch) (at_ : Int) (t : Tox) (seed now : Int) : (insC c at_ t seed now).state = c.state := by
  unfold insC; repeat' split
  all_goals rfl
theorem put_state (c : Ch) (n : Int) (b : ByteArray) : (putC c n b).state = c.state := by
  unfold putC; repeat' split
  all_goals rfl
theorem close_state (c : Ch) (n : Int) : (closeC c n).state = c.state := by
  unfold closeC; repeat' split
  all_goals rfl
theorem take_state (c : Ch) (n m : Int) : (takeC c n m).state = c.state := by
  unfold takeC; repeat' split
  all_goals rfl
variable {c : Ch}
theorem EndZ.brk (h : EndZ c) : EndZ (breakC c) := by
  unfold breakC
  split
  · exact h
  · exact fun _ => .inl rfl
theorem EndZ.none (h : EndZ c) (hs : c.state ≠ 0) (n m : Int) : takeCB c n m = ⟨#[]⟩ := by
  unfold takeCB
  rcases h hs with e | ⟨a, ha, h1⟩
  · rw [if_pos e]
  · split
    · rfl
    · rw [ha]
      show takeB a.s n m = _
      unfold takeB
      rw [if_pos (.inl (look_stays n h1))]
variable {x : Lk}
end Go.Proofs.YtnkgjnmhiedfoaaGreat.Link
namespace Go.Proofs.YtnkgjnmhiedfoaaGreat.Link
open Go.RowKit Mem Tick Cargo Toxic Stage Chain
set_option maxRecDepth 100000
set_option linter.unusedVariables false
set_option linter.unusedSimpArgs false
theorem live_new {w wr : World} {sa : Option Addr} {sc : Nat} {L : List Tox} (up : Bool) (seed room now : Int) (hv : Toxs w (.slice sa L.length sc) L) (h : linkE L room = 0) (h0 : 0 ≤ seed) (h1 : seed < 18446744073709551616) (hB : Below w.heap.size w wr) :
    Calls Tryz.prog 16 #[.slice sa L.length sc, .bool up, .int .u64 seed, .int .i64 room, .int .i64 now] wr fun e w' => ∃ b, e = .returned (.tuple #[ptr b, .int .i64 0]) ∧ LiveK w w' b (linkN L up seed room now) := by
  unfold linkE at h
  split at h
  · exact absurd h (by decide)
  rename_i h2
  split at h
  · rename_i h3; exact absurd h h3
  rename_i h3
  split at h
  · exact absurd h (by decide)
  rename_i h4
  have hr : roomOk room = true := by cases e : roomOk room with | true => rfl | false => exact absurd (.inl e) h2
  refine (new_ok _ L up seed room now wr (hv.below hB) hr (by omega) (by simpa using h3) (by simpa using h4) h0 h1).mono ?_
  rintro e w1 ⟨b, rfl, F, hL, hF, hB1⟩
  exact ⟨b, rfl, F, hL, fun j hj => Nat.le_trans hB.size (hF j hj), bw_below hB hB1⟩
theorem bad_new {wr : World} {v : Value} {L : List Tox} (up : Bool) (seed room now : Int) (hv : Toxs wr v L) (h : linkE L room ≠ 0) :
    Calls Tryz.prog 16 #[v, .bool up, .int .u64 seed, .int .i64 room, .int .i64 now] wr fun e w' => e = .returned (.tuple #[.pointer none, .int .i64 (linkE L room)]) ∧ Below wr.heap.size wr w' := by
  unfold linkE at h ⊢
  cases hr : roomOk room with
  | false => rw [if_pos (.inl rfl)]; exact new_bad v L up seed room now wr hv hr
  | true =>
    by_cases hl : 8 < L.length
    · rw [if_pos (.inr hl)]; exact new_long v L up seed room now wr hv hr hl
    have e1 : ¬ ((true = false) ∨ 8 < L.length) := by rintro (e | e); cases e; exact hl e
    rw [hr, if_neg e1] at h
    rw [if_neg e1]
    by_cases hf : firstE L = 0
    · rw [if_neg (by simpa using hf)] at h ⊢
      cases hd : dblB L with
      | true => rw [if_pos rfl]; exact new_dbl v L up seed room now wr hv hr (by omega) hf hd
      | false => rw [hd] at h; exact absurd rfl h
    · rw [if_pos hf]; exact new_chk v L up seed room now wr hv hr (by omega) hf
theorem kk_link0 (up : Bool) (seed room now : Int) : KK (link0 up seed room now) ⟨#[]⟩ ⟨#[]⟩ := ⟨km_new room now, rfl, rfl⟩
theorem kk_fold (now : Int) : ∀ (l : List Tox) (x : Lk), KK x ⟨#[]⟩ ⟨#[]⟩ → KK (l.foldl (fun x t => addK x t now) x) ⟨#[]⟩ ⟨#[]⟩
  | [], _, h => h
  | t :: l, x, h => kk_fold now l _ (by
      show KK (addK x t now) ⟨#[]⟩ ⟨#[]⟩
      unfold addK
      split
      · exact ⟨km_ins h.km _ _ _ _, h.sent, h.got⟩
      · exact h)
theorem kk_linkN (l : List Tox) (up : Bool) (seed room now : Int) : KK (linkN l up seed room now) ⟨#[]⟩ ⟨#[]⟩ := kk_fold now l _ (kk_link0 up seed room now)
end Go.Proofs.YtnkgjnmhiedfoaaGreat.Link
namespace Go.Proofs.YtnkgjnmhiedfoaaGreat.Link
open Go.RowKit Mem Tick Cargo Toxic Stage Chain
set_option maxRecDepth 100000
set_option linter.unusedVariables false
set_option linter.unusedSimpArgs false
def FreshN (w w' : World) (v : Value) (l : List ByteArray) : Prop := NV w' v l ∧ (∀ k, v.ownBlock = some k → w.heap.size ≤ k) ∧ Below w.heap.size w w'
theorem cloneS_none {w : World} {c : Nat} :
    Calls Tryz.prog 20 #[.slice none 0 c] w fun e w' => e = .returned (.slice none 0 0) ∧ w = w' := by
  have he := fun W => Lib.run_eql_slice_nil (P := Tryz.prog) W 34 9 none 0 c 0 0 Tryz.underlying34
  go_enter Tryz.func20, Tryz.ntmps20
  go_wp2
  go_ret
  exact ⟨rfl, rfl⟩
theorem cloneS_zero {w : World} {a : Addr} {c : Nat} :
    Calls Tryz.prog 20 #[.slice (some a) 0 c] w fun e w' => e = .returned (.slice (some ⟨w.heap.size, 0, none⟩) 0 0) ∧ w.alloc (.cells #[] 9) = w' := by
  have he := fun W => Lib.run_eql_slice_nil (P := Tryz.prog) W 34 9 (some a) 0 c 0 0 Tryz.underlying34
  go_enter Tryz.func20, Tryz.ntmps20
  go_wp2
  go_ret
  exact ⟨rfl, rfl⟩
theorem heap_new' (w : World) (cs : Array Value) (t : TypeId) : (w.alloc (.cells cs t)).heap[w.heap.size]? = some (.cells cs t) := Blk.new w t cs
theorem cloneS_some {w : World} {g c n : Nat} {l : List ByteArray} (hn : l.length = n) (h0 : 0 < n) (h : ∀ j u, (l.map Value.string)[j]? = some u → w.cell? ⟨g, j, none⟩ = some u) (hn' : n ≤ 1000) :
    Calls Tryz.prog 20 #[.slice (some ⟨g, 0, none⟩) n c] w fun e w' => ∃ v, e = .returned v ∧ FreshN w w' v l := by
  have H := Lib.hid h
  have hN := Lib.hid hn
  clear h hn
  have he := fun W => Lib.run_eql_slice_nil (P := Tryz.prog) W 34 9 (some ⟨g, 0, none⟩) n c 0 0 Tryz.underlying34
  obtain ⟨i0, hi, hz0, hz1, hz2⟩ := info_parts info_st
  have hq0 : (w.alloc (.cells #[] 9)).ownsRow w.heap.size 9 1 (.slice (some ⟨w.heap.size, 0, none⟩) 0 0) 0 [] := ⟨rfl, .inr ⟨w.heap.size, 0, #[], rfl, Nat.le_refl _, heap_new' w _ _, Nat.le_refl _, Nat.zero_le _, rfl, rfl⟩⟩
  have hq1 := Lib.hid hq0
  clear hq0
  go_enter Tryz.func20, Tryz.ntmps20
  have hcl : ∀ j u, (l.map Value.string)[j]? = some u → (w.alloc (.cells #[] 9)).cell? ((⟨g, 0, none⟩ : Addr).add j) = some u := fun j u hu => by
    have z := H.out j u hu
    have e : ((⟨g, 0, none⟩ : Addr).add j) = ⟨g, j, none⟩ := by unfold Addr.add; split <;> simp_all
    rw [e]
    exact (World.cell?_of_block (Below.heap_alloc _ _ _ (World.block_lt_of_cell? w _ z))).trans z
  have hHc := Lib.hid hcl
  clear hcl
  go_wp2_with (at_builtin; refine wpList_append_own_at _ rfl (.tmp 5) (.tmp 6) 34 rfl w.heap.size 9 i0 (.string ⟨#[]⟩) 1 16 Tryz.underlying34 hi hz0 hz1 hz2 rfl (by decide) _ 0 [] rfl hq1.out ⟨g, 0, none⟩ n c (l.map Value.string) rfl (by rw [List.length_map, hN.out, Nat.mul_one]) hHc.out (fun u hu => by obtain ⟨s, _, rfl⟩ := List.mem_map.1 hu; rfl) (by unfold maxLen; omega) (by omega) (by simp) ?_; intro v1 w1 hq hg hnn hat)
  go_ret
  refine ⟨_, rfl, ?_, ?_, ?_⟩
  · refine NV.of_owns (base := w.heap.size) ?_
    rw [hN.out]
    simpa using hq
  · intro k hk
    exact (hq.lt k hk).1
  · exact ((Below.refl w.heap.size w).alloc (Nat.le_refl _) _).grown hg (by simp) fun j c => (hq1.out.lt j c).1
theorem clone_str {w : World} {v : Value} {l : List ByteArray} (h : NV w v l) (hn : l.length ≤ 1000) :
    Calls Tryz.prog 20 #[v] w fun e w' => ∃ v', e = .returned v' ∧ FreshN w w' v' l := by
  rcases h with ⟨rfl, rfl⟩ | ⟨g, cap, rfl, ⟨rest, hb, hl⟩, hc⟩
  · exact cloneS_none.mono fun e w' ⟨he, hw⟩ => ⟨_, he, hw ▸ ⟨.inl ⟨rfl, rfl⟩, fun k hk => by simp [Value.ownBlock] at hk, Below.refl _ _⟩⟩
  by_cases h0 : 0 < l.length
  · refine cloneS_some rfl h0 (fun j u hu => ?_) hn
    refine (hb.cell j).trans ?_
    rw [List.getElem?_toArray, List.getElem?_append_left (List.getElem?_eq_some_iff.1 hu).1, hu]
  · have hp : l = [] := List.eq_nil_of_length_eq_zero (by omega)
    subst hp
    refine cloneS_zero.mono fun e w' ⟨he, hw⟩ => ⟨_, he, ?_⟩
    subst hw
    refine ⟨.inr ⟨w.heap.size, 0, rfl, ⟨[], Blk.new w 9 #[], rfl⟩, by decide⟩, fun k hk => ?_, (Below.refl _ _).alloc (Nat.le_refl _) _⟩
    have : w.heap.size = k := by simpa [Value.ownBlock] using hk
    omega
end Go.Proofs.YtnkgjnmhiedfoaaGreat.Link
namespace Go.Proofs.YtnkgjnmhiedfoaaGreat.Conn
open Go.RowKit Mem Tick Cargo Toxic Stage Chain Link
set_option linter.unusedVariables false
set_option linter.unusedSimpArgs false
structure Cn where
  a : Lk
  b : Lk
  names : List ByteArray
def lk (x : Cn) (way : Int) : Lk := if way = 0 then x.a else x.b
def isW (way : Int) : Bool := way == 0 || way == 1
def onW (x : Cn) (way : Int) (k : Lk) : Cn := if way = 0 then { x with a := k } else { x with b := k }
def sendN (x : Cn) (way now : Int) (s : ByteArray) : Cn := if isW way = true then onW x way (sendK (lk x way) now s) else x
def sendA (x : Cn) (way now : Int) (s : ByteArray) : Int := if isW way = true then (putCN (lk x way).c now s : Int) else 0
def finN (x : Cn) (way now : Int) : Cn := if isW way = true then onW x way (finishK (lk x way) now) else x
def cutN (x : Cn) : Cn := { x with a := cutK x.a, b := cutK x.b }
def halfN (x : Cn) (now m0 m1 : Int) : Cn := { x with a := stepK x.a now m0, b := stepK x.b now m1 }
def brkB (x : Cn) (now m0 m1 : Int) : Bool := stepE x.a now m0 == 2 || stepE x.b now m1 == 2
def endK (brk : Bool) (k : Lk) (now : Int) : Lk := if brk = true ∧ k.done = false then stepK (cutK k) now 0 else k
def endE (brk : Bool) (k : Lk) (now e : Int) : Int := if brk = true ∧ k.done = false then stepE (cutK k) now 0 else e
def stepN (x : Cn) (now m0 m1 : Int) : Cn :=
  { x with a := endK (brkB x now m0 m1) (stepK x.a now m0) now, b := endK (brkB x now m0 m1) (stepK x.b now m1) now }
def outA (x : Cn) (now m0 m1 : Int) : ByteArray × Int := (stepB x.a now m0, endE (brkB x now m0 m1) (stepK x.a now m0) now (stepE x.a now m0))
def outB (x : Cn) (now m0 m1 : Int) : ByteArray × Int := (stepB x.b now m1, endE (brkB x now m0 m1) (stepK x.b now m1) now (stepE x.b now m1))
def wayT (t : Tox) : Int := if t.up = true then 0 else 1
def addNE (x : Cn) (t : Tox) : Int := if chk t ≠ 0 then chk t else if (idxN x.names t.name).isSome = true then 141 else addE (lk x (wayT t)) t
def addN (x : Cn) (t : Tox) (now : Int) : Cn :=
  if chk t ≠ 0 ∨ (idxN x.names t.name).isSome = true then x
  else { onW x (wayT t) (addK (lk x (wayT t)) t now) with names := if addE (lk x (wayT t)) t = 0 then x.names ++ [t.name] else x.names }
def dropW (x : Cn) (n : ByteArray) : Option Int := if dropE x.a n = 0 then some 0 else if dropE x.b n = 0 then some 1 else none
def dropNE (x : Cn) (n : ByteArray) : Int := if (dropW x n).isSome = true then 0 else 142
def dropN (x : Cn) (n : ByteArray) (now : Int) : Cn :=
  match dropW x n with
  | some w => { onW x w (dropK (lk x w) n now) with names := match idxN x.names n with | some i => x.names.eraseIdx i | none => x.names }
  | none => x
def chgN (x : Cn) (t : Tox) (now : Int) : Cn := onW x (wayT t) (chgK (lk x (wayT t)) t now)
def overB (x : Cn) : Bool := x.a.done && x.b.done
def conn0 (L : List Tox) (sa sb room now : Int) : Cn := ⟨linkN L true sa room now, linkN L false sb room now, L.map fun t => t.name⟩
structure Op where
  kind : Int
  way : Int
  now : Int
  m0 : Int
  m1 : Int
  s : ByteArray
  t : Tox
structure An where
  n : Int
  s0 : ByteArray
  e0 : Int
  s1 : ByteArray
  e1 : Int
  e : Int
def doesA (x : Cn) (o : Op) : An :=
  if o.kind = 0 then ⟨sendA x o.way o.now o.s, ⟨#[]⟩, 0, ⟨#[]⟩, 0, 0⟩
  else if o.kind = 3 then ⟨0, (outA x o.now o.m0 o.m1).1, (outA x o.now o.m0 o.m1).2, (outB x o.now o.m0 o.m1).1, (outB x o.now o.m0 o.m1).2, 0⟩
  else if o.kind = 4 then ⟨0, ⟨#[]⟩, 0, ⟨#[]⟩, 0, addNE x o.t⟩
  else if o.kind = 5 then ⟨0, ⟨#[]⟩, 0, ⟨#[]⟩, 0, dropNE x o.s⟩
  else if o.kind = 6 then ⟨0, ⟨#[]⟩, 0, ⟨#[]⟩, 0, chgE (lk x (wayT o.t)) o.t⟩
  else ⟨0, ⟨#[]⟩, 0, ⟨#[]⟩, 0, 0⟩
def doesN (x : Cn) (o : Op) : Cn :=
  if o.kind = 0 then sendN x o.way o.now o.s
  else if o.kind = 1 then finN x o.way o.now
  else if o.kind = 2 then cutN x
  else if o.kind = 3 then stepN x o.now o.m0 o.m1
  else if o.kind = 4 then addN x o.t o.now
  else if o.kind = 5 then dropN x o.s o.now
  else if o.kind = 6 then chgN x o.t o.now
  else x
end Go.Proofs.YtnkgjnmhiedfoaaGreat.Conn
namespace Go.Proofs.YtnkgjnmhiedfoaaGreat.Link
open Go.RowKit Mem Tick Cargo Toxic Stage Chain
set_option linter.unusedVariables false
set_option linter.unusedSimpArgs false
def ofWay (L : List Tox) (up : Bool) : List Tox := L.filter fun t => t.up == up
theorem ofWay_snoc (L : List Tox) (t : Tox) (up : Bool) : ofWay (L ++ [t]) up = if t.up = up then ofWay L up ++ [t] else ofWay L up := by
  unfold ofWay
  rw [List.filter_append]
  by_cases h : t.up = up
  · rw [if_pos h]; simp [h]
  · rw [if_neg h]; simp [h]
def DrR (t d : Tox) : Prop := (d = t ∨ d = noTox) ∧ (t.often = 100 → d = t) ∧ (t.often = 0 → d = noTox)
def DrL (l d : List Tox) : Prop := d.length = l.length ∧ ∀ (i : Nat) (t u : Tox), l[i]? = some t → d[i]? = some u → DrR t u
theorem DrL.snoc {l d : List Tox} (h : DrL l d) {t u : Tox} (hr : DrR t u) : DrL (l ++ [t]) (d ++ [u]) := by
  refine ⟨by simp [h.1], fun i t' u' h1 h2 => ?_⟩
  by_cases hi : i < l.length
  · rw [List.getElem?_append_left hi] at h1
    rw [List.getElem?_append_left (by rw [h.1]; exact hi)] at h2
    exact h.2 i t' u' h1 h2
  · rw [List.getElem?_append_right (by omega)] at h1
    rw [List.getElem?_append_right (by rw [h.1]; omega), h.1] at h2
    have : i - l.length = 0 := Decidable.byContradiction fun e => by
      rw [List.getElem?_eq_none (by simp; omega)] at h1; cases h1
    rw [this] at h1 h2
    simp at h1 h2
    subst h1 h2
    exact hr
theorem draw_drr (x : Lk) (t : Tox) : DrR t (drawK x t) := by
  have hb := Ref02.hiI_bd (dieK x) 100 (by decide)
  unfold drawK
  split
  · rename_i h
    exact ⟨.inl rfl, fun _ => rfl, fun e => by omega⟩
  · rename_i h
    exact ⟨.inr rfl, fun e => by omega, fun _ => rfl⟩
def fresh (room now : Int) (p : Tox × Int) : Pa := ⟨newS p.1 p.2 room now, false⟩
structure NewI (L : List Tox) (up : Bool) (room now : Int) (x : Lk) : Prop where
  up_ : x.up = up
  names : x.names = (ofWay L up).map fun t => t.name
  l : ∃ ds : List (Tox × Int), x.c.l = ((noTox, 0) :: ds ++ [(noTox, 0)]).map (fresh room now) ∧ DrL (ofWay L up) (ds.map fun p => p.1)
  st : x.c.state = 0
  sh : x.c.shut = false
  lost : x.c.lost = 0
  rm : x.c.room = room
  dn : x.done = false
theorem newI_0 (up : Bool) (seed room now : Int) : NewI [] up room now (link0 up seed room now) :=
  ⟨rfl, rfl, ⟨[], rfl, rfl, fun i t u h => by simp [ofWay] at h⟩, rfl, rfl, rfl, rfl, rfl⟩
theorem newE_ok {t : Tox} {room : Int} (h : passB t = true ∨ chk t = 0) (hr : roomOk room = true) : newE t room = 0 := by
  unfold newE
  rw [if_neg (by rintro ⟨e1, e2⟩; rcases h with e | e; rw [e] at e1; cases e1; exact e2 e), if_neg (by rw [hr]; simp)]
theorem NewI.add {L : List Tox} {up : Bool} {room now : Int} {x : Lk} (h : NewI L up room now x) (hr : roomOk room = true) (t : Tox) (hc : chk t = 0) (hb : hasB L t.name = false) (h8 : L.length < 8) : NewI (L ++ [t]) up room now (addK x t now) := by
  obtain ⟨ds, hl, hd⟩ := h.l
  have hlen : (ofWay L up).length ≤ L.length := List.length_filter_le _ _
  have hnl : x.names.length = (ofWay L up).length := by rw [h.names, List.length_map]
  have hdl : ds.length = (ofWay L up).length := by have := hd.1; simpa using this
  by_cases hu : t.up = up
  · have hn : idxN x.names t.name = none := by
      apply idx_none
      intro j y hj hy
      rw [h.names, List.getElem?_map] at hy
      obtain ⟨u, hu1, rfl⟩ := Option.map_eq_some_iff.1 hy
      have hm : u ∈ L := (List.mem_filter.1 (List.mem_of_getElem? hu1)).1
      unfold hasB at hb
      have := List.any_eq_false.1 hb u hm
      simp only [beq_iff_eq] at this ⊢
      simp
      exact fun e => this e.symm
    have ha : addsB x t = true := by
      unfold addsB
      rw [hn, decide_eq_true (show chk t = 0 ∧ t.up = x.up from ⟨hc, by rw [h.up_]; exact hu⟩), decide_eq_true (show x.names.length < 8 by omega)]
      rfl
    have hadd : addK x t now = { x with c := insC x.c x.names.length (drawK x t) (Ref02.stepI (dieK x)) now, names := x.names ++ [t.name], drawn := x.drawn + 1 } := by unfold addK; rw [if_pos ha]
    have hE : insE x.c (x.names.length : Int) (drawK x t) = 0 := by
      unfold insE
      have hp : noPlace x.c (x.names.length : Int) = false := by
        unfold noPlace
        rw [hl]
        simp
        omega
      rw [hp, h.rm]
      exact newE_ok (draw_ok x t hc) hr
    have hbk : x.c.l[(x.names.length : Int).toNat + 1]? = some (fresh room now (noTox, 0)) := by
      rw [hl, List.getElem?_map, show (x.names.length : Int).toNat + 1 = ((noTox, (0 : Int)) :: ds).length from by simp; omega, List.getElem?_append_right (Nat.le_refl _), Nat.sub_self]
      rfl
    have hins : insC x.c x.names.length (drawK x t) (Ref02.stepI (dieK x)) now = { x.c with l := ((noTox, 0) :: (ds ++ [(drawK x t, Ref02.stepI (dieK x))]) ++ [(noTox, 0)]).map (fresh room now) } := by
      unfold insC
      rw [hE, if_neg (by decide), hbk]
      dsimp only
      rw [show (fresh room now (noTox, 0)).cl = false from rfl, if_neg (by decide), h.rm]
      congr 1
      rw [hl, ← List.map_take, ← List.map_drop, show (x.names.length : Int).toNat + 1 = ((noTox, (0 : Int)) :: ds).length from by simp; omega, List.take_left, List.drop_left]
      simp [fresh]
    rw [hadd, hins]
    refine ⟨h.up_, ?_, ⟨ds ++ [(drawK x t, Ref02.stepI (dieK x))], rfl, ?_⟩, h.st, h.sh, h.lost, h.rm, h.dn⟩
    · show x.names ++ [t.name] = _
      rw [ofWay_snoc, if_pos hu, h.names, List.map_append]; rfl
    · rw [ofWay_snoc, if_pos hu, List.map_append]
      exact hd.snoc (draw_drr x t)
  · have ha : addsB x t = false := by
      unfold addsB
      rw [decide_eq_false (show ¬ (chk t = 0 ∧ t.up = x.up) from fun e => hu (by rw [← h.up_]; exact e.2))]
      rfl
    have hadd : addK x t now = x := by unfold addK; rw [ha]; rfl
    rw [hadd]
    refine ⟨h.up_, ?_, ⟨ds, hl, ?_⟩, h.st, h.sh, h.lost, h.rm, h.dn⟩
    · rw [ofWay_snoc, if_neg hu]; exact h.names
    · rw [ofWay_snoc, if_neg hu]; exact hd
theorem first_all : ∀ {l : List Tox}, firstE l = 0 → ∀ t ∈ l, chk t = 0
  | u :: r, h, t, ht => by
    unfold firstE at h
    split at h
    · rename_i e; exact absurd h e
    · rename_i e
      rcases List.mem_cons.1 ht with rfl | ht
      · exact Decidable.byContradiction e
      · exact first_all h t ht
theorem dbl_none {l : List Tox} (h : dblB l = false) {k : Nat} {t : Tox} (hk : l[k]? = some t) : hasB (l.take k) t.name = false := by
  cases e : hasB (l.take k) t.name with
  | false => rfl
  | true =>
    have h1 : dblN l (k + 1) = true := by unfold dblN; rw [hk]; simp [e]
    have := dblN_mono h1 (show k + 1 ≤ l.length from (List.getElem?_eq_some_iff.1 hk).1)
    unfold dblB at h
    rw [this] at h
    cases h
theorem linkE_0 {l : List Tox} {room : Int} (h : linkE l room = 0) : roomOk room = true ∧ l.length ≤ 8 ∧ firstE l = 0 ∧ dblB l = false := by
  unfold linkE at h
  split at h
  · exact absurd h (by decide)
  rename_i h2
  split at h
  · rename_i h3; exact absurd h h3
  rename_i h3
  split at h
  · exact absurd h (by decide)
  rename_i h4
  refine ⟨?_, by omega, by simpa using h3, by simpa using h4⟩
  cases e : roomOk room with
  | true => rfl
  | false => exact absurd (.inl e) h2
theorem newI_linkN (L : List Tox) (up : Bool) (seed room now : Int) (h : linkE L room = 0) : NewI L up room now (linkN L up seed room now) := by
  obtain ⟨hr, h8, hf, hd⟩ := linkE_0 h
  have key : ∀ k, k ≤ L.length → NewI (L.take k) up room now (linkN (L.take k) up seed room now) := by
    intro k
    induction k with
    | zero => intro _; exact newI_0 up seed room now
    | succ k ih =>
      intro hk
      have hx : L[k]? = some L[k] := List.getElem?_eq_getElem (by omega)
      have e : L.take (k + 1) = L.take k ++ [L[k]] := by rw [List.take_add_one, hx]; rfl
      rw [e]
      have e2 : linkN (L.take k ++ [L[k]]) up seed room now = addK (linkN (L.take k) up seed room now) L[k] now := by unfold linkN; rw [List.foldl_append]; rfl
      rw [e2]
      exact (ih (by omega)).add hr _ (first_all hf _ (List.mem_of_getElem? hx)) (dbl_none hd hx) (by rw [List.length_take]; omega)
  have := key L.length (Nat.le_refl _)
  rwa [List.take_length] at this
/-! lags -/
/-! a link's calls without toxics -/
end Go.Proofs.YtnkgjnmhiedfoaaGreat.Link
namespace Go.Proofs.YtnkgjnmhiedfoaaGreat.Conn
open Go.RowKit Mem Tick Cargo Toxic Stage Chain Link
set_option linter.unusedVariables false
set_option linter.unusedSimpArgs false
def ky (l : List ByteArray) : List (List UInt8) := l.map ByteArray.toList
theorem ky_append (l m : List ByteArray) : ky (l ++ m) = ky l ++ ky m := by unfold ky; rw [List.map_append]
theorem idx_mem {l : List ByteArray} {s : ByteArray} : (idxN l s).isSome = true ↔ s.toList ∈ ky l := by
  unfold idxN ky
  rw [List.findIdx?_isSome, List.any_eq_true]
  simp only [List.mem_map, beq_iff_eq]
  constructor
  · rintro ⟨x, hx, e⟩; exact ⟨x, hx, e.symm⟩
  · rintro ⟨x, hx, e⟩; exact ⟨x, hx, e.symm⟩
theorem idx_erase : ∀ {l : List ByteArray} {s : ByteArray} {i : Nat}, idxN l s = some i → ky (l.eraseIdx i) = (ky l).erase s.toList
  | [], s, i, h => by simp [idxN] at h
  | x :: l, s, i, h => by
    unfold idxN at h
    rw [List.findIdx?_cons] at h
    by_cases e : (s.toList == x.toList) = true
    · rw [if_pos e] at h
      cases h
      show ky l = (x.toList :: ky l).erase s.toList
      rw [beq_iff_eq.1 e, List.erase_cons_head]
    · rw [if_neg e] at h
      obtain ⟨j, hj, rfl⟩ := Option.map_eq_some_iff.1 h
      have ih := idx_erase (l := l) (s := s) hj
      show x.toList :: ky (l.eraseIdx j) = (x.toList :: ky l).erase s.toList
      rw [List.erase_cons_tail (fun q => e (by rw [beq_iff_eq] at q ⊢; exact q.symm)), ih]
structure Nm (x : Cn) : Prop where
  nd : (ky x.names).Nodup
  pm : (ky x.names).Perm (ky x.a.names ++ ky x.b.names)
theorem Nm.len {x : Cn} (h : Nm x) : x.names.length = x.a.names.length + x.b.names.length := by
  have := h.pm.length_eq
  simpa [ky] using this
theorem Nm.sub {x : Cn} (h : Nm x) (way : Int) (m : ByteArray) (hm : (idxN (lk x way).names m).isSome = true) : (idxN x.names m).isSome = true := by
  rw [idx_mem] at hm ⊢
  rw [h.pm.mem_iff, List.mem_append]
  unfold lk at hm
  split at hm
  · exact .inl hm
  · exact .inr hm
theorem Nm.same {x y : Cn} (h : Nm x) (h0 : y.names = x.names) (h1 : y.a.names = x.a.names) (h2 : y.b.names = x.b.names) : Nm y := ⟨by rw [h0]; exact h.nd, by rw [h0, h1, h2]; exact h.pm⟩
theorem Nm.add {x y : Cn} {s : ByteArray} (h : Nm x) (hs : (idxN x.names s).isSome = false) (h0 : y.names = x.names ++ [s]) (h1 : (y.a.names = x.a.names ++ [s] ∧ y.b.names = x.b.names) ∨ (y.a.names = x.a.names ∧ y.b.names = x.b.names ++ [s])) : Nm y := by
  have hn : s.toList ∉ ky x.names := fun e => by rw [idx_mem.2 e] at hs; cases hs
  refine ⟨?_, ?_⟩
  · rw [h0, ky_append, List.nodup_append]
    refine ⟨h.nd, by simp [ky], fun a ha b hb => ?_⟩
    have : b = s.toList := by simpa [ky] using hb
    rintro rfl
    exact hn (this ▸ ha)
  · rw [h0, ky_append]
    rcases h1 with ⟨e1, e2⟩ | ⟨e1, e2⟩
    · rw [e1, e2, ky_append, List.append_assoc]
      refine (h.pm.append_right _).trans ?_
      rw [List.append_assoc]
      exact List.Perm.append_left _ List.perm_append_comm
    · rw [e1, e2, ky_append, ← List.append_assoc]
      exact h.pm.append_right _
theorem Nm.drop {x y : Cn} {s : ByteArray} {i : Nat} (h : Nm x) (hi : idxN x.names s = some i) (h0 : y.names = x.names.eraseIdx i)
    (h1 : (∃ j, idxN x.a.names s = some j ∧ y.a.names = x.a.names.eraseIdx j ∧ y.b.names = x.b.names) ∨ (∃ j, idxN x.b.names s = some j ∧ y.a.names = x.a.names ∧ y.b.names = x.b.names.eraseIdx j)) : Nm y := by
  refine ⟨?_, ?_⟩
  · rw [h0, idx_erase hi]
    exact h.nd.erase _
  · have hp := h.pm.erase s.toList
    rw [h0, idx_erase hi]
    refine hp.trans ?_
    rcases h1 with ⟨j, hj, e1, e2⟩ | ⟨j, hj, e1, e2⟩
    · have hm : s.toList ∈ ky x.a.names := idx_mem.1 (by rw [hj]; rfl)
      rw [e1, e2, idx_erase hj, List.erase_append_left _ hm]
    · have hm : s.toList ∈ ky x.b.names := idx_mem.1 (by rw [hj]; rfl)
      have hnd : (ky x.a.names ++ ky x.b.names).Nodup := h.pm.nodup_iff.1 h.nd
      have hna : s.toList ∉ ky x.a.names := fun q => (List.nodup_append.1 hnd).2.2 _ q _ hm rfl
      rw [e1, e2, idx_erase hj, List.erase_append_right _ hna]
theorem Nm.on {x : Cn} (h : Nm x) (way : Int) {k : Lk} (hk : k.names = (lk x way).names) : Nm (onW x way k) := by
  unfold lk at hk
  unfold onW
  by_cases e : way = 0
  · rw [if_pos e] at hk ⊢
    exact h.same rfl hk rfl
  · rw [if_neg e] at hk ⊢
    exact h.same rfl rfl hk
structure Ups (x : Cn) : Prop where
  a : x.a.up = true
  b : x.b.up = false
theorem Ups.on {x : Cn} (h : Ups x) (way : Int) {k : Lk} (hk : k.up = (lk x way).up) : Ups (onW x way k) := by
  unfold lk at hk
  unfold onW
  by_cases e : way = 0
  · rw [if_pos e] at hk ⊢
    exact ⟨hk.trans h.a, h.b⟩
  · rw [if_neg e] at hk ⊢
    exact ⟨h.a, hk.trans h.b⟩
theorem Ups.way {x : Cn} (h : Ups x) (t : Tox) : (lk x (wayT t)).up = t.up := by
  unfold lk wayT
  cases e : t.up with
  | true => exact h.a
  | false => exact h.b
theorem up_add (k : Lk) (t : Tox) (now : Int) : (addK k t now).up = k.up := by unfold addK; split <;> rfl
theorem up_drop (k : Lk) (n : ByteArray) (now : Int) : (dropK k n now).up = k.up := by unfold dropK; split <;> rfl
theorem up_chg (k : Lk) (t : Tox) (now : Int) : (chgK k t now).up = k.up ∧ (chgK k t now).names = k.names := by unfold chgK; split <;> exact ⟨rfl, rfl⟩
theorem add_names {k : Lk} {t : Tox} {now : Int} (hu : k.up = t.up) : (addK k t now).names = if addE k t = 0 then k.names ++ [t.name] else k.names := by
  unfold addK addE addsB
  by_cases hz : chk t = 0
  · cases hi : (idxN k.names t.name).isSome with
    | true => simp [hz, hu, hi]
    | false =>
      by_cases h8 : k.names.length < 8
      · simp [hz, hu, hi, h8, Nat.not_le.2 h8]
      · simp [hz, hu, hi, h8, Nat.le_of_not_lt h8]
  · simp [hz]
theorem Nm.addN {x : Cn} (h : Nm x) (hu : Ups x) (t : Tox) (now : Int) : Nm (Conn.addN x t now) ∧ Ups (Conn.addN x t now) := by
  unfold Conn.addN
  by_cases hc : chk t ≠ 0 ∨ (idxN x.names t.name).isSome = true
  · rw [if_pos hc]; exact ⟨h, hu⟩
  · rw [if_neg hc]
    have hi : (idxN x.names t.name).isSome = false := by
      cases e : (idxN x.names t.name).isSome with
      | true => exact absurd (.inr e) hc
      | false => rfl
    have hU : Ups (onW x (wayT t) (addK (lk x (wayT t)) t now)) := hu.on _ (up_add _ _ _)
    have hn := add_names (now := now) (hu.way t)
    refine ⟨?_, hU.a, hU.b⟩
    by_cases he : addE (lk x (wayT t)) t = 0
    · rw [if_pos he] at hn ⊢
      refine h.add hi rfl ?_
      unfold onW lk at *
      by_cases e : wayT t = 0
      · simp only [e, if_true] at hn ⊢
        exact .inl ⟨hn, trivial⟩
      · simp only [e, if_false] at hn ⊢
        exact .inr ⟨trivial, hn⟩
    · rw [if_neg he] at hn ⊢
      have := h.on (wayT t) hn
      refine ⟨h.nd, ?_⟩
      have hp := this.pm
      rw [show (onW x (wayT t) (addK (lk x (wayT t)) t now)).names = x.names from by unfold onW; split <;> rfl] at hp
      exact hp
theorem Nm.dropN {x : Cn} (h : Nm x) (hu : Ups x) (n : ByteArray) (now : Int) : Nm (Conn.dropN x n now) ∧ Ups (Conn.dropN x n now) := by
  unfold Conn.dropN dropW
  have key : ∀ k : Lk, dropE k n = 0 → ∃ j, idxN k.names n = some j ∧ (dropK k n now).names = k.names.eraseIdx j := by
    intro k hk
    unfold dropE at hk
    unfold dropK
    cases hj : idxN k.names n with
    | none => rw [hj] at hk; cases hk
    | some j => exact ⟨j, rfl, rfl⟩
  by_cases h0 : dropE x.a n = 0
  · rw [if_pos h0]
    obtain ⟨j, hj, e⟩ := key _ h0
    obtain ⟨i, hi⟩ := Option.isSome_iff_exists.1 (h.sub 0 n (by show (idxN x.a.names n).isSome = true; rw [hj]; rfl))
    have hU : Ups (onW x 0 (dropK (lk x 0) n now)) := hu.on _ (up_drop _ _ _)
    refine ⟨h.drop hi (by simp only [hi]) (.inl ⟨j, hj, e, rfl⟩), hU.a, hU.b⟩
  · rw [if_neg h0]
    by_cases h1 : dropE x.b n = 0
    · rw [if_pos h1]
      obtain ⟨j, hj, e⟩ := key _ h1
      obtain ⟨i, hi⟩ := Option.isSome_iff_exists.1 (h.sub 1 n (by show (idxN x.b.names n).isSome = true; rw [hj]; rfl))
      have hU : Ups (onW x 1 (dropK (lk x 1) n now)) := hu.on _ (up_drop _ _ _)
      refine ⟨h.drop hi (by simp only [hi]) (.inr ⟨j, hj, rfl, e⟩), hU.a, hU.b⟩
    · rw [if_neg h1]; exact ⟨h, hu⟩
theorem endK_names (bk : Bool) (k : Lk) (now : Int) : (endK bk k now).names = k.names ∧ (endK bk k now).up = k.up := by unfold endK; split <;> exact ⟨rfl, rfl⟩
theorem Nm.does {x : Cn} (h : Nm x) (hu : Ups x) (o : Op) : Nm (doesN x o) ∧ Ups (doesN x o) := by
  unfold doesN
  split
  · unfold sendN
    split
    · exact ⟨h.on _ rfl, hu.on _ rfl⟩
    · exact ⟨h, hu⟩
  split
  · unfold finN
    split
    · exact ⟨h.on _ rfl, hu.on _ rfl⟩
    · exact ⟨h, hu⟩
  split
  · exact ⟨h.same rfl rfl rfl, ⟨hu.a, hu.b⟩⟩
  split
  · unfold stepN
    exact ⟨h.same rfl (endK_names _ _ _).1 (endK_names _ _ _).1, ⟨(endK_names _ _ _).2.trans hu.a, (endK_names _ _ _).2.trans hu.b⟩⟩
  split
  · exact h.addN hu _ _
  split
  · exact h.dropN hu _ _
  split
  · unfold chgN
    exact ⟨h.on _ (up_chg _ _ _).2, hu.on _ (up_chg _ _ _).1⟩
  · exact ⟨h, hu⟩
end Go.Proofs.YtnkgjnmhiedfoaaGreat.Conn
namespace Go.Proofs.YtnkgjnmhiedfoaaGreat.Conn
open Go.RowKit Mem Tick Cargo Toxic Stage Chain Link
set_option maxRecDepth 100000
set_option linter.unusedVariables false
set_option linter.unusedSimpArgs false
abbrev nts : List TypeId := 57 :: lts
structure CNG (w : World) (F : Nat → Prop) (b : Nat) (x : Cn) (G0 G1 : Nat → Prop) (a0 a1 : Nat) (v : Value) : Prop where
  blk : Blk w b 57 #[ptr a0, ptr a1, v]
  A : LK w G0 a0 x.a
  B : LK w G1 a1 x.b
  nv : NV w v x.names
  d01 : ∀ j, G0 j → ¬ G1 j
  dv : ∀ j, v.ownBlock = some j → ¬ G0 j ∧ ¬ G1 j
  all : ∀ j, F j ↔ (j = b ∨ G0 j ∨ G1 j ∨ v.ownBlock = some j)
def CN (w : World) (F : Nat → Prop) (b : Nat) (x : Cn) : Prop := ∃ G0 G1 a0 a1 v, CNG w F b x G0 G1 a0 a1 v
def CTu (w : World) (F : Nat → Prop) (w' : World) (b : Nat) (y : Cn) : Prop := ∃ F', CN w' F' b y ∧ Did F w w' ∧ Stem F F' w
variable {w w' w1 : World} {F : Nat → Prop} {b : Nat} {x y : Cn} {G0 G1 : Nat → Prop} {a0 a1 : Nat} {v : Value}
theorem CNG.typed (h : CNG w F b x G0 G1 a0 a1 v) : Typed w F nts := by
  intro j hj
  rcases (h.all j).1 hj with rfl | hg | hg | hv
  · exact ⟨_, by simp, _, h.blk⟩
  · obtain ⟨t, ht, cs, hb⟩ := h.A.typed j hg
    exact ⟨t, List.mem_cons_of_mem _ ht, cs, hb⟩
  · obtain ⟨t, ht, cs, hb⟩ := h.B.typed j hg
    exact ⟨t, List.mem_cons_of_mem _ ht, cs, hb⟩
  · obtain ⟨cs, hb⟩ := h.nv.typed hv
    exact ⟨_, by simp, _, hb⟩
theorem CNG.cn (h : CNG w F b x G0 G1 a0 a1 v) : CN w F b x := ⟨G0, G1, a0, a1, v, h⟩
theorem CN.typed (h : CN w F b x) : Typed w F nts := by obtain ⟨_, _, _, _, _, h⟩ := h; exact h.typed
theorem CN.lt (h : CN w F b x) {j : Nat} (hj : F j) : j < w.heap.size := h.typed.lt hj
theorem CN.off (h : CN w F b x) {g : Nat} {t : TypeId} {cs : Array Value} (hb : Blk w g t cs) (ht : t ∉ nts) : ¬ F g := h.typed.out hb ht
theorem CNG.kept (h : CNG w F b x G0 G1 a0 a1 v) (hk : ∀ j, F j → w'.heap[j]? = w.heap[j]?) : CNG w' F b x G0 G1 a0 a1 v :=
  ⟨(hk _ ((h.all _).2 (.inl rfl))).trans h.blk, h.A.kept fun j hj => hk j ((h.all j).2 (.inr (.inl hj))), h.B.kept fun j hj => hk j ((h.all j).2 (.inr (.inr (.inl hj)))), h.nv.kept fun j hj => hk j ((h.all j).2 (.inr (.inr (.inr hj)))), h.d01, h.dv, h.all⟩
theorem CNG.below (h : CNG w F b x G0 G1 a0 a1 v) (hb : Below w.heap.size w w') : CNG w' F b x G0 G1 a0 a1 v := h.kept fun j hj => hb.block j (h.typed.lt hj)
theorem CN.kept (h : CN w F b x) (hk : ∀ j, F j → w'.heap[j]? = w.heap[j]?) : CN w' F b x := by
  obtain ⟨G0, G1, a0, a1, v, h⟩ := h
  exact (h.kept hk).cn
theorem CN.below (h : CN w F b x) (hb : Below w.heap.size w w') : CN w' F b x := h.kept fun j hj => hb.block j (h.lt hj)
theorem CN.far (h : CN w F b x) {g : Nat} {t : TypeId} {cs : Array Value} (hb : Blk w g t cs) (ht : t ∉ nts) (i : Nat) (u : Value) : CN (w.setCell ⟨g, i, none⟩ u) F b x :=
  h.kept fun j hj => Below.heap_setCell w ⟨g, i, none⟩ u j fun e => h.off hb ht (by have e' : j = g := e; exact e' ▸ hj)
theorem CTu.refl (h : CN w F b x) : CTu w F w b x := ⟨F, h, Did.refl _ _, Stem.refl _ _⟩
theorem CTu.below (h : CN w F b x) (hb : Below w.heap.size w w') : CTu w F w' b x := ⟨F, h.below hb, Did.of_below hb, Stem.refl _ _⟩
theorem CTu.next {w2 : World} {F1 : Nat → Prop} (hD : Did F w w1) (hS : Stem F F1 w) (k : CTu w1 F1 w2 b y) : CTu w F w2 b y := by
  obtain ⟨F', hL, hd, hs⟩ := k
  exact ⟨F', hL, hD.trans hS hd, hS.trans hD.size hs⟩
theorem CTu.trans {w2 : World} {z : Cn} (h : CTu w F w1 b y) (k : ∀ F', CN w1 F' b y → CTu w1 F' w2 b z) : CTu w F w2 b z := by
  obtain ⟨F', hL, hd, hs⟩ := h
  exact CTu.next hd hs (k F' hL)
theorem CNG.bA (h : CNG w F b x G0 G1 a0 a1 v) : ¬ G0 b := h.A.off h.blk (by decide)
theorem CNG.bB (h : CNG w F b x G0 G1 a0 a1 v) : ¬ G1 b := h.B.off h.blk (by decide)
theorem CNG.vlt (h : CNG w F b x G0 G1 a0 a1 v) {j : Nat} (hj : v.ownBlock = some j) : j < w.heap.size := by
  obtain ⟨cs, hb⟩ := h.nv.typed hj
  exact hb.lt
theorem CNG.turnA (h : CNG w F b x G0 G1 a0 a1 v) {k : Lk} (hT : LTu w G0 w' a0 k) :
    ∃ F' G0', CNG w' F' b { x with a := k } G0' G1 a0 a1 v ∧ Did F w w' ∧ Stem F F' w := by
  obtain ⟨G0', hL, hd, hs⟩ := hT
  refine ⟨fun j => j = b ∨ G0' j ∨ G1 j ∨ v.ownBlock = some j, G0', ⟨h.blk.did hd h.bA, hL, h.B.kept fun j hj => hd.block j (h.B.lt hj) (fun q => h.d01 j q hj), h.nv.kept fun j hj => hd.block j (h.vlt hj) (h.dv j hj).1, fun j hj hj1 => ?_, fun j hj => ⟨fun q => ?_, (h.dv j hj).2⟩, fun j => Iff.rfl⟩, hd.more fun j hj => .inl ((h.all j).2 (.inr (.inl hj))), fun j hj => ?_⟩
  · rcases hs j hj with q | q
    · exact h.d01 j q hj1
    · have := h.B.lt hj1; omega
  · rcases hs j q with z | z
    · exact (h.dv j hj).1 z
    · have := h.vlt hj; omega
  · rcases hj with rfl | hj | hj | hj
    · exact .inl ((h.all _).2 (.inl rfl))
    · exact (hs j hj).imp (fun e => (h.all j).2 (.inr (.inl e))) id
    · exact .inl ((h.all j).2 (.inr (.inr (.inl hj))))
    · exact .inl ((h.all j).2 (.inr (.inr (.inr hj))))
theorem CNG.turnB (h : CNG w F b x G0 G1 a0 a1 v) {k : Lk} (hT : LTu w G1 w' a1 k) :
    ∃ F' G1', CNG w' F' b { x with b := k } G0 G1' a0 a1 v ∧ Did F w w' ∧ Stem F F' w := by
  obtain ⟨G1', hL, hd, hs⟩ := hT
  refine ⟨fun j => j = b ∨ G0 j ∨ G1' j ∨ v.ownBlock = some j, G1', ⟨h.blk.did hd h.bB, h.A.kept fun j hj => hd.block j (h.A.lt hj) (fun q => h.d01 j hj q), hL, h.nv.kept fun j hj => hd.block j (h.vlt hj) (h.dv j hj).2, fun j hj hj1 => ?_, fun j hj => ⟨(h.dv j hj).1, fun q => ?_⟩, fun j => Iff.rfl⟩, hd.more fun j hj => .inl ((h.all j).2 (.inr (.inr (.inl hj)))), fun j hj => ?_⟩
  · rcases hs j hj1 with q | q
    · exact h.d01 j hj q
    · have := h.A.lt hj; omega
  · rcases hs j q with z | z
    · exact (h.dv j hj).2 z
    · have := h.vlt hj; omega
  · rcases hj with rfl | hj | hj | hj
    · exact .inl ((h.all _).2 (.inl rfl))
    · exact .inl ((h.all j).2 (.inr (.inl hj)))
    · exact (hs j hj).imp (fun e => (h.all j).2 (.inr (.inr (.inl e)))) id
    · exact .inl ((h.all j).2 (.inr (.inr (.inr hj))))
def ax (a0 a1 : Nat) (way : Int) : Nat := if way = 0 then a0 else a1
def Gx (G0 G1 : Nat → Prop) (way : Int) : Nat → Prop := if way = 0 then G0 else G1
theorem CNG.lk_ (h : CNG w F b x G0 G1 a0 a1 v) (way : Int) : LK w (Gx G0 G1 way) (ax a0 a1 way) (lk x way) := by
  unfold Gx ax lk
  split
  · exact h.A
  · exact h.B
theorem CNG.turn (h : CNG w F b x G0 G1 a0 a1 v) (way : Int) {k : Lk} (hT : LTu w (Gx G0 G1 way) w' (ax a0 a1 way) k) : CTu w F w' b (onW x way k) := by
  unfold Gx ax at hT
  unfold onW
  by_cases e : way = 0
  · rw [if_pos e, if_pos e] at hT
    obtain ⟨F', G', h1, h2, h3⟩ := h.turnA hT
    rw [if_pos e]
    exact ⟨F', h1.cn, h2, h3⟩
  · rw [if_neg e, if_neg e] at hT
    obtain ⟨F', G', h1, h2, h3⟩ := h.turnB hT
    rw [if_neg e]
    exact ⟨F', h1.cn, h2, h3⟩
theorem is_any (way : Int) (w : World) : Calls Tryz.prog 33 #[.int .i64 way] w fun e w' => e = .returned (.bool (isW way)) ∧ w = w' := by
  unfold isW
  by_cases h0 : way = 0
  · have e0 : (way == 0) = true := by simpa using h0
    clear h0
    go_enter Tryz.func33, Tryz.ntmps33
    go_wp2
    go_ret
    exact ⟨by rw [e0]; rfl, rfl⟩
  · have e0 : (way == 0) = false := by simpa using h0
    clear h0
    go_enter Tryz.func33, Tryz.ntmps33
    go_wp2
    go_ret
    exact ⟨by rw [e0, Bool.false_or]; rfl, rfl⟩
theorem cnames_any (h : CN w F b x) (hn : x.names.length ≤ 1000) :
    Calls Tryz.prog 10 #[ptr b] w fun e w' => ∃ v', e = .returned v' ∧ FreshN w w' v' x.names := by
  obtain ⟨G0, G1, a0, a1, v, h⟩ := h
  have c2 : w.cell? ⟨b, 2, none⟩ = some v := (h.blk.cell 2).trans rfl
  have hC := Lib.hid (clone_str h.nv hn)
  clear h
  go_enter Tryz.func10, Tryz.ntmps10
  go_wp2_with fail
  refine hC.out.mono ?_
  rintro e w1 ⟨v', rfl, hF⟩
  have hF' := Lib.hid hF
  clear hF
  go_wp2
  go_ret
  exact ⟨v', rfl, hF'.out⟩
theorem wayT_any (t : Tox) (w : World) : Calls Tryz.prog 23 #[.agg #[.string t.name, .int .i64 t.kind, .bool t.up, .int .i64 t.often, .int .i64 t.a, .int .i64 t.b]] w fun e w' => e = .returned (.int .i64 (wayT t)) ∧ Below w.heap.size w w' := by
  obtain ⟨t0, t1, t2, t3, t4, t5⟩ := t
  have hB : Below w.heap.size w (w.alloc (.cells #[.string t0, .int .i64 t1, .bool t2, .int .i64 t3, .int .i64 t4, .int .i64 t5] 27)) := (Below.refl _ _).alloc (Nat.le_refl _) _
  unfold wayT
  dsimp only
  cases t2 with
  | true =>
    go_enter Tryz.func23, Tryz.ntmps23
    go_wp2
    go_ret
    exact ⟨rfl, hB⟩
  | false =>
    go_enter Tryz.func23, Tryz.ntmps23
    go_wp2
    go_ret
    exact ⟨rfl, hB⟩
theorem way_01 {way : Int} (h : isW way = true) : way = 0 ∨ way = 1 := by
  unfold isW at h
  simpa using h
theorem CNG.cellx (h : CNG w F b x G0 G1 a0 a1 v) {way : Int} (hw : way = 0 ∨ way = 1) : w.cell? ⟨b, way.toNat, none⟩ = some (ptr (ax a0 a1 way)) := by
  rcases hw with rfl | rfl
  · exact (h.blk.cell 0).trans rfl
  · exact (h.blk.cell 1).trans rfl
end Go.Proofs.YtnkgjnmhiedfoaaGreat.Conn
namespace Go.Proofs.YtnkgjnmhiedfoaaGreat.Conn
open Go.RowKit Mem Tick Cargo Toxic Stage Chain Link
open Go.Proofs.YtnkgjnmhiedfoaaGreatW.PrintLast Pu
set_option maxRecDepth 100000
set_option linter.unusedVariables false
set_option linter.unusedSimpArgs false
variable {w w' w1 : World} {F : Nat → Prop} {b : Nat} {x y : Cn} {M Q : Int}
structure OkN (x : Cn) (M Q : Int) : Prop where
  a : OkK x.a M Q
  b : OkK x.b M Q
theorem OkN.lk (h : OkN x M Q) (way : Int) : OkK (lk x way) M Q := by
  unfold Conn.lk
  split
  · exact h.a
  · exact h.b
theorem cSend_any (h : CN w F b x) (ho : OkN x M Q) (way now : Int) (A : Option Addr) (cap : Nat) (z : ByteArray) (hc : z.size ≤ cap) (hb : BS w A z) (hoff : BS.Off A F) (hM : M + z.size ≤ 1000000000) (hs : (lk x way).sent + z.size ≤ 1000000000) :
    Calls Tryz.prog 18 #[ptr b, .int .i64 way, .int .i64 now, .slice A z.size cap] w fun e w' => e = .returned (.int .i64 (sendA x way now z)) ∧ CTu w F w' b (sendN x way now z) := by
  have hi := Lib.hid (is_any way w)
  unfold sendA sendN
  cases hw : isW way with
  | false =>
    rw [hw] at hi
    have hr := Lib.hid (CTu.refl h)
    clear h hw ho
    go_enter Tryz.func18, Tryz.ntmps18
    go_wp2_with fail
    refine hi.out.mono ?_
    rintro e w1 ⟨rfl, rfl⟩
    clear hi
    go_wp2
    go_ret
    exact ⟨rfl, hr.out⟩
  | true =>
    rw [hw] at hi
    have h01 := way_01 hw
    obtain ⟨G0, G1, a0, a1, v, h⟩ := h
    have hcell := h.cellx h01
    have hk := Lib.hid (kSend_any (h.lk_ way) (ho.lk way) now A cap z hc hb (fun g o e hf => hoff g o e ((h.all g).2 (by unfold Gx at hf; split at hf; exact .inr (.inl hf); exact .inr (.inr (.inl hf))))) hM hs)
    have H := Lib.hid h
    have hway := Lib.hid h01
    have hi0 : (0 : Int) ≤ way := by omega
    have hi1 : way < 2 := by omega
    clear h hw ho h01
    generalize hap : ax a0 a1 way = ap at *
    have hap' := Lib.hid hap
    clear hap
    go_enter Tryz.func18, Tryz.ntmps18
    go_wp2_with fail
    refine hi.out.mono ?_
    rintro e w1 ⟨rfl, rfl⟩
    clear hi
    go_wp2_with fail
    refine hk.out.mono ?_
    rintro e w2 ⟨rfl, hT⟩
    have hr := Lib.hid (H.out.turn way (by rw [hap'.out]; exact hT))
    clear hT hk H
    go_wp2
    go_ret
    exact ⟨rfl, hr.out⟩
theorem cFinish_any (h : CN w F b x) (ho : OkN x M Q) (way now : Int) :
    Calls Tryz.prog 29 #[ptr b, .int .i64 way, .int .i64 now] w fun e w' => e = .returned (.tuple #[]) ∧ CTu w F w' b (finN x way now) := by
  have hi := Lib.hid (is_any way w)
  unfold finN
  cases hw : isW way with
  | false =>
    rw [hw] at hi
    have hr := Lib.hid (CTu.refl h)
    clear h hw ho
    go_enter Tryz.func29, Tryz.ntmps29
    go_wp2_with fail
    refine hi.out.mono ?_
    rintro e w1 ⟨rfl, rfl⟩
    clear hi
    go_wp2
    go_end0
    exact ⟨rfl, hr.out⟩
  | true =>
    rw [hw] at hi
    have h01 := way_01 hw
    obtain ⟨G0, G1, a0, a1, v, h⟩ := h
    have hcell := h.cellx h01
    have hk := Lib.hid (kFinish_any (h.lk_ way) (ho.lk way) now)
    have H := Lib.hid h
    have hway := Lib.hid h01
    have hi0 : (0 : Int) ≤ way := by omega
    have hi1 : way < 2 := by omega
    clear h hw ho h01
    generalize hap : ax a0 a1 way = ap at *
    have hap' := Lib.hid hap
    clear hap
    go_enter Tryz.func29, Tryz.ntmps29
    go_wp2_with fail
    refine hi.out.mono ?_
    rintro e w1 ⟨rfl, rfl⟩
    clear hi
    go_wp2_with fail
    refine hk.out.mono ?_
    rintro e w2 ⟨rfl, hT⟩
    have hr := Lib.hid (H.out.turn way (by rw [hap'.out]; exact hT))
    clear hT hk H
    go_wp2
    go_end0
    exact ⟨rfl, hr.out⟩
def countsN (x : Cn) (way : Int) : Value := if isW way = true then countsV (lk x way) else .agg #[.int .i64 0, .int .i64 0, .int .i64 0, .int .i64 0]
theorem cCounts_any (h : CN w F b x) (ho : OkN x M Q) (hM : M ≤ 1000000000) (way : Int) :
    Calls Tryz.prog 15 #[ptr b, .int .i64 way] w fun e w' => e = .returned (countsN x way) ∧ Below w.heap.size w w' := by
  obtain ⟨W, hW⟩ : ∃ W, W = w.alloc (.cells #[.int .i64 0, .int .i64 0, .int .i64 0, .int .i64 0] 52) := ⟨_, rfl⟩
  have hB : Below w.heap.size w W := by rw [hW]; exact (Below.refl _ _).alloc (Nat.le_refl _) _
  have hR : Blk W w.heap.size 52 #[.int .i64 0, .int .i64 0, .int .i64 0, .int .i64 0] := by rw [hW]; exact Blk.new w _ _
  have hi := Lib.hid (is_any way W)
  have hWB := Lib.hid hB
  have hR' := Lib.hid hR
  unfold countsN
  cases hw : isW way with
  | false =>
    rw [hw] at hi
    clear h hw ho hB
    have z0 : W.cell? ⟨w.heap.size, 0, none⟩ = some (.int .i64 0) := (hR.cell 0).trans rfl
    have z1 : W.cell? ⟨w.heap.size, 1, none⟩ = some (.int .i64 0) := (hR.cell 1).trans rfl
    have z2 : W.cell? ⟨w.heap.size, 2, none⟩ = some (.int .i64 0) := (hR.cell 2).trans rfl
    have z3 : W.cell? ⟨w.heap.size, 3, none⟩ = some (.int .i64 0) := (hR.cell 3).trans rfl
    have g0 := hR.free 0
    have g1 := hR.free 1
    have g2 := hR.free 2
    have g3 := hR.free 3
    clear hR
    go_enter Tryz.func15, Tryz.ntmps15
    go_wp2_with fail
    rw [← hW]
    refine hi.out.mono ?_
    rintro e w1 ⟨rfl, rfl⟩
    clear hi hW
    go_wp2
    refine bodyPost_ret (v := .agg #[.int .i64 0, .int .i64 0, .int .i64 0, .int .i64 0]) (results_cell_row Tryz.results15 _ _ w.heap.size 52 _ (0, 0) _ rfl ((((hR'.out.set_ 0 (.int .i64 0)).set_ 1 (.int .i64 0)).set_ 2 (.int .i64 0)).set_ 3 (.int .i64 0)) Tryz.underlying52 rfl (by kernel_rfl)) rfl ⟨rfl, ?_⟩
    exact (((hWB.out.setCell (p := ⟨w.heap.size, 0, none⟩) (Nat.le_refl _) _).setCell (p := ⟨w.heap.size, 1, none⟩) (Nat.le_refl _) _).setCell (p := ⟨w.heap.size, 2, none⟩) (Nat.le_refl _) _).setCell (p := ⟨w.heap.size, 3, none⟩) (Nat.le_refl _) _
  | true =>
    rw [hw] at hi
    have h01 := way_01 hw
    obtain ⟨G0, G1, a0, a1, v, h⟩ := h
    have h := h.below hB
    have hcell := h.cellx h01
    have hk := Lib.hid (kCounts_any (h.lk_ way) (ho.lk way) hM)
    have hi0 : (0 : Int) ≤ way := by omega
    have hi1 : way < 2 := by omega
    clear h hw ho h01 hB hR
    generalize lk x way = k at *
    generalize ax a0 a1 way = ap at *
    go_enter Tryz.func15, Tryz.ntmps15
    go_wp2_with fail
    rw [← hW]
    refine hi.out.mono ?_
    rintro e w1 ⟨rfl, rfl⟩
    clear hi hW
    go_wp2_with fail
    refine hk.out.mono ?_
    rintro e w2 ⟨rfl, hB⟩
    have hB2 := Lib.hid (hWB.out.trans (hB.mono hWB.out.size))
    have hR2 := Lib.hid (hR'.out.below hB)
    have z0 : w2.cell? ⟨w.heap.size, 0, none⟩ = some (.int .i64 0) := (hR2.out.cell 0).trans rfl
    have z1 : w2.cell? ⟨w.heap.size, 1, none⟩ = some (.int .i64 0) := (hR2.out.cell 1).trans rfl
    have z2 : w2.cell? ⟨w.heap.size, 2, none⟩ = some (.int .i64 0) := (hR2.out.cell 2).trans rfl
    have z3 : w2.cell? ⟨w.heap.size, 3, none⟩ = some (.int .i64 0) := (hR2.out.cell 3).trans rfl
    have g0 := hR2.out.free 0
    have g1 := hR2.out.free 1
    have g2 := hR2.out.free 2
    have g3 := hR2.out.free 3
    clear hB hk hR' hWB hcell
    unfold countsV
    go_wp2
    refine bodyPost_ret (v := countsV k) (results_cell_row Tryz.results15 _ _ w.heap.size 52 _ (0, 0) _ rfl ((((hR2.out.set_ 0 (.int .i64 k.sent)).set_ 1 (.int .i64 k.got)).set_ 2 (.int .i64 (heldL k.c.l))).set_ 3 (.int .i64 k.c.lost)) Tryz.underlying52 rfl (by kernel_rfl)) rfl ⟨rfl, ?_⟩
    exact (((hB2.out.setCell (p := ⟨w.heap.size, 0, none⟩) (Nat.le_refl _) _).setCell (p := ⟨w.heap.size, 1, none⟩) (Nat.le_refl _) _).setCell (p := ⟨w.heap.size, 2, none⟩) (Nat.le_refl _) _).setCell (p := ⟨w.heap.size, 3, none⟩) (Nat.le_refl _) _
end Go.Proofs.YtnkgjnmhiedfoaaGreat.Conn
namespace Go.Proofs.YtnkgjnmhiedfoaaGreat.Conn
open Go.RowKit Go.Shelf Mem Tick Cargo Toxic Stage Chain Link Fen
open Go.Proofs.YtnkgjnmhiedfoaaGreatW.PrintLast Pu
set_option maxRecDepth 100000
set_option linter.unusedVariables false
set_option linter.unusedSimpArgs false
attribute [local go_sem] Oper.semAt_some
variable {w w' w1 : World} {F : Nat → Prop} {b : Nat} {x y : Cn} {M Q : Int}
theorem each_any (b : Nat) (w : World) :
    Calls Tryz.prog 25 #[ptr b] w fun e w' => e = .returned (.func (.func 46) #[] #[ptr w.heap.size]) ∧ w' = w.alloc (.cells #[ptr b] 28) := by
  go_enter Tryz.func25, Tryz.ntmps25
  go_wp2
  go_ret
  exact ⟨rfl, rfl⟩
theorem idx_two (a0 a1 : Nat) (W : World) : (Instr.index 55 (.agg #[ptr a0, ptr a1]) (.int .i64 0)).run Tryz.prog W = .ok (ptr a0) W ∧ (Instr.index 55 (.agg #[ptr a0, ptr a1]) (.int .i64 1)).run Tryz.prog W = .ok (ptr a1) W := by
  constructor <;> rfl
def px (a0 a1 k : Nat) : Nat := if k = 0 then a0 else a1
theorem px_ax (a0 a1 k : Nat) : px a0 a1 k = ax a0 a1 (k : Int) := by
  unfold px ax
  by_cases e : k = 0
  · rw [if_pos e, if_pos (by omega)]
  · rw [if_neg e, if_neg (by omega)]
abbrev encW (a0 a1 : Nat) (k : Nat) : Array Value := #[.int .i64 k, ptr (px a0 a1 k)]
def Kt (_ _ : World) : Prop := True
theorem each_stops (bn b a0 a1 m : Nat) (v : Value) (w : World) (h : w.cell? ⟨bn, 0, none⟩ = some (ptr b)) (h0 : w.cell? ⟨b, 0, none⟩ = some (ptr a0)) (h1 : w.cell? ⟨b, 1, none⟩ = some (ptr a1)) (hl : bn < w.heap.size ∧ b < w.heap.size) :
    SeqStopsK (wideR none) m Tryz.prog 46 #[ptr bn] (fun k : Fin 2 => encW a0 a1 k.1) Kt (fun xs => xs.map Fin.val = [0, 1]) (fun xs => ∃ m, xs.map Fin.val = List.range m) 2 w := fun l J Jx W hW hJ hJx hY hJ0 => by
  have c0 : W.cell? ⟨bn, 0, none⟩ = some (ptr b) := (hW.cell (p := ⟨bn, 0, none⟩) hl.1).trans h
  have d0 : W.cell? ⟨b, 0, none⟩ = some (ptr a0) := (hW.cell (p := ⟨b, 0, none⟩) hl.2).trans h0
  have d1 : W.cell? ⟨b, 1, none⟩ = some (ptr a1) := (hW.cell (p := ⟨b, 1, none⟩) hl.2).trans h1
  have hY' := Lib.hid hY
  clear hY h h0 h1 hJ hJx
  refine callsIn_of_wp Tryz.func46 rfl trivial ?_ rfl
  simp only [Tryz.ntmps46, List.size_toArray, List.length_cons, List.length_nil, Nat.reduceAdd, Nat.reduceSub, Array.replicate_succ, Array.replicate_zero, List.push_toArray, List.append_toArray, List.nil_append, List.cons_append]
  gi_wp2
  gi_loopw [9] (fun p wr => ∃ (k : Nat) (pre : List (Fin 2)), k ≤ 2 ∧ p = .int .i64 k ∧ pre.map Fin.val = List.range k ∧ J pre wr) (fun p wr => 2 - (intOf p).toNat)
  case atStart =>
    exact ⟨0, [], by omega, rfl, rfl, hJ0⟩
  case round =>
    obtain ⟨k, pre, hk, rfl, hpre, hJ1⟩ := hrel
    have hln : pre.length = k := by have := congrArg List.length hpre; rwa [List.length_map, List.length_range] at this
    clear hJ0 c0 d0 d1
    by_cases hlt : k < 2
    · obtain ⟨fn, tmps, assign, body, hy, hR⟩ := hY'.out pre ⟨k, hlt⟩ wr hJ1 (by rw [hln]; exact hlt)
      dsimp only [encW] at hy
      have hpre' := Lib.hid hpre
      clear hpre
      have h01 : k = 0 ∨ k = 1 := by omega
      rcases h01 with rfl | rfl
      · have hy : (Instr.yield l #[.int .i64 0, ptr a0]).run Tryz.prog wr = .ok (.round l fn tmps assign body) wr := hy
        have hix := fun W' => (idx_two a0 a1 W').1
        gi_wp2
        refine ⟨(fun e => by cases e), ?_⟩
        refine hR.mono ?_
        rintro e W3 (⟨rfl, hJ3, -⟩ | ⟨rfl, hJx3⟩)
        · have hJ3' := Lib.hid hJ3
          clear hJ3 hR hy
          gi_wp2
          go_roundw
          case rel => exact ⟨0 + 1, _, by omega, by go_num, by rw [List.map_append, hpre'.out]; rfl, hJ3'.out⟩
          case measure => simp [intOf]
        · gi_wp2
          refine bodyPost_ret (results_none rfl _ _ _) rfl ?_
          exact ⟨⟨_, rfl⟩, .inr ⟨_, ⟨1, by rw [List.map_append, hpre'.out]; rfl⟩, hJx3⟩⟩
      · have hy : (Instr.yield l #[.int .i64 1, ptr a1]).run Tryz.prog wr = .ok (.round l fn tmps assign body) wr := hy
        have hix := fun W' => (idx_two a0 a1 W').2
        gi_wp2
        refine ⟨(fun e => by cases e), ?_⟩
        refine hR.mono ?_
        rintro e W3 (⟨rfl, hJ3, -⟩ | ⟨rfl, hJx3⟩)
        · have hJ3' := Lib.hid hJ3
          clear hJ3 hR hy
          gi_wp2
          go_roundw
          case rel => exact ⟨1 + 1, _, by omega, by go_num, by rw [List.map_append, hpre'.out]; rfl, hJ3'.out⟩
          case measure => simp [intOf]
        · gi_wp2
          refine bodyPost_ret (results_none rfl _ _ _) rfl ?_
          exact ⟨⟨_, rfl⟩, .inr ⟨_, ⟨2, by rw [List.map_append, hpre'.out]; rfl⟩, hJx3⟩⟩
    · have hk2 : k = 2 := by omega
      subst hk2
      gi_wp2
      go_end0
      exact ⟨⟨_, rfl⟩, .inl ⟨pre, hpre, hJ1⟩⟩
def CNp (w : World) (F : Nat → Prop) (b a0 a1 : Nat) (x : Cn) : Prop := ∃ G0 G1 v, CNG w F b x G0 G1 a0 a1 v
def CTp (w : World) (F : Nat → Prop) (w' : World) (b a0 a1 : Nat) (y : Cn) : Prop := ∃ F', CNp w' F' b a0 a1 y ∧ Did F w w' ∧ Stem F F' w
variable {a0 a1 : Nat}
theorem CNp.cn (h : CNp w F b a0 a1 x) : CN w F b x := by obtain ⟨G0, G1, v, h⟩ := h; exact h.cn
theorem CTp.tu (h : CTp w F w' b a0 a1 y) : CTu w F w' b y := by obtain ⟨F', h1, h2, h3⟩ := h; exact ⟨F', h1.cn, h2, h3⟩
theorem CNp.kept (h : CNp w F b a0 a1 x) (hk : ∀ j, F j → w'.heap[j]? = w.heap[j]?) : CNp w' F b a0 a1 x := by
  obtain ⟨G0, G1, v, h⟩ := h
  exact ⟨G0, G1, v, h.kept hk⟩
theorem CNp.below (h : CNp w F b a0 a1 x) (hb : Below w.heap.size w w') : CNp w' F b a0 a1 x := h.kept fun j hj => hb.block j (h.cn.lt hj)
theorem CTp.next {w2 : World} {F1 : Nat → Prop} (hD : Did F w w1) (hS : Stem F F1 w) (k : CTp w1 F1 w2 b a0 a1 y) : CTp w F w2 b a0 a1 y := by
  obtain ⟨F', hL, hd, hs⟩ := k
  exact ⟨F', hL, hD.trans hS hd, hS.trans hD.size hs⟩
theorem CNp.turnG {G0 G1 : Nat → Prop} {v : Value} (h : CNG w F b x G0 G1 a0 a1 v) (way : Int) {k : Lk} (hT : LTu w (Gx G0 G1 way) w' (ax a0 a1 way) k) : CTp w F w' b a0 a1 (onW x way k) := by
  unfold Gx ax at hT
  unfold onW
  by_cases e : way = 0
  · rw [if_pos e, if_pos e] at hT
    obtain ⟨F', G', h1, h2, h3⟩ := h.turnA hT
    rw [if_pos e]
    exact ⟨F', ⟨_, _, _, h1⟩, h2, h3⟩
  · rw [if_neg e, if_neg e] at hT
    obtain ⟨F', G', h1, h2, h3⟩ := h.turnB hT
    rw [if_neg e]
    exact ⟨F', ⟨_, _, _, h1⟩, h2, h3⟩
theorem cn_own {F' : Nat → Prop} {W W' : World} {y : Cn} {row : Option Nat} (hC : CNp W F' b a0 a1 y) (hg : W.grownBy W' row) (hr : ∀ r, row = some r → ∃ o : Obj, W.heap[r]? = some o ∧ o.isCells = false) : CNp W' F' b a0 a1 y := by
  refine hC.kept fun j hj => hg.block j (hC.cn.lt hj) ?_
  intro e
  obtain ⟨o, ho, hc⟩ := hr j e.symm
  obtain ⟨ty, _, cs, hb⟩ := hC.cn.typed j hj
  unfold Blk at hb
  rw [ho] at hb
  cases hb
  cases hc
theorem ckeeps_did {F' : Nat → Prop} {W W2 : World} {y : Cn} (hC : CN W F' b y) (hD : Did F' W W2) : KeepsOthers W W2 :=
  ⟨hD.size, fun k o hk ho => (hD.block k (Array.getElem?_eq_some_iff.1 hk).1 (fun hf => by
    obtain ⟨ty, _, cs, hb⟩ := hC.typed k hf
    unfold Blk at hb
    rw [hk] at hb
    cases hb
    cases ho)).trans hk⟩
def CInv (wL : World) (F1 : Nat → Prop) (b a0 a1 : Nat) (f : List Nat → Cn) (pre : List (Fin 2)) (W : World) : Prop := CTp wL F1 W b a0 a1 (f (pre.map Fin.val))
theorem ctp_own {wL W W' : World} {F1 : Nat → Prop} {row : Option Nat} {y : Cn} (h : CTp wL F1 W b a0 a1 y) (hg : W.grownBy W' row) (hr : ∀ r, row = some r → wL.heap.size ≤ r ∧ ∃ o : Obj, W.heap[r]? = some o ∧ o.isCells = false) : CTp wL F1 W' b a0 a1 y := by
  obtain ⟨F', hC, hD, hS⟩ := h
  refine ⟨F', cn_own hC hg fun r e => (hr r e).2, ⟨hg.os.trans hD.os, hg.tape.trans hD.tape, hg.output.trans hD.output, Nat.le_trans hD.size hg.size, fun k hk hn => (hg.block k (Nat.lt_of_lt_of_le hk hD.size) ?_).trans (hD.block k hk hn)⟩, hS⟩
  intro e
  have := (hr k e.symm).1
  omega
theorem cinv_own (wL : World) (F1 : Nat → Prop) (f : List Nat → Cn) : OwnFrom wL.heap.size (CInv wL F1 b a0 a1 f) := by
  rintro pre W W' row h hg hr
  exact ctp_own h hg hr
theorem cdid_blk {W W2 : World} {k : Nat} {ty : TypeId} {cs : Array Value} {G : Nat → Prop} {y : Cn} (hC : CN W G b y) (hD : Did G W W2) (hb : Blk W k ty cs) (ht : ty ∉ nts) : Blk W2 k ty cs := hb.did hD (hC.typed.out hb ht)
def cutF (ks : List Nat) (x : Cn) : Cn := ks.foldl (fun (x : Cn) (k : Nat) => onW x (k : Int) (cutK (lk x (k : Int)))) x
theorem cutF_snoc (ks : List Nat) (k : Nat) (x : Cn) : cutF (ks ++ [k]) x = onW (cutF ks x) k (cutK (lk (cutF ks x) k)) := by unfold cutF; rw [List.foldl_append]; rfl
theorem okK_cut {k : Lk} (h : OkK k M Q) (hQ : 0 ≤ Q) (hM : 0 ≤ M) (hd : k.drawn + 1 ≤ 1000000000) : OkK (cutK k) M (Q + 30 * M) ∧ (cutK k).drawn = k.drawn := by
  have := (h.does hQ hd ⟨2, 0, 0, ⟨#[]⟩, noTox⟩).more (M' := M) (Q' := Q + 30 * M) (by show M + 0 ≤ M; omega) (by show Q + 30 * (M + 0) ≤ _; omega)
  exact ⟨this, rfl⟩
theorem cutF_two (x : Cn) : cutF [0, 1] x = cutN x := by
  unfold cutF onW lk cutN
  simp
theorem OkN.on (h : OkN x M Q) {Q' : Int} (hQ : Q ≤ Q') (way : Int) {k : Lk} (hk : OkK k M Q') : OkN (onW x way k) M Q' := by
  unfold onW
  split
  · exact ⟨hk, h.b.more (Int.le_refl _) hQ⟩
  · exact ⟨h.a.more (Int.le_refl _) hQ, hk⟩
def Dr (x : Cn) (n : Int) : Prop := x.a.drawn ≤ n ∧ x.b.drawn ≤ n
theorem Dr.lk {n : Int} (h : Dr x n) (way : Int) : (lk x way).drawn ≤ n := by
  unfold Conn.lk
  split
  · exact h.1
  · exact h.2
theorem Dr.on {n : Int} (h : Dr x n) (way : Int) {k : Lk} (hk : k.drawn ≤ n) : Dr (onW x way k) n := by
  unfold onW
  split
  · exact ⟨hk, h.2⟩
  · exact ⟨h.1, hk⟩
theorem cutF_ok (hM : 0 ≤ M) {n : Int} (hn : n + 1 ≤ 1000000000) : ∀ (ks : List Nat) (x : Cn) (Q : Int), OkN x M Q → 0 ≤ Q → Dr x n → ∃ Q', OkN (cutF ks x) M Q' ∧ 0 ≤ Q' ∧ Dr (cutF ks x) n
  | [], x, Q, h, hQ, hd => ⟨Q, h, hQ, hd⟩
  | k :: r, x, Q, h, hQ, hd => by
    have h1 := okK_cut (h.lk k) hQ hM (by have := hd.lk k; omega)
    exact cutF_ok hM hn r _ (Q + 30 * M) (h.on (by omega) k h1.1) (by omega) (hd.on k (by rw [h1.2]; exact hd.lk k))
set_option maxHeartbeats 4000000 in
theorem cCut_any (h : CN w F b x) (ho : OkN x M Q) (hM : M ≤ 1000000000) (hQ : 0 ≤ Q) {n : Int} (hd : Dr x n) (hn : n + 1 ≤ 1000000000) (now : Int) :
    Calls Tryz.prog 30 #[ptr b, .int .i64 now] w fun e w' => e = .returned (.tuple #[]) ∧ CTu w F w' b (cutN x) := by
  have hb := (Below.refl w.heap.size w).alloc (Nat.le_refl _) (.cells #[.int .i64 now] 3)
  obtain ⟨G0, G1, a0, a1, v, h⟩ := h
  have hN := Lib.hid (Blk.new w 3 #[.int .i64 now])
  have hC := Lib.hid (h.below hb)
  have hD0 := Lib.hid (Did.of_below (F := F) hb)
  clear h hb
  refine (callsIn_wide (n := 9)).1 ?_
  show CallsIn (wideR none) 9 Tryz.prog 30 _ _ _
  refine callsIn_of_wp_marks Tryz.func30 rfl trivial ?_ rfl
  simp only [Tryz.ntmps30, List.size_toArray, List.length_cons, List.length_nil, Nat.reduceAdd, Nat.reduceSub, Array.replicate_succ, Array.replicate_zero, List.push_toArray, List.append_toArray, List.nil_append, List.cons_append]
  gi_wp2_with fail
  refine ⟨trivial, ?_⟩
  refine (callsIn_wideR (each_any b _)).mono ?_
  rintro e w2 ⟨rfl, hw2⟩
  have hB2 : Below w.heap.size w w2 := by rw [hw2]; exact ((Below.refl _ _).alloc (Nat.le_refl _) _).alloc (by simp) _
  have hC2 := Lib.hid (show CNG w2 F b x G0 G1 a0 a1 v from by rw [hw2]; exact hC.out.below ((Below.refl _ _).alloc (Nat.le_refl _) _))
  have hN2 := Lib.hid (show Blk w2 w.heap.size 3 #[.int .i64 now] from by rw [hw2]; exact hN.out.below ((Below.refl _ _).alloc (Nat.le_refl _) _))
  have hbn := Lib.hid (show Blk w2 (w.heap.size + 1) 28 #[ptr b] from by
    rw [hw2]
    have := Blk.new (w.alloc (.cells #[.int .i64 now] 3)) 28 #[ptr b]
    simpa using this)
  have hD2 := Lib.hid (Did.of_below (F := F) hB2)
  have hM0 : 0 ≤ M := by have := ho.a.c.held; omega
  have hok := Lib.hid (fun ks => cutF_ok hM0 hn ks x Q ho hQ hd)
  clear hC hN hD0 hB2 ho hd
  gi_wp2
  rw [← hw2]
  clear hw2
  refine wpIn_rangeFunc_ownH (F := wideR none) rfl (by omega) (gf := 46) (lb := #[ptr (w.heap.size + 1)]) rfl trivial (enters_of Tryz.func46 (by kernel_rfl) rfl)
    (each_stops (w.heap.size + 1) b a0 a1 (9 - 1) v w2 ((hbn.out.cell 0).trans rfl) ((hC2.out.blk.cell 0).trans rfl) ((hC2.out.blk.cell 1).trans rfl) ⟨hbn.out.lt, hC2.out.blk.lt⟩) (fun _ _ => trivial) (fun _ _ _ _ _ _ _ _ => trivial) (Below.refl _ _) (fun _ => rfl)
    (CInv w2 F b a0 a1 (fun ks => cutF ks x))
    (fun _ _ _ => False)
    (cinv_own _ _ _)
    (fun _ _ _ _ _ hs _ _ => hs)
    ⟨F, ⟨_, _, _, hC2.out⟩, Did.refl _ _, Stem.refl _ _⟩
    (fun k a' W => a' = { tmps := #[ptr b, .int .i64 now, undef, ptr w.heap.size, undef, ptr (px a0 a1 k.1), ptr b, .func (.func 46) #[] #[ptr (w.heap.size + 1)], .int .i64 k.1, ptr (px a0 a1 k.1), undef, undef, undef], defers := [] })
    (fun k a' _ X Y row hs hg hr => hs)
    ?assign ?body ?done ?stop
  case assign =>
    intro l pre k W K hI hK
    gi_wp2
    exact hK _ _ (KeepsFrom.refl _ _) trivial hI rfl
  case body =>
    rintro l pre k a' W hl hr ⟨F2, hC, hD, hS⟩ rfl hlt
    clear hr hl
    have hC : CNp W F2 b a0 a1 (cutF (pre.map Fin.val) x) := hC
    obtain ⟨Q', hok', -, -⟩ := hok.out (pre.map Fin.val)
    have hsn := Lib.hid (cutF_snoc (pre.map Fin.val) k.1 x)
    generalize cutF (pre.map Fin.val) x = y at *
    have hNW := cdid_blk hC2.out.cn hD hN2.out (by decide)
    have qn : W.cell? ⟨w.heap.size, 0, none⟩ = some (.int .i64 now) := (hNW.cell 0).trans rfl
    obtain ⟨H0, H1, v2, hG⟩ := hC
    have hax := px_ax a0 a1 k.1
    have hk := Lib.hid (kCut_any (hG.lk_ (k.1 : Int)) (hok'.lk (k.1 : Int)) hM now)
    rw [hax]
    have HG := Lib.hid hG
    have HI := Lib.hid (And.intro hD hS)
    clear hG hD hS hNW hok' hax
    generalize hap : ax a0 a1 (k.1 : Int) = ap at *
    have hap' := Lib.hid hap
    clear hap
    gi_wp2_with fail
    refine ⟨trivial, ?_⟩
    refine (callsIn_wideR hk.out).mono ?_
    rintro e w3 ⟨rfl, hT⟩
    have hT' := CNp.turnG HG.out (k.1 : Int) (by rw [hap'.out]; exact hT)
    have hfin := Lib.hid (show KeepsFrom w2.heap.size W w3 ∧ Kt W w3 ∧ CInv w2 F b a0 a1 (fun ks => cutF ks x) (pre ++ [k]) w3 from by
      refine ⟨?_, trivial, ?_⟩
      · obtain ⟨F3, hC3, hD3, hS3⟩ := hT'
        exact (ckeeps_did HG.out.cn hD3).from _
      · unfold CInv
        rw [List.map_append, List.map_cons, List.map_nil]
        show CTp w2 F w3 b a0 a1 (cutF (pre.map Fin.val ++ [k.1]) x)
        rw [hsn.out]
        exact CTp.next HI.out.1 HI.out.2 hT')
    clear hT hT' hk HG HI hsn
    gi_wp2
    exact hfin.out
  case done =>
    rintro D0 xs W hD0 hxs hI hK
    have hI : CTp w2 F W b a0 a1 (cutF (xs.map Fin.val) x) := hI
    rw [hxs, cutF_two] at hI
    have hI' := Lib.hid hI
    have hK' := Lib.hid hK
    clear hI hK hxs
    gi_wp2
    refine ⟨by simp, .inl ⟨_, _, rfl, run_takeDeferred hK'.out, ?_⟩⟩
    refine ⟨_, results_none rfl _ _ _, ?_⟩
    refine ⟨rfl, ?_⟩
    have h1 := ctp_own hI'.out (grownBy_putObj' W D0 (.deferred none)) (fun r e => by cases e; exact ⟨hD0, _, hK'.out, rfl⟩)
    exact (CTp.next hD2.out (Stem.refl _ _) h1).tu
  case stop =>
    rintro D0 cd pre W _ _ h _
    exact h.elim
end Go.Proofs.YtnkgjnmhiedfoaaGreat.Conn
namespace Go.Proofs.YtnkgjnmhiedfoaaGreat.Conn
open Go.RowKit Go.Shelf Mem Tick Cargo Toxic Stage Chain Link Fen
open Go.Proofs.YtnkgjnmhiedfoaaGreatW.PrintLast Pu
set_option maxRecDepth 100000
set_option linter.unusedVariables false
set_option linter.unusedSimpArgs false
attribute [local go_sem] Oper.semAt_some
variable {w w' w1 : World} {F : Nat → Prop} {b : Nat} {x y : Cn} {M Q : Int} {a0 a1 : Nat}
def OInv (w : World) (x : Cn) (pre : List (Fin 2)) (W : World) : Prop := Below w.heap.size w W ∧ Blk W w.heap.size 4 #[.bool false] ∧ ∀ k ∈ pre, (lk x (k.1 : Int)).done = true
def OOut (w : World) (x : Cn) (c : Code) (pre : List (Fin 2)) (W : World) : Prop := c = .ret ∧ Below w.heap.size w W ∧ Blk W w.heap.size 4 #[.bool false] ∧ ∃ k ∈ pre, (lk x (k.1 : Int)).done = false
theorem below_own {W W' : World} {row : Option Nat} (h : Below w.heap.size w W) (hg : W.grownBy W' row) (hr : ∀ r, row = some r → w.heap.size ≤ r) : Below w.heap.size w W' := h.grown hg h.size hr
theorem over_no {k : Fin 2} (h : (lk x (k.1 : Int)).done = false) : overB x = false := by
  unfold overB
  unfold lk at h
  split at h
  · rw [h]; rfl
  · rw [h, Bool.and_false]
theorem over_yes (h : (lk x 0).done = true) (h1 : (lk x 1).done = true) : overB x = true := by
  unfold overB
  have e0 : lk x 0 = x.a := rfl
  have e1 : lk x 1 = x.b := rfl
  rw [e0] at h
  rw [e1] at h1
  rw [h, h1]; rfl
set_option maxHeartbeats 4000000 in
theorem cOver_any (h : CN w F b x) :
    Calls Tryz.prog 14 #[ptr b] w fun e w' => e = .returned (.bool (overB x)) ∧ Below w.heap.size w w' := by
  have hb := (Below.refl w.heap.size w).alloc (Nat.le_refl _) (.cells #[.bool false] 4)
  obtain ⟨G0, G1, a0, a1, v, h⟩ := h
  have hN := Lib.hid (Blk.new w 4 #[.bool false])
  have hC := Lib.hid h
  have hlt := h.blk.lt
  clear h hb
  refine (callsIn_wide (n := 9)).1 ?_
  show CallsIn (wideR none) 9 Tryz.prog 14 _ _ _
  refine callsIn_of_wp_marks Tryz.func14 rfl trivial ?_ rfl
  simp only [Tryz.ntmps14, List.size_toArray, List.length_cons, List.length_nil, Nat.reduceAdd, Nat.reduceSub, Array.replicate_succ, Array.replicate_zero, List.push_toArray, List.append_toArray, List.nil_append, List.cons_append]
  gi_wp2_with fail
  refine ⟨trivial, ?_⟩
  refine (callsIn_wideR (each_any b _)).mono ?_
  rintro e w2 ⟨rfl, hw2⟩
  have hB2 := Lib.hid (show Below w.heap.size w w2 from by rw [hw2]; exact ((Below.refl _ _).alloc (Nat.le_refl _) _).alloc (by simp) _)
  have hN2 := Lib.hid (show Blk w2 w.heap.size 4 #[.bool false] from by rw [hw2]; exact hN.out.below ((Below.refl _ _).alloc (Nat.le_refl _) _))
  have hbn := Lib.hid (show Blk w2 (w.heap.size + 1) 28 #[ptr b] from by
    rw [hw2]
    have := Blk.new (w.alloc (.cells #[.bool false] 4)) 28 #[ptr b]
    simpa using this)
  have hC2 := Lib.hid (hC.out.below hB2.out)
  have hs2 : w.heap.size + 1 < w2.heap.size := hbn.out.lt
  clear hN
  gi_wp2
  rw [← hw2]
  clear hw2
  refine wpIn_rangeFunc_ownH (F := wideR none) rfl (by omega) (gf := 46) (lb := #[ptr (w.heap.size + 1)]) rfl trivial (enters_of Tryz.func46 (by kernel_rfl) rfl)
    (each_stops (w.heap.size + 1) b a0 a1 (9 - 1) v w2 ((hbn.out.cell 0).trans rfl) ((hC2.out.blk.cell 0).trans rfl) ((hC2.out.blk.cell 1).trans rfl) ⟨hbn.out.lt, hC2.out.blk.lt⟩) (fun _ _ => trivial) (fun _ _ _ _ _ _ _ _ => trivial) (Below.refl _ _) (fun _ => rfl)
    (OInv w x) (OOut w x)
    (fun s X Y row hs hg hr => ⟨below_own hs.1 hg (fun r e => by have := (hr r e).1; omega), blk_own hs.2.1 hg (fun r e => (hr r e).2), hs.2.2⟩)
    (fun c s X Y row hs hg hr => ⟨hs.1, below_own hs.2.1 hg (fun r e => by have := (hr r e).1; omega), blk_own hs.2.2.1 hg (fun r e => (hr r e).2), hs.2.2.2⟩)
    ⟨hB2.out, hN2.out, fun k hk => by simp at hk⟩
    (fun k a' W => a' = { tmps := #[ptr b, undef, ptr w.heap.size, undef, ptr (px a0 a1 k.1), ptr b, .func (.func 46) #[] #[ptr (w.heap.size + 1)], .int .i64 k.1, ptr (px a0 a1 k.1), undef, undef, undef], defers := [] })
    (fun k a' _ X Y row hs hg hr => hs)
    ?assign ?body ?done ?stop
  case assign =>
    intro l pre k W K hI hK
    gi_wp2
    exact hK _ _ (KeepsFrom.refl _ _) trivial hI rfl
  case body =>
    rintro l pre k a' W hl hr ⟨hB, hblk, hall⟩ rfl hlt2
    clear hr hl
    have hCW := hC.out.below hB
    have hd := Lib.hid (kDone_any (hCW.lk_ (k.1 : Int)))
    rw [px_ax]
    have f0 := hblk.free 0
    have z0 : W.cell? ⟨w.heap.size, 0, none⟩ = some (.bool false) := (hblk.cell 0).trans rfl
    have hI := Lib.hid (And.intro hB (And.intro hblk hall))
    have hkm : ∀ q, k ∈ q ++ [k] := fun q => by simp
    clear hCW hB hblk hall
    generalize ax a0 a1 (k.1 : Int) = ap at *
    cases hdn : (lk x (k.1 : Int)).done with
    | true =>
      rw [hdn] at hd
      have hdn' := Lib.hid hdn
      clear hdn
      gi_wp2_with fail
      refine ⟨trivial, ?_⟩
      refine (callsIn_wideR hd.out).mono ?_
      rintro e w3 ⟨rfl, rfl⟩
      clear hd
      gi_wp2
      refine ⟨KeepsFrom.refl _ _, trivial, hI.out.1, hI.out.2.1, fun q hq => ?_⟩
      rcases List.mem_append.1 hq with h1 | h1
      · exact hI.out.2.2 q h1
      · rw [List.mem_singleton.1 h1]; exact hdn'.out
    | false =>
      rw [hdn] at hd
      have hdn' := Lib.hid hdn
      clear hdn
      gi_wp2_with fail
      refine ⟨trivial, ?_⟩
      refine (callsIn_wideR hd.out).mono ?_
      rintro e w3 ⟨rfl, rfl⟩
      clear hd
      gi_wp2
      exact ⟨(KeepsOthers.setCell _ _ _).from _, rfl, hI.out.1.setCell (p := ⟨w.heap.size, 0, none⟩) (Nat.le_refl _) _, hI.out.2.1.set_ 0 (.bool false), k, hkm _, hdn'.out⟩
  case done =>
    rintro D0 xs W hD0 hxs ⟨hB, hblk, hall⟩ hK
    have h0 : (0 : Fin 2) ∈ xs ∧ (1 : Fin 2) ∈ xs := by
      rcases xs with _ | ⟨p, _ | ⟨q, _ | ⟨r, z⟩⟩⟩
      · simp at hxs
      · simp at hxs
      · simp at hxs
        have e0 : p = 0 := hxs.1
        have e1 : q = 1 := Fin.ext hxs.2
        subst e0 e1
        simp
      · simp at hxs
    have hov := Lib.hid (over_yes (x := x) (hall 0 h0.1) (hall 1 h0.2))
    have f0 := hblk.free 0
    have z0 : W.cell? ⟨w.heap.size, 0, none⟩ = some (.bool false) := (hblk.cell 0).trans rfl
    have hI := Lib.hid (And.intro hB hblk)
    have hK' := Lib.hid hK
    have hwB : w.heap.size < D0 := by omega
    clear hB hblk hall hK hxs h0
    gi_wp2
    have hK2 := (KeepsOthers.setCell W ⟨w.heap.size, 0, none⟩ (.bool true)).same D0 _ hK'.out rfl
    refine ⟨by simp, .inl ⟨_, _, rfl, run_takeDeferred hK2, ?_⟩⟩
    have hbk := blk_own (hI.out.2.set_ 0 (.bool true)) (grownBy_putObj' _ D0 (.deferred none)) (fun r e => by cases e; exact ⟨_, hK2, rfl⟩)
    have hc5 := (hbk.cell 0).trans rfl
    refine ⟨.bool true, ?_, by rw [hov.out], ?_⟩
    · simp [results, Tryz.f14, go_sem, hc5]
    · exact below_own (hI.out.1.setCell (p := ⟨w.heap.size, 0, none⟩) (Nat.le_refl _) _) (grownBy_putObj' _ D0 (.deferred none)) (fun r e => by cases e; omega)
  case stop =>
    rintro D0 cd pre W hD0 _ ⟨rfl, hB, hblk, k, hk, hkd⟩ hK
    have hov := Lib.hid (over_no hkd)
    have hI := Lib.hid (And.intro hB hblk)
    have hK' := Lib.hid hK
    clear hB hblk hK hkd hk
    gi_wp2
    refine ⟨by simp, .inl ⟨_, _, rfl, run_takeDeferred hK'.out, ?_⟩⟩
    have hbk := blk_own hI.out.2 (grownBy_putObj' _ D0 (.deferred none)) (fun r e => by cases e; exact ⟨_, hK'.out, rfl⟩)
    have hc5 := (hbk.cell 0).trans rfl
    refine ⟨.bool false, ?_, by rw [hov.out], ?_⟩
    · simp [results, Tryz.f14, go_sem, hc5]
    · exact below_own hI.out.1 (grownBy_putObj' _ D0 (.deferred none)) (fun r e => by cases e; omega)
end Go.Proofs.YtnkgjnmhiedfoaaGreat.Conn
namespace Go.Proofs.YtnkgjnmhiedfoaaGreat.Conn
open Go.RowKit Mem Tick Cargo Toxic Stage Chain Link
open Go.Proofs.YtnkgjnmhiedfoaaGreatW.PrintLast Pu
set_option maxRecDepth 100000
set_option linter.unusedVariables false
set_option linter.unusedSimpArgs false
variable {w w' w1 : World} {F : Nat → Prop} {b : Nat} {x y : Cn} {M Q : Int} {G0 G1 : Nat → Prop} {a0 a1 : Nat} {v : Value}
theorem CNG.names (h : CNG w F b x G0 G1 a0 a1 v) {v' : Value} {l' : List ByteArray} (hd : Did (fun j => v.ownBlock = some j) w w1) (hN : NV w1 v' l') (hv : ∀ j, v'.ownBlock = some j → v.ownBlock = some j ∨ w.heap.size ≤ j) :
    CNG (w1.setCell ⟨b, 2, none⟩ v') (fun j => j = b ∨ G0 j ∨ G1 j ∨ v'.ownBlock = some j) b { x with names := l' } G0 G1 a0 a1 v' ∧ Did F w (w1.setCell ⟨b, 2, none⟩ v') ∧ Stem F (fun j => j = b ∨ G0 j ∨ G1 j ∨ v'.ownBlock = some j) w := by
  have hbv : ¬ (v.ownBlock = some b) := fun e => by
    obtain ⟨cs, hvb⟩ := h.nv.typed e
    exact absurd (h.blk.ty hvb) (by decide)
  have hb1 := h.blk.did hd hbv
  refine ⟨⟨?_, ?_, ?_, ?_, h.d01, fun j hj => ?_, fun j => Iff.rfl⟩, ?_, fun j hj => ?_⟩
  · have := hb1.set_ 2 v'
    simpa using this
  · refine h.A.kept fun j hj => (Below.heap_setCell _ _ _ j ?_).trans (hd.block j (h.A.lt hj) (fun e => (h.dv j e).1 hj))
    rintro rfl
    exact h.bA hj
  · refine h.B.kept fun j hj => (Below.heap_setCell _ _ _ j ?_).trans (hd.block j (h.B.lt hj) (fun e => (h.dv j e).2 hj))
    rintro rfl
    exact h.bB hj
  · refine hN.kept fun j hj => Below.heap_setCell _ _ _ j ?_
    rintro rfl
    obtain ⟨cs, hvb⟩ := hN.typed hj
    exact absurd (hb1.ty hvb) (by decide)
  · rcases hv j hj with e | e
    · exact h.dv j e
    · exact ⟨fun q => by have := h.A.lt q; omega, fun q => by have := h.B.lt q; omega⟩
  · exact (hd.more fun j hj => .inl ((h.all j).2 (.inr (.inr (.inr hj))))).setCell (p := ⟨b, 2, none⟩) (.inl ((h.all b).2 (.inl rfl))) _
  · rcases hj with rfl | hj | hj | hj
    · exact .inl ((h.all _).2 (.inl rfl))
    · exact .inl ((h.all j).2 (.inr (.inl hj)))
    · exact .inl ((h.all j).2 (.inr (.inr (.inl hj))))
    · exact (hv j hj).imp (fun e => (h.all j).2 (.inr (.inr (.inr e)))) id
theorem CNG.drew (h : CNG w F b x G0 G1 a0 a1 v) : CNG w.drew F b x G0 G1 a0 a1 v := h.below (Below.refl _ _).drew
theorem wayT_01 (t : Tox) : wayT t = 0 ∨ wayT t = 1 := by unfold wayT; split <;> simp
theorem add_bad (h : CN w F b x) (ho : OkN x M Q) (hn16 : x.names.length ≤ 100) (t0 : ByteArray) (t1 : Int) (t2 : Bool) (t3 t4 t5 now : Int) (hz : chk ⟨t0, t1, t2, t3, t4, t5⟩ ≠ 0) :
    Calls Tryz.prog 11 #[ptr b, .agg #[.string t0, .int .i64 t1, .bool t2, .int .i64 t3, .int .i64 t4, .int .i64 t5], .int .i64 now] w fun e w' => e = .returned (.int .i64 (chk ⟨t0, t1, t2, t3, t4, t5⟩)) ∧ CTu w F w' b (x) := by
  obtain ⟨G0, G1, a0, a1, v, h⟩ := h
  have hvs := h.nv.sr
  obtain ⟨A0, cp0, hv, _⟩ := hvs
  subst hv
  have hb0 := (Below.refl w.heap.size w).alloc (Nat.le_refl _) (.cells #[.string t0, .int .i64 t1, .bool t2, .int .i64 t3, .int .i64 t4, .int .i64 t5] 27)
  have hblk0 := Lib.hid (Blk.new w 27 #[.string t0, .int .i64 t1, .bool t2, .int .i64 t3, .int .i64 t4, .int .i64 t5])
  have hH0 := Lib.hid (h.below hb0)
  have hb0' := Lib.hid hb0
  have hck := Lib.hid (fun wy => check_any ⟨t0, t1, t2, t3, t4, t5⟩ wy)
  have hl0 := Lib.hid (CTu.refl h.cn)
  have tz : (chk ⟨t0, t1, t2, t3, t4, t5⟩ == 0) = false := by simpa using hz
  clear h hb0 ho hz
  generalize hE : chk ⟨t0, t1, t2, t3, t4, t5⟩ = E at *
  go_enter Tryz.func11, Tryz.ntmps11
  go_wp2_with fail
  refine (hck.out _).mono ?_
  rintro e w1 ⟨rfl, hB⟩
  have hB1 := Lib.hid (bw_below hb0'.out hB)
  have hblk1 := Lib.hid (hblk0.out.below hB)
  have hH1 := Lib.hid (hH0.out.below hB)
  clear hB hb0' hblk0 hH0 hck
  go_wp2
  refine start_ (n := 11) (S := fun w' => True) (ds := []) (m_ 11 0) (by kernel_rfl) rfl (by kernel_rfl) trivial (fun hHeld => ?_)
  refine pq_ 0 10 11 1 ?_
  refine pq_ 1 11 11 3 ?_
  refine pq_ 2 12 11 7 ?_
  refine oq_ 3 13 11 15 ?_
  refine oq_ 4 14 11 31 ?_
  refine oq_ 5 15 11 63 ?_
  refine oq_ 6 16 11 127 ?_
  refine oq_ 7 17 11 255 ?_
  refine oq_ 8 18 11 511 ?_
  refine oq_ 9 19 11 1023 ?_
  refine pq_ 10 20 11 2047 ?_
  refine done_ (by kernel_rfl) ?_
  clear hHeld
  have hr := Lib.hid (show CTu w F w1.drew b x from hl0.out.trans (fun F' hL => CTu.below (w := w) hL hB1.out.drew))
  clear hH1 hblk1 hB1
  go_wp2
  go_ret
  exact ⟨rfl, hr.out⟩
theorem add_there (h : CN w F b x) (ho : OkN x M Q) (hn16 : x.names.length ≤ 100) (t0 : ByteArray) (t1 : Int) (t2 : Bool) (t3 t4 t5 now : Int) (hz : chk ⟨t0, t1, t2, t3, t4, t5⟩ = 0) (hi : (idxN x.names t0).isSome = true) :
    Calls Tryz.prog 11 #[ptr b, .agg #[.string t0, .int .i64 t1, .bool t2, .int .i64 t3, .int .i64 t4, .int .i64 t5], .int .i64 now] w fun e w' => e = .returned (.int .i64 (141)) ∧ CTu w F w' b (x) := by
  obtain ⟨G0, G1, a0, a1, v, h⟩ := h
  have hvs := h.nv.sr
  obtain ⟨A0, cp0, hv, _⟩ := hvs
  subst hv
  have hb0 := (Below.refl w.heap.size w).alloc (Nat.le_refl _) (.cells #[.string t0, .int .i64 t1, .bool t2, .int .i64 t3, .int .i64 t4, .int .i64 t5] 27)
  have hblk0 := Lib.hid (Blk.new w 27 #[.string t0, .int .i64 t1, .bool t2, .int .i64 t3, .int .i64 t4, .int .i64 t5])
  have hH0 := Lib.hid (h.below hb0)
  have hb0' := Lib.hid hb0
  have hck := Lib.hid (fun wy => check_any ⟨t0, t1, t2, t3, t4, t5⟩ wy)
  have hl0 := Lib.hid (CTu.refl h.cn)
  have his := hi
  have hz' := hz
  clear h hb0 ho hz hi
  go_enter Tryz.func11, Tryz.ntmps11
  go_wp2_with fail
  refine (hck.out _).mono ?_
  rintro e w1 ⟨rfl, hB⟩
  have hB1 := Lib.hid (bw_below hb0'.out hB)
  have hblk1 := Lib.hid (hblk0.out.below hB)
  have hH1 := Lib.hid (hH0.out.below hB)
  clear hB hb0' hblk0 hH0 hck
  rw [hz']
  have d2 : w1.cell? ⟨b, 2, none⟩ = some (.slice A0 x.names.length cp0) := (hH1.out.blk.cell 2).trans rfl
  have e0 : w1.cell? ⟨w.heap.size, 0, none⟩ = some (.string t0) := (hblk1.out.cell 0).trans rfl
  have hco := Lib.hid (contains_any w1.drew (.slice A0 x.names.length cp0) x.names t0 hH1.out.drew.nv.sr (by omega))
  rw [his] at hco
  clear hz'
  go_wp2
  refine start_ (n := 11) (S := fun w' => w'.cell? ⟨b, 2, none⟩ = some (.slice A0 x.names.length cp0) ∧ w'.cell? ⟨w.heap.size, 0, none⟩ = some (.string t0)) (ds := []) (m_ 11 0) (by kernel_rfl) rfl (by kernel_rfl) ⟨d2, e0⟩ (fun hHeld => ?_)
  refine pq_ 0 10 11 1 ?_
  refine pq_ 1 11 11 3 ?_
  refine pq_ 2 12 11 7 ?_
  refine pq_ 3 13 11 15 ?_
  refine pq_ 4 14 11 31 ?_
  refine pq_ 5 15 11 63 ?_
  refine pq_ 7 17 11 191 ?_
  refine tq_ 6 16 11 255 hHeld ?_
  refine tq_ 8 18 11 511 hHeld ?_
  refine one_ (i := 9) (N := some 19) (m_ 11 1023) rfl rfl (by kernel_rfl) (by decide) (fun K hK => ?_)
  refine goes_ Tryz.func22 (by kernel_rfl) rfl #[.slice A0 x.names.length cp0, .string t0] (by rfl) rfl rfl (by simp only [List.map_toArray, List.map_cons, List.map_nil]; rfl) ?_
  with_reducible refine (hco.out).mono ?_
  rintro e w2 ⟨rfl, rfl⟩
  refine ⟨_, rfl, ?_⟩
  refine hK.out _ _ ⟨d2, e0⟩ (fun hHeld => ?_)
  clear hK K
  refine norm_ (a' := ?_) ?_ ?_
  rotate_left
  · show Act.put _ (some 19) _ = _
    simp only [Act.put, List.setIfInBounds_toArray, List.set_cons_zero, List.set_cons_succ, i64_w, i32_w]
    rfl
  refine pq_ 10 20 11 2047 ?_
  refine done_ (by kernel_rfl) ?_
  clear hHeld d2 e0 hco
  have hr := Lib.hid (show CTu w F w1.drew b x from hl0.out.trans (fun F' hL => CTu.below (w := w) hL hB1.out.drew))
  clear hH1 hblk1 hB1
  go_wp2
  go_ret
  exact ⟨rfl, hr.out⟩
theorem CNG.turn3 (h : CNG w F b x G0 G1 a0 a1 v) (way : Int) {k : Lk} (hT : LTu w (Gx G0 G1 way) w' (ax a0 a1 way) k) : ∃ F' H0 H1 v', CNG w' F' b (onW x way k) H0 H1 a0 a1 v' ∧ Did F w w' ∧ Stem F F' w := by
  unfold Gx ax at hT
  unfold onW
  by_cases e : way = 0
  · rw [if_pos e, if_pos e] at hT
    obtain ⟨F', G', h1, h2, h3⟩ := h.turnA hT
    rw [if_pos e]
    exact ⟨F', _, _, _, h1, h2, h3⟩
  · rw [if_neg e, if_neg e] at hT
    obtain ⟨F', G', h1, h2, h3⟩ := h.turnB hT
    rw [if_neg e]
    exact ⟨F', _, _, _, h1, h2, h3⟩
theorem onW_names (x : Cn) (way : Int) (k : Lk) : (onW x way k).names = x.names := by unfold onW; split <;> rfl
theorem hgb {G0 G1 : Nat → Prop} {a0 a1 : Nat} {v : Value} {w8 : World} {o : Obj} (h : CNG w F b x G0 G1 a0 a1 v) (hg : (w.alloc o).grownBy w8 v.ownBlock) : w8.heap[b]? = w.heap[b]? := by
  have hb := h.blk
  refine (hg.block b (by simp; have := hb.lt; omega) (fun e => ?_)).trans (Below.heap_alloc w o b hb.lt)
  obtain ⟨cs, hvb⟩ := h.nv.typed e.symm
  exact absurd (hb.ty hvb) (by decide)
theorem frozen_of_block {w8 : World} {i : Nat} (h : w8.heap[b]? = w.heap[b]?) : w8.frozen? ⟨b, i, none⟩ = w.frozen? ⟨b, i, none⟩ := by
  simp [World.frozen?, h]
set_option maxHeartbeats 2000000 in
theorem add_link (h : CN w F b x) (ho : OkN x M Q) (hn16 : x.names.length ≤ 100) (t0 : ByteArray) (t1 : Int) (t2 : Bool) (t3 t4 t5 now : Int) (hz : chk ⟨t0, t1, t2, t3, t4, t5⟩ = 0) (hi : (idxN x.names t0).isSome = false) :
    Calls Tryz.prog 11 #[ptr b, .agg #[.string t0, .int .i64 t1, .bool t2, .int .i64 t3, .int .i64 t4, .int .i64 t5], .int .i64 now] w fun e w' => e = .returned (.int .i64 (addE (lk x (wayT ⟨t0, t1, t2, t3, t4, t5⟩)) ⟨t0, t1, t2, t3, t4, t5⟩)) ∧ CTu w F w' b (addN x ⟨t0, t1, t2, t3, t4, t5⟩ now) := by
  obtain ⟨G0, G1, a0, a1, v, h⟩ := h
  have hvs := h.nv.sr
  obtain ⟨A0, cp0, hv, _⟩ := hvs
  subst hv
  have hb0 := (Below.refl w.heap.size w).alloc (Nat.le_refl _) (.cells #[.string t0, .int .i64 t1, .bool t2, .int .i64 t3, .int .i64 t4, .int .i64 t5] 27)
  have hblk0 := Lib.hid (Blk.new w 27 #[.string t0, .int .i64 t1, .bool t2, .int .i64 t3, .int .i64 t4, .int .i64 t5])
  have hH0 := Lib.hid (h.below hb0)
  have hb0' := Lib.hid hb0
  have hck := Lib.hid (fun wy => check_any ⟨t0, t1, t2, t3, t4, t5⟩ wy)
  have hl0 := Lib.hid (CTu.refl h.cn)
  have his := hi
  have hz' := hz
  have hokw0 := ho.lk (wayT ⟨t0, t1, t2, t3, t4, t5⟩)
  have hadd := Lib.hid (show addN x ⟨t0, t1, t2, t3, t4, t5⟩ now = { onW x (wayT ⟨t0, t1, t2, t3, t4, t5⟩) (addK (lk x (wayT ⟨t0, t1, t2, t3, t4, t5⟩)) ⟨t0, t1, t2, t3, t4, t5⟩ now) with names := if addE (lk x (wayT ⟨t0, t1, t2, t3, t4, t5⟩)) ⟨t0, t1, t2, t3, t4, t5⟩ = 0 then x.names ++ [t0] else x.names } from by
    unfold addN
    rw [if_neg (by rintro (q | q); exact q hz; rw [hi] at q; cases q)])
  have hw01 := Lib.hid (wayT_01 ⟨t0, t1, t2, t3, t4, t5⟩)
  have hw0 := Lib.hid (fun wy => wayT_any ⟨t0, t1, t2, t3, t4, t5⟩ wy)
  clear h hb0 ho hz hi
  go_enter Tryz.func11, Tryz.ntmps11
  go_wp2_with fail
  refine (hck.out _).mono ?_
  rintro e w1 ⟨rfl, hB⟩
  have hB1 := Lib.hid (bw_below hb0'.out hB)
  have hblk1 := Lib.hid (hblk0.out.below hB)
  have hH1 := Lib.hid (hH0.out.below hB)
  clear hB hb0' hblk0 hH0 hck
  rw [hz']
  have d2 : w1.cell? ⟨b, 2, none⟩ = some (.slice A0 x.names.length cp0) := (hH1.out.blk.cell 2).trans rfl
  have e0 : w1.cell? ⟨w.heap.size, 0, none⟩ = some (.string t0) := (hblk1.out.cell 0).trans rfl
  have hco := Lib.hid (contains_any w1.drew (.slice A0 x.names.length cp0) x.names t0 hH1.out.drew.nv.sr (by omega))
  rw [his] at hco
  clear hz'
  go_wp2
  refine start_ (n := 11) (S := fun w' => w'.cell? ⟨b, 2, none⟩ = some (.slice A0 x.names.length cp0) ∧ w'.cell? ⟨w.heap.size, 0, none⟩ = some (.string t0)) (ds := []) (m_ 11 0) (by kernel_rfl) rfl (by kernel_rfl) ⟨d2, e0⟩ (fun hHeld => ?_)
  refine pq_ 0 10 11 1 ?_
  refine pq_ 1 11 11 3 ?_
  refine pq_ 2 12 11 7 ?_
  refine pq_ 3 13 11 15 ?_
  refine pq_ 4 14 11 31 ?_
  refine pq_ 5 15 11 63 ?_
  refine pq_ 7 17 11 191 ?_
  refine tq_ 6 16 11 255 hHeld ?_
  refine tq_ 8 18 11 511 hHeld ?_
  refine one_ (i := 9) (N := some 19) (m_ 11 1023) rfl rfl (by kernel_rfl) (by decide) (fun K hK => ?_)
  refine goes_ Tryz.func22 (by kernel_rfl) rfl #[.slice A0 x.names.length cp0, .string t0] (by rfl) rfl rfl (by simp only [List.map_toArray, List.map_cons, List.map_nil]; rfl) ?_
  with_reducible refine (hco.out).mono ?_
  rintro e w2 ⟨rfl, rfl⟩
  refine ⟨_, rfl, ?_⟩
  refine hK.out _ _ ⟨d2, e0⟩ (fun hHeld => ?_)
  clear hK K
  refine norm_ (a' := ?_) ?_ ?_
  rotate_left
  · show Act.put _ (some 19) _ = _
    simp only [Act.put, List.setIfInBounds_toArray, List.set_cons_zero, List.set_cons_succ, i64_w, i32_w]
    rfl
  refine pq_ 10 20 11 2047 ?_
  refine done_ (by kernel_rfl) ?_
  clear hHeld d2 e0 hco
  go_wp2
  have H1 := Lib.hid (hH1.out.drew)
  have hblk2 := Lib.hid (hblk1.out.below ((Below.refl _ _).drew))
  have hB3 := Lib.hid (show Below w.heap.size w w1.drew from hB1.out.drew)
  clear hH1 hblk1 hB1
  generalize w1.drew = W1 at *
  generalize hwyE : wayT ⟨t0, t1, t2, t3, t4, t5⟩ = wy at *
  have hwy := Lib.hid (hw0.out W1.drew)
  obtain ⟨ap, hap⟩ : ∃ ap, Hid (ax a0 a1 wy = ap) := ⟨_, Lib.hid rfl⟩
  have hokw := Lib.hid hokw0
  have hoff := Lib.hid (show ¬ F w.heap.size from H1.out.cn.off hblk2.out (by decide))
  have c0 : W1.cell? ⟨b, wy.toNat, none⟩ = some (ptr ap) := by rw [← hap.out]; exact H1.out.cellx hw01.out
  have u0 : W1.cell? ⟨w.heap.size, 0, none⟩ = some (.string t0) := (hblk2.out.cell 0).trans rfl
  have u1 : W1.cell? ⟨w.heap.size, 1, none⟩ = some (.int .i64 t1) := (hblk2.out.cell 1).trans rfl
  have u2 : W1.cell? ⟨w.heap.size, 2, none⟩ = some (.bool t2) := (hblk2.out.cell 2).trans rfl
  have u3 : W1.cell? ⟨w.heap.size, 3, none⟩ = some (.int .i64 t3) := (hblk2.out.cell 3).trans rfl
  have u4 : W1.cell? ⟨w.heap.size, 4, none⟩ = some (.int .i64 t4) := (hblk2.out.cell 4).trans rfl
  have u5 : W1.cell? ⟨w.heap.size, 5, none⟩ = some (.int .i64 t5) := (hblk2.out.cell 5).trans rfl
  have hi0 : (0 : Int) ≤ wy := by have := hw01.out; omega
  have hi1 : wy < 2 := by have := hw01.out; omega
  have hwyH := Lib.hid hwyE
  clear hw0 hwyE hokw0
  go_wp2
  refine start_ (n := 11) (S := fun w' => w'.cell? ⟨b, wy.toNat, none⟩ = some (ptr ap) ∧ w'.cell? ⟨w.heap.size, 0, none⟩ = some (.string t0) ∧ w'.cell? ⟨w.heap.size, 1, none⟩ = some (.int .i64 t1) ∧ w'.cell? ⟨w.heap.size, 2, none⟩ = some (.bool t2) ∧ w'.cell? ⟨w.heap.size, 3, none⟩ = some (.int .i64 t3) ∧ w'.cell? ⟨w.heap.size, 4, none⟩ = some (.int .i64 t4) ∧ w'.cell? ⟨w.heap.size, 5, none⟩ = some (.int .i64 t5)) (ds := []) (m_ 11 0) (by kernel_rfl) rfl (by kernel_rfl) ⟨c0, u0, u1, u2, u3, u4, u5⟩ (fun hHeld => ?_)
  refine pq_ 0 23 11 1 ?_
  refine pq_ 3 26 11 9 ?_
  refine pq_ 4 27 11 25 ?_
  refine pq_ 8 31 11 281 ?_
  refine tq_ 1 24 11 283 hHeld ?_
  refine tq_ 7 30 11 411 hHeld ?_
  refine one_ (i := 2) (N := some 25) (m_ 11 415) rfl rfl (by kernel_rfl) (by decide) (fun K hK => ?_)
  refine goes_ Tryz.func23 (by kernel_rfl) rfl #[.agg #[.string t0, .int .i64 t1, .bool t2, .int .i64 t3, .int .i64 t4, .int .i64 t5]] (by rfl) rfl rfl (by simp only [List.map_toArray, List.map_cons, List.map_nil]; rfl) ?_
  with_reducible refine (hwy.out).mono ?_
  rintro e w2 ⟨rfl, hB⟩
  have k0 := bcells hB c0
  have j0 := bcells hB u0
  have j1 := bcells hB u1
  have j2 := bcells hB u2
  have j3 := bcells hB u3
  have j4 := bcells hB u4
  have j5 := bcells hB u5
  have hB2 := Lib.hid hB
  clear hB
  refine ⟨_, rfl, ?_⟩
  refine hK.out _ _ ⟨k0, j0, j1, j2, j3, j4, j5⟩ (fun hHeld => ?_)
  clear hK K
  refine norm_ (a' := ?_) ?_ ?_
  rotate_left
  · show Act.put _ (some 25) _ = _
    simp only [Act.put, List.setIfInBounds_toArray, List.set_cons_zero, List.set_cons_succ, i64_w, i32_w]
    rfl
  refine pq_ 5 28 11 447 ?_
  refine tq_ 6 29 11 511 hHeld ?_
  refine one_ (i := 9) (N := some 32) (m_ 11 1023) rfl rfl (by kernel_rfl) (by decide) (fun K hK => ?_)
  refine goes_ Tryz.func24 (by kernel_rfl) rfl #[ptr ap, .agg #[.string t0, .int .i64 t1, .bool t2, .int .i64 t3, .int .i64 t4, .int .i64 t5], .int .i64 now] (by rfl) rfl rfl (by simp only [List.map_toArray, List.map_cons, List.map_nil]; rfl) ?_
  with_reducible refine ((kAdd_any (by rw [← hap.out]; exact (H1.out.drew.below hB2.out).lk_ wy) hokw.out ⟨t0, t1, t2, t3, t4, t5⟩ now)).mono ?_
  rintro e w3 ⟨rfl, hT⟩
  have hTT := Lib.hid (CNG.turn3 (H1.out.drew.below hB2.out) wy (by rw [hap.out]; exact hT))
  obtain ⟨F3, H0, H3, v3, hG3, hD3, hS3⟩ := hTT.out
  have i0 : w3.cell? ⟨w.heap.size, 0, none⟩ = some (.string t0) := (((show Blk W1.drew _ _ _ from hblk2.out).below hB2.out).did hD3 hoff.out |>.cell 0).trans rfl
  have i1 : w3.cell? ⟨w.heap.size, 1, none⟩ = some (.int .i64 t1) := (((show Blk W1.drew _ _ _ from hblk2.out).below hB2.out).did hD3 hoff.out |>.cell 1).trans rfl
  have i2 : w3.cell? ⟨w.heap.size, 2, none⟩ = some (.bool t2) := (((show Blk W1.drew _ _ _ from hblk2.out).below hB2.out).did hD3 hoff.out |>.cell 2).trans rfl
  have i3 : w3.cell? ⟨w.heap.size, 3, none⟩ = some (.int .i64 t3) := (((show Blk W1.drew _ _ _ from hblk2.out).below hB2.out).did hD3 hoff.out |>.cell 3).trans rfl
  have i4 : w3.cell? ⟨w.heap.size, 4, none⟩ = some (.int .i64 t4) := (((show Blk W1.drew _ _ _ from hblk2.out).below hB2.out).did hD3 hoff.out |>.cell 4).trans rfl
  have i5 : w3.cell? ⟨w.heap.size, 5, none⟩ = some (.int .i64 t5) := (((show Blk W1.drew _ _ _ from hblk2.out).below hB2.out).did hD3 hoff.out |>.cell 5).trans rfl
  have g0 : w3.cell? ⟨b, wy.toNat, none⟩ = some (ptr ap) := by rw [← hap.out]; exact hG3.cellx hw01.out
  have HG3 := Lib.hid (And.intro hG3 (And.intro hD3 hS3))
  clear hG3 hD3 hS3 hT hTT
  refine ⟨_, rfl, ?_⟩
  refine hK.out _ _ ⟨g0, i0, i1, i2, i3, i4, i5⟩ (fun hHeld => ?_)
  clear hK K
  refine norm_ (a' := ?_) ?_ ?_
  rotate_left
  · show Act.put _ (some 32) _ = _
    simp only [Act.put, List.setIfInBounds_toArray, List.set_cons_zero, List.set_cons_succ, i64_w, i32_w]
    rfl
  refine pq_ 10 7 11 2047 ?_
  refine done_ (by kernel_rfl) ?_
  have i0' := i0
  clear hHeld c0 u0 u1 u2 u3 u4 u5 k0 j0 j1 j2 j3 j4 j5 i0 i1 i2 i3 i4 i5 g0 hwy hokw
  have hadd2 := hadd.out
  have hnE : (onW x wy (addK (lk x wy) ⟨t0, t1, t2, t3, t4, t5⟩ now)).names = x.names := onW_names x wy _
  have hDid := Lib.hid (show Did F w w3 ∧ Stem F F3 w from by
    have hB0 := Did.of_below (F := F) hB3.out
    have hB1 := hB0.trans (Stem.refl _ _) ((Did.refl F W1).drew.trans (Stem.refl _ _) (Did.of_below (F := F) hB2.out))
    exact ⟨hB1.trans (Stem.refl _ _) HG3.out.2.1, (Stem.refl F w).trans hB1.size HG3.out.2.2⟩)
  have H3 := Lib.hid HG3.out.1
  have hblk3 := Lib.hid ((((show Blk W1.drew w.heap.size 27 #[.string t0, .int .i64 t1, .bool t2, .int .i64 t3, .int .i64 t4, .int .i64 t5] from hblk2.out).below hB2.out)).did HG3.out.2.1 hoff.out)
  clear HG3 hadd hB3 hB2 H1 hblk2 hoff hap
  generalize onW x wy (addK (lk x wy) ⟨t0, t1, t2, t3, t4, t5⟩ now) = y at *
  generalize hEE : addE (lk x wy) ⟨t0, t1, t2, t3, t4, t5⟩ = E at *
  have hans := Lib.hid (show addE (lk x (wayT ⟨t0, t1, t2, t3, t4, t5⟩)) ⟨t0, t1, t2, t3, t4, t5⟩ = E from by rw [hwyH.out]; exact hEE)
  clear hEE hwyH
  have hyn := hnE
  clear hnE
  have hnv := H3.out.nv
  rw [hyn] at hnv
  obtain ⟨A3, cp3, hv3, _⟩ := hnv.sr
  subst hv3
  have hown := Lib.hid hnv.owns
  have hnv' := Lib.hid hnv
  have r2 : w3.cell? ⟨b, 2, none⟩ = some (.slice A3 x.names.length cp3) := (H3.out.blk.cell 2).trans rfl
  have e3 : w3.cell? ⟨w.heap.size, 0, none⟩ = some (.string t0) := (hblk3.out.cell 0).trans rfl
  obtain ⟨i0, hi1', hz0, hz1, hz2⟩ := info_parts info_st
  clear hnv i0'
  by_cases hE0 : E = 0
  · have tz : (E == 0) = true := by simpa using hE0
    rw [if_pos hE0] at hadd2
    go_wp2
    refine start_ (n := 12) (S := fun w' => w'.cell? ⟨b, 2, none⟩ = some (.slice A3 x.names.length cp3) ∧ w'.cell? ⟨w.heap.size, 0, none⟩ = some (.string t0)) (ds := [8, 11]) (m_ 12 0) (by kernel_rfl) rfl (by kernel_rfl) ⟨r2, e3⟩ (fun hHeld => ?_)
    refine pq_ 0 35 12 1 ?_
    refine pq_ 1 36 12 3 ?_
    refine pq_ 2 37 12 7 ?_
    refine pq_ 3 38 12 15 ?_
    refine pq_ 5 40 12 47 ?_
    refine tq_ 4 39 12 63 hHeld ?_
    refine tq_ 6 41 12 127 hHeld ?_
    refine one_ (i := 7) (N := some 42) (m_ 12 255) rfl rfl (by kernel_rfl) (by decide) (fun K hK => ?_)
    refine value_ (w1 := ?_) (v := ?_) (by rfl) rfl ?_ ?_
    rotate_left 2
    · go_simp
      constructor
      · rfl
      · rfl
    have H3a := Lib.hid (H3.out.drew.below ((Below.refl w3.drew.heap.size w3.drew).alloc (Nat.le_refl _) (.cells #[.string t0] 9)))
    have q3 := Lib.hid ((show Blk w3.drew w.heap.size 27 #[.string t0, .int .i64 t1, .bool t2, .int .i64 t3, .int .i64 t4, .int .i64 t5] from hblk3.out).below ((Below.refl w3.drew.heap.size w3.drew).alloc (Nat.le_refl _) (.cells #[.string t0] 9)))
    have hown8 : (w3.drew.alloc (.cells #[.string t0] 9)).ownsRow 0 9 1 (.slice A3 x.names.length cp3) x.names.length (x.names.map Value.string) := hown.out.alloc _
    refine hK.out _ _ ⟨((H3a.out.blk.cell 2).trans rfl), ((q3.out.cell 0).trans rfl)⟩ (fun hHeld => ?_)
    clear hK K
    refine norm_ (a' := ?_) ?_ ?_
    rotate_left
    · show Act.put _ (some 42) _ = _
      simp only [Act.put, List.setIfInBounds_toArray, List.set_cons_zero, List.set_cons_succ, i64_w, i32_w]
      rfl
    refine last_ (i := 8) (N := some 43) (m_ 12 511) rfl rfl (by kernel_rfl) (by decide) (fun K hK => ?_)
    refine step_append_lies _ rfl (.tmp 39) (.tmp 42) 34 rfl 0 9 i0 (.string ⟨#[]⟩) 1 16 Tryz.underlying34 hi1' hz0 hz1 hz2 rfl (by decide) (.slice A3 x.names.length cp3) x.names.length (x.names.map Value.string) (by rfl) hown8 ⟨w3.heap.size, 0, none⟩ 1 1 [.string t0] (by rfl) rfl (cell_one_new _ _ _) (by simp [Value.oneCell']) (by decide) (by unfold maxLen; omega) (by omega) (Nat.zero_le _) _ rfl ?_
    intro g8 c8 w8 hO hG hat hlt
    have hG' := Lib.hid hG
    have hO' := Lib.hid hO
    have hat' := Lib.hid hat
    have bb := Lib.hid (hgb H3.out.drew hG)
    have b8 : w8.cell? ⟨b, 2, none⟩ = some (.slice A3 x.names.length cp3) := (World.cell?_of_block (a := ⟨b, 2, none⟩) bb.out).trans r2
    have fb8 : w8.frozen? ⟨b, 2, none⟩ = false := (frozen_of_block bb.out).trans (H3.out.blk.free 2)
    clear hG hO hat hlt hown8
    refine hK.out _ _ ?_
    clear hK K
    refine norm_ (a' := ?_) ?_ ?_
    rotate_left
    · show Act.put _ (some 43) _ = _
      simp only [Act.put, List.setIfInBounds_toArray, List.set_cons_zero, List.set_cons_succ, i64_w, i32_w]
      rfl
    refine pq_ 9 44 12 1023 ?_
    refine pq_ 10 45 12 2047 ?_
    refine last_ (i := 11) (N := none) (m_ 12 4095) rfl rfl (by kernel_rfl) (by decide) (fun K hK => ?_)
    refine skip_ (w1 := ?_) (by rfl) rfl ?_ ?_
    rotate_left
    · go_simp
      rfl
    refine hK.out _ _ ?_
    clear hK K
    refine done_ (by kernel_rfl) ?_
    clear hHeld r2 e3
    have hD8 : Did (fun j => (Value.slice A3 x.names.length cp3).ownBlock = some j) w3.drew w8 := (((Did.refl _ w3.drew).alloc _).trans (Stem.refl _ _) (Did.of_grown hG'.out (fun j e => .inl e)))
    have hN8 : NV w8 (.slice (some ⟨g8, 0, none⟩) (x.names.length + 1) c8) (x.names ++ [t0]) := NV.of_owns (base := 0) (by rw [List.length_append, List.map_append]; exact hO'.out)
    have hset := H3.out.drew.names hD8 hN8 (fun j e => by
      rcases hat'.out with q | q
      · injection e with e
        exact .inl (q.trans (congrArg some e))
      · injection e with e
        exact .inr (by have e' : g8 = j := e; rw [← e', q]; simp))
    have hr := Lib.hid (show CTu w F (w8.setCell ⟨b, 2, none⟩ (.slice (some ⟨g8, 0, none⟩) (x.names.length + 1) c8)) b (addN x ⟨t0, t1, t2, t3, t4, t5⟩ now) from by
      rw [hadd2]
      exact CTu.next hDid.out.1.drew hDid.out.2 ⟨_, hset.1.cn, hset.2.1, hset.2.2⟩)
    clear hset hN8 hD8 hG' hO' hat' H3 hblk3 hadd2
    go_wp2
    go_ret
    exact ⟨by rw [hans.out]; rfl, hr.out⟩
  · have tz : (E == 0) = false := by simpa using hE0
    rw [if_neg hE0] at hadd2
    have hr := Lib.hid (show CTu w F w3 b (addN x ⟨t0, t1, t2, t3, t4, t5⟩ now) from by
      rw [hadd2]
      exact CTu.next hDid.out.1 hDid.out.2 ⟨F3, (show CN w3 F3 b _ from by
        have := H3.out.cn
        rwa [show ({ y with names := x.names } : Cn) = y from by rw [← hyn]]), Did.refl _ _, Stem.refl _ _⟩)
    clear hadd2 hE0 H3 hblk3
    go_wp2
    go_ret
    exact ⟨by rw [hans.out]; rfl, hr.out⟩
theorem cAdd_any (h : CN w F b x) (ho : OkN x M Q) (hn16 : x.names.length ≤ 100) (t : Tox) (now : Int) :
    Calls Tryz.prog 11 #[ptr b, t.v, .int .i64 now] w fun e w' => e = .returned (.int .i64 (addNE x t)) ∧ CTu w F w' b (addN x t now) := by
  obtain ⟨t0, t1, t2, t3, t4, t5⟩ := t
  unfold addNE
  by_cases hz : chk ⟨t0, t1, t2, t3, t4, t5⟩ = 0
  · rw [if_neg (fun e => e hz)]
    cases hi : (idxN x.names t0).isSome with
    | true =>
      have := add_there h ho hn16 t0 t1 t2 t3 t4 t5 now hz hi
      unfold addN
      rw [if_pos rfl, if_pos (.inr hi)]
      exact this
    | false =>
      rw [if_neg (by simp)]
      exact add_link h ho hn16 t0 t1 t2 t3 t4 t5 now hz hi
  · unfold addN
    rw [if_pos hz, if_pos (.inl hz)]
    exact add_bad h ho hn16 t0 t1 t2 t3 t4 t5 now hz
set_option maxHeartbeats 2000000 in
theorem chg_conn (h : CN w F b x) (ho : OkN x M Q) (hM : M ≤ 1000000000) (t0 : ByteArray) (t1 : Int) (t2 : Bool) (t3 t4 t5 now : Int) :
    Calls Tryz.prog 31 #[ptr b, .agg #[.string t0, .int .i64 t1, .bool t2, .int .i64 t3, .int .i64 t4, .int .i64 t5], .int .i64 now] w fun e w' => e = .returned (.int .i64 (chgE (lk x (wayT ⟨t0, t1, t2, t3, t4, t5⟩)) ⟨t0, t1, t2, t3, t4, t5⟩)) ∧ CTu w F w' b (chgN x ⟨t0, t1, t2, t3, t4, t5⟩ now) := by
  obtain ⟨G0, G1, a0, a1, v, h⟩ := h
  have hb0 := (Below.refl w.heap.size w).alloc (Nat.le_refl _) (.cells #[.string t0, .int .i64 t1, .bool t2, .int .i64 t3, .int .i64 t4, .int .i64 t5] 27)
  have hblk2 := Lib.hid (Blk.new w 27 #[.string t0, .int .i64 t1, .bool t2, .int .i64 t3, .int .i64 t4, .int .i64 t5])
  have H1 := Lib.hid (h.below hb0)
  have hB3 := Lib.hid hb0
  have hokw0 := ho.lk (wayT ⟨t0, t1, t2, t3, t4, t5⟩)
  have hw01 := Lib.hid (wayT_01 ⟨t0, t1, t2, t3, t4, t5⟩)
  have hw0 := Lib.hid (fun wy => wayT_any ⟨t0, t1, t2, t3, t4, t5⟩ wy)
  have hadd := Lib.hid (show chgN x ⟨t0, t1, t2, t3, t4, t5⟩ now = onW x (wayT ⟨t0, t1, t2, t3, t4, t5⟩) (chgK (lk x (wayT ⟨t0, t1, t2, t3, t4, t5⟩)) ⟨t0, t1, t2, t3, t4, t5⟩ now) from rfl)
  clear h hb0 ho
  go_enter Tryz.func31, Tryz.ntmps31
  go_wp2
  generalize w.alloc (.cells #[.string t0, .int .i64 t1, .bool t2, .int .i64 t3, .int .i64 t4, .int .i64 t5] 27) = W1 at *
  generalize hwyE : wayT ⟨t0, t1, t2, t3, t4, t5⟩ = wy at *
  have hwy := Lib.hid (hw0.out W1.drew)
  obtain ⟨ap, hap⟩ : ∃ ap, Hid (ax a0 a1 wy = ap) := ⟨_, Lib.hid rfl⟩
  have hokw := Lib.hid hokw0
  have hoff := Lib.hid (show ¬ F w.heap.size from H1.out.cn.off hblk2.out (by decide))
  have c0 : W1.cell? ⟨b, wy.toNat, none⟩ = some (ptr ap) := by rw [← hap.out]; exact H1.out.cellx hw01.out
  have u0 : W1.cell? ⟨w.heap.size, 0, none⟩ = some (.string t0) := (hblk2.out.cell 0).trans rfl
  have u1 : W1.cell? ⟨w.heap.size, 1, none⟩ = some (.int .i64 t1) := (hblk2.out.cell 1).trans rfl
  have u2 : W1.cell? ⟨w.heap.size, 2, none⟩ = some (.bool t2) := (hblk2.out.cell 2).trans rfl
  have u3 : W1.cell? ⟨w.heap.size, 3, none⟩ = some (.int .i64 t3) := (hblk2.out.cell 3).trans rfl
  have u4 : W1.cell? ⟨w.heap.size, 4, none⟩ = some (.int .i64 t4) := (hblk2.out.cell 4).trans rfl
  have u5 : W1.cell? ⟨w.heap.size, 5, none⟩ = some (.int .i64 t5) := (hblk2.out.cell 5).trans rfl
  have hi0 : (0 : Int) ≤ wy := by have := hw01.out; omega
  have hi1 : wy < 2 := by have := hw01.out; omega
  have hwyH := Lib.hid hwyE
  clear hw0 hwyE hokw0
  refine start_ (n := 11) (S := fun w' => w'.cell? ⟨b, wy.toNat, none⟩ = some (ptr ap) ∧ w'.cell? ⟨w.heap.size, 0, none⟩ = some (.string t0) ∧ w'.cell? ⟨w.heap.size, 1, none⟩ = some (.int .i64 t1) ∧ w'.cell? ⟨w.heap.size, 2, none⟩ = some (.bool t2) ∧ w'.cell? ⟨w.heap.size, 3, none⟩ = some (.int .i64 t3) ∧ w'.cell? ⟨w.heap.size, 4, none⟩ = some (.int .i64 t4) ∧ w'.cell? ⟨w.heap.size, 5, none⟩ = some (.int .i64 t5)) (ds := []) (m_ 11 0) (by kernel_rfl) rfl (by kernel_rfl) ⟨c0, u0, u1, u2, u3, u4, u5⟩ (fun hHeld => ?_)
  refine pq_ 0 7 11 1 ?_
  refine pq_ 3 10 11 9 ?_
  refine pq_ 4 11 11 25 ?_
  refine pq_ 8 15 11 281 ?_
  refine tq_ 1 8 11 283 hHeld ?_
  refine tq_ 7 14 11 411 hHeld ?_
  refine one_ (i := 2) (N := some 9) (m_ 11 415) rfl rfl (by kernel_rfl) (by decide) (fun K hK => ?_)
  refine goes_ Tryz.func23 (by kernel_rfl) rfl #[.agg #[.string t0, .int .i64 t1, .bool t2, .int .i64 t3, .int .i64 t4, .int .i64 t5]] (by rfl) rfl rfl (by simp only [List.map_toArray, List.map_cons, List.map_nil]; rfl) ?_
  with_reducible refine (hwy.out).mono ?_
  rintro e w2 ⟨rfl, hB⟩
  have k0 := bcells hB c0
  have j0 := bcells hB u0
  have j1 := bcells hB u1
  have j2 := bcells hB u2
  have j3 := bcells hB u3
  have j4 := bcells hB u4
  have j5 := bcells hB u5
  have hB2 := Lib.hid hB
  clear hB
  refine ⟨_, rfl, ?_⟩
  refine hK.out _ _ ⟨k0, j0, j1, j2, j3, j4, j5⟩ (fun hHeld => ?_)
  clear hK K
  refine norm_ (a' := ?_) ?_ ?_
  rotate_left
  · show Act.put _ (some 9) _ = _
    simp only [Act.put, List.setIfInBounds_toArray, List.set_cons_zero, List.set_cons_succ, i64_w, i32_w]
    rfl
  refine pq_ 5 12 11 447 ?_
  refine tq_ 6 13 11 511 hHeld ?_
  refine one_ (i := 9) (N := some 16) (m_ 11 1023) rfl rfl (by kernel_rfl) (by decide) (fun K hK => ?_)
  refine goes_ Tryz.func49 (by kernel_rfl) rfl #[ptr ap, .agg #[.string t0, .int .i64 t1, .bool t2, .int .i64 t3, .int .i64 t4, .int .i64 t5], .int .i64 now] (by rfl) rfl rfl (by simp only [List.map_toArray, List.map_cons, List.map_nil]; rfl) ?_
  with_reducible refine ((kChange_any (by rw [← hap.out]; exact (H1.out.drew.below hB2.out).lk_ wy) hokw.out hM ⟨t0, t1, t2, t3, t4, t5⟩ now)).mono ?_
  rintro e w3 ⟨rfl, hT⟩
  have hTT := Lib.hid (CNG.turn3 (H1.out.drew.below hB2.out) wy (by rw [hap.out]; exact hT))
  obtain ⟨F3, H0, H3, v3, hG3, hD3, hS3⟩ := hTT.out
  have i0 : w3.cell? ⟨w.heap.size, 0, none⟩ = some (.string t0) := (((show Blk W1.drew _ _ _ from hblk2.out).below hB2.out).did hD3 hoff.out |>.cell 0).trans rfl
  have i1 : w3.cell? ⟨w.heap.size, 1, none⟩ = some (.int .i64 t1) := (((show Blk W1.drew _ _ _ from hblk2.out).below hB2.out).did hD3 hoff.out |>.cell 1).trans rfl
  have i2 : w3.cell? ⟨w.heap.size, 2, none⟩ = some (.bool t2) := (((show Blk W1.drew _ _ _ from hblk2.out).below hB2.out).did hD3 hoff.out |>.cell 2).trans rfl
  have i3 : w3.cell? ⟨w.heap.size, 3, none⟩ = some (.int .i64 t3) := (((show Blk W1.drew _ _ _ from hblk2.out).below hB2.out).did hD3 hoff.out |>.cell 3).trans rfl
  have i4 : w3.cell? ⟨w.heap.size, 4, none⟩ = some (.int .i64 t4) := (((show Blk W1.drew _ _ _ from hblk2.out).below hB2.out).did hD3 hoff.out |>.cell 4).trans rfl
  have i5 : w3.cell? ⟨w.heap.size, 5, none⟩ = some (.int .i64 t5) := (((show Blk W1.drew _ _ _ from hblk2.out).below hB2.out).did hD3 hoff.out |>.cell 5).trans rfl
  have g0 : w3.cell? ⟨b, wy.toNat, none⟩ = some (ptr ap) := by rw [← hap.out]; exact hG3.cellx hw01.out
  have HG3 := Lib.hid (And.intro hG3 (And.intro hD3 hS3))
  clear hG3 hD3 hS3 hT hTT
  refine ⟨_, rfl, ?_⟩
  refine hK.out _ _ ⟨g0, i0, i1, i2, i3, i4, i5⟩ (fun hHeld => ?_)
  clear hK K
  refine norm_ (a' := ?_) ?_ ?_
  rotate_left
  · show Act.put _ (some 16) _ = _
    simp only [Act.put, List.setIfInBounds_toArray, List.set_cons_zero, List.set_cons_succ, i64_w, i32_w]
    rfl
  refine pq_ 10 6 11 2047 ?_
  refine done_ (by kernel_rfl) ?_
  clear hHeld c0 u0 u1 u2 u3 u4 u5 k0 j0 j1 j2 j3 j4 j5 i0 i1 i2 i3 i4 i5 g0 hwy hokw
  have hans := Lib.hid (show chgE (lk x (wayT ⟨t0, t1, t2, t3, t4, t5⟩)) ⟨t0, t1, t2, t3, t4, t5⟩ = chgE (lk x wy) ⟨t0, t1, t2, t3, t4, t5⟩ from by rw [hwyH.out])
  have hr := Lib.hid (show CTu w F w3 b (chgN x ⟨t0, t1, t2, t3, t4, t5⟩ now) from by
    rw [hadd.out]
    have hB0 := Did.of_below (F := F) hB3.out
    have hB1 := hB0.trans (Stem.refl _ _) ((Did.refl F W1).drew.trans (Stem.refl _ _) (Did.of_below (F := F) hB2.out))
    exact CTu.next (hB1.trans (Stem.refl _ _) HG3.out.2.1) ((Stem.refl F w).trans hB1.size HG3.out.2.2) ⟨F3, HG3.out.1.cn, Did.refl _ _, Stem.refl _ _⟩)
  clear HG3 hadd hB3 hB2 H1 hblk2 hoff hap hwyH
  go_wp2
  go_ret
  exact ⟨by rw [hans.out]; rfl, hr.out⟩
theorem cChange_any (h : CN w F b x) (ho : OkN x M Q) (hM : M ≤ 1000000000) (t : Tox) (now : Int) :
    Calls Tryz.prog 31 #[ptr b, t.v, .int .i64 now] w fun e w' => e = .returned (.int .i64 (chgE (lk x (wayT t)) t)) ∧ CTu w F w' b (chgN x t now) := by
  obtain ⟨t0, t1, t2, t3, t4, t5⟩ := t
  exact chg_conn h ho hM t0 t1 t2 t3 t4 t5 now
end Go.Proofs.YtnkgjnmhiedfoaaGreat.Conn
namespace Go.Proofs.YtnkgjnmhiedfoaaGreat.Conn
open Go.RowKit Mem Tick Cargo Toxic Stage Chain Link
open Go.Proofs.YtnkgjnmhiedfoaaGreatW.PrintLast Pu
set_option maxRecDepth 100000
set_option linter.unusedVariables false
set_option linter.unusedSimpArgs false
variable {w wr w' w1 w2 : World} {F : Nat → Prop} {b : Nat} {x y : Cn} {M Q : Int} {G0 G1 : Nat → Prop} {a0 a1 : Nat} {v : Value}
def seedW (seed : Int) (n : Int) : Int := Ref02.streamI (Ref02.mixI (Ref02.stepI seed)) [n]
theorem seedW_bd (seed n : Int) : 0 ≤ seedW seed n ∧ seedW seed n < 18446744073709551616 := Ref02.streamI_bd _ _ (Ref02.mixI_bd _)
/-! what lives -/
def LiveN (w wr : World) (b : Nat) (x : Cn) : Prop := ∃ F, CN wr F b x ∧ (∀ j, F j → w.heap.size ≤ j) ∧ Below w.heap.size w wr
def KeepN (wr w2 : World) : Prop := ∀ g t cs, Blk wr g t cs → t ∉ nts → Blk w2 g t cs
theorem LiveN.old (h : LiveN w wr b x) : Below w.heap.size w wr := by obtain ⟨F, _, _, hb⟩ := h; exact hb
theorem LiveN.below (h : LiveN w wr b x) (hb : Below wr.heap.size wr w2) : LiveN w w2 b x := by
  obtain ⟨F, hC, hF, hB⟩ := h
  exact ⟨F, hC.below hb, hF, hB.trans (hb.mono hB.size)⟩
theorem LiveN.turn (hC : CN wr F b x) (hF : ∀ j, F j → w.heap.size ≤ j) (hB : Below w.heap.size w wr) (h : CTu wr F w2 b y) : LiveN w w2 b y ∧ KeepN wr w2 := by
  obtain ⟨F', hC2, hd, hs⟩ := h
  exact ⟨⟨F', hC2, fun j hj => (hs j hj).elim (hF j) (fun h => Nat.le_trans hB.size h), hB.trans (hd.below hB.size hF)⟩, fun g t cs hb ht => hb.did hd (hC.off hb ht)⟩
theorem stream_one (seed n : Int) (w : World) (h0 : 0 ≤ seed) (h1 : seed < 18446744073709551616) (hn0 : 0 ≤ n) (hn1 : n ≤ 1000000000) :
    Calls Tryz.prog 17 #[.int .u64 seed, .slice (some ⟨w.heap.size, 0, none⟩) 1 1] (w.alloc (.cells #[.int .u64 n] 23)) fun e w' => e = .returned (.int .u64 (seedW seed n)) ∧ Below w.heap.size (w.alloc (.cells #[.int .u64 n] 23)) w' :=
  (Dice.stream_any seed _ [n] _ h0 h1 (nums_one w n hn0 hn1)).mono fun e w' h => ⟨h.1, h.2.mono (by simp)⟩
theorem cNew_bad (sa : Option Addr) (sc : Nat) (L : List Tox) (seed room now : Int) (w : World) (hv : Toxs w (.slice sa L.length sc) L) (h0 : 0 ≤ seed) (h1 : seed < 18446744073709551616) (h : linkE L room ≠ 0) :
    Calls Tryz.prog 7 #[.slice sa L.length sc, .int .u64 seed, .int .i64 room, .int .i64 now] w fun e w' => e = .returned (.tuple #[.pointer none, .int .i64 (linkE L room)]) ∧ Below w.heap.size w w' := by
  have hb0 := Lib.hid ((Below.refl w.heap.size w).alloc (Nat.le_refl _) (.cells #[.pointer none, .pointer none, .slice none 0 0] 57))
  have hst := Lib.hid (fun (wy : World) => stream_one seed 0 wy h0 h1 (by decide) (by decide))
  have hv' := Lib.hid hv
  have hbad := Lib.hid (fun (wy : World) (hw : Below w.heap.size w wy) => bad_new true (seedW seed 0) room now (hv.below hw) h)
  have te : (linkE L room != 0) = true := by simpa using h
  clear hv h
  go_enter Tryz.func7, Tryz.ntmps7
  go_wp2
  generalize w.alloc (.cells #[.pointer none, .pointer none, .slice none 0 0] 57) = W1 at *
  go_loopw [18] (fun p wr => p = .int .i64 0 ∧ wr = W1) (fun p wr => 2 - (intOf p).toNat)
  case atStart => exact ⟨rfl, rfl⟩
  case round =>
    obtain ⟨rfl, rfl⟩ := hrel
    go_wp2_with fail
    refine (hst.out _).mono ?_
    rintro e w2 ⟨rfl, hB⟩
    have hB2 := Lib.hid (show Below w.heap.size w w2 from (hb0.out.alloc hb0.out.size (.cells #[.int .u64 0] 23)).trans (hB.mono hb0.out.size))
    clear hB hst
    go_wp2_with fail
    refine (hbad.out _ hB2.out).mono ?_
    rintro e w3 ⟨rfl, hB⟩
    have hB3 := Lib.hid (bw_below hB2.out hB)
    clear hB hbad hB2
    generalize hE : linkE L room = E at *
    have hE' := Lib.hid hE
    clear hE
    go_wp2
    go_ret2
    exact ⟨by rw [hE'.out]; rfl, hB3.out⟩
def WInv (w wr : World) (b : Nat) (A B : Lk) (k : Nat) : Prop :=
  Below w.heap.size w wr ∧ w.heap.size ≤ b ∧ ((k = 0 ∧ Blk wr b 57 #[.pointer none, .pointer none, .slice none 0 0])
    ∨ (k = 1 ∧ ∃ a0 G0, Blk wr b 57 #[ptr a0, .pointer none, .slice none 0 0] ∧ LK wr G0 a0 A ∧ ∀ j, G0 j → w.heap.size ≤ j)
    ∨ (k = 2 ∧ LiveN w wr b ⟨A, B, []⟩))
theorem WInv.start (w : World) (A B : Lk) : WInv w (w.alloc (.cells #[.pointer none, .pointer none, .slice none 0 0] 57)) w.heap.size A B 0 := ⟨(Below.refl _ _).alloc (Nat.le_refl _) _, Nat.le_refl _, .inl ⟨rfl, Blk.new w _ _⟩⟩
theorem ndv {j : Nat} (h : (Value.slice none 0 0).ownBlock = some j) : False := by cases h
theorem WInv.one {w wr w3 : World} {b a0 : Nat} {A B : Lk} (hB : Below w.heap.size w wr) (hwb : w.heap.size ≤ b) (hb : Blk wr b 57 #[.pointer none, .pointer none, .slice none 0 0]) (hL : LiveK wr w3 a0 A) :
    WInv w (w3.setCell ⟨b, 0, none⟩ (ptr a0)) b A B 1 := by
  obtain ⟨G0, hL, hF, hB3⟩ := hL
  have hb3 := hb.below hB3
  have hbg : ¬ G0 b := hL.off hb3 (by decide)
  refine ⟨(hB.trans (hB3.mono hB.size)).setCell (p := ⟨b, 0, none⟩) hwb _, hwb, .inr (.inl ⟨rfl, a0, G0, ?_, ?_, fun j hj => Nat.le_trans hB.size (hF j hj)⟩)⟩
  · exact hb3.set_ 0 (ptr a0)
  · exact hL.far hb3 (by decide) 0 (ptr a0)
theorem WInv.two {w wr w3 : World} {b a0 a1 : Nat} {A B : Lk} (hB : Below w.heap.size w wr) (hwb : w.heap.size ≤ b) {G0 : Nat → Prop} (hb : Blk wr b 57 #[ptr a0, .pointer none, .slice none 0 0]) (hA : LK wr G0 a0 A) (hG : ∀ j, G0 j → w.heap.size ≤ j) (hL : LiveK wr w3 a1 B) :
    WInv w (w3.setCell ⟨b, 1, none⟩ (ptr a1)) b A B 2 := by
  obtain ⟨G1, hL, hF, hB3⟩ := hL
  have hb3 := hb.below hB3
  have hA3 := hA.below hB3
  have hBB : Below w.heap.size w (w3.setCell ⟨b, 1, none⟩ (ptr a1)) := (hB.trans (hB3.mono hB.size)).setCell (p := ⟨b, 1, none⟩) hwb _
  refine ⟨hBB, hwb, .inr (.inr ⟨rfl, fun j => j = b ∨ G0 j ∨ G1 j ∨ (Value.slice none 0 0).ownBlock = some j, ⟨G0, G1, a0, a1, .slice none 0 0, hb3.set_ 1 (ptr a1), hA3.far hb3 (by decide) 1 _, hL.far hb3 (by decide) 1 _, .inl ⟨rfl, rfl⟩, fun j h0 h1 => ?_, fun j hj => (ndv hj).elim, fun j => Iff.rfl⟩, fun j hj => ?_, hBB⟩)⟩
  · have := hF j h1
    have := hA.lt h0
    omega
  · rcases hj with rfl | hj | hj | hj
    · exact hwb
    · exact hG j hj
    · exact Nat.le_trans hB.size (hF j hj)
    · exact (ndv hj).elim
set_option maxHeartbeats 2000000 in
theorem cNew_ok (sa : Option Addr) (sc : Nat) (L : List Tox) (seed room now : Int) (w : World) (hv : Toxs w (.slice sa L.length sc) L) (h0 : 0 ≤ seed) (h1 : seed < 18446744073709551616) (h : linkE L room = 0) :
    Calls Tryz.prog 7 #[.slice sa L.length sc, .int .u64 seed, .int .i64 room, .int .i64 now] w fun e w' => ∃ b, e = .returned (.tuple #[ptr b, .int .i64 0]) ∧ LiveN w w' b (conn0 L (seedW seed 0) (seedW seed 1) room now) := by
  have hl8 : L.length ≤ 8 := (linkE_0 h).2.1
  have hst0 := Lib.hid (fun (wy : World) => stream_one seed 0 wy h0 h1 (by decide) (by decide))
  have hst1 := Lib.hid (fun (wy : World) => stream_one seed 1 wy h0 h1 (by decide) (by decide))
  have hv' := Lib.hid hv
  have hok0 := Lib.hid (fun (wy : World) (hw : Below w.heap.size w wy) => live_new (w := wy) true (seedW seed 0) room now (hv.below hw) h (seedW_bd seed 0).1 (seedW_bd seed 0).2 (Below.refl _ _))
  have hok1 := Lib.hid (fun (wy : World) (hw : Below w.heap.size w wy) => live_new (w := wy) false (seedW seed 1) room now (hv.below hw) h (seedW_bd seed 1).1 (seedW_bd seed 1).2 (Below.refl _ _))
  have hI := Lib.hid (WInv.start w (linkN L true (seedW seed 0) room now) (linkN L false (seedW seed 1) room now))
  have hK : Hid (conn0 L (seedW seed 0) (seedW seed 1) room now = ⟨linkN L true (seedW seed 0) room now, linkN L false (seedW seed 1) room now, L.map fun t => t.name⟩) := Lib.hid rfl
  have hlim := Lib.hid hl8
  clear hv h hl8
  generalize linkN L true (seedW seed 0) room now = A0 at *
  generalize linkN L false (seedW seed 1) room now = A1 at *
  have hsz := hI.out.1.size
  go_enter Tryz.func7, Tryz.ntmps7
  go_wp2
  generalize w.alloc (.cells #[.pointer none, .pointer none, .slice none 0 0] 57) = W1 at *
  go_loopw [18] (fun p wr => ∃ k : Nat, k ≤ 2 ∧ p = .int .i64 k ∧ WInv w wr w.heap.size A0 A1 k) (fun p wr => 2 - (intOf p).toNat)
  case atStart => exact ⟨0, by omega, rfl, hI.out⟩
  case round =>
    obtain ⟨k, hk, rfl, hW⟩ := hrel
    obtain ⟨hB, hwb, ⟨rfl, hbl⟩ | ⟨rfl, a0, G0, hbl, hA0, hG0⟩ | ⟨rfl, hLN⟩⟩ := hW
    · have hbB := Lib.hid hbl
      have hB' := Lib.hid hB
      clear hI hB hbl hst1 hok1
      go_wp2_with fail
      refine (hst0.out _).mono ?_
      rintro e w2 ⟨rfl, hBs⟩
      have hB2 := Lib.hid (show Below wr.heap.size wr w2 from ((Below.refl wr.heap.size wr).alloc (Nat.le_refl _) (.cells #[.int .u64 0] 23)).trans (hBs.mono (Nat.le_refl _)))
      have hbw2 := Lib.hid (hB'.out.trans (hB2.out.mono hB'.out.size))
      clear hBs hst0
      go_wp2_with fail
      refine (hok0.out _ hbw2.out).mono ?_
      rintro e w3 ⟨a0, rfl, hL⟩
      have hn := Lib.hid (WInv.one (B := A1) hbw2.out (Nat.le_refl _) (hbB.out.below hB2.out) hL)
      have hc3 := Lib.hid ((hbB.out.below hB2.out).below hL.old)
      have c0 := (hc3.out.cell 0).trans rfl
      have f0 := hc3.out.free 0
      clear hL hok0 hbw2 hB2 hB'
      go_wp2
      go_roundw
      case rel => exact ⟨0 + 1, by omega, by go_num, hn.out⟩
      case measure => simp [intOf]
    · have hbB := Lib.hid hbl
      have hB' := Lib.hid hB
      have HA := Lib.hid (And.intro hA0 hG0)
      clear hI hB hbl hst0 hok0 hA0 hG0
      go_wp2_with fail
      refine (hst1.out _).mono ?_
      rintro e w2 ⟨rfl, hBs⟩
      have hB2 := Lib.hid (show Below wr.heap.size wr w2 from ((Below.refl wr.heap.size wr).alloc (Nat.le_refl _) (.cells #[.int .u64 1] 23)).trans (hBs.mono (Nat.le_refl _)))
      have hbw2 := Lib.hid (hB'.out.trans (hB2.out.mono hB'.out.size))
      clear hBs hst1
      go_wp2_with fail
      refine (hok1.out _ hbw2.out).mono ?_
      rintro e w3 ⟨a1, rfl, hL⟩
      have hn := Lib.hid (WInv.two hbw2.out (Nat.le_refl _) (hbB.out.below hB2.out) (HA.out.1.below hB2.out) HA.out.2 hL)
      have hc3 := Lib.hid ((hbB.out.below hB2.out).below hL.old)
      have c0 := (hc3.out.cell 1).trans rfl
      have f0 := hc3.out.free 1
      clear hL hok1 hbw2 hB2 hB' HA
      go_wp2
      go_roundw
      case rel => exact ⟨1 + 1, by omega, by go_num, hn.out⟩
      case measure => simp [intOf]
    · rw [show ((2 : Nat) : Int) = 2 from rfl]
      clear hI hst0 hst1 hok0 hok1
      have HL := Lib.hid hLN
      clear hLN hB
      obtain ⟨aa, cc, he, hmx, hcp, hA⟩ := hv'.out
      injection he with e1 e2 e3
      subst e1 e3
      clear hv' e2
      go_wp2
      go_loopw [47] (fun p wq => ∃ k : Nat, k ≤ L.length ∧ p = .int .i64 k ∧ LiveN w wq w.heap.size ⟨A0, A1, (L.take k).map fun t => t.name⟩) (fun p _ => L.length - (intOf p).toNat)
      case atStart => exact ⟨0, by omega, rfl, by simpa using HL.out⟩
      case round =>
        obtain ⟨k, hk, rfl, hL⟩ := hrel
        by_cases hlt : k < L.length
        · obtain ⟨g2, o, rfl, hc⟩ := hA (by intro h; subst h; simp at hlt)
          have hx : L[k]? = some L[k] := List.getElem?_eq_getElem hlt
          obtain ⟨d0, d1, d2, d3, d4, d5⟩ := hc k _ hx
          have hsucc := Lib.hid (show (L.take (k + 1)).map (fun t => t.name) = (L.take k).map (fun t => t.name) ++ [L[k].name] from by rw [List.take_add_one, hx, List.map_append]; rfl)
          have hlen := Lib.hid (show ((L.take k).map (fun t => t.name)).length = k from by rw [List.length_map, List.length_take]; omega)
          have hk8 : k ≤ 8 := by have := hlim.out; omega
          generalize L[k] = p at *
          obtain ⟨t0, t1, t2, t3, t4, t5⟩ := p
          dsimp only at *
          generalize (L.take k).map (fun t => t.name) = ns at *
          have hBw := hL.old
          have d0' := bcells hBw d0
          have d1' := bcells hBw d1
          have d2' := bcells hBw d2
          have d3' := bcells hBw d3
          have d4' := bcells hBw d4
          have d5' := bcells hBw d5
          obtain ⟨F, hCN, hF, hBL⟩ := hL
          obtain ⟨G0, G1, a0, a1, v, h3⟩ := hCN
          have hnv0 := h3.nv
          obtain ⟨A3, cp3, hv3, _⟩ := hnv0.sr
          dsimp only at hv3
          rw [hlen.out] at hv3
          subst hv3
          have hBx := (Below.refl wr.heap.size wr).alloc (Nat.le_refl _) (.cells #[.string t0, .int .i64 t1, .bool t2, .int .i64 t3, .int .i64 t4, .int .i64 t5] 27)
          have H3 := Lib.hid (h3.below hBx)
          have hblk3 := Lib.hid (Blk.new wr 27 #[.string t0, .int .i64 t1, .bool t2, .int .i64 t3, .int .i64 t4, .int .i64 t5])
          have hFB := Lib.hid (And.intro hF (hBL.alloc hBL.size (.cells #[.string t0, .int .i64 t1, .bool t2, .int .i64 t3, .int .i64 t4, .int .i64 t5] 27)))
          have hwz : wr.heap.size ≠ w.heap.size := by have := h3.blk.lt; omega
          clear hc hx hA d0 d1 d2 d3 d4 d5 hBw h3 hnv0 hF hBL hBx HL
          go_wp2
          generalize hw5 : wr.heap.size = m5 at *
          generalize wr.alloc (.cells #[.string t0, .int .i64 t1, .bool t2, .int .i64 t3, .int .i64 t4, .int .i64 t5] 27) = w6 at *
          have hown := Lib.hid H3.out.nv.owns
          dsimp only at hown
          rw [hlen.out] at hown
          have r2 : w6.cell? ⟨w.heap.size, 2, none⟩ = some (.slice A3 k cp3) := (H3.out.blk.cell 2).trans rfl
          have e3 : w6.cell? ⟨m5, 0, none⟩ = some (.string t0) := (hblk3.out.cell 0).trans rfl
          obtain ⟨i0, hi1', hz0, hz1, hz2⟩ := info_parts info_st
          have hw5' := Lib.hid hw5
          clear hw5 d0' d1' d2' d3' d4' d5'
          refine start_ (n := 12) (S := fun w' => w'.cell? ⟨w.heap.size, 2, none⟩ = some (.slice A3 k cp3) ∧ w'.cell? ⟨m5, 0, none⟩ = some (.string t0)) (ds := [8, 11]) (m_ 12 0) (by kernel_rfl) rfl (by kernel_rfl) ⟨r2, e3⟩ (fun hHeld => ?_)
          refine pq_ 0 51 12 1 ?_
          refine pq_ 1 52 12 3 ?_
          refine pq_ 2 53 12 7 ?_
          refine pq_ 3 54 12 15 ?_
          refine pq_ 5 56 12 47 ?_
          refine tq_ 4 55 12 63 hHeld ?_
          refine tq_ 6 57 12 127 hHeld ?_
          refine one_ (i := 7) (N := some 58) (m_ 12 255) rfl rfl (by kernel_rfl) (by decide) (fun K hK => ?_)
          refine value_ (w1 := ?_) (v := ?_) (by rfl) rfl ?_ ?_
          rotate_left 2
          · go_simp
            constructor
            · rfl
            · rfl
          have H3a := Lib.hid (H3.out.drew.below ((Below.refl w6.drew.heap.size w6.drew).alloc (Nat.le_refl _) (.cells #[.string t0] 9)))
          have q3 := Lib.hid ((show Blk w6.drew m5 27 #[.string t0, .int .i64 t1, .bool t2, .int .i64 t3, .int .i64 t4, .int .i64 t5] from hblk3.out).below ((Below.refl w6.drew.heap.size w6.drew).alloc (Nat.le_refl _) (.cells #[.string t0] 9)))
          have hown8 : (w6.drew.alloc (.cells #[.string t0] 9)).ownsRow 0 9 1 (.slice A3 k cp3) k (ns.map Value.string) := hown.out.alloc _
          refine hK.out _ _ ⟨((H3a.out.blk.cell 2).trans rfl), ((q3.out.cell 0).trans rfl)⟩ (fun hHeld => ?_)
          clear hK K
          refine norm_ (a' := ?_) ?_ ?_
          rotate_left
          · show Act.put _ (some 58) _ = _
            simp only [Act.put, List.setIfInBounds_toArray, List.set_cons_zero, List.set_cons_succ, i64_w, i32_w]
            rfl
          refine last_ (i := 8) (N := some 59) (m_ 12 511) rfl rfl (by kernel_rfl) (by decide) (fun K hK => ?_)
          refine step_append_lies _ rfl (.tmp 55) (.tmp 58) 34 rfl 0 9 i0 (.string ⟨#[]⟩) 1 16 Tryz.underlying34 hi1' hz0 hz1 hz2 rfl (by decide) (.slice A3 k cp3) k (ns.map Value.string) (by rfl) hown8 ⟨w6.heap.size, 0, none⟩ 1 1 [.string t0] (by rfl) rfl (cell_one_new _ _ _) (by simp [Value.oneCell']) (by decide) (by unfold maxLen; omega) (by omega) (Nat.zero_le _) _ rfl ?_
          intro g8 c8 w8 hO hG hat hlt
          have hG' := Lib.hid hG
          have hO' := Lib.hid hO
          have hat' := Lib.hid hat
          have bb := Lib.hid (hgb H3.out.drew hG)
          have b8 : w8.cell? ⟨w.heap.size, 2, none⟩ = some (.slice A3 k cp3) := (World.cell?_of_block (a := ⟨w.heap.size, 2, none⟩) bb.out).trans r2
          have fb8 : w8.frozen? ⟨w.heap.size, 2, none⟩ = false := (frozen_of_block bb.out).trans (H3.out.blk.free 2)
          clear hG hO hat hlt hown8
          refine hK.out _ _ ?_
          clear hK K
          refine norm_ (a' := ?_) ?_ ?_
          rotate_left
          · show Act.put _ (some 59) _ = _
            simp only [Act.put, List.setIfInBounds_toArray, List.set_cons_zero, List.set_cons_succ, i64_w, i32_w]
            rfl
          refine pq_ 9 60 12 1023 ?_
          refine pq_ 10 61 12 2047 ?_
          refine last_ (i := 11) (N := none) (m_ 12 4095) rfl rfl (by kernel_rfl) (by decide) (fun K hK => ?_)
          refine skip_ (w1 := ?_) (by rfl) rfl ?_ ?_
          rotate_left
          · go_simp
            rfl
          refine hK.out _ _ ?_
          clear hK K
          refine done_ (by kernel_rfl) ?_
          clear hHeld r2 e3
          have hD8 : Did (fun j => (Value.slice A3 k cp3).ownBlock = some j) w6.drew w8 := (((Did.refl _ w6.drew).alloc _).trans (Stem.refl _ _) (Did.of_grown hG'.out (fun j e => .inl e)))
          have hN8 : NV w8 (.slice (some ⟨g8, 0, none⟩) (k + 1) c8) (ns ++ [t0]) := by
            have := NV.of_owns (base := 0) (l := ns ++ [t0]) (v := .slice (some ⟨g8, 0, none⟩) (k + 1) c8) (w := w8) (by rw [List.length_append, List.map_append, hlen.out]; exact hO'.out)
            exact this
          have hset := H3.out.drew.names hD8 hN8 (fun j e => by
            rcases hat'.out with q | q
            · injection e with e
              exact .inl (q.trans (congrArg some e))
            · injection e with e
              exact .inr (by have e' : g8 = j := e; rw [← e', q]; simp))
          have hr := Lib.hid (show LiveN w (w8.setCell ⟨w.heap.size, 2, none⟩ (.slice (some ⟨g8, 0, none⟩) (k + 1) c8)) w.heap.size ⟨A0, A1, ns ++ [t0]⟩ from
            (LiveN.turn H3.out.drew.cn hFB.out.1 (show Below w.heap.size w w6.drew from hFB.out.2.drew) ⟨_, hset.1.cn, hset.2.1, hset.2.2⟩).1)
          clear hset hN8 hD8 hG' hO' hat' H3 hblk3 hFB hown
          go_wp2
          go_roundw
          case rel => exact ⟨k + 1, by omega, by go_num, by rw [hsucc.out]; exact hr.out⟩
          case measure => simp [intOf]; omega
        · have hk2 : k = L.length := by omega
          subst hk2
          have hnl : ¬ (L.length < L.length) := by omega
          rw [List.take_length] at hL
          have hr := Lib.hid hL
          clear hA hL HL
          go_wp2
          go_ret2
          exact ⟨_, rfl, by rw [hK.out]; exact hr.out⟩
end Go.Proofs.YtnkgjnmhiedfoaaGreat.Conn
namespace Go.Proofs.YtnkgjnmhiedfoaaGreat.Conn
open Go.RowKit Go.Shelf Mem Tick Cargo Toxic Stage Chain Link Fen
open Go.Proofs.YtnkgjnmhiedfoaaGreatW.PrintLast Pu
set_option maxRecDepth 100000
set_option linter.unusedVariables false
set_option linter.unusedSimpArgs false
attribute [local go_sem] Oper.semAt_some
variable {w w' w1 : World} {F : Nat → Prop} {b : Nat} {x y : Cn} {M Q : Int} {a0 a1 : Nat}
structure So where
  x : Cn
  s0 : ByteArray
  e0 : Int
  s1 : ByteArray
  e1 : Int
def mk2 (m0 m1 : Int) (k : Nat) : Int := if k = 0 then m0 else m1
def So.cells (s : So) : Array Value := #[.string s.s0, .int .i64 s.e0, .string s.s1, .int .i64 s.e1]
def oneS (now m0 m1 : Int) (s : So) (k : Nat) : So :=
  if k = 0 then ⟨onW s.x k (stepK (lk s.x k) now m0), stepB (lk s.x k) now m0, stepE (lk s.x k) now m0, s.s1, s.e1⟩
  else ⟨onW s.x k (stepK (lk s.x k) now m1), s.s0, s.e0, stepB (lk s.x k) now m1, stepE (lk s.x k) now m1⟩
def stF (now m0 m1 : Int) (ks : List Nat) (s : So) : So := ks.foldl (oneS now m0 m1) s
theorem stF_snoc (now m0 m1 : Int) (ks : List Nat) (k : Nat) (s : So) : stF now m0 m1 (ks ++ [k]) s = oneS now m0 m1 (stF now m0 m1 ks s) k := by unfold stF; rw [List.foldl_append]; rfl
theorem oneS_x (now m0 m1 : Int) (s : So) (k : Nat) : (oneS now m0 m1 s k).x = onW s.x k (stepK (lk s.x k) now (mk2 m0 m1 k)) := by unfold oneS mk2; split <;> rfl
theorem stF_two (now m0 m1 : Int) (x : Cn) : stF now m0 m1 [0, 1] ⟨x, ⟨#[]⟩, 0, ⟨#[]⟩, 0⟩ = ⟨halfN x now m0 m1, stepB x.a now m0, stepE x.a now m0, stepB x.b now m1, stepE x.b now m1⟩ := by
  unfold stF oneS onW lk halfN
  simp
def out0 : Array Value := #[.string ⟨#[]⟩, .int .i64 0, .string ⟨#[]⟩, .int .i64 0]
def SBx (w W : World) (now m0 m1 : Int) : Prop := Blk W w.heap.size 3 #[.int .i64 now] ∧ Blk W (w.heap.size + 1) 41 #[.int .i64 m0, .int .i64 m1] ∧ Blk W (w.heap.size + 2) 64 out0
def SInv (w : World) (F : Nat → Prop) (b a0 a1 : Nat) (now m0 m1 : Int) (f : List Nat → So) (pre : List (Fin 2)) (W : World) : Prop :=
  CTp w F W b a0 a1 (f (pre.map Fin.val)).x ∧ SBx w W now m0 m1 ∧ Blk W (w.heap.size + 3) 64 (f (pre.map Fin.val)).cells
theorem SBx.own {W W' : World} {row : Option Nat} {now m0 m1 : Int} (h : SBx w W now m0 m1) (hg : W.grownBy W' row) (hr : ∀ r, row = some r → ∃ o : Obj, W.heap[r]? = some o ∧ o.isCells = false) : SBx w W' now m0 m1 := ⟨blk_own h.1 hg hr, blk_own h.2.1 hg hr, blk_own h.2.2 hg hr⟩
theorem SBx.below {W W' : World} {now m0 m1 : Int} (h : SBx w W now m0 m1) (hb : Below W.heap.size W W') : SBx w W' now m0 m1 := ⟨h.1.below hb, h.2.1.below hb, h.2.2.below hb⟩
theorem SBx.did {W W2 : World} {G : Nat → Prop} {y : Cn} {now m0 m1 : Int} (h : SBx w W now m0 m1) (hC : CN W G b y) (hD : Did G W W2) : SBx w W2 now m0 m1 := ⟨cdid_blk hC hD h.1 (by decide), cdid_blk hC hD h.2.1 (by decide), cdid_blk hC hD h.2.2 (by decide)⟩
theorem sinv_own {B : Nat} (hB : w.heap.size ≤ B) (F : Nat → Prop) (now m0 m1 : Int) (f : List Nat → So) : OwnFrom B (SInv w F b a0 a1 now m0 m1 f) := by
  rintro pre W W' row ⟨h1, h2, h3⟩ hg hr
  exact ⟨ctp_own h1 hg fun r e => ⟨Nat.le_trans hB (hr r e).1, (hr r e).2⟩, h2.own hg fun r e => (hr r e).2, blk_own h3 hg fun r e => (hr r e).2⟩
def Go (x : Cn) (n : Int) : Prop := x.a.got ≤ n ∧ x.b.got ≤ n
theorem Go.lk {n : Int} (h : Go x n) (way : Int) : (lk x way).got ≤ n := by
  unfold Conn.lk
  split
  · exact h.1
  · exact h.2
theorem step_sz {k : Lk} (ho : OkK k M Q) (now win : Int) : ((stepB k now win).size : Int) ≤ M := by
  have ho1 := ok_step ho.c now
  have hM0 : 0 ≤ M := by have := ho.c.held; omega
  have ho2 := ok_take ho1 hM0 now win
  have h1 := (flow_massIO (flow_take (stepC now k.c) now win)).1
  have h2 := ho1.lost
  have h3 := ho2.lost0
  have e0 : ((⟨#[]⟩ : ByteArray).size : Int) = 0 := rfl
  rw [e0] at h1
  unfold stepB
  omega
theorem step_got {k : Lk} (ho : OkK k M Q) (now win : Int) : (stepK k now win).got ≤ k.got + M := by
  have := step_sz ho now win
  show k.got + _ ≤ _
  omega
theorem Go.on {n : Int} (h : Go x n) (way : Int) {k : Lk} {m : Int} (hm : n ≤ m) (hk : k.got ≤ m) : Go (onW x way k) m := by
  have h1 := h.1
  have h2 := h.2
  unfold onW
  split
  · exact ⟨hk, by show x.b.got ≤ m; omega⟩
  · exact ⟨by show x.a.got ≤ m; omega, hk⟩
theorem oneS_ok (now m0 m1 : Int) (k : Nat) {s : So} {g : Int} (h : OkN s.x M Q) (hg : Go s.x g) : OkN (oneS now m0 m1 s k).x M (Q + 30 * M) ∧ Go (oneS now m0 m1 s k).x (g + M) := by
  have hM0 : 0 ≤ M := by have := h.a.c.held; omega
  rw [oneS_x]
  exact ⟨h.on (by omega) k ((h.lk k).step _ _), hg.on k (by omega) (by have := step_got (h.lk k) now (mk2 m0 m1 k); have := hg.lk k; omega)⟩
theorem stF_ok (now m0 m1 : Int) : ∀ (ks : List Nat) (s : So) (Q g : Int), ks.length ≤ 1 → OkN s.x M Q → Go s.x g → OkN (stF now m0 m1 ks s).x M (Q + 30 * M) ∧ Go (stF now m0 m1 ks s).x (g + M)
  | [], s, Q, g, _, h, hg => by
    have hM0 : 0 ≤ M := by have := h.a.c.held; omega
    exact ⟨⟨h.a.more (Int.le_refl _) (by omega), h.b.more (Int.le_refl _) (by omega)⟩, ⟨by have := hg.1; show s.x.a.got ≤ _; omega, by have := hg.2; show s.x.b.got ≤ _; omega⟩⟩
  | [k], s, Q, g, _, h, hg => oneS_ok now m0 m1 k h hg
  | _ :: _ :: r, s, Q, g, hl, h, hg => by simp at hl
def EInv (w : World) (F : Nat → Prop) (b a0 a1 : Nat) (now m0 m1 : Int) (BB D0 : Nat) (bk : Bool) (f : List Nat → So) (pre : List (Fin 2)) (W : World) : Prop :=
  SInv w F b a0 a1 now m0 m1 f pre W ∧ Blk W BB 4 #[.bool bk] ∧ W.heap[D0]? = some (.deferred (some []))
theorem einv_own {B BB D0 : Nat} (hB : w.heap.size ≤ B) (hD : D0 < B) (F : Nat → Prop) (now m0 m1 : Int) (bk : Bool) (f : List Nat → So) : OwnFrom B (EInv w F b a0 a1 now m0 m1 BB D0 bk f) := by
  rintro pre W W' row ⟨h1, h2, h3⟩ hg hr
  refine ⟨sinv_own hB F now m0 m1 f _ _ _ _ h1 hg hr, blk_own h2 hg fun r e => (hr r e).2, (hg.block D0 (Array.getElem?_eq_some_iff.1 h3).1 ?_).trans h3⟩
  intro e
  have := (hr D0 e.symm).1
  omega
theorem stF_ok2 (now m0 m1 : Int) {s : So} {Q g : Int} (h : OkN s.x M Q) (hg : Go s.x g) : OkN (stF now m0 m1 [0, 1] s).x M (Q + 30 * M + 30 * M) ∧ Go (stF now m0 m1 [0, 1] s).x (g + M + M) := by
  have h1 := oneS_ok now m0 m1 0 h hg
  exact oneS_ok now m0 m1 1 h1.1 h1.2
def enS (bk : Bool) (now : Int) (s : So) (k : Nat) : So :=
  if bk = true ∧ (lk s.x k).done = false then
    (if k = 0 then ⟨onW s.x k (stepK (cutK (lk s.x k)) now 0), s.s0, stepE (cutK (lk s.x k)) now 0, s.s1, s.e1⟩
      else ⟨onW s.x k (stepK (cutK (lk s.x k)) now 0), s.s0, s.e0, s.s1, stepE (cutK (lk s.x k)) now 0⟩)
  else s
def enF (bk : Bool) (now : Int) (ks : List Nat) (s : So) : So := ks.foldl (enS bk now) s
theorem enF_snoc (bk : Bool) (now : Int) (ks : List Nat) (k : Nat) (s : So) : enF bk now (ks ++ [k]) s = enS bk now (enF bk now ks s) k := by unfold enF; rw [List.foldl_append]; rfl
theorem enF_two (bk : Bool) (now m0 m1 : Int) (x : Cn) (hb : brkB x now m0 m1 = bk) : enF bk now [0, 1] ⟨halfN x now m0 m1, stepB x.a now m0, stepE x.a now m0, stepB x.b now m1, stepE x.b now m1⟩ = ⟨stepN x now m0 m1, (outA x now m0 m1).1, (outA x now m0 m1).2, (outB x now m0 m1).1, (outB x now m0 m1).2⟩ := by
  unfold stepN outA outB
  rw [hb]
  unfold enF halfN
  simp only [List.foldl]
  unfold enS onW lk endK endE
  cases bk <;> cases h0 : (stepK x.a now m0).done <;> cases h1 : (stepK x.b now m1).done <;> simp [h0, h1]
theorem okK_cut2 {k : Lk} (h : OkK k M Q) (hQ : 0 ≤ Q) (hM : 0 ≤ M) (hd : k.drawn + 1 ≤ 1000000000) (now : Int) : OkK (stepK (cutK k) now 0) M (Q + 60 * M) := by
  have := (okK_cut h hQ hM hd).1.step now 0
  rwa [show Q + 30 * M + 30 * M = Q + 60 * M by omega] at this
theorem enS_x (bk : Bool) (now : Int) (s : So) (k : Nat) : (enS bk now s k).x = if bk = true ∧ (lk s.x k).done = false then onW s.x k (stepK (cutK (lk s.x k)) now 0) else s.x := by
  unfold enS
  by_cases h : bk = true ∧ (lk s.x k).done = false
  · rw [if_pos h, if_pos h]; split <;> rfl
  · rw [if_neg h, if_neg h]
theorem enS_ok (bk : Bool) (now : Int) (k : Nat) {s : So} {g n : Int} (h : OkN s.x M Q) (hQ : 0 ≤ Q) (hg : Go s.x g) (hd : Dr s.x n) (hn : n + 1 ≤ 1000000000) : OkN (enS bk now s k).x M (Q + 60 * M) ∧ Go (enS bk now s k).x (g + M) ∧ Dr (enS bk now s k).x n := by
  have hM0 : 0 ≤ M := by have := h.a.c.held; omega
  rw [enS_x]
  split
  · have hdk := hd.lk (k : Int)
    refine ⟨h.on (by omega) k (okK_cut2 (h.lk k) hQ hM0 (by omega) now), hg.on k (by omega) ?_, hd.on k hdk⟩
    have := step_got (okK_cut (h.lk k) hQ hM0 (by omega)).1 now 0
    have h2 := hg.lk (k : Int)
    have e : (cutK (lk s.x k)).got = (lk s.x k).got := rfl
    omega
  · exact ⟨⟨h.a.more (Int.le_refl _) (by omega), h.b.more (Int.le_refl _) (by omega)⟩, ⟨by have := hg.1; omega, by have := hg.2; omega⟩, hd⟩
theorem enF_ok (bk : Bool) (now : Int) : ∀ (ks : List Nat) (s : So) (Q g n : Int), ks.length ≤ 1 → OkN s.x M Q → 0 ≤ Q → Go s.x g → Dr s.x n → n + 1 ≤ 1000000000 → OkN (enF bk now ks s).x M (Q + 60 * M) ∧ Go (enF bk now ks s).x (g + M) ∧ Dr (enF bk now ks s).x n
  | [], s, Q, g, n, _, h, hQ, hg, hd, hn => by
    have hM0 : 0 ≤ M := by have := h.a.c.held; omega
    exact ⟨⟨h.a.more (Int.le_refl _) (by omega), h.b.more (Int.le_refl _) (by omega)⟩, ⟨by have := hg.1; show s.x.a.got ≤ _; omega, by have := hg.2; show s.x.b.got ≤ _; omega⟩, hd⟩
  | [k], s, Q, g, n, _, h, hQ, hg, hd, hn => enS_ok bk now k h hQ hg hd hn
  | _ :: _ :: r, s, Q, g, n, hl, h, hQ, hg, hd, hn => by simp at hl
theorem enS_cells (now : Int) (s : So) {k : Nat} (hk : k < 2) (hd : (lk s.x k).done = false) : (enS true now s k).cells = s.cells.setIfInBounds (k * 2 + 1) (.int .i64 (stepE (cutK (lk s.x k)) now 0)) ∧ (enS true now s k).x = onW s.x k (stepK (cutK (lk s.x k)) now 0) := by
  unfold enS
  rw [if_pos ⟨rfl, hd⟩]
  have h01 : k = 0 ∨ k = 1 := by omega
  rcases h01 with e | e <;> subst e <;> exact ⟨rfl, rfl⟩
theorem lk_on (x : Cn) (way : Int) (k : Lk) : lk (onW x way k) way = k := by
  unfold lk onW
  by_cases e : way = 0
  · rw [if_pos e, if_pos e]
  · rw [if_neg e, if_neg e]
theorem on_on (x : Cn) (way : Int) (k k' : Lk) : onW (onW x way k) way k' = onW x way k' := by
  unfold onW
  by_cases e : way = 0
  · rw [if_pos e, if_pos e, if_pos e]
  · rw [if_neg e, if_neg e, if_neg e]
theorem keeps_undrew {W w3 : World} (h : KeepsOthers W.drew w3) : KeepsOthers W w3 := ⟨h.1, h.2⟩
theorem CTp.far (h : CTp w F w1 b a0 a1 y) {g : Nat} {ty : TypeId} {cs : Array Value} (hb : Blk w1 g ty cs) (ht : ty ∉ nts) (hg : w.heap.size ≤ g) (i : Nat) (u : Value) : CTp w F (w1.setCell ⟨g, i, none⟩ u) b a0 a1 y := by
  obtain ⟨F', hC, hD, hS⟩ := h
  exact ⟨F', hC.kept fun j hj => Below.heap_setCell w1 ⟨g, i, none⟩ u j fun e => hC.cn.off hb ht (by have e' : j = g := e; exact e' ▸ hj), hD.setCell (p := ⟨g, i, none⟩) (.inr hg) u, hS⟩
theorem SBx.far {now m0 m1 : Int} (h : SBx w w1 now m0 m1) {g : Nat} (hg : w.heap.size + 2 < g) (i : Nat) (u : Value) : SBx w (w1.setCell ⟨g, i, none⟩ u) now m0 m1 :=
  ⟨h.1.far (p := ⟨g, i, none⟩) (by show w.heap.size ≠ g; omega) u, h.2.1.far (p := ⟨g, i, none⟩) (by show w.heap.size + 1 ≠ g; omega) u, h.2.2.far (p := ⟨g, i, none⟩) (by show w.heap.size + 2 ≠ g; omega) u⟩
theorem oneS_cells (now m0 m1 : Int) (s : So) {k : Nat} (hk : k < 2) : (oneS now m0 m1 s k).cells = (s.cells.setIfInBounds (k * 2) (.string (stepB (lk s.x k) now (mk2 m0 m1 k)))).setIfInBounds (k * 2 + 1) (.int .i64 (stepE (lk s.x k) now (mk2 m0 m1 k))) := by
  have h01 : k = 0 ∨ k = 1 := by omega
  rcases h01 with e | e <;> subst e <;> rfl
theorem cells_two (s : So) {k : Nat} (hk : k < 2) : (∃ u, s.cells[k * 2]? = some u) ∧ ∃ u, s.cells[k * 2 + 1]? = some u := by
  have h01 : k = 0 ∨ k = 1 := by omega
  rcases h01 with e | e <;> subst e <;> exact ⟨⟨_, rfl⟩, ⟨_, rfl⟩⟩
set_option maxHeartbeats 4000000 in
theorem cStep_any (h : CN w F b x) (ho : OkN x M Q) (hM : M ≤ 1000000) (hQ : Q + 200 * M ≤ 100000000) {g : Int} (hg : Go x g) (hgM : g + 5 * M ≤ 1000000000) (hQ0 : 0 ≤ Q) {n : Int} (hd : Dr x n) (hn : n + 1 ≤ 1000000000) (now m0 m1 : Int) :
    Calls Tryz.prog 19 #[ptr b, .int .i64 now, .agg #[.int .i64 m0, .int .i64 m1]] w fun e w' => e = .returned (.agg #[.string (outA x now m0 m1).1, .int .i64 (outA x now m0 m1).2, .string (outB x now m0 m1).1, .int .i64 (outB x now m0 m1).2]) ∧ CTu w F w' b (stepN x now m0 m1) := by
  have hb : Below w.heap.size w ((((w.alloc (.cells #[.int .i64 now] 3)).alloc (.cells #[.int .i64 m0, .int .i64 m1] 41)).alloc (.cells #[.string ⟨#[]⟩, .int .i64 0, .string ⟨#[]⟩, .int .i64 0] 64)).alloc (.cells #[.string ⟨#[]⟩, .int .i64 0, .string ⟨#[]⟩, .int .i64 0] 64)) := ((((Below.refl w.heap.size w).alloc (Nat.le_refl _) _).alloc (by simp) _).alloc (by simp; omega) _).alloc (by simp; omega) _
  obtain ⟨G0, G1, a0, a1, v, h⟩ := h
  have hN := Lib.hid (show SBx w ((((w.alloc (.cells #[.int .i64 now] 3)).alloc (.cells #[.int .i64 m0, .int .i64 m1] 41)).alloc (.cells #[.string ⟨#[]⟩, .int .i64 0, .string ⟨#[]⟩, .int .i64 0] 64)).alloc (.cells #[.string ⟨#[]⟩, .int .i64 0, .string ⟨#[]⟩, .int .i64 0] 64)) now m0 m1 ∧ Blk ((((w.alloc (.cells #[.int .i64 now] 3)).alloc (.cells #[.int .i64 m0, .int .i64 m1] 41)).alloc (.cells #[.string ⟨#[]⟩, .int .i64 0, .string ⟨#[]⟩, .int .i64 0] 64)).alloc (.cells #[.string ⟨#[]⟩, .int .i64 0, .string ⟨#[]⟩, .int .i64 0] 64)) (w.heap.size + 3) 64 out0 from by
    have n0 := Blk.new w 3 #[.int .i64 now]
    have n1 := Blk.new (w.alloc (.cells #[.int .i64 now] 3)) 41 #[.int .i64 m0, .int .i64 m1]
    have n2 := Blk.new ((w.alloc (.cells #[.int .i64 now] 3)).alloc (.cells #[.int .i64 m0, .int .i64 m1] 41)) 64 out0
    have n3 := Blk.new (((w.alloc (.cells #[.int .i64 now] 3)).alloc (.cells #[.int .i64 m0, .int .i64 m1] 41)).alloc (.cells out0 64)) 64 out0
    rw [show (w.alloc (.cells #[.int .i64 now] 3)).heap.size = w.heap.size + 1 by simp] at n1
    rw [show ((w.alloc (.cells #[.int .i64 now] 3)).alloc (.cells #[.int .i64 m0, .int .i64 m1] 41)).heap.size = w.heap.size + 2 by simp] at n2
    rw [show (((w.alloc (.cells #[.int .i64 now] 3)).alloc (.cells #[.int .i64 m0, .int .i64 m1] 41)).alloc (.cells out0 64)).heap.size = w.heap.size + 3 by simp] at n3
    exact ⟨⟨((n0.below ((Below.refl _ _).alloc (Nat.le_refl _) _)).below ((Below.refl _ _).alloc (Nat.le_refl _) _)).below ((Below.refl _ _).alloc (Nat.le_refl _) _), (n1.below ((Below.refl _ _).alloc (Nat.le_refl _) _)).below ((Below.refl _ _).alloc (Nat.le_refl _) _), n2.below ((Below.refl _ _).alloc (Nat.le_refl _) _)⟩, n3⟩)
  have hC := Lib.hid (h.below hb)
  have hD0 := Lib.hid (Did.of_below (F := F) hb)
  have hsz := Lib.hid (show (((((w.alloc (.cells #[.int .i64 now] 3)).alloc (.cells #[.int .i64 m0, .int .i64 m1] 41)).alloc (.cells #[.string ⟨#[]⟩, .int .i64 0, .string ⟨#[]⟩, .int .i64 0] 64)).alloc (.cells #[.string ⟨#[]⟩, .int .i64 0, .string ⟨#[]⟩, .int .i64 0] 64))).heap.size = w.heap.size + 4 by simp)
  clear h hb
  refine (callsIn_wide (n := 9)).1 ?_
  show CallsIn (wideR none) 9 Tryz.prog 19 _ _ _
  refine callsIn_of_wp_marks Tryz.func19 rfl trivial ?_ rfl
  simp only [Tryz.ntmps19, List.size_toArray, List.length_cons, List.length_nil, Nat.reduceAdd, Nat.reduceSub, Array.replicate_succ, Array.replicate_zero, List.push_toArray, List.append_toArray, List.nil_append, List.cons_append]
  gi_wp2_with fail
  refine ⟨trivial, ?_⟩
  refine (callsIn_wideR (each_any b _)).mono ?_
  rintro e w2 ⟨rfl, hw2⟩
  have hB2 : Below (((((w.alloc (.cells #[.int .i64 now] 3)).alloc (.cells #[.int .i64 m0, .int .i64 m1] 41)).alloc (.cells #[.string ⟨#[]⟩, .int .i64 0, .string ⟨#[]⟩, .int .i64 0] 64)).alloc (.cells #[.string ⟨#[]⟩, .int .i64 0, .string ⟨#[]⟩, .int .i64 0] 64))).heap.size ((((w.alloc (.cells #[.int .i64 now] 3)).alloc (.cells #[.int .i64 m0, .int .i64 m1] 41)).alloc (.cells #[.string ⟨#[]⟩, .int .i64 0, .string ⟨#[]⟩, .int .i64 0] 64)).alloc (.cells #[.string ⟨#[]⟩, .int .i64 0, .string ⟨#[]⟩, .int .i64 0] 64)) w2 := by rw [hw2]; exact (Below.refl _ _).alloc (Nat.le_refl _) _
  have hC2 := Lib.hid (hC.out.below hB2)
  have hN2 := Lib.hid (show SBx w w2 now m0 m1 ∧ Blk w2 (w.heap.size + 3) 64 out0 from ⟨hN.out.1.below hB2, hN.out.2.below hB2⟩)
  have hD2 := Lib.hid (hD0.out.trans (Stem.refl _ _) (Did.of_below (F := F) hB2))
  have hbn := Lib.hid (show Blk w2 (w.heap.size + 4) 28 #[ptr b] from by
    rw [hw2, ← hsz.out]
    exact Blk.new _ _ _)
  have hs2 : w.heap.size + 4 < w2.heap.size := hbn.out.lt
  rw [hsz.out]
  have hM0 : 0 ≤ M := by have := ho.a.c.held; omega
  have hok := Lib.hid (fun ks hks => stF_ok now m0 m1 ks ⟨x, ⟨#[]⟩, 0, ⟨#[]⟩, 0⟩ Q g hks ho hg)
  have hoN := Lib.hid ho
  have hgN := Lib.hid hg
  clear hC hN hD0 hB2 ho hsz hg
  gi_wp2
  rw [← hw2]
  clear hw2
  refine wpIn_rangeFunc_ownH (F := wideR none) rfl (by omega) (gf := 46) (lb := #[ptr (w.heap.size + 4)]) rfl trivial (enters_of Tryz.func46 (by kernel_rfl) rfl)
    (each_stops (w.heap.size + 4) b a0 a1 (9 - 1) v w2 ((hbn.out.cell 0).trans rfl) ((hC2.out.blk.cell 0).trans rfl) ((hC2.out.blk.cell 1).trans rfl) ⟨hbn.out.lt, hC2.out.blk.lt⟩) (fun _ _ => trivial) (fun _ _ _ _ _ _ _ _ => trivial) (Below.refl _ _) (fun _ => rfl)
    (SInv w F b a0 a1 now m0 m1 (fun ks => stF now m0 m1 ks ⟨x, ⟨#[]⟩, 0, ⟨#[]⟩, 0⟩))
    (fun _ _ _ => False)
    (sinv_own (by omega) _ _ _ _ _)
    (fun _ _ _ _ _ hs _ _ => hs)
    ⟨⟨F, ⟨_, _, _, hC2.out⟩, hD2.out, Stem.refl _ _⟩, hN2.out.1, hN2.out.2⟩
    (fun k a' W => a' = { tmps := #[ptr b, .int .i64 now, .agg #[.int .i64 m0, .int .i64 m1], undef, ptr w.heap.size, ptr (w.heap.size + 1), ptr (w.heap.size + 2), ptr (w.heap.size + 3), .int .i64 k.1, ptr (px a0 a1 k.1), undef, undef, undef, undef, undef, undef, undef, ptr b, .func (.func 46) #[] #[ptr (w.heap.size + 4)], .int .i64 k.1, ptr (px a0 a1 k.1), undef, undef, undef, undef, undef, undef, undef, undef, undef, undef, undef, undef, undef, undef, undef, undef, undef, undef, undef, undef, undef, undef, undef, undef, undef, undef, undef, undef, undef, undef, undef, undef, undef, undef, undef, undef, undef, undef, undef, undef, undef, undef, undef, undef, undef, undef, undef, undef, undef], defers := [] })
    (fun k a' _ X Y row hs hg hr => hs)
    ?assign ?body ?done ?stop
  case assign =>
    intro l pre k W K hI hK
    gi_wp2
    exact hK _ _ (KeepsFrom.refl _ _) trivial hI rfl
  case body =>
    rintro l pre k a' W hl hr ⟨⟨F2, hC, hD, hS⟩, hSB, hO⟩ rfl hlt
    clear hr hl
    have hC : CNp W F2 b a0 a1 (stF now m0 m1 (pre.map Fin.val) ⟨x, ⟨#[]⟩, 0, ⟨#[]⟩, 0⟩).x := hC
    have hO : Blk W (w.heap.size + 3) 64 (stF now m0 m1 (pre.map Fin.val) ⟨x, ⟨#[]⟩, 0, ⟨#[]⟩, 0⟩).cells := hO
    obtain ⟨hok', hgo'⟩ := hok.out (pre.map Fin.val) (by rw [List.length_map]; omega)
    have hsn := Lib.hid (stF_snoc now m0 m1 (pre.map Fin.val) k.1 ⟨x, ⟨#[]⟩, 0, ⟨#[]⟩, 0⟩)
    generalize stF now m0 m1 (pre.map Fin.val) ⟨x, ⟨#[]⟩, 0, ⟨#[]⟩, 0⟩ = y at *
    obtain ⟨H0, H1, v2, hG⟩ := hC
    have hax := px_ax a0 a1 k.1
    have hk2 := k.2
    have hk2i : (k.1 : Int) < 2 := by omega
    have hk := Lib.hid (kStep_any (hG.drew.lk_ (k.1 : Int)) (hok'.lk (k.1 : Int)) hM (by omega) (by have := hgo'.lk (k.1 : Int); omega) now (mk2 m0 m1 k.1))
    rw [hax]
    have qn : W.cell? ⟨w.heap.size, 0, none⟩ = some (.int .i64 now) := (hSB.1.cell 0).trans rfl
    have qm : W.cell? ⟨w.heap.size + 1, k.1, none⟩ = some (.int .i64 (mk2 m0 m1 k.1)) := (hSB.2.1.cell k.1).trans (by
      have h01 : k.1 = 0 ∨ k.1 = 1 := by omega
      rcases h01 with e | e <;> rw [e] <;> rfl)
    have HG := Lib.hid hG
    have HI := Lib.hid (And.intro hD hS)
    have HS := Lib.hid hSB
    have HO := Lib.hid hO
    clear hG hD hS hSB hO hok' hgo' hax
    generalize hap : ax a0 a1 (k.1 : Int) = ap at *
    have hap' := Lib.hid hap
    clear hap
    have hmm := Lib.hid (show (#[.int .i64 m0, .int .i64 m1] : Array Value)[k.1]? = some (.int .i64 (mk2 m0 m1 k.1)) from by
      have h01 : k.1 = 0 ∨ k.1 = 1 := by omega
      rcases h01 with e | e <;> rw [e] <;> rfl)
    gi_wp2
    refine startIn_ (ro := some l) (m := 11) (S := fun w' => w'.cell? ⟨w.heap.size, 0, none⟩ = some (.int .i64 now) ∧ w'.cell? ⟨w.heap.size + 1, k.1, none⟩ = some (.int .i64 (mk2 m0 m1 k.1))) (ds := []) (m_ 11 0) (by kernel_rfl) (by kernel_rfl) rfl (by kernel_rfl) ⟨qn, qm⟩ (fun hHeld => ?_)
    refine pq_ 0 22 11 1 ?_
    refine pq_ 2 24 11 5 ?_
    refine pq_ 3 25 11 13 ?_
    refine tq_ 1 23 11 15 hHeld ?_
    refine tq_ 4 26 11 31 hHeld ?_
    refine one_ (i := 5) (N := some 27) (m_ 11 63) rfl rfl (by kernel_rfl) (by decide) (fun K hK => ?_)
    refine goes_ Tryz.func39 (by kernel_rfl) rfl #[ptr ap, .int .i64 now, .int .i64 (mk2 m0 m1 k.1)] (by rfl) rfl rfl (by simp only [List.map_toArray, List.map_cons, List.map_nil]; rfl) ?_
    with_reducible refine (hk.out).mono ?_
    rintro e w3 ⟨A3, cp3, F3, rfl, hB3, hnw, hL3, hD3, hS3, -⟩
    have hTT := Lib.hid (CNG.turn3 (w' := w3) HG.out.drew (k.1 : Int) (k := stepK (lk y.x (k.1 : Int)) now (mk2 m0 m1 k.1)) (by rw [hap'.out]; exact ⟨F3, hL3, hD3, hS3⟩))
    obtain ⟨F4, H4, H5, v4, hG4, hD4, hS4⟩ := hTT.out
    have HS4 := Lib.hid ((show SBx w W.drew now m0 m1 from HS.out).did HG.out.drew.cn hD4)
    have HO4 := Lib.hid (cdid_blk HG.out.drew.cn hD4 (show Blk W.drew (w.heap.size + 3) 64 y.cells from HO.out) (by decide))
    have en : w3.cell? ⟨w.heap.size, 0, none⟩ = some (.int .i64 now) := (HS4.out.1.cell 0).trans rfl
    have em : w3.cell? ⟨w.heap.size + 1, k.1, none⟩ = some (.int .i64 (mk2 m0 m1 k.1)) := (HS4.out.2.1.cell k.1).trans hmm.out
    have HK4 := Lib.hid (show KeepsOthers W w3 from keeps_undrew (ckeeps_did HG.out.drew.cn hD4))
    have HG4 := Lib.hid (And.intro hG4 (And.intro hD4 hS4))
    have HB3 := Lib.hid hB3
    clear hG4 hD4 hS4 hTT hB3 hnw hL3 hD3 hS3 HG HS HO hk
    refine ⟨_, rfl, ?_⟩
    refine hK.out _ _ ⟨en, em⟩ (fun hHeld => ?_)
    clear hK K
    refine norm_ (a' := ?_) ?_ ?_
    rotate_left
    · show Act.put _ (some 27) _ = _
      simp only [Act.put, List.setIfInBounds_toArray, List.set_cons_zero, List.set_cons_succ, i64_w, i32_w]
      rfl
    refine pq_ 6 21 11 127 ?_
    refine pq_ 7 28 11 255 ?_
    refine pq_ 8 29 11 511 ?_
    refine pq_ 9 10 11 1023 ?_
    refine pq_ 10 11 11 2047 ?_
    refine done_ (by kernel_rfl) ?_
    refine out_of ?_
    clear hHeld qn qm en em hC hO
    have hce := Lib.hid (oneS_cells now m0 m1 y hk2)
    have hxe := Lib.hid (oneS_x now m0 m1 y k.1)
    have hcv' := conv_bytes cp3 HB3.out
    generalize stepB (lk y.x (k.1 : Int)) now (mk2 m0 m1 k.1) = B at *
    generalize stepE (lk y.x (k.1 : Int)) now (mk2 m0 m1 k.1) = E at *
    obtain ⟨⟨u0, hu0⟩, u1, hu1⟩ := cells_two y hk2
    have o0 : w3.cell? ⟨w.heap.size + 3, k.1 * 2, none⟩ = some u0 := (HO4.out.cell _).trans hu0
    have f0 := HO4.out.free (k.1 * 2)
    have HO5 := Lib.hid (HO4.out.set_ (k.1 * 2) (.string B))
    have o1 : (w3.setCell ⟨w.heap.size + 3, k.1 * 2, none⟩ (.string B)).cell? ⟨w.heap.size + 3, k.1 * 2 + 1, none⟩ = some u1 := (HO5.out.cell _).trans (by rw [Array.getElem?_setIfInBounds_ne (by omega)]; exact hu1)
    have f1 := HO5.out.free (k.1 * 2 + 1)
    have hfin := Lib.hid (show KeepsFrom w2.heap.size W ((w3.setCell ⟨w.heap.size + 3, k.1 * 2, none⟩ (.string B)).setCell ⟨w.heap.size + 3, k.1 * 2 + 1, none⟩ (.int .i64 E)) ∧ Kt W ((w3.setCell ⟨w.heap.size + 3, k.1 * 2, none⟩ (.string B)).setCell ⟨w.heap.size + 3, k.1 * 2 + 1, none⟩ (.int .i64 E)) ∧ SInv w F b a0 a1 now m0 m1 (fun ks => stF now m0 m1 ks ⟨x, ⟨#[]⟩, 0, ⟨#[]⟩, 0⟩) (pre ++ [k]) ((w3.setCell ⟨w.heap.size + 3, k.1 * 2, none⟩ (.string B)).setCell ⟨w.heap.size + 3, k.1 * 2 + 1, none⟩ (.int .i64 E)) from by
      refine ⟨(HK4.out.trans ((KeepsOthers.setCell _ _ _).trans (KeepsOthers.setCell _ _ _))).from _, trivial, ?_⟩
      unfold SInv
      rw [List.map_append, List.map_cons, List.map_nil]
      show CTp w F _ b a0 a1 (stF now m0 m1 (pre.map Fin.val ++ [k.1]) ⟨x, ⟨#[]⟩, 0, ⟨#[]⟩, 0⟩).x ∧ _ ∧ Blk _ _ _ (stF now m0 m1 (pre.map Fin.val ++ [k.1]) ⟨x, ⟨#[]⟩, 0, ⟨#[]⟩, 0⟩).cells
      rw [hsn.out, hce.out, hxe.out]
      have h1 : CTp w F w3 b a0 a1 (onW y.x (k.1 : Int) (stepK (lk y.x (k.1 : Int)) now (mk2 m0 m1 k.1))) := CTp.next HI.out.1.drew HI.out.2 ⟨F4, ⟨_, _, _, HG4.out.1⟩, HG4.out.2.1, HG4.out.2.2⟩
      exact ⟨(h1.far HO4.out (by decide) (by omega) _ _).far HO5.out (by decide) (by omega) _ _, (HS4.out.far (by omega) _ _).far (by omega) _ _, HO5.out.set_ _ _⟩)
    clear HS4 HO4 HG4 HB3 HO5 hce hxe hmm hap' HI hsn hu0 hu1
    gi_wp2
    exact hfin.out
  case done =>
    rintro D0 xs W hD0 hxs ⟨⟨F2, hC, hD, hS⟩, hSB, hO⟩ hK
    have hC : CNp W F2 b a0 a1 (stF now m0 m1 (xs.map Fin.val) ⟨x, ⟨#[]⟩, 0, ⟨#[]⟩, 0⟩).x := hC
    have hO : Blk W (w.heap.size + 3) 64 (stF now m0 m1 (xs.map Fin.val) ⟨x, ⟨#[]⟩, 0, ⟨#[]⟩, 0⟩).cells := hO
    have hok2 := stF_ok2 now m0 m1 (s := ⟨x, ⟨#[]⟩, 0, ⟨#[]⟩, 0⟩) hoN.out hgN.out
    rw [hxs, stF_two] at hC hO
    rw [stF_two] at hok2
    have hen := Lib.hid (fun bk hb => enF_two bk now m0 m1 x hb)
    have hbk := Lib.hid (show brkB x now m0 m1 = (stepE x.a now m0 == 2 || stepE x.b now m1 == 2) from rfl)
    obtain ⟨s2, hs2e⟩ : ∃ s2 : So, s2 = ⟨halfN x now m0 m1, stepB x.a now m0, stepE x.a now m0, stepB x.b now m1, stepE x.b now m1⟩ := ⟨_, rfl⟩
    have hC : CNp W F2 b a0 a1 s2.x := by rw [hs2e]; exact hC
    have hO : Blk W (w.heap.size + 3) 64 s2.cells := by rw [hs2e]; exact hO
    have hok3 : OkN s2.x M (Q + 30 * M + 30 * M) ∧ Go s2.x (g + M + M) ∧ Dr s2.x n := by rw [hs2e]; exact ⟨hok2.1, hok2.2, hd⟩
    rw [← hs2e] at hen
    have hea : stepE x.a now m0 = s2.e0 := by rw [hs2e]
    have heb : stepE x.b now m1 = s2.e1 := by rw [hs2e]
    rw [hea, heb] at hbk
    generalize brkB x now m0 m1 = BK at *
    generalize hYN : stepN x now m0 m1 = YN at *
    have hYNe := Lib.hid hYN
    clear hYN
    generalize hOA : outA x now m0 m1 = OA at *
    have hOAe := Lib.hid hOA
    clear hOA
    generalize hOB : outB x now m0 m1 = OB at *
    have hOBe := Lib.hid hOB
    clear hOB
    have hC' := Lib.hid hC
    have hDS := Lib.hid (And.intro hD hS)
    have hSB' := Lib.hid hSB
    have hO' := Lib.hid hO
    have hK' := Lib.hid hK
    have hok3' := Lib.hid hok3
    have o1 : W.cell? ⟨w.heap.size + 3, 1, none⟩ = some (.int .i64 s2.e0) := (hO.cell 1).trans rfl
    have o3 : W.cell? ⟨w.heap.size + 3, 3, none⟩ = some (.int .i64 s2.e1) := (hO.cell 3).trans rfl
    have hD0' : w.heap.size ≤ D0 := by omega
    have hWW : w.heap.size + 4 < W.heap.size := by have := (Array.getElem?_eq_some_iff.1 hK).1; omega
    clear hs2e hea heb hC hD hS hSB hO hK hok2 hok3 hxs hok hoN hgN hC2 hN2 hD2 hbn hd hD0 hs2
    cases e0 : s2.e0 == 2 with
    | true =>
      gi_wp2_with fail
      refine ⟨trivial, ?_⟩
      refine (callsIn_wideR (each_any b _)).mono ?_
      rintro e w4 ⟨rfl, hw4⟩
      rw [show (W.alloc (.cells #[.bool true] 4)).heap.size = W.heap.size + 1 by simp]
      have hb4 : Below W.heap.size W w4 := by rw [hw4]; exact ((Below.refl _ W).alloc (Nat.le_refl _) _).alloc (by simp) _
      have hbb := Lib.hid (show Blk w4 W.heap.size 4 #[.bool true] from by rw [hw4]; exact (Blk.new W _ _).below ((Below.refl _ _).alloc (Nat.le_refl _) _))
      have hbn := Lib.hid (show Blk w4 (W.heap.size + 1) 28 #[ptr b] from by
        rw [hw4]
        have := Blk.new (W.alloc (.cells #[.bool true] 4)) 28 #[ptr b]
        simpa using this)
      have hC4 := Lib.hid (hC'.out.below hb4)
      have hDS4 := Lib.hid (show Did F w w4 ∧ Stem F F2 w from ⟨hDS.out.1.trans hDS.out.2 (Did.of_below hb4), hDS.out.2⟩)
      have hSB4 := Lib.hid (hSB'.out.below hb4)
      have hO4 := Lib.hid (hO'.out.below hb4)
      have hKD4 := Lib.hid ((hb4.block D0 (Array.getElem?_eq_some_iff.1 hK'.out).1).trans hK'.out)
      have hbnl : W.heap.size + 1 < w4.heap.size := hbn.out.lt
      have hD0l : D0 < W.heap.size := (Array.getElem?_eq_some_iff.1 hK'.out).1
      generalize hBB : W.heap.size = BB at *
      clear hb4 hw4 hC' hDS hSB' hO' hK' o1 o3 hBB
      gi_wp2
      obtain ⟨H0, H1, v2, hG4⟩ := hC4.out
      refine wpIn_rangeFunc_ownH (F := wideR none) rfl (by omega) (gf := 46) (lb := #[ptr (BB + 1)]) rfl trivial (enters_of Tryz.func46 (by kernel_rfl) rfl)
        (each_stops (BB + 1) b a0 a1 (9 - 1) v w4 ((hbn.out.cell 0).trans rfl) ((hG4.blk.cell 0).trans rfl) ((hG4.blk.cell 1).trans rfl) ⟨hbn.out.lt, hG4.blk.lt⟩) (fun _ _ => trivial) (fun _ _ _ _ _ _ _ _ => trivial) (Below.refl _ _) (fun _ => rfl)
        (EInv w F b a0 a1 now m0 m1 BB D0 true (fun ks => enF true now ks s2))
        (fun _ _ _ => False)
        (einv_own (by omega) (by omega) _ _ _ _ _ _)
        (fun _ _ _ _ _ hs _ _ => hs)
        ⟨⟨⟨F2, hC4.out, hDS4.out.1, hDS4.out.2⟩, hSB4.out, hO4.out⟩, hbb.out, hKD4.out⟩
        (fun k a' W => a' = { tmps := #[ptr b, .int .i64 now, .agg #[.int .i64 m0, .int .i64 m1], undef, ptr w.heap.size, ptr (w.heap.size + 1), ptr (w.heap.size + 2), ptr (w.heap.size + 3), undef, undef, undef, undef, ptr BB, .int .i64 k.1, ptr (px a0 a1 k.1), undef, undef, ptr b, .func (.func 46) #[] #[ptr (w.heap.size + 4)], undef, undef, undef, undef, undef, undef, undef, undef, undef, undef, undef, undef, undef, undef, undef, undef, undef, ptr (w.heap.size + 3), .pointer (some ⟨w.heap.size + 3, 1, none⟩), .int .i64 s2.e0, .bool true, .bool true, undef, undef, undef, undef, .bool true, ptr b, .func (.func 46) #[] #[ptr (BB + 1)], .int .i64 k.1, ptr (px a0 a1 k.1), undef, undef, undef, undef, undef, undef, undef, undef, undef, undef, undef, undef, undef, undef, undef, undef, undef, undef, undef, undef], defers := [] })
        (fun k a' _ X Y row hs hg hr => hs)
        ?assign2 ?body2 ?done2 ?stop2
      case assign2 =>
        intro l pre k W K hI hK
        gi_wp2
        exact hK _ _ (KeepsFrom.refl _ _) trivial hI rfl
      case body2 =>
        rintro l pre k a' W1 hl hr ⟨⟨⟨F3, hC, hD, hS⟩, hSB, hO⟩, hbb1, hKD⟩ rfl hlt
        clear hr hl
        have hC : CNp W1 F3 b a0 a1 (enF true now (pre.map Fin.val) s2).x := hC
        have hO : Blk W1 (w.heap.size + 3) 64 (enF true now (pre.map Fin.val) s2).cells := hO
        obtain ⟨hokq, hgq, hdq⟩ := enF_ok true now (pre.map Fin.val) s2 (Q + 30 * M + 30 * M) (g + M + M) n (by rw [List.length_map]; omega) hok3'.out.1 (by omega) hok3'.out.2.1 hok3'.out.2.2 hn
        have hsn := Lib.hid (enF_snoc true now (pre.map Fin.val) k.1 s2)
        generalize enF true now (pre.map Fin.val) s2 = y at *
        have hk2 := k.2
        have hk2i : (k.1 : Int) < 2 := by omega
        have qb : W1.cell? ⟨BB, 0, none⟩ = some (.bool true) := (hbb1.cell 0).trans rfl
        obtain ⟨H2, H3, v3, hG⟩ := hC
        have hax := px_ax a0 a1 k.1
        have hdn := Lib.hid (kDone_any (hG.lk_ (k.1 : Int)))
        have hcu := Lib.hid (kCut_any (hG.lk_ (k.1 : Int)) (hokq.lk (k.1 : Int)) (by omega) now)
        have hokc := Lib.hid (okK_cut (hokq.lk (k.1 : Int)) (by omega) hM0 (by have := hdq.lk (k.1 : Int); omega)).1
        rw [hax]
        have qn : W1.cell? ⟨w.heap.size, 0, none⟩ = some (.int .i64 now) := (hSB.1.cell 0).trans rfl
        have HG := Lib.hid hG
        have HI := Lib.hid (And.intro hD hS)
        have HS := Lib.hid hSB
        have HO := Lib.hid hO
        have HB := Lib.hid hbb1
        have HK := Lib.hid hKD
        have hgl := hgq.lk (k.1 : Int)
        clear hG hD hS hSB hO hokq hgq hdq hax hbb1 hKD
        generalize hap : ax a0 a1 (k.1 : Int) = ap at *
        have hap' := Lib.hid hap
        clear hap
        cases hdd : (lk y.x (k.1 : Int)).done with
        | true =>
          rw [hdd] at hdn
          have hdd' := Lib.hid hdd
          clear hdd hcu hokc
          gi_wp2_with fail
          refine ⟨trivial, ?_⟩
          refine (callsIn_wideR hdn.out).mono ?_
          rintro e w5 ⟨rfl, rfl⟩
          have hfin := Lib.hid (show EInv w F b a0 a1 now m0 m1 BB D0 true (fun ks => enF true now ks s2) (pre ++ [k]) W1 from by
            unfold EInv SInv
            rw [List.map_append, List.map_cons, List.map_nil]
            show (CTp w F _ b a0 a1 (enF true now (pre.map Fin.val ++ [k.1]) s2).x ∧ _ ∧ Blk _ _ _ (enF true now (pre.map Fin.val ++ [k.1]) s2).cells) ∧ _
            rw [hsn.out]
            have he : enS true now y k.1 = y := by unfold enS; rw [if_neg (by rw [hdd'.out]; simp)]
            rw [he]
            exact ⟨⟨⟨F3, ⟨_, _, _, HG.out⟩, HI.out.1, HI.out.2⟩, HS.out, HO.out⟩, HB.out, HK.out⟩)
          clear hdn hdd' HG HI HS HO HB HK hsn
          gi_wp2
          exact ⟨KeepsFrom.refl _ _, trivial, hfin.out⟩
        | false =>
          rw [hdd] at hdn
          have hdd' := Lib.hid hdd
          clear hdd
          gi_wp2_with fail
          refine ⟨trivial, ?_⟩
          refine (callsIn_wideR hdn.out).mono ?_
          rintro e w5 ⟨rfl, rfl⟩
          clear hdn
          gi_wp2_with fail
          refine ⟨trivial, ?_⟩
          refine (callsIn_wideR hcu.out).mono ?_
          rintro e w5 ⟨rfl, hT5⟩
          obtain ⟨F5, H4, H5, v5, hG5, hD5, hS5⟩ := HG.out.turn3 (k.1 : Int) (k := cutK (lk y.x (k.1 : Int))) (by rw [hap'.out]; exact hT5)
          have hSB5 := Lib.hid (HS.out.did HG.out.cn hD5)
          have hO5 := Lib.hid (cdid_blk HG.out.cn hD5 HO.out (by decide))
          have hB5 := Lib.hid (cdid_blk HG.out.cn hD5 HB.out (by decide))
          have hKO5 := Lib.hid (ckeeps_did HG.out.cn hD5)
          have hlk := hG5.lk_ (k.1 : Int)
          rw [lk_on, hap'.out] at hlk
          have hst := Lib.hid (kStep_any hlk hokc.out hM (by omega) (by have e : (cutK (lk y.x (k.1 : Int))).got = (lk y.x (k.1 : Int)).got := rfl; omega) now 0)
          have qn5 : w5.cell? ⟨w.heap.size, 0, none⟩ = some (.int .i64 now) := (hSB5.out.1.cell 0).trans rfl
          have HG5 := Lib.hid hG5
          have HI5 := Lib.hid (show Did F w w5 ∧ Stem F F5 w from ⟨HI.out.1.trans HI.out.2 hD5, HI.out.2.trans HI.out.1.size hS5⟩)
          clear hT5 hG5 hD5 hS5 hcu hlk HG HI HS HO HB qn qb hokc
          gi_wp2_with fail
          refine ⟨trivial, ?_⟩
          refine (callsIn_wideR hst.out).mono ?_
          rintro e w6 ⟨A6, cp6, F6, rfl, -, -, hL6, hD6, hS6, -⟩
          obtain ⟨F7, H6, H7, v7, hG7, hD7, hS7⟩ := HG5.out.turn3 (k.1 : Int) (w' := w6) (k := stepK (cutK (lk y.x (k.1 : Int))) now 0) (by rw [hap'.out]; exact ⟨F6, hL6, hD6, hS6⟩)
          rw [on_on] at hG7
          have hSB7 := Lib.hid (hSB5.out.did HG5.out.cn hD7)
          have hO7 := Lib.hid (cdid_blk HG5.out.cn hD7 hO5.out (by decide))
          have hB7 := Lib.hid (cdid_blk HG5.out.cn hD7 hB5.out (by decide))
          have hKO7 := Lib.hid (hKO5.out.trans (ckeeps_did HG5.out.cn hD7))
          have HI7 := Lib.hid (show Did F w w6 ∧ Stem F F7 w from ⟨HI5.out.1.trans HI5.out.2 hD7, HI5.out.2.trans HI5.out.1.size hS7⟩)
          have HG7 := Lib.hid hG7
          clear hL6 hD6 hS6 hG7 hD7 hS7 hst HG5 HI5 hSB5 hO5 hB5 hKO5 qn5
          have hce := Lib.hid (enS_cells now y hk2 hdd'.out)
          generalize stepE (cutK (lk y.x (k.1 : Int))) now 0 = E at *
          obtain ⟨-, u1, hu1⟩ := cells_two y hk2
          have o1 : w6.cell? ⟨w.heap.size + 3, k.1 * 2 + 1, none⟩ = some u1 := (hO7.out.cell _).trans hu1
          have f1 := hO7.out.free (k.1 * 2 + 1)
          have hfin := Lib.hid (show KeepsFrom w4.heap.size W1 (w6.setCell ⟨w.heap.size + 3, k.1 * 2 + 1, none⟩ (.int .i64 E)) ∧ EInv w F b a0 a1 now m0 m1 BB D0 true (fun ks => enF true now ks s2) (pre ++ [k]) (w6.setCell ⟨w.heap.size + 3, k.1 * 2 + 1, none⟩ (.int .i64 E)) from by
            have hKOs := hKO7.out.trans (KeepsOthers.setCell w6 ⟨w.heap.size + 3, k.1 * 2 + 1, none⟩ (.int .i64 E))
            refine ⟨hKOs.from _, ?_⟩
            unfold EInv SInv
            rw [List.map_append, List.map_cons, List.map_nil]
            show (CTp w F _ b a0 a1 (enF true now (pre.map Fin.val ++ [k.1]) s2).x ∧ _ ∧ Blk _ _ _ (enF true now (pre.map Fin.val ++ [k.1]) s2).cells) ∧ _
            rw [hsn.out, hce.out.1, hce.out.2]
            have h1 : CTp w F w6 b a0 a1 (onW y.x (k.1 : Int) (stepK (cutK (lk y.x (k.1 : Int))) now 0)) := ⟨F7, ⟨_, _, _, HG7.out⟩, HI7.out.1, HI7.out.2⟩
            exact ⟨⟨h1.far hO7.out (by decide) (by omega) _ _, hSB7.out.far (by omega) _ _, hO7.out.set_ _ _⟩, hB7.out.far (p := ⟨w.heap.size + 3, k.1 * 2 + 1, none⟩) (by show BB ≠ w.heap.size + 3; omega) _, hKOs.same D0 _ HK.out rfl⟩)
          clear hSB7 hO7 hB7 hKO7 HI7 HG7 hce hu1 hsn HK hdd' hap'
          gi_wp2
          exact ⟨hfin.out.1, trivial, hfin.out.2⟩
      case done2 =>
        rintro D1 xs2 W1 hD1 hxs2 ⟨⟨⟨F3, hC, hD, hS⟩, hSB, hO⟩, hbb1, hKD⟩ hK1
        have hC : CNp W1 F3 b a0 a1 (enF true now (xs2.map Fin.val) s2).x := hC
        have hO : Blk W1 (w.heap.size + 3) 64 (enF true now (xs2.map Fin.val) s2).cells := hO
        rw [hxs2, hen.out true (by rw [hbk.out]; simp [e0])] at hC hO
        have hO : Blk W1 (w.heap.size + 3) 64 #[.string OA.1, .int .i64 OA.2, .string OB.1, .int .i64 OB.2] := hO
        obtain ⟨oa, ea⟩ := OA
        obtain ⟨ob, eb⟩ := OB
        have hDs := Lib.hid (show D0 ≠ D1 ∧ w.heap.size ≤ D0 ∧ w.heap.size ≤ D1 ∧ w.heap.size + 3 < D1 by omega)
        have hR := Lib.hid hSB.2.2
        have hCT := Lib.hid (show CTp w F W1 b a0 a1 YN from ⟨F3, hC, hD, hS⟩)
        have hKK := Lib.hid (And.intro hKD hK1)
        have c0 : W1.cell? ⟨w.heap.size + 3, 0, none⟩ = some (.string oa) := (hO.cell 0).trans rfl
        have c1 : W1.cell? ⟨w.heap.size + 3, 1, none⟩ = some (.int .i64 ea) := (hO.cell 1).trans rfl
        have c2 : W1.cell? ⟨w.heap.size + 3, 2, none⟩ = some (.string ob) := (hO.cell 2).trans rfl
        have c3 : W1.cell? ⟨w.heap.size + 3, 3, none⟩ = some (.int .i64 eb) := (hO.cell 3).trans rfl
        have z0 : W1.cell? ⟨w.heap.size + 2, 0, none⟩ = some (.string ⟨#[]⟩) := (hR.out.cell 0).trans rfl
        have z1 : W1.cell? ⟨w.heap.size + 2, 1, none⟩ = some (.int .i64 0) := (hR.out.cell 1).trans rfl
        have z2 : W1.cell? ⟨w.heap.size + 2, 2, none⟩ = some (.string ⟨#[]⟩) := (hR.out.cell 2).trans rfl
        have z3 : W1.cell? ⟨w.heap.size + 2, 3, none⟩ = some (.int .i64 0) := (hR.out.cell 3).trans rfl
        have f0 := hR.out.free 0
        have f1 := hR.out.free 1
        have f2 := hR.out.free 2
        have f3 := hR.out.free 3
        clear hC hO hD hS hSB hbb1 hKD hK1 hxs2 hen hbk hC4 hDS4 hSB4 hO4 hKD4 hbb hbn hG4 hok3'
        gi_wp2
        generalize hW6 : (((W1.setCell ⟨w.heap.size + 1 + 1, 0, none⟩ (.string oa)).setCell ⟨w.heap.size + 1 + 1, 1, none⟩ (.int .i64 ea)).setCell ⟨w.heap.size + 1 + 1, 2, none⟩ (.string ob)).setCell ⟨w.heap.size + 1 + 1, 3, none⟩ (.int .i64 eb) = W6 at *
        have hset := Lib.hid (show Blk W6 (w.heap.size + 2) 64 #[.string oa, .int .i64 ea, .string ob, .int .i64 eb] from by
          rw [← hW6]
          exact (((hR.out.set_ 0 (.string oa)).set_ 1 (.int .i64 ea)).set_ 2 (.string ob)).set_ 3 (.int .i64 eb))
        have hCT6 := Lib.hid (show CTp w F W6 b a0 a1 YN from by
          rw [← hW6]
          exact (((hCT.out.far hR.out (by decide) (by omega) 0 (.string oa)).far (hR.out.set_ 0 _) (by decide) (by omega) 1 (.int .i64 ea)).far ((hR.out.set_ 0 _).set_ 1 _) (by decide) (by omega) 2 (.string ob)).far (((hR.out.set_ 0 _).set_ 1 _).set_ 2 _) (by decide) (by omega) 3 (.int .i64 eb))
        have hK6 := Lib.hid (show W6.heap[D0]? = some (.deferred (some [])) ∧ W6.heap[D1]? = some (.deferred (some [])) from by
          rw [← hW6]
          have hk := ((((KeepsOthers.setCell W1 ⟨w.heap.size + 1 + 1, 0, none⟩ (.string oa)).trans (KeepsOthers.setCell _ ⟨w.heap.size + 1 + 1, 1, none⟩ (.int .i64 ea))).trans (KeepsOthers.setCell _ ⟨w.heap.size + 1 + 1, 2, none⟩ (.string ob))).trans (KeepsOthers.setCell _ ⟨w.heap.size + 1 + 1, 3, none⟩ (.int .i64 eb)))
          exact ⟨hk.same D0 _ hKK.out.1 rfl, hk.same D1 _ hKK.out.2 rfl⟩)
        clear hW6 hCT hKK c0 c1 c2 c3 z0 z1 z2 z3 f0 f1 f2 f3
        have hKb : (W6.putObj D1 (.deferred none)).heap[D0]? = some (.deferred (some [])) := (World.putObj_heap_other hDs.out.1).trans hK6.out.1
        refine ⟨by simp, .inl ⟨_, _, rfl, run_takeDeferred hK6.out.2, ?_⟩⟩
        refine ⟨by simp, .inl ⟨_, _, rfl, run_takeDeferred hKb, ?_⟩⟩
        have hb1 := blk_own hset.out (grownBy_putObj' W6 D1 (.deferred none)) (fun r e => by cases e; exact ⟨_, hK6.out.2, rfl⟩)
        have hb2 := blk_own hb1 (grownBy_putObj' _ D0 (.deferred none)) (fun r e => by cases e; exact ⟨_, hKb, rfl⟩)
        have h1 := ctp_own hCT6.out (grownBy_putObj' W6 D1 (.deferred none)) (fun r e => by cases e; exact ⟨hDs.out.2.2.1, _, hK6.out.2, rfl⟩)
        have h2 := ctp_own h1 (grownBy_putObj' _ D0 (.deferred none)) (fun r e => by cases e; exact ⟨hDs.out.2.1, _, hKb, rfl⟩)
        have hc0 := (hb2.cell 0).trans rfl
        have hc1 := (hb2.cell 1).trans rfl
        have hc2 := (hb2.cell 2).trans rfl
        have hc3 := (hb2.cell 3).trans rfl
        refine ⟨.agg #[.string oa, .int .i64 ea, .string ob, .int .i64 eb], ?_, by rw [hOAe.out, hOBe.out], ?_⟩
        · simp [results, Tryz.f19, go_sem, hc0, hc1, hc2, hc3]
          done
        · rw [hYNe.out]
          exact h2.tu
      case stop2 =>
        rintro D1 cd pre W _ _ h _
        exact h.elim
    | false =>
      cases e1 : s2.e1 == 2 with
      | true =>
        gi_wp2_with fail
        refine ⟨trivial, ?_⟩
        refine (callsIn_wideR (each_any b _)).mono ?_
        rintro e w4 ⟨rfl, hw4⟩
        rw [show (W.alloc (.cells #[.bool true] 4)).heap.size = W.heap.size + 1 by simp]
        have hb4 : Below W.heap.size W w4 := by rw [hw4]; exact ((Below.refl _ W).alloc (Nat.le_refl _) _).alloc (by simp) _
        have hbb := Lib.hid (show Blk w4 W.heap.size 4 #[.bool true] from by rw [hw4]; exact (Blk.new W _ _).below ((Below.refl _ _).alloc (Nat.le_refl _) _))
        have hbn := Lib.hid (show Blk w4 (W.heap.size + 1) 28 #[ptr b] from by
          rw [hw4]
          have := Blk.new (W.alloc (.cells #[.bool true] 4)) 28 #[ptr b]
          simpa using this)
        have hC4 := Lib.hid (hC'.out.below hb4)
        have hDS4 := Lib.hid (show Did F w w4 ∧ Stem F F2 w from ⟨hDS.out.1.trans hDS.out.2 (Did.of_below hb4), hDS.out.2⟩)
        have hSB4 := Lib.hid (hSB'.out.below hb4)
        have hO4 := Lib.hid (hO'.out.below hb4)
        have hKD4 := Lib.hid ((hb4.block D0 (Array.getElem?_eq_some_iff.1 hK'.out).1).trans hK'.out)
        have hbnl : W.heap.size + 1 < w4.heap.size := hbn.out.lt
        have hD0l : D0 < W.heap.size := (Array.getElem?_eq_some_iff.1 hK'.out).1
        generalize hBB : W.heap.size = BB at *
        clear hb4 hw4 hC' hDS hSB' hO' hK' o1 o3 hBB
        gi_wp2
        obtain ⟨H0, H1, v2, hG4⟩ := hC4.out
        refine wpIn_rangeFunc_ownH (F := wideR none) rfl (by omega) (gf := 46) (lb := #[ptr (BB + 1)]) rfl trivial (enters_of Tryz.func46 (by kernel_rfl) rfl)
          (each_stops (BB + 1) b a0 a1 (9 - 1) v w4 ((hbn.out.cell 0).trans rfl) ((hG4.blk.cell 0).trans rfl) ((hG4.blk.cell 1).trans rfl) ⟨hbn.out.lt, hG4.blk.lt⟩) (fun _ _ => trivial) (fun _ _ _ _ _ _ _ _ => trivial) (Below.refl _ _) (fun _ => rfl)
          (EInv w F b a0 a1 now m0 m1 BB D0 true (fun ks => enF true now ks s2))
          (fun _ _ _ => False)
          (einv_own (by omega) (by omega) _ _ _ _ _ _)
          (fun _ _ _ _ _ hs _ _ => hs)
          ⟨⟨⟨F2, hC4.out, hDS4.out.1, hDS4.out.2⟩, hSB4.out, hO4.out⟩, hbb.out, hKD4.out⟩
          (fun k a' W => a' = { tmps := #[ptr b, .int .i64 now, .agg #[.int .i64 m0, .int .i64 m1], undef, ptr w.heap.size, ptr (w.heap.size + 1), ptr (w.heap.size + 2), ptr (w.heap.size + 3), undef, undef, undef, undef, ptr BB, .int .i64 k.1, ptr (px a0 a1 k.1), undef, undef, ptr b, .func (.func 46) #[] #[ptr (w.heap.size + 4)], undef, undef, undef, undef, undef, undef, undef, undef, undef, undef, undef, undef, undef, undef, undef, undef, undef, ptr (w.heap.size + 3), .pointer (some ⟨w.heap.size + 3, 1, none⟩), .int .i64 s2.e0, .bool false, .bool false, .pointer (some ⟨w.heap.size + 3, 2, none⟩), .pointer (some ⟨w.heap.size + 3, 3, none⟩), .int .i64 s2.e1, .bool true, .bool true, ptr b, .func (.func 46) #[] #[ptr (BB + 1)], .int .i64 k.1, ptr (px a0 a1 k.1), undef, undef, undef, undef, undef, undef, undef, undef, undef, undef, undef, undef, undef, undef, undef, undef, undef, undef, undef, undef], defers := [] })
          (fun k a' _ X Y row hs hg hr => hs)
          ?assign3 ?body3 ?done3 ?stop3
        case assign3 =>
          intro l pre k W K hI hK
          gi_wp2
          exact hK _ _ (KeepsFrom.refl _ _) trivial hI rfl
        case body3 =>
          rintro l pre k a' W1 hl hr ⟨⟨⟨F3, hC, hD, hS⟩, hSB, hO⟩, hbb1, hKD⟩ rfl hlt
          clear hr hl
          have hC : CNp W1 F3 b a0 a1 (enF true now (pre.map Fin.val) s2).x := hC
          have hO : Blk W1 (w.heap.size + 3) 64 (enF true now (pre.map Fin.val) s2).cells := hO
          obtain ⟨hokq, hgq, hdq⟩ := enF_ok true now (pre.map Fin.val) s2 (Q + 30 * M + 30 * M) (g + M + M) n (by rw [List.length_map]; omega) hok3'.out.1 (by omega) hok3'.out.2.1 hok3'.out.2.2 hn
          have hsn := Lib.hid (enF_snoc true now (pre.map Fin.val) k.1 s2)
          generalize enF true now (pre.map Fin.val) s2 = y at *
          have hk2 := k.2
          have hk2i : (k.1 : Int) < 2 := by omega
          have qb : W1.cell? ⟨BB, 0, none⟩ = some (.bool true) := (hbb1.cell 0).trans rfl
          obtain ⟨H2, H3, v3, hG⟩ := hC
          have hax := px_ax a0 a1 k.1
          have hdn := Lib.hid (kDone_any (hG.lk_ (k.1 : Int)))
          have hcu := Lib.hid (kCut_any (hG.lk_ (k.1 : Int)) (hokq.lk (k.1 : Int)) (by omega) now)
          have hokc := Lib.hid (okK_cut (hokq.lk (k.1 : Int)) (by omega) hM0 (by have := hdq.lk (k.1 : Int); omega)).1
          rw [hax]
          have qn : W1.cell? ⟨w.heap.size, 0, none⟩ = some (.int .i64 now) := (hSB.1.cell 0).trans rfl
          have HG := Lib.hid hG
          have HI := Lib.hid (And.intro hD hS)
          have HS := Lib.hid hSB
          have HO := Lib.hid hO
          have HB := Lib.hid hbb1
          have HK := Lib.hid hKD
          have hgl := hgq.lk (k.1 : Int)
          clear hG hD hS hSB hO hokq hgq hdq hax hbb1 hKD
          generalize hap : ax a0 a1 (k.1 : Int) = ap at *
          have hap' := Lib.hid hap
          clear hap
          cases hdd : (lk y.x (k.1 : Int)).done with
          | true =>
            rw [hdd] at hdn
            have hdd' := Lib.hid hdd
            clear hdd hcu hokc
            gi_wp2_with fail
            refine ⟨trivial, ?_⟩
            refine (callsIn_wideR hdn.out).mono ?_
            rintro e w5 ⟨rfl, rfl⟩
            have hfin := Lib.hid (show EInv w F b a0 a1 now m0 m1 BB D0 true (fun ks => enF true now ks s2) (pre ++ [k]) W1 from by
              unfold EInv SInv
              rw [List.map_append, List.map_cons, List.map_nil]
              show (CTp w F _ b a0 a1 (enF true now (pre.map Fin.val ++ [k.1]) s2).x ∧ _ ∧ Blk _ _ _ (enF true now (pre.map Fin.val ++ [k.1]) s2).cells) ∧ _
              rw [hsn.out]
              have he : enS true now y k.1 = y := by unfold enS; rw [if_neg (by rw [hdd'.out]; simp)]
              rw [he]
              exact ⟨⟨⟨F3, ⟨_, _, _, HG.out⟩, HI.out.1, HI.out.2⟩, HS.out, HO.out⟩, HB.out, HK.out⟩)
            clear hdn hdd' HG HI HS HO HB HK hsn
            gi_wp2
            exact ⟨KeepsFrom.refl _ _, trivial, hfin.out⟩
          | false =>
            rw [hdd] at hdn
            have hdd' := Lib.hid hdd
            clear hdd
            gi_wp2_with fail
            refine ⟨trivial, ?_⟩
            refine (callsIn_wideR hdn.out).mono ?_
            rintro e w5 ⟨rfl, rfl⟩
            clear hdn
            gi_wp2_with fail
            refine ⟨trivial, ?_⟩
            refine (callsIn_wideR hcu.out).mono ?_
            rintro e w5 ⟨rfl, hT5⟩
            obtain ⟨F5, H4, H5, v5, hG5, hD5, hS5⟩ := HG.out.turn3 (k.1 : Int) (k := cutK (lk y.x (k.1 : Int))) (by rw [hap'.out]; exact hT5)
            have hSB5 := Lib.hid (HS.out.did HG.out.cn hD5)
            have hO5 := Lib.hid (cdid_blk HG.out.cn hD5 HO.out (by decide))
            have hB5 := Lib.hid (cdid_blk HG.out.cn hD5 HB.out (by decide))
            have hKO5 := Lib.hid (ckeeps_did HG.out.cn hD5)
            have hlk := hG5.lk_ (k.1 : Int)
            rw [lk_on, hap'.out] at hlk
            have hst := Lib.hid (kStep_any hlk hokc.out hM (by omega) (by have e : (cutK (lk y.x (k.1 : Int))).got = (lk y.x (k.1 : Int)).got := rfl; omega) now 0)
            have qn5 : w5.cell? ⟨w.heap.size, 0, none⟩ = some (.int .i64 now) := (hSB5.out.1.cell 0).trans rfl
            have HG5 := Lib.hid hG5
            have HI5 := Lib.hid (show Did F w w5 ∧ Stem F F5 w from ⟨HI.out.1.trans HI.out.2 hD5, HI.out.2.trans HI.out.1.size hS5⟩)
            clear hT5 hG5 hD5 hS5 hcu hlk HG HI HS HO HB qn qb hokc
            gi_wp2_with fail
            refine ⟨trivial, ?_⟩
            refine (callsIn_wideR hst.out).mono ?_
            rintro e w6 ⟨A6, cp6, F6, rfl, -, -, hL6, hD6, hS6, -⟩
            obtain ⟨F7, H6, H7, v7, hG7, hD7, hS7⟩ := HG5.out.turn3 (k.1 : Int) (w' := w6) (k := stepK (cutK (lk y.x (k.1 : Int))) now 0) (by rw [hap'.out]; exact ⟨F6, hL6, hD6, hS6⟩)
            rw [on_on] at hG7
            have hSB7 := Lib.hid (hSB5.out.did HG5.out.cn hD7)
            have hO7 := Lib.hid (cdid_blk HG5.out.cn hD7 hO5.out (by decide))
            have hB7 := Lib.hid (cdid_blk HG5.out.cn hD7 hB5.out (by decide))
            have hKO7 := Lib.hid (hKO5.out.trans (ckeeps_did HG5.out.cn hD7))
            have HI7 := Lib.hid (show Did F w w6 ∧ Stem F F7 w from ⟨HI5.out.1.trans HI5.out.2 hD7, HI5.out.2.trans HI5.out.1.size hS7⟩)
            have HG7 := Lib.hid hG7
            clear hL6 hD6 hS6 hG7 hD7 hS7 hst HG5 HI5 hSB5 hO5 hB5 hKO5 qn5
            have hce := Lib.hid (enS_cells now y hk2 hdd'.out)
            generalize stepE (cutK (lk y.x (k.1 : Int))) now 0 = E at *
            obtain ⟨-, u1, hu1⟩ := cells_two y hk2
            have o1 : w6.cell? ⟨w.heap.size + 3, k.1 * 2 + 1, none⟩ = some u1 := (hO7.out.cell _).trans hu1
            have f1 := hO7.out.free (k.1 * 2 + 1)
            have hfin := Lib.hid (show KeepsFrom w4.heap.size W1 (w6.setCell ⟨w.heap.size + 3, k.1 * 2 + 1, none⟩ (.int .i64 E)) ∧ EInv w F b a0 a1 now m0 m1 BB D0 true (fun ks => enF true now ks s2) (pre ++ [k]) (w6.setCell ⟨w.heap.size + 3, k.1 * 2 + 1, none⟩ (.int .i64 E)) from by
              have hKOs := hKO7.out.trans (KeepsOthers.setCell w6 ⟨w.heap.size + 3, k.1 * 2 + 1, none⟩ (.int .i64 E))
              refine ⟨hKOs.from _, ?_⟩
              unfold EInv SInv
              rw [List.map_append, List.map_cons, List.map_nil]
              show (CTp w F _ b a0 a1 (enF true now (pre.map Fin.val ++ [k.1]) s2).x ∧ _ ∧ Blk _ _ _ (enF true now (pre.map Fin.val ++ [k.1]) s2).cells) ∧ _
              rw [hsn.out, hce.out.1, hce.out.2]
              have h1 : CTp w F w6 b a0 a1 (onW y.x (k.1 : Int) (stepK (cutK (lk y.x (k.1 : Int))) now 0)) := ⟨F7, ⟨_, _, _, HG7.out⟩, HI7.out.1, HI7.out.2⟩
              exact ⟨⟨h1.far hO7.out (by decide) (by omega) _ _, hSB7.out.far (by omega) _ _, hO7.out.set_ _ _⟩, hB7.out.far (p := ⟨w.heap.size + 3, k.1 * 2 + 1, none⟩) (by show BB ≠ w.heap.size + 3; omega) _, hKOs.same D0 _ HK.out rfl⟩)
            clear hSB7 hO7 hB7 hKO7 HI7 HG7 hce hu1 hsn HK hdd' hap'
            gi_wp2
            exact ⟨hfin.out.1, trivial, hfin.out.2⟩
        case done3 =>
          rintro D1 xs2 W1 hD1 hxs2 ⟨⟨⟨F3, hC, hD, hS⟩, hSB, hO⟩, hbb1, hKD⟩ hK1
          have hC : CNp W1 F3 b a0 a1 (enF true now (xs2.map Fin.val) s2).x := hC
          have hO : Blk W1 (w.heap.size + 3) 64 (enF true now (xs2.map Fin.val) s2).cells := hO
          rw [hxs2, hen.out true (by rw [hbk.out]; simp [e0, e1])] at hC hO
          have hO : Blk W1 (w.heap.size + 3) 64 #[.string OA.1, .int .i64 OA.2, .string OB.1, .int .i64 OB.2] := hO
          obtain ⟨oa, ea⟩ := OA
          obtain ⟨ob, eb⟩ := OB
          have hDs := Lib.hid (show D0 ≠ D1 ∧ w.heap.size ≤ D0 ∧ w.heap.size ≤ D1 ∧ w.heap.size + 3 < D1 by omega)
          have hR := Lib.hid hSB.2.2
          have hCT := Lib.hid (show CTp w F W1 b a0 a1 YN from ⟨F3, hC, hD, hS⟩)
          have hKK := Lib.hid (And.intro hKD hK1)
          have c0 : W1.cell? ⟨w.heap.size + 3, 0, none⟩ = some (.string oa) := (hO.cell 0).trans rfl
          have c1 : W1.cell? ⟨w.heap.size + 3, 1, none⟩ = some (.int .i64 ea) := (hO.cell 1).trans rfl
          have c2 : W1.cell? ⟨w.heap.size + 3, 2, none⟩ = some (.string ob) := (hO.cell 2).trans rfl
          have c3 : W1.cell? ⟨w.heap.size + 3, 3, none⟩ = some (.int .i64 eb) := (hO.cell 3).trans rfl
          have z0 : W1.cell? ⟨w.heap.size + 2, 0, none⟩ = some (.string ⟨#[]⟩) := (hR.out.cell 0).trans rfl
          have z1 : W1.cell? ⟨w.heap.size + 2, 1, none⟩ = some (.int .i64 0) := (hR.out.cell 1).trans rfl
          have z2 : W1.cell? ⟨w.heap.size + 2, 2, none⟩ = some (.string ⟨#[]⟩) := (hR.out.cell 2).trans rfl
          have z3 : W1.cell? ⟨w.heap.size + 2, 3, none⟩ = some (.int .i64 0) := (hR.out.cell 3).trans rfl
          have f0 := hR.out.free 0
          have f1 := hR.out.free 1
          have f2 := hR.out.free 2
          have f3 := hR.out.free 3
          clear hC hO hD hS hSB hbb1 hKD hK1 hxs2 hen hbk hC4 hDS4 hSB4 hO4 hKD4 hbb hbn hG4 hok3'
          gi_wp2
          generalize hW6 : (((W1.setCell ⟨w.heap.size + 1 + 1, 0, none⟩ (.string oa)).setCell ⟨w.heap.size + 1 + 1, 1, none⟩ (.int .i64 ea)).setCell ⟨w.heap.size + 1 + 1, 2, none⟩ (.string ob)).setCell ⟨w.heap.size + 1 + 1, 3, none⟩ (.int .i64 eb) = W6 at *
          have hset := Lib.hid (show Blk W6 (w.heap.size + 2) 64 #[.string oa, .int .i64 ea, .string ob, .int .i64 eb] from by
            rw [← hW6]
            exact (((hR.out.set_ 0 (.string oa)).set_ 1 (.int .i64 ea)).set_ 2 (.string ob)).set_ 3 (.int .i64 eb))
          have hCT6 := Lib.hid (show CTp w F W6 b a0 a1 YN from by
            rw [← hW6]
            exact (((hCT.out.far hR.out (by decide) (by omega) 0 (.string oa)).far (hR.out.set_ 0 _) (by decide) (by omega) 1 (.int .i64 ea)).far ((hR.out.set_ 0 _).set_ 1 _) (by decide) (by omega) 2 (.string ob)).far (((hR.out.set_ 0 _).set_ 1 _).set_ 2 _) (by decide) (by omega) 3 (.int .i64 eb))
          have hK6 := Lib.hid (show W6.heap[D0]? = some (.deferred (some [])) ∧ W6.heap[D1]? = some (.deferred (some [])) from by
            rw [← hW6]
            have hk := ((((KeepsOthers.setCell W1 ⟨w.heap.size + 1 + 1, 0, none⟩ (.string oa)).trans (KeepsOthers.setCell _ ⟨w.heap.size + 1 + 1, 1, none⟩ (.int .i64 ea))).trans (KeepsOthers.setCell _ ⟨w.heap.size + 1 + 1, 2, none⟩ (.string ob))).trans (KeepsOthers.setCell _ ⟨w.heap.size + 1 + 1, 3, none⟩ (.int .i64 eb)))
            exact ⟨hk.same D0 _ hKK.out.1 rfl, hk.same D1 _ hKK.out.2 rfl⟩)
          clear hW6 hCT hKK c0 c1 c2 c3 z0 z1 z2 z3 f0 f1 f2 f3
          have hKb : (W6.putObj D1 (.deferred none)).heap[D0]? = some (.deferred (some [])) := (World.putObj_heap_other hDs.out.1).trans hK6.out.1
          refine ⟨by simp, .inl ⟨_, _, rfl, run_takeDeferred hK6.out.2, ?_⟩⟩
          refine ⟨by simp, .inl ⟨_, _, rfl, run_takeDeferred hKb, ?_⟩⟩
          have hb1 := blk_own hset.out (grownBy_putObj' W6 D1 (.deferred none)) (fun r e => by cases e; exact ⟨_, hK6.out.2, rfl⟩)
          have hb2 := blk_own hb1 (grownBy_putObj' _ D0 (.deferred none)) (fun r e => by cases e; exact ⟨_, hKb, rfl⟩)
          have h1 := ctp_own hCT6.out (grownBy_putObj' W6 D1 (.deferred none)) (fun r e => by cases e; exact ⟨hDs.out.2.2.1, _, hK6.out.2, rfl⟩)
          have h2 := ctp_own h1 (grownBy_putObj' _ D0 (.deferred none)) (fun r e => by cases e; exact ⟨hDs.out.2.1, _, hKb, rfl⟩)
          have hc0 := (hb2.cell 0).trans rfl
          have hc1 := (hb2.cell 1).trans rfl
          have hc2 := (hb2.cell 2).trans rfl
          have hc3 := (hb2.cell 3).trans rfl
          refine ⟨.agg #[.string oa, .int .i64 ea, .string ob, .int .i64 eb], ?_, by rw [hOAe.out, hOBe.out], ?_⟩
          · simp [results, Tryz.f19, go_sem, hc0, hc1, hc2, hc3]
            done
          · rw [hYNe.out]
            exact h2.tu
        case stop3 =>
          rintro D1 cd pre W _ _ h _
          exact h.elim
      | false =>
        gi_wp2_with fail
        refine ⟨trivial, ?_⟩
        refine (callsIn_wideR (each_any b _)).mono ?_
        rintro e w4 ⟨rfl, hw4⟩
        rw [show (W.alloc (.cells #[.bool false] 4)).heap.size = W.heap.size + 1 by simp]
        have hb4 : Below W.heap.size W w4 := by rw [hw4]; exact ((Below.refl _ W).alloc (Nat.le_refl _) _).alloc (by simp) _
        have hbb := Lib.hid (show Blk w4 W.heap.size 4 #[.bool false] from by rw [hw4]; exact (Blk.new W _ _).below ((Below.refl _ _).alloc (Nat.le_refl _) _))
        have hbn := Lib.hid (show Blk w4 (W.heap.size + 1) 28 #[ptr b] from by
          rw [hw4]
          have := Blk.new (W.alloc (.cells #[.bool false] 4)) 28 #[ptr b]
          simpa using this)
        have hC4 := Lib.hid (hC'.out.below hb4)
        have hDS4 := Lib.hid (show Did F w w4 ∧ Stem F F2 w from ⟨hDS.out.1.trans hDS.out.2 (Did.of_below hb4), hDS.out.2⟩)
        have hSB4 := Lib.hid (hSB'.out.below hb4)
        have hO4 := Lib.hid (hO'.out.below hb4)
        have hKD4 := Lib.hid ((hb4.block D0 (Array.getElem?_eq_some_iff.1 hK'.out).1).trans hK'.out)
        have hbnl : W.heap.size + 1 < w4.heap.size := hbn.out.lt
        have hD0l : D0 < W.heap.size := (Array.getElem?_eq_some_iff.1 hK'.out).1
        generalize hBB : W.heap.size = BB at *
        clear hb4 hw4 hC' hDS hSB' hO' hK' o1 o3 hBB
        gi_wp2
        obtain ⟨H0, H1, v2, hG4⟩ := hC4.out
        refine wpIn_rangeFunc_ownH (F := wideR none) rfl (by omega) (gf := 46) (lb := #[ptr (BB + 1)]) rfl trivial (enters_of Tryz.func46 (by kernel_rfl) rfl)
          (each_stops (BB + 1) b a0 a1 (9 - 1) v w4 ((hbn.out.cell 0).trans rfl) ((hG4.blk.cell 0).trans rfl) ((hG4.blk.cell 1).trans rfl) ⟨hbn.out.lt, hG4.blk.lt⟩) (fun _ _ => trivial) (fun _ _ _ _ _ _ _ _ => trivial) (Below.refl _ _) (fun _ => rfl)
          (EInv w F b a0 a1 now m0 m1 BB D0 false (fun ks => enF false now ks s2))
          (fun _ _ _ => False)
          (einv_own (by omega) (by omega) _ _ _ _ _ _)
          (fun _ _ _ _ _ hs _ _ => hs)
          ⟨⟨⟨F2, hC4.out, hDS4.out.1, hDS4.out.2⟩, hSB4.out, hO4.out⟩, hbb.out, hKD4.out⟩
          (fun k a' W => a' = { tmps := #[ptr b, .int .i64 now, .agg #[.int .i64 m0, .int .i64 m1], undef, ptr w.heap.size, ptr (w.heap.size + 1), ptr (w.heap.size + 2), ptr (w.heap.size + 3), undef, undef, undef, undef, ptr BB, .int .i64 k.1, ptr (px a0 a1 k.1), undef, undef, ptr b, .func (.func 46) #[] #[ptr (w.heap.size + 4)], undef, undef, undef, undef, undef, undef, undef, undef, undef, undef, undef, undef, undef, undef, undef, undef, undef, ptr (w.heap.size + 3), .pointer (some ⟨w.heap.size + 3, 1, none⟩), .int .i64 s2.e0, .bool false, .bool false, .pointer (some ⟨w.heap.size + 3, 2, none⟩), .pointer (some ⟨w.heap.size + 3, 3, none⟩), .int .i64 s2.e1, .bool false, .bool false, ptr b, .func (.func 46) #[] #[ptr (BB + 1)], .int .i64 k.1, ptr (px a0 a1 k.1), undef, undef, undef, undef, undef, undef, undef, undef, undef, undef, undef, undef, undef, undef, undef, undef, undef, undef, undef, undef], defers := [] })
          (fun k a' _ X Y row hs hg hr => hs)
          ?assign4 ?body4 ?done4 ?stop4
        case assign4 =>
          intro l pre k W K hI hK
          gi_wp2
          exact hK _ _ (KeepsFrom.refl _ _) trivial hI rfl
        case body4 =>
          rintro l pre k a' W1 hl hr ⟨⟨⟨F3, hC, hD, hS⟩, hSB, hO⟩, hbb1, hKD⟩ rfl hlt
          clear hr hl
          have hC : CNp W1 F3 b a0 a1 (enF false now (pre.map Fin.val) s2).x := hC
          have hO : Blk W1 (w.heap.size + 3) 64 (enF false now (pre.map Fin.val) s2).cells := hO
          obtain ⟨hokq, hgq, hdq⟩ := enF_ok false now (pre.map Fin.val) s2 (Q + 30 * M + 30 * M) (g + M + M) n (by rw [List.length_map]; omega) hok3'.out.1 (by omega) hok3'.out.2.1 hok3'.out.2.2 hn
          have hsn := Lib.hid (enF_snoc false now (pre.map Fin.val) k.1 s2)
          generalize enF false now (pre.map Fin.val) s2 = y at *
          have hk2 := k.2
          have hk2i : (k.1 : Int) < 2 := by omega
          have qb : W1.cell? ⟨BB, 0, none⟩ = some (.bool false) := (hbb1.cell 0).trans rfl
          have hfin := Lib.hid (show EInv w F b a0 a1 now m0 m1 BB D0 false (fun ks => enF false now ks s2) (pre ++ [k]) W1 from by
            unfold EInv SInv
            rw [List.map_append, List.map_cons, List.map_nil]
            show (CTp w F _ b a0 a1 (enF false now (pre.map Fin.val ++ [k.1]) s2).x ∧ _ ∧ Blk _ _ _ (enF false now (pre.map Fin.val ++ [k.1]) s2).cells) ∧ _
            rw [hsn.out]
            have he : enS false now y k.1 = y := by unfold enS; rw [if_neg (by simp)]
            rw [he]
            exact ⟨⟨⟨F3, hC, hD, hS⟩, hSB, hO⟩, hbb1, hKD⟩)
          clear hC hO hD hS hSB hbb1 hKD hokq hgq hdq hsn
          gi_wp2
          refine ⟨trivial, ?_⟩
          gi_wp2
          exact ⟨KeepsFrom.refl _ _, trivial, hfin.out⟩
        case done4 =>
          rintro D1 xs2 W1 hD1 hxs2 ⟨⟨⟨F3, hC, hD, hS⟩, hSB, hO⟩, hbb1, hKD⟩ hK1
          have hC : CNp W1 F3 b a0 a1 (enF false now (xs2.map Fin.val) s2).x := hC
          have hO : Blk W1 (w.heap.size + 3) 64 (enF false now (xs2.map Fin.val) s2).cells := hO
          rw [hxs2, hen.out false (by rw [hbk.out]; simp [e0, e1])] at hC hO
          have hO : Blk W1 (w.heap.size + 3) 64 #[.string OA.1, .int .i64 OA.2, .string OB.1, .int .i64 OB.2] := hO
          obtain ⟨oa, ea⟩ := OA
          obtain ⟨ob, eb⟩ := OB
          have hDs := Lib.hid (show D0 ≠ D1 ∧ w.heap.size ≤ D0 ∧ w.heap.size ≤ D1 ∧ w.heap.size + 3 < D1 by omega)
          have hR := Lib.hid hSB.2.2
          have hCT := Lib.hid (show CTp w F W1 b a0 a1 YN from ⟨F3, hC, hD, hS⟩)
          have hKK := Lib.hid (And.intro hKD hK1)
          have c0 : W1.cell? ⟨w.heap.size + 3, 0, none⟩ = some (.string oa) := (hO.cell 0).trans rfl
          have c1 : W1.cell? ⟨w.heap.size + 3, 1, none⟩ = some (.int .i64 ea) := (hO.cell 1).trans rfl
          have c2 : W1.cell? ⟨w.heap.size + 3, 2, none⟩ = some (.string ob) := (hO.cell 2).trans rfl
          have c3 : W1.cell? ⟨w.heap.size + 3, 3, none⟩ = some (.int .i64 eb) := (hO.cell 3).trans rfl
          have z0 : W1.cell? ⟨w.heap.size + 2, 0, none⟩ = some (.string ⟨#[]⟩) := (hR.out.cell 0).trans rfl
          have z1 : W1.cell? ⟨w.heap.size + 2, 1, none⟩ = some (.int .i64 0) := (hR.out.cell 1).trans rfl
          have z2 : W1.cell? ⟨w.heap.size + 2, 2, none⟩ = some (.string ⟨#[]⟩) := (hR.out.cell 2).trans rfl
          have z3 : W1.cell? ⟨w.heap.size + 2, 3, none⟩ = some (.int .i64 0) := (hR.out.cell 3).trans rfl
          have f0 := hR.out.free 0
          have f1 := hR.out.free 1
          have f2 := hR.out.free 2
          have f3 := hR.out.free 3
          clear hC hO hD hS hSB hbb1 hKD hK1 hxs2 hen hbk hC4 hDS4 hSB4 hO4 hKD4 hbb hbn hG4 hok3'
          gi_wp2
          generalize hW6 : (((W1.setCell ⟨w.heap.size + 1 + 1, 0, none⟩ (.string oa)).setCell ⟨w.heap.size + 1 + 1, 1, none⟩ (.int .i64 ea)).setCell ⟨w.heap.size + 1 + 1, 2, none⟩ (.string ob)).setCell ⟨w.heap.size + 1 + 1, 3, none⟩ (.int .i64 eb) = W6 at *
          have hset := Lib.hid (show Blk W6 (w.heap.size + 2) 64 #[.string oa, .int .i64 ea, .string ob, .int .i64 eb] from by
            rw [← hW6]
            exact (((hR.out.set_ 0 (.string oa)).set_ 1 (.int .i64 ea)).set_ 2 (.string ob)).set_ 3 (.int .i64 eb))
          have hCT6 := Lib.hid (show CTp w F W6 b a0 a1 YN from by
            rw [← hW6]
            exact (((hCT.out.far hR.out (by decide) (by omega) 0 (.string oa)).far (hR.out.set_ 0 _) (by decide) (by omega) 1 (.int .i64 ea)).far ((hR.out.set_ 0 _).set_ 1 _) (by decide) (by omega) 2 (.string ob)).far (((hR.out.set_ 0 _).set_ 1 _).set_ 2 _) (by decide) (by omega) 3 (.int .i64 eb))
          have hK6 := Lib.hid (show W6.heap[D0]? = some (.deferred (some [])) ∧ W6.heap[D1]? = some (.deferred (some [])) from by
            rw [← hW6]
            have hk := ((((KeepsOthers.setCell W1 ⟨w.heap.size + 1 + 1, 0, none⟩ (.string oa)).trans (KeepsOthers.setCell _ ⟨w.heap.size + 1 + 1, 1, none⟩ (.int .i64 ea))).trans (KeepsOthers.setCell _ ⟨w.heap.size + 1 + 1, 2, none⟩ (.string ob))).trans (KeepsOthers.setCell _ ⟨w.heap.size + 1 + 1, 3, none⟩ (.int .i64 eb)))
            exact ⟨hk.same D0 _ hKK.out.1 rfl, hk.same D1 _ hKK.out.2 rfl⟩)
          clear hW6 hCT hKK c0 c1 c2 c3 z0 z1 z2 z3 f0 f1 f2 f3
          have hKb : (W6.putObj D1 (.deferred none)).heap[D0]? = some (.deferred (some [])) := (World.putObj_heap_other hDs.out.1).trans hK6.out.1
          refine ⟨by simp, .inl ⟨_, _, rfl, run_takeDeferred hK6.out.2, ?_⟩⟩
          refine ⟨by simp, .inl ⟨_, _, rfl, run_takeDeferred hKb, ?_⟩⟩
          have hb1 := blk_own hset.out (grownBy_putObj' W6 D1 (.deferred none)) (fun r e => by cases e; exact ⟨_, hK6.out.2, rfl⟩)
          have hb2 := blk_own hb1 (grownBy_putObj' _ D0 (.deferred none)) (fun r e => by cases e; exact ⟨_, hKb, rfl⟩)
          have h1 := ctp_own hCT6.out (grownBy_putObj' W6 D1 (.deferred none)) (fun r e => by cases e; exact ⟨hDs.out.2.2.1, _, hK6.out.2, rfl⟩)
          have h2 := ctp_own h1 (grownBy_putObj' _ D0 (.deferred none)) (fun r e => by cases e; exact ⟨hDs.out.2.1, _, hKb, rfl⟩)
          have hc0 := (hb2.cell 0).trans rfl
          have hc1 := (hb2.cell 1).trans rfl
          have hc2 := (hb2.cell 2).trans rfl
          have hc3 := (hb2.cell 3).trans rfl
          refine ⟨.agg #[.string oa, .int .i64 ea, .string ob, .int .i64 eb], ?_, by rw [hOAe.out, hOBe.out], ?_⟩
          · simp [results, Tryz.f19, go_sem, hc0, hc1, hc2, hc3]
            done
          · rw [hYNe.out]
            exact h2.tu
        case stop4 =>
          rintro D1 cd pre W _ _ h _
          exact h.elim
  case stop =>
    rintro D0 cd pre W _ _ h _
    exact h.elim
end Go.Proofs.YtnkgjnmhiedfoaaGreat.Conn
namespace Go.Proofs.YtnkgjnmhiedfoaaGreat.Conn
open Go.RowKit Go.Shelf Mem Tick Cargo Toxic Stage Chain Link Fen
open Go.Proofs.YtnkgjnmhiedfoaaGreatW.PrintLast Pu
set_option maxRecDepth 100000
set_option linter.unusedVariables false
set_option linter.unusedSimpArgs false
attribute [local go_sem] Oper.semAt_some
variable {w w' w1 : World} {F : Nat → Prop} {b : Nat} {x y : Cn} {M Q : Int} {a0 a1 : Nat}
def DBx (w W : World) (b : Nat) (nm : ByteArray) (now : Int) : Prop := Blk W w.heap.size 28 #[ptr b] ∧ Blk W (w.heap.size + 1) 9 #[.string nm] ∧ Blk W (w.heap.size + 2) 3 #[.int .i64 now] ∧ Blk W (w.heap.size + 3) 29 #[.int .i64 0]
theorem DBx.did {W W2 : World} {G : Nat → Prop} {nm : ByteArray} {now : Int} (h : DBx w W b nm now) (hD : Did G W W2) (hG : ∀ j, G j → j < w.heap.size ∨ w.heap.size + 4 ≤ j) : DBx w W2 b nm now :=
  ⟨h.1.did hD (fun e => by have := hG _ e; omega), h.2.1.did hD (fun e => by have := hG _ e; omega), h.2.2.1.did hD (fun e => by have := hG _ e; omega), h.2.2.2.did hD (fun e => by have := hG _ e; omega)⟩
theorem DBx.below {W W2 : World} {nm : ByteArray} {now : Int} (h : DBx w W b nm now) (hb : Below W.heap.size W W2) : DBx w W2 b nm now := ⟨h.1.below hb, h.2.1.below hb, h.2.2.1.below hb, h.2.2.2.below hb⟩
def cutNm (x : Cn) (nm : ByteArray) : Cn := { x with names := match idxN x.names nm with | some i => x.names.eraseIdx i | none => x.names }
def dropY (x : Cn) (nm : ByteArray) (now : Int) (k : Nat) : Cn := cutNm (onW x k (dropK (lk x k) nm now)) nm
def DInv (w2 : World) (F : Nat → Prop) (b a0 a1 : Nat) (x : Cn) (nm : ByteArray) (pre : List (Fin 2)) (W : World) : Prop := CTp w2 F W b a0 a1 x ∧ ∀ k ∈ pre, dropE (lk x (k.1 : Int)) nm ≠ 0
def DOut (w w2 : World) (F : Nat → Prop) (b a0 a1 : Nat) (x : Cn) (nm : ByteArray) (now : Int) (c : Code) (pre : List (Fin 2)) (W : World) : Prop :=
  c = .ret ∧ ∃ p k, pre = p ++ [k] ∧ (∀ j ∈ p, dropE (lk x (j.1 : Int)) nm ≠ 0) ∧ dropE (lk x (k.1 : Int)) nm = 0 ∧ CTp w F W b a0 a1 (dropY x nm now k.1) ∧ Blk W (w.heap.size + 3) 29 #[.int .i64 0]
def SubN (x : Cn) : Prop := ∀ (way : Int) m, (idxN (lk x way).names m).isSome = true → (idxN x.names m).isSome = true
theorem drop_keeps {k : Lk} (ho : OkK k M Q) {nm : ByteArray} {now : Int} (h : dropE k nm ≠ 0) : dropK k nm now = k := by
  unfold dropE at h
  unfold dropK
  cases hi : idxN k.names nm with
  | none => rfl
  | some i =>
    rw [hi] at h
    have hl := idx_lt hi
    have hn := ho.n
    exact absurd (show remE k.c (i : Int) = 0 from by unfold remE isB; rw [if_pos (by simp; omega)]) h
theorem on_lk (x : Cn) (way : Int) : onW x way (lk x way) = x := by
  unfold onW lk
  split <;> rfl
theorem drop_some {k : Lk} {nm : ByteArray} (h : dropE k nm = 0) : (idxN k.names nm).isSome = true := by
  unfold dropE at h
  cases hi : idxN k.names nm with
  | none => rw [hi] at h; cases h
  | some i => rfl
theorem drop_first {p : List (Fin 2)} {k : Fin 2} {m : Nat} {nm : ByteArray} (hm : (p ++ [k]).map Fin.val = List.range m) (hall : ∀ j ∈ p, dropE (lk x (j.1 : Int)) nm ≠ 0) (hz : dropE (lk x (k.1 : Int)) nm = 0) : dropW x nm = some (k.1 : Int) := by
  cases m with
  | zero => simp at hm
  | succ m =>
    rw [List.map_append, List.range_succ] at hm
    obtain ⟨h1, h2⟩ := List.append_inj' hm rfl
    have hk : k.1 = m := by simpa using h2
    have hk2 := k.2
    have h01 : k.1 = 0 ∨ k.1 = 1 := by omega
    unfold dropW
    rcases h01 with e | e
    · rw [e] at hz ⊢
      have hz' : dropE x.a nm = 0 := hz
      rw [if_pos hz']
      rfl
    · have hm1 : m = 1 := by omega
      subst hm1
      rcases p with _ | ⟨q, _ | ⟨r, z⟩⟩
      · simp at h1
      · have e0 : q.1 = 0 := by simpa using h1
        have h3 := hall q (by simp)
        rw [e0] at h3
        have h3' : dropE x.a nm ≠ 0 := h3
        rw [e] at hz ⊢
        have hz' : dropE x.b nm = 0 := hz
        rw [if_neg h3', if_pos hz']
        rfl
      · have := congrArg List.length h1
        simp at this
set_option maxHeartbeats 4000000 in
theorem cDrop_any (h : CN w F b x) (ho : OkN x M Q) (hM : M ≤ 1000000000) (hn16 : x.names.length ≤ 40) (hsub : SubN x) (nm : ByteArray) (now : Int) :
    Calls Tryz.prog 12 #[ptr b, .string nm, .int .i64 now] w fun e w' => e = .returned (.int .i64 (dropNE x nm)) ∧ CTu w F w' b (dropN x nm now) := by
  have hb : Below w.heap.size w ((((w.alloc (.cells #[ptr b] 28)).alloc (.cells #[.string nm] 9)).alloc (.cells #[.int .i64 now] 3)).alloc (.cells #[.int .i64 0] 29)) := ((((Below.refl w.heap.size w).alloc (Nat.le_refl _) _).alloc (by simp) _).alloc (by simp; omega) _).alloc (by simp; omega) _
  obtain ⟨G0, G1, a0, a1, v, h⟩ := h
  have hN := Lib.hid (show DBx w ((((w.alloc (.cells #[ptr b] 28)).alloc (.cells #[.string nm] 9)).alloc (.cells #[.int .i64 now] 3)).alloc (.cells #[.int .i64 0] 29)) b nm now from by
    have n0 := Blk.new w 28 #[ptr b]
    have n1 := Blk.new (w.alloc (.cells #[ptr b] 28)) 9 #[.string nm]
    have n2 := Blk.new ((w.alloc (.cells #[ptr b] 28)).alloc (.cells #[.string nm] 9)) 3 #[.int .i64 now]
    have n3 := Blk.new (((w.alloc (.cells #[ptr b] 28)).alloc (.cells #[.string nm] 9)).alloc (.cells #[.int .i64 now] 3)) 29 #[.int .i64 0]
    rw [show ((w.alloc (.cells #[ptr b] 28))).heap.size = w.heap.size + 1 by simp] at n1
    rw [show (((w.alloc (.cells #[ptr b] 28)).alloc (.cells #[.string nm] 9))).heap.size = w.heap.size + 2 by simp] at n2
    rw [show ((((w.alloc (.cells #[ptr b] 28)).alloc (.cells #[.string nm] 9)).alloc (.cells #[.int .i64 now] 3))).heap.size = w.heap.size + 3 by simp] at n3
    exact ⟨((n0.below ((Below.refl _ _).alloc (Nat.le_refl _) _)).below ((Below.refl _ _).alloc (Nat.le_refl _) _)).below ((Below.refl _ _).alloc (Nat.le_refl _) _), (n1.below ((Below.refl _ _).alloc (Nat.le_refl _) _)).below ((Below.refl _ _).alloc (Nat.le_refl _) _), n2.below ((Below.refl _ _).alloc (Nat.le_refl _) _), n3⟩)
  have hC := Lib.hid (h.below hb)
  have hD0 := Lib.hid (Did.of_below (F := F) hb)
  have hsz := Lib.hid (show (((((w.alloc (.cells #[ptr b] 28)).alloc (.cells #[.string nm] 9)).alloc (.cells #[.int .i64 now] 3)).alloc (.cells #[.int .i64 0] 29))).heap.size = w.heap.size + 4 by simp)
  have hFl := Lib.hid (show ∀ j, F j → j < w.heap.size from fun j hj => h.cn.lt hj)
  clear h hb
  refine (callsIn_wide (n := 9)).1 ?_
  show CallsIn (wideR none) 9 Tryz.prog 12 _ _ _
  refine callsIn_of_wp_marks Tryz.func12 rfl trivial ?_ rfl
  simp only [Tryz.ntmps12, List.size_toArray, List.length_cons, List.length_nil, Nat.reduceAdd, Nat.reduceSub, Array.replicate_succ, Array.replicate_zero, List.push_toArray, List.append_toArray, List.nil_append, List.cons_append]
  have cb : (((((w.alloc (.cells #[ptr b] 28)).alloc (.cells #[.string nm] 9)).alloc (.cells #[.int .i64 now] 3)).alloc (.cells #[.int .i64 0] 29))).cell? ⟨w.heap.size, 0, none⟩ = some (ptr b) := (hN.out.1.cell 0).trans rfl
  gi_wp2_with fail
  refine ⟨trivial, ?_⟩
  refine (callsIn_wideR (each_any b _)).mono ?_
  rintro e w2 ⟨rfl, hw2⟩
  have hB2 : Below (((((w.alloc (.cells #[ptr b] 28)).alloc (.cells #[.string nm] 9)).alloc (.cells #[.int .i64 now] 3)).alloc (.cells #[.int .i64 0] 29))).heap.size ((((w.alloc (.cells #[ptr b] 28)).alloc (.cells #[.string nm] 9)).alloc (.cells #[.int .i64 now] 3)).alloc (.cells #[.int .i64 0] 29)) w2 := by rw [hw2]; exact (Below.refl _ _).alloc (Nat.le_refl _) _
  have hC2 := Lib.hid (hC.out.below hB2)
  have hN2 := Lib.hid (hN.out.below hB2)
  have hD2 := Lib.hid (hD0.out.trans (Stem.refl _ _) (Did.of_below (F := F) hB2))
  have hbn := Lib.hid (show Blk w2 (w.heap.size + 4) 28 #[ptr b] from by
    rw [hw2, ← hsz.out]
    exact Blk.new _ _ _)
  have hs2 : w.heap.size + 4 < w2.heap.size := hbn.out.lt
  rw [hsz.out]
  clear hC hN hD0 hB2 hsz cb
  gi_wp2
  rw [← hw2]
  clear hw2
  refine wpIn_rangeFunc_ownH (F := wideR none) rfl (by omega) (gf := 46) (lb := #[ptr (w.heap.size + 4)]) rfl trivial (enters_of Tryz.func46 (by kernel_rfl) rfl)
    (each_stops (w.heap.size + 4) b a0 a1 (9 - 1) v w2 ((hbn.out.cell 0).trans rfl) ((hC2.out.blk.cell 0).trans rfl) ((hC2.out.blk.cell 1).trans rfl) ⟨hbn.out.lt, hC2.out.blk.lt⟩) (fun _ _ => trivial) (fun _ _ _ _ _ _ _ _ => trivial) (Below.refl _ _) (fun _ => rfl)
    (DInv w2 F b a0 a1 x nm)
    (DOut w w2 F b a0 a1 x nm now)
    (fun s X Y row hs hg hr => ⟨ctp_own hs.1 hg hr, hs.2⟩)
    (fun c s X Y row hs hg hr => by
      obtain ⟨h1, p, k, h2, h3, h4, h5, h6⟩ := hs
      exact ⟨h1, p, k, h2, h3, h4, ctp_own h5 hg (fun r e => ⟨by have := (hr r e).1; omega, (hr r e).2⟩), blk_own h6 hg (fun r e => (hr r e).2)⟩)
    ⟨⟨F, ⟨_, _, _, hC2.out⟩, Did.refl _ _, Stem.refl _ _⟩, fun k hk => by simp at hk⟩
    (fun k a' W => a' = { tmps := #[ptr b, .string nm, .int .i64 now, ptr w.heap.size, ptr (w.heap.size + 1), ptr (w.heap.size + 2), ptr (w.heap.size + 3), undef, ptr (px a0 a1 k.1), undef, ptr b, .func (.func 46) #[] #[ptr (w.heap.size + 4)], .int .i64 k.1, ptr (px a0 a1 k.1), undef, undef, undef, undef, undef, undef, undef, undef, undef, undef, undef, undef, undef, undef, undef, undef, undef, undef, undef, undef, undef, undef], defers := [] })
    (fun k a' _ X Y row hs hg hr => hs)
    ?assign ?body ?done ?stop
  case assign =>
    intro l pre k W K hI hK
    gi_wp2
    exact hK _ _ (KeepsFrom.refl _ _) trivial hI rfl
  case body =>
    rintro l pre k a' W hl hr ⟨⟨F2, hC, hD, hS⟩, hall⟩ rfl hlt
    clear hr hl
    obtain ⟨H0, H1, v2, hG⟩ := hC
    have hBx := hN2.out.did hD (fun j hj => .inl (hFl.out j hj))
    have hoff : ∀ j, F2 j → j < w.heap.size ∨ w.heap.size + 4 ≤ j := fun j hj => (hS j hj).elim (fun e => .inl (hFl.out j e)) (fun e => .inr (by omega))
    have hax := px_ax a0 a1 k.1
    have hk2 := k.2
    have hdr := Lib.hid (kDrop_any (hG.lk_ (k.1 : Int)) (ho.lk (k.1 : Int)) hM nm now)
    rw [hax]
    have qn : W.cell? ⟨w.heap.size + 1, 0, none⟩ = some (.string nm) := (hBx.2.1.cell 0).trans rfl
    have qt : W.cell? ⟨w.heap.size + 2, 0, none⟩ = some (.int .i64 now) := (hBx.2.2.1.cell 0).trans rfl
    have HG := Lib.hid hG
    have HI := Lib.hid (And.intro hD hS)
    have HB := Lib.hid hBx
    have Hoff := Lib.hid hoff
    have Hall := Lib.hid hall
    clear hG hD hS hBx hoff hax hall
    generalize hap : ax a0 a1 (k.1 : Int) = ap at *
    have hap' := Lib.hid hap
    clear hap
    by_cases hz : dropE (lk x (k.1 : Int)) nm = 0
    · have te : (dropE (lk x (k.1 : Int)) nm == 0) = true := by simpa using hz
      have hz' := Lib.hid hz
      have hans := Lib.hid (show dropE (lk x (k.1 : Int)) nm = 0 from hz)
      have hYE := Lib.hid (show dropY x nm now k.1 = cutNm (onW x k.1 (dropK (lk x k.1) nm now)) nm from rfl)
      gi_wp2_with fail
      refine ⟨trivial, ?_⟩
      refine (callsIn_wideR hdr.out).mono ?_
      rintro e w3 ⟨rfl, hT⟩
      obtain ⟨F3, H2, H3, v3, hG3, hD3, hS3⟩ := HG.out.turn3 (k.1 : Int) (k := dropK (lk x (k.1 : Int)) nm now) (by rw [hap'.out]; exact hT)
      have hB3 := HB.out.did hD3 Hoff.out
      have hoff3 := Lib.hid (show ∀ j, F3 j → j < w.heap.size ∨ w.heap.size + 4 ≤ j from fun j hj => (hS3 j hj).elim (fun e => Hoff.out j e) (fun e => .inr (by have := HI.out.1.size; omega)))
      have hKO := Lib.hid (ckeeps_did HG.out.cn hD3)
      have HI3 := Lib.hid (show Did F w w3 ∧ Stem F F3 w from by
        have hd := hD2.out.trans (Stem.refl _ _) HI.out.1
        have hs := (Stem.refl F w).trans hD2.out.size HI.out.2
        exact ⟨hd.trans hs hD3, hs.trans hd.size hS3⟩)
      have hnm3 := onW_names x (k.1 : Int) (dropK (lk x (k.1 : Int)) nm now)
      have hNV := hG3.nv
      rw [hnm3] at hNV
      have hiS := hsub (k.1 : Int) nm (drop_some hz'.out)
      obtain ⟨i, hix⟩ := Option.isSome_iff_exists.1 hiS
      have hilt := idx_lt hix
      have hYE2 := Lib.hid (show dropY x nm now k.1 = { onW x (k.1 : Int) (dropK (lk x (k.1 : Int)) nm now) with names := x.names.eraseIdx i } from by
        unfold dropY cutNm
        rw [hnm3, hix])
      rcases hNV with ⟨_, e⟩ | ⟨g, cap, hv, hRS, hcap2⟩
      · rw [e] at hilt
        simp at hilt
      subst hv
      have hncap : x.names.length ≤ cap := by
        obtain ⟨rest, _, hl⟩ := hRS
        rw [List.length_append, List.length_map] at hl
        omega
      have hix2 := Lib.hid (show Calls Tryz.prog 27 #[.slice (some ⟨g, 0, none⟩) x.names.length cap, .string nm] w3.drew (fun e w' => e = .returned (.int .i64 i) ∧ w3.drew = w') from by
        have h1 := index_any w3.drew (.slice (some ⟨g, 0, none⟩) x.names.length cap) x.names nm (hG3.drew.nv.sr |> fun q => by rwa [hnm3] at q) (by omega)
        unfold idxI at h1
        rwa [hix] at h1)
      have hw1 := Lib.hid (show wrap64 ((i : Int) + 1) = (i : Int) + 1 from by unfold wrap64; omega)
      have hdel0 := deleteS_any w3.drew.drew g x.names.length cap i (x.names.map Value.string) (str_one _) (by rw [List.length_map]) hilt (by omega) hncap hcap2 hRS
      rw [← hw1.out] at hdel0
      have hdel := Lib.hid hdel0
      clear hdel0
      have hlen := Lib.hid (show (x.names.eraseIdx i).length = x.names.length - 1 by rw [List.length_eraseIdx, if_pos hilt])
      have qb : w3.cell? ⟨w.heap.size, 0, none⟩ = some (ptr b) := (hB3.1.cell 0).trans rfl
      have d2 : w3.cell? ⟨b, 2, none⟩ = some (.slice (some ⟨g, 0, none⟩) x.names.length cap) := (hG3.blk.cell 2).trans rfl
      have q1 : w3.cell? ⟨w.heap.size + 1, 0, none⟩ = some (.string nm) := (hB3.2.1.cell 0).trans rfl
      have HG3 := Lib.hid hG3
      have HB3 := Lib.hid hB3
      have Hcap := Lib.hid hcap2
      clear hT hdr HG HI HB Hoff hz hz' hB3 hG3 hD3 hS3 hRS hix hYE hnm3 hiS qn qt hncap hap' hcap2
      gi_wp2
      refine startIn_ (ro := some l) (m := 7) (S := fun w' => w'.cell? ⟨w.heap.size, 0, none⟩ = some (ptr b) ∧ w'.cell? ⟨b, 2, none⟩ = some (.slice (some ⟨g, 0, none⟩) x.names.length cap) ∧ w'.cell? ⟨w.heap.size + 1, 0, none⟩ = some (.string nm)) (ds := []) (m_ 7 0) (by kernel_rfl) (by kernel_rfl) rfl (by kernel_rfl) ⟨qb, d2, q1⟩ (fun hHeld => ?_)
      refine tq_ 0 19 7 1 hHeld ?_
      refine pq_ 1 20 7 3 ?_
      refine pq_ 2 21 7 7 ?_
      refine tq_ 3 22 7 15 hHeld ?_
      refine tq_ 4 23 7 31 hHeld ?_
      refine one_ (i := 5) (N := some 24) (m_ 7 63) rfl rfl (by kernel_rfl) (by decide) (fun K hK => ?_)
      refine goes_ Tryz.func27 (by kernel_rfl) rfl #[.slice (some ⟨g, 0, none⟩) x.names.length cap, .string nm] (by rfl) rfl rfl (by simp only [List.map_toArray, List.map_cons, List.map_nil]; rfl) ?_
      with_reducible refine (hix2.out).mono ?_
      rintro e w4 ⟨rfl, rfl⟩
      refine ⟨_, rfl, ?_⟩
      refine hK.out _ _ ⟨qb, d2, q1⟩ (fun hHeld => ?_)
      clear hK K
      refine norm_ (a' := ?_) ?_ ?_
      rotate_left
      · show Act.put _ (some 24) _ = _
        simp only [Act.put, List.setIfInBounds_toArray, List.set_cons_zero, List.set_cons_succ, i64_w, i32_w]
        rfl
      refine pq_ 6 9 7 127 ?_
      refine done_ (by kernel_rfl) ?_
      refine out_of ?_
      clear hHeld hix2
      gi_wp2
      refine startIn_ (ro := some l) (m := 12) (S := fun w' => w'.cell? ⟨w.heap.size, 0, none⟩ = some (ptr b) ∧ w'.cell? ⟨b, 2, none⟩ = some (.slice (some ⟨g, 0, none⟩) x.names.length cap)) (ds := [11]) (m_ 12 0) (by kernel_rfl) (by kernel_rfl) rfl (by kernel_rfl) ⟨qb, d2⟩ (fun hHeld => ?_)
      refine pq_ 5 30 12 32 ?_
      refine pq_ 6 31 12 96 ?_
      refine pq_ 7 32 12 224 ?_
      refine tq_ 0 25 12 225 hHeld ?_
      refine tq_ 1 26 12 227 hHeld ?_
      refine pq_ 2 27 12 231 ?_
      refine pq_ 3 28 12 239 ?_
      refine tq_ 4 29 12 255 hHeld ?_
      refine one_ (i := 8) (N := some 33) (m_ 12 511) rfl rfl (by kernel_rfl) (by decide) (fun K hK => ?_)
      refine goes_ Tryz.func28 (by kernel_rfl) rfl #[.slice (some ⟨g, 0, none⟩) x.names.length cap, .int .i64 i, .int .i64 (wrap64 ((i : Int) + 1))] (by rfl) rfl rfl (by simp only [List.map_toArray, List.map_cons, List.map_nil]; rfl) ?_
      with_reducible refine (hdel.out).mono ?_
      rintro e w5 ⟨rfl, hRS5, hD5⟩
      have hD5' := Lib.hid (show Did (fun j => (Value.slice (some ⟨g, 0, none⟩) x.names.length cap).ownBlock = some j) w3 w5 from Did.mk hD5.os hD5.tape hD5.output hD5.size (fun j hj hn => hD5.block j hj (fun e => hn (by subst e; rfl))))
      have hg := Lib.hid (show g < w.heap.size ∨ w.heap.size + 4 ≤ g from hoff3.out g ((HG3.out.all g).2 (.inr (.inr (.inr rfl)))))
      have HB5 := Lib.hid (HB3.out.did hD5'.out (fun j hj => by have e : g = j := Option.some.inj hj; have := hg.out; omega))
      have hb5 := HG3.out.blk.did hD5'.out (fun e => by obtain ⟨cs, hvb⟩ := HG3.out.nv.typed e; exact absurd (HG3.out.blk.ty hvb) (by decide))
      have pb : w5.cell? ⟨w.heap.size, 0, none⟩ = some (ptr b) := (HB5.out.1.cell 0).trans rfl
      have p2 : w5.cell? ⟨b, 2, none⟩ = some (.slice (some ⟨g, 0, none⟩) x.names.length cap) := (hb5.cell 2).trans rfl
      have f2 := hb5.free 2
      have hRS5' := Lib.hid hRS5
      clear hRS5 hD5 hb5
      refine ⟨_, rfl, ?_⟩
      refine hK.out _ _ ⟨pb, p2⟩ (fun hHeld => ?_)
      clear hK K
      refine norm_ (a' := ?_) ?_ ?_
      rotate_left
      · show Act.put _ (some 33) _ = _
        simp only [Act.put, List.setIfInBounds_toArray, List.set_cons_zero, List.set_cons_succ, i64_w, i32_w]
        rfl
      refine pq_ 9 34 12 1023 ?_
      refine pq_ 10 35 12 2047 ?_
      refine last_ (i := 11) (N := none) (m_ 12 4095) rfl rfl (by kernel_rfl) (by decide) (fun K hK => ?_)
      refine skip_ (w1 := ?_) (by rfl) rfl ?_ ?_
      rotate_left
      · go_simp
        rfl
      refine hK.out _ _ ?_
      clear hK K
      refine done_ (by kernel_rfl) ?_
      refine out_of ?_
      clear hHeld pb p2 f2 qb d2 q1 hdel
      have hN5 : NV w5 (.slice (some ⟨g, 0, none⟩) (x.names.length - 1) cap) (x.names.eraseIdx i) := .inr ⟨g, cap, by rw [hlen.out], by rw [← map_erase]; exact hRS5'.out, Hcap.out⟩
      have hset := HG3.out.names hD5'.out hN5 (fun j e => .inl e)
      have HB6 := HB3.out.did hset.2.1 hoff3.out
      have hKO6 := Lib.hid (hKO.out.trans (ckeeps_did HG3.out.cn hset.2.1))
      have hT6 := Lib.hid (show CTp w F (w5.setCell ⟨b, 2, none⟩ (.slice (some ⟨g, 0, none⟩) (x.names.length - 1) cap)) b a0 a1 (dropY x nm now k.1) from by
        rw [hYE2.out]
        exact ⟨_, ⟨_, _, _, hset.1⟩, HI3.out.1.trans HI3.out.2 hset.2.1, HI3.out.2.trans HI3.out.1.size hset.2.2⟩)
      have hR6 := Lib.hid HB6.2.2.2
      clear hset hN5 HB6 hRS5' hD5' HB5 HG3 HB3 HI3 hKO hoff3 hg hlen hYE2
      generalize w5.setCell ⟨b, 2, none⟩ (.slice (some ⟨g, 0, none⟩) (x.names.length - 1) cap) = W6 at *
      have f0 := hR6.out.free 0
      have z0 : W6.cell? ⟨w.heap.size + 3, 0, none⟩ = some (.int .i64 0) := (hR6.out.cell 0).trans rfl
      have hfin := Lib.hid (show KeepsFrom w2.heap.size W (W6.setCell ⟨w.heap.size + 3, 0, none⟩ (.int .i64 0)) ∧ DOut w w2 F b a0 a1 x nm now .ret (pre ++ [k]) (W6.setCell ⟨w.heap.size + 3, 0, none⟩ (.int .i64 0)) from
        ⟨(hKO6.out.trans (KeepsOthers.setCell _ _ _)).from _, rfl, pre, k, rfl, Hall.out, hans.out, hT6.out.far hR6.out (by decide) (by omega) 0 _, hR6.out.set_ 0 (.int .i64 0)⟩)
      clear hKO6 hT6 hR6 Hall hans hw1 Hcap
      gi_wp2
      exact hfin.out
    · have te : (dropE (lk x (k.1 : Int)) nm == 0) = false := by simpa using hz
      have hkp := Lib.hid (drop_keeps (now := now) (ho.lk (k.1 : Int)) hz)
      have hz' := Lib.hid hz
      clear hz
      gi_wp2_with fail
      refine ⟨trivial, ?_⟩
      refine (callsIn_wideR hdr.out).mono ?_
      rintro e w3 ⟨rfl, hT⟩
      have hTT := CNp.turnG HG.out (k.1 : Int) (by rw [hap'.out]; exact hT)
      rw [hkp.out, on_lk] at hTT
      have hfin := Lib.hid (show KeepsFrom w2.heap.size W w3 ∧ Kt W w3 ∧ DInv w2 F b a0 a1 x nm (pre ++ [k]) w3 from by
        refine ⟨?_, trivial, CTp.next HI.out.1 HI.out.2 hTT, fun q hq => ?_⟩
        · obtain ⟨F3, hC3, hD3, hS3⟩ := hTT
          exact (ckeeps_did HG.out.cn hD3).from _
        · rcases List.mem_append.1 hq with e | e
          · exact Hall.out q e
          · rw [List.mem_singleton.1 e]; exact hz'.out)
      clear hT hTT hdr HG HI HB Hoff Hall hkp hz' hap'
      gi_wp2
      exact hfin.out
  case done =>
    rintro D0 xs W hD0 hxs ⟨⟨F2, hC, hD, hS⟩, hall⟩ hK
    have h0 : (0 : Fin 2) ∈ xs ∧ (1 : Fin 2) ∈ xs := by
      rcases xs with _ | ⟨p, _ | ⟨q, _ | ⟨r, z⟩⟩⟩
      · simp at hxs
      · simp at hxs
      · simp at hxs
        have e0 : p = 0 := hxs.1
        have e1 : q = 1 := Fin.ext hxs.2
        subst e0 e1
        simp
      · simp at hxs
    have hW := Lib.hid (show dropW x nm = none from by
      have d0 : dropE x.a nm ≠ 0 := hall 0 h0.1
      have d1 : dropE x.b nm ≠ 0 := hall 1 h0.2
      unfold dropW
      rw [if_neg d0, if_neg d1])
    have hans := Lib.hid (show dropNE x nm = 142 ∧ dropN x nm now = x from by
      unfold dropNE dropN
      rw [hW.out]
      exact ⟨rfl, rfl⟩)
    have hBx := hN2.out.did hD (fun j hj => .inl (hFl.out j hj))
    have f0 := hBx.2.2.2.free 0
    have z0 : W.cell? ⟨w.heap.size + 3, 0, none⟩ = some (.int .i64 0) := (hBx.2.2.2.cell 0).trans rfl
    have HR := Lib.hid hBx.2.2.2
    have HT := Lib.hid (show CTp w F W b a0 a1 x from ⟨F2, hC, hD2.out.trans (Stem.refl _ _) hD, (Stem.refl F w).trans hD2.out.size hS⟩)
    have hK' := Lib.hid hK
    clear hC hD hS hall hBx hK hxs h0 hW
    gi_wp2
    generalize hW6 : W.setCell ⟨w.heap.size + 1 + 1 + 1, 0, none⟩ (.int .i64 142) = W6 at *
    have hK6 := Lib.hid (show W6.heap[D0]? = some (.deferred (some [])) from by
      rw [← hW6]
      exact (KeepsOthers.setCell W ⟨w.heap.size + 1 + 1 + 1, 0, none⟩ (.int .i64 142)).same D0 _ hK'.out rfl)
    have hR6 := Lib.hid (show Blk W6 (w.heap.size + 3) 29 #[.int .i64 142] from by
      rw [← hW6]
      exact HR.out.set_ 0 (.int .i64 142))
    have hT6 := Lib.hid (show CTp w F W6 b a0 a1 x from by
      rw [← hW6]
      exact HT.out.far HR.out (by decide) (by omega) 0 _)
    clear hW6 HR HT z0 f0
    refine ⟨by simp, .inl ⟨_, _, rfl, run_takeDeferred hK6.out, ?_⟩⟩
    have hb1 := blk_own hR6.out (grownBy_putObj' W6 D0 (.deferred none)) (fun r e => by cases e; exact ⟨_, hK6.out, rfl⟩)
    have hc0 := (hb1.cell 0).trans rfl
    have h1 := ctp_own hT6.out (grownBy_putObj' W6 D0 (.deferred none)) (fun r e => by cases e; exact ⟨by omega, _, hK6.out, rfl⟩)
    refine ⟨.int .i64 142, ?_, by rw [hans.out.1], ?_⟩
    · simp [results, Tryz.f12, go_sem, hc0]
    · rw [hans.out.2]
      exact h1.tu
  case stop =>
    rintro D0 cd pre W hD0 ⟨m, hm⟩ ⟨rfl, p, k, rfl, hall, hz, hT, hR⟩ hK
    have hdw := drop_first hm hall hz
    have hans := Lib.hid (show dropNE x nm = 0 ∧ dropN x nm now = dropY x nm now k.1 from by
      unfold dropNE dropN dropY cutNm
      rw [hdw]
      exact ⟨rfl, by simp only [onW_names]; try (cases idxN x.names nm <;> rfl)⟩)
    have hT' := Lib.hid hT
    have hR' := Lib.hid hR
    have hK' := Lib.hid hK
    clear hT hR hK hz hall hm hdw
    gi_wp2
    refine ⟨by simp, .inl ⟨_, _, rfl, run_takeDeferred hK'.out, ?_⟩⟩
    have hb1 := blk_own hR'.out (grownBy_putObj' W D0 (.deferred none)) (fun r e => by cases e; exact ⟨_, hK'.out, rfl⟩)
    have hc0 := (hb1.cell 0).trans rfl
    have h1 := ctp_own hT'.out (grownBy_putObj' W D0 (.deferred none)) (fun r e => by cases e; exact ⟨by omega, _, hK'.out, rfl⟩)
    refine ⟨.int .i64 0, ?_, by rw [hans.out.1], ?_⟩
    · simp [results, Tryz.f12, go_sem, hc0]
    · rw [hans.out.2]
      exact h1.tu
end Go.Proofs.YtnkgjnmhiedfoaaGreat.Conn
