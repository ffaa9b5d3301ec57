/- A link's New, and doubles (chapter 12). Conditions: each name is shorter than 2^47 bytes. -/
import Derived.Test.YtoiibmcbjjnpbaaD24
import Derived.Test.YtoiibmcbjjnpbaaD16
import Derived.Lib.SlBytesConst
import Derived.Maps.AppendAt
namespace Go.Proofs.Ytoiibmcbjjnpbaa.Link
open Go.RowKit Mem Tick Cargo Toxic Stage Chain
set_option maxRecDepth 100000
set_option linter.unusedVariables false
set_option linter.unusedSimpArgs false
def Toxs (w : World) (v : Value) (l : List Tox) : Prop :=
  ∃ a cap, v = .slice a l.length cap ∧ l.length ≤ 9223372036854775807 ∧ l.length ≤ cap ∧ (l ≠ [] → ∃ g o, a = some ⟨g, o, none⟩ ∧ ∀ j t, l[j]? = some t → w.cell? ⟨g, o + j * 6, none⟩ = some (.string t.name) ∧ w.cell? ⟨g, o + j * 6 + 1, none⟩ = some (.int .i64 t.kind) ∧ w.cell? ⟨g, o + j * 6 + 2, none⟩ = some (.bool t.up) ∧ w.cell? ⟨g, o + j * 6 + 3, none⟩ = some (.int .i64 t.often) ∧ w.cell? ⟨g, o + j * 6 + 4, none⟩ = some (.int .i64 t.a) ∧ w.cell? ⟨g, o + j * 6 + 5, none⟩ = some (.int .i64 t.b))
theorem Toxs.below {w w' : World} {v : Value} {l : List Tox} (h : Toxs w v l) (hb : Below w.heap.size w w') : Toxs w' v l := by
  obtain ⟨a, cap, h1, h2, h3, h4⟩ := h
  refine ⟨a, cap, h1, h2, h3, fun hn => ?_⟩
  obtain ⟨g, o, e, hc⟩ := h4 hn
  refine ⟨g, o, e, fun j t ht => ?_⟩
  obtain ⟨c0, c1, c2, c3, c4, c5⟩ := hc j t ht
  exact ⟨bcells hb c0, bcells hb c1, bcells hb c2, bcells hb c3, bcells hb c4, bcells hb c5⟩
theorem same_any (t : Tox) (g : Nat) (n : ByteArray) (w : World) (hc : w.cell? ⟨g, 0, none⟩ = some (.string n)) :
    Calls Try.prog 34 #[t.v, ptr g] w fun e w' => e = .returned (.bool (t.name.toList == n.toList)) ∧ Below w.heap.size w w' := by
  obtain ⟨t0, t1, t2, t3, t4, t5⟩ := t
  have hl := World.block_lt_of_cell? w _ hc
  have hl2 : g < w.heap.size := hl
  have hne : g ≠ w.heap.size := by omega
  have hB := Lib.hid ((Below.refl w.heap.size w).alloc (Nat.le_refl _) (.cells #[.string t0, .int .i64 t1, .bool t2, .int .i64 t3, .int .i64 t4, .int .i64 t5] 29))
  have hc2 := bcells hB.out hc
  go_enter Try.func34, Try.ntmps34
  go_wp2
  go_ret
  exact ⟨rfl, hB.out⟩
def hasB (l : List Tox) (n : ByteArray) : Bool := l.any fun x => x.name.toList == n.toList
theorem hasB_succ {l : List Tox} {k : Nat} {t : Tox} (h : l[k]? = some t) (n : ByteArray) : hasB (l.take (k + 1)) n = (hasB (l.take k) n || (t.name.toList == n.toList)) := by
  unfold hasB
  rw [List.take_add_one, h, List.any_append]
  simp
theorem indexF_any (w : World) (v : Value) (l : List Tox) (g : Nat) (n : ByteArray) (hv : Toxs w v l) (hc : w.cell? ⟨g, 0, none⟩ = some (.string n)) :
    Calls Try.prog 57 #[v, .func (.func 34) #[] #[ptr g]] w fun e w' => (∃ i : Int, e = .returned (.int .i64 i) ∧ (decide (0 ≤ i) = hasB l n)) ∧ Below w.heap.size w w' := by
  obtain ⟨a, cap, rfl, hmx, hcp, hA⟩ := hv
  have hs := Lib.hid (fun (t : Tox) (wy : World) (hb : Below w.heap.size w wy) => same_any t g n wy (bcells hb hc))
  clear hc
  go_enter Try.func57, Try.ntmps57
  go_wp2
  go_loopw [8] (fun iv wr => ∃ k : Nat, k ≤ l.length ∧ iv = .int .i64 k ∧ Below w.heap.size w wr ∧ hasB (l.take k) n = false) (fun iv _ => l.length - (intOf iv).toNat)
  case atStart => exact ⟨0, by omega, rfl, Below.refl _ _, rfl⟩
  case round =>
    obtain ⟨k, hk, rfl, hB, hno⟩ := hrel
    by_cases hlt : k < l.length
    · obtain ⟨g2, o, rfl, hc⟩ := hA (by intro h; subst h; simp at hlt)
      have hx : l[k]? = some l[k] := List.getElem?_eq_getElem hlt
      obtain ⟨d0, d1, d2, d3, d4, d5⟩ := hc k _ hx
      have hsucc := Lib.hid (hasB_succ hx n)
      rw [hno, Bool.false_or] at hsucc
      have hmem := Lib.hid (show ∀ (t : Tox), l[k]? = some t → (t.name.toList == n.toList) = true → hasB l n = true from fun t ht e => List.any_eq_true.2 ⟨t, List.mem_of_getElem? ht, e⟩)
      have hx' := Lib.hid hx
      generalize l[k] = p at *
      obtain ⟨t0, t1, t2, t3, t4, t5⟩ := p
      dsimp only at *
      have d0' := bcells hB d0
      have d1' := bcells hB d1
      have d2' := bcells hB d2
      have d3' := bcells hB d3
      have d4' := bcells hB d4
      have d5' := bcells hB d5
      have hB' := Lib.hid hB
      clear hc hx hA d0 d1 d2 d3 d4 d5 hB hno
      go_wp2_with fail
      refine (hs.out ⟨t0, t1, t2, t3, t4, t5⟩ _ hB'.out).mono ?_
      rintro e w2 ⟨rfl, hB2⟩
      have hB3 := Lib.hid (bw_below hB'.out hB2)
      clear hB2
      cases he : (t0.toList == n.toList) with
      | true =>
        have hr := Lib.hid (show hasB l n = true from hmem.out _ hx'.out he)
        clear hsucc hmem he
        go_wp2
        go_ret
        exact ⟨⟨_, rfl, by rw [hr.out]; simp⟩, hB3.out⟩
      | false =>
        have hr := Lib.hid (show hasB (l.take (k + 1)) n = false from by rw [hsucc.out]; exact he)
        clear hsucc hmem he
        go_wp2
        go_roundw
        case rel => exact ⟨k + 1, by omega, by go_num, hB3.out, hr.out⟩
        case measure => simp [intOf]; omega
    · have hk2 : k = l.length := by omega
      subst hk2
      have hnl : ¬ (l.length < l.length) := by omega
      rw [List.take_length] at hno
      have hr := Lib.hid hno
      clear hno hA
      go_wp2
      go_ret
      exact ⟨⟨_, rfl, by rw [hr.out]; rfl⟩, hB⟩
theorem containsF_any (w : World) (v : Value) (l : List Tox) (g : Nat) (n : ByteArray) (hv : Toxs w v l) (hc : w.cell? ⟨g, 0, none⟩ = some (.string n)) :
    Calls Try.prog 33 #[v, .func (.func 34) #[] #[ptr g]] w fun e w' => e = .returned (.bool (hasB l n)) ∧ Below w.heap.size w w' := by
  have hh := Lib.hid (indexF_any w v l g n hv hc)
  clear hv hc
  go_enter Try.func33, Try.ntmps33
  go_wp2_with fail
  refine hh.out.mono ?_
  rintro e w2 ⟨⟨i, rfl, hi⟩, hB2⟩
  have hi' := Lib.hid hi
  have hB3 := Lib.hid hB2
  clear hh hi hB2
  go_wp2
  go_ret
  exact ⟨by rw [← hi'.out]; rfl, hB3.out⟩
theorem Toxs.take {w : World} {a : Option Addr} {cap : Nat} {l : List Tox} (h : Toxs w (.slice a l.length cap) l) {k : Nat} (hk : k ≤ l.length) : Toxs w (.slice a k cap) (l.take k) := by
  obtain ⟨a', cap', he, h2, h3, h4⟩ := h
  injection he with e1 e2 e3
  subst e1 e3
  have hl : (l.take k).length = k := by rw [List.length_take]; omega
  refine ⟨a, cap, by rw [hl], by omega, by omega, fun hn => ?_⟩
  obtain ⟨g, o, e, hc⟩ := h4 (by rintro rfl; simp at hn)
  refine ⟨g, o, e, fun j t ht => hc j t ?_⟩
  rw [List.getElem?_take] at ht
  split at ht
  · exact ht
  · cases ht
def dblN (l : List Tox) : Nat → Bool
  | 0 => false
  | k + 1 => dblN l k || (match l[k]? with | some t => hasB (l.take k) t.name | none => false)
def dblB (l : List Tox) : Bool := dblN l l.length
theorem dblN_mono {l : List Tox} {k m : Nat} (h : dblN l k = true) (hm : k ≤ m) : dblN l m = true := by
  induction m with
  | zero => have : k = 0 := by omega
            subst this; exact h
  | succ m ih =>
    by_cases e : k = m + 1
    · subst e; exact h
    · unfold dblN; rw [ih (by omega)]; rfl
theorem doubles_any (w : World) (v : Value) (l : List Tox) (hv : Toxs w v l) :
    Calls Try.prog 18 #[v] w fun e w' => e = .returned (.bool (dblB l)) ∧ Below w.heap.size w w' := by
  have hv0 := Lib.hid hv
  obtain ⟨a, cap, rfl, hmx, hcp, hA⟩ := hv
  go_enter Try.func18, Try.ntmps18
  go_wp2
  go_loopw [7] (fun iv wr => ∃ k : Nat, k ≤ l.length ∧ iv = .int .i64 k ∧ Below w.heap.size w wr ∧ dblN l k = false) (fun iv _ => l.length - (intOf iv).toNat)
  case atStart => exact ⟨0, by omega, rfl, Below.refl _ _, rfl⟩
  case round =>
    obtain ⟨k, hk, rfl, hB, hno⟩ := hrel
    by_cases hlt : k < l.length
    · have hpre := Lib.hid ((hv0.out.below hB).take hk)
      obtain ⟨g2, o, rfl, hc⟩ := hA (by intro h; subst h; simp at hlt)
      have hx : l[k]? = some l[k] := List.getElem?_eq_getElem hlt
      obtain ⟨d0, d1, d2, d3, d4, d5⟩ := hc k _ hx
      have hsucc := Lib.hid (show dblN l (k + 1) = hasB (l.take k) (l[k]).name from by show (dblN l k || _) = _; rw [hno, hx]; rfl)
      generalize l[k] = p at *
      obtain ⟨t0, t1, t2, t3, t4, t5⟩ := p
      dsimp only at *
      have d0' := bcells hB d0
      have d1' := bcells hB d1
      have d2' := bcells hB d2
      have d3' := bcells hB d3
      have d4' := bcells hB d4
      have d5' := bcells hB d5
      have hB1 := Lib.hid (hB.alloc hB.size (.cells #[.string t0, .int .i64 t1, .bool t2, .int .i64 t3, .int .i64 t4, .int .i64 t5] 29))
      have hcon := Lib.hid (containsF_any (wr.alloc (.cells #[.string t0, .int .i64 t1, .bool t2, .int .i64 t3, .int .i64 t4, .int .i64 t5] 29)) (.slice (some ⟨g2, o, none⟩) k cap) (l.take k) wr.heap.size t0 (hpre.out.below ((Below.refl _ _).alloc (Nat.le_refl _) _)) (((Blk.new wr 29 #[.string t0, .int .i64 t1, .bool t2, .int .i64 t3, .int .i64 t4, .int .i64 t5]).cell 0).trans rfl))
      have hkc : k ≤ cap := by omega
      have hkc2 : (k : Int) ≤ (cap : Int) := by omega
      have hmono := Lib.hid (fun h => show dblB l = true from dblN_mono (l := l) (k := k + 1) h (by omega))
      clear hc hx hA d0 d1 d2 d3 d4 d5 hB hno hpre
      go_wp2_with fail
      refine hcon.out.mono ?_
      rintro e w2 ⟨rfl, hB2⟩
      have hB3 := Lib.hid (bw_below hB1.out hB2)
      clear hB2 hB1
      cases he : hasB (l.take k) t0 with
      | true =>
        have hr := Lib.hid (hmono.out (by rw [hsucc.out]; exact he))
        clear hsucc hmono he hcon
        go_wp2
        go_ret
        exact ⟨by rw [hr.out]; rfl, hB3.out⟩
      | false =>
        have hr := Lib.hid (show dblN l (k + 1) = false from by rw [hsucc.out]; exact he)
        clear hsucc hmono he hcon
        go_wp2
        go_roundw
        case rel => exact ⟨k + 1, by omega, by go_num, hB3.out, hr.out⟩
        case measure => simp [intOf]; omega
    · have hk2 : k = l.length := by omega
      subst hk2
      have hnl : ¬ (l.length < l.length) := by omega
      have hr := Lib.hid (show dblB l = false from hno)
      clear hno hA
      go_wp2
      go_ret
      exact ⟨by rw [hr.out]; rfl, hB⟩
/-! what lives -/
def LiveK (w wr : World) (b : Nat) (x : Lk) : Prop := ∃ F, LK wr F b x ∧ (∀ j, F j → w.heap.size ≤ j) ∧ Below w.heap.size w wr
def KeepK (wr w2 : World) : Prop := ∀ g t cs, Blk wr g t cs → t ∉ lts → Blk w2 g t cs
variable {w wr w2 w1 : World} {F : Nat → Prop} {b : Nat} {x y : Lk} {M Q : Int}
theorem LiveK.old (h : LiveK w wr b x) : Below w.heap.size w wr := by obtain ⟨F, _, _, hb⟩ := h; exact hb
theorem LiveK.below (h : LiveK w wr b x) (hb : Below wr.heap.size wr w2) : LiveK w w2 b x := by
  obtain ⟨F, hC, hF, hB⟩ := h
  exact ⟨F, hC.below hb, hF, hB.trans (hb.mono hB.size)⟩
theorem LiveK.turn (hC : LK wr F b x) (hF : ∀ j, F j → w.heap.size ≤ j) (hB : Below w.heap.size w wr) (h : LTu wr F w2 b y) : LiveK w w2 b y ∧ KeepK wr w2 := by
  obtain ⟨F', hC2, hd, hs⟩ := h
  exact ⟨⟨F', hC2, fun j hj => (hs j hj).elim (hF j) (fun h => Nat.le_trans hB.size h), hB.trans (hd.below hB.size hF)⟩, fun g t cs hb ht => hb.did hd (hC.off hb ht)⟩
def firstE : List Tox → Int
  | [] => 0
  | t :: r => if chk t ≠ 0 then chk t else firstE r
theorem first_succ {l : List Tox} {k : Nat} {t : Tox} (h : l[k]? = some t) (hk : firstE (l.take k) = 0) : firstE (l.take (k + 1)) = chk t := by
  induction l generalizing k with
  | nil => simp at h
  | cons u r ih =>
    cases k with
    | zero =>
      injection h with h
      subst h
      simp [firstE]
      intro e
      omega
    | succ k =>
      simp only [List.take_succ_cons, firstE] at hk ⊢
      split at hk
      · omega
      · rename_i hu
        rw [if_neg hu]
        exact ih h hk
theorem first_mono {l : List Tox} {k : Nat} (h : firstE (l.take k) ≠ 0) : firstE l = firstE (l.take k) := by
  induction l generalizing k with
  | nil => simp
  | cons u r ih =>
    cases k with
    | zero => exact absurd rfl h
    | succ k =>
      simp only [List.take_succ_cons, firstE] at h ⊢
      split at h
      · rename_i hu; rw [if_pos hu, if_pos hu]
      · rename_i hu; rw [if_neg hu, if_neg hu]; exact ih h
def linkE (l : List Tox) (room : Int) : Int := if roomOk room = false ∨ 8 < l.length then 1 else if firstE l ≠ 0 then firstE l else if dblB l = true then 141 else 0
def link0 (up : Bool) (seed room now : Int) : Lk := ⟨newC room now, [], up, seed, 0, 0, 0, false⟩
def linkN (l : List Tox) (up : Bool) (seed room now : Int) : Lk := l.foldl (fun x t => addK x t now) (link0 up seed room now)
theorem ok_link0 (up : Bool) (seed room now : Int) (h : roomOk room = true) (h0 : 0 ≤ seed) (h1 : seed < 18446744073709551616) : OkK (link0 up seed room now) 0 0 :=
  ⟨ok_newC room now h, rfl, Int.le_refl 0, (by decide : (0 : Int) ≤ 1000000000), h0, h1, Int.le_refl 0, Int.le_refl 0⟩
theorem drawn_add (x : Lk) (t : Tox) (now : Int) : (addK x t now).drawn ≤ x.drawn + 1 := by
  unfold addK
  split
  · exact Int.le_refl _
  · omega
theorem ok_fold (now : Int) : ∀ (l : List Tox) (x : Lk), OkK x 0 0 → x.drawn + l.length ≤ 1000 → OkK (l.foldl (fun x t => addK x t now) x) 0 0 ∧ (l.foldl (fun x t => addK x t now) x).drawn ≤ x.drawn + l.length
  | [], x, h, hd => ⟨h, by simp⟩
  | t :: r, x, h, hd => by
    rw [List.length_cons] at hd
    have h1 := drawn_add x t now
    obtain ⟨h2, h3⟩ := ok_fold now r (addK x t now) (h.add (Int.le_refl 0) (by omega) t now) (by omega)
    exact ⟨h2, by rw [List.foldl_cons, List.length_cons]; omega⟩
theorem ok_linkN (l : List Tox) (up : Bool) (seed room now : Int) (h : roomOk room = true) (h0 : 0 ≤ seed) (h1 : seed < 18446744073709551616) (hl : l.length ≤ 8) : OkK (linkN l up seed room now) 0 0 ∧ (linkN l up seed room now).drawn ≤ 8 := by
  have := ok_fold now l _ (ok_link0 up seed room now h h0 h1) (by show (0 : Int) + l.length ≤ 1000; omega)
  exact ⟨this.1, by have h2 := this.2; have h3 : (link0 up seed room now).drawn = 0 := rfl; unfold linkN; omega⟩
theorem new_bad (v : Value) (l : List Tox) (up : Bool) (seed room now : Int) (w : World) (hv : Toxs w v l) (hr : roomOk room = false) :
    Calls Try.prog 7 #[v, .bool up, .int .u64 seed, .int .i64 room, .int .i64 now] w fun e w' => e = .returned (.tuple #[.pointer none, .int .i64 (1)]) ∧ Below w.heap.size w w' := by
  have hn := Lib.hid (cNew_bad room now w hr)
  clear hv
  go_enter Try.func7, Try.ntmps7
  go_wp2_with fail
  refine hn.out.mono ?_
  rintro e w1 ⟨rfl, hB⟩
  have hB1 := Lib.hid hB
  clear hn hB
  go_wp2
  go_ret2
  exact ⟨rfl, hB1.out⟩
theorem new_long (v : Value) (l : List Tox) (up : Bool) (seed room now : Int) (w : World) (hv : Toxs w v l) (hr : roomOk room = true) (hl : 8 < l.length) :
    Calls Try.prog 7 #[v, .bool up, .int .u64 seed, .int .i64 room, .int .i64 now] w fun e w' => e = .returned (.tuple #[.pointer none, .int .i64 (1)]) ∧ Below w.heap.size w w' := by
  have hn := Lib.hid (cNew_any room now w hr)
  obtain ⟨a, cap, rfl, hmx, hcp, hA⟩ := hv
  have tl : decide ((8 : Int) < (l.length : Int)) = true := decide_eq_true (by omega)
  clear hA
  go_enter Try.func7, Try.ntmps7
  go_wp2_with fail
  refine hn.out.mono ?_
  rintro e w1 ⟨c, F, D, rfl, hC, hF, hcp2, hB⟩
  have hB1 := Lib.hid hB
  clear hn hB hC hF hcp2
  go_wp2
  go_ret2
  exact ⟨rfl, hB1.out⟩
theorem new_chk (v : Value) (l : List Tox) (up : Bool) (seed room now : Int) (w : World) (hv : Toxs w v l) (hr : roomOk room = true) (hl : l.length ≤ 8) (hf : firstE l ≠ 0) :
    Calls Try.prog 7 #[v, .bool up, .int .u64 seed, .int .i64 room, .int .i64 now] w fun e w' => e = .returned (.tuple #[.pointer none, .int .i64 (firstE l)]) ∧ Below w.heap.size w w' := by
  have hn := Lib.hid (cNew_any room now w hr)
  have hv0 := Lib.hid hv
  obtain ⟨a, cap, rfl, hmx, hcp, hA⟩ := hv
  have tl : decide ((8 : Int) < (l.length : Int)) = false := decide_eq_false (by omega)
  go_enter Try.func7, Try.ntmps7
  go_wp2_with fail
  refine hn.out.mono ?_
  rintro e w1 ⟨c, F, D, rfl, hC, hF, hcp2, hB⟩
  have hBw1 := Lib.hid hB
  have hCh := Lib.hid (And.intro hC (And.intro hF hcp2))
  clear hn hB hC hF hcp2
  go_wp2
  go_loopw [35] (fun iv wr => ∃ k : Nat, k ≤ l.length ∧ iv = .int .i64 k ∧ Below w1.heap.size w1 wr ∧ firstE (l.take k) = 0) (fun iv _ => l.length - (intOf iv).toNat)
  case atStart => exact ⟨0, by omega, rfl, Below.refl _ _, rfl⟩
  case round =>
    obtain ⟨k, hk, rfl, hB, hno⟩ := hrel
    by_cases hlt : k < l.length
    · obtain ⟨g2, o, rfl, hc⟩ := hA (by intro h; subst h; simp at hlt)
      have hx : l[k]? = some l[k] := List.getElem?_eq_getElem hlt
      obtain ⟨d0, d1, d2, d3, d4, d5⟩ := hc k _ hx
      have hsucc := Lib.hid (first_succ hx hno)
      have hmono := Lib.hid (fun h => first_mono (l := l) (k := k + 1) h)
      generalize l[k] = p at *
      obtain ⟨t0, t1, t2, t3, t4, t5⟩ := p
      dsimp only at *
      have hBw := hBw1.out.trans (hB.mono hBw1.out.size)
      have d0' := bcells hBw d0
      have d1' := bcells hBw d1
      have d2' := bcells hBw d2
      have d3' := bcells hBw d3
      have d4' := bcells hBw d4
      have d5' := bcells hBw d5
      have hB' := Lib.hid (hB.alloc hB.size (.cells #[.string t0, .int .i64 t1, .bool t2, .int .i64 t3, .int .i64 t4, .int .i64 t5] 29))
      have hck := Lib.hid (fun wy => check_any ⟨t0, t1, t2, t3, t4, t5⟩ wy)
      clear hc hx hA d0 d1 d2 d3 d4 d5 hB hno hBw
      go_wp2_with fail
      refine (hck.out _).mono ?_
      rintro e w2 ⟨rfl, hB2⟩
      have hB3 := Lib.hid (bw_below hB'.out hB2)
      clear hB2 hB' hck
      by_cases he : chk ⟨t0, t1, t2, t3, t4, t5⟩ = 0
      · have hr := Lib.hid (show firstE (l.take (k + 1)) = 0 from by rw [hsucc.out]; exact he)
        rw [he]
        clear hsucc hmono he
        go_wp2
        go_roundw
        case rel => exact ⟨k + 1, by omega, by go_num, hB3.out, hr.out⟩
        case measure => simp [intOf]; omega
      · have te : (chk ⟨t0, t1, t2, t3, t4, t5⟩ != 0) = true := by simpa using he
        have hr := Lib.hid (show firstE l = chk ⟨t0, t1, t2, t3, t4, t5⟩ from by have := hmono.out (by rw [hsucc.out]; exact he); rw [hsucc.out] at this; exact this)
        clear hsucc hmono he
        go_wp2
        go_ret2
        exact ⟨by rw [hr.out]; rfl, bw_below hBw1.out hB3.out⟩
    · have hk2 : k = l.length := by omega
      subst hk2
      have hnl : ¬ (l.length < l.length) := by omega
      rw [List.take_length] at hno
      exact absurd hno hf
theorem new_dbl (v : Value) (l : List Tox) (up : Bool) (seed room now : Int) (w : World) (hv : Toxs w v l) (hr : roomOk room = true) (hl : l.length ≤ 8) (hf : firstE l = 0) (hd : dblB l = true) :
    Calls Try.prog 7 #[v, .bool up, .int .u64 seed, .int .i64 room, .int .i64 now] w fun e w' => e = .returned (.tuple #[.pointer none, .int .i64 (141)]) ∧ Below w.heap.size w w' := by
  have hn := Lib.hid (cNew_any room now w hr)
  have hv0 := Lib.hid hv
  obtain ⟨a, cap, rfl, hmx, hcp, hA⟩ := hv
  have tl : decide ((8 : Int) < (l.length : Int)) = false := decide_eq_false (by omega)
  go_enter Try.func7, Try.ntmps7
  go_wp2_with fail
  refine hn.out.mono ?_
  rintro e w1 ⟨c, F, D, rfl, hC, hF, hcp2, hB⟩
  have hBw1 := Lib.hid hB
  have hCh := Lib.hid (And.intro hC (And.intro hF hcp2))
  clear hn hB hC hF hcp2
  go_wp2
  go_loopw [35] (fun iv wr => ∃ k : Nat, k ≤ l.length ∧ iv = .int .i64 k ∧ Below w1.heap.size w1 wr ∧ firstE (l.take k) = 0) (fun iv _ => l.length - (intOf iv).toNat)
  case atStart => exact ⟨0, by omega, rfl, Below.refl _ _, rfl⟩
  case round =>
    obtain ⟨k, hk, rfl, hB, hno⟩ := hrel
    by_cases hlt : k < l.length
    · obtain ⟨g2, o, rfl, hc⟩ := hA (by intro h; subst h; simp at hlt)
      have hx : l[k]? = some l[k] := List.getElem?_eq_getElem hlt
      obtain ⟨d0, d1, d2, d3, d4, d5⟩ := hc k _ hx
      have hsucc := Lib.hid (first_succ hx hno)
      have hmono := Lib.hid (fun h => first_mono (l := l) (k := k + 1) h)
      generalize l[k] = p at *
      obtain ⟨t0, t1, t2, t3, t4, t5⟩ := p
      dsimp only at *
      have hBw := hBw1.out.trans (hB.mono hBw1.out.size)
      have d0' := bcells hBw d0
      have d1' := bcells hBw d1
      have d2' := bcells hBw d2
      have d3' := bcells hBw d3
      have d4' := bcells hBw d4
      have d5' := bcells hBw d5
      have hB' := Lib.hid (hB.alloc hB.size (.cells #[.string t0, .int .i64 t1, .bool t2, .int .i64 t3, .int .i64 t4, .int .i64 t5] 29))
      have hck := Lib.hid (fun wy => check_any ⟨t0, t1, t2, t3, t4, t5⟩ wy)
      clear hc hx hA d0 d1 d2 d3 d4 d5 hB hno hBw
      go_wp2_with fail
      refine (hck.out _).mono ?_
      rintro e w2 ⟨rfl, hB2⟩
      have hB3 := Lib.hid (bw_below hB'.out hB2)
      clear hB2 hB' hck
      by_cases he : chk ⟨t0, t1, t2, t3, t4, t5⟩ = 0
      · have hr := Lib.hid (show firstE (l.take (k + 1)) = 0 from by rw [hsucc.out]; exact he)
        rw [he]
        clear hsucc hmono he
        go_wp2
        go_roundw
        case rel => exact ⟨k + 1, by omega, by go_num, hB3.out, hr.out⟩
        case measure => simp [intOf]; omega
      · have te : (chk ⟨t0, t1, t2, t3, t4, t5⟩ != 0) = true := by simpa using he
        have hr := Lib.hid (show firstE l = chk ⟨t0, t1, t2, t3, t4, t5⟩ from by have := hmono.out (by rw [hsucc.out]; exact he); rw [hsucc.out] at this; exact this)
        clear hsucc hmono he
        exact absurd (hr.out.symm.trans hf) (by simpa using te)
    · have hk2 : k = l.length := by omega
      subst hk2
      have hnl : ¬ (l.length < l.length) := by omega
      rw [List.take_length] at hno
      have hdb := Lib.hid (doubles_any wr (.slice a l.length cap) l (hv0.out.below (hBw1.out.trans (hB.mono hBw1.out.size))))
      rw [hd] at hdb
      have hB' := Lib.hid (bw_below hBw1.out hB)
      clear hA hB hno
      go_wp2_with fail
      refine hdb.out.mono ?_
      rintro e w2 ⟨rfl, hB2⟩
      have hB3 := Lib.hid (bw_below hB'.out hB2)
      clear hB2 hdb
      go_wp2
      go_ret2
      exact ⟨rfl, hB3.out⟩
set_option maxHeartbeats 1000000 in
theorem new_ok (v : Value) (l : List Tox) (up : Bool) (seed room now : Int) (w : World) (hv : Toxs w v l) (hr : roomOk room = true) (hl : l.length ≤ 8) (hf : firstE l = 0) (hd : dblB l = false) (h0 : 0 ≤ seed) (h1 : seed < 18446744073709551616) :
    Calls Try.prog 7 #[v, .bool up, .int .u64 seed, .int .i64 room, .int .i64 now] w fun e w' => ∃ b, e = .returned (.tuple #[ptr b, .int .i64 0]) ∧ LiveK w w' b (linkN l up seed room now) := by
  have hn := Lib.hid (cNew_any room now w hr)
  have hv0 := Lib.hid hv
  obtain ⟨a, cap, rfl, hmx, hcp, hA⟩ := hv
  have tl : decide ((8 : Int) < (l.length : Int)) = false := decide_eq_false (by omega)
  go_enter Try.func7, Try.ntmps7
  go_wp2_with fail
  refine hn.out.mono ?_
  rintro e w1 ⟨c, F, D, rfl, hC, hF, hcp2, hB⟩
  have hBw1 := Lib.hid hB
  have hCh := Lib.hid (And.intro hC (And.intro hF hcp2))
  clear hn hB hC hF hcp2
  go_wp2
  go_loopw [35] (fun iv wr => ∃ k : Nat, k ≤ l.length ∧ iv = .int .i64 k ∧ Below w1.heap.size w1 wr ∧ firstE (l.take k) = 0) (fun iv _ => l.length - (intOf iv).toNat)
  case atStart => exact ⟨0, by omega, rfl, Below.refl _ _, rfl⟩
  case round =>
    obtain ⟨k, hk, rfl, hB, hno⟩ := hrel
    by_cases hlt : k < l.length
    · obtain ⟨g2, o, rfl, hc⟩ := hA (by intro h; subst h; simp at hlt)
      have hx : l[k]? = some l[k] := List.getElem?_eq_getElem hlt
      obtain ⟨d0, d1, d2, d3, d4, d5⟩ := hc k _ hx
      have hsucc := Lib.hid (first_succ hx hno)
      have hmono := Lib.hid (fun h => first_mono (l := l) (k := k + 1) h)
      generalize l[k] = p at *
      obtain ⟨t0, t1, t2, t3, t4, t5⟩ := p
      dsimp only at *
      have hBw := hBw1.out.trans (hB.mono hBw1.out.size)
      have d0' := bcells hBw d0
      have d1' := bcells hBw d1
      have d2' := bcells hBw d2
      have d3' := bcells hBw d3
      have d4' := bcells hBw d4
      have d5' := bcells hBw d5
      have hB' := Lib.hid (hB.alloc hB.size (.cells #[.string t0, .int .i64 t1, .bool t2, .int .i64 t3, .int .i64 t4, .int .i64 t5] 29))
      have hck := Lib.hid (fun wy => check_any ⟨t0, t1, t2, t3, t4, t5⟩ wy)
      clear hc hx hA d0 d1 d2 d3 d4 d5 hB hno hBw
      go_wp2_with fail
      refine (hck.out _).mono ?_
      rintro e w2 ⟨rfl, hB2⟩
      have hB3 := Lib.hid (bw_below hB'.out hB2)
      clear hB2 hB' hck
      by_cases he : chk ⟨t0, t1, t2, t3, t4, t5⟩ = 0
      · have hr := Lib.hid (show firstE (l.take (k + 1)) = 0 from by rw [hsucc.out]; exact he)
        rw [he]
        clear hsucc hmono he
        go_wp2
        go_roundw
        case rel => exact ⟨k + 1, by omega, by go_num, hB3.out, hr.out⟩
        case measure => simp [intOf]; omega
      · have te : (chk ⟨t0, t1, t2, t3, t4, t5⟩ != 0) = true := by simpa using he
        have hr := Lib.hid (show firstE l = chk ⟨t0, t1, t2, t3, t4, t5⟩ from by have := hmono.out (by rw [hsucc.out]; exact he); rw [hsucc.out] at this; exact this)
        clear hsucc hmono he
        exact absurd (hr.out.symm.trans hf) (by simpa using te)
    · have hk2 : k = l.length := by omega
      subst hk2
      have hnl : ¬ (l.length < l.length) := by omega
      rw [List.take_length] at hno
      have hdb := Lib.hid (doubles_any wr (.slice a l.length cap) l (hv0.out.below (hBw1.out.trans (hB.mono hBw1.out.size))))
      rw [hd] at hdb
      have hB' := Lib.hid (bw_below hBw1.out hB)
      have hCr := Lib.hid (hCh.out.1.below hB)
      clear hB hno
      go_wp2_with fail
      refine hdb.out.mono ?_
      rintro e w2 ⟨rfl, hB2⟩
      have hB3 := Lib.hid (bw_below hB'.out hB2)
      have hC2 := Lib.hid (hCr.out.below hB2)
      have hBL := (Below.refl w2.heap.size w2).alloc (Nat.le_refl _) (.cells #[ptr c, .slice none 0 0, .bool up, .int .u64 seed, .int .i64 0, .int .i64 0, .int .i64 0, .int .i64 0, .int .i64 0, .bool false] 48)
      have hL0 := Lib.hid (show LiveK w (w2.alloc (.cells #[ptr c, .slice none 0 0, .bool up, .int .u64 seed, .int .i64 0, .int .i64 0, .int .i64 0, .int .i64 0, .int .i64 0, .bool false] 48)) w2.heap.size (link0 up seed room now) from
        ⟨fun j => j = w2.heap.size ∨ F j ∨ (Value.slice none 0 0).ownBlock = some j, ⟨F, c, D, .slice none 0 0, Blk.new w2 _ _, hC2.out.below hBL, hCh.out.2.2, .inl ⟨rfl, rfl⟩, fun j => Iff.rfl⟩, (fun j hj => by
          rcases hj with rfl | hj | hj
          · exact hB3.out.size
          · exact hCh.out.2.1 j hj
          · cases hj), hB3.out.alloc hB3.out.size _⟩)
      clear hB2 hdb hBL hB' hCr
      go_wp2
      go_loopw [54] (fun iv wr => ∃ k : Nat, k ≤ l.length ∧ iv = .int .i64 k ∧ LiveK w wr w2.heap.size (linkN (l.take k) up seed room now)) (fun iv _ => l.length - (intOf iv).toNat)
      case atStart => exact ⟨0, by omega, rfl, hL0.out⟩
      case round =>
        obtain ⟨k, hk, rfl, hL⟩ := hrel
        clear hL0
        by_cases hlt : k < l.length
        · obtain ⟨g2, o, rfl, hc⟩ := hA (by intro h; subst h; simp at hlt)
          have hx : l[k]? = some l[k] := List.getElem?_eq_getElem hlt
          obtain ⟨d0, d1, d2, d3, d4, d5⟩ := hc k _ hx
          have hok := Lib.hid (ok_linkN (l.take k) up seed room now hr h0 h1 (by rw [List.length_take]; omega)).1
          have hsucc := Lib.hid (show linkN (l.take (k + 1)) up seed room now = addK (linkN (l.take k) up seed room now) l[k] now from by unfold linkN; rw [List.take_add_one, hx, List.foldl_append]; rfl)
          generalize l[k] = p at *
          obtain ⟨t0, t1, t2, t3, t4, t5⟩ := p
          dsimp only at *
          have hBw := hL.old
          have d0' := bcells hBw d0
          have d1' := bcells hBw d1
          have d2' := bcells hBw d2
          have d3' := bcells hBw d3
          have d4' := bcells hBw d4
          have d5' := bcells hBw d5
          have hL' := Lib.hid (hL.below ((Below.refl wr.heap.size wr).alloc (Nat.le_refl _) (.cells #[.string t0, .int .i64 t1, .bool t2, .int .i64 t3, .int .i64 t4, .int .i64 t5] 29)))
          clear hc hx hA d0 d1 d2 d3 d4 d5 hL hBw
          generalize linkN (l.take k) up seed room now = x0 at *
          obtain ⟨F0, hLK, hF0, hB0⟩ := hL'.out
          have hadd := Lib.hid (kAdd_any hLK hok.out ⟨t0, t1, t2, t3, t4, t5⟩ now)
          have hFB := Lib.hid (And.intro hLK (And.intro hF0 hB0))
          clear hLK hF0 hB0 hL'
          go_wp2_with fail
          refine hadd.out.mono ?_
          rintro e w4 ⟨rfl, hT⟩
          have hL4 := Lib.hid (LiveK.turn hFB.out.1 hFB.out.2.1 hFB.out.2.2 hT).1
          clear hT hadd hFB
          go_wp2
          go_roundw
          case rel => exact ⟨k + 1, by omega, by go_num, by rw [hsucc.out]; exact hL4.out⟩
          case measure => simp [intOf]; omega
        · have hk2 : k = l.length := by omega
          subst hk2
          have hnl : ¬ (l.length < l.length) := by omega
          rw [List.take_length] at hL
          have hr := Lib.hid hL
          clear hA hL
          go_wp2
          go_ret2
          exact ⟨_, rfl, hr.out⟩
end Go.Proofs.Ytoiibmcbjjnpbaa.Link
namespace Go.Proofs.Ytoiibmcbjjnpbaa.Link
open Go.RowKit Mem Tick Cargo Toxic Stage Chain
set_option maxRecDepth 100000
set_option linter.unusedVariables false
set_option linter.unusedSimpArgs false
def opBytes (x : Op) : Nat := x.s.size + x.t.name.size
def Script (w : World) (v : Value) (l : List Op) : Prop :=
  ∃ a cap, v = .slice a l.length cap ∧ l.length ≤ 9223372036854775807 ∧ (∀ x ∈ l, x.s.size ≤ 140737488351232 ∧ x.t.name.size ≤ 140737488351232) ∧
    (l ≠ [] → ∃ b o, a = some ⟨b, o, none⟩ ∧ ∀ j x, l[j]? = some x → w.cell? ⟨b, o + j * 10, none⟩ = some (.int .i64 x.kind) ∧ w.cell? ⟨b, o + j * 10 + 1, none⟩ = some (.int .i64 x.now) ∧ w.cell? ⟨b, o + j * 10 + 2, none⟩ = some (.int .i64 x.n) ∧ w.cell? ⟨b, o + j * 10 + 3, none⟩ = some (.string x.s) ∧ w.cell? ⟨b, o + j * 10 + 4, none⟩ = some (.string x.t.name) ∧ w.cell? ⟨b, o + j * 10 + 5, none⟩ = some (.int .i64 x.t.kind) ∧ w.cell? ⟨b, o + j * 10 + 6, none⟩ = some (.bool x.t.up) ∧ w.cell? ⟨b, o + j * 10 + 7, none⟩ = some (.int .i64 x.t.often) ∧ w.cell? ⟨b, o + j * 10 + 8, none⟩ = some (.int .i64 x.t.a) ∧ w.cell? ⟨b, o + j * 10 + 9, none⟩ = some (.int .i64 x.t.b))
def bytesOf : List Op → Nat
  | [] => 0
  | x :: r => opBytes x + bytesOf r
theorem bytesOf_append (a b : List Op) : bytesOf (a ++ b) = bytesOf a + bytesOf b := by induction a with | nil => simp [bytesOf] | cons p r ih => simp [bytesOf, ih]; omega
theorem bytesOf_take (l : List Op) (k : Nat) (x : Op) (h : l[k]? = some x) : bytesOf (l.take (k + 1)) = bytesOf (l.take k) + opBytes x := by
  rw [List.take_add_one, h, bytesOf_append]; simp [bytesOf]
theorem bytesOf_le (l : List Op) (k : Nat) : bytesOf (l.take k) ≤ bytesOf l := by
  have := bytesOf_append (l.take k) (l.drop k)
  rw [List.take_append_drop] at this; omega
theorem bytesOf_max (l : List Op) (h : ∀ x ∈ l, x.s.size ≤ 140737488351232 ∧ x.t.name.size ≤ 140737488351232) : bytesOf l ≤ l.length * 281474976702464 := by
  induction l with
  | nil => simp [bytesOf]
  | cons x r ih =>
    have h1 := h x (List.mem_cons_self ..)
    have h2 := ih fun y hy => h y (List.mem_cons_of_mem _ hy)
    simp only [bytesOf, List.length_cons, opBytes]; omega
theorem bytes_s (l : List Op) (k : Nat) (p : Op) (h : l[k]? = some p) : bytesOf (l.take (k + 1)) = bytesOf (l.take k) + (p.s.size + p.t.name.size) := bytesOf_take l k p h
def fewK (n : Nat) (l : List Op) : Bool := decide (n ≤ 12) && (decide (l.length ≤ 60) && decide (bytesOf l ≤ 2000))
theorem few_short (sa : Option Addr) (sn sc : Nat) (up : Bool) (seed room : Int) (v : Value) (l : List Op) (w : World) (hsn : sn ≤ 9223372036854775807) (hv : Script w v l) (hsmall : l.length ≤ 60) :
    Calls Try.prog 5 #[.agg #[.slice sa sn sc, .bool up, .int .u64 seed, .int .i64 room], v] w fun e w' => e = .returned (.bool (fewK sn l)) ∧ Below w.heap.size w w' := by
  obtain ⟨a, cap, rfl, hm, hs, hA⟩ := hv
  have hmx := bytesOf_max l hs
  have hd : decide ((l.length : Int) ≤ 60) = true := decide_eq_true (by omega)
  have hB0 := Lib.hid ((Below.refl w.heap.size w).alloc (Nat.le_refl _) (.cells #[.slice sa sn sc, .bool up, .int .u64 seed, .int .i64 room] 25))
  have hX0 := Lib.hid (Blk.new w 25 #[.slice sa sn sc, .bool up, .int .u64 seed, .int .i64 room])
  clear hs
  go_enter Try.func5, Try.ntmps5
  go_wp2
  go_loopw [5, 10] (fun nv iv wr => ∃ k : Nat, k ≤ l.length ∧ iv = .int .i64 k ∧ nv = .int .i64 (bytesOf (l.take k)) ∧ Below w.heap.size w wr ∧ Blk wr w.heap.size 25 #[.slice sa sn sc, .bool up, .int .u64 seed, .int .i64 room]) (fun _ iv _ => l.length - (intOf iv).toNat)
  case atStart => exact ⟨0, by omega, rfl, by simp [bytesOf], hB0.out, hX0.out⟩
  case round =>
    obtain ⟨k, hk, rfl, rfl, hB, hX⟩ := hrel
    by_cases hlt : k < l.length
    · obtain ⟨g, o, rfl, hc⟩ := hA (by intro h; subst h; simp at hlt)
      have hx : l[k]? = some l[k] := List.getElem?_eq_getElem hlt
      obtain ⟨d0, d1, d2, d3, d4, d5, d6, d7, d8, d9⟩ := hc k _ hx
      have hs := Lib.hid (bytes_s l k _ hx)
      have hle := bytesOf_le l (k + 1)
      rw [hs.out] at hle
      generalize l[k] = p at *
      obtain ⟨p0, p1, p2, p3, ⟨t0, t1, t2, t3, t4, t5⟩⟩ := p
      dsimp only at *
      have d0' := bcells hB d0
      have d1' := bcells hB d1
      have d2' := bcells hB d2
      have d3' := bcells hB d3
      have d4' := bcells hB d4
      have d5' := bcells hB d5
      have d6' := bcells hB d6
      have d7' := bcells hB d7
      have d8' := bcells hB d8
      have d9' := bcells hB d9
      generalize hs1 : bytesOf (l.take (k + 1)) = s1 at *
      have hs1' := Lib.hid hs1
      generalize bytesOf (l.take k) = s0 at *
      have hsz := hB.size
      have hX' := Lib.hid hX
      clear hc hx hA d0 d1 d2 d3 d4 d5 d6 d7 d8 d9 hs1 hX
      go_wp2
      go_roundw
      case rel => exact ⟨k + 1, by omega, by go_num, by rw [hs1'.out, hs.out]; go_num, hB.alloc hB.size _, hX'.out.below ((Below.refl _ _).alloc (Nat.le_refl _) _)⟩
      case measure => simp [intOf]; omega
    · have hk2 : k = l.length := by omega
      subst hk2
      have hnl : ¬ (l.length < l.length) := by omega
      rw [List.take_length]
      have c0 : wr.cell? ⟨w.heap.size, 0, none⟩ = some (.slice sa sn sc) := (hX.cell 0).trans rfl
      clear hA hX
      by_cases h12 : sn ≤ 12
      · have t12 : decide ((sn : Int) ≤ 12) = true := decide_eq_true (by omega)
        have e1 : fewK sn l = decide (bytesOf l ≤ 2000) := by unfold fewK; rw [decide_eq_true h12, decide_eq_true hsmall]; simp
        have e1' := Lib.hid e1
        clear e1
        go_wp2
        go_ret
        exact ⟨by rw [e1'.out]; simp; omega, hB⟩
      · have t12 : decide ((sn : Int) ≤ 12) = false := decide_eq_false (by omega)
        have e1 : fewK sn l = false := by unfold fewK; rw [decide_eq_false h12]; rfl
        have e1' := Lib.hid e1
        clear e1
        go_wp2
        go_ret
        exact ⟨by rw [e1'.out]; rfl, hB⟩
theorem few_long (sa : Option Addr) (sn sc : Nat) (up : Bool) (seed room : Int) (v : Value) (l : List Op) (w : World) (hsn : sn ≤ 9223372036854775807) (hv : Script w v l) (hbig : 60 < l.length) :
    Calls Try.prog 5 #[.agg #[.slice sa sn sc, .bool up, .int .u64 seed, .int .i64 room], v] w fun e w' => e = .returned (.bool false) ∧ Below w.heap.size w w' := by
  obtain ⟨a, cap, rfl, hm, hs, hA⟩ := hv
  have hd : decide ((l.length : Int) ≤ 60) = false := decide_eq_false (by omega)
  have hB0 := Lib.hid ((Below.refl w.heap.size w).alloc (Nat.le_refl _) (.cells #[.slice sa sn sc, .bool up, .int .u64 seed, .int .i64 room] 25))
  have hX0 := Lib.hid (Blk.new w 25 #[.slice sa sn sc, .bool up, .int .u64 seed, .int .i64 room])
  clear hs
  go_enter Try.func5, Try.ntmps5
  go_wp2
  go_loopw [5, 10] (fun nv iv wr => ∃ (k : Nat) (y : Int), k ≤ l.length ∧ iv = .int .i64 k ∧ nv = .int .i64 y ∧ Below w.heap.size w wr ∧ Blk wr w.heap.size 25 #[.slice sa sn sc, .bool up, .int .u64 seed, .int .i64 room]) (fun _ iv _ => l.length - (intOf iv).toNat)
  case atStart => exact ⟨0, 0, by omega, rfl, rfl, hB0.out, hX0.out⟩
  case round =>
    obtain ⟨k, y, hk, rfl, rfl, hB, hX⟩ := hrel
    by_cases hlt : k < l.length
    · obtain ⟨g, o, rfl, hc⟩ := hA (by intro h; subst h; simp at hlt)
      have hx : l[k]? = some l[k] := List.getElem?_eq_getElem hlt
      obtain ⟨d0, d1, d2, d3, d4, d5, d6, d7, d8, d9⟩ := hc k _ hx
      generalize l[k] = p at *
      obtain ⟨p0, p1, p2, p3, ⟨t0, t1, t2, t3, t4, t5⟩⟩ := p
      dsimp only at *
      have d0' := bcells hB d0
      have d1' := bcells hB d1
      have d2' := bcells hB d2
      have d3' := bcells hB d3
      have d4' := bcells hB d4
      have d5' := bcells hB d5
      have d6' := bcells hB d6
      have d7' := bcells hB d7
      have d8' := bcells hB d8
      have d9' := bcells hB d9
      have hsz := hB.size
      have hX' := Lib.hid hX
      clear hc hx hA d0 d1 d2 d3 d4 d5 d6 d7 d8 d9 hX
      go_wp2
      go_roundw
      case rel => exact ⟨k + 1, _, by omega, by go_num, rfl, hB.alloc hB.size _, hX'.out.below ((Below.refl _ _).alloc (Nat.le_refl _) _)⟩
      case measure => simp [intOf]; omega
    · have hk2 : k = l.length := by omega
      subst hk2
      have hnl : ¬ (l.length < l.length) := by omega
      have c0 : wr.cell? ⟨w.heap.size, 0, none⟩ = some (.slice sa sn sc) := (hX.cell 0).trans rfl
      clear hA hX
      by_cases h12 : sn ≤ 12
      · have t12 : decide ((sn : Int) ≤ 12) = true := decide_eq_true (by omega)
        go_wp2
        go_ret
        exact ⟨rfl, hB⟩
      · have t12 : decide ((sn : Int) ≤ 12) = false := decide_eq_false (by omega)
        go_wp2
        go_ret
        exact ⟨rfl, hB⟩
theorem few_any (sa : Option Addr) (sn sc : Nat) (up : Bool) (seed room : Int) (v : Value) (l : List Op) (w : World) (hsn : sn ≤ 9223372036854775807) (hv : Script w v l) :
    Calls Try.prog 5 #[.agg #[.slice sa sn sc, .bool up, .int .u64 seed, .int .i64 room], v] w fun e w' => e = .returned (.bool (fewK sn l)) ∧ Below w.heap.size w w' := by
  by_cases h : l.length ≤ 60
  · exact few_short sa sn sc up seed room v l w hsn hv h
  · have e : fewK sn l = false := by unfold fewK; rw [decide_eq_false h]; simp
    rw [e]
    exact few_long sa sn sc up seed room v l w hsn hv (by omega)
variable {w w' : World} {F : Nat → Prop} {b : Nat} {x : Lk}
end Go.Proofs.Ytoiibmcbjjnpbaa.Link
namespace Go.Proofs.Ytoiibmcbjjnpbaa.Link
open Go.RowKit Mem Tick Cargo Toxic Stage Chain
set_option maxRecDepth 100000
set_option linter.unusedVariables false
set_option linter.unusedSimpArgs false
variable {w wr w2 w1 : World} {F : Nat → Prop} {b : Nat} {x y : Lk} {M Q : Int}
theorem live_counts (h : LiveK w wr b x) (ho : OkK x M Q) (hM : M ≤ 1000000000) :
    Calls Try.prog 15 #[ptr b] wr fun e w2 => e = .returned (countsV x) ∧ LiveK w w2 b x ∧ Below wr.heap.size wr w2 := by
  have h' := h
  obtain ⟨F, hC, _⟩ := h
  exact (kCounts_any hC ho hM).mono fun e w2 ⟨he, hb⟩ => ⟨he, h'.below hb, hb⟩
theorem live_done (h : LiveK w wr b x) :
    Calls Try.prog 14 #[ptr b] wr fun e w2 => e = .returned (.bool x.done) ∧ wr = w2 := by
  obtain ⟨F, hC, _⟩ := h
  exact kDone_any hC
theorem off_later {A : Option Addr} {s : ByteArray} {F' : Nat → Prop} (hb : BS w A s) (hp : 0 < s.size) (ho : BS.Off A F) (hs : Stem F F' w) : BS.Off A F' := fun g o e hg => by
  rcases hs g hg with q | q
  · exact ho g o e q
  · exact absurd (bs_lt hb hp e) (Nat.not_lt.2 q)
/-! alive -/
def K0 : Lk := link0 true 7 9 0
def K1 : Lk := sendK K0 0 sAB
def K2 : Lk := finishK K1 0
def K3 : Lk := stepK K2 0 1
def K4 : Lk := stepK K3 0 9
def K5 : Lk := stepK K4 0 9
theorem al1 : putCN K0.c 0 sAB = 2 := by kernel_rfl
theorem al2 : stepB K2 0 1 = ⟨#[97]⟩ ∧ stepE K2 0 1 = 0 := by constructor <;> kernel_rfl
theorem al3 : stepB K3 0 9 = ⟨#[98]⟩ ∧ stepE K3 0 9 = 1 := by constructor <;> kernel_rfl
theorem al4 : (stepB K4 0 9).size = 0 ∧ stepE K4 0 9 = 0 := by constructor <;> kernel_rfl
theorem al5 : K5.done = true ∧ K5.sent = 2 ∧ K5.got = 2 ∧ heldL K5.c.l = 0 ∧ K5.c.lost = 0 := by refine ⟨?_, ?_, ?_, ?_, ?_⟩ <;> kernel_rfl
theorem al6 : K0.sent = 0 ∧ K2.got = 0 ∧ K3.got = 1 ∧ K4.got = 2 := by refine ⟨?_, ?_, ?_, ?_⟩ <;> kernel_rfl
theorem ok0 : OkK K0 0 0 := ok_link0 true 7 9 0 (by decide) (by decide) (by decide)
theorem ok1 : OkK K1 2 0 := (ok0.send 0 sAB).more (by decide) (by decide)
theorem ok2 : OkK K2 2 0 := ⟨ok_close ok1.c 0, by show K1.names.length + 2 = (closeC K1.c 0).l.length; rw [close_len]; exact ok1.n, ok1.d0, ok1.d1, ok1.s0, ok1.s1, ok1.g0, ok1.t0⟩
theorem ok3 : OkK K3 2 60 := (ok2.step 0 1).more (by decide) (by decide)
theorem ok4 : OkK K4 2 120 := (ok3.step 0 9).more (by decide) (by decide)
theorem ok5 : OkK K5 2 180 := (ok4.step 0 9).more (by decide) (by decide)
theorem toxs_nil (w : World) : Toxs w (.slice none 0 0) [] := ⟨none, 0, rfl, by decide, Nat.le_refl _, fun h => absurd rfl h⟩
set_option maxHeartbeats 1000000 in
theorem alive_any (w : World) : Calls Try.prog 6 #[] w fun e w' => e = .returned (.bool true) ∧ Below w.heap.size w w' := by
  have hn := Lib.hid (new_ok (.slice none 0 0) [] true 7 9 0 w (toxs_nil w) (by decide) (by decide) rfl rfl (by decide) (by decide))
  go_enter Try.func6, Try.ntmps6
  go_wp2_with fail
  refine hn.out.mono ?_
  rintro e w0 ⟨b, rfl, F0, hL, hF, hB⟩
  have HL := Lib.hid (show LK w0 F0 b K0 from hL)
  have HF := Lib.hid (And.intro hF hB)
  clear hn hL hF hB
  have k1 := Lib.run_convert_bytes_const (P := Try.prog) w0 36 5 #[.int .u8 97, .int .u8 98] 2 2 Try.underlying36 Try.underlying5
  go_wp2_with fail
  refine (kSend_any (HL.out.below ((Below.refl w0.heap.size w0).alloc (Nat.le_refl _) _)) ok0 0 _ 2 sAB (by decide) (sAB_of w0) (fun g o e hg => by injection e with e; injection e with e; have := HL.out.lt hg; omega) (by decide) (by rw [al6.1]; decide)).mono ?_
  rintro e w1 ⟨rfl, F1, hL1, hD1, hS1⟩
  rw [al1]
  have HL1 := Lib.hid (show LK w1 F1 b K1 from hL1)
  have hD1' := Lib.hid (show Did F0 w0 w1 from ((Did.refl F0 w0).alloc _).trans (Stem.refl _ _) hD1)
  have hS1' := Lib.hid (show Stem F0 F1 w0 from fun j hj => (hS1 j hj).imp id (fun e => by have := (Below.heap_alloc w0); simp at e; omega))
  clear k1 hL1 hD1 hS1 HL
  go_wp2_with fail
  refine (kFinish_any HL1.out ok1 0).mono ?_
  rintro e w2 ⟨rfl, F2, hL2, hD2, hS2⟩
  have HL2 := Lib.hid (show LK w2 F2 b K2 from hL2)
  have hD2' := Lib.hid (hD1'.out.trans hS1'.out hD2)
  have hS2' := Lib.hid (hS1'.out.trans hD1'.out.size hS2)
  clear hL2 hD2 hS2 HL1 hD1' hS1'
  go_wp2_with fail
  refine (kStep_any HL2.out ok2 (by decide) (by decide) (by rw [al6.2.1]; decide) 0 1).mono ?_
  rintro e w3 ⟨A3, c3, F3, rfl, hb3, hn3, hL3, hD3, hS3, ho3⟩
  rw [al2.1] at hb3 ho3 ⊢
  rw [al2.2]
  have HL3 := Lib.hid (show LK w3 F3 b K3 from hL3)
  have hD3' := Lib.hid (hD2'.out.trans hS2'.out hD3)
  have hS3' := Lib.hid (hS2'.out.trans hD2'.out.size hS3)
  have HB3 := Lib.hid (And.intro hb3 (ho3 (by decide)))
  clear hL3 hD3 hS3 HL2 hD2' hS2' hb3 ho3 hn3
  go_wp2_with fail
  refine (kStep_any HL3.out ok3 (by decide) (by decide) (by rw [al6.2.2.1]; decide) 0 9).mono ?_
  rintro e w4 ⟨A4, c4, F4, rfl, hb4, hn4, hL4, hD4, hS4, ho4⟩
  rw [al3.1] at hb4 ho4 ⊢
  rw [al3.2]
  have HL4 := Lib.hid (show LK w4 F4 b K4 from hL4)
  have hD4' := Lib.hid (hD3'.out.trans hS3'.out hD4)
  have hS4' := Lib.hid (hS3'.out.trans hD3'.out.size hS4)
  have HB4 := Lib.hid (And.intro hb4 (ho4 (by decide)))
  have HB34 := Lib.hid (And.intro (BS_did HB3.out.1 HB3.out.2 hD4) (off_later HB3.out.1 (by decide) HB3.out.2 hS4))
  clear hL4 hD4 hS4 HL3 hD3' hS3' hb4 ho4 hn4 HB3
  go_wp2_with fail
  refine (kStep_any HL4.out ok4 (by decide) (by decide) (by rw [al6.2.2.2]; decide) 0 9).mono ?_
  rintro e w5 ⟨A5, c5, F5, rfl, -, -, hL5, hD5, hS5, -⟩
  rw [al4.1, al4.2]
  have HL5 := Lib.hid (show LiveK w w5 b K5 from ⟨F5, hL5, fun j hj => (hS4'.out.trans hD4'.out.size hS5 j hj).elim (HF.out.1 j) (fun e => Nat.le_trans HF.out.2.size e), HF.out.2.trans ((hD4'.out.trans hS4'.out hD5).below HF.out.2.size HF.out.1)⟩)
  have hcv3 : (convert 36 9 (.slice A3 1 c3)).run Try.prog w5 = .ok (.string ⟨#[97]⟩) w5 := conv_bytes c3 (BS_did HB34.out.1 HB34.out.2 hD5)
  have hcv4 : (convert 36 9 (.slice A4 1 c4)).run Try.prog w5 = .ok (.string ⟨#[98]⟩) w5 := conv_bytes c4 (BS_did HB4.out.1 HB4.out.2 hD5)
  have l1 : K5.done = true := al5.1
  have l2 : countsV K5 = .agg #[.int .i64 2, .int .i64 2, .int .i64 0, .int .i64 0] := by unfold countsV; rw [al5.2.1, al5.2.2.1, al5.2.2.2.1, al5.2.2.2.2]; rfl
  clear hL5 hD5 hS5 HL4 hD4' hS4' HB4 HB34
  go_wp2_with (first
    | (go_at_call 14; (with_reducible refine (live_done HL5.out).mono ?_); rintro e w6 ⟨rfl, rfl⟩; rw [l1])
    | (go_at_call 15; (with_reducible refine (live_counts HL5.out ok5 (by decide)).mono ?_); rintro e w7 ⟨rfl, hL, -⟩; rw [l2]; have H7 := Lib.hid hL; clear hL))
  go_ret
  exact ⟨by simp, H7.out.old⟩
end Go.Proofs.Ytoiibmcbjjnpbaa.Link
namespace Go.Proofs.Ytoiibmcbjjnpbaa.Link
open Go.RowKit Mem Tick Cargo Toxic Stage Chain
set_option maxRecDepth 100000
set_option linter.unusedVariables false
set_option linter.unusedSimpArgs false
def FreshN (w w' : World) (v : Value) (l : List ByteArray) : Prop := NV w' v l ∧ (∀ k, v.ownBlock = some k → w.heap.size ≤ k) ∧ Below w.heap.size w w'
theorem cloneS_none {w : World} {c : Nat} :
    Calls Try.prog 24 #[.slice none 0 c] w fun e w' => e = .returned (.slice none 0 0) ∧ w = w' := by
  have he := fun W => Lib.run_eql_slice_nil (P := Try.prog) W 41 9 none 0 c 0 0 Try.underlying41
  go_enter Try.func24, Try.ntmps24
  go_wp2
  go_ret
  exact ⟨rfl, rfl⟩
theorem cloneS_zero {w : World} {a : Addr} {c : Nat} :
    Calls Try.prog 24 #[.slice (some a) 0 c] w fun e w' => e = .returned (.slice (some ⟨w.heap.size, 0, none⟩) 0 0) ∧ w.alloc (.cells #[] 9) = w' := by
  have he := fun W => Lib.run_eql_slice_nil (P := Try.prog) W 41 9 (some a) 0 c 0 0 Try.underlying41
  go_enter Try.func24, Try.ntmps24
  go_wp2
  go_ret
  exact ⟨rfl, rfl⟩
theorem heap_new' (w : World) (cs : Array Value) (t : TypeId) : (w.alloc (.cells cs t)).heap[w.heap.size]? = some (.cells cs t) := Blk.new w t cs
theorem cloneS_some {w : World} {g c n : Nat} {l : List ByteArray} (hn : l.length = n) (h0 : 0 < n) (h : ∀ j u, (l.map Value.string)[j]? = some u → w.cell? ⟨g, j, none⟩ = some u) (hn' : n ≤ 1000) :
    Calls Try.prog 24 #[.slice (some ⟨g, 0, none⟩) n c] w fun e w' => ∃ v, e = .returned v ∧ FreshN w w' v l := by
  have H := Lib.hid h
  have hN := Lib.hid hn
  clear h hn
  have he := fun W => Lib.run_eql_slice_nil (P := Try.prog) W 41 9 (some ⟨g, 0, none⟩) n c 0 0 Try.underlying41
  obtain ⟨i0, hi, hz0, hz1, hz2⟩ := info_parts info_st
  have hq0 : (w.alloc (.cells #[] 9)).ownsRow w.heap.size 9 1 (.slice (some ⟨w.heap.size, 0, none⟩) 0 0) 0 [] := ⟨rfl, .inr ⟨w.heap.size, 0, #[], rfl, Nat.le_refl _, heap_new' w _ _, Nat.le_refl _, Nat.zero_le _, rfl, rfl⟩⟩
  have hq1 := Lib.hid hq0
  clear hq0
  go_enter Try.func24, Try.ntmps24
  have hcl : ∀ j u, (l.map Value.string)[j]? = some u → (w.alloc (.cells #[] 9)).cell? ((⟨g, 0, none⟩ : Addr).add j) = some u := fun j u hu => by
    have z := H.out j u hu
    have e : ((⟨g, 0, none⟩ : Addr).add j) = ⟨g, j, none⟩ := by unfold Addr.add; split <;> simp_all
    rw [e]
    exact (World.cell?_of_block (Below.heap_alloc _ _ _ (World.block_lt_of_cell? w _ z))).trans z
  have hHc := Lib.hid hcl
  clear hcl
  go_wp2_with (at_builtin; refine wpList_append_own_at _ rfl (.tmp 5) (.tmp 6) 41 rfl w.heap.size 9 i0 (.string ⟨#[]⟩) 1 16 Try.underlying41 hi hz0 hz1 hz2 rfl (by decide) _ 0 [] rfl hq1.out ⟨g, 0, none⟩ n c (l.map Value.string) rfl (by rw [List.length_map, hN.out, Nat.mul_one]) hHc.out (fun u hu => by obtain ⟨s, _, rfl⟩ := List.mem_map.1 hu; rfl) (by unfold maxLen; omega) (by omega) (by simp) ?_; intro v1 w1 hq hg hnn hat)
  go_ret
  refine ⟨_, rfl, ?_, ?_, ?_⟩
  · refine NV.of_owns (base := w.heap.size) ?_
    rw [hN.out]
    simpa using hq
  · intro k hk
    exact (hq.lt k hk).1
  · exact ((Below.refl w.heap.size w).alloc (Nat.le_refl _) _).grown hg (by simp) fun j c => (hq1.out.lt j c).1
theorem clone_str {w : World} {v : Value} {l : List ByteArray} (h : NV w v l) (hn : l.length ≤ 1000) :
    Calls Try.prog 24 #[v] w fun e w' => ∃ v', e = .returned v' ∧ FreshN w w' v' l := by
  rcases h with ⟨rfl, rfl⟩ | ⟨g, cap, rfl, ⟨rest, hb, hl⟩, hc⟩
  · exact cloneS_none.mono fun e w' ⟨he, hw⟩ => ⟨_, he, hw ▸ ⟨.inl ⟨rfl, rfl⟩, fun k hk => by simp [Value.ownBlock] at hk, Below.refl _ _⟩⟩
  by_cases h0 : 0 < l.length
  · refine cloneS_some rfl h0 (fun j u hu => ?_) hn
    refine (hb.cell j).trans ?_
    rw [List.getElem?_toArray, List.getElem?_append_left (List.getElem?_eq_some_iff.1 hu).1, hu]
  · have hp : l = [] := List.eq_nil_of_length_eq_zero (by omega)
    subst hp
    refine cloneS_zero.mono fun e w' ⟨he, hw⟩ => ⟨_, he, ?_⟩
    subst hw
    refine ⟨.inr ⟨w.heap.size, 0, rfl, ⟨[], Blk.new w 9 #[], rfl⟩, by decide⟩, fun k hk => ?_, (Below.refl _ _).alloc (Nat.le_refl _) _⟩
    have : w.heap.size = k := by simpa [Value.ownBlock] using hk
    omega
theorem kNames_any {w : World} {F : Nat → Prop} {b : Nat} {x : Lk} (h : LK w F b x) (hn : x.names.length ≤ 1000) :
    Calls Try.prog 12 #[ptr b] w fun e w' => ∃ v', e = .returned v' ∧ FreshN w w' v' x.names := by
  obtain ⟨G, c, D, v, h⟩ := h
  have c1 : w.cell? ⟨b, 1, none⟩ = some v := (h.cell 1).trans rfl
  have hC := Lib.hid (clone_str h.2.2.2.1 hn)
  clear h
  go_enter Try.func12, Try.ntmps12
  go_wp2_with fail
  refine hC.out.mono ?_
  rintro e w1 ⟨v', rfl, hF⟩
  have hF' := Lib.hid hF
  clear hF
  go_wp2
  go_ret
  exact ⟨v', rfl, hF'.out⟩
end Go.Proofs.Ytoiibmcbjjnpbaa.Link
namespace Go.Proofs.Ytoiibmcbjjnpbaa.Link
open Go.RowKit Mem Tick Cargo Toxic Stage Chain
set_option linter.unusedVariables false
set_option linter.unusedSimpArgs false
def EndZ (x : Ch) : Prop := x.state ≠ 0 → x.state = 2 ∨ ∃ a, x.l[x.l.length - 1]? = some a ∧ a.s.state ≠ 0
theorem look_stays {s : Sg} (n : Int) (h : s.state ≠ 0) : (lookP s n).state ≠ 0 := by
  rcases look_cases s n with e | ⟨e, _⟩
  · rw [e]; exact h
  · exact absurd e h
theorem ins_state (c : Ch) (at_ : Int) (t : Tox) (seed now : Int) : (insC c at_ t seed now).state = c.state := by
  unfold insC; repeat' split
  all_goals rfl
theorem rem_state (c : Ch) (at_ now : Int) : (remC c at_ now).state = c.state := by
  unfold remC remAt; repeat' split
  all_goals rfl
theorem upd_state (c : Ch) (at_ : Int) (t : Tox) (now : Int) : (updC c at_ t now).state = c.state := by
  unfold updC; repeat' split
  all_goals rfl
theorem put_state (c : Ch) (n : Int) (b : ByteArray) : (putC c n b).state = c.state := by
  unfold putC; repeat' split
  all_goals rfl
theorem close_state (c : Ch) (n : Int) : (closeC c n).state = c.state := by
  unfold closeC; repeat' split
  all_goals rfl
theorem take_state (c : Ch) (n m : Int) : (takeC c n m).state = c.state := by
  unfold takeC; repeat' split
  all_goals rfl
variable {c : Ch}
theorem EndZ.put (h : EndZ c) (n : Int) (b : ByteArray) : EndZ (putC c n b) := by
  by_cases hs : c.state = 0
  · intro h2
    have e : (putC c n b).state = c.state := put_state c n b
    rw [e] at h2
    exact absurd hs h2
  · have e : putC c n b = c := by unfold putC; rw [if_pos (.inr hs)]
    rw [e]; exact h
theorem EndZ.close (h : EndZ c) (n : Int) : EndZ (closeC c n) := by
  by_cases hs : c.state = 0
  · intro h2
    have e : (closeC c n).state = c.state := close_state c n
    rw [e] at h2
    exact absurd hs h2
  · have e : closeC c n = c := by unfold closeC; rw [if_neg hs]
    rw [e]; exact h
theorem EndZ.brk (h : EndZ c) : EndZ (breakC c) := by
  unfold breakC
  split
  · exact h
  · exact fun _ => .inl rfl
theorem EndZ.step (h : EndZ c) (n : Int) : EndZ (stepC n c) := by
  by_cases hs : c.state = 0
  · intro h2
    rcases state_step n c hs with ⟨h3, _⟩ | ⟨x1, a, ha, he, hst, _, _⟩ | ⟨h3, _⟩
    · exact .inl h3
    · right
      rw [hst] at h2
      refine ⟨lookA n a, ?_, h2⟩
      rw [he]
      unfold lastC
      rw [ha]
      show (x1.l.set (x1.l.length - 1) (lookA n a))[(x1.l.set (x1.l.length - 1) (lookA n a)).length - 1]? = _
      rw [List.length_set, List.getElem?_set_self (List.getElem?_eq_some_iff.1 ha).1]
    · exact absurd h3 h2
  · have e : stepC n c = c := by unfold stepC; rw [if_pos hs]
    rw [e]; exact h
theorem EndZ.take (h : EndZ c) (n m : Int) : EndZ (takeC c n m) := by
  unfold takeC
  split
  · exact h
  split
  · rename_i a ha
    intro h2
    rcases h h2 with e | ⟨a', ha', hs⟩
    · exact .inl e
    · right
      obtain rfl : a = a' := by rw [ha] at ha'; injection ha'
      refine ⟨⟨takeS a.s n m, a.cl⟩, ?_, ?_⟩
      · show (c.l.set (c.l.length - 1) _)[(c.l.set (c.l.length - 1) _).length - 1]? = _
        rw [List.length_set, List.getElem?_set_self (List.getElem?_eq_some_iff.1 ha).1]
      · show (takeS a.s n m).state ≠ 0
        rw [(take_st _ _ _).2.2.1]
        exact look_stays n hs
  · exact h
theorem EndZ.ins (h : EndZ c) (at_ : Int) (t : Tox) (seed now : Int) : EndZ (insC c at_ t seed now) := by
  unfold insC
  split
  · exact h
  split
  · rename_i b hb
    have hi := (List.getElem?_eq_some_iff.1 hb).1
    intro h2
    rcases h h2 with e | ⟨a, ha, hs⟩
    · exact .inl e
    · right
      refine ⟨a, ?_, hs⟩
      have hl : (c.l.take (at_.toNat + 1)).length = at_.toNat + 1 := by rw [List.length_take]; omega
      show (c.l.take (at_.toNat + 1) ++ _ :: c.l.drop (at_.toNat + 1))[(c.l.take (at_.toNat + 1) ++ _ :: c.l.drop (at_.toNat + 1)).length - 1]? = _
      rw [List.length_append, List.length_cons, List.length_drop, hl, List.getElem?_append_right (by omega), hl, show at_.toNat + 1 + (c.l.length - (at_.toNat + 1) + 1) - 1 - (at_.toNat + 1) = (c.l.length - 1 - (at_.toNat + 1)) + 1 from by omega, List.getElem?_cons_succ, List.getElem?_drop, show at_.toNat + 1 + (c.l.length - 1 - (at_.toNat + 1)) = c.l.length - 1 from by omega]
      exact ha
  · exact h
theorem drain_st (a : Pa) : (drainA a).s.state = a.s.state := by
  show (drainP a.s).state = a.s.state
  unfold drainP
  first | rfl | (split <;> rfl)
theorem lose_st (n : Nat) (l : List Pa) (j : Nat) (a : Pa) (h : l[j]? = some a) : ∃ a', (loseL n l)[j]? = some a' ∧ a'.s.state = a.s.state := by
  by_cases hj : j < n
  · have hl := (List.getElem?_eq_some_iff.1 h).1
    refine ⟨drainA a, ?_, drain_st a⟩
    unfold loseL
    rw [List.getElem?_append_left (by rw [List.length_map, List.length_take]; omega), List.getElem?_map, List.getElem?_take, if_pos hj, h]
    rfl
  · exact ⟨a, (lose_get (by omega)).trans h, rfl⟩
theorem EndZ.rem (h : EndZ c) (at_ now : Int) : EndZ (remC c at_ now) := by
  unfold remC
  split
  · rename_i hb
    have hb' : 0 ≤ at_ ∧ at_ < (c.l.length : Int) - 2 := by simpa [isB] using hb
    generalize hi : at_.toNat + 1 = i
    have hi2 : i + 1 < c.l.length := by omega
    unfold remAt
    split
    · rename_i p q hp hq
      intro h2
      rcases h h2 with e | ⟨a, ha, hs⟩
      · exact .inl e
      · right
        dsimp only
        generalize hG : (held p.s : Int) - ((held (forceP q.s now (cat p.s.c.1)) : Int) - held q.s) = G
        have key : ∀ (L : List Pa) (b : Pa), L.length = c.l.length → (∃ a1, L[c.l.length - 1]? = some a1 ∧ a1.s.state ≠ 0) → (i + 1 = c.l.length - 1 → b.s.state ≠ 0) → ∃ a1, ((L.set (i + 1) b).eraseIdx i)[((L.set (i + 1) b).eraseIdx i).length - 1]? = some a1 ∧ a1.s.state ≠ 0 := by
          intro L b hL ⟨a1, h1, h1s⟩ hbs
          have hlen : ((L.set (i + 1) b).eraseIdx i).length = c.l.length - 1 := by rw [List.length_eraseIdx, List.length_set, if_pos (by omega), hL]
          rw [hlen, List.getElem?_eraseIdx_of_ge (by omega), show c.l.length - 1 - 1 + 1 = c.l.length - 1 from by omega]
          by_cases hq1 : i + 1 = c.l.length - 1
          · exact ⟨b, by rw [hq1]; exact List.getElem?_set_self (by omega), hbs hq1⟩
          · exact ⟨a1, by rw [List.getElem?_set_ne hq1]; exact h1, h1s⟩
        have hfs : i + 1 = c.l.length - 1 → (forceP q.s now (cat p.s.c.1)).state ≠ 0 := fun e => by
          rw [e, ha] at hq
          injection hq with hq
          rw [(force_st _ _ _).2.2.1, ← hq]
          exact look_stays now hs
        have h1 : ∃ a1, ((c.l.set i (drainA p)).set (i + 1) ⟨forceP q.s now (cat p.s.c.1), q.cl⟩)[c.l.length - 1]? = some a1 ∧ a1.s.state ≠ 0 := by
          by_cases hq1 : i + 1 = c.l.length - 1
          · exact ⟨_, by rw [← hq1, List.getElem?_set_self (by rw [List.length_set]; omega)], hfs hq1⟩
          · exact ⟨a, by rw [List.getElem?_set_ne hq1, List.getElem?_set_ne (by omega)]; exact ha, hs⟩
        refine key _ _ ?_ ?_ ?_
        · split
          · rw [loseL_length, List.length_set, List.length_set]
          · rw [List.length_set, List.length_set]
        · split
          · obtain ⟨a1, g1, g2⟩ := h1
            obtain ⟨a2, g3, g4⟩ := lose_st i _ _ _ g1
            exact ⟨a2, g3, by rw [g4]; exact g2⟩
          · exact h1
        · intro e
          split
          · show (closeP (forceP q.s now (cat p.s.c.1)) now).state ≠ 0
            rw [(close_st _ _).2.2.1]
            exact hfs e
          · exact hfs e
    · exact h
  · exact h
theorem EndZ.upd (h : EndZ c) (at_ : Int) (t : Tox) (now : Int) : EndZ (updC c at_ t now) := by
  unfold updC
  split
  · rename_i hb
    have hb' : 0 ≤ at_ ∧ at_ < (c.l.length : Int) - 2 := by simpa [isB] using hb
    split
    · intro h2
      rcases h h2 with e | ⟨a, ha, hs⟩
      · exact .inl e
      · right
        refine ⟨a, ?_, hs⟩
        show (c.l.set (at_.toNat + 1) _)[(c.l.set (at_.toNat + 1) _).length - 1]? = _
        rw [List.length_set, List.getElem?_set_ne (by omega)]
        exact ha
    · exact h
  · exact h
theorem EndZ.none (h : EndZ c) (hs : c.state ≠ 0) (n m : Int) : takeCB c n m = ⟨#[]⟩ := by
  unfold takeCB
  rcases h hs with e | ⟨a, ha, h1⟩
  · rw [if_pos e]
  · split
    · rfl
    · rw [ha]
      show takeB a.s n m = _
      unfold takeB
      rw [if_pos (.inl (look_stays n h1))]
structure OnceI (x : Lk) : Prop where
  z : EndZ x.c
  d : x.done = true → x.c.state ≠ 0
variable {x : Lk}
theorem step_stays (c : Ch) (n : Int) (h : c.state ≠ 0) : stepC n c = c := by unfold stepC; rw [if_pos h]
theorem break_stays (c : Ch) (h : c.state ≠ 0) : (breakC c).state ≠ 0 := by
  unfold breakC
  split
  · exact h
  · show (2 : Int) ≠ 0; decide
theorem stepX_stays (x : Lk) (n m : Int) (h : x.c.state ≠ 0) : (stepX x n m).state ≠ 0 := by
  unfold stepX
  rw [step_stays _ n h, step_stays _ n (by rw [take_state]; exact h), take_state]
  exact h
theorem OnceI.add (h : OnceI x) (t : Tox) (now : Int) : OnceI (addK x t now) := by
  unfold addK
  split
  · exact ⟨h.z.ins _ _ _ _, fun e => by show (insC _ _ _ _ _).state ≠ 0; rw [ins_state]; exact h.d e⟩
  · exact h
theorem OnceI.does (h : OnceI x) (o : Op) : OnceI (doesK x o) := by
  unfold doesK
  split
  · exact ⟨h.z.put _ _, fun e => by show (putC _ _ _).state ≠ 0; rw [put_state]; exact h.d e⟩
  split
  · exact ⟨h.z.close _, fun e => by show (closeC _ _).state ≠ 0; rw [close_state]; exact h.d e⟩
  split
  · exact ⟨h.z.brk, fun e => break_stays _ (h.d e)⟩
  split
  · refine ⟨((h.z.step _).take _ _).step _, fun e => ?_⟩
    show (stepX x o.now o.n).state ≠ 0
    cases hd : x.done with
    | true => exact stepX_stays _ _ _ (h.d hd)
    | false =>
      have e2 : (x.done || tellB x o.now o.n) = true := e
      rw [hd, Bool.false_or] at e2
      unfold tellB at e2
      simpa [hd] using e2
  split
  · exact h.add _ _
  split
  · unfold dropK
    split
    · exact ⟨h.z.rem _ _, fun e => by show (remC _ _ _).state ≠ 0; rw [rem_state]; exact h.d e⟩
    · exact h
  split
  · unfold chgK
    split
    · exact ⟨h.z.upd _ _ _, fun e => by show (updC _ _ _ _).state ≠ 0; rw [upd_state]; exact h.d e⟩
    · exact h
  · exact h
end Go.Proofs.Ytoiibmcbjjnpbaa.Link
namespace Go.Proofs.Ytoiibmcbjjnpbaa.Link
open Go.RowKit Mem Tick Cargo Toxic Stage Chain
set_option maxRecDepth 100000
set_option linter.unusedVariables false
set_option linter.unusedSimpArgs false
def Seats (w : World) (v : Value) (L : List Tox) (up : Bool) (seed room : Int) : Prop :=
  ∃ sa sc, v = .agg #[.slice sa L.length sc, .bool up, .int .u64 seed, .int .i64 room] ∧ Toxs w (.slice sa L.length sc) L ∧ 0 ≤ seed ∧ seed < 18446744073709551616
theorem live_new {w wr : World} {sa : Option Addr} {sc : Nat} {L : List Tox} (up : Bool) (seed room now : Int) (hv : Toxs w (.slice sa L.length sc) L) (h : linkE L room = 0) (h0 : 0 ≤ seed) (h1 : seed < 18446744073709551616) (hB : Below w.heap.size w wr) :
    Calls Try.prog 7 #[.slice sa L.length sc, .bool up, .int .u64 seed, .int .i64 room, .int .i64 now] wr fun e w' => ∃ b, e = .returned (.tuple #[ptr b, .int .i64 0]) ∧ LiveK w w' b (linkN L up seed room now) := by
  unfold linkE at h
  split at h
  · exact absurd h (by decide)
  rename_i h2
  split at h
  · rename_i h3; exact absurd h h3
  rename_i h3
  split at h
  · exact absurd h (by decide)
  rename_i h4
  have hr : roomOk room = true := by cases e : roomOk room with | true => rfl | false => exact absurd (.inl e) h2
  refine (new_ok _ L up seed room now wr (hv.below hB) hr (by omega) (by simpa using h3) (by simpa using h4) h0 h1).mono ?_
  rintro e w1 ⟨b, rfl, F, hL, hF, hB1⟩
  exact ⟨b, rfl, F, hL, fun j hj => Nat.le_trans hB.size (hF j hj), bw_below hB hB1⟩
theorem bad_new {wr : World} {v : Value} {L : List Tox} (up : Bool) (seed room now : Int) (hv : Toxs wr v L) (h : linkE L room ≠ 0) :
    Calls Try.prog 7 #[v, .bool up, .int .u64 seed, .int .i64 room, .int .i64 now] wr fun e w' => e = .returned (.tuple #[.pointer none, .int .i64 (linkE L room)]) ∧ Below wr.heap.size wr w' := by
  unfold linkE at h ⊢
  cases hr : roomOk room with
  | false => rw [if_pos (.inl rfl)]; exact new_bad v L up seed room now wr hv hr
  | true =>
    by_cases hl : 8 < L.length
    · rw [if_pos (.inr hl)]; exact new_long v L up seed room now wr hv hr hl
    have e1 : ¬ ((true = false) ∨ 8 < L.length) := by rintro (e | e); cases e; exact hl e
    rw [hr, if_neg e1] at h
    rw [if_neg e1]
    by_cases hf : firstE L = 0
    · rw [if_neg (by simpa using hf)] at h ⊢
      cases hd : dblB L with
      | true => rw [if_pos rfl]; exact new_dbl v L up seed room now wr hv hr (by omega) hf hd
      | false => rw [hd] at h; exact absurd rfl h
    · rw [if_pos hf]; exact new_chk v L up seed room now wr hv hr (by omega) hf
structure OkJ (x : Lk) (l : List Op) (k : Nat) : Prop where
  ok : OkK x (bytesOf (l.take k)) (60000 * k)
  dr : x.drawn ≤ 8 + k
theorem okJ_linkN (L : List Tox) (up : Bool) (seed room now : Int) (h : linkE L room = 0) (h0 : 0 ≤ seed) (h1 : seed < 18446744073709551616) (l : List Op) : OkJ (linkN L up seed room now) l 0 := by
  unfold linkE at h
  split at h
  · exact absurd h (by decide)
  rename_i h2
  have hr : roomOk room = true := by cases e : roomOk room with | true => rfl | false => exact absurd (.inl e) h2
  have := ok_linkN L up seed room now hr h0 h1 (by omega)
  exact ⟨this.1.more (by simp [bytesOf]) (by omega), by have := this.2; omega⟩
end Go.Proofs.Ytoiibmcbjjnpbaa.Link
namespace Go.Proofs.Ytoiibmcbjjnpbaa.Link
open Go.RowKit Mem Tick Cargo Toxic Stage Chain
set_option linter.unusedVariables false
set_option linter.unusedSimpArgs false
def ofWay (L : List Tox) (up : Bool) : List Tox := L.filter fun t => t.up == up
theorem ofWay_snoc (L : List Tox) (t : Tox) (up : Bool) : ofWay (L ++ [t]) up = if t.up = up then ofWay L up ++ [t] else ofWay L up := by
  unfold ofWay
  rw [List.filter_append]
  by_cases h : t.up = up
  · rw [if_pos h]; simp [h]
  · rw [if_neg h]; simp [h]
def DrR (t d : Tox) : Prop := (d = t ∨ d = noTox) ∧ (t.often = 100 → d = t) ∧ (t.often = 0 → d = noTox)
def DrL (l d : List Tox) : Prop := d.length = l.length ∧ ∀ (i : Nat) (t u : Tox), l[i]? = some t → d[i]? = some u → DrR t u
theorem DrL.snoc {l d : List Tox} (h : DrL l d) {t u : Tox} (hr : DrR t u) : DrL (l ++ [t]) (d ++ [u]) := by
  refine ⟨by simp [h.1], fun i t' u' h1 h2 => ?_⟩
  by_cases hi : i < l.length
  · rw [List.getElem?_append_left hi] at h1
    rw [List.getElem?_append_left (by rw [h.1]; exact hi)] at h2
    exact h.2 i t' u' h1 h2
  · rw [List.getElem?_append_right (by omega)] at h1
    rw [List.getElem?_append_right (by rw [h.1]; omega), h.1] at h2
    have : i - l.length = 0 := Decidable.byContradiction fun e => by
      rw [List.getElem?_eq_none (by simp; omega)] at h1; cases h1
    rw [this] at h1 h2
    simp at h1 h2
    subst h1 h2
    exact hr
theorem draw_drr (x : Lk) (t : Tox) : DrR t (drawK x t) := by
  have hb := Ref02.hiI_bd (dieK x) 100 (by decide)
  unfold drawK
  split
  · rename_i h
    exact ⟨.inl rfl, fun _ => rfl, fun e => by omega⟩
  · rename_i h
    exact ⟨.inr rfl, fun e => by omega, fun _ => rfl⟩
def fresh (room now : Int) (p : Tox × Int) : Pa := ⟨newS p.1 p.2 room now, false⟩
structure NewI (L : List Tox) (up : Bool) (room now : Int) (x : Lk) : Prop where
  up_ : x.up = up
  names : x.names = (ofWay L up).map fun t => t.name
  l : ∃ ds : List (Tox × Int), x.c.l = ((noTox, 0) :: ds ++ [(noTox, 0)]).map (fresh room now) ∧ DrL (ofWay L up) (ds.map fun p => p.1)
  st : x.c.state = 0
  sh : x.c.shut = false
  lost : x.c.lost = 0
  rm : x.c.room = room
  dn : x.done = false
theorem newI_0 (up : Bool) (seed room now : Int) : NewI [] up room now (link0 up seed room now) :=
  ⟨rfl, rfl, ⟨[], rfl, rfl, fun i t u h => by simp [ofWay] at h⟩, rfl, rfl, rfl, rfl, rfl⟩
theorem newE_ok {t : Tox} {room : Int} (h : passB t = true ∨ chk t = 0) (hr : roomOk room = true) : newE t room = 0 := by
  unfold newE
  rw [if_neg (by rintro ⟨e1, e2⟩; rcases h with e | e; rw [e] at e1; cases e1; exact e2 e), if_neg (by rw [hr]; simp)]
theorem NewI.add {L : List Tox} {up : Bool} {room now : Int} {x : Lk} (h : NewI L up room now x) (hr : roomOk room = true) (t : Tox) (hc : chk t = 0) (hb : hasB L t.name = false) (h8 : L.length < 8) : NewI (L ++ [t]) up room now (addK x t now) := by
  obtain ⟨ds, hl, hd⟩ := h.l
  have hlen : (ofWay L up).length ≤ L.length := List.length_filter_le _ _
  have hnl : x.names.length = (ofWay L up).length := by rw [h.names, List.length_map]
  have hdl : ds.length = (ofWay L up).length := by have := hd.1; simpa using this
  by_cases hu : t.up = up
  · have hn : idxN x.names t.name = none := by
      apply idx_none
      intro j y hj hy
      rw [h.names, List.getElem?_map] at hy
      obtain ⟨u, hu1, rfl⟩ := Option.map_eq_some_iff.1 hy
      have hm : u ∈ L := (List.mem_filter.1 (List.mem_of_getElem? hu1)).1
      unfold hasB at hb
      have := List.any_eq_false.1 hb u hm
      simp only [beq_iff_eq] at this ⊢
      simp
      exact fun e => this e.symm
    have ha : addsB x t = true := by
      unfold addsB
      rw [hn, decide_eq_true (show chk t = 0 ∧ t.up = x.up from ⟨hc, by rw [h.up_]; exact hu⟩), decide_eq_true (show x.names.length < 8 by omega)]
      rfl
    have hadd : addK x t now = { x with c := insC x.c x.names.length (drawK x t) (Ref02.stepI (dieK x)) now, names := x.names ++ [t.name], drawn := x.drawn + 1 } := by unfold addK; rw [if_pos ha]
    have hE : insE x.c (x.names.length : Int) (drawK x t) = 0 := by
      unfold insE
      have hp : noPlace x.c (x.names.length : Int) = false := by
        unfold noPlace
        rw [hl]
        simp
        omega
      rw [hp, h.rm]
      exact newE_ok (draw_ok x t hc) hr
    have hbk : x.c.l[(x.names.length : Int).toNat + 1]? = some (fresh room now (noTox, 0)) := by
      rw [hl, List.getElem?_map, show (x.names.length : Int).toNat + 1 = ((noTox, (0 : Int)) :: ds).length from by simp; omega, List.getElem?_append_right (Nat.le_refl _), Nat.sub_self]
      rfl
    have hins : insC x.c x.names.length (drawK x t) (Ref02.stepI (dieK x)) now = { x.c with l := ((noTox, 0) :: (ds ++ [(drawK x t, Ref02.stepI (dieK x))]) ++ [(noTox, 0)]).map (fresh room now) } := by
      unfold insC
      rw [hE, if_neg (by decide), hbk]
      dsimp only
      rw [show (fresh room now (noTox, 0)).cl = false from rfl, if_neg (by decide), h.rm]
      congr 1
      rw [hl, ← List.map_take, ← List.map_drop, show (x.names.length : Int).toNat + 1 = ((noTox, (0 : Int)) :: ds).length from by simp; omega, List.take_left, List.drop_left]
      simp [fresh]
    rw [hadd, hins]
    refine ⟨h.up_, ?_, ⟨ds ++ [(drawK x t, Ref02.stepI (dieK x))], rfl, ?_⟩, h.st, h.sh, h.lost, h.rm, h.dn⟩
    · show x.names ++ [t.name] = _
      rw [ofWay_snoc, if_pos hu, h.names, List.map_append]; rfl
    · rw [ofWay_snoc, if_pos hu, List.map_append]
      exact hd.snoc (draw_drr x t)
  · have ha : addsB x t = false := by
      unfold addsB
      rw [decide_eq_false (show ¬ (chk t = 0 ∧ t.up = x.up) from fun e => hu (by rw [← h.up_]; exact e.2))]
      rfl
    have hadd : addK x t now = x := by unfold addK; rw [ha]; rfl
    rw [hadd]
    refine ⟨h.up_, ?_, ⟨ds, hl, ?_⟩, h.st, h.sh, h.lost, h.rm, h.dn⟩
    · rw [ofWay_snoc, if_neg hu]; exact h.names
    · rw [ofWay_snoc, if_neg hu]; exact hd
theorem first_all : ∀ {l : List Tox}, firstE l = 0 → ∀ t ∈ l, chk t = 0
  | u :: r, h, t, ht => by
    unfold firstE at h
    split at h
    · rename_i e; exact absurd h e
    · rename_i e
      rcases List.mem_cons.1 ht with rfl | ht
      · exact Decidable.byContradiction e
      · exact first_all h t ht
theorem dbl_none {l : List Tox} (h : dblB l = false) {k : Nat} {t : Tox} (hk : l[k]? = some t) : hasB (l.take k) t.name = false := by
  cases e : hasB (l.take k) t.name with
  | false => rfl
  | true =>
    have h1 : dblN l (k + 1) = true := by unfold dblN; rw [hk]; simp [e]
    have := dblN_mono h1 (show k + 1 ≤ l.length from (List.getElem?_eq_some_iff.1 hk).1)
    unfold dblB at h
    rw [this] at h
    cases h
theorem linkE_0 {l : List Tox} {room : Int} (h : linkE l room = 0) : roomOk room = true ∧ l.length ≤ 8 ∧ firstE l = 0 ∧ dblB l = false := by
  unfold linkE at h
  split at h
  · exact absurd h (by decide)
  rename_i h2
  split at h
  · rename_i h3; exact absurd h h3
  rename_i h3
  split at h
  · exact absurd h (by decide)
  rename_i h4
  refine ⟨?_, by omega, by simpa using h3, by simpa using h4⟩
  cases e : roomOk room with
  | true => rfl
  | false => exact absurd (.inl e) h2
theorem newI_linkN (L : List Tox) (up : Bool) (seed room now : Int) (h : linkE L room = 0) : NewI L up room now (linkN L up seed room now) := by
  obtain ⟨hr, h8, hf, hd⟩ := linkE_0 h
  have key : ∀ k, k ≤ L.length → NewI (L.take k) up room now (linkN (L.take k) up seed room now) := by
    intro k
    induction k with
    | zero => intro _; exact newI_0 up seed room now
    | succ k ih =>
      intro hk
      have hx : L[k]? = some L[k] := List.getElem?_eq_getElem (by omega)
      have e : L.take (k + 1) = L.take k ++ [L[k]] := by rw [List.take_add_one, hx]; rfl
      rw [e]
      have e2 : linkN (L.take k ++ [L[k]]) up seed room now = addK (linkN (L.take k) up seed room now) L[k] now := by unfold linkN; rw [List.foldl_append]; rfl
      rw [e2]
      exact (ih (by omega)).add hr _ (first_all hf _ (List.mem_of_getElem? hx)) (dbl_none hd hx) (by rw [List.length_take]; omega)
  have := key L.length (Nat.le_refl _)
  rwa [List.take_length] at this
/-! lags -/
/-! a link's calls without toxics -/
theorem LagC.does {N : Int} {x : Lk} {A : List Int} {k : Nat} (hN : 0 ≤ N) (hN1 : N ≤ 1099511627776) (hk : k ≤ A.length) (h : LagC N x.c A k) (o : Op) (ho : o.now = N) (h3 : o.kind ≤ 3) :
    LagC N (doesK x o).c (A ++ List.replicate (inK x o).size N) (k + (outK x o).size) ∧ lagS (doesK x o).c.l = lagS x.c.l ∧ (∀ j t, k ≤ j → j < k + (outK x o).size → A[j]? = some t → min (t + lagS x.c.l) 1099511627776 ≤ N) ∧ k + (outK x o).size ≤ (A ++ List.replicate (inK x o).size N).length := by
  have e0 : A ++ List.replicate (⟨#[]⟩ : ByteArray).size N = A := by show A ++ [] = A; exact List.append_nil A
  unfold doesK inK outK
  by_cases k0 : o.kind = 0
  · rw [if_pos k0, if_pos k0, if_neg (by omega), putN_size, ho]
    have := LagC.put hN hN1 hk h o.s
    exact ⟨this.1, this.2, fun j t h1 h2 => absurd (show j < k from h2) (by omega), by rw [List.length_append]; show k ≤ _; omega⟩
  rw [if_neg k0, if_neg k0]
  by_cases k1 : o.kind = 1
  · rw [if_pos k1, if_neg (by omega), ho]
    have := LagC.close hN hN1 h
    exact ⟨by rw [e0]; exact this.1, this.2, fun j t h1 h2 => absurd (show j < k from h2) (by omega), by rw [List.length_append]; show k ≤ _; omega⟩
  rw [if_neg k1]
  by_cases k2 : o.kind = 2
  · rw [if_pos k2, if_neg (by omega)]
    exact ⟨by rw [e0]; exact h.brk, lagS_break _, fun j t h1 h2 => absurd (show j < k from h2) (by omega), by rw [List.length_append]; show k ≤ _; omega⟩
  rw [if_neg k2]
  by_cases k3 : o.kind = 3
  · rw [if_pos k3, if_pos k3, ho]
    have s1 := LagC.step hN hN1 h
    have s2 := LagC.take hN hN1 s1.1 o.n
    have s3 := LagC.step hN hN1 s2.1
    rw [s1.2] at s2
    refine ⟨?_, s3.2.trans s2.2.1, s2.2.2.1, ?_⟩
    · show LagC N (stepX x N o.n) (A ++ List.replicate (⟨#[]⟩ : ByteArray).size N) (k + (stepB x N o.n).size)
      have e : A ++ List.replicate (⟨#[]⟩ : ByteArray).size N = A := by show A ++ [] = A; exact List.append_nil A
      rw [e]
      exact s3.1
    · rw [List.length_append]
      by_cases hz : 0 < (stepB x N o.n).size
      · have := s2.2.2.2 hz
        show k + (takeCB (stepC N x.c) N o.n).size ≤ _
        omega
      · omega
  rw [if_neg k3, if_neg k3, if_neg (by omega), if_neg (by omega), if_neg (by omega)]
  exact ⟨by rw [e0]; exact h, rfl, fun j t h1 h2 => absurd (show j < k from h2) (by omega), by rw [List.length_append]; show k ≤ _; omega⟩
end Go.Proofs.Ytoiibmcbjjnpbaa.Link
namespace Go.Proofs.Ytoiibmcbjjnpbaa.Link
open Go.RowKit Mem Tick Cargo Toxic Stage Chain
open Go.Proofs.YtoiibmcbjjnpbaaW.PrintLast Pu
set_option maxRecDepth 100000
set_option linter.unusedVariables false
set_option linter.unusedSimpArgs false
theorem ofWay_get {L : List Tox} {up : Bool} {k : Nat} {t : Tox} (hx : L[k]? = some t) (hu : t.up = up) : (ofWay L up)[(ofWay (L.take k) up).length]? = some t := by
  have hlt := (List.getElem?_eq_some_iff.1 hx).1
  have e : L = L.take k ++ t :: L.drop (k + 1) := by
    conv => lhs; rw [← List.take_append_drop k L]
    rw [List.drop_eq_getElem_cons hlt, (List.getElem?_eq_some_iff.1 hx).2]
  have e2 : ofWay L up = ofWay (L.take k) up ++ t :: ofWay (L.drop (k + 1)) up := by
    conv => lhs; rw [e]
    unfold ofWay
    rw [List.filter_append, List.filter_cons, if_pos (by simpa using hu)]
  rw [e2, List.getElem?_append_right (Nat.le_refl _), Nat.sub_self]
  rfl
theorem ofWay_next {L : List Tox} {up : Bool} {k : Nat} {t : Tox} (hx : L[k]? = some t) : ofWay (L.take (k + 1)) up = if t.up = up then ofWay (L.take k) up ++ [t] else ofWay (L.take k) up := by
  rw [List.take_add_one, hx]; exact ofWay_snoc (L.take k) t up
theorem draws_at {L : List Tox} {up : Bool} {room now : Int} {x : Lk} (h : NewI L up room now x) :
    x.names.length = (ofWay L up).length ∧ x.c.l.length - 2 = (ofWay L up).length ∧ ∀ (i : Nat) (t : Tox), (ofWay L up)[i]? = some t → x.names[i]? = some t.name ∧ ∃ d, (toxs x.c)[i]? = some d ∧ DrR t d := by
  obtain ⟨ds, hl, hd⟩ := h.l
  have hdl : ds.length = (ofWay L up).length := by have := hd.1; simpa using this
  refine ⟨by rw [h.names, List.length_map], by rw [hl]; simp [hdl], fun i t ht => ?_⟩
  have hlt := (List.getElem?_eq_some_iff.1 ht).1
  refine ⟨by rw [h.names, List.getElem?_map, ht]; rfl, ?_⟩
  have hp : ds[i]? = some ds[i] := List.getElem?_eq_getElem (by omega)
  have hg : x.c.l[i + 1]? = some (fresh room now ds[i]) := by
    rw [hl, List.getElem?_map, List.cons_append, List.getElem?_cons_succ, List.getElem?_append_left (by omega), hp]
    rfl
  have hx := toxs_get hg (by rw [hl]; simp; omega)
  refine ⟨_, hx, hd.2 i t _ ht ?_⟩
  rw [List.getElem?_map, hp]
  show some ds[i].1 = some (newS ds[i].1 ds[i].2 room now).t
  unfold newS
  split <;> rfl
theorem script_nil (w : World) : Script w (.slice none 0 0) [] := ⟨none, 0, rfl, by decide, fun x hx => (by simp at hx), fun h => absurd rfl h⟩
theorem neq_tox (w : World) (s0 s1 : ByteArray) (k0 k1 : Int) (u0 u1 : Bool) (o0 o1 a0 a1 b0 b1 : Int) :
    (binOp .neq 29 (.agg #[.string s0, .int .i64 k0, .bool u0, .int .i64 o0, .int .i64 a0, .int .i64 b0]) (.agg #[.string s1, .int .i64 k1, .bool u1, .int .i64 o1, .int .i64 a1, .int .i64 b1])).run Try.prog w =
      .ok (.bool (!sameT ⟨s0, k0, u0, o0, a0, b0⟩ ⟨s1, k1, u1, o1, a1, b1⟩)) w := by
  rw [run_neq_struct, eq_tox 9998]
  rfl
theorem FreshN.bel {w w' : World} {v : Value} {l : List ByteArray} (h : FreshN w w' v l) : Below w.heap.size w w' := h.2.2
theorem same_self (t : Tox) : sameT t t = true := by unfold sameT; simp
theorem dr_b {t d : Tox} (h : DrR t d) : (sameT d t = false → sameT d noTox = true) ∧ (t.often = 100 → sameT d t = true) ∧ (t.often = 0 → sameT d noTox = true) := by
  obtain ⟨h1, h2, h3⟩ := h
  refine ⟨fun e => ?_, fun e => by rw [h2 e]; exact same_self t, fun e => by rw [h3 e]; exact same_self noTox⟩
  rcases h1 with rfl | rfl
  · rw [same_self] at e; cases e
  · exact same_self noTox
theorem LinkDraws_none (sa : Option Addr) (sc : Nat) (L : List Tox) (up : Bool) (seed room : Int) (w : World) (hs : Toxs w (.slice sa L.length sc) L) (h0 : 0 ≤ seed) (h1 : seed < 18446744073709551616) (hr : linkE L room ≠ 0) :
    Calls Try.prog 4 #[.agg #[.slice sa L.length sc, .bool up, .int .u64 seed, .int .i64 room]] w fun e w' => e = .returned (.bool true) ∧ Below w.heap.size w w' := by
  obtain ⟨w0, e0, B0, X0⟩ : ∃ w0, Hid (w.alloc (.cells #[.slice sa L.length sc, .bool up, .int .u64 seed, .int .i64 room] 25) = w0) ∧ Hid (Below w.heap.size w w0) ∧ Hid (Blk w0 w.heap.size 25 #[.slice sa L.length sc, .bool up, .int .u64 seed, .int .i64 room]) := ⟨_, Lib.hid rfl, Lib.hid ((Below.refl _ _).alloc (Nat.le_refl _) _), Lib.hid (Blk.new w _ _)⟩
  have hn := Lib.hid (bad_new up seed room 0 (hs.below B0.out) hr)
  have te : (linkE L room != 0) = true := by simpa using hr
  clear hs hr
  go_enter Try.func4, Try.ntmps4
  go_wp2_with fail
  rw [e0.out]
  refine hn.out.mono ?_
  rintro e w1 ⟨rfl, hB⟩
  have hB1 := Lib.hid (bw_below B0.out hB)
  clear hn hB
  go_wp2_with (go_at_call 6; (with_reducible refine (alive_any _).mono ?_); rintro e w2 ⟨rfl, hB2⟩; have hB2' := Lib.hid hB2; clear hB2)
  go_ret
  exact ⟨rfl, bw_below hB1.out hB2'.out⟩
set_option maxHeartbeats 2000000 in
theorem LinkDraws_yes (sa : Option Addr) (sc : Nat) (L : List Tox) (up : Bool) (seed room : Int) (w : World) (hs : Toxs w (.slice sa L.length sc) L) (h0 : 0 ≤ seed) (h1 : seed < 18446744073709551616) (hr : linkE L room = 0) :
    Calls Try.prog 4 #[.agg #[.slice sa L.length sc, .bool up, .int .u64 seed, .int .i64 room]] w fun e w' => e = .returned (.bool true) ∧ Below w.heap.size w w' := by
  obtain ⟨w0, e0, B0, X0⟩ : ∃ w0, Hid (w.alloc (.cells #[.slice sa L.length sc, .bool up, .int .u64 seed, .int .i64 room] 25) = w0) ∧ Hid (Below w.heap.size w w0) ∧ Hid (Blk w0 w.heap.size 25 #[.slice sa L.length sc, .bool up, .int .u64 seed, .int .i64 room]) := ⟨_, Lib.hid rfl, Lib.hid ((Below.refl _ _).alloc (Nat.le_refl _) _), Lib.hid (Blk.new w _ _)⟩
  have hn := Lib.hid (live_new up seed room 0 (hs.below B0.out) hr h0 h1 (Below.refl w0.heap.size w0))
  have h8 := (linkE_0 hr).2.1
  have hmx : L.length ≤ 9223372036854775807 := by omega
  have hf' := Lib.hid (show fewK L.length [] = true by simp [fewK, bytesOf]; omega)
  have hs' := Lib.hid (hs.below B0.out)
  have hok := (okJ_linkN L up seed room 0 hr h0 h1 []).ok
  have hlt := Lib.hid (And.intro hok.c.two hok.c.ten)
  have hdr := Lib.hid (draws_at (newI_linkN L up seed room 0 hr))
  have hnl : (linkN L up seed room 0).names.length ≤ 1000 := by have := hok.n; have := hok.c.ten; omega
  generalize hK0 : linkN L up seed room 0 = K0 at *
  clear hr hs hK0 hok
  go_enter Try.func4, Try.ntmps4
  go_wp2_with fail
  rw [e0.out]
  refine hn.out.mono ?_
  rintro e w1 ⟨c, rfl, hL⟩
  have H1 := Lib.hid hL
  have x0 := (X0.out.below hL.old).cell 0
  have x1 := (X0.out.below hL.old).cell 1
  have x2 := (X0.out.below hL.old).cell 2
  have x3 := (X0.out.below hL.old).cell 3
  have xb := (X0.out.below hL.old).lt
  clear hn hL
  go_wp2_with fail
  refine (few_any sa L.length sc up seed room _ [] _ hmx (script_nil _)).mono ?_
  rintro e w2 ⟨rfl, hB⟩
  rw [hf'.out]
  have H2 := Lib.hid (H1.out.below hB)
  clear hB H1 x0 x1 x2 x3 xb
  have X2 := Lib.hid (X0.out.below H2.out.old)
  obtain ⟨F, hC, hF, hBL⟩ := H2.out
  have hB2 := Lib.hid (show Below w.heap.size w w2.drew from (bw_below B0.out hBL).drew)
  have hnm := Lib.hid (kNames_any (w := w2.drew) hC.drew hnl)
  obtain ⟨G, q, D, v, hG⟩ := hC
  have k0 : w2.cell? ⟨c, 0, none⟩ = some (ptr q) := (hG.cell 0).trans rfl
  have k0' : w2.drew.cell? ⟨c, 0, none⟩ = some (ptr q) := k0
  have hCH := Lib.hid (hG.2.1.drew)
  clear hF hBL hG hnl
  go_wp2
  refine start_ (n := 9) (S := fun w' => w'.cell? ⟨c, 0, none⟩ = some (ptr q)) (ds := []) (m_ 9 0) (by kernel_rfl) rfl (by kernel_rfl) (k0') (fun hHeld => ?_)
  refine pu_ 0 (some 34) (m_ 9 1) rfl rfl (by kernel_rfl) (fun _ _ _ h => h) (by rfl) (by intro w'; go_simp; with_reducible rfl) (by simp only [Act.put, List.setIfInBounds_toArray, List.set_cons_zero, List.set_cons_succ, i64_w, i32_w]; rfl) ?_
  refine pu_ 2 (some 36) (m_ 9 5) rfl rfl (by kernel_rfl) (fun _ _ _ h => h) (by rfl) (by intro w'; go_simp; with_reducible rfl) (by simp only [Act.put, List.setIfInBounds_toArray, List.set_cons_zero, List.set_cons_succ, i64_w, i32_w]; rfl) ?_
  refine pu_ 3 (some 37) (m_ 9 13) rfl rfl (by kernel_rfl) (fun _ _ _ h => h) (by rfl) (by intro w'; go_simp; with_reducible rfl) (by simp only [Act.put, List.setIfInBounds_toArray, List.set_cons_zero, List.set_cons_succ, i64_w, i32_w]; rfl) ?_
  refine pu_ 4 (some 38) (m_ 9 29) rfl rfl (by kernel_rfl) (fun _ _ _ h => h) (by rfl) (by intro w'; go_simp; with_reducible rfl) (by simp only [Act.put, List.setIfInBounds_toArray, List.set_cons_zero, List.set_cons_succ, i64_w, i32_w]; rfl) ?_
  refine tk_ 5 (some 39) (m_ 9 61) rfl rfl (by kernel_rfl) (fun _ _ _ h => h) (by rfl) (by intro w' s0; go_simp; with_reducible rfl) hHeld (by simp only [Act.put, List.setIfInBounds_toArray, List.set_cons_zero, List.set_cons_succ, i64_w, i32_w]; rfl) ?_
  refine one_ (i := 1) (N := some 35) (m_ 9 63) rfl rfl (by kernel_rfl) (by decide) (fun K hK => ?_)
  refine goes_ Try.func12 (by kernel_rfl) rfl #[ptr c] (by rfl) rfl rfl (by simp only [List.map_toArray, List.map_cons, List.map_nil]; rfl) ?_
  with_reducible refine (hnm.out).mono ?_
  rintro e w3 ⟨nv, rfl, hFN⟩
  have HFN := Lib.hid hFN
  have j0 := bcells hFN.2.2 k0'
  clear hFN
  refine ⟨_, rfl, ?_⟩
  refine hK.out _ _ (j0) (fun hHeld => ?_)
  clear hK K
  refine norm_ (a' := ?_) ?_ ?_
  rotate_left
  · show Act.put _ (some 35) _ = _
    simp only [Act.put, List.setIfInBounds_toArray, List.set_cons_zero, List.set_cons_succ, i64_w, i32_w]
    rfl
  refine one_ (i := 6) (N := some 40) (m_ 9 127) rfl rfl (by kernel_rfl) (by decide) (fun K hK => ?_)
  refine goes_ Try.func13 (by kernel_rfl) rfl #[ptr q] (by rfl) rfl rfl (by simp only [List.map_toArray, List.map_cons, List.map_nil]; rfl) ?_
  with_reducible refine ((cToxics_any (hCH.out.below HFN.out.bel) hlt.out.1 hlt.out.2)).mono ?_
  rintro e w4 ⟨tA, tcp, rfl, hTR, hTn, hTB⟩
  have HTR := Lib.hid (And.intro hTR hTB)
  have i0 := bcells hTB j0
  clear hTR hTn hTB
  refine ⟨_, rfl, ?_⟩
  refine hK.out _ _ (i0) (fun hHeld => ?_)
  clear hK K
  refine norm_ (a' := ?_) ?_ ?_
  rotate_left
  · show Act.put _ (some 40) _ = _
    simp only [Act.put, List.setIfInBounds_toArray, List.set_cons_zero, List.set_cons_succ, i64_w, i32_w]
    rfl
  refine pu_ 7 (some 5) (m_ 9 255) rfl rfl (by kernel_rfl) (fun _ _ _ h => h) (by rfl) (by intro w'; go_simp; with_reducible rfl) (by simp only [Act.put, List.setIfInBounds_toArray, List.set_cons_zero, List.set_cons_succ, i64_w, i32_w]; rfl) ?_
  refine pu_ 8 (some 6) (m_ 9 511) rfl rfl (by kernel_rfl) (fun _ _ _ h => h) (by rfl) (by intro w'; go_simp; with_reducible rfl) (by simp only [Act.put, List.setIfInBounds_toArray, List.set_cons_zero, List.set_cons_succ, i64_w, i32_w]; rfl) ?_
  refine done_ (by kernel_rfl) ?_
  have HB4 := Lib.hid (show Below w0.heap.size w0 w4 from bw_below (bw_below (show Below w0.heap.size w0 w2.drew from H2.out.old.drew) HFN.out.bel) HTR.out.2)
  have X4 := Lib.hid (((X2.out.below (show Below w2.heap.size w2 w2.drew from (Below.refl _ _).drew)).below HFN.out.bel).below HTR.out.2)
  obtain ⟨nA, ncp, hnv, hNC⟩ := HFN.out.1.sr
  subst hnv
  have HNC := Lib.hid (show K0.names ≠ [] → ∃ g o, nA = some ⟨g, o, none⟩ ∧ ∀ j x, K0.names[j]? = some x → w4.cell? ⟨g, o + j, none⟩ = some (.string x) from fun hne => by
    obtain ⟨g, o, e, hc⟩ := hNC hne
    exact ⟨g, o, e, fun j x hx => bcells HTR.out.2 (hc j x hx)⟩)
  have HTC := Lib.hid HTR.out.1
  obtain ⟨hdn, hdl, hda⟩ := hdr.out
  have Hda := Lib.hid hda
  have hB4 := Lib.hid (show Below w.heap.size w w4 from bw_below (bw_below hB2.out HFN.out.bel) HTR.out.2)
  rw [hdn, hdl]
  clear hHeld i0 j0 k0 k0' hCH HTR HFN hNC hda hdr hdn hdl hnm H2 X2 hB2
  have x0 : w4.cell? ⟨w.heap.size, 0, none⟩ = some (.slice sa L.length sc) := (X4.out.cell 0).trans rfl
  have xb := X4.out.lt
  go_wp2
  go_loopw [7, 44] (fun av iv wr => ∃ k : Nat, k ≤ L.length ∧ iv = .int .i64 k ∧ av = .int .i64 ((ofWay (L.take k) up).length : Nat) ∧ Below w4.heap.size w4 wr) (fun _ iv _ => L.length - (intOf iv).toNat)
  case atStart => exact ⟨0, by omega, rfl, rfl, Below.refl _ _⟩
  case round =>
    obtain ⟨k, hk, rfl, rfl, hB⟩ := hrel
    clear x0
    have HB := Lib.hid hB
    by_cases hlt : k < L.length
    · obtain ⟨sa', sc', e1, -, -, hTA⟩ := hs'.out
      injection e1 with e1 e2 e3
      subst e1 e3
      obtain ⟨g, oo, rfl, hc⟩ := hTA (by intro h; subst h; simp at hlt)
      have hx : L[k]? = some L[k] := List.getElem?_eq_getElem hlt
      obtain ⟨d0, d1, d2, d3, d4, d5⟩ := hc k _ hx
      have hnx := Lib.hid (ofWay_next (up := up) hx)
      have hgt := Lib.hid (fun hu => ofWay_get (up := up) hx hu)
      generalize L[k] = p at *
      obtain ⟨t0, t1, t2, t3, t4, t5⟩ := p
      dsimp only at *
      have hold := bw_below HB4.out hB
      have d0' := bcells hold d0
      have d1' := bcells hold d1
      have d2' := bcells hold d2
      have d3' := bcells hold d3
      have d4' := bcells hold d4
      have d5' := bcells hold d5
      have X5 := X4.out.below hB
      have x1 : wr.cell? ⟨w.heap.size, 1, none⟩ = some (.bool up) := (X5.cell 1).trans rfl
      have xb5 := X5.lt
      have hBx : Below w4.heap.size w4 (wr.alloc (.cells #[.string t0, .int .i64 t1, .bool t2, .int .i64 t3, .int .i64 t4, .int .i64 t5] 29)) := hB.alloc hB.size _
      have HBx := Lib.hid hBx
      clear hc hx hTA hold X5 hBx hB d0 d1 d2 d3 d4 d5
      by_cases k3 : t2 = up
      · have e3 : (t2 == up) = true := by simpa using k3
        have hn2 := Lib.hid (show ofWay (L.take (k + 1)) up = ofWay (L.take k) up ++ [⟨t0, t1, t2, t3, t4, t5⟩] from by rw [hnx.out, if_pos k3])
        have hg := hgt.out k3
        clear hgt hnx k3
        generalize hm : (ofWay (L.take k) up).length = m at *
        have hn3 := Lib.hid (show (ofWay (L.take (k + 1)) up).length = m + 1 from by rw [hn2.out, List.length_append, hm]; rfl)
        obtain ⟨hn4, d, hn5, hdr⟩ := Hda.out m _ hg
        have hml := (List.getElem?_eq_some_iff.1 hg).1
        obtain ⟨gn, on, rfl, hnc⟩ := HNC.out (by intro h; rw [h] at hn4; simp at hn4)
        have n0 := hnc m _ hn4
        obtain ⟨g3, rfl, -, htc⟩ := HTC.out (by intro h; rw [h] at hn5; simp at hn5)
        obtain ⟨q0, q1, q2, q3, q4, q5⟩ := d
        have y0 : w4.cell? ⟨g3, m * 6, none⟩ = some (.string q0) := htc (m * 6 + 0) _ ((tcells_get _ m 0 _ hn5 (by decide)).trans rfl)
        have y1 : w4.cell? ⟨g3, m * 6 + 1, none⟩ = some (.int .i64 q1) := htc (m * 6 + 1) _ ((tcells_get _ m 1 _ hn5 (by decide)).trans rfl)
        have y2 : w4.cell? ⟨g3, m * 6 + 2, none⟩ = some (.bool q2) := htc (m * 6 + 2) _ ((tcells_get _ m 2 _ hn5 (by decide)).trans rfl)
        have y3 : w4.cell? ⟨g3, m * 6 + 3, none⟩ = some (.int .i64 q3) := htc (m * 6 + 3) _ ((tcells_get _ m 3 _ hn5 (by decide)).trans rfl)
        have y4 : w4.cell? ⟨g3, m * 6 + 4, none⟩ = some (.int .i64 q4) := htc (m * 6 + 4) _ ((tcells_get _ m 4 _ hn5 (by decide)).trans rfl)
        have y5 : w4.cell? ⟨g3, m * 6 + 5, none⟩ = some (.int .i64 q5) := htc (m * 6 + 5) _ ((tcells_get _ m 5 _ hn5 (by decide)).trans rfl)
        have n0' := bcells HB.out n0
        have y0' := bcells HB.out y0
        have y1' := bcells HB.out y1
        have y2' := bcells HB.out y2
        have y3' := bcells HB.out y3
        have y4' := bcells HB.out y4
        have y5' := bcells HB.out y5
        dsimp only at n0'
        obtain ⟨r1, r2, r3⟩ := dr_b hdr
        dsimp only at r2 r3
        have hW8 : (ofWay L up).length ≤ L.length := List.length_filter_le _ _
        generalize hW : (ofWay L up).length = W at *
        have tg : decide ((W : Int) ≤ (m : Int)) = false := decide_eq_false (by omega)
        have tgn : decide (W ≤ m) = false := decide_eq_false (by omega)
        have hmW : (m : Int) < (W : Int) := by omega
        have hmN : m < W := by omega
        have hm0 : (0 : Int) ≤ (m : Int) := by omega
        obtain ⟨b1, hb1⟩ : ∃ b1, sameT ⟨q0, q1, q2, q3, q4, q5⟩ ⟨t0, t1, t2, t3, t4, t5⟩ = b1 := ⟨_, rfl⟩
        obtain ⟨b2, hb2⟩ : ∃ b2, sameT ⟨q0, q1, q2, q3, q4, q5⟩ noTox = b2 := ⟨_, rfl⟩
        rw [hb1, hb2] at r1
        rw [hb1] at r2
        rw [hb2] at r3
        have hq1 : ∀ W' : World, (binOp .neq 29 (.agg #[.string q0, .int .i64 q1, .bool q2, .int .i64 q3, .int .i64 q4, .int .i64 q5]) (.agg #[.string t0, .int .i64 t1, .bool t2, .int .i64 t3, .int .i64 t4, .int .i64 t5])).run Try.prog W' = .ok (.bool (!b1)) W' := fun W' => by rw [neq_tox, hb1]
        have hq2 : ∀ W' : World, (binOp .neq 29 (.agg #[.string q0, .int .i64 q1, .bool q2, .int .i64 q3, .int .i64 q4, .int .i64 q5]) (.agg #[.string ⟨#[]⟩, .int .i64 0, .bool false, .int .i64 0, .int .i64 0, .int .i64 0])).run Try.prog W' = .ok (.bool (!b2)) W' := fun W' => by rw [neq_tox]; unfold noTox at hb2; rw [hb2]
        clear hg hm hn2 hn4 hn5 hdr hnc htc n0 y0 y1 y2 y3 y4 y5 hb1 hb2 hW HNC HTC Hda hml
        have hbx := Lib.hid (Blk.new wr 29 #[.string t0, .int .i64 t1, .bool t2, .int .i64 t3, .int .i64 t4, .int .i64 t5])
        have hBw : Below wr.heap.size wr (wr.alloc (.cells #[.string t0, .int .i64 t1, .bool t2, .int .i64 t3, .int .i64 t4, .int .i64 t5] 29)) := (Below.refl _ _).alloc (Nat.le_refl _) _
        have n1 := bcells hBw n0'
        have y0 := bcells hBw y0'
        have y1 := bcells hBw y1'
        have y2 := bcells hBw y2'
        have y3 := bcells hBw y3'
        have y4 := bcells hBw y4'
        have y5 := bcells hBw y5'
        clear hBw n0' y0' y1' y2' y3' y4' y5'
        go_wp2
        generalize wr.alloc (.cells #[.string t0, .int .i64 t1, .bool t2, .int .i64 t3, .int .i64 t4, .int .i64 t5] 29) = w5 at *
        have u0 : w5.cell? ⟨wr.heap.size, 0, none⟩ = some (.string t0) := (hbx.out.cell 0).trans rfl
        have u1 : w5.cell? ⟨wr.heap.size, 1, none⟩ = some (.int .i64 t1) := (hbx.out.cell 1).trans rfl
        have u2 : w5.cell? ⟨wr.heap.size, 2, none⟩ = some (.bool t2) := (hbx.out.cell 2).trans rfl
        have u3 : w5.cell? ⟨wr.heap.size, 3, none⟩ = some (.int .i64 t3) := (hbx.out.cell 3).trans rfl
        have u4 : w5.cell? ⟨wr.heap.size, 4, none⟩ = some (.int .i64 t4) := (hbx.out.cell 4).trans rfl
        have u5 : w5.cell? ⟨wr.heap.size, 5, none⟩ = some (.int .i64 t5) := (hbx.out.cell 5).trans rfl
        refine start_ (n := 19) (S := fun w' => w'.cell? ⟨gn, on + m, none⟩ = some (.string t0) ∧ w'.cell? ⟨wr.heap.size, 0, none⟩ = some (.string t0)) (ds := []) (m_ 19 0) (by kernel_rfl) rfl (by kernel_rfl) ⟨n1, u0⟩ (fun hHeld => ?_)
        refine pu_ 0 (some 53) (m_ 19 1) rfl rfl (by kernel_rfl) (fun _ _ _ h => h) (by rfl) (by intro w'; go_simp; with_reducible rfl) (by simp only [Act.put, List.setIfInBounds_toArray, List.set_cons_zero, List.set_cons_succ, i64_w, i32_w]; rfl) ?_
        refine pu_ 1 (some 54) (m_ 19 3) rfl rfl (by kernel_rfl) (fun _ _ _ h => h) (by rfl) (by intro w'; go_simp; with_reducible rfl) (by simp only [Act.put, List.setIfInBounds_toArray, List.set_cons_zero, List.set_cons_succ, i64_w, i32_w]; rfl) ?_
        refine pu_ 2 (some 55) (m_ 19 7) rfl rfl (by kernel_rfl) (fun _ _ _ h => h) (by rfl) (by intro w'; go_simp; with_reducible rfl) (by simp only [Act.put, List.setIfInBounds_toArray, List.set_cons_zero, List.set_cons_succ, i64_w, i32_w]; rfl) ?_
        refine pu_ 3 (some 56) (m_ 19 15) rfl rfl (by kernel_rfl) (fun _ _ _ h => h) (by rfl) (by intro w'; go_simp; with_reducible rfl) (by simp only [Act.put, List.setIfInBounds_toArray, List.set_cons_zero, List.set_cons_succ, i64_w, i32_w]; rfl) ?_
        refine pu_ 4 (some 57) (m_ 19 31) rfl rfl (by kernel_rfl) (fun _ _ _ h => h) (by rfl) (by intro w'; go_simp; with_reducible rfl) (by simp only [Act.put, List.setIfInBounds_toArray, List.set_cons_zero, List.set_cons_succ, i64_w, i32_w]; rfl) ?_
        refine pu_ 5 (some 58) (m_ 19 63) rfl rfl (by kernel_rfl) (fun _ _ _ h => h) (by rfl) (by intro w'; go_simp; with_reducible rfl) (by simp only [Act.put, List.setIfInBounds_toArray, List.set_cons_zero, List.set_cons_succ, i64_w, i32_w]; rfl) ?_
        refine pu_ 6 (some 59) (m_ 19 127) rfl rfl (by kernel_rfl) (fun _ _ _ h => h) (by rfl) (by intro w'; go_simp; with_reducible rfl) (by simp only [Act.put, List.setIfInBounds_toArray, List.set_cons_zero, List.set_cons_succ, i64_w, i32_w]; rfl) ?_
        refine pu_ 7 (some 60) (m_ 19 255) rfl rfl (by kernel_rfl) (fun _ _ _ h => h) (by rfl) (by intro w'; go_simp; with_reducible rfl) (by simp only [Act.put, List.setIfInBounds_toArray, List.set_cons_zero, List.set_cons_succ, i64_w, i32_w]; rfl) ?_
        refine pu_ 8 (some 61) (m_ 19 511) rfl rfl (by kernel_rfl) (fun _ _ _ h => h) (by rfl) (by intro w'; go_simp; with_reducible rfl) (by simp only [Act.put, List.setIfInBounds_toArray, List.set_cons_zero, List.set_cons_succ, i64_w, i32_w]; rfl) ?_
        refine pu_ 9 (some 62) (m_ 19 1023) rfl rfl (by kernel_rfl) (fun _ _ _ h => h) (by rfl) (by intro w'; go_simp; with_reducible rfl) (by simp only [Act.put, List.setIfInBounds_toArray, List.set_cons_zero, List.set_cons_succ, i64_w, i32_w]; rfl) ?_
        refine pu_ 10 (some 63) (m_ 19 2047) rfl rfl (by kernel_rfl) (fun _ _ _ h => h) (by rfl) (by intro w'; go_simp; with_reducible rfl) (by simp only [Act.put, List.setIfInBounds_toArray, List.set_cons_zero, List.set_cons_succ, i64_w, i32_w]; rfl) ?_
        refine pu_ 11 (some 64) (m_ 19 4095) rfl rfl (by kernel_rfl) (fun _ _ _ h => h) (by rfl) (by intro w'; go_simp; with_reducible rfl) (by simp only [Act.put, List.setIfInBounds_toArray, List.set_cons_zero, List.set_cons_succ, i64_w, i32_w]; rfl) ?_
        refine pu_ 12 (some 65) (m_ 19 8191) rfl rfl (by kernel_rfl) (fun _ _ _ h => h) (by rfl) (by intro w'; go_simp; with_reducible rfl) (by simp only [Act.put, List.setIfInBounds_toArray, List.set_cons_zero, List.set_cons_succ, i64_w, i32_w]; rfl) ?_
        refine pu_ 13 (some 66) (m_ 19 16383) rfl rfl (by kernel_rfl) (fun _ _ _ h => h) (by rfl) (by intro w'; go_simp; with_reducible rfl) (by simp only [Act.put, List.setIfInBounds_toArray, List.set_cons_zero, List.set_cons_succ, i64_w, i32_w]; rfl) ?_
        refine pu_ 15 (some 68) (m_ 19 49151) rfl rfl (by kernel_rfl) (fun _ _ _ h => h) (by rfl) (by intro w'; go_simp; with_reducible rfl) (by simp only [Act.put, List.setIfInBounds_toArray, List.set_cons_zero, List.set_cons_succ, i64_w, i32_w]; rfl) ?_
        refine tk_ 14 (some 67) (m_ 19 65535) rfl rfl (by kernel_rfl) (fun _ _ _ h => h) (by rfl) (by rintro w' ⟨s0, s1⟩; go_simp; with_reducible rfl) hHeld (by simp only [Act.put, List.setIfInBounds_toArray, List.set_cons_zero, List.set_cons_succ, i64_w, i32_w]; rfl) ?_
        refine tk_ 16 (some 69) (m_ 19 131071) rfl rfl (by kernel_rfl) (fun _ _ _ h => h) (by rfl) (by rintro w' ⟨s0, s1⟩; go_simp; with_reducible rfl) hHeld (by simp only [Act.put, List.setIfInBounds_toArray, List.set_cons_zero, List.set_cons_succ, i64_w, i32_w]; rfl) ?_
        refine pu_ 17 (some 70) (m_ 19 262143) rfl rfl (by kernel_rfl) (fun _ _ _ h => h) (by rfl) (by intro w'; go_simp; with_reducible rfl) (by simp only [Act.put, List.setIfInBounds_toArray, List.set_cons_zero, List.set_cons_succ, i64_w, i32_w]; rfl) ?_
        refine pu_ 18 (some 71) (m_ 19 524287) rfl rfl (by kernel_rfl) (fun _ _ _ h => h) (by rfl) (by intro w'; go_simp; with_reducible rfl) (by simp only [Act.put, List.setIfInBounds_toArray, List.set_cons_zero, List.set_cons_succ, i64_w, i32_w]; rfl) ?_
        refine done_ (by kernel_rfl) ?_
        clear hHeld
        go_wp2
        cases b1 with
        | false =>
          obtain rfl := r1 rfl
          have c1 : (t3 == 100) = false := by simp; intro e; have := r2 e; cases this
          by_cases c0 : t3 = 0
          · have c2 : (t3 == 0) = true := by simpa using c0
            clear c0
            clear r1 r2 r3
            refine start_ (n := 40) (S := fun w' => w'.cell? ⟨g3, m * 6, none⟩ = some (.string q0) ∧ w'.cell? ⟨g3, m * 6 + 1, none⟩ = some (.int .i64 q1) ∧ w'.cell? ⟨g3, m * 6 + 2, none⟩ = some (.bool q2) ∧ w'.cell? ⟨g3, m * 6 + 3, none⟩ = some (.int .i64 q3) ∧ w'.cell? ⟨g3, m * 6 + 4, none⟩ = some (.int .i64 q4) ∧ w'.cell? ⟨g3, m * 6 + 5, none⟩ = some (.int .i64 q5) ∧ w'.cell? ⟨wr.heap.size, 0, none⟩ = some (.string t0) ∧ w'.cell? ⟨wr.heap.size, 1, none⟩ = some (.int .i64 t1) ∧ w'.cell? ⟨wr.heap.size, 2, none⟩ = some (.bool t2) ∧ w'.cell? ⟨wr.heap.size, 3, none⟩ = some (.int .i64 t3) ∧ w'.cell? ⟨wr.heap.size, 4, none⟩ = some (.int .i64 t4) ∧ w'.cell? ⟨wr.heap.size, 5, none⟩ = some (.int .i64 t5)) (ds := []) (m_ 40 0) (by kernel_rfl) rfl (by kernel_rfl) ⟨y0, y1, y2, y3, y4, y5, u0, u1, u2, u3, u4, u5⟩ (fun hHeld => ?_)
            refine pu_ 0 (some 72) (m_ 40 1) rfl rfl (by kernel_rfl) (fun _ _ _ h => h) (by rfl) (by intro w'; go_simp; with_reducible rfl) (by simp only [Act.put, List.setIfInBounds_toArray, List.set_cons_zero, List.set_cons_succ, i64_w, i32_w]; rfl) ?_
            refine pu_ 1 (some 73) (m_ 40 3) rfl rfl (by kernel_rfl) (fun _ _ _ h => h) (by rfl) (by intro w'; go_simp; with_reducible rfl) (by simp only [Act.put, List.setIfInBounds_toArray, List.set_cons_zero, List.set_cons_succ, i64_w, i32_w]; rfl) ?_
            refine pu_ 2 (some 74) (m_ 40 7) rfl rfl (by kernel_rfl) (fun _ _ _ h => h) (by rfl) (by intro w'; go_simp; with_reducible rfl) (by simp only [Act.put, List.setIfInBounds_toArray, List.set_cons_zero, List.set_cons_succ, i64_w, i32_w]; rfl) ?_
            refine tk_ 3 (some 75) (m_ 40 15) rfl rfl (by kernel_rfl) (fun _ _ _ h => h) (by rfl) (by rintro w' ⟨s0, s1, s2, s3, s4, s5, s6, s7, s8, s9, s10, s11⟩; go_simp; with_reducible rfl) hHeld (by simp only [Act.put, List.setIfInBounds_toArray, List.set_cons_zero, List.set_cons_succ, i64_w, i32_w]; rfl) ?_
            refine tk_ 4 (some 76) (m_ 40 31) rfl rfl (by kernel_rfl) (fun _ _ _ h => h) (by rfl) (by rintro w' ⟨s0, s1, s2, s3, s4, s5, s6, s7, s8, s9, s10, s11⟩; go_simp; with_reducible rfl) hHeld (by simp only [Act.put, List.setIfInBounds_toArray, List.set_cons_zero, List.set_cons_succ, i64_w, i32_w]; rfl) ?_
            refine pu_ 5 (some 77) (m_ 40 63) rfl rfl (by kernel_rfl) (fun _ _ _ h => h) (by rfl) (by intro w'; go_simp; with_reducible rfl) (by simp only [Act.put, List.setIfInBounds_toArray, List.set_cons_zero, List.set_cons_succ, i64_w, i32_w]; rfl) ?_
            refine pu_ 6 (some 78) (m_ 40 127) rfl rfl (by kernel_rfl) (fun _ _ _ h => h) (by rfl) (by intro w'; go_simp; with_reducible rfl) (by simp only [Act.put, List.setIfInBounds_toArray, List.set_cons_zero, List.set_cons_succ, i64_w, i32_w]; rfl) ?_
            refine pu_ 7 (some 79) (m_ 40 255) rfl rfl (by kernel_rfl) (fun _ _ _ h => h) (by rfl) (by intro w'; go_simp; with_reducible rfl) (by simp only [Act.put, List.setIfInBounds_toArray, List.set_cons_zero, List.set_cons_succ, i64_w, i32_w]; rfl) ?_
            refine pu_ 8 (some 80) (m_ 40 511) rfl rfl (by kernel_rfl) (fun _ _ _ h => h) (by rfl) (by intro w'; go_simp; with_reducible rfl) (by simp only [Act.put, List.setIfInBounds_toArray, List.set_cons_zero, List.set_cons_succ, i64_w, i32_w]; rfl) ?_
            refine pu_ 9 (some 81) (m_ 40 1023) rfl rfl (by kernel_rfl) (fun _ _ _ h => h) (by rfl) (by intro w'; go_simp; with_reducible rfl) (by simp only [Act.put, List.setIfInBounds_toArray, List.set_cons_zero, List.set_cons_succ, i64_w, i32_w]; rfl) ?_
            refine pu_ 11 (some 83) (m_ 40 3071) rfl rfl (by kernel_rfl) (fun _ _ _ h => h) (by rfl) (by intro w'; go_simp; with_reducible rfl) (by simp only [Act.put, List.setIfInBounds_toArray, List.set_cons_zero, List.set_cons_succ, i64_w, i32_w]; rfl) ?_
            refine tk_ 10 (some 82) (m_ 40 4095) rfl rfl (by kernel_rfl) (fun _ _ _ h => h) (by rfl) (by rintro w' ⟨s0, s1, s2, s3, s4, s5, s6, s7, s8, s9, s10, s11⟩; go_simp; with_reducible rfl) hHeld (by simp only [Act.put, List.setIfInBounds_toArray, List.set_cons_zero, List.set_cons_succ, i64_w, i32_w]; rfl) ?_
            refine pu_ 12 (some 84) (m_ 40 8191) rfl rfl (by kernel_rfl) (fun _ _ _ h => h) (by rfl) (by intro w'; go_simp; with_reducible rfl) (by simp only [Act.put, List.setIfInBounds_toArray, List.set_cons_zero, List.set_cons_succ, i64_w, i32_w]; rfl) ?_
            refine pu_ 13 (some 85) (m_ 40 16383) rfl rfl (by kernel_rfl) (fun _ _ _ h => h) (by rfl) (by intro w'; go_simp; with_reducible rfl) (by simp only [Act.put, List.setIfInBounds_toArray, List.set_cons_zero, List.set_cons_succ, i64_w, i32_w]; rfl) ?_
            refine pu_ 14 (some 86) (m_ 40 32767) rfl rfl (by kernel_rfl) (fun _ _ _ h => h) (by rfl) (by intro w'; go_simp; with_reducible rfl) (by simp only [Act.put, List.setIfInBounds_toArray, List.set_cons_zero, List.set_cons_succ, i64_w, i32_w]; rfl) ?_
            refine pu_ 15 (some 87) (m_ 40 65535) rfl rfl (by kernel_rfl) (fun _ _ _ h => h) (by rfl) (by intro w'; go_simp; with_reducible rfl) (by simp only [Act.put, List.setIfInBounds_toArray, List.set_cons_zero, List.set_cons_succ, i64_w, i32_w]; rfl) ?_
            refine tk_ 16 (some 88) (m_ 40 131071) rfl rfl (by kernel_rfl) (fun _ _ _ h => h) (by rfl) (by rintro w' ⟨s0, s1, s2, s3, s4, s5, s6, s7, s8, s9, s10, s11⟩; go_simp; with_reducible rfl) hHeld (by simp only [Act.put, List.setIfInBounds_toArray, List.set_cons_zero, List.set_cons_succ, i64_w, i32_w]; rfl) ?_
            refine pu_ 17 (some 89) (m_ 40 262143) rfl rfl (by kernel_rfl) (fun _ _ _ h => h) (by rfl) (by intro w'; go_simp; with_reducible rfl) (by simp only [Act.put, List.setIfInBounds_toArray, List.set_cons_zero, List.set_cons_succ, i64_w, i32_w]; rfl) ?_
            refine pu_ 18 (some 90) (m_ 40 524287) rfl rfl (by kernel_rfl) (fun _ _ _ h => h) (by rfl) (by intro w'; go_simp; with_reducible rfl) (by simp only [Act.put, List.setIfInBounds_toArray, List.set_cons_zero, List.set_cons_succ, i64_w, i32_w]; rfl) ?_
            refine po_ 19 (some 91) (m_ 40 1048575) rfl rfl (by kernel_rfl) (fun _ _ _ h => h) (by rfl) (by simp only [Act.put, List.setIfInBounds_toArray, List.set_cons_zero, List.set_cons_succ, i64_w, i32_w]; rfl) ?_
            refine po_ 20 (some 92) (m_ 40 2097151) rfl rfl (by kernel_rfl) (fun _ _ _ h => h) (by rfl) (by simp only [Act.put, List.setIfInBounds_toArray, List.set_cons_zero, List.set_cons_succ, i64_w, i32_w]; rfl) ?_
            refine po_ 21 (some 93) (m_ 40 4194303) rfl rfl (by kernel_rfl) (fun _ _ _ h => h) (by rfl) (by simp only [Act.put, List.setIfInBounds_toArray, List.set_cons_zero, List.set_cons_succ, i64_w, i32_w]; rfl) ?_
            refine po_ 22 (some 94) (m_ 40 8388607) rfl rfl (by kernel_rfl) (fun _ _ _ h => h) (by rfl) (by simp only [Act.put, List.setIfInBounds_toArray, List.set_cons_zero, List.set_cons_succ, i64_w, i32_w]; rfl) ?_
            refine po_ 23 (some 95) (m_ 40 16777215) rfl rfl (by kernel_rfl) (fun _ _ _ h => h) (by rfl) (by simp only [Act.put, List.setIfInBounds_toArray, List.set_cons_zero, List.set_cons_succ, i64_w, i32_w]; rfl) ?_
            refine po_ 24 (some 96) (m_ 40 33554431) rfl rfl (by kernel_rfl) (fun _ _ _ h => h) (by rfl) (by simp only [Act.put, List.setIfInBounds_toArray, List.set_cons_zero, List.set_cons_succ, i64_w, i32_w]; rfl) ?_
            refine pu_ 25 (some 97) (m_ 40 67108863) rfl rfl (by kernel_rfl) (fun _ _ _ h => h) (by rfl) (by intro w'; go_simp; with_reducible rfl) (by simp only [Act.put, List.setIfInBounds_toArray, List.set_cons_zero, List.set_cons_succ, i64_w, i32_w]; rfl) ?_
            refine pu_ 26 (some 98) (m_ 40 134217727) rfl rfl (by kernel_rfl) (fun _ _ _ h => h) (by rfl) (by intro w'; go_simp; with_reducible rfl) (by simp only [Act.put, List.setIfInBounds_toArray, List.set_cons_zero, List.set_cons_succ, i64_w, i32_w]; rfl) ?_
            refine pu_ 27 (some 99) (m_ 40 268435455) rfl rfl (by kernel_rfl) (fun _ _ _ h => h) (by rfl) (by intro w'; go_simp; with_reducible rfl) (by simp only [Act.put, List.setIfInBounds_toArray, List.set_cons_zero, List.set_cons_succ, i64_w, i32_w]; rfl) ?_
            refine pu_ 28 (some 100) (m_ 40 536870911) rfl rfl (by kernel_rfl) (fun _ _ _ h => h) (by rfl) (by intro w'; go_simp; with_reducible rfl) (by simp only [Act.put, List.setIfInBounds_toArray, List.set_cons_zero, List.set_cons_succ, i64_w, i32_w]; rfl) ?_
            refine tk_ 29 (some 101) (m_ 40 1073741823) rfl rfl (by kernel_rfl) (fun _ _ _ h => h) (by rfl) (by rintro w' ⟨s0, s1, s2, s3, s4, s5, s6, s7, s8, s9, s10, s11⟩; go_simp; with_reducible rfl) hHeld (by simp only [Act.put, List.setIfInBounds_toArray, List.set_cons_zero, List.set_cons_succ, i64_w, i32_w]; rfl) ?_
            refine pu_ 30 (some 102) (m_ 40 2147483647) rfl rfl (by kernel_rfl) (fun _ _ _ h => h) (by rfl) (by intro w'; go_simp; with_reducible rfl) (by simp only [Act.put, List.setIfInBounds_toArray, List.set_cons_zero, List.set_cons_succ, i64_w, i32_w]; rfl) ?_
            refine pu_ 31 (some 103) (m_ 40 4294967295) rfl rfl (by kernel_rfl) (fun _ _ _ h => h) (by rfl) (by intro w'; go_simp; with_reducible rfl) (by simp only [Act.put, List.setIfInBounds_toArray, List.set_cons_zero, List.set_cons_succ, i64_w, i32_w]; rfl) ?_
            refine pu_ 32 (some 104) (m_ 40 8589934591) rfl rfl (by kernel_rfl) (fun _ _ _ h => h) (by rfl) (by intro w'; go_simp; with_reducible rfl) (by simp only [Act.put, List.setIfInBounds_toArray, List.set_cons_zero, List.set_cons_succ, i64_w, i32_w]; rfl) ?_
            refine pu_ 33 (some 105) (m_ 40 17179869183) rfl rfl (by kernel_rfl) (fun _ _ _ h => h) (by rfl) (by intro w'; go_simp; with_reducible rfl) (by simp only [Act.put, List.setIfInBounds_toArray, List.set_cons_zero, List.set_cons_succ, i64_w, i32_w]; rfl) ?_
            refine pu_ 34 (some 106) (m_ 40 34359738367) rfl rfl (by kernel_rfl) (fun _ _ _ h => h) (by rfl) (by intro w'; go_simp; with_reducible rfl) (by simp only [Act.put, List.setIfInBounds_toArray, List.set_cons_zero, List.set_cons_succ, i64_w, i32_w]; rfl) ?_
            refine pu_ 36 (some 108) (m_ 40 103079215103) rfl rfl (by kernel_rfl) (fun _ _ _ h => h) (by rfl) (by intro w'; go_simp; with_reducible rfl) (by simp only [Act.put, List.setIfInBounds_toArray, List.set_cons_zero, List.set_cons_succ, i64_w, i32_w]; rfl) ?_
            refine tk_ 35 (some 107) (m_ 40 137438953471) rfl rfl (by kernel_rfl) (fun _ _ _ h => h) (by rfl) (by rintro w' ⟨s0, s1, s2, s3, s4, s5, s6, s7, s8, s9, s10, s11⟩; go_simp; with_reducible rfl) hHeld (by simp only [Act.put, List.setIfInBounds_toArray, List.set_cons_zero, List.set_cons_succ, i64_w, i32_w]; rfl) ?_
            refine pu_ 37 (some 109) (m_ 40 274877906943) rfl rfl (by kernel_rfl) (fun _ _ _ h => h) (by rfl) (by intro w'; go_simp; with_reducible rfl) (by simp only [Act.put, List.setIfInBounds_toArray, List.set_cons_zero, List.set_cons_succ, i64_w, i32_w]; rfl) ?_
            refine pu_ 38 (some 110) (m_ 40 549755813887) rfl rfl (by kernel_rfl) (fun _ _ _ h => h) (by rfl) (by intro w'; go_simp; with_reducible rfl) (by simp only [Act.put, List.setIfInBounds_toArray, List.set_cons_zero, List.set_cons_succ, i64_w, i32_w]; rfl) ?_
            refine pu_ 39 (some 111) (m_ 40 1099511627775) rfl rfl (by kernel_rfl) (fun _ _ _ h => h) (by rfl) (by intro w'; go_simp; with_reducible rfl) (by simp only [Act.put, List.setIfInBounds_toArray, List.set_cons_zero, List.set_cons_succ, i64_w, i32_w]; rfl) ?_
            refine done_ (by kernel_rfl) ?_
            clear hHeld
            go_wp2
            go_roundw
            case rel => exact ⟨k + 1, by omega, by go_num, by rw [hn3.out]; go_num, HBx.out.drew.drew⟩
            case measure => simp [intOf]; omega
          · have c2 : (t3 == 0) = false := by simpa using c0
            clear c0
            clear r1 r2 r3
            refine start_ (n := 40) (S := fun w' => w'.cell? ⟨g3, m * 6, none⟩ = some (.string q0) ∧ w'.cell? ⟨g3, m * 6 + 1, none⟩ = some (.int .i64 q1) ∧ w'.cell? ⟨g3, m * 6 + 2, none⟩ = some (.bool q2) ∧ w'.cell? ⟨g3, m * 6 + 3, none⟩ = some (.int .i64 q3) ∧ w'.cell? ⟨g3, m * 6 + 4, none⟩ = some (.int .i64 q4) ∧ w'.cell? ⟨g3, m * 6 + 5, none⟩ = some (.int .i64 q5) ∧ w'.cell? ⟨wr.heap.size, 0, none⟩ = some (.string t0) ∧ w'.cell? ⟨wr.heap.size, 1, none⟩ = some (.int .i64 t1) ∧ w'.cell? ⟨wr.heap.size, 2, none⟩ = some (.bool t2) ∧ w'.cell? ⟨wr.heap.size, 3, none⟩ = some (.int .i64 t3) ∧ w'.cell? ⟨wr.heap.size, 4, none⟩ = some (.int .i64 t4) ∧ w'.cell? ⟨wr.heap.size, 5, none⟩ = some (.int .i64 t5)) (ds := []) (m_ 40 0) (by kernel_rfl) rfl (by kernel_rfl) ⟨y0, y1, y2, y3, y4, y5, u0, u1, u2, u3, u4, u5⟩ (fun hHeld => ?_)
            refine pu_ 0 (some 72) (m_ 40 1) rfl rfl (by kernel_rfl) (fun _ _ _ h => h) (by rfl) (by intro w'; go_simp; with_reducible rfl) (by simp only [Act.put, List.setIfInBounds_toArray, List.set_cons_zero, List.set_cons_succ, i64_w, i32_w]; rfl) ?_
            refine pu_ 1 (some 73) (m_ 40 3) rfl rfl (by kernel_rfl) (fun _ _ _ h => h) (by rfl) (by intro w'; go_simp; with_reducible rfl) (by simp only [Act.put, List.setIfInBounds_toArray, List.set_cons_zero, List.set_cons_succ, i64_w, i32_w]; rfl) ?_
            refine pu_ 2 (some 74) (m_ 40 7) rfl rfl (by kernel_rfl) (fun _ _ _ h => h) (by rfl) (by intro w'; go_simp; with_reducible rfl) (by simp only [Act.put, List.setIfInBounds_toArray, List.set_cons_zero, List.set_cons_succ, i64_w, i32_w]; rfl) ?_
            refine tk_ 3 (some 75) (m_ 40 15) rfl rfl (by kernel_rfl) (fun _ _ _ h => h) (by rfl) (by rintro w' ⟨s0, s1, s2, s3, s4, s5, s6, s7, s8, s9, s10, s11⟩; go_simp; with_reducible rfl) hHeld (by simp only [Act.put, List.setIfInBounds_toArray, List.set_cons_zero, List.set_cons_succ, i64_w, i32_w]; rfl) ?_
            refine tk_ 4 (some 76) (m_ 40 31) rfl rfl (by kernel_rfl) (fun _ _ _ h => h) (by rfl) (by rintro w' ⟨s0, s1, s2, s3, s4, s5, s6, s7, s8, s9, s10, s11⟩; go_simp; with_reducible rfl) hHeld (by simp only [Act.put, List.setIfInBounds_toArray, List.set_cons_zero, List.set_cons_succ, i64_w, i32_w]; rfl) ?_
            refine pu_ 5 (some 77) (m_ 40 63) rfl rfl (by kernel_rfl) (fun _ _ _ h => h) (by rfl) (by intro w'; go_simp; with_reducible rfl) (by simp only [Act.put, List.setIfInBounds_toArray, List.set_cons_zero, List.set_cons_succ, i64_w, i32_w]; rfl) ?_
            refine pu_ 6 (some 78) (m_ 40 127) rfl rfl (by kernel_rfl) (fun _ _ _ h => h) (by rfl) (by intro w'; go_simp; with_reducible rfl) (by simp only [Act.put, List.setIfInBounds_toArray, List.set_cons_zero, List.set_cons_succ, i64_w, i32_w]; rfl) ?_
            refine pu_ 7 (some 79) (m_ 40 255) rfl rfl (by kernel_rfl) (fun _ _ _ h => h) (by rfl) (by intro w'; go_simp; with_reducible rfl) (by simp only [Act.put, List.setIfInBounds_toArray, List.set_cons_zero, List.set_cons_succ, i64_w, i32_w]; rfl) ?_
            refine pu_ 8 (some 80) (m_ 40 511) rfl rfl (by kernel_rfl) (fun _ _ _ h => h) (by rfl) (by intro w'; go_simp; with_reducible rfl) (by simp only [Act.put, List.setIfInBounds_toArray, List.set_cons_zero, List.set_cons_succ, i64_w, i32_w]; rfl) ?_
            refine pu_ 9 (some 81) (m_ 40 1023) rfl rfl (by kernel_rfl) (fun _ _ _ h => h) (by rfl) (by intro w'; go_simp; with_reducible rfl) (by simp only [Act.put, List.setIfInBounds_toArray, List.set_cons_zero, List.set_cons_succ, i64_w, i32_w]; rfl) ?_
            refine pu_ 11 (some 83) (m_ 40 3071) rfl rfl (by kernel_rfl) (fun _ _ _ h => h) (by rfl) (by intro w'; go_simp; with_reducible rfl) (by simp only [Act.put, List.setIfInBounds_toArray, List.set_cons_zero, List.set_cons_succ, i64_w, i32_w]; rfl) ?_
            refine tk_ 10 (some 82) (m_ 40 4095) rfl rfl (by kernel_rfl) (fun _ _ _ h => h) (by rfl) (by rintro w' ⟨s0, s1, s2, s3, s4, s5, s6, s7, s8, s9, s10, s11⟩; go_simp; with_reducible rfl) hHeld (by simp only [Act.put, List.setIfInBounds_toArray, List.set_cons_zero, List.set_cons_succ, i64_w, i32_w]; rfl) ?_
            refine pu_ 12 (some 84) (m_ 40 8191) rfl rfl (by kernel_rfl) (fun _ _ _ h => h) (by rfl) (by intro w'; go_simp; with_reducible rfl) (by simp only [Act.put, List.setIfInBounds_toArray, List.set_cons_zero, List.set_cons_succ, i64_w, i32_w]; rfl) ?_
            refine pu_ 13 (some 85) (m_ 40 16383) rfl rfl (by kernel_rfl) (fun _ _ _ h => h) (by rfl) (by intro w'; go_simp; with_reducible rfl) (by simp only [Act.put, List.setIfInBounds_toArray, List.set_cons_zero, List.set_cons_succ, i64_w, i32_w]; rfl) ?_
            refine pu_ 14 (some 86) (m_ 40 32767) rfl rfl (by kernel_rfl) (fun _ _ _ h => h) (by rfl) (by intro w'; go_simp; with_reducible rfl) (by simp only [Act.put, List.setIfInBounds_toArray, List.set_cons_zero, List.set_cons_succ, i64_w, i32_w]; rfl) ?_
            refine pu_ 15 (some 87) (m_ 40 65535) rfl rfl (by kernel_rfl) (fun _ _ _ h => h) (by rfl) (by intro w'; go_simp; with_reducible rfl) (by simp only [Act.put, List.setIfInBounds_toArray, List.set_cons_zero, List.set_cons_succ, i64_w, i32_w]; rfl) ?_
            refine tk_ 16 (some 88) (m_ 40 131071) rfl rfl (by kernel_rfl) (fun _ _ _ h => h) (by rfl) (by rintro w' ⟨s0, s1, s2, s3, s4, s5, s6, s7, s8, s9, s10, s11⟩; go_simp; with_reducible rfl) hHeld (by simp only [Act.put, List.setIfInBounds_toArray, List.set_cons_zero, List.set_cons_succ, i64_w, i32_w]; rfl) ?_
            refine pu_ 17 (some 89) (m_ 40 262143) rfl rfl (by kernel_rfl) (fun _ _ _ h => h) (by rfl) (by intro w'; go_simp; with_reducible rfl) (by simp only [Act.put, List.setIfInBounds_toArray, List.set_cons_zero, List.set_cons_succ, i64_w, i32_w]; rfl) ?_
            refine pu_ 18 (some 90) (m_ 40 524287) rfl rfl (by kernel_rfl) (fun _ _ _ h => h) (by rfl) (by intro w'; go_simp; with_reducible rfl) (by simp only [Act.put, List.setIfInBounds_toArray, List.set_cons_zero, List.set_cons_succ, i64_w, i32_w]; rfl) ?_
            refine po_ 19 (some 91) (m_ 40 1048575) rfl rfl (by kernel_rfl) (fun _ _ _ h => h) (by rfl) (by simp only [Act.put, List.setIfInBounds_toArray, List.set_cons_zero, List.set_cons_succ, i64_w, i32_w]; rfl) ?_
            refine po_ 20 (some 92) (m_ 40 2097151) rfl rfl (by kernel_rfl) (fun _ _ _ h => h) (by rfl) (by simp only [Act.put, List.setIfInBounds_toArray, List.set_cons_zero, List.set_cons_succ, i64_w, i32_w]; rfl) ?_
            refine po_ 21 (some 93) (m_ 40 4194303) rfl rfl (by kernel_rfl) (fun _ _ _ h => h) (by rfl) (by simp only [Act.put, List.setIfInBounds_toArray, List.set_cons_zero, List.set_cons_succ, i64_w, i32_w]; rfl) ?_
            refine po_ 22 (some 94) (m_ 40 8388607) rfl rfl (by kernel_rfl) (fun _ _ _ h => h) (by rfl) (by simp only [Act.put, List.setIfInBounds_toArray, List.set_cons_zero, List.set_cons_succ, i64_w, i32_w]; rfl) ?_
            refine po_ 23 (some 95) (m_ 40 16777215) rfl rfl (by kernel_rfl) (fun _ _ _ h => h) (by rfl) (by simp only [Act.put, List.setIfInBounds_toArray, List.set_cons_zero, List.set_cons_succ, i64_w, i32_w]; rfl) ?_
            refine po_ 24 (some 96) (m_ 40 33554431) rfl rfl (by kernel_rfl) (fun _ _ _ h => h) (by rfl) (by simp only [Act.put, List.setIfInBounds_toArray, List.set_cons_zero, List.set_cons_succ, i64_w, i32_w]; rfl) ?_
            refine pu_ 25 (some 97) (m_ 40 67108863) rfl rfl (by kernel_rfl) (fun _ _ _ h => h) (by rfl) (by intro w'; go_simp; with_reducible rfl) (by simp only [Act.put, List.setIfInBounds_toArray, List.set_cons_zero, List.set_cons_succ, i64_w, i32_w]; rfl) ?_
            refine pu_ 26 (some 98) (m_ 40 134217727) rfl rfl (by kernel_rfl) (fun _ _ _ h => h) (by rfl) (by intro w'; go_simp; with_reducible rfl) (by simp only [Act.put, List.setIfInBounds_toArray, List.set_cons_zero, List.set_cons_succ, i64_w, i32_w]; rfl) ?_
            refine pu_ 27 (some 99) (m_ 40 268435455) rfl rfl (by kernel_rfl) (fun _ _ _ h => h) (by rfl) (by intro w'; go_simp; with_reducible rfl) (by simp only [Act.put, List.setIfInBounds_toArray, List.set_cons_zero, List.set_cons_succ, i64_w, i32_w]; rfl) ?_
            refine pu_ 28 (some 100) (m_ 40 536870911) rfl rfl (by kernel_rfl) (fun _ _ _ h => h) (by rfl) (by intro w'; go_simp; with_reducible rfl) (by simp only [Act.put, List.setIfInBounds_toArray, List.set_cons_zero, List.set_cons_succ, i64_w, i32_w]; rfl) ?_
            refine tk_ 29 (some 101) (m_ 40 1073741823) rfl rfl (by kernel_rfl) (fun _ _ _ h => h) (by rfl) (by rintro w' ⟨s0, s1, s2, s3, s4, s5, s6, s7, s8, s9, s10, s11⟩; go_simp; with_reducible rfl) hHeld (by simp only [Act.put, List.setIfInBounds_toArray, List.set_cons_zero, List.set_cons_succ, i64_w, i32_w]; rfl) ?_
            refine pu_ 30 (some 102) (m_ 40 2147483647) rfl rfl (by kernel_rfl) (fun _ _ _ h => h) (by rfl) (by intro w'; go_simp; with_reducible rfl) (by simp only [Act.put, List.setIfInBounds_toArray, List.set_cons_zero, List.set_cons_succ, i64_w, i32_w]; rfl) ?_
            refine pu_ 31 (some 103) (m_ 40 4294967295) rfl rfl (by kernel_rfl) (fun _ _ _ h => h) (by rfl) (by intro w'; go_simp; with_reducible rfl) (by simp only [Act.put, List.setIfInBounds_toArray, List.set_cons_zero, List.set_cons_succ, i64_w, i32_w]; rfl) ?_
            refine po_ 32 (some 104) (m_ 40 8589934591) rfl rfl (by kernel_rfl) (fun _ _ _ h => h) (by rfl) (by simp only [Act.put, List.setIfInBounds_toArray, List.set_cons_zero, List.set_cons_succ, i64_w, i32_w]; rfl) ?_
            refine po_ 33 (some 105) (m_ 40 17179869183) rfl rfl (by kernel_rfl) (fun _ _ _ h => h) (by rfl) (by simp only [Act.put, List.setIfInBounds_toArray, List.set_cons_zero, List.set_cons_succ, i64_w, i32_w]; rfl) ?_
            refine po_ 34 (some 106) (m_ 40 34359738367) rfl rfl (by kernel_rfl) (fun _ _ _ h => h) (by rfl) (by simp only [Act.put, List.setIfInBounds_toArray, List.set_cons_zero, List.set_cons_succ, i64_w, i32_w]; rfl) ?_
            refine po_ 35 (some 107) (m_ 40 68719476735) rfl rfl (by kernel_rfl) (fun _ _ _ h => h) (by rfl) (by simp only [Act.put, List.setIfInBounds_toArray, List.set_cons_zero, List.set_cons_succ, i64_w, i32_w]; rfl) ?_
            refine po_ 36 (some 108) (m_ 40 137438953471) rfl rfl (by kernel_rfl) (fun _ _ _ h => h) (by rfl) (by simp only [Act.put, List.setIfInBounds_toArray, List.set_cons_zero, List.set_cons_succ, i64_w, i32_w]; rfl) ?_
            refine po_ 37 (some 109) (m_ 40 274877906943) rfl rfl (by kernel_rfl) (fun _ _ _ h => h) (by rfl) (by simp only [Act.put, List.setIfInBounds_toArray, List.set_cons_zero, List.set_cons_succ, i64_w, i32_w]; rfl) ?_
            refine pu_ 38 (some 110) (m_ 40 549755813887) rfl rfl (by kernel_rfl) (fun _ _ _ h => h) (by rfl) (by intro w'; go_simp; with_reducible rfl) (by simp only [Act.put, List.setIfInBounds_toArray, List.set_cons_zero, List.set_cons_succ, i64_w, i32_w]; rfl) ?_
            refine pu_ 39 (some 111) (m_ 40 1099511627775) rfl rfl (by kernel_rfl) (fun _ _ _ h => h) (by rfl) (by intro w'; go_simp; with_reducible rfl) (by simp only [Act.put, List.setIfInBounds_toArray, List.set_cons_zero, List.set_cons_succ, i64_w, i32_w]; rfl) ?_
            refine done_ (by kernel_rfl) ?_
            clear hHeld
            go_wp2
            go_roundw
            case rel => exact ⟨k + 1, by omega, by go_num, by rw [hn3.out]; go_num, HBx.out.drew.drew⟩
            case measure => simp [intOf]; omega
        | true =>
          by_cases c0 : t3 = 100
          · have c1 : (t3 == 100) = true := by simpa using c0
            have c2 : (t3 == 0) = false := by simp; omega
            clear c0
            clear r1 r2 r3
            refine start_ (n := 40) (S := fun w' => w'.cell? ⟨g3, m * 6, none⟩ = some (.string q0) ∧ w'.cell? ⟨g3, m * 6 + 1, none⟩ = some (.int .i64 q1) ∧ w'.cell? ⟨g3, m * 6 + 2, none⟩ = some (.bool q2) ∧ w'.cell? ⟨g3, m * 6 + 3, none⟩ = some (.int .i64 q3) ∧ w'.cell? ⟨g3, m * 6 + 4, none⟩ = some (.int .i64 q4) ∧ w'.cell? ⟨g3, m * 6 + 5, none⟩ = some (.int .i64 q5) ∧ w'.cell? ⟨wr.heap.size, 0, none⟩ = some (.string t0) ∧ w'.cell? ⟨wr.heap.size, 1, none⟩ = some (.int .i64 t1) ∧ w'.cell? ⟨wr.heap.size, 2, none⟩ = some (.bool t2) ∧ w'.cell? ⟨wr.heap.size, 3, none⟩ = some (.int .i64 t3) ∧ w'.cell? ⟨wr.heap.size, 4, none⟩ = some (.int .i64 t4) ∧ w'.cell? ⟨wr.heap.size, 5, none⟩ = some (.int .i64 t5)) (ds := []) (m_ 40 0) (by kernel_rfl) rfl (by kernel_rfl) ⟨y0, y1, y2, y3, y4, y5, u0, u1, u2, u3, u4, u5⟩ (fun hHeld => ?_)
            refine pu_ 0 (some 72) (m_ 40 1) rfl rfl (by kernel_rfl) (fun _ _ _ h => h) (by rfl) (by intro w'; go_simp; with_reducible rfl) (by simp only [Act.put, List.setIfInBounds_toArray, List.set_cons_zero, List.set_cons_succ, i64_w, i32_w]; rfl) ?_
            refine pu_ 1 (some 73) (m_ 40 3) rfl rfl (by kernel_rfl) (fun _ _ _ h => h) (by rfl) (by intro w'; go_simp; with_reducible rfl) (by simp only [Act.put, List.setIfInBounds_toArray, List.set_cons_zero, List.set_cons_succ, i64_w, i32_w]; rfl) ?_
            refine pu_ 2 (some 74) (m_ 40 7) rfl rfl (by kernel_rfl) (fun _ _ _ h => h) (by rfl) (by intro w'; go_simp; with_reducible rfl) (by simp only [Act.put, List.setIfInBounds_toArray, List.set_cons_zero, List.set_cons_succ, i64_w, i32_w]; rfl) ?_
            refine tk_ 3 (some 75) (m_ 40 15) rfl rfl (by kernel_rfl) (fun _ _ _ h => h) (by rfl) (by rintro w' ⟨s0, s1, s2, s3, s4, s5, s6, s7, s8, s9, s10, s11⟩; go_simp; with_reducible rfl) hHeld (by simp only [Act.put, List.setIfInBounds_toArray, List.set_cons_zero, List.set_cons_succ, i64_w, i32_w]; rfl) ?_
            refine tk_ 4 (some 76) (m_ 40 31) rfl rfl (by kernel_rfl) (fun _ _ _ h => h) (by rfl) (by rintro w' ⟨s0, s1, s2, s3, s4, s5, s6, s7, s8, s9, s10, s11⟩; go_simp; with_reducible rfl) hHeld (by simp only [Act.put, List.setIfInBounds_toArray, List.set_cons_zero, List.set_cons_succ, i64_w, i32_w]; rfl) ?_
            refine pu_ 5 (some 77) (m_ 40 63) rfl rfl (by kernel_rfl) (fun _ _ _ h => h) (by rfl) (by intro w'; go_simp; with_reducible rfl) (by simp only [Act.put, List.setIfInBounds_toArray, List.set_cons_zero, List.set_cons_succ, i64_w, i32_w]; rfl) ?_
            refine pu_ 6 (some 78) (m_ 40 127) rfl rfl (by kernel_rfl) (fun _ _ _ h => h) (by rfl) (by intro w'; go_simp; with_reducible rfl) (by simp only [Act.put, List.setIfInBounds_toArray, List.set_cons_zero, List.set_cons_succ, i64_w, i32_w]; rfl) ?_
            refine po_ 7 (some 79) (m_ 40 255) rfl rfl (by kernel_rfl) (fun _ _ _ h => h) (by rfl) (by simp only [Act.put, List.setIfInBounds_toArray, List.set_cons_zero, List.set_cons_succ, i64_w, i32_w]; rfl) ?_
            refine po_ 8 (some 80) (m_ 40 511) rfl rfl (by kernel_rfl) (fun _ _ _ h => h) (by rfl) (by simp only [Act.put, List.setIfInBounds_toArray, List.set_cons_zero, List.set_cons_succ, i64_w, i32_w]; rfl) ?_
            refine po_ 9 (some 81) (m_ 40 1023) rfl rfl (by kernel_rfl) (fun _ _ _ h => h) (by rfl) (by simp only [Act.put, List.setIfInBounds_toArray, List.set_cons_zero, List.set_cons_succ, i64_w, i32_w]; rfl) ?_
            refine po_ 10 (some 82) (m_ 40 2047) rfl rfl (by kernel_rfl) (fun _ _ _ h => h) (by rfl) (by simp only [Act.put, List.setIfInBounds_toArray, List.set_cons_zero, List.set_cons_succ, i64_w, i32_w]; rfl) ?_
            refine po_ 11 (some 83) (m_ 40 4095) rfl rfl (by kernel_rfl) (fun _ _ _ h => h) (by rfl) (by simp only [Act.put, List.setIfInBounds_toArray, List.set_cons_zero, List.set_cons_succ, i64_w, i32_w]; rfl) ?_
            refine po_ 12 (some 84) (m_ 40 8191) rfl rfl (by kernel_rfl) (fun _ _ _ h => h) (by rfl) (by simp only [Act.put, List.setIfInBounds_toArray, List.set_cons_zero, List.set_cons_succ, i64_w, i32_w]; rfl) ?_
            refine pu_ 13 (some 85) (m_ 40 16383) rfl rfl (by kernel_rfl) (fun _ _ _ h => h) (by rfl) (by intro w'; go_simp; with_reducible rfl) (by simp only [Act.put, List.setIfInBounds_toArray, List.set_cons_zero, List.set_cons_succ, i64_w, i32_w]; rfl) ?_
            refine pu_ 14 (some 86) (m_ 40 32767) rfl rfl (by kernel_rfl) (fun _ _ _ h => h) (by rfl) (by intro w'; go_simp; with_reducible rfl) (by simp only [Act.put, List.setIfInBounds_toArray, List.set_cons_zero, List.set_cons_succ, i64_w, i32_w]; rfl) ?_
            refine pu_ 15 (some 87) (m_ 40 65535) rfl rfl (by kernel_rfl) (fun _ _ _ h => h) (by rfl) (by intro w'; go_simp; with_reducible rfl) (by simp only [Act.put, List.setIfInBounds_toArray, List.set_cons_zero, List.set_cons_succ, i64_w, i32_w]; rfl) ?_
            refine tk_ 16 (some 88) (m_ 40 131071) rfl rfl (by kernel_rfl) (fun _ _ _ h => h) (by rfl) (by rintro w' ⟨s0, s1, s2, s3, s4, s5, s6, s7, s8, s9, s10, s11⟩; go_simp; with_reducible rfl) hHeld (by simp only [Act.put, List.setIfInBounds_toArray, List.set_cons_zero, List.set_cons_succ, i64_w, i32_w]; rfl) ?_
            refine pu_ 17 (some 89) (m_ 40 262143) rfl rfl (by kernel_rfl) (fun _ _ _ h => h) (by rfl) (by intro w'; go_simp; with_reducible rfl) (by simp only [Act.put, List.setIfInBounds_toArray, List.set_cons_zero, List.set_cons_succ, i64_w, i32_w]; rfl) ?_
            refine pu_ 18 (some 90) (m_ 40 524287) rfl rfl (by kernel_rfl) (fun _ _ _ h => h) (by rfl) (by intro w'; go_simp; with_reducible rfl) (by simp only [Act.put, List.setIfInBounds_toArray, List.set_cons_zero, List.set_cons_succ, i64_w, i32_w]; rfl) ?_
            refine pu_ 19 (some 91) (m_ 40 1048575) rfl rfl (by kernel_rfl) (fun _ _ _ h => h) (by rfl) (by intro w'; go_simp; with_reducible rfl) (by simp only [Act.put, List.setIfInBounds_toArray, List.set_cons_zero, List.set_cons_succ, i64_w, i32_w]; rfl) ?_
            refine pu_ 20 (some 92) (m_ 40 2097151) rfl rfl (by kernel_rfl) (fun _ _ _ h => h) (by rfl) (by intro w'; go_simp; with_reducible rfl) (by simp only [Act.put, List.setIfInBounds_toArray, List.set_cons_zero, List.set_cons_succ, i64_w, i32_w]; rfl) ?_
            refine pu_ 21 (some 93) (m_ 40 4194303) rfl rfl (by kernel_rfl) (fun _ _ _ h => h) (by rfl) (by intro w'; go_simp; with_reducible rfl) (by simp only [Act.put, List.setIfInBounds_toArray, List.set_cons_zero, List.set_cons_succ, i64_w, i32_w]; rfl) ?_
            refine tk_ 22 (some 94) (m_ 40 8388607) rfl rfl (by kernel_rfl) (fun _ _ _ h => h) (by rfl) (by rintro w' ⟨s0, s1, s2, s3, s4, s5, s6, s7, s8, s9, s10, s11⟩; go_simp; with_reducible rfl) hHeld (by simp only [Act.put, List.setIfInBounds_toArray, List.set_cons_zero, List.set_cons_succ, i64_w, i32_w]; rfl) ?_
            refine tk_ 23 (some 95) (m_ 40 16777215) rfl rfl (by kernel_rfl) (fun _ _ _ h => h) (by rfl) (by rintro w' ⟨s0, s1, s2, s3, s4, s5, s6, s7, s8, s9, s10, s11⟩; go_simp; with_reducible rfl) hHeld (by simp only [Act.put, List.setIfInBounds_toArray, List.set_cons_zero, List.set_cons_succ, i64_w, i32_w]; rfl) ?_
            refine pu_ 24 (some 96) (m_ 40 33554431) rfl rfl (by kernel_rfl) (fun _ _ _ h => h) (by rfl) (by intro w'; go_simp; with_reducible rfl) (by simp only [Act.put, List.setIfInBounds_toArray, List.set_cons_zero, List.set_cons_succ, i64_w, i32_w]; rfl) ?_
            refine pu_ 25 (some 97) (m_ 40 67108863) rfl rfl (by kernel_rfl) (fun _ _ _ h => h) (by rfl) (by intro w'; go_simp; with_reducible rfl) (by simp only [Act.put, List.setIfInBounds_toArray, List.set_cons_zero, List.set_cons_succ, i64_w, i32_w]; rfl) ?_
            refine pu_ 26 (some 98) (m_ 40 134217727) rfl rfl (by kernel_rfl) (fun _ _ _ h => h) (by rfl) (by intro w'; go_simp; with_reducible rfl) (by simp only [Act.put, List.setIfInBounds_toArray, List.set_cons_zero, List.set_cons_succ, i64_w, i32_w]; rfl) ?_
            refine pu_ 27 (some 99) (m_ 40 268435455) rfl rfl (by kernel_rfl) (fun _ _ _ h => h) (by rfl) (by intro w'; go_simp; with_reducible rfl) (by simp only [Act.put, List.setIfInBounds_toArray, List.set_cons_zero, List.set_cons_succ, i64_w, i32_w]; rfl) ?_
            refine pu_ 28 (some 100) (m_ 40 536870911) rfl rfl (by kernel_rfl) (fun _ _ _ h => h) (by rfl) (by intro w'; go_simp; with_reducible rfl) (by simp only [Act.put, List.setIfInBounds_toArray, List.set_cons_zero, List.set_cons_succ, i64_w, i32_w]; rfl) ?_
            refine tk_ 29 (some 101) (m_ 40 1073741823) rfl rfl (by kernel_rfl) (fun _ _ _ h => h) (by rfl) (by rintro w' ⟨s0, s1, s2, s3, s4, s5, s6, s7, s8, s9, s10, s11⟩; go_simp; with_reducible rfl) hHeld (by simp only [Act.put, List.setIfInBounds_toArray, List.set_cons_zero, List.set_cons_succ, i64_w, i32_w]; rfl) ?_
            refine pu_ 30 (some 102) (m_ 40 2147483647) rfl rfl (by kernel_rfl) (fun _ _ _ h => h) (by rfl) (by intro w'; go_simp; with_reducible rfl) (by simp only [Act.put, List.setIfInBounds_toArray, List.set_cons_zero, List.set_cons_succ, i64_w, i32_w]; rfl) ?_
            refine pu_ 31 (some 103) (m_ 40 4294967295) rfl rfl (by kernel_rfl) (fun _ _ _ h => h) (by rfl) (by intro w'; go_simp; with_reducible rfl) (by simp only [Act.put, List.setIfInBounds_toArray, List.set_cons_zero, List.set_cons_succ, i64_w, i32_w]; rfl) ?_
            refine po_ 32 (some 104) (m_ 40 8589934591) rfl rfl (by kernel_rfl) (fun _ _ _ h => h) (by rfl) (by simp only [Act.put, List.setIfInBounds_toArray, List.set_cons_zero, List.set_cons_succ, i64_w, i32_w]; rfl) ?_
            refine po_ 33 (some 105) (m_ 40 17179869183) rfl rfl (by kernel_rfl) (fun _ _ _ h => h) (by rfl) (by simp only [Act.put, List.setIfInBounds_toArray, List.set_cons_zero, List.set_cons_succ, i64_w, i32_w]; rfl) ?_
            refine po_ 34 (some 106) (m_ 40 34359738367) rfl rfl (by kernel_rfl) (fun _ _ _ h => h) (by rfl) (by simp only [Act.put, List.setIfInBounds_toArray, List.set_cons_zero, List.set_cons_succ, i64_w, i32_w]; rfl) ?_
            refine po_ 35 (some 107) (m_ 40 68719476735) rfl rfl (by kernel_rfl) (fun _ _ _ h => h) (by rfl) (by simp only [Act.put, List.setIfInBounds_toArray, List.set_cons_zero, List.set_cons_succ, i64_w, i32_w]; rfl) ?_
            refine po_ 36 (some 108) (m_ 40 137438953471) rfl rfl (by kernel_rfl) (fun _ _ _ h => h) (by rfl) (by simp only [Act.put, List.setIfInBounds_toArray, List.set_cons_zero, List.set_cons_succ, i64_w, i32_w]; rfl) ?_
            refine po_ 37 (some 109) (m_ 40 274877906943) rfl rfl (by kernel_rfl) (fun _ _ _ h => h) (by rfl) (by simp only [Act.put, List.setIfInBounds_toArray, List.set_cons_zero, List.set_cons_succ, i64_w, i32_w]; rfl) ?_
            refine pu_ 38 (some 110) (m_ 40 549755813887) rfl rfl (by kernel_rfl) (fun _ _ _ h => h) (by rfl) (by intro w'; go_simp; with_reducible rfl) (by simp only [Act.put, List.setIfInBounds_toArray, List.set_cons_zero, List.set_cons_succ, i64_w, i32_w]; rfl) ?_
            refine pu_ 39 (some 111) (m_ 40 1099511627775) rfl rfl (by kernel_rfl) (fun _ _ _ h => h) (by rfl) (by intro w'; go_simp; with_reducible rfl) (by simp only [Act.put, List.setIfInBounds_toArray, List.set_cons_zero, List.set_cons_succ, i64_w, i32_w]; rfl) ?_
            refine done_ (by kernel_rfl) ?_
            clear hHeld
            go_wp2
            go_roundw
            case rel => exact ⟨k + 1, by omega, by go_num, by rw [hn3.out]; go_num, HBx.out.drew.drew⟩
            case measure => simp [intOf]; omega
          · have c1 : (t3 == 100) = false := by simpa using c0
            clear c0
            by_cases c0 : t3 = 0
            · obtain rfl := r3 c0
              have c2 : (t3 == 0) = true := by simpa using c0
              clear c0
              clear r1 r2 r3
              refine start_ (n := 40) (S := fun w' => w'.cell? ⟨g3, m * 6, none⟩ = some (.string q0) ∧ w'.cell? ⟨g3, m * 6 + 1, none⟩ = some (.int .i64 q1) ∧ w'.cell? ⟨g3, m * 6 + 2, none⟩ = some (.bool q2) ∧ w'.cell? ⟨g3, m * 6 + 3, none⟩ = some (.int .i64 q3) ∧ w'.cell? ⟨g3, m * 6 + 4, none⟩ = some (.int .i64 q4) ∧ w'.cell? ⟨g3, m * 6 + 5, none⟩ = some (.int .i64 q5) ∧ w'.cell? ⟨wr.heap.size, 0, none⟩ = some (.string t0) ∧ w'.cell? ⟨wr.heap.size, 1, none⟩ = some (.int .i64 t1) ∧ w'.cell? ⟨wr.heap.size, 2, none⟩ = some (.bool t2) ∧ w'.cell? ⟨wr.heap.size, 3, none⟩ = some (.int .i64 t3) ∧ w'.cell? ⟨wr.heap.size, 4, none⟩ = some (.int .i64 t4) ∧ w'.cell? ⟨wr.heap.size, 5, none⟩ = some (.int .i64 t5)) (ds := []) (m_ 40 0) (by kernel_rfl) rfl (by kernel_rfl) ⟨y0, y1, y2, y3, y4, y5, u0, u1, u2, u3, u4, u5⟩ (fun hHeld => ?_)
              refine pu_ 0 (some 72) (m_ 40 1) rfl rfl (by kernel_rfl) (fun _ _ _ h => h) (by rfl) (by intro w'; go_simp; with_reducible rfl) (by simp only [Act.put, List.setIfInBounds_toArray, List.set_cons_zero, List.set_cons_succ, i64_w, i32_w]; rfl) ?_
              refine pu_ 1 (some 73) (m_ 40 3) rfl rfl (by kernel_rfl) (fun _ _ _ h => h) (by rfl) (by intro w'; go_simp; with_reducible rfl) (by simp only [Act.put, List.setIfInBounds_toArray, List.set_cons_zero, List.set_cons_succ, i64_w, i32_w]; rfl) ?_
              refine pu_ 2 (some 74) (m_ 40 7) rfl rfl (by kernel_rfl) (fun _ _ _ h => h) (by rfl) (by intro w'; go_simp; with_reducible rfl) (by simp only [Act.put, List.setIfInBounds_toArray, List.set_cons_zero, List.set_cons_succ, i64_w, i32_w]; rfl) ?_
              refine tk_ 3 (some 75) (m_ 40 15) rfl rfl (by kernel_rfl) (fun _ _ _ h => h) (by rfl) (by rintro w' ⟨s0, s1, s2, s3, s4, s5, s6, s7, s8, s9, s10, s11⟩; go_simp; with_reducible rfl) hHeld (by simp only [Act.put, List.setIfInBounds_toArray, List.set_cons_zero, List.set_cons_succ, i64_w, i32_w]; rfl) ?_
              refine tk_ 4 (some 76) (m_ 40 31) rfl rfl (by kernel_rfl) (fun _ _ _ h => h) (by rfl) (by rintro w' ⟨s0, s1, s2, s3, s4, s5, s6, s7, s8, s9, s10, s11⟩; go_simp; with_reducible rfl) hHeld (by simp only [Act.put, List.setIfInBounds_toArray, List.set_cons_zero, List.set_cons_succ, i64_w, i32_w]; rfl) ?_
              refine pu_ 5 (some 77) (m_ 40 63) rfl rfl (by kernel_rfl) (fun _ _ _ h => h) (by rfl) (by intro w'; go_simp; with_reducible rfl) (by simp only [Act.put, List.setIfInBounds_toArray, List.set_cons_zero, List.set_cons_succ, i64_w, i32_w]; rfl) ?_
              refine pu_ 6 (some 78) (m_ 40 127) rfl rfl (by kernel_rfl) (fun _ _ _ h => h) (by rfl) (by intro w'; go_simp; with_reducible rfl) (by simp only [Act.put, List.setIfInBounds_toArray, List.set_cons_zero, List.set_cons_succ, i64_w, i32_w]; rfl) ?_
              refine po_ 7 (some 79) (m_ 40 255) rfl rfl (by kernel_rfl) (fun _ _ _ h => h) (by rfl) (by simp only [Act.put, List.setIfInBounds_toArray, List.set_cons_zero, List.set_cons_succ, i64_w, i32_w]; rfl) ?_
              refine po_ 8 (some 80) (m_ 40 511) rfl rfl (by kernel_rfl) (fun _ _ _ h => h) (by rfl) (by simp only [Act.put, List.setIfInBounds_toArray, List.set_cons_zero, List.set_cons_succ, i64_w, i32_w]; rfl) ?_
              refine po_ 9 (some 81) (m_ 40 1023) rfl rfl (by kernel_rfl) (fun _ _ _ h => h) (by rfl) (by simp only [Act.put, List.setIfInBounds_toArray, List.set_cons_zero, List.set_cons_succ, i64_w, i32_w]; rfl) ?_
              refine po_ 10 (some 82) (m_ 40 2047) rfl rfl (by kernel_rfl) (fun _ _ _ h => h) (by rfl) (by simp only [Act.put, List.setIfInBounds_toArray, List.set_cons_zero, List.set_cons_succ, i64_w, i32_w]; rfl) ?_
              refine po_ 11 (some 83) (m_ 40 4095) rfl rfl (by kernel_rfl) (fun _ _ _ h => h) (by rfl) (by simp only [Act.put, List.setIfInBounds_toArray, List.set_cons_zero, List.set_cons_succ, i64_w, i32_w]; rfl) ?_
              refine po_ 12 (some 84) (m_ 40 8191) rfl rfl (by kernel_rfl) (fun _ _ _ h => h) (by rfl) (by simp only [Act.put, List.setIfInBounds_toArray, List.set_cons_zero, List.set_cons_succ, i64_w, i32_w]; rfl) ?_
              refine pu_ 13 (some 85) (m_ 40 16383) rfl rfl (by kernel_rfl) (fun _ _ _ h => h) (by rfl) (by intro w'; go_simp; with_reducible rfl) (by simp only [Act.put, List.setIfInBounds_toArray, List.set_cons_zero, List.set_cons_succ, i64_w, i32_w]; rfl) ?_
              refine pu_ 14 (some 86) (m_ 40 32767) rfl rfl (by kernel_rfl) (fun _ _ _ h => h) (by rfl) (by intro w'; go_simp; with_reducible rfl) (by simp only [Act.put, List.setIfInBounds_toArray, List.set_cons_zero, List.set_cons_succ, i64_w, i32_w]; rfl) ?_
              refine pu_ 15 (some 87) (m_ 40 65535) rfl rfl (by kernel_rfl) (fun _ _ _ h => h) (by rfl) (by intro w'; go_simp; with_reducible rfl) (by simp only [Act.put, List.setIfInBounds_toArray, List.set_cons_zero, List.set_cons_succ, i64_w, i32_w]; rfl) ?_
              refine tk_ 16 (some 88) (m_ 40 131071) rfl rfl (by kernel_rfl) (fun _ _ _ h => h) (by rfl) (by rintro w' ⟨s0, s1, s2, s3, s4, s5, s6, s7, s8, s9, s10, s11⟩; go_simp; with_reducible rfl) hHeld (by simp only [Act.put, List.setIfInBounds_toArray, List.set_cons_zero, List.set_cons_succ, i64_w, i32_w]; rfl) ?_
              refine pu_ 17 (some 89) (m_ 40 262143) rfl rfl (by kernel_rfl) (fun _ _ _ h => h) (by rfl) (by intro w'; go_simp; with_reducible rfl) (by simp only [Act.put, List.setIfInBounds_toArray, List.set_cons_zero, List.set_cons_succ, i64_w, i32_w]; rfl) ?_
              refine pu_ 18 (some 90) (m_ 40 524287) rfl rfl (by kernel_rfl) (fun _ _ _ h => h) (by rfl) (by intro w'; go_simp; with_reducible rfl) (by simp only [Act.put, List.setIfInBounds_toArray, List.set_cons_zero, List.set_cons_succ, i64_w, i32_w]; rfl) ?_
              refine po_ 19 (some 91) (m_ 40 1048575) rfl rfl (by kernel_rfl) (fun _ _ _ h => h) (by rfl) (by simp only [Act.put, List.setIfInBounds_toArray, List.set_cons_zero, List.set_cons_succ, i64_w, i32_w]; rfl) ?_
              refine po_ 20 (some 92) (m_ 40 2097151) rfl rfl (by kernel_rfl) (fun _ _ _ h => h) (by rfl) (by simp only [Act.put, List.setIfInBounds_toArray, List.set_cons_zero, List.set_cons_succ, i64_w, i32_w]; rfl) ?_
              refine po_ 21 (some 93) (m_ 40 4194303) rfl rfl (by kernel_rfl) (fun _ _ _ h => h) (by rfl) (by simp only [Act.put, List.setIfInBounds_toArray, List.set_cons_zero, List.set_cons_succ, i64_w, i32_w]; rfl) ?_
              refine po_ 22 (some 94) (m_ 40 8388607) rfl rfl (by kernel_rfl) (fun _ _ _ h => h) (by rfl) (by simp only [Act.put, List.setIfInBounds_toArray, List.set_cons_zero, List.set_cons_succ, i64_w, i32_w]; rfl) ?_
              refine po_ 23 (some 95) (m_ 40 16777215) rfl rfl (by kernel_rfl) (fun _ _ _ h => h) (by rfl) (by simp only [Act.put, List.setIfInBounds_toArray, List.set_cons_zero, List.set_cons_succ, i64_w, i32_w]; rfl) ?_
              refine po_ 24 (some 96) (m_ 40 33554431) rfl rfl (by kernel_rfl) (fun _ _ _ h => h) (by rfl) (by simp only [Act.put, List.setIfInBounds_toArray, List.set_cons_zero, List.set_cons_succ, i64_w, i32_w]; rfl) ?_
              refine pu_ 25 (some 97) (m_ 40 67108863) rfl rfl (by kernel_rfl) (fun _ _ _ h => h) (by rfl) (by intro w'; go_simp; with_reducible rfl) (by simp only [Act.put, List.setIfInBounds_toArray, List.set_cons_zero, List.set_cons_succ, i64_w, i32_w]; rfl) ?_
              refine pu_ 26 (some 98) (m_ 40 134217727) rfl rfl (by kernel_rfl) (fun _ _ _ h => h) (by rfl) (by intro w'; go_simp; with_reducible rfl) (by simp only [Act.put, List.setIfInBounds_toArray, List.set_cons_zero, List.set_cons_succ, i64_w, i32_w]; rfl) ?_
              refine pu_ 27 (some 99) (m_ 40 268435455) rfl rfl (by kernel_rfl) (fun _ _ _ h => h) (by rfl) (by intro w'; go_simp; with_reducible rfl) (by simp only [Act.put, List.setIfInBounds_toArray, List.set_cons_zero, List.set_cons_succ, i64_w, i32_w]; rfl) ?_
              refine pu_ 28 (some 100) (m_ 40 536870911) rfl rfl (by kernel_rfl) (fun _ _ _ h => h) (by rfl) (by intro w'; go_simp; with_reducible rfl) (by simp only [Act.put, List.setIfInBounds_toArray, List.set_cons_zero, List.set_cons_succ, i64_w, i32_w]; rfl) ?_
              refine tk_ 29 (some 101) (m_ 40 1073741823) rfl rfl (by kernel_rfl) (fun _ _ _ h => h) (by rfl) (by rintro w' ⟨s0, s1, s2, s3, s4, s5, s6, s7, s8, s9, s10, s11⟩; go_simp; with_reducible rfl) hHeld (by simp only [Act.put, List.setIfInBounds_toArray, List.set_cons_zero, List.set_cons_succ, i64_w, i32_w]; rfl) ?_
              refine pu_ 30 (some 102) (m_ 40 2147483647) rfl rfl (by kernel_rfl) (fun _ _ _ h => h) (by rfl) (by intro w'; go_simp; with_reducible rfl) (by simp only [Act.put, List.setIfInBounds_toArray, List.set_cons_zero, List.set_cons_succ, i64_w, i32_w]; rfl) ?_
              refine pu_ 31 (some 103) (m_ 40 4294967295) rfl rfl (by kernel_rfl) (fun _ _ _ h => h) (by rfl) (by intro w'; go_simp; with_reducible rfl) (by simp only [Act.put, List.setIfInBounds_toArray, List.set_cons_zero, List.set_cons_succ, i64_w, i32_w]; rfl) ?_
              refine pu_ 32 (some 104) (m_ 40 8589934591) rfl rfl (by kernel_rfl) (fun _ _ _ h => h) (by rfl) (by intro w'; go_simp; with_reducible rfl) (by simp only [Act.put, List.setIfInBounds_toArray, List.set_cons_zero, List.set_cons_succ, i64_w, i32_w]; rfl) ?_
              refine pu_ 33 (some 105) (m_ 40 17179869183) rfl rfl (by kernel_rfl) (fun _ _ _ h => h) (by rfl) (by intro w'; go_simp; with_reducible rfl) (by simp only [Act.put, List.setIfInBounds_toArray, List.set_cons_zero, List.set_cons_succ, i64_w, i32_w]; rfl) ?_
              refine pu_ 34 (some 106) (m_ 40 34359738367) rfl rfl (by kernel_rfl) (fun _ _ _ h => h) (by rfl) (by intro w'; go_simp; with_reducible rfl) (by simp only [Act.put, List.setIfInBounds_toArray, List.set_cons_zero, List.set_cons_succ, i64_w, i32_w]; rfl) ?_
              refine pu_ 36 (some 108) (m_ 40 103079215103) rfl rfl (by kernel_rfl) (fun _ _ _ h => h) (by rfl) (by intro w'; go_simp; with_reducible rfl) (by simp only [Act.put, List.setIfInBounds_toArray, List.set_cons_zero, List.set_cons_succ, i64_w, i32_w]; rfl) ?_
              refine tk_ 35 (some 107) (m_ 40 137438953471) rfl rfl (by kernel_rfl) (fun _ _ _ h => h) (by rfl) (by rintro w' ⟨s0, s1, s2, s3, s4, s5, s6, s7, s8, s9, s10, s11⟩; go_simp; with_reducible rfl) hHeld (by simp only [Act.put, List.setIfInBounds_toArray, List.set_cons_zero, List.set_cons_succ, i64_w, i32_w]; rfl) ?_
              refine pu_ 37 (some 109) (m_ 40 274877906943) rfl rfl (by kernel_rfl) (fun _ _ _ h => h) (by rfl) (by intro w'; go_simp; with_reducible rfl) (by simp only [Act.put, List.setIfInBounds_toArray, List.set_cons_zero, List.set_cons_succ, i64_w, i32_w]; rfl) ?_
              refine pu_ 38 (some 110) (m_ 40 549755813887) rfl rfl (by kernel_rfl) (fun _ _ _ h => h) (by rfl) (by intro w'; go_simp; with_reducible rfl) (by simp only [Act.put, List.setIfInBounds_toArray, List.set_cons_zero, List.set_cons_succ, i64_w, i32_w]; rfl) ?_
              refine pu_ 39 (some 111) (m_ 40 1099511627775) rfl rfl (by kernel_rfl) (fun _ _ _ h => h) (by rfl) (by intro w'; go_simp; with_reducible rfl) (by simp only [Act.put, List.setIfInBounds_toArray, List.set_cons_zero, List.set_cons_succ, i64_w, i32_w]; rfl) ?_
              refine done_ (by kernel_rfl) ?_
              clear hHeld
              go_wp2
              go_roundw
              case rel => exact ⟨k + 1, by omega, by go_num, by rw [hn3.out]; go_num, HBx.out.drew.drew⟩
              case measure => simp [intOf]; omega
            · have c2 : (t3 == 0) = false := by simpa using c0
              clear c0
              clear r1 r2 r3
              refine start_ (n := 40) (S := fun w' => w'.cell? ⟨g3, m * 6, none⟩ = some (.string q0) ∧ w'.cell? ⟨g3, m * 6 + 1, none⟩ = some (.int .i64 q1) ∧ w'.cell? ⟨g3, m * 6 + 2, none⟩ = some (.bool q2) ∧ w'.cell? ⟨g3, m * 6 + 3, none⟩ = some (.int .i64 q3) ∧ w'.cell? ⟨g3, m * 6 + 4, none⟩ = some (.int .i64 q4) ∧ w'.cell? ⟨g3, m * 6 + 5, none⟩ = some (.int .i64 q5) ∧ w'.cell? ⟨wr.heap.size, 0, none⟩ = some (.string t0) ∧ w'.cell? ⟨wr.heap.size, 1, none⟩ = some (.int .i64 t1) ∧ w'.cell? ⟨wr.heap.size, 2, none⟩ = some (.bool t2) ∧ w'.cell? ⟨wr.heap.size, 3, none⟩ = some (.int .i64 t3) ∧ w'.cell? ⟨wr.heap.size, 4, none⟩ = some (.int .i64 t4) ∧ w'.cell? ⟨wr.heap.size, 5, none⟩ = some (.int .i64 t5)) (ds := []) (m_ 40 0) (by kernel_rfl) rfl (by kernel_rfl) ⟨y0, y1, y2, y3, y4, y5, u0, u1, u2, u3, u4, u5⟩ (fun hHeld => ?_)
              refine pu_ 0 (some 72) (m_ 40 1) rfl rfl (by kernel_rfl) (fun _ _ _ h => h) (by rfl) (by intro w'; go_simp; with_reducible rfl) (by simp only [Act.put, List.setIfInBounds_toArray, List.set_cons_zero, List.set_cons_succ, i64_w, i32_w]; rfl) ?_
              refine pu_ 1 (some 73) (m_ 40 3) rfl rfl (by kernel_rfl) (fun _ _ _ h => h) (by rfl) (by intro w'; go_simp; with_reducible rfl) (by simp only [Act.put, List.setIfInBounds_toArray, List.set_cons_zero, List.set_cons_succ, i64_w, i32_w]; rfl) ?_
              refine pu_ 2 (some 74) (m_ 40 7) rfl rfl (by kernel_rfl) (fun _ _ _ h => h) (by rfl) (by intro w'; go_simp; with_reducible rfl) (by simp only [Act.put, List.setIfInBounds_toArray, List.set_cons_zero, List.set_cons_succ, i64_w, i32_w]; rfl) ?_
              refine tk_ 3 (some 75) (m_ 40 15) rfl rfl (by kernel_rfl) (fun _ _ _ h => h) (by rfl) (by rintro w' ⟨s0, s1, s2, s3, s4, s5, s6, s7, s8, s9, s10, s11⟩; go_simp; with_reducible rfl) hHeld (by simp only [Act.put, List.setIfInBounds_toArray, List.set_cons_zero, List.set_cons_succ, i64_w, i32_w]; rfl) ?_
              refine tk_ 4 (some 76) (m_ 40 31) rfl rfl (by kernel_rfl) (fun _ _ _ h => h) (by rfl) (by rintro w' ⟨s0, s1, s2, s3, s4, s5, s6, s7, s8, s9, s10, s11⟩; go_simp; with_reducible rfl) hHeld (by simp only [Act.put, List.setIfInBounds_toArray, List.set_cons_zero, List.set_cons_succ, i64_w, i32_w]; rfl) ?_
              refine pu_ 5 (some 77) (m_ 40 63) rfl rfl (by kernel_rfl) (fun _ _ _ h => h) (by rfl) (by intro w'; go_simp; with_reducible rfl) (by simp only [Act.put, List.setIfInBounds_toArray, List.set_cons_zero, List.set_cons_succ, i64_w, i32_w]; rfl) ?_
              refine pu_ 6 (some 78) (m_ 40 127) rfl rfl (by kernel_rfl) (fun _ _ _ h => h) (by rfl) (by intro w'; go_simp; with_reducible rfl) (by simp only [Act.put, List.setIfInBounds_toArray, List.set_cons_zero, List.set_cons_succ, i64_w, i32_w]; rfl) ?_
              refine po_ 7 (some 79) (m_ 40 255) rfl rfl (by kernel_rfl) (fun _ _ _ h => h) (by rfl) (by simp only [Act.put, List.setIfInBounds_toArray, List.set_cons_zero, List.set_cons_succ, i64_w, i32_w]; rfl) ?_
              refine po_ 8 (some 80) (m_ 40 511) rfl rfl (by kernel_rfl) (fun _ _ _ h => h) (by rfl) (by simp only [Act.put, List.setIfInBounds_toArray, List.set_cons_zero, List.set_cons_succ, i64_w, i32_w]; rfl) ?_
              refine po_ 9 (some 81) (m_ 40 1023) rfl rfl (by kernel_rfl) (fun _ _ _ h => h) (by rfl) (by simp only [Act.put, List.setIfInBounds_toArray, List.set_cons_zero, List.set_cons_succ, i64_w, i32_w]; rfl) ?_
              refine po_ 10 (some 82) (m_ 40 2047) rfl rfl (by kernel_rfl) (fun _ _ _ h => h) (by rfl) (by simp only [Act.put, List.setIfInBounds_toArray, List.set_cons_zero, List.set_cons_succ, i64_w, i32_w]; rfl) ?_
              refine po_ 11 (some 83) (m_ 40 4095) rfl rfl (by kernel_rfl) (fun _ _ _ h => h) (by rfl) (by simp only [Act.put, List.setIfInBounds_toArray, List.set_cons_zero, List.set_cons_succ, i64_w, i32_w]; rfl) ?_
              refine po_ 12 (some 84) (m_ 40 8191) rfl rfl (by kernel_rfl) (fun _ _ _ h => h) (by rfl) (by simp only [Act.put, List.setIfInBounds_toArray, List.set_cons_zero, List.set_cons_succ, i64_w, i32_w]; rfl) ?_
              refine pu_ 13 (some 85) (m_ 40 16383) rfl rfl (by kernel_rfl) (fun _ _ _ h => h) (by rfl) (by intro w'; go_simp; with_reducible rfl) (by simp only [Act.put, List.setIfInBounds_toArray, List.set_cons_zero, List.set_cons_succ, i64_w, i32_w]; rfl) ?_
              refine pu_ 14 (some 86) (m_ 40 32767) rfl rfl (by kernel_rfl) (fun _ _ _ h => h) (by rfl) (by intro w'; go_simp; with_reducible rfl) (by simp only [Act.put, List.setIfInBounds_toArray, List.set_cons_zero, List.set_cons_succ, i64_w, i32_w]; rfl) ?_
              refine pu_ 15 (some 87) (m_ 40 65535) rfl rfl (by kernel_rfl) (fun _ _ _ h => h) (by rfl) (by intro w'; go_simp; with_reducible rfl) (by simp only [Act.put, List.setIfInBounds_toArray, List.set_cons_zero, List.set_cons_succ, i64_w, i32_w]; rfl) ?_
              refine tk_ 16 (some 88) (m_ 40 131071) rfl rfl (by kernel_rfl) (fun _ _ _ h => h) (by rfl) (by rintro w' ⟨s0, s1, s2, s3, s4, s5, s6, s7, s8, s9, s10, s11⟩; go_simp; with_reducible rfl) hHeld (by simp only [Act.put, List.setIfInBounds_toArray, List.set_cons_zero, List.set_cons_succ, i64_w, i32_w]; rfl) ?_
              refine pu_ 17 (some 89) (m_ 40 262143) rfl rfl (by kernel_rfl) (fun _ _ _ h => h) (by rfl) (by intro w'; go_simp; with_reducible rfl) (by simp only [Act.put, List.setIfInBounds_toArray, List.set_cons_zero, List.set_cons_succ, i64_w, i32_w]; rfl) ?_
              refine pu_ 18 (some 90) (m_ 40 524287) rfl rfl (by kernel_rfl) (fun _ _ _ h => h) (by rfl) (by intro w'; go_simp; with_reducible rfl) (by simp only [Act.put, List.setIfInBounds_toArray, List.set_cons_zero, List.set_cons_succ, i64_w, i32_w]; rfl) ?_
              refine po_ 19 (some 91) (m_ 40 1048575) rfl rfl (by kernel_rfl) (fun _ _ _ h => h) (by rfl) (by simp only [Act.put, List.setIfInBounds_toArray, List.set_cons_zero, List.set_cons_succ, i64_w, i32_w]; rfl) ?_
              refine po_ 20 (some 92) (m_ 40 2097151) rfl rfl (by kernel_rfl) (fun _ _ _ h => h) (by rfl) (by simp only [Act.put, List.setIfInBounds_toArray, List.set_cons_zero, List.set_cons_succ, i64_w, i32_w]; rfl) ?_
              refine po_ 21 (some 93) (m_ 40 4194303) rfl rfl (by kernel_rfl) (fun _ _ _ h => h) (by rfl) (by simp only [Act.put, List.setIfInBounds_toArray, List.set_cons_zero, List.set_cons_succ, i64_w, i32_w]; rfl) ?_
              refine po_ 22 (some 94) (m_ 40 8388607) rfl rfl (by kernel_rfl) (fun _ _ _ h => h) (by rfl) (by simp only [Act.put, List.setIfInBounds_toArray, List.set_cons_zero, List.set_cons_succ, i64_w, i32_w]; rfl) ?_
              refine po_ 23 (some 95) (m_ 40 16777215) rfl rfl (by kernel_rfl) (fun _ _ _ h => h) (by rfl) (by simp only [Act.put, List.setIfInBounds_toArray, List.set_cons_zero, List.set_cons_succ, i64_w, i32_w]; rfl) ?_
              refine po_ 24 (some 96) (m_ 40 33554431) rfl rfl (by kernel_rfl) (fun _ _ _ h => h) (by rfl) (by simp only [Act.put, List.setIfInBounds_toArray, List.set_cons_zero, List.set_cons_succ, i64_w, i32_w]; rfl) ?_
              refine pu_ 25 (some 97) (m_ 40 67108863) rfl rfl (by kernel_rfl) (fun _ _ _ h => h) (by rfl) (by intro w'; go_simp; with_reducible rfl) (by simp only [Act.put, List.setIfInBounds_toArray, List.set_cons_zero, List.set_cons_succ, i64_w, i32_w]; rfl) ?_
              refine pu_ 26 (some 98) (m_ 40 134217727) rfl rfl (by kernel_rfl) (fun _ _ _ h => h) (by rfl) (by intro w'; go_simp; with_reducible rfl) (by simp only [Act.put, List.setIfInBounds_toArray, List.set_cons_zero, List.set_cons_succ, i64_w, i32_w]; rfl) ?_
              refine pu_ 27 (some 99) (m_ 40 268435455) rfl rfl (by kernel_rfl) (fun _ _ _ h => h) (by rfl) (by intro w'; go_simp; with_reducible rfl) (by simp only [Act.put, List.setIfInBounds_toArray, List.set_cons_zero, List.set_cons_succ, i64_w, i32_w]; rfl) ?_
              refine pu_ 28 (some 100) (m_ 40 536870911) rfl rfl (by kernel_rfl) (fun _ _ _ h => h) (by rfl) (by intro w'; go_simp; with_reducible rfl) (by simp only [Act.put, List.setIfInBounds_toArray, List.set_cons_zero, List.set_cons_succ, i64_w, i32_w]; rfl) ?_
              refine tk_ 29 (some 101) (m_ 40 1073741823) rfl rfl (by kernel_rfl) (fun _ _ _ h => h) (by rfl) (by rintro w' ⟨s0, s1, s2, s3, s4, s5, s6, s7, s8, s9, s10, s11⟩; go_simp; with_reducible rfl) hHeld (by simp only [Act.put, List.setIfInBounds_toArray, List.set_cons_zero, List.set_cons_succ, i64_w, i32_w]; rfl) ?_
              refine pu_ 30 (some 102) (m_ 40 2147483647) rfl rfl (by kernel_rfl) (fun _ _ _ h => h) (by rfl) (by intro w'; go_simp; with_reducible rfl) (by simp only [Act.put, List.setIfInBounds_toArray, List.set_cons_zero, List.set_cons_succ, i64_w, i32_w]; rfl) ?_
              refine pu_ 31 (some 103) (m_ 40 4294967295) rfl rfl (by kernel_rfl) (fun _ _ _ h => h) (by rfl) (by intro w'; go_simp; with_reducible rfl) (by simp only [Act.put, List.setIfInBounds_toArray, List.set_cons_zero, List.set_cons_succ, i64_w, i32_w]; rfl) ?_
              refine po_ 32 (some 104) (m_ 40 8589934591) rfl rfl (by kernel_rfl) (fun _ _ _ h => h) (by rfl) (by simp only [Act.put, List.setIfInBounds_toArray, List.set_cons_zero, List.set_cons_succ, i64_w, i32_w]; rfl) ?_
              refine po_ 33 (some 105) (m_ 40 17179869183) rfl rfl (by kernel_rfl) (fun _ _ _ h => h) (by rfl) (by simp only [Act.put, List.setIfInBounds_toArray, List.set_cons_zero, List.set_cons_succ, i64_w, i32_w]; rfl) ?_
              refine po_ 34 (some 106) (m_ 40 34359738367) rfl rfl (by kernel_rfl) (fun _ _ _ h => h) (by rfl) (by simp only [Act.put, List.setIfInBounds_toArray, List.set_cons_zero, List.set_cons_succ, i64_w, i32_w]; rfl) ?_
              refine po_ 35 (some 107) (m_ 40 68719476735) rfl rfl (by kernel_rfl) (fun _ _ _ h => h) (by rfl) (by simp only [Act.put, List.setIfInBounds_toArray, List.set_cons_zero, List.set_cons_succ, i64_w, i32_w]; rfl) ?_
              refine po_ 36 (some 108) (m_ 40 137438953471) rfl rfl (by kernel_rfl) (fun _ _ _ h => h) (by rfl) (by simp only [Act.put, List.setIfInBounds_toArray, List.set_cons_zero, List.set_cons_succ, i64_w, i32_w]; rfl) ?_
              refine po_ 37 (some 109) (m_ 40 274877906943) rfl rfl (by kernel_rfl) (fun _ _ _ h => h) (by rfl) (by simp only [Act.put, List.setIfInBounds_toArray, List.set_cons_zero, List.set_cons_succ, i64_w, i32_w]; rfl) ?_
              refine pu_ 38 (some 110) (m_ 40 549755813887) rfl rfl (by kernel_rfl) (fun _ _ _ h => h) (by rfl) (by intro w'; go_simp; with_reducible rfl) (by simp only [Act.put, List.setIfInBounds_toArray, List.set_cons_zero, List.set_cons_succ, i64_w, i32_w]; rfl) ?_
              refine pu_ 39 (some 111) (m_ 40 1099511627775) rfl rfl (by kernel_rfl) (fun _ _ _ h => h) (by rfl) (by intro w'; go_simp; with_reducible rfl) (by simp only [Act.put, List.setIfInBounds_toArray, List.set_cons_zero, List.set_cons_succ, i64_w, i32_w]; rfl) ?_
              refine done_ (by kernel_rfl) ?_
              clear hHeld
              go_wp2
              go_roundw
              case rel => exact ⟨k + 1, by omega, by go_num, by rw [hn3.out]; go_num, HBx.out.drew.drew⟩
              case measure => simp [intOf]; omega
      · have e3 : (t2 == up) = false := by simpa using k3
        have hn2 := Lib.hid (show ofWay (L.take (k + 1)) up = ofWay (L.take k) up from by rw [hnx.out, if_neg k3])
        clear hgt hnx k3
        go_wp2
        go_roundw
        case rel => exact ⟨k + 1, by omega, by go_num, by rw [hn2.out], HBx.out⟩
        case measure => simp [intOf]; omega
    · have hk2 : k = L.length := by omega
      subst hk2
      have hnl : ¬ (L.length < L.length) := by omega
      rw [List.take_length]
      clear hB
      have hBB := Lib.hid (bw_below hB4.out HB.out)
      clear HNC HTC Hda
      go_wp2_with (go_at_call 6; (with_reducible refine (alive_any _).mono ?_); rintro e w6 ⟨rfl, hB6⟩; have hB6' := Lib.hid hB6; clear hB6)
      go_ret
      exact ⟨by simp, bw_below hBB.out hB6'.out⟩
theorem LinkDraws_any (sv : Value) (L : List Tox) (up : Bool) (seed room : Int) (w : World) (hs : Seats w sv L up seed room) :
    Calls Try.prog 4 #[sv] w fun e w' => e = .returned (.bool true) ∧ Below w.heap.size w w' := by
  obtain ⟨sa, sc, rfl, hs, h0, h1⟩ := hs
  by_cases hr : linkE L room = 0
  · exact LinkDraws_yes sa sc L up seed room w hs h0 h1 hr
  · exact LinkDraws_none sa sc L up seed room w hs h0 h1 hr
end Go.Proofs.Ytoiibmcbjjnpbaa.Link
