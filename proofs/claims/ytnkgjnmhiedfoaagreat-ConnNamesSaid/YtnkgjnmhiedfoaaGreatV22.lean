/- The chain's simple calls (chapter 11). Conditions: the bytes are fewer than 2^30; at most so many are lost; the toxics are such as may be. -/
import Derived.Test.YtnkgjnmhiedfoaaGreatV21
namespace Go.Proofs.YtnkgjnmhiedfoaaGreat.Chain
open Go.RowKit Mem Tick Cargo Toxic Stage
open Go.Proofs.YtnkgjnmhiedfoaaGreatW.PrintLast Pu
set_option maxRecDepth 100000
set_option linter.unusedVariables false
set_option linter.unusedSimpArgs false
variable {w w' : World} {F H : Nat → Prop} {t : Pt} {a : Pa} {c : Nat} {D : Lay} {x : Ch}
structure OkC (x : Ch) (M Q : Int) : Prop where
  two : 2 ≤ x.l.length
  ten : x.l.length ≤ 10
  r0 : 1 ≤ x.room
  r1 : x.room ≤ 4096
  held : (heldL x.l : Int) ≤ M
  lost0 : 0 ≤ x.lost
  lost : x.lost + heldL x.l ≤ M
  ok : ∀ a ∈ x.l, Ok a.s ∧ a.s.passed ≤ Q
def mapK (f : Pa → Pa) (k : Nat) (l : List Pa) : List Pa := (l.take k).map f ++ l.drop k
theorem mapK_get {f : Pa → Pa} {k i : Nat} {l : List Pa} (h : k ≤ i) : (mapK f k l)[i]? = l[i]? := by
  unfold mapK
  by_cases hn : k ≤ l.length
  · rw [List.getElem?_append_right (by simp; omega), List.getElem?_drop]
    congr 1
    simp; omega
  · rw [List.getElem?_eq_none (by simp; omega), List.getElem?_eq_none (by omega)]
theorem mapK_len (f : Pa → Pa) (k : Nat) (l : List Pa) : (mapK f k l).length = l.length := by
  unfold mapK
  rw [List.length_append, List.length_map, ← List.length_append, List.take_append_drop]
theorem take_succ_ {l : List Pa} {k : Nat} {a : Pa} (h : l[k]? = some a) : l.take (k + 1) = l.take k ++ [a] := by
  rw [List.take_add_one, h]; rfl
theorem mapK_set {f : Pa → Pa} {k : Nat} {l : List Pa} {a : Pa} (h : l[k]? = some a) : (mapK f k l).set k (f a) = mapK f (k + 1) l := by
  have hk := (List.getElem?_eq_some_iff.1 h).1
  have hl : ((l.take k).map f).length = k := by simp; omega
  unfold mapK
  rw [List.set_append_right _ _ (by omega), hl, Nat.sub_self, take_succ_ h, List.map_append, List.append_assoc]
  have e : l.drop k = a :: l.drop (k + 1) := by
    obtain ⟨hi, he⟩ := List.getElem?_eq_some_iff.1 h
    rw [← he, List.getElem_cons_drop]
  rw [e]
  rfl
theorem mapK_zero (f : Pa → Pa) (l : List Pa) : mapK f 0 l = l := rfl
theorem mapK_all (f : Pa → Pa) (l : List Pa) : mapK f l.length l = l.map f := by
  unfold mapK
  rw [List.take_length, List.drop_length, List.append_nil]
theorem heldL_succ {l : List Pa} {k : Nat} {a : Pa} (h : l[k]? = some a) : heldL (l.take (k + 1)) = heldL (l.take k) + held a.s := by
  rw [take_succ_ h, heldL_append]; simp [heldL]
theorem heldL_take_le (l : List Pa) (k : Nat) : heldL (l.take k) ≤ heldL l := by
  have := congrArg heldL (List.take_append_drop k l)
  rw [heldL_append] at this
  omega
theorem held_le {l : List Pa} {k : Nat} {a : Pa} (h : l[k]? = some a) : held a.s ≤ heldL l := by
  have h1 := heldL_succ h
  have h2 := heldL_take_le l (k + 1)
  omega
theorem wr_add (p : Int) (n : Nat) (h0 : 0 ≤ p) (h1 : p + n ≤ 1000000000) : wrap64 (p + (n : Int)) = p + (n : Int) := by unfold wrap64; omega
theorem wr_addN (p n : Nat) (h1 : p + n ≤ 1000000000) : wrap64 ((p : Int) + (n : Int)) = ((p + n : Nat) : Int) := by unfold wrap64; omega
theorem end_any (h : PG w H t a) (now : Int) :
    Calls Tryz.prog 65 #[ptr t.p, .int .i64 now] w fun e w' => e = .returned (.tuple #[]) ∧ ∃ H', PG w' H' t (endA now a) ∧ Did H w w' ∧ Stem H H' w := by
  have h1 := h.shut true
  have c1 : w.cell? ⟨t.p, 1, none⟩ = some (.bool a.cl) := h.blk.cell 1
  have f1 := h.blk.free 1
  have c0 : (w.setCell ⟨t.p, 1, none⟩ (.bool true)).cell? ⟨t.p, 0, none⟩ = some (ptr t.b) := h1.1.blk.cell 0
  have hd1 := Lib.hid ((Did.refl H w).setCell (p := ⟨t.p, 1, none⟩) (.inl h1.2) (.bool true))
  obtain ⟨G, hs, hG, hK⟩ := h1.1.step
  have hK' := Lib.hid hK
  have hs' := Lib.hid hs
  clear h h1 hK hs
  go_enter Tryz.func65, Tryz.ntmps65
  go_wp2_with (go_at_call 93; (with_reducible refine (close_any hs'.out now).mono ?_); rintro e w2 ⟨rfl, hS2, hD2⟩; obtain ⟨H', hP, hD3, hS3, _⟩ := hK'.out _ _ _ hS2 hD2 (Stem.refl _ _); have hr := Lib.hid (show PG w2 H' t (endA now a) ∧ Did H w w2 ∧ Stem H H' w from ⟨hP, hd1.out.trans (Stem.refl _ _) hD3, (Stem.refl H w).trans hd1.out.size hS3⟩); clear hS2 hD2 hP hD3 hS3)
  go_end0
  exact ⟨rfl, H', hr.out⟩
theorem cs_end (h : CH w F c D x) {i : Nat} (ht : D.ps[i]? = some t) (hi : x.l[i]? = some a) (n : Int) :
    Calls Tryz.prog 65 #[ptr t.p, .int .i64 n] w fun e w' => e = .returned (.tuple #[]) ∧ Tu w F w' c D { x with l := x.l.set i (endA n a) } := by
  obtain ⟨Hi, hP, hF, hK⟩ := h.step ht hi
  refine (end_any hP n).mono fun e w' ⟨he, H', hP', hd, hst⟩ => ⟨he, ?_⟩
  obtain ⟨F', h1, h2, h3, _⟩ := hK w' H' _ hP' hd hst
  exact ⟨F', h1, h2, h3⟩
theorem cLost_any (h : CH w F c D x) :
    Calls Tryz.prog 51 #[ptr c] w fun e w' => e = .returned (.int .i64 x.lost) ∧ w = w' := by
  have c2 : w.cell? ⟨c, 2, none⟩ = some (.int .i64 x.lost) := (h.blk.cell 2).trans rfl
  clear h
  go_enter Tryz.func51, Tryz.ntmps51
  go_wp2
  go_ret
  exact ⟨rfl, rfl⟩
theorem cHeld_any (h : CH w F c D x) (hm : heldL x.l ≤ 1000000000) (hmx : x.l.length ≤ 10) :
    Calls Tryz.prog 50 #[ptr c] w fun e w' => e = .returned (.int .i64 (heldL x.l)) ∧ Below w.heap.size w w' := by
  have c0 : w.cell? ⟨c, 0, none⟩ = some (.slice (some ⟨D.r, 0, none⟩) x.l.length D.cap) := (h.blk.cell 0).trans rfl
  have hcap := h.cap
  have H := Lib.hid h
  clear h
  go_enter Tryz.func50, Tryz.ntmps50
  go_wp2
  go_loopw [3, 11] (fun nv iv wr => ∃ k : Nat, k ≤ x.l.length ∧ iv = .int .i64 k ∧ nv = .int .i64 (heldL (x.l.take k)) ∧ Below w.heap.size w wr) (fun _ iv _ => x.l.length - (intOf iv).toNat)
  case atStart => exact ⟨0, by omega, rfl, rfl, Below.refl _ _⟩
  case round =>
    obtain ⟨k, hk, rfl, rfl, hB⟩ := hrel
    by_cases hlt : k < x.l.length
    · have hx : x.l[k]? = some x.l[k] := List.getElem?_eq_getElem hlt
      generalize x.l[k] = p at *
      have hsum := Lib.hid (heldL_succ hx)
      have hle := heldL_take_le x.l (k + 1)
      rw [hsum.out] at hle
      have hwr := wr_addN (heldL (x.l.take k)) (held p.s) (by omega)
      have H2 := H.out.below hB
      obtain ⟨t, ht⟩ := H2.pt hx
      have d0 := H2.rcell ht
      have d1 := (H2.pcell ht hx).1
      have hh := Lib.hid (fun hq => cs_held H2 ht hx hq)
      have hpl : held p.s ≤ 1000000000 := by omega
      have hB' := Lib.hid hB
      have hx' := Lib.hid hx
      clear H2 hx ht hB
      generalize hn : x.l.length = n at *
      go_wp2_with (go_at_call 69; (with_reducible refine (hh.out hpl).mono ?_); rintro e w2 ⟨rfl, hB2⟩; have hB2' := Lib.hid (hB'.out.trans (hB2.mono hB'.out.size)); clear hB2)
      go_roundw
      case rel => exact ⟨k + 1, by omega, by go_num, by rw [hsum.out]; rfl, hB2'.out⟩
      case measure => simp [intOf]; omega
    · have hk2 : k = x.l.length := by omega
      subst hk2
      have hnl : ¬ (x.l.length < x.l.length) := by omega
      rw [List.take_length]
      go_wp2
      go_ret
      exact ⟨rfl, hB⟩
theorem wr_less (n : Nat) (h0 : 2 ≤ n) (h1 : n ≤ 10) : wrap64 ((n : Int) - 1) = (n : Int) - 1 := by unfold wrap64; omega
theorem inner_any (h : CH w F c D x) (h2 : 2 ≤ x.l.length) (h10 : x.l.length ≤ 10) :
    Calls Tryz.prog 64 #[ptr c] w fun e w' => e = .returned (.slice (some ⟨D.r, 1, none⟩) (x.l.length - 2) (D.cap - 1)) ∧ Below w.heap.size w w' := by
  have c0 : w.cell? ⟨c, 0, none⟩ = some (.slice (some ⟨D.r, 0, none⟩) x.l.length D.cap) := (h.blk.cell 0).trans rfl
  have hcap := h.cap
  have hwl := wr_less x.l.length h2 h10
  clear h
  generalize x.l.length = n at *
  have hc1 : ¬ D.cap = 1 := by omega
  have hn1 : (1 : Int) ≤ (n : Int) - 1 := by omega
  have hn2 : (n : Int) - 1 ≤ (D.cap : Int) := by omega
  have hn3 : ((n : Int) - 1).toNat = n - 1 := by omega
  go_enter Tryz.func64, Tryz.ntmps64
  go_wp2
  refine start_ (n := 12) (S := fun w' => w'.cell? ⟨c, 0, none⟩ = some (.slice (some ⟨D.r, 0, none⟩) n D.cap)) (ds := []) (m_ 12 0) (by kernel_rfl) rfl (by kernel_rfl) (c0) (fun hHeld => ?_)
  refine pq_ 0 3 12 1 ?_
  refine pq_ 1 4 12 3 ?_
  refine pq_ 2 5 12 7 ?_
  refine pq_ 4 7 12 23 ?_
  refine pq_ 5 8 12 55 ?_
  refine pq_ 6 9 12 119 ?_
  refine tq_ 3 6 12 127 hHeld ?_
  refine tq_ 7 10 12 255 hHeld ?_
  refine pq_ 8 11 12 511 ?_
  refine pq_ 9 12 12 1023 ?_
  refine pq_ 10 13 12 2047 ?_
  refine pq_ 11 2 12 4095 ?_
  refine done_ (by kernel_rfl) ?_
  go_wp2
  go_ret
  exact ⟨rfl, (Below.refl _ _).drew⟩
theorem mem_ok {Q : Int} {l : List Pa} {i : Nat} {a : Pa} (h : ∀ a ∈ l, Ok a.s ∧ a.s.passed ≤ Q) (hi : l[i]? = some a) : Ok a.s ∧ a.s.passed ≤ Q := h a (List.mem_of_getElem? hi)
theorem broken_succ {now : Int} {l : List Pa} {k : Nat} {a : Pa} (h : l[k]? = some a) : brokenB ((l.take (k + 1)).map (lookA now)) = (((lookP a.s now).state == 2) || brokenB ((l.take k).map (lookA now))) := by
  rw [take_succ_ h]
  unfold brokenB
  rw [List.map_append, List.any_append, Bool.or_comm]
  simp [lookA]
theorem cbroken_any (h : CH w F c D x) (now : Int) (hm : heldL x.l ≤ 1000000000) (h10 : x.l.length ≤ 10) :
    Calls Tryz.prog 81 #[ptr c, .int .i64 now] w fun e w' => e = .returned (.bool (brokenB (x.l.map (lookA now)))) ∧ Tu w F w' c D { x with l := x.l.map (lookA now) } := by
  have c0 : w.cell? ⟨c, 0, none⟩ = some (.slice (some ⟨D.r, 0, none⟩) x.l.length D.cap) := (h.blk.cell 0).trans rfl
  have hcap := h.cap
  have H0 := Lib.hid (show Tu w F w c D { x with l := mapK (lookA now) 0 x.l } from ⟨F, h, Did.refl _ _, Stem.refl _ _⟩)
  clear h
  go_enter Tryz.func81, Tryz.ntmps81
  go_wp2
  go_loopw [5, 13] (fun bv iv wr => ∃ k : Nat, k ≤ x.l.length ∧ iv = .int .i64 k ∧ bv = .bool (brokenB ((x.l.take k).map (lookA now))) ∧ Tu w F wr c D { x with l := mapK (lookA now) k x.l }) (fun _ iv _ => x.l.length - (intOf iv).toNat)
  case atStart => exact ⟨0, by omega, rfl, rfl, H0.out⟩
  case round =>
    obtain ⟨k, hk, rfl, rfl, F1, hC, hD, hS⟩ := hrel
    clear H0
    by_cases hlt : k < x.l.length
    · have hx : x.l[k]? = some x.l[k] := List.getElem?_eq_getElem hlt
      generalize x.l[k] = p at *
      have hx1 : (mapK (lookA now) k x.l)[k]? = some p := (mapK_get (Nat.le_refl _)).trans hx
      have hle := held_le hx
      obtain ⟨t, ht⟩ := hC.pt (a := p) hx1
      have d0 := hC.rcell ht
      have d1 := (hC.pcell ht hx1).1
      have hh := Lib.hid (cs_state hC ht hx1 (by omega) now)
      have hset := Lib.hid (mapK_set (f := lookA now) hx)
      have hbs := Lib.hid (broken_succ (now := now) hx)
      have hT := Lib.hid (And.intro hD hS)
      clear hx hx1 ht hC hD hS
      generalize hn : x.l.length = n at *
      generalize brokenB ((x.l.take k).map (lookA now)) = B at *
      go_wp2_with fail
      refine hh.out.mono ?_
      rintro e w2 ⟨rfl, hT2⟩
      have hT3 := Lib.hid (show Tu w F w2 c D { x with l := mapK (lookA now) (k + 1) x.l } from by rw [← hset.out]; exact Tu.next hT.out.1 hT.out.2 hT2)
      clear hT2 hh hT
      by_cases he : (lookP p.s now).state = 2
      · have te : ((lookP p.s now).state == 2) = true := by simpa using he
        have hb : brokenB ((x.l.take (k + 1)).map (lookA now)) = true := by rw [hbs.out, te]; rfl
        have hb' := Lib.hid hb
        clear hb hbs he
        go_wp2
        go_roundw
        case rel => exact ⟨k + 1, by omega, by go_num, by rw [hb'.out], hT3.out⟩
        case measure => simp [intOf]; omega
      · have te : ((lookP p.s now).state == 2) = false := by simpa using he
        have hb : brokenB ((x.l.take (k + 1)).map (lookA now)) = B := by rw [hbs.out, te]; rfl
        have hb' := Lib.hid hb
        clear hb hbs he
        go_wp2
        go_roundw
        case rel => exact ⟨k + 1, by omega, by go_num, by rw [hb'.out], hT3.out⟩
        case measure => simp [intOf]; omega
    · have hk2 : k = x.l.length := by omega
      subst hk2
      have hnl : ¬ (x.l.length < x.l.length) := by omega
      rw [List.take_length]
      rw [mapK_all] at hC
      have hT := Lib.hid (show Tu w F wr c D { x with l := x.l.map (lookA now) } from ⟨F1, hC, hD, hS⟩)
      clear hC hD hS
      go_wp2
      go_ret
      exact ⟨rfl, hT.out⟩
theorem lose_any (h : CH w F c D x) (n : Nat) (hn : n ≤ x.l.length) (cp : Nat) (hnc : n ≤ cp) (h10 : x.l.length ≤ 10) (h0 : 0 ≤ x.lost) (hm : x.lost + heldL x.l ≤ 1000000000) :
    Calls Tryz.prog 71 #[ptr c, .slice (some ⟨D.r, 0, none⟩) n cp] w fun e w' => e = .returned (.tuple #[]) ∧ Tu w F w' c D (loseC n x) := by
  have H0 := Lib.hid (show Tu w F w c D { x with l := mapK drainA 0 x.l, lost := x.lost + heldL (x.l.take 0) } from ⟨F, by rw [mapK_zero, show x.lost + (heldL (x.l.take 0) : Nat) = x.lost from Int.add_zero _]; exact h, Did.refl _ _, Stem.refl _ _⟩)
  clear h
  go_enter Tryz.func71, Tryz.ntmps71
  go_wp2
  go_loopw [8] (fun iv wr => ∃ k : Nat, k ≤ n ∧ iv = .int .i64 k ∧ Tu w F wr c D { x with l := mapK drainA k x.l, lost := x.lost + heldL (x.l.take k) }) (fun iv _ => n - (intOf iv).toNat)
  case atStart => exact ⟨0, by omega, rfl, H0.out⟩
  case round =>
    obtain ⟨k, hk, rfl, F1, hC, hD, hS⟩ := hrel
    clear H0
    by_cases hlt : k < n
    · have hx : x.l[k]? = some x.l[k] := List.getElem?_eq_getElem (by omega)
      generalize x.l[k] = p at *
      have hx1 : (mapK drainA k x.l)[k]? = some p := (mapK_get (Nat.le_refl _)).trans hx
      have hsum := Lib.hid (heldL_succ hx)
      have hle := heldL_take_le x.l (k + 1)
      rw [hsum.out] at hle
      have hcat := held_cat p.s
      have hwr := wr_add (x.lost + heldL (x.l.take k)) (cat p.s.c.1).size (by omega) (by omega)
      obtain ⟨t, ht⟩ := hC.pt (a := p) hx1
      have d0 := hC.rcell ht
      have d1 := (hC.pcell ht hx1).1
      have d2 := hC.scell ht hx1
      have c2 : wr.cell? ⟨c, 2, none⟩ = some (.int .i64 (x.lost + heldL (x.l.take k))) := (hC.blk.cell 2).trans rfl
      have hh := Lib.hid (cs_drain hC.drew ht hx1 (by omega))
      have hset := Lib.hid (mapK_set (f := drainA) hx)
      have hlt2 : k < (mapK drainA k x.l).length := by rw [mapK_len]; omega
      have hx3 : ((mapK drainA k x.l).set k (drainA p))[k]? = some (drainA p) := by rw [List.getElem?_set_self hlt2]
      have hl2 : x.lost + heldL (x.l.take k) + (cat p.s.c.1).size = x.lost + heldL (x.l.take (k + 1)) := by rw [hsum.out, ← hcat]; omega
      have hl2' := Lib.hid hl2
      have hT := Lib.hid (And.intro hD.drew hS)
      have ht' := Lib.hid ht
      have hx3' := Lib.hid hx3
      clear hx hx1 ht hC hD hS hx3 hl2 hsum hcat hlt2
      generalize hLL : x.lost + (heldL (x.l.take k) : Int) = L at *
      go_wp2
      refine start_ (n := 17) (S := fun w' => w'.cell? ⟨c, 2, none⟩ = some (.int .i64 L) ∧ w'.cell? ⟨t.p, 0, none⟩ = some (ptr t.b) ∧ w'.cell? ⟨t.b, 0, none⟩ = some (ptr t.k)) (ds := [16]) (m_ 17 0) (by kernel_rfl) rfl (by kernel_rfl) ⟨c2, d1, d2⟩ (fun hHeld => ?_)
      refine pq_ 0 12 17 1 ?_
      refine pq_ 1 13 17 3 ?_
      refine pq_ 2 14 17 7 ?_
      refine pq_ 4 16 17 23 ?_
      refine pq_ 5 17 17 55 ?_
      refine pq_ 6 18 17 119 ?_
      refine tq_ 3 15 17 127 hHeld ?_
      refine tq_ 7 19 17 255 hHeld ?_
      refine pq_ 8 20 17 511 ?_
      refine pq_ 9 21 17 1023 ?_
      refine tq_ 10 22 17 2047 hHeld ?_
      refine one_ (i := 11) (N := some 23) (m_ 17 4095) rfl rfl (by kernel_rfl) (by decide) (fun K hK => ?_)
      refine goes_ Tryz.func68 (by kernel_rfl) rfl #[ptr t.k] (by rfl) rfl rfl (by simp only [List.map_toArray, List.map_cons, List.map_nil]; rfl) ?_
      with_reducible refine (hh.out).mono ?_
      rintro e w3 ⟨A3, cp3, rfl, hb3, hn3, F3, hC3, hD3, hS3, hF3⟩
      have e2 : w3.cell? ⟨c, 2, none⟩ = some (.int .i64 L) := (hC3.blk.cell 2).trans rfl
      have f2 := hC3.blk.free 2
      have e1 := (hC3.pcell ht'.out hx3'.out).1
      have e3 := hC3.scell ht'.out hx3'.out
      have hb3s : True := trivial
      have hT3 := Lib.hid (Tu.next hT.out.1 hT.out.2 ⟨F3, hC3, hD3, hS3⟩)
      clear hb3 hn3 hC3 hD3 hS3 hF3
      refine ⟨_, rfl, ?_⟩
      refine hK.out _ _ ⟨e2, e1, e3⟩ (fun hHeld => ?_)
      clear hK K
      refine norm_ (a' := ?_) ?_ ?_
      rotate_left
      · show Act.put _ (some 23) _ = _
        simp only [Act.put, List.setIfInBounds_toArray, List.set_cons_zero, List.set_cons_succ, i64_w, i32_w]
        rfl
      refine pq_ 12 24 17 8191 ?_
      refine pq_ 13 25 17 16383 ?_
      refine pq_ 14 26 17 32767 ?_
      refine pq_ 15 27 17 65535 ?_
      refine last_ (i := 16) (N := none) (m_ 17 131071) rfl rfl (by kernel_rfl) (by decide) (fun K hK => ?_)
      refine skip_ (w1 := ?_) (by rfl) rfl ?_ ?_
      rotate_left
      · go_simp
        rfl
      refine hK.out _ _ ?_
      clear hK K
      refine done_ (by kernel_rfl) ?_
      clear hHeld
      have hT4 := Lib.hid (hT3.out.set 2 (.int .i64 (L + ((cat p.s.c.1).size : Int))) { x with l := mapK drainA (k + 1) x.l, lost := x.lost + heldL (x.l.take (k + 1)) } (by rw [hset.out, hl2'.out]; rfl) (by rw [hset.out]))
      clear hT3 hset hl2' hh hT ht' hx3' c2 d0 d1 d2 e1 e2 e3 f2 hb3s
      go_wp2
      go_roundw
      case rel => exact ⟨k + 1, by omega, by go_num, hT4.out⟩
      case measure => simp [intOf]; omega
    · have hk2 : k = n := by omega
      subst hk2
      have hnl : ¬ (k < k) := by omega
      have c3 : wr.cell? ⟨c, 3, none⟩ = some (.bool x.shut) := (hC.blk.cell 3).trans rfl
      have f3 := hC.blk.free 3
      have hset := Lib.hid (hC.set 3 (.bool true) (loseC k x) rfl rfl)
      have hT := Lib.hid (And.intro hD hS)
      clear hC hD hS
      go_wp2
      go_end0
      exact ⟨rfl, Tu.next hT.out.1 hT.out.2 ⟨F1, hset.out.1, (Did.refl F1 wr).setCell (p := ⟨c, 3, none⟩) (.inl hset.out.2) _, Stem.refl _ _⟩⟩
theorem cBreak_any (h : CH w F c D x) (now : Int) (h10 : x.l.length ≤ 10) (h0 : 0 ≤ x.lost) (hm : x.lost + heldL x.l ≤ 1000000000) :
    Calls Tryz.prog 58 #[ptr c, .int .i64 now] w fun e w' => e = .returned (.tuple #[]) ∧ Tu w F w' c D (breakC x) := by
  have c0 : w.cell? ⟨c, 0, none⟩ = some (.slice (some ⟨D.r, 0, none⟩) x.l.length D.cap) := (h.blk.cell 0).trans rfl
  have c4 : w.cell? ⟨c, 4, none⟩ = some (.int .i64 x.state) := (h.blk.cell 4).trans rfl
  have hl := Lib.hid (lose_any h x.l.length (Nat.le_refl _) D.cap h.cap h10 h0 hm)
  have hS := Lib.hid (Tu.start h)
  clear h
  unfold breakC
  by_cases h1 : x.state = 1
  · rw [if_pos h1]
    have t1 : (x.state != 1) = false := by simpa using h1
    clear h1
    go_enter Tryz.func58, Tryz.ntmps58
    go_wp2
    go_end0
    exact ⟨rfl, hS.out⟩
  · rw [if_neg h1]
    have t1 : (x.state != 1) = true := by simpa using h1
    clear h1
    go_enter Tryz.func58, Tryz.ntmps58
    go_wp2_with fail
    refine hl.out.mono ?_
    rintro e w1 ⟨rfl, hT⟩
    have hT4 := Lib.hid (hT.set 4 (.int .i64 2) { loseC x.l.length x with state := 2 } rfl rfl)
    obtain ⟨F1, hC, hD, hS1⟩ := hT
    have d4 : w1.cell? ⟨c, 4, none⟩ = some (.int .i64 x.state) := (hC.blk.cell 4).trans rfl
    have f4 := hC.blk.free 4
    clear hC hD hS1 hl
    go_wp2
    go_end0
    exact ⟨rfl, hT4.out⟩
theorem cPut_any (h : CH w F c D x) {M Q : Int} (ho : OkC x M Q) (now : Int) (A : Option Addr) (cap : Nat) (b : ByteArray) (hc : b.size ≤ cap) (hb : BS w A b) (hoff : BS.Off A F) (hM : M + b.size ≤ 1000000000) :
    Calls Tryz.prog 55 #[ptr c, .int .i64 now, .slice A b.size cap] w fun e w' => e = .returned (.int .i64 (putCN x now b)) ∧ Tu w F w' c D (putC x now b) := by
  have c0 : w.cell? ⟨c, 0, none⟩ = some (.slice (some ⟨D.r, 0, none⟩) x.l.length D.cap) := (h.blk.cell 0).trans rfl
  have c3 : w.cell? ⟨c, 3, none⟩ = some (.bool x.shut) := (h.blk.cell 3).trans rfl
  have c4 : w.cell? ⟨c, 4, none⟩ = some (.int .i64 x.state) := (h.blk.cell 4).trans rfl
  have hS := Lib.hid (Tu.start h)
  have h2 := ho.two
  have h10 := ho.ten
  have hm := ho.held
  have hcap := h.cap
  have hx : x.l[0]? = some x.l[0] := List.getElem?_eq_getElem (by omega)
  unfold putC putCN
  rw [hx]
  generalize x.l[0] = p at *
  have hok := (mem_ok ho.ok hx).1
  have hle := held_le hx
  obtain ⟨t, ht⟩ := h.pt hx
  have d0 := h.rcell ht
  have d1 := (h.pcell ht hx).1
  have hh := Lib.hid (cs_put h ht hx hok now A cap b hc hb hoff (by omega))
  clear h ho hx ht hok hb hoff hm hle hM
  rcases (by cases x.shut <;> simp : x.shut = true ∨ x.shut = false) with hsh | hsh
  · rw [if_pos (.inl hsh), if_pos (.inl hsh)]
    rw [hsh] at c3
    clear hsh
    go_enter Tryz.func55, Tryz.ntmps55
    go_wp2
    go_ret
    exact ⟨rfl, hS.out⟩
  · rw [hsh] at c3
    by_cases h1 : x.state = 0
    · rw [if_neg (by rintro (e | e); rw [hsh] at e; cases e; exact e h1), if_neg (by rintro (e | e); rw [hsh] at e; cases e; exact e h1)]
      rw [h1] at c4
      clear h1 hS hsh
      generalize hn : x.l.length = n at *
      go_enter Tryz.func55, Tryz.ntmps55
      go_wp2_with fail
      refine hh.out.mono ?_
      rintro e w1 ⟨rfl, hT⟩
      have hT' := Lib.hid hT
      clear hT hh
      go_wp2
      go_ret
      exact ⟨rfl, hT'.out⟩
    · rw [if_pos (.inr h1), if_pos (.inr h1)]
      have t1 : (x.state != 0) = true := by simpa using h1
      clear h1 hsh
      go_enter Tryz.func55, Tryz.ntmps55
      go_wp2
      go_ret
      exact ⟨rfl, hS.out⟩
theorem cTake_any (h : CH w F c D x) {M Q : Int} (ho : OkC x M Q) (now most : Int) (hM : M ≤ 1000000000) (hQ : Q ≤ 1000000000) :
    Calls Tryz.prog 57 #[ptr c, .int .i64 now, .int .i64 most] w fun e w' => ∃ A cap, e = .returned (.slice A (takeCB x now most).size cap) ∧ BS w' A (takeCB x now most) ∧ Newly w A ∧ TuS w F w' c D (takeC x now most) := by
  have c0 : w.cell? ⟨c, 0, none⟩ = some (.slice (some ⟨D.r, 0, none⟩) x.l.length D.cap) := (h.blk.cell 0).trans rfl
  have c4 : w.cell? ⟨c, 4, none⟩ = some (.int .i64 x.state) := (h.blk.cell 4).trans rfl
  have hS := Lib.hid (show TuS w F w c D x from ⟨F, h, Did.refl _ _, Stem.refl _ _, fun _ h => h⟩)
  have h2 := ho.two
  have h10 := ho.ten
  have hm := ho.held
  have hcap := h.cap
  have hx : x.l[x.l.length - 1]? = some x.l[x.l.length - 1] := List.getElem?_eq_getElem (by omega)
  unfold takeC takeCB
  rw [hx]
  generalize x.l[x.l.length - 1] = p at *
  have hok := mem_ok ho.ok hx
  have hle := held_le hx
  obtain ⟨t, ht⟩ := h.pt hx
  have d0 := h.rcell ht
  have d1 := (h.pcell ht hx).1
  have hD := Lib.hid (Did.refl F w)
  by_cases h1 : x.state = 2
  · rw [if_pos h1, if_pos h1]
    rw [h1] at c4
    clear h ho hx ht hok h1
    go_enter Tryz.func57, Tryz.ntmps57
    go_wp2
    go_ret
    exact ⟨none, 0, rfl, takeOutB_nil, (fun g o e => by cases e), hS.out⟩
  · rw [if_neg h1, if_neg h1]
    have t1 : (x.state == 2) = false := by simpa using h1
    have hh := Lib.hid (cs_take h.drew ht hx (by omega) hok.1 (by omega) now most)
    have hwl := wr_less x.l.length h2 h10
    have ht' := Lib.hid ht
    have hx' := Lib.hid hx
    clear h ho ht hok h1 hS hm hle hM hQ hx
    generalize hn : x.l.length = n at *
    have hn1 : (0 : Int) ≤ (n : Int) - 1 := by omega
    have hn2 : (n : Int) - 1 < (n : Int) := by omega
    have hn4 : (1 : Int) ≤ (n : Int) := by omega
    have hn3 : ((n : Int) - 1).toNat = n - 1 := by omega
    go_enter Tryz.func57, Tryz.ntmps57
    go_wp2
    refine start_ (n := 19) (S := fun w' => w'.cell? ⟨c, 0, none⟩ = some (.slice (some ⟨D.r, 0, none⟩) n D.cap) ∧ w'.cell? ⟨D.r, n - 1, none⟩ = some (ptr t.p) ∧ w'.cell? ⟨t.p, 0, none⟩ = some (ptr t.b)) (ds := []) (m_ 19 0) (by kernel_rfl) rfl (by kernel_rfl) ⟨c0, d0, d1⟩ (fun hHeld => ?_)
    refine pq_ 0 12 19 1 ?_
    refine pq_ 1 13 19 3 ?_
    refine pq_ 2 14 19 7 ?_
    refine pq_ 4 16 19 23 ?_
    refine pq_ 5 17 19 55 ?_
    refine pq_ 6 18 19 119 ?_
    refine pq_ 15 27 19 32887 ?_
    refine pq_ 16 28 19 98423 ?_
    refine tq_ 3 15 19 98431 hHeld ?_
    refine tq_ 7 19 19 98559 hHeld ?_
    refine pq_ 8 20 19 98815 ?_
    refine pq_ 9 21 19 99327 ?_
    refine pq_ 10 22 19 100351 ?_
    refine tq_ 11 23 19 102399 hHeld ?_
    refine pq_ 12 24 19 106495 ?_
    refine pq_ 13 25 19 114687 ?_
    refine tq_ 14 26 19 131071 hHeld ?_
    refine one_ (i := 17) (N := some 29) (m_ 19 262143) rfl rfl (by kernel_rfl) (by decide) (fun K hK => ?_)
    refine goes_ Tryz.func84 (by kernel_rfl) rfl #[ptr t.b, .int .i64 now, .int .i64 most] (by rfl) rfl rfl (by simp only [List.map_toArray, List.map_cons, List.map_nil]; rfl) ?_
    with_reducible refine (hh.out).mono ?_
    rintro e w3 ⟨A3, cp3, rfl, hb3, hn3, F3, hC3, hD3, hS3, hF3⟩
    have e0 : w3.cell? ⟨c, 0, none⟩ = some (.slice (some ⟨D.r, 0, none⟩) n D.cap) := (hC3.blk.cell 0).trans (by simp [ccells, hn])
    have e1 := hC3.rcell ht'.out
    have e2 := (hC3.pcell (a := ⟨takeS p.s now most, p.cl⟩) ht'.out (by show (x.l.set (n - 1) _)[n - 1]? = _; rw [List.getElem?_set_self (by omega)])).1
    have hT3 := Lib.hid (show TuS w F w3 c D _ from ⟨F3, hC3, hD.out.drew.trans (Stem.refl _ _) hD3, (Stem.refl F w).trans (Nat.le_refl _) hS3, hF3⟩)
    have hB3 := Lib.hid (And.intro hb3 hn3)
    clear hb3 hn3 hC3 hD3 hS3 hF3
    refine ⟨_, rfl, ?_⟩
    refine hK.out _ _ ⟨e0, e1, e2⟩ (fun hHeld => ?_)
    clear hK K
    refine norm_ (a' := ?_) ?_ ?_
    rotate_left
    · show Act.put _ (some 29) _ = _
      simp only [Act.put, List.setIfInBounds_toArray, List.set_cons_zero, List.set_cons_succ, i64_w, i32_w]
      rfl
    refine pq_ 18 6 19 524287 ?_
    refine done_ (by kernel_rfl) ?_
    clear hHeld
    go_wp2
    go_ret
    exact ⟨A3, cp3, rfl, hB3.out.1, hB3.out.2, hT3.out⟩
theorem is_any (h : CH w F c D x) (h2 : 2 ≤ x.l.length) (h10 : x.l.length ≤ 10) (at_ : Int) :
    Calls Tryz.prog 67 #[ptr c, .int .i64 at_] w fun e w' => e = .returned (.bool (isB x at_)) ∧ Below w.heap.size w w' := by
  have hh := Lib.hid (inner_any h h2 h10)
  clear h
  unfold isB
  by_cases h1 : 0 ≤ at_
  · have t1 : decide (0 ≤ at_) = true := by simpa using h1
    have t2 : decide (at_ < ((x.l.length - 2 : Nat) : Int)) = decide (at_ < (x.l.length : Int) - 2) := by congr 1; apply propext; omega
    have t2' := Lib.hid t2
    clear h1 t2
    go_enter Tryz.func67, Tryz.ntmps67
    go_wp2_with fail
    refine hh.out.mono ?_
    rintro e w1 ⟨rfl, hB⟩
    have hB' := Lib.hid hB
    clear hB hh
    go_wp2
    go_ret
    refine ⟨?_, hB'.out⟩
    rw [t1, ← t2'.out]
    simp
  · have t1 : decide (0 ≤ at_) = false := by simpa using h1
    clear h1 hh
    go_enter Tryz.func67, Tryz.ntmps67
    go_wp2
    go_ret
    exact ⟨by rw [t1]; rfl, Below.refl _ _⟩
theorem wr_at (k : Nat) (h : k < 10) : wrap64 ((k : Int) + 1) = (k : Int) + 1 := by unfold wrap64; omega
end Go.Proofs.YtnkgjnmhiedfoaaGreat.Chain
namespace Go.Proofs.YtnkgjnmhiedfoaaGreat.Chain
open Go.RowKit Mem Tick Cargo Toxic Stage
set_option linter.unusedVariables false
set_option linter.unusedSimpArgs false
variable {x : Ch} {M Q : Int}
def OkL (l : List Pa) (Q : Int) : Prop := ∀ a ∈ l, Ok a.s ∧ a.s.passed ≤ Q
theorem OkL.more {l : List Pa} {Q Q' : Int} (h : OkL l Q) (hq : Q ≤ Q') : OkL l Q' := fun a ha => ⟨(h a ha).1, Int.le_trans (h a ha).2 hq⟩
theorem OkL.set {l : List Pa} (h : OkL l Q) (i : Nat) {b : Pa} (hb : Ok b.s ∧ b.s.passed ≤ Q) : OkL (l.set i b) Q := by
  intro a ha
  rcases List.mem_or_eq_of_mem_set ha with h1 | h1
  · exact h a h1
  · subst h1; exact hb
theorem OkL.at_ {l : List Pa} (h : OkL l Q) {i : Nat} {a : Pa} (hi : l[i]? = some a) : Ok a.s ∧ a.s.passed ≤ Q := h a (List.mem_of_getElem? hi)
theorem OkC.okL (h : OkC x M Q) : OkL x.l Q := h.ok
theorem OkC.list (ho : OkC x M Q) {l : List Pa} (hl : l.length = x.l.length) (hh : heldL l = heldL x.l) {Q' : Int} (hok : OkL l Q') : OkC { x with l := l } M Q' :=
  ⟨by rw [hl]; exact ho.two, by rw [hl]; exact ho.ten, ho.r0, ho.r1, by rw [hh]; exact ho.held, ho.lost0, by rw [hh]; exact ho.lost, hok⟩
theorem heldL_of_line {l l' : List Pa} (h : lineL l = lineL l') : heldL l = heldL l' := by rw [← lineL_size, ← lineL_size, h]
theorem OkL.look {l : List Pa} (h : OkL l Q) (now : Int) : OkL (l.map (lookA now)) Q := by
  intro a ha
  obtain ⟨b, hb, rfl⟩ := List.mem_map.1 ha
  exact ⟨(h b hb).1.look now, (h b hb).2⟩
theorem passed_force (s : Sg) (n : Int) (b : ByteArray) : (forceP s n b).passed = s.passed := by
  unfold forceP
  split
  · rfl
  · unfold putIn diceP; split <;> rfl
theorem passed_end (now : Int) (a : Pa) : (endA now a).s.passed = a.s.passed := by unfold endA closeP; split <;> rfl
theorem ok_end (now : Int) {a : Pa} (h : Ok a.s ∧ a.s.passed ≤ Q) : Ok (endA now a).s ∧ (endA now a).s.passed ≤ Q := ⟨h.1.close now, by rw [passed_end]; exact h.2⟩
theorem ok_look (now : Int) {a : Pa} (h : Ok a.s ∧ a.s.passed ≤ Q) : Ok (lookA now a).s ∧ (lookA now a).s.passed ≤ Q := ⟨h.1.look now, h.2⟩
theorem ok_drain {a : Pa} (h : Ok a.s ∧ a.s.passed ≤ Q) : Ok (drainA a).s ∧ (drainA a).s.passed ≤ Q := ⟨h.1.drain, h.2⟩
theorem takeB_le (s : Sg) (n most : Int) : (takeB s n most).size ≤ held s := by
  have h := congrArg ByteArray.size (cat_take_ s n most)
  rw [ByteArray.size_append] at h
  have := held_cat s
  omega
theorem move_ok {l : List Pa} (h : OkL l Q) (hm : (heldL l : Int) ≤ M) (hM : 0 ≤ M) (now : Int) (j : Nat) : OkL (moveAt now j l) (Q + M) := by
  unfold moveAt
  split
  · rename_i a b ha hb
    have ka := h.at_ ha
    have kb := h.at_ hb
    split
    · refine OkL.set (OkL.set (h.more (by omega)) _ ⟨ka.1.take _ _, ?_⟩) _ ⟨(kb.1.look now).force _ _, ?_⟩
      · show (takeS a.s now _).passed ≤ _
        rw [passed_take]
        have h1 := takeB_le a.s now (free (lookP b.s now))
        have h2 := held_le ha
        have h3 := ka.2
        omega
      · show (forceP _ _ _).passed ≤ _
        rw [passed_force]
        show b.s.passed ≤ _
        have := kb.2
        omega
    · exact OkL.set (h.more (by omega)) _ ⟨kb.1.look now, by show b.s.passed ≤ _; have := kb.2; omega⟩
  · exact h.more (by omega)
def mfold (now : Int) (pre : List Nat) (l : List Pa) : List Pa := pre.foldl (fun l k => moveAt now k l) l
def sfold (now : Int) (pre : List Nat) (x : Ch) : Ch := pre.foldl (fun x k => shutAt now k x) x
theorem mfold_snoc (now : Int) (pre : List Nat) (k : Nat) (l : List Pa) : mfold now (pre ++ [k]) l = moveAt now k (mfold now pre l) := by unfold mfold; rw [List.foldl_append]; rfl
theorem sfold_snoc (now : Int) (pre : List Nat) (k : Nat) (x : Ch) : sfold now (pre ++ [k]) x = shutAt now k (sfold now pre x) := by unfold sfold; rw [List.foldl_append]; rfl
theorem mfold_range (now : Int) (l : List Pa) : ∀ m, mfold now (List.range m) l = moves now m l
  | 0 => rfl
  | m + 1 => by rw [List.range_succ, mfold_snoc, mfold_range now l m]; rfl
theorem sfold_range (now : Int) (x : Ch) : ∀ m, sfold now (List.range m) x = shuts now m x
  | 0 => rfl
  | m + 1 => by rw [List.range_succ, sfold_snoc, sfold_range now x m]; rfl
theorem mfold_ok (ho : OkC x M Q) (now : Int) (pre : List Nat) : OkC { x with l := mfold now pre x.l } M (Q + pre.length * M) ∧ (mfold now pre x.l).length = x.l.length := by
  have hM : 0 ≤ M := by have := ho.held; omega
  have h0 := ho.okL
  suffices h : ∀ (pre : List Nat) (l : List Pa) (Q' : Int), OkL l Q' → l.length = x.l.length → heldL l = heldL x.l → OkL (mfold now pre l) (Q' + pre.length * M) ∧ (mfold now pre l).length = x.l.length ∧ heldL (mfold now pre l) = heldL x.l by
    obtain ⟨h1, h2, h3⟩ := h pre x.l Q h0 rfl rfl
    exact ⟨ho.list h2 h3 h1, h2⟩
  intro pre
  induction pre with
  | nil => intro l Q' h hl hh; exact ⟨by simpa [mfold] using h, hl, hh⟩
  | cons k r ih =>
    intro l Q' h hl hh
    have hm := move_ok (M := M) h (by rw [hh]; exact ho.held) hM now k
    have hln := move_line now k l
    obtain ⟨h1, h2, h3⟩ := ih (moveAt now k l) (Q' + M) hm (hln.2.trans hl) ((heldL_of_line hln.1).trans hh)
    have e : Q' + M + (r.length : Int) * M = Q' + ((k :: r).length : Int) * M := by
      rw [List.length_cons, Int.natCast_add, Int.add_mul]
      simp
      omega
    rw [e] at h1
    exact ⟨h1, h2, h3⟩
theorem flow_mass {x y : Ch} (h : Flow x ⟨#[]⟩ ⟨#[]⟩ y) : y.lost + heldL y.l = x.lost + heldL x.l ∧ x.lost ≤ y.lost ∧ heldL y.l ≤ heldL x.l := by
  obtain ⟨L, h1, h2, _, _⟩ := h
  have h3 := congrArg ByteArray.size h1
  simp only [ByteArray.size_append, lineL_size] at h3
  have e : ByteArray.size ⟨#[]⟩ = 0 := rfl
  rw [e] at h3
  refine ⟨?_, ?_, ?_⟩ <;> omega
theorem mapK_ok {l : List Pa} (h : OkL l Q) (n : Nat) : OkL (loseL n l) Q := by
  intro a ha
  unfold loseL at ha
  rcases List.mem_append.1 ha with h1 | h1
  · obtain ⟨b, hb, rfl⟩ := List.mem_map.1 h1
    exact ok_drain (h b (List.mem_of_mem_take hb))
  · exact h a (List.mem_of_mem_drop h1)
theorem OkC.flow {y : Ch} (ho : OkC x M Q) (h : Flow x ⟨#[]⟩ ⟨#[]⟩ y) (hl : y.l.length = x.l.length) (hr : y.room = x.room) {Q' : Int} (hok : OkL y.l Q') : OkC y M Q' := by
  obtain ⟨h1, h2, h3⟩ := flow_mass h
  have a := ho.held
  have b := ho.lost0
  have c := ho.lost
  exact ⟨by rw [hl]; exact ho.two, by rw [hl]; exact ho.ten, by rw [hr]; exact ho.r0, by rw [hr]; exact ho.r1, by omega, by omega, by omega, hok⟩
theorem shut_okL (now : Int) (j : Nat) (x : Ch) (h : OkL x.l Q) : OkL (shutAt now j x).l Q := by
  unfold shutAt
  split
  · rename_i a b ha hb
    have ka := h.at_ ha
    have kb := h.at_ hb
    split
    · exact OkL.set (mapK_ok (OkL.set h _ (ok_look now ka)) _) _ (ok_end now kb)
    · exact OkL.set h _ (ok_look now ka)
  · exact h
theorem shut_room (now : Int) (j : Nat) (x : Ch) : (shutAt now j x).room = x.room := by
  unfold shutAt
  split
  · split <;> rfl
  · rfl
theorem shut_ok (ho : OkC x M Q) (now : Int) (j : Nat) : OkC (shutAt now j x) M Q :=
  ho.flow (flow_shut now j x).1 (flow_shut now j x).2 (shut_room now j x) (shut_okL now j x ho.okL)
theorem sfold_ok (now : Int) : ∀ (pre : List Nat) (x : Ch), OkC x M Q → OkC (sfold now pre x) M Q ∧ (sfold now pre x).l.length = x.l.length
  | [], x, h => ⟨h, rfl⟩
  | k :: r, x, h => by
    have h1 := sfold_ok now r (shutAt now k x) (shut_ok h now k)
    exact ⟨h1.1, h1.2.trans (flow_shut now k x).2⟩
theorem set_three {l : List Pa} (k : Nat) (a b b' : Pa) : ((l.set (k + 1) b).set k a).set (k + 1) b' = (l.set k a).set (k + 1) b' := by
  rw [List.set_comm _ _ (by omega : k + 1 ≠ k), List.set_set]
end Go.Proofs.YtnkgjnmhiedfoaaGreat.Chain
