/- What a link's New makes (chapter 12): plain. No condition. -/
import Derived.Test.YtoiibmcbjjnpbaaE24
import Derived.Test.YtoiibmcbjjnpbaaE16
import Derived.Lib.SlBytesConst
namespace Go.Proofs.Ytoiibmcbjjnpbaa.Link
open Go.RowKit Mem Tick Cargo Toxic Stage Chain
set_option linter.unusedVariables false
set_option linter.unusedSimpArgs false
def ofWay (L : List Tox) (up : Bool) : List Tox := L.filter fun t => t.up == up
theorem ofWay_snoc (L : List Tox) (t : Tox) (up : Bool) : ofWay (L ++ [t]) up = if t.up = up then ofWay L up ++ [t] else ofWay L up := by
  unfold ofWay
  rw [List.filter_append]
  by_cases h : t.up = up
  · rw [if_pos h]; simp [h]
  · rw [if_neg h]; simp [h]
def DrR (t d : Tox) : Prop := (d = t ∨ d = noTox) ∧ (t.often = 100 → d = t) ∧ (t.often = 0 → d = noTox)
def DrL (l d : List Tox) : Prop := d.length = l.length ∧ ∀ (i : Nat) (t u : Tox), l[i]? = some t → d[i]? = some u → DrR t u
theorem DrL.snoc {l d : List Tox} (h : DrL l d) {t u : Tox} (hr : DrR t u) : DrL (l ++ [t]) (d ++ [u]) := by
  refine ⟨by simp [h.1], fun i t' u' h1 h2 => ?_⟩
  by_cases hi : i < l.length
  · rw [List.getElem?_append_left hi] at h1
    rw [List.getElem?_append_left (by rw [h.1]; exact hi)] at h2
    exact h.2 i t' u' h1 h2
  · rw [List.getElem?_append_right (by omega)] at h1
    rw [List.getElem?_append_right (by rw [h.1]; omega), h.1] at h2
    have : i - l.length = 0 := Decidable.byContradiction fun e => by
      rw [List.getElem?_eq_none (by simp; omega)] at h1; cases h1
    rw [this] at h1 h2
    simp at h1 h2
    subst h1 h2
    exact hr
theorem draw_drr (x : Lk) (t : Tox) : DrR t (drawK x t) := by
  have hb := Ref02.hiI_bd (dieK x) 100 (by decide)
  unfold drawK
  split
  · rename_i h
    exact ⟨.inl rfl, fun _ => rfl, fun e => by omega⟩
  · rename_i h
    exact ⟨.inr rfl, fun e => by omega, fun _ => rfl⟩
def fresh (room now : Int) (p : Tox × Int) : Pa := ⟨newS p.1 p.2 room now, false⟩
structure NewI (L : List Tox) (up : Bool) (room now : Int) (x : Lk) : Prop where
  up_ : x.up = up
  names : x.names = (ofWay L up).map fun t => t.name
  l : ∃ ds : List (Tox × Int), x.c.l = ((noTox, 0) :: ds ++ [(noTox, 0)]).map (fresh room now) ∧ DrL (ofWay L up) (ds.map fun p => p.1)
  st : x.c.state = 0
  sh : x.c.shut = false
  lost : x.c.lost = 0
  rm : x.c.room = room
  dn : x.done = false
theorem newI_0 (up : Bool) (seed room now : Int) : NewI [] up room now (link0 up seed room now) :=
  ⟨rfl, rfl, ⟨[], rfl, rfl, fun i t u h => by simp [ofWay] at h⟩, rfl, rfl, rfl, rfl, rfl⟩
theorem newE_ok {t : Tox} {room : Int} (h : passB t = true ∨ chk t = 0) (hr : roomOk room = true) : newE t room = 0 := by
  unfold newE
  rw [if_neg (by rintro ⟨e1, e2⟩; rcases h with e | e; rw [e] at e1; cases e1; exact e2 e), if_neg (by rw [hr]; simp)]
theorem NewI.add {L : List Tox} {up : Bool} {room now : Int} {x : Lk} (h : NewI L up room now x) (hr : roomOk room = true) (t : Tox) (hc : chk t = 0) (hb : hasB L t.name = false) (h8 : L.length < 8) : NewI (L ++ [t]) up room now (addK x t now) := by
  obtain ⟨ds, hl, hd⟩ := h.l
  have hlen : (ofWay L up).length ≤ L.length := List.length_filter_le _ _
  have hnl : x.names.length = (ofWay L up).length := by rw [h.names, List.length_map]
  have hdl : ds.length = (ofWay L up).length := by have := hd.1; simpa using this
  by_cases hu : t.up = up
  · have hn : idxN x.names t.name = none := by
      apply idx_none
      intro j y hj hy
      rw [h.names, List.getElem?_map] at hy
      obtain ⟨u, hu1, rfl⟩ := Option.map_eq_some_iff.1 hy
      have hm : u ∈ L := (List.mem_filter.1 (List.mem_of_getElem? hu1)).1
      unfold hasB at hb
      have := List.any_eq_false.1 hb u hm
      simp only [beq_iff_eq] at this ⊢
      simp
      exact fun e => this e.symm
    have ha : addsB x t = true := by
      unfold addsB
      rw [hn, decide_eq_true (show chk t = 0 ∧ t.up = x.up from ⟨hc, by rw [h.up_]; exact hu⟩), decide_eq_true (show x.names.length < 8 by omega)]
      rfl
    have hadd : addK x t now = { x with c := insC x.c x.names.length (drawK x t) (Ref02.stepI (dieK x)) now, names := x.names ++ [t.name], drawn := x.drawn + 1 } := by unfold addK; rw [if_pos ha]
    have hE : insE x.c (x.names.length : Int) (drawK x t) = 0 := by
      unfold insE
      have hp : noPlace x.c (x.names.length : Int) = false := by
        unfold noPlace
        rw [hl]
        simp
        omega
      rw [hp, h.rm]
      exact newE_ok (draw_ok x t hc) hr
    have hbk : x.c.l[(x.names.length : Int).toNat + 1]? = some (fresh room now (noTox, 0)) := by
      rw [hl, List.getElem?_map, show (x.names.length : Int).toNat + 1 = ((noTox, (0 : Int)) :: ds).length from by simp; omega, List.getElem?_append_right (Nat.le_refl _), Nat.sub_self]
      rfl
    have hins : insC x.c x.names.length (drawK x t) (Ref02.stepI (dieK x)) now = { x.c with l := ((noTox, 0) :: (ds ++ [(drawK x t, Ref02.stepI (dieK x))]) ++ [(noTox, 0)]).map (fresh room now) } := by
      unfold insC
      rw [hE, if_neg (by decide), hbk]
      dsimp only
      rw [show (fresh room now (noTox, 0)).cl = false from rfl, if_neg (by decide), h.rm]
      congr 1
      rw [hl, ← List.map_take, ← List.map_drop, show (x.names.length : Int).toNat + 1 = ((noTox, (0 : Int)) :: ds).length from by simp; omega, List.take_left, List.drop_left]
      simp [fresh]
    rw [hadd, hins]
    refine ⟨h.up_, ?_, ⟨ds ++ [(drawK x t, Ref02.stepI (dieK x))], rfl, ?_⟩, h.st, h.sh, h.lost, h.rm, h.dn⟩
    · show x.names ++ [t.name] = _
      rw [ofWay_snoc, if_pos hu, h.names, List.map_append]; rfl
    · rw [ofWay_snoc, if_pos hu, List.map_append]
      exact hd.snoc (draw_drr x t)
  · have ha : addsB x t = false := by
      unfold addsB
      rw [decide_eq_false (show ¬ (chk t = 0 ∧ t.up = x.up) from fun e => hu (by rw [← h.up_]; exact e.2))]
      rfl
    have hadd : addK x t now = x := by unfold addK; rw [ha]; rfl
    rw [hadd]
    refine ⟨h.up_, ?_, ⟨ds, hl, ?_⟩, h.st, h.sh, h.lost, h.rm, h.dn⟩
    · rw [ofWay_snoc, if_neg hu]; exact h.names
    · rw [ofWay_snoc, if_neg hu]; exact hd
theorem first_all : ∀ {l : List Tox}, firstE l = 0 → ∀ t ∈ l, chk t = 0
  | u :: r, h, t, ht => by
    unfold firstE at h
    split at h
    · rename_i e; exact absurd h e
    · rename_i e
      rcases List.mem_cons.1 ht with rfl | ht
      · exact Decidable.byContradiction e
      · exact first_all h t ht
theorem dbl_none {l : List Tox} (h : dblB l = false) {k : Nat} {t : Tox} (hk : l[k]? = some t) : hasB (l.take k) t.name = false := by
  cases e : hasB (l.take k) t.name with
  | false => rfl
  | true =>
    have h1 : dblN l (k + 1) = true := by unfold dblN; rw [hk]; simp [e]
    have := dblN_mono h1 (show k + 1 ≤ l.length from (List.getElem?_eq_some_iff.1 hk).1)
    unfold dblB at h
    rw [this] at h
    cases h
theorem linkE_0 {l : List Tox} {room : Int} (h : linkE l room = 0) : roomOk room = true ∧ l.length ≤ 8 ∧ firstE l = 0 ∧ dblB l = false := by
  unfold linkE at h
  split at h
  · exact absurd h (by decide)
  rename_i h2
  split at h
  · rename_i h3; exact absurd h h3
  rename_i h3
  split at h
  · exact absurd h (by decide)
  rename_i h4
  refine ⟨?_, by omega, by simpa using h3, by simpa using h4⟩
  cases e : roomOk room with
  | true => rfl
  | false => exact absurd (.inl e) h2
theorem newI_linkN (L : List Tox) (up : Bool) (seed room now : Int) (h : linkE L room = 0) : NewI L up room now (linkN L up seed room now) := by
  obtain ⟨hr, h8, hf, hd⟩ := linkE_0 h
  have key : ∀ k, k ≤ L.length → NewI (L.take k) up room now (linkN (L.take k) up seed room now) := by
    intro k
    induction k with
    | zero => intro _; exact newI_0 up seed room now
    | succ k ih =>
      intro hk
      have hx : L[k]? = some L[k] := List.getElem?_eq_getElem (by omega)
      have e : L.take (k + 1) = L.take k ++ [L[k]] := by rw [List.take_add_one, hx]; rfl
      rw [e]
      have e2 : linkN (L.take k ++ [L[k]]) up seed room now = addK (linkN (L.take k) up seed room now) L[k] now := by unfold linkN; rw [List.foldl_append]; rfl
      rw [e2]
      exact (ih (by omega)).add hr _ (first_all hf _ (List.mem_of_getElem? hx)) (dbl_none hd hx) (by rw [List.length_take]; omega)
  have := key L.length (Nat.le_refl _)
  rwa [List.take_length] at this
/-! lags -/
/-! a link's calls without toxics -/
end Go.Proofs.Ytoiibmcbjjnpbaa.Link
namespace Go.Proofs.Ytoiibmcbjjnpbaa.Link
open Go.RowKit Mem Tick Cargo Toxic Stage Chain
set_option maxRecDepth 100000
set_option linter.unusedVariables false
set_option linter.unusedSimpArgs false
def opBytes (x : Op) : Nat := x.s.size + x.t.name.size
def Script (w : World) (v : Value) (l : List Op) : Prop :=
  ∃ a cap, v = .slice a l.length cap ∧ l.length ≤ 9223372036854775807 ∧ (∀ x ∈ l, x.s.size ≤ 140737488351232 ∧ x.t.name.size ≤ 140737488351232) ∧
    (l ≠ [] → ∃ b o, a = some ⟨b, o, none⟩ ∧ ∀ j x, l[j]? = some x → w.cell? ⟨b, o + j * 10, none⟩ = some (.int .i64 x.kind) ∧ w.cell? ⟨b, o + j * 10 + 1, none⟩ = some (.int .i64 x.now) ∧ w.cell? ⟨b, o + j * 10 + 2, none⟩ = some (.int .i64 x.n) ∧ w.cell? ⟨b, o + j * 10 + 3, none⟩ = some (.string x.s) ∧ w.cell? ⟨b, o + j * 10 + 4, none⟩ = some (.string x.t.name) ∧ w.cell? ⟨b, o + j * 10 + 5, none⟩ = some (.int .i64 x.t.kind) ∧ w.cell? ⟨b, o + j * 10 + 6, none⟩ = some (.bool x.t.up) ∧ w.cell? ⟨b, o + j * 10 + 7, none⟩ = some (.int .i64 x.t.often) ∧ w.cell? ⟨b, o + j * 10 + 8, none⟩ = some (.int .i64 x.t.a) ∧ w.cell? ⟨b, o + j * 10 + 9, none⟩ = some (.int .i64 x.t.b))
def bytesOf : List Op → Nat
  | [] => 0
  | x :: r => opBytes x + bytesOf r
theorem bytesOf_append (a b : List Op) : bytesOf (a ++ b) = bytesOf a + bytesOf b := by induction a with | nil => simp [bytesOf] | cons p r ih => simp [bytesOf, ih]; omega
theorem bytesOf_take (l : List Op) (k : Nat) (x : Op) (h : l[k]? = some x) : bytesOf (l.take (k + 1)) = bytesOf (l.take k) + opBytes x := by
  rw [List.take_add_one, h, bytesOf_append]; simp [bytesOf]
theorem bytesOf_le (l : List Op) (k : Nat) : bytesOf (l.take k) ≤ bytesOf l := by
  have := bytesOf_append (l.take k) (l.drop k)
  rw [List.take_append_drop] at this; omega
theorem bytesOf_max (l : List Op) (h : ∀ x ∈ l, x.s.size ≤ 140737488351232 ∧ x.t.name.size ≤ 140737488351232) : bytesOf l ≤ l.length * 281474976702464 := by
  induction l with
  | nil => simp [bytesOf]
  | cons x r ih =>
    have h1 := h x (List.mem_cons_self ..)
    have h2 := ih fun y hy => h y (List.mem_cons_of_mem _ hy)
    simp only [bytesOf, List.length_cons, opBytes]; omega
theorem bytes_s (l : List Op) (k : Nat) (p : Op) (h : l[k]? = some p) : bytesOf (l.take (k + 1)) = bytesOf (l.take k) + (p.s.size + p.t.name.size) := bytesOf_take l k p h
def fewK (n : Nat) (l : List Op) : Bool := decide (n ≤ 12) && (decide (l.length ≤ 60) && decide (bytesOf l ≤ 2000))
theorem few_short (sa : Option Addr) (sn sc : Nat) (up : Bool) (seed room : Int) (v : Value) (l : List Op) (w : World) (hsn : sn ≤ 9223372036854775807) (hv : Script w v l) (hsmall : l.length ≤ 60) :
    Calls Try.prog 5 #[.agg #[.slice sa sn sc, .bool up, .int .u64 seed, .int .i64 room], v] w fun e w' => e = .returned (.bool (fewK sn l)) ∧ Below w.heap.size w w' := by
  obtain ⟨a, cap, rfl, hm, hs, hA⟩ := hv
  have hmx := bytesOf_max l hs
  have hd : decide ((l.length : Int) ≤ 60) = true := decide_eq_true (by omega)
  have hB0 := Lib.hid ((Below.refl w.heap.size w).alloc (Nat.le_refl _) (.cells #[.slice sa sn sc, .bool up, .int .u64 seed, .int .i64 room] 25))
  have hX0 := Lib.hid (Blk.new w 25 #[.slice sa sn sc, .bool up, .int .u64 seed, .int .i64 room])
  clear hs
  go_enter Try.func5, Try.ntmps5
  go_wp2
  go_loopw [5, 10] (fun nv iv wr => ∃ k : Nat, k ≤ l.length ∧ iv = .int .i64 k ∧ nv = .int .i64 (bytesOf (l.take k)) ∧ Below w.heap.size w wr ∧ Blk wr w.heap.size 25 #[.slice sa sn sc, .bool up, .int .u64 seed, .int .i64 room]) (fun _ iv _ => l.length - (intOf iv).toNat)
  case atStart => exact ⟨0, by omega, rfl, by simp [bytesOf], hB0.out, hX0.out⟩
  case round =>
    obtain ⟨k, hk, rfl, rfl, hB, hX⟩ := hrel
    by_cases hlt : k < l.length
    · obtain ⟨g, o, rfl, hc⟩ := hA (by intro h; subst h; simp at hlt)
      have hx : l[k]? = some l[k] := List.getElem?_eq_getElem hlt
      obtain ⟨d0, d1, d2, d3, d4, d5, d6, d7, d8, d9⟩ := hc k _ hx
      have hs := Lib.hid (bytes_s l k _ hx)
      have hle := bytesOf_le l (k + 1)
      rw [hs.out] at hle
      generalize l[k] = p at *
      obtain ⟨p0, p1, p2, p3, ⟨t0, t1, t2, t3, t4, t5⟩⟩ := p
      dsimp only at *
      have d0' := bcells hB d0
      have d1' := bcells hB d1
      have d2' := bcells hB d2
      have d3' := bcells hB d3
      have d4' := bcells hB d4
      have d5' := bcells hB d5
      have d6' := bcells hB d6
      have d7' := bcells hB d7
      have d8' := bcells hB d8
      have d9' := bcells hB d9
      generalize hs1 : bytesOf (l.take (k + 1)) = s1 at *
      have hs1' := Lib.hid hs1
      generalize bytesOf (l.take k) = s0 at *
      have hsz := hB.size
      have hX' := Lib.hid hX
      clear hc hx hA d0 d1 d2 d3 d4 d5 d6 d7 d8 d9 hs1 hX
      go_wp2
      go_roundw
      case rel => exact ⟨k + 1, by omega, by go_num, by rw [hs1'.out, hs.out]; go_num, hB.alloc hB.size _, hX'.out.below ((Below.refl _ _).alloc (Nat.le_refl _) _)⟩
      case measure => simp [intOf]; omega
    · have hk2 : k = l.length := by omega
      subst hk2
      have hnl : ¬ (l.length < l.length) := by omega
      rw [List.take_length]
      have c0 : wr.cell? ⟨w.heap.size, 0, none⟩ = some (.slice sa sn sc) := (hX.cell 0).trans rfl
      clear hA hX
      by_cases h12 : sn ≤ 12
      · have t12 : decide ((sn : Int) ≤ 12) = true := decide_eq_true (by omega)
        have e1 : fewK sn l = decide (bytesOf l ≤ 2000) := by unfold fewK; rw [decide_eq_true h12, decide_eq_true hsmall]; simp
        have e1' := Lib.hid e1
        clear e1
        go_wp2
        go_ret
        exact ⟨by rw [e1'.out]; simp; omega, hB⟩
      · have t12 : decide ((sn : Int) ≤ 12) = false := decide_eq_false (by omega)
        have e1 : fewK sn l = false := by unfold fewK; rw [decide_eq_false h12]; rfl
        have e1' := Lib.hid e1
        clear e1
        go_wp2
        go_ret
        exact ⟨by rw [e1'.out]; rfl, hB⟩
theorem few_long (sa : Option Addr) (sn sc : Nat) (up : Bool) (seed room : Int) (v : Value) (l : List Op) (w : World) (hsn : sn ≤ 9223372036854775807) (hv : Script w v l) (hbig : 60 < l.length) :
    Calls Try.prog 5 #[.agg #[.slice sa sn sc, .bool up, .int .u64 seed, .int .i64 room], v] w fun e w' => e = .returned (.bool false) ∧ Below w.heap.size w w' := by
  obtain ⟨a, cap, rfl, hm, hs, hA⟩ := hv
  have hd : decide ((l.length : Int) ≤ 60) = false := decide_eq_false (by omega)
  have hB0 := Lib.hid ((Below.refl w.heap.size w).alloc (Nat.le_refl _) (.cells #[.slice sa sn sc, .bool up, .int .u64 seed, .int .i64 room] 25))
  have hX0 := Lib.hid (Blk.new w 25 #[.slice sa sn sc, .bool up, .int .u64 seed, .int .i64 room])
  clear hs
  go_enter Try.func5, Try.ntmps5
  go_wp2
  go_loopw [5, 10] (fun nv iv wr => ∃ (k : Nat) (y : Int), k ≤ l.length ∧ iv = .int .i64 k ∧ nv = .int .i64 y ∧ Below w.heap.size w wr ∧ Blk wr w.heap.size 25 #[.slice sa sn sc, .bool up, .int .u64 seed, .int .i64 room]) (fun _ iv _ => l.length - (intOf iv).toNat)
  case atStart => exact ⟨0, 0, by omega, rfl, rfl, hB0.out, hX0.out⟩
  case round =>
    obtain ⟨k, y, hk, rfl, rfl, hB, hX⟩ := hrel
    by_cases hlt : k < l.length
    · obtain ⟨g, o, rfl, hc⟩ := hA (by intro h; subst h; simp at hlt)
      have hx : l[k]? = some l[k] := List.getElem?_eq_getElem hlt
      obtain ⟨d0, d1, d2, d3, d4, d5, d6, d7, d8, d9⟩ := hc k _ hx
      generalize l[k] = p at *
      obtain ⟨p0, p1, p2, p3, ⟨t0, t1, t2, t3, t4, t5⟩⟩ := p
      dsimp only at *
      have d0' := bcells hB d0
      have d1' := bcells hB d1
      have d2' := bcells hB d2
      have d3' := bcells hB d3
      have d4' := bcells hB d4
      have d5' := bcells hB d5
      have d6' := bcells hB d6
      have d7' := bcells hB d7
      have d8' := bcells hB d8
      have d9' := bcells hB d9
      have hsz := hB.size
      have hX' := Lib.hid hX
      clear hc hx hA d0 d1 d2 d3 d4 d5 d6 d7 d8 d9 hX
      go_wp2
      go_roundw
      case rel => exact ⟨k + 1, _, by omega, by go_num, rfl, hB.alloc hB.size _, hX'.out.below ((Below.refl _ _).alloc (Nat.le_refl _) _)⟩
      case measure => simp [intOf]; omega
    · have hk2 : k = l.length := by omega
      subst hk2
      have hnl : ¬ (l.length < l.length) := by omega
      have c0 : wr.cell? ⟨w.heap.size, 0, none⟩ = some (.slice sa sn sc) := (hX.cell 0).trans rfl
      clear hA hX
      by_cases h12 : sn ≤ 12
      · have t12 : decide ((sn : Int) ≤ 12) = true := decide_eq_true (by omega)
        go_wp2
        go_ret
        exact ⟨rfl, hB⟩
      · have t12 : decide ((sn : Int) ≤ 12) = false := decide_eq_false (by omega)
        go_wp2
        go_ret
        exact ⟨rfl, hB⟩
theorem few_any (sa : Option Addr) (sn sc : Nat) (up : Bool) (seed room : Int) (v : Value) (l : List Op) (w : World) (hsn : sn ≤ 9223372036854775807) (hv : Script w v l) :
    Calls Try.prog 5 #[.agg #[.slice sa sn sc, .bool up, .int .u64 seed, .int .i64 room], v] w fun e w' => e = .returned (.bool (fewK sn l)) ∧ Below w.heap.size w w' := by
  by_cases h : l.length ≤ 60
  · exact few_short sa sn sc up seed room v l w hsn hv h
  · have e : fewK sn l = false := by unfold fewK; rw [decide_eq_false h]; simp
    rw [e]
    exact few_long sa sn sc up seed room v l w hsn hv (by omega)
variable {w w' : World} {F : Nat → Prop} {b : Nat} {x : Lk}
end Go.Proofs.Ytoiibmcbjjnpbaa.Link
namespace Go.Proofs.Ytoiibmcbjjnpbaa.Link
open Go.RowKit Mem Tick Cargo Toxic Stage Chain
set_option maxRecDepth 100000
set_option linter.unusedVariables false
set_option linter.unusedSimpArgs false
variable {w wr w2 w1 : World} {F : Nat → Prop} {b : Nat} {x y : Lk} {M Q : Int}
theorem live_counts (h : LiveK w wr b x) (ho : OkK x M Q) (hM : M ≤ 1000000000) :
    Calls Try.prog 15 #[ptr b] wr fun e w2 => e = .returned (countsV x) ∧ LiveK w w2 b x ∧ Below wr.heap.size wr w2 := by
  have h' := h
  obtain ⟨F, hC, _⟩ := h
  exact (kCounts_any hC ho hM).mono fun e w2 ⟨he, hb⟩ => ⟨he, h'.below hb, hb⟩
theorem live_done (h : LiveK w wr b x) :
    Calls Try.prog 14 #[ptr b] wr fun e w2 => e = .returned (.bool x.done) ∧ wr = w2 := by
  obtain ⟨F, hC, _⟩ := h
  exact kDone_any hC
theorem off_later {A : Option Addr} {s : ByteArray} {F' : Nat → Prop} (hb : BS w A s) (hp : 0 < s.size) (ho : BS.Off A F) (hs : Stem F F' w) : BS.Off A F' := fun g o e hg => by
  rcases hs g hg with q | q
  · exact ho g o e q
  · exact absurd (bs_lt hb hp e) (Nat.not_lt.2 q)
/-! alive -/
def K0 : Lk := link0 true 7 9 0
def K1 : Lk := sendK K0 0 sAB
def K2 : Lk := finishK K1 0
def K3 : Lk := stepK K2 0 1
def K4 : Lk := stepK K3 0 9
def K5 : Lk := stepK K4 0 9
theorem al1 : putCN K0.c 0 sAB = 2 := by kernel_rfl
theorem al2 : stepB K2 0 1 = ⟨#[97]⟩ ∧ stepE K2 0 1 = 0 := by constructor <;> kernel_rfl
theorem al3 : stepB K3 0 9 = ⟨#[98]⟩ ∧ stepE K3 0 9 = 1 := by constructor <;> kernel_rfl
theorem al4 : (stepB K4 0 9).size = 0 ∧ stepE K4 0 9 = 0 := by constructor <;> kernel_rfl
theorem al5 : K5.done = true ∧ K5.sent = 2 ∧ K5.got = 2 ∧ heldL K5.c.l = 0 ∧ K5.c.lost = 0 := by refine ⟨?_, ?_, ?_, ?_, ?_⟩ <;> kernel_rfl
theorem al6 : K0.sent = 0 ∧ K2.got = 0 ∧ K3.got = 1 ∧ K4.got = 2 := by refine ⟨?_, ?_, ?_, ?_⟩ <;> kernel_rfl
theorem ok0 : OkK K0 0 0 := ok_link0 true 7 9 0 (by decide) (by decide) (by decide)
theorem ok1 : OkK K1 2 0 := (ok0.send 0 sAB).more (by decide) (by decide)
theorem ok2 : OkK K2 2 0 := ⟨ok_close ok1.c 0, by show K1.names.length + 2 = (closeC K1.c 0).l.length; rw [close_len]; exact ok1.n, ok1.d0, ok1.d1, ok1.s0, ok1.s1, ok1.g0, ok1.t0⟩
theorem ok3 : OkK K3 2 60 := (ok2.step 0 1).more (by decide) (by decide)
theorem ok4 : OkK K4 2 120 := (ok3.step 0 9).more (by decide) (by decide)
theorem ok5 : OkK K5 2 180 := (ok4.step 0 9).more (by decide) (by decide)
theorem toxs_nil (w : World) : Toxs w (.slice none 0 0) [] := ⟨none, 0, rfl, by decide, Nat.le_refl _, fun h => absurd rfl h⟩
set_option maxHeartbeats 1000000 in
theorem alive_any (w : World) : Calls Try.prog 6 #[] w fun e w' => e = .returned (.bool true) ∧ Below w.heap.size w w' := by
  have hn := Lib.hid (new_ok (.slice none 0 0) [] true 7 9 0 w (toxs_nil w) (by decide) (by decide) rfl rfl (by decide) (by decide))
  go_enter Try.func6, Try.ntmps6
  go_wp2_with fail
  refine hn.out.mono ?_
  rintro e w0 ⟨b, rfl, F0, hL, hF, hB⟩
  have HL := Lib.hid (show LK w0 F0 b K0 from hL)
  have HF := Lib.hid (And.intro hF hB)
  clear hn hL hF hB
  have k1 := Lib.run_convert_bytes_const (P := Try.prog) w0 36 5 #[.int .u8 97, .int .u8 98] 2 2 Try.underlying36 Try.underlying5
  go_wp2_with fail
  refine (kSend_any (HL.out.below ((Below.refl w0.heap.size w0).alloc (Nat.le_refl _) _)) ok0 0 _ 2 sAB (by decide) (sAB_of w0) (fun g o e hg => by injection e with e; injection e with e; have := HL.out.lt hg; omega) (by decide) (by rw [al6.1]; decide)).mono ?_
  rintro e w1 ⟨rfl, F1, hL1, hD1, hS1⟩
  rw [al1]
  have HL1 := Lib.hid (show LK w1 F1 b K1 from hL1)
  have hD1' := Lib.hid (show Did F0 w0 w1 from ((Did.refl F0 w0).alloc _).trans (Stem.refl _ _) hD1)
  have hS1' := Lib.hid (show Stem F0 F1 w0 from fun j hj => (hS1 j hj).imp id (fun e => by have := (Below.heap_alloc w0); simp at e; omega))
  clear k1 hL1 hD1 hS1 HL
  go_wp2_with fail
  refine (kFinish_any HL1.out ok1 0).mono ?_
  rintro e w2 ⟨rfl, F2, hL2, hD2, hS2⟩
  have HL2 := Lib.hid (show LK w2 F2 b K2 from hL2)
  have hD2' := Lib.hid (hD1'.out.trans hS1'.out hD2)
  have hS2' := Lib.hid (hS1'.out.trans hD1'.out.size hS2)
  clear hL2 hD2 hS2 HL1 hD1' hS1'
  go_wp2_with fail
  refine (kStep_any HL2.out ok2 (by decide) (by decide) (by rw [al6.2.1]; decide) 0 1).mono ?_
  rintro e w3 ⟨A3, c3, F3, rfl, hb3, hn3, hL3, hD3, hS3, ho3⟩
  rw [al2.1] at hb3 ho3 ⊢
  rw [al2.2]
  have HL3 := Lib.hid (show LK w3 F3 b K3 from hL3)
  have hD3' := Lib.hid (hD2'.out.trans hS2'.out hD3)
  have hS3' := Lib.hid (hS2'.out.trans hD2'.out.size hS3)
  have HB3 := Lib.hid (And.intro hb3 (ho3 (by decide)))
  clear hL3 hD3 hS3 HL2 hD2' hS2' hb3 ho3 hn3
  go_wp2_with fail
  refine (kStep_any HL3.out ok3 (by decide) (by decide) (by rw [al6.2.2.1]; decide) 0 9).mono ?_
  rintro e w4 ⟨A4, c4, F4, rfl, hb4, hn4, hL4, hD4, hS4, ho4⟩
  rw [al3.1] at hb4 ho4 ⊢
  rw [al3.2]
  have HL4 := Lib.hid (show LK w4 F4 b K4 from hL4)
  have hD4' := Lib.hid (hD3'.out.trans hS3'.out hD4)
  have hS4' := Lib.hid (hS3'.out.trans hD3'.out.size hS4)
  have HB4 := Lib.hid (And.intro hb4 (ho4 (by decide)))
  have HB34 := Lib.hid (And.intro (BS_did HB3.out.1 HB3.out.2 hD4) (off_later HB3.out.1 (by decide) HB3.out.2 hS4))
  clear hL4 hD4 hS4 HL3 hD3' hS3' hb4 ho4 hn4 HB3
  go_wp2_with fail
  refine (kStep_any HL4.out ok4 (by decide) (by decide) (by rw [al6.2.2.2]; decide) 0 9).mono ?_
  rintro e w5 ⟨A5, c5, F5, rfl, -, -, hL5, hD5, hS5, -⟩
  rw [al4.1, al4.2]
  have HL5 := Lib.hid (show LiveK w w5 b K5 from ⟨F5, hL5, fun j hj => (hS4'.out.trans hD4'.out.size hS5 j hj).elim (HF.out.1 j) (fun e => Nat.le_trans HF.out.2.size e), HF.out.2.trans ((hD4'.out.trans hS4'.out hD5).below HF.out.2.size HF.out.1)⟩)
  have hcv3 : (convert 36 9 (.slice A3 1 c3)).run Try.prog w5 = .ok (.string ⟨#[97]⟩) w5 := conv_bytes c3 (BS_did HB34.out.1 HB34.out.2 hD5)
  have hcv4 : (convert 36 9 (.slice A4 1 c4)).run Try.prog w5 = .ok (.string ⟨#[98]⟩) w5 := conv_bytes c4 (BS_did HB4.out.1 HB4.out.2 hD5)
  have l1 : K5.done = true := al5.1
  have l2 : countsV K5 = .agg #[.int .i64 2, .int .i64 2, .int .i64 0, .int .i64 0] := by unfold countsV; rw [al5.2.1, al5.2.2.1, al5.2.2.2.1, al5.2.2.2.2]; rfl
  clear hL5 hD5 hS5 HL4 hD4' hS4' HB4 HB34
  go_wp2_with (first
    | (go_at_call 14; (with_reducible refine (live_done HL5.out).mono ?_); rintro e w6 ⟨rfl, rfl⟩; rw [l1])
    | (go_at_call 15; (with_reducible refine (live_counts HL5.out ok5 (by decide)).mono ?_); rintro e w7 ⟨rfl, hL, -⟩; rw [l2]; have H7 := Lib.hid hL; clear hL))
  go_ret
  exact ⟨by simp, H7.out.old⟩
end Go.Proofs.Ytoiibmcbjjnpbaa.Link
namespace Go.Proofs.Ytoiibmcbjjnpbaa.Link
open Go.RowKit Mem Tick Cargo Toxic Stage Chain
set_option maxRecDepth 100000
set_option linter.unusedVariables false
set_option linter.unusedSimpArgs false
def Seats (w : World) (v : Value) (L : List Tox) (up : Bool) (seed room : Int) : Prop :=
  ∃ sa sc, v = .agg #[.slice sa L.length sc, .bool up, .int .u64 seed, .int .i64 room] ∧ Toxs w (.slice sa L.length sc) L ∧ 0 ≤ seed ∧ seed < 18446744073709551616
theorem live_new {w wr : World} {sa : Option Addr} {sc : Nat} {L : List Tox} (up : Bool) (seed room now : Int) (hv : Toxs w (.slice sa L.length sc) L) (h : linkE L room = 0) (h0 : 0 ≤ seed) (h1 : seed < 18446744073709551616) (hB : Below w.heap.size w wr) :
    Calls Try.prog 7 #[.slice sa L.length sc, .bool up, .int .u64 seed, .int .i64 room, .int .i64 now] wr fun e w' => ∃ b, e = .returned (.tuple #[ptr b, .int .i64 0]) ∧ LiveK w w' b (linkN L up seed room now) := by
  unfold linkE at h
  split at h
  · exact absurd h (by decide)
  rename_i h2
  split at h
  · rename_i h3; exact absurd h h3
  rename_i h3
  split at h
  · exact absurd h (by decide)
  rename_i h4
  have hr : roomOk room = true := by cases e : roomOk room with | true => rfl | false => exact absurd (.inl e) h2
  refine (new_ok _ L up seed room now wr (hv.below hB) hr (by omega) (by simpa using h3) (by simpa using h4) h0 h1).mono ?_
  rintro e w1 ⟨b, rfl, F, hL, hF, hB1⟩
  exact ⟨b, rfl, F, hL, fun j hj => Nat.le_trans hB.size (hF j hj), bw_below hB hB1⟩
theorem bad_new {wr : World} {v : Value} {L : List Tox} (up : Bool) (seed room now : Int) (hv : Toxs wr v L) (h : linkE L room ≠ 0) :
    Calls Try.prog 7 #[v, .bool up, .int .u64 seed, .int .i64 room, .int .i64 now] wr fun e w' => e = .returned (.tuple #[.pointer none, .int .i64 (linkE L room)]) ∧ Below wr.heap.size wr w' := by
  unfold linkE at h ⊢
  cases hr : roomOk room with
  | false => rw [if_pos (.inl rfl)]; exact new_bad v L up seed room now wr hv hr
  | true =>
    by_cases hl : 8 < L.length
    · rw [if_pos (.inr hl)]; exact new_long v L up seed room now wr hv hr hl
    have e1 : ¬ ((true = false) ∨ 8 < L.length) := by rintro (e | e); cases e; exact hl e
    rw [hr, if_neg e1] at h
    rw [if_neg e1]
    by_cases hf : firstE L = 0
    · rw [if_neg (by simpa using hf)] at h ⊢
      cases hd : dblB L with
      | true => rw [if_pos rfl]; exact new_dbl v L up seed room now wr hv hr (by omega) hf hd
      | false => rw [hd] at h; exact absurd rfl h
    · rw [if_pos hf]; exact new_chk v L up seed room now wr hv hr (by omega) hf
theorem kk_link0 (up : Bool) (seed room now : Int) : KK (link0 up seed room now) ⟨#[]⟩ ⟨#[]⟩ := ⟨km_new room now, rfl, rfl⟩
theorem kk_fold (now : Int) : ∀ (l : List Tox) (x : Lk), KK x ⟨#[]⟩ ⟨#[]⟩ → KK (l.foldl (fun x t => addK x t now) x) ⟨#[]⟩ ⟨#[]⟩
  | [], _, h => h
  | t :: l, x, h => kk_fold now l _ (by
      show KK (addK x t now) ⟨#[]⟩ ⟨#[]⟩
      unfold addK
      split
      · exact ⟨km_ins h.km _ _ _ _, h.sent, h.got⟩
      · exact h)
theorem kk_linkN (l : List Tox) (up : Bool) (seed room now : Int) : KK (linkN l up seed room now) ⟨#[]⟩ ⟨#[]⟩ := kk_fold now l _ (kk_link0 up seed room now)
end Go.Proofs.Ytoiibmcbjjnpbaa.Link
namespace Go.Proofs.Ytoiibmcbjjnpbaa.Link
open Go.RowKit Mem Tick Cargo Toxic Stage Chain
set_option linter.unusedVariables false
set_option linter.unusedSimpArgs false
theorem mulr {x y E : Int} (h : x ≤ y) (hE : 0 ≤ E) : x * E ≤ y * E := Int.mul_le_mul_of_nonneg_right h hE
theorem add1 (x E : Int) : (x + 1) * E = x * E + E := by rw [Int.add_mul, Int.one_mul]
def cst (t : Tox) : Int := if t.kind = 2 then 1 else if t.kind = 3 then t.b + 1 else if t.kind = 1 ∨ t.kind = 7 then t.a + t.b + 1 else 1
def costL : List Pa → Int
  | [] => 0
  | a :: r => cst a.s.t + costL r
theorem costL_app : ∀ a b : List Pa, costL (a ++ b) = costL a + costL b
  | [], b => by simp [costL]
  | p :: r, b => by simp only [List.cons_append, costL, costL_app r b]; omega
theorem cst_pos {t : Tox} (ha : 0 ≤ t.a) (hb : 0 ≤ t.b) : 1 ≤ cst t := by
  unfold cst
  repeat' split
  all_goals omega
structure Stg (τ κ N n e h : Int) (a : Pa) : Prop where
  ok : Ok a.s
  psf : Psf a
  rm : n ≤ a.s.room
  clk : a.s.clock ≤ N
  T : 0 < held a.s → τ ≤ (h + 1) * (e + cst a.s.t)
  D1 : a.s.t.kind = 1 → (∀ (p : Nat) (d : Int), (dues a.s.c.1)[p]? = some d → d ≤ (h + p + 1) * (e + cst a.s.t)) ∧ a.s.c.2 ≤ (h + held a.s) * (e + cst a.s.t)
  D0 : a.s.t.kind ≠ 1 → a.s.c.2 ≤ a.s.clock
  P : a.s.t.kind = 3 → a.s.pause ≤ (h + 1) * (e + cst a.s.t)
  B : a.s.t.kind = 2 → 1 ≤ a.s.b0 ∧ a.s.b3 ≤ max 0 (τ - 1)
  A : a.s.t.kind = 7 → a.cl = true → a.s.at_ ≤ (n + 1) * e
  L : a.cl = true ∨ κ ≤ (n + 1) * e
  e0 : 0 ≤ e + cst a.s.t
  e1 : a.s.t.kind ≠ 0 → 0 ≤ e
variable {τ κ N n e h : Int} {a c : Pa}
theorem lk_clk {s : Sg} {N : Int} (hc : s.clock ≤ N) (hN : 0 ≤ N) (hN1 : N ≤ 1099511627776) : (lookP s N).clock = N := by
  rw [clk_look, nr_in hN hN1]; omega
theorem Stg.look (H : Stg τ κ N n e h a) (hN : 0 ≤ N) (hN1 : N ≤ 1099511627776) : Stg τ κ N n e h (lookA N a) :=
  ⟨H.ok.look N, loc_psf.look a N H.psf, H.rm, by show (lookP a.s N).clock ≤ N; rw [lk_clk H.clk hN hN1]; exact Int.le_refl _, H.T, H.D1, fun hk => by show a.s.c.2 ≤ (lookP a.s N).clock; rw [lk_clk H.clk hN hN1]; exact Int.le_trans (H.D0 hk) H.clk, H.P, H.B, H.A, H.L, H.e0, H.e1⟩
theorem Stg.later (H : Stg τ κ N n e h a) {N' : Int} (hN : N ≤ N') : Stg τ κ N' n e h a :=
  ⟨H.ok, H.psf, H.rm, Int.le_trans H.clk hN, H.T, H.D1, H.D0, H.P, H.B, H.A, H.L, H.e0, H.e1⟩
theorem Stg.up (H : Stg τ κ N n e h a) {τ' : Int} (hh : held a.s = 0) (ht : τ ≤ τ') : Stg τ' κ N n e h a :=
  ⟨H.ok, H.psf, H.rm, H.clk, fun h0 => by omega, H.D1, H.D0, H.P, fun hk => ⟨(H.B hk).1, by have := (H.B hk).2; omega⟩, H.A, H.L, H.e0, H.e1⟩
theorem stg_ab (H : Stg τ κ N n e h a) : 0 ≤ a.s.t.a ∧ 0 ≤ a.s.t.b := by have := tox_ab H.ok; exact ⟨this.1, this.2.2.1⟩
theorem all_ready {s : Sg} {N : Int} (hg : Cargo.Good s.c) (h : s.c.2 ≤ N) : rdy N s.c.1 = held s := rdy_all fun a ha => by have := hg.2.2 a ha; omega
theorem range_le (d lo hi : Int) (h : lo ≤ hi) : Ref02.rangeN d lo hi ≤ hi := by
  unfold Ref02.rangeN
  split
  · exact h
  · have := Ref02.hiI_bd d (hi - lo + 1) (by omega); omega
theorem add_le_ {x y : Int} (hx : 0 ≤ x) (hy : 0 ≤ y) : Tick.add x y ≤ x + y := by
  unfold Tick.add nr
  repeat' split
  all_goals omega
theorem Stg.force (H : Stg τ κ N n e h c) (hN : 0 ≤ N) (hN1 : N ≤ 1099511627776) (hh : 0 ≤ h) (x : ByteArray) (ho : (lookP c.s N).state = 0) (he : 0 ≤ e ∨ c.s.t.kind = 0) (hx : 0 < x.size → N ≤ (h + held c.s + 1) * e ∨ c.s.t.kind = 0) (ht : 0 < x.size → held c.s = 0 → τ ≤ (h + 1) * (e + cst c.s.t)) :
    Stg τ κ N n e h ⟨forceP (lookP c.s N) N x, c.cl⟩ := by
  have HL := H.look hN hN1
  have hclk := lk_clk H.clk hN hN1
  have hst := force_st (lookP c.s N) N x
  have hab := stg_ab H
  rw [look_idem] at hst
  by_cases hz : x.size = 0
  · have : forceP (lookP c.s N) N x = lookP c.s N := by unfold forceP; rw [if_pos (.inr hz), look_idem]
    rw [this]; exact HL
  have hf : forceP (lookP c.s N) N x = putIn (diceP (lookP c.s N)) (whenP (lookP c.s N)) x := by unfold forceP; rw [look_idem, if_neg (by rintro (z | z); exact z ho; exact hz z)]
  have hty : (forceP (lookP c.s N) N x).t = c.s.t := hst.1
  have hE := H.e0
  have hemp : x.toList.isEmpty = false := by
    cases hq : x.toList.isEmpty with
    | false => rfl
    | true => rw [isEmpty_size] at hq; exact absurd (by simpa using hq) hz
  have hc1 : (forceP (lookP c.s N) N x).c = (addP c.s.c.1 (putAt c.s.c.2 (whenP (lookP c.s N))) x, putAt c.s.c.2 (whenP (lookP c.s N))) := by
    rw [hf]
    show (addP (diceP (lookP c.s N)).c.1 (putAt (diceP (lookP c.s N)).c.2 _) x, putLast (diceP (lookP c.s N)).c.2 _ x) = _
    rw [dice_c]
    unfold putLast
    rw [hemp]
    rfl
  have hheld : held (forceP (lookP c.s N) N x) = held c.s + x.size := by
    unfold held
    rw [hc1]
    exact tot_add _ _ _
  have hw := when_ge (H.ok.look N)
  have hput : putAt c.s.c.2 (whenP (lookP c.s N)) = max (whenP (lookP c.s N)) c.s.c.2 := by
    unfold putAt
    rw [add_nr, nr_in hw.2.1 hw.2.2]
  have hoth : (forceP (lookP c.s N) N x).pause = c.s.pause ∧ (forceP (lookP c.s N) N x).b0 = c.s.b0 ∧ (forceP (lookP c.s N) N x).b3 = c.s.b3 ∧ (forceP (lookP c.s N) N x).at_ = c.s.at_ := by
    rw [hf]
    unfold putIn diceP
    split <;> exact ⟨rfl, rfl, rfl, rfl⟩
  refine ⟨(H.ok.look N).force N x, loc_psf.force (lookA N c) N x (loc_psf.look c N H.psf), by show n ≤ (forceP (lookP c.s N) N x).room; rw [hst.2.2.2.1]; exact H.rm, by show (forceP (lookP c.s N) N x).clock ≤ N; rw [hst.2.2.2.2, hclk]; exact Int.le_refl _, ?_, ?_, ?_, ?_, ?_, ?_, H.L, ?_, ?_⟩
  · show 0 < held (forceP (lookP c.s N) N x) → τ ≤ (h + 1) * (e + cst (forceP (lookP c.s N) N x).t)
    rw [hty]
    intro _
    by_cases h0 : 0 < held c.s
    · exact H.T h0
    · exact ht (by omega) (by omega)
  · show (forceP (lookP c.s N) N x).t.kind = 1 → (∀ (p : Nat) (d : Int), (dues (forceP (lookP c.s N) N x).c.1)[p]? = some d → d ≤ (h + p + 1) * (e + cst (forceP (lookP c.s N) N x).t)) ∧ (forceP (lookP c.s N) N x).c.2 ≤ (h + held (forceP (lookP c.s N) N x)) * (e + cst (forceP (lookP c.s N) N x).t)
    rw [hty, hc1, hheld]
    intro hk
    obtain ⟨d1, d2⟩ := H.D1 hk
    have hx1 := (hx (by omega)).resolve_right (by omega)
    have hab2 := (tox_parts H.ok.tox).2.2.2.2.2.2.1 hk
    have hbig := tox_ab H.ok
    have hcst : cst c.s.t = c.s.t.a + c.s.t.b + 1 := by unfold cst; rw [if_neg (by omega), if_neg (by omega), if_pos (.inl hk)]
    have hwu : whenP (lookP c.s N) ≤ N + (c.s.t.a + c.s.t.b) := by
      unfold whenP
      rw [if_pos (show (lookP c.s N).t.kind = 1 from hk), hclk]
      have e1 : loP (lookP c.s N) = c.s.t.a - c.s.t.b := by show wrap64 (c.s.t.a - c.s.t.b) = _; unfold wrap64; omega
      have e2 : hiP (lookP c.s N) = c.s.t.a + c.s.t.b := by show wrap64 (c.s.t.a + c.s.t.b) = _; unfold wrap64; omega
      rw [e1, e2]
      have r1 := rangeN_ge (lookP c.s N).dice (c.s.t.a - c.s.t.b) (c.s.t.a + c.s.t.b)
      have r2 := range_le (lookP c.s N).dice (c.s.t.a - c.s.t.b) (c.s.t.a + c.s.t.b) (by omega)
      have := add_le_ hN (show 0 ≤ Ref02.rangeN (lookP c.s N).dice (c.s.t.a - c.s.t.b) (c.s.t.a + c.s.t.b) by omega)
      omega
    have hm1 : N + (c.s.t.a + c.s.t.b) ≤ (h + held c.s + 1) * (e + cst c.s.t) := by
      rw [Int.mul_add]
      have : 1 * cst c.s.t ≤ (h + held c.s + 1) * cst c.s.t := mulr (by omega) (by omega)
      omega
    have hm2 : (h + held c.s) * (e + cst c.s.t) ≤ (h + held c.s + 1) * (e + cst c.s.t) := mulr (by omega) hE
    have hdue : putAt c.s.c.2 (whenP (lookP c.s N)) ≤ (h + held c.s + 1) * (e + cst c.s.t) := by rw [hput]; omega
    refine ⟨fun p d hp => ?_, ?_⟩
    · show d ≤ _
      rw [dues_add] at hp
      by_cases hpl : p < (dues c.s.c.1).length
      · rw [List.getElem?_append_left hpl] at hp
        exact d1 p d hp
      · rw [List.getElem?_append_right (by omega)] at hp
        have := List.eq_of_mem_replicate (List.mem_of_getElem? hp)
        rw [this]
        refine Int.le_trans hdue (mulr ?_ hE)
        rw [dues_len] at hpl
        have : held c.s = tot c.s.c.1 := rfl
        omega
    · show putAt c.s.c.2 (whenP (lookP c.s N)) ≤ _
      refine Int.le_trans hdue (mulr ?_ hE)
      rw [Int.natCast_add]
      omega
  · show (forceP (lookP c.s N) N x).t.kind ≠ 1 → (forceP (lookP c.s N) N x).c.2 ≤ (forceP (lookP c.s N) N x).clock
    rw [hty, hc1, hst.2.2.2.2, hclk]
    intro hk
    show putAt c.s.c.2 (whenP (lookP c.s N)) ≤ N
    have : whenP (lookP c.s N) = N := by unfold whenP; rw [if_neg (show ¬ (lookP c.s N).t.kind = 1 from hk), hclk]
    have h2 := H.D0 hk
    have h3 := H.clk
    rw [hput, this]
    omega
  · show (forceP (lookP c.s N) N x).t.kind = 3 → (forceP (lookP c.s N) N x).pause ≤ (h + 1) * (e + cst (forceP (lookP c.s N) N x).t)
    rw [hty, hoth.1]; exact H.P
  · show (forceP (lookP c.s N) N x).t.kind = 2 → 1 ≤ (forceP (lookP c.s N) N x).b0 ∧ (forceP (lookP c.s N) N x).b3 ≤ max 0 (τ - 1)
    rw [hty, hoth.2.1, hoth.2.2.1]; exact H.B
  · show (forceP (lookP c.s N) N x).t.kind = 7 → c.cl = true → (forceP (lookP c.s N) N x).at_ ≤ (n + 1) * e
    rw [hty, hoth.2.2.2]; exact H.A
  · show 0 ≤ e + cst (forceP (lookP c.s N) N x).t
    rw [hty]; exact H.e0
  · show (forceP (lookP c.s N) N x).t.kind ≠ 0 → 0 ≤ e
    rw [hty]; exact H.e1
/-! bytes go out of a stage -/
theorem rdy_next {N : Int} : ∀ (ps : List Pc) (d : Int), (ats ps).Pairwise (· < ·) → Full ps → (dues ps)[rdy N ps]? = some d → N < d
  | [], d, _, _, h => by simp [dues] at h
  | p :: r, d, hp, hf, h => by
    have hp' := List.pairwise_cons.1 (show (p.1 :: ats r).Pairwise (· < ·) from hp)
    have hf0 : 0 < p.2.size := hf p (List.mem_cons_self ..)
    by_cases hd : p.1 ≤ N
    · simp only [rdy, if_pos hd] at h
      rw [dues, List.getElem?_append_right (by rw [List.length_replicate]; omega), List.length_replicate, show p.2.size + rdy N r - p.2.size = rdy N r by omega] at h
      exact rdy_next r d hp'.2 (fun q hq => hf q (List.mem_cons_of_mem _ hq)) h
    · have hz : rdy N (p :: r) = 0 := rdy_no fun a ha => by
        rcases List.mem_cons.1 (show a ∈ p.1 :: ats r from ha) with rfl | h2
        · omega
        · have := hp'.1 a h2; omega
      rw [hz, dues, List.getElem?_append_left (by rw [List.length_replicate]; exact hf0)] at h
      have := List.eq_of_mem_replicate (List.mem_of_getElem? h)
      omega
theorem outN_is (s : Sg) (m : Int) : outN s m = (min (rdy s.clock s.c.1 : Int) (max (wayN s m) 0)).toNat := by
  unfold outN takeN
  rw [(wayS_c s m).1]
theorem take_c {s : Sg} {m : Int} (hk : outN s m ≤ tot s.c.1) : (takeOutB s m).size = outN s m ∧ (takeOut s m).c.2 = s.c.2 ∧ dues (takeOut s m).c.1 = (dues s.c.1).drop (outN s m) ∧ held (takeOut s m) = held s - outN s m := by
  have hw := wayS_c s m
  have e1 : (takeOutB s m).size = outN s m := by unfold takeOutB; rw [hw.1]; exact size_takeP _ _ hk
  refine ⟨e1, ?_, ?_, ?_⟩
  · show (wayS s m).c.2 = _; rw [hw.1]
  · show dues (takeP (outN s m) (wayS s m).c.1).2 = _; rw [hw.1, dues_take _ _ hk]
  · have := tot_takeP (outN s m) s.c.1
    rw [size_takeP _ _ hk] at this
    show tot (takeP (outN s m) (wayS s m).c.1).2 = _
    rw [hw.1]
    have e : held s = tot s.c.1 := rfl
    omega
theorem outN_le (s : Sg) (m : Int) : outN s m ≤ tot s.c.1 ∧ outN s m ≤ rdy s.clock s.c.1 := by
  rw [outN_is]
  have := rdy_le s.clock s.c.1
  omega
theorem Stg.out (H : Stg τ κ N n e h a) (hN : 0 ≤ N) (hN1 : N ≤ 1099511627776) (hh : 0 ≤ h) (m : Int) (hlo : τ ≤ N + 1)
    (hT : outN (lookP a.s N) m < held a.s → N + 1 ≤ (h + outN (lookP a.s N) m + 1) * (e + cst a.s.t))
    (hP : a.s.t.kind = 3 → (wayS (lookP a.s N) m).pause ≤ (h + outN (lookP a.s N) m + 1) * (e + cst a.s.t)) :
    Stg (N + 1) κ N n e (h + outN (lookP a.s N) m) ⟨takeOut (lookP a.s N) m, a.cl⟩ := by
  have hclk := lk_clk H.clk hN hN1
  have hst := takeOut_st (lookP a.s N) m
  obtain ⟨k1, k2⟩ := outN_le (lookP a.s N) m
  have hc := take_c k1
  have hty : (takeOut (lookP a.s N) m).t = a.s.t := hst.1
  have hhl : held (lookP a.s N) = held a.s := rfl
  have hoth : (takeOut (lookP a.s N) m).at_ = a.s.at_ ∧ (takeOut (lookP a.s N) m).b0 = a.s.b0 ∧ (takeOut (lookP a.s N) m).pause = (wayS (lookP a.s N) m).pause := by
    unfold takeOut wayS someS sliceS
    split
    · exact ⟨rfl, rfl, rfl⟩
    · split
      · split <;> exact ⟨rfl, rfl, rfl⟩
      · exact ⟨rfl, rfl, rfl⟩
  have hle : outN (lookP a.s N) m ≤ held a.s := k1
  have hpsf : Psf ⟨takeOut (lookP a.s N) m, a.cl⟩ := by
    have hl := psf_look H.psf N
    refine ⟨by show (takeOut (lookP a.s N) m).t.kind ≠ 4 ∧ (takeOut (lookP a.s N) m).t.kind ≠ 5 ∧ (takeOut (lookP a.s N) m).t.kind ≠ 6; rw [hty]; exact H.psf.1, hst.2.1.trans H.psf.2.1, ?_⟩
    show (takeOut (lookP a.s N) m).state = 0 ∨ ((takeOut (lookP a.s N) m).state = 1 ∧ a.cl = true ∧ held (takeOut (lookP a.s N) m) = 0)
    rw [hst.2.2.1, hc.2.2.2, hhl]
    exact hl.imp id (fun q => ⟨q.1, q.2.1, by omega⟩)
  refine ⟨(H.ok.look N).takeOut m, hpsf, by show n ≤ (takeOut (lookP a.s N) m).room; rw [hst.2.2.2.1]; exact H.rm, by show (takeOut (lookP a.s N) m).clock ≤ N; rw [hst.2.2.2.2, hclk]; exact Int.le_refl _, ?_, ?_, ?_, ?_, ?_, ?_, H.L, ?_, ?_⟩
  · show 0 < held (takeOut (lookP a.s N) m) → N + 1 ≤ (h + outN (lookP a.s N) m + 1) * (e + cst (takeOut (lookP a.s N) m).t)
    rw [hty, hc.2.2.2, hhl]
    intro h0
    exact hT (by omega)
  · show (takeOut (lookP a.s N) m).t.kind = 1 → (∀ (p : Nat) (d : Int), (dues (takeOut (lookP a.s N) m).c.1)[p]? = some d → d ≤ (h + outN (lookP a.s N) m + p + 1) * (e + cst (takeOut (lookP a.s N) m).t)) ∧ (takeOut (lookP a.s N) m).c.2 ≤ (h + outN (lookP a.s N) m + held (takeOut (lookP a.s N) m)) * (e + cst (takeOut (lookP a.s N) m).t)
    rw [hty, hc.2.1, hc.2.2.1, hc.2.2.2, hhl]
    intro hk
    obtain ⟨d1, d2⟩ := H.D1 hk
    refine ⟨fun p d hp => ?_, ?_⟩
    · rw [List.getElem?_drop] at hp
      have := d1 _ d hp
      rw [show h + outN (lookP a.s N) m + p + 1 = h + ((outN (lookP a.s N) m + p : Nat) : Int) + 1 by omega]
      exact this
    · rw [show h + outN (lookP a.s N) m + ((held a.s - outN (lookP a.s N) m : Nat) : Int) = h + held a.s by omega]
      exact d2
  · show (takeOut (lookP a.s N) m).t.kind ≠ 1 → (takeOut (lookP a.s N) m).c.2 ≤ (takeOut (lookP a.s N) m).clock
    rw [hty, hc.2.1, hst.2.2.2.2, hclk]
    intro hk
    exact Int.le_trans (H.D0 hk) H.clk
  · show (takeOut (lookP a.s N) m).t.kind = 3 → (takeOut (lookP a.s N) m).pause ≤ (h + outN (lookP a.s N) m + 1) * (e + cst (takeOut (lookP a.s N) m).t)
    rw [hty, hoth.2.2]; exact hP
  · show (takeOut (lookP a.s N) m).t.kind = 2 → 1 ≤ (takeOut (lookP a.s N) m).b0 ∧ (takeOut (lookP a.s N) m).b3 ≤ max 0 (N + 1 - 1)
    rw [hty, hoth.2.1]
    intro hk
    obtain ⟨b1, b2⟩ := H.B hk
    refine ⟨b1, ?_⟩
    have e1 : (takeOut (lookP a.s N) m).b3 = Bucket.takeT a.s.b0 a.s.b1 a.s.b2 a.s.b3 (lookP a.s N).clock m := by
      show (wayS (lookP a.s N) m).b3 = _
      unfold wayS
      rw [if_pos (show (lookP a.s N).t.kind = 2 from hk)]
      rfl
    rw [e1, hclk]
    unfold Bucket.takeT Bucket.fillT
    rw [nr_in hN hN1]
    repeat' split
    all_goals omega
  · show (takeOut (lookP a.s N) m).t.kind = 7 → a.cl = true → (takeOut (lookP a.s N) m).at_ ≤ (n + 1) * e
    rw [hty, hoth.1]; exact H.A
  · show 0 ≤ e + cst (takeOut (lookP a.s N) m).t
    rw [hty]; exact H.e0
  · show (takeOut (lookP a.s N) m).t.kind ≠ 0 → 0 ≤ e
    rw [hty]; exact H.e1
theorem Stg.take (H : Stg τ κ N n e h a) (hN : 0 ≤ N) (hN1 : N ≤ 1000000000) (hh : 0 ≤ h) (hτ : τ = N ∨ τ = N + 1) (m : Int) (hm : (held a.s : Int) ≤ m) :
    Stg (N + 1) κ N n e (h + (takeB a.s N m).size) ⟨takeS a.s N m, a.cl⟩ := by
  have hE := H.e0
  have hab := stg_ab H
  have hcp := cst_pos hab.1 hab.2
  have hclk := lk_clk H.clk hN (by omega)
  by_cases hcn : (lookP a.s N).state ≠ 0 ∨ m < 1
  · have e1 : takeS a.s N m = lookP a.s N := by unfold takeS; rw [if_pos hcn]
    have e2 : takeB a.s N m = ⟨#[]⟩ := by unfold takeB; rw [if_pos hcn]
    have hz : held a.s = 0 := by
      rcases hcn with q | q
      · rcases psf_look H.psf N with z | ⟨_, _, z⟩
        · exact absurd z q
        · exact z
      · omega
    rw [e1, e2]
    have := (H.look hN (by omega)).up (τ' := N + 1) hz (by omega)
    have e3 : h + (((⟨#[]⟩ : ByteArray).size : Nat) : Int) = h := by show h + (0 : Int) = h; omega
    rw [e3]
    exact this
  have e1 : takeS a.s N m = takeOut (lookP a.s N) (readyN (lookP a.s N) m) := by unfold takeS; rw [if_neg hcn]
  have e2 : (takeB a.s N m).size = outN (lookP a.s N) (readyN (lookP a.s N) m) := by
    unfold takeB
    rw [if_neg hcn]
    exact (take_c (outN_le _ _).1).1
  have hrl := rdy_le N a.s.c.1
  have hhd : held a.s = tot a.s.c.1 := rfl
  have hr : readyN (lookP a.s N) m = (rdy N a.s.c.1 : Int) := by
    unfold readyN
    rw [hclk]
    show min ((rdy N a.s.c.1 : Nat) : Int) m = _
    omega
  rw [e1, e2, hr]
  have hk0 : outN (lookP a.s N) (rdy N a.s.c.1 : Int) = (min (rdy N a.s.c.1 : Int) (max (wayN (lookP a.s N) (rdy N a.s.c.1 : Int)) 0)).toNat := by
    rw [outN_is, hclk]; rfl
  have hg := H.ok.good
  have hkind : (lookP a.s N).t.kind = a.s.t.kind := rfl
  have hpsf := H.psf.1
  have hTd := H.T
  by_cases k2 : a.s.t.kind = 2
  · have hrd := all_ready hg (Int.le_trans (H.D0 (by omega)) H.clk)
    have he := H.e1 (by omega)
    have hway : wayN (lookP a.s N) (rdy N a.s.c.1 : Int) = Bucket.takeK a.s.b0 a.s.b1 a.s.b2 a.s.b3 N (rdy N a.s.c.1 : Int) := by
      unfold wayN
      rw [if_pos (show (lookP a.s N).t.kind = 2 from k2)]
      unfold someN
      rw [hclk]
      rfl
    have hbk := H.ok.bk k2
    have hbd := Bucket.fillL_bd (now := N) hbk
    obtain ⟨b1, b2⟩ := H.B k2
    have hov := of_decide_eq_true (show decide (Bucket.Ok a.s.b0 a.s.b1 a.s.b2 a.s.b3) = true from hbk)
    refine H.out hN (by omega) hh _ (by omega) (fun hl => ?_) (fun e => by omega)
    have hE1 : 1 ≤ e + cst a.s.t := by omega
    by_cases hz : outN (lookP a.s N) (rdy N a.s.c.1 : Int) = 0
    · rw [hz]
      have hfl : Bucket.fillL a.s.b0 a.s.b1 a.s.b2 a.s.b3 N = 0 := by
        rw [hk0, hway] at hz
        unfold Bucket.takeK at hz
        rw [if_pos hbk] at hz
        split at hz <;> (try split at hz) <;> (try split at hz) <;> omega
      rcases hτ with ht | ht
      · by_cases hN0 : N = 0
        · subst hN0
          have := mulr (show (1 : Int) ≤ h + (0 : Nat) + 1 by omega) H.e0
          omega
        · exfalso
          have hfn : a.s.b3 < N := by omega
          unfold Bucket.fillL at hfl
          rw [nr_in hN (by omega), if_pos ⟨hbk, hfn⟩] at hfl
          have hmul : 1 ≤ Tick.mul a.s.b0 (N - a.s.b3) := by
            unfold Tick.mul
            have hb3 := hov.2.2.2.1
            rw [nr_in hov.1.1 hov.1.2, nr_in (by omega) (by omega)]
            have : 1 * 1 ≤ a.s.b0 * (N - a.s.b3) := Int.mul_le_mul b1 (by omega) (by omega) (by omega)
            split <;> omega
          have hadd : 1 ≤ Tick.add a.s.b2 (Tick.mul a.s.b0 (N - a.s.b3)) := by
            generalize Tick.mul a.s.b0 (N - a.s.b3) = q at *
            have := hov.2.2.1
            unfold Tick.add nr
            repeat' split
            all_goals omega
          have := hov.2.2.2.2.1
          split at hfl <;> omega
      · have := hTd (by omega)
        rw [show h + ((0 : Nat) : Int) + 1 = h + 1 by omega]
        omega
    · have h1 := hTd (by omega)
      have h2 : (h + 1 + 1) * (e + cst a.s.t) ≤ (h + outN (lookP a.s N) (rdy N a.s.c.1 : Int) + 1) * (e + cst a.s.t) := mulr (by omega) H.e0
      rw [add1] at h2
      omega
  by_cases k3 : a.s.t.kind = 3
  · have hrd := all_ready hg (Int.le_trans (H.D0 (by omega)) H.clk)
    have he := H.e1 (by omega)
    have hway : wayN (lookP a.s N) (rdy N a.s.c.1 : Int) = sliceN (lookP a.s N) (rdy N a.s.c.1 : Int) := by
      unfold wayN
      rw [if_neg (by omega), if_pos (by omega)]
    have hwS : wayS (lookP a.s N) (rdy N a.s.c.1 : Int) = sliceS (lookP a.s N) (rdy N a.s.c.1 : Int) := by
      unfold wayS
      rw [if_neg (by omega), if_pos (by omega)]
    have hcst : cst a.s.t = a.s.t.b + 1 := by unfold cst; rw [if_neg k2, if_pos k3]
    have hA1 := (tox_parts H.ok.tox).2.2.2.2.2.2.2.2.1 k3
    have hPz := H.P k3
    have hdie := Ref02.hiI_bd (lookP a.s N).dice a.s.t.a (by omega)
    by_cases hno : (rdy N a.s.c.1 : Int) = 0 ∨ (lookP a.s N).clock < (lookP a.s N).pause
    · have ez : outN (lookP a.s N) (rdy N a.s.c.1 : Int) = 0 := by
        rw [hk0, hway]
        unfold sliceN
        rw [if_pos hno]
        omega
      have eS : (wayS (lookP a.s N) (rdy N a.s.c.1 : Int)).pause = a.s.pause := by
        rw [hwS]; unfold sliceS; rw [if_pos hno]; rfl
      refine H.out hN (by omega) hh _ (by omega) (fun hl => ?_) (fun _ => ?_)
      · rw [ez] at hl ⊢
        rcases hno with q | q
        · omega
        · rw [hclk] at q
          have : N < a.s.pause := q
          rw [show h + ((0 : Nat) : Int) + 1 = h + 1 by omega]
          omega
      · rw [ez, eS, show h + ((0 : Nat) : Int) + 1 = h + 1 by omega]
        exact hPz
    · have ek : outN (lookP a.s N) (rdy N a.s.c.1 : Int) = (min (rdy N a.s.c.1 : Int) (Ref02.hiI (lookP a.s N).dice a.s.t.a + 1)).toNat := by
        rw [hk0, hway]
        unfold sliceN
        rw [if_neg hno]
        show (min (rdy N a.s.c.1 : Int) (max (min (rdy N a.s.c.1 : Int) (Ref02.hiI (lookP a.s N).dice a.s.t.a + 1)) 0)).toNat = _
        omega
      have e1k : 1 ≤ outN (lookP a.s N) (rdy N a.s.c.1 : Int) := by rw [ek]; omega
      have eS : (wayS (lookP a.s N) (rdy N a.s.c.1 : Int)).pause = Tick.add N a.s.t.b := by
        rw [hwS]; unfold sliceS; rw [if_neg hno, hclk]; rfl
      have hpos : 0 < held a.s := by omega
      have h1 := hTd hpos
      have h2 : (h + 1 + 1) * (e + cst a.s.t) ≤ (h + outN (lookP a.s N) (rdy N a.s.c.1 : Int) + 1) * (e + cst a.s.t) := mulr (by omega) H.e0
      rw [add1] at h2
      refine H.out hN (by omega) hh _ (by omega) (fun hl => by omega) (fun _ => ?_)
      rw [eS]
      have := add_le_ hN hab.2
      omega
  have hway : wayN (lookP a.s N) (rdy N a.s.c.1 : Int) = (rdy N a.s.c.1 : Int) := by
    unfold wayN
    rw [if_neg (by omega), if_neg (by omega), if_neg (by omega), if_neg (by omega)]
  have ek : outN (lookP a.s N) (rdy N a.s.c.1 : Int) = rdy N a.s.c.1 := by rw [hk0, hway]; omega
  refine H.out hN (by omega) hh _ (by omega) (fun hl => ?_) (fun e => absurd e k3)
  rw [ek] at hl ⊢
  by_cases k1 : a.s.t.kind = 1
  · have hlen : rdy N a.s.c.1 < (dues a.s.c.1).length := by rw [dues_len]; omega
    have hd : (dues a.s.c.1)[rdy N a.s.c.1]? = some (dues a.s.c.1)[rdy N a.s.c.1] := List.getElem?_eq_getElem hlen
    have h1 := rdy_next a.s.c.1 _ hg.2.1 hg.1 hd
    have h2 := (H.D1 k1).1 _ _ hd
    omega
  · have hrd := all_ready hg (Int.le_trans (H.D0 k1) H.clk)
    omega
end Go.Proofs.Ytoiibmcbjjnpbaa.Link
namespace Go.Proofs.Ytoiibmcbjjnpbaa.Link
open Go.RowKit Mem Tick Cargo Toxic Stage Chain
set_option linter.unusedVariables false
set_option linter.unusedSimpArgs false
variable {τ τ' κ κ' : Nat → Int} {N n o e h t k : Int} {a b c : Pa} {l : List Pa} {x : Ch}
theorem Stg.cast {t t' k k' e e' h h' : Int} (H : Stg t k N n e h a) (h1 : t' = t) (h2 : k' = k) (h3 : e' = e) (h4 : h' = h) : Stg t' k' N n e' h' a := by
  subst h1 h2 h3 h4; exact H
theorem costL_of : ∀ {l l' : List Pa}, l.map (fun a => a.s.t) = l'.map (fun a => a.s.t) → costL l = costL l'
  | [], [], _ => rfl
  | [], b :: r, h => by simp at h
  | a :: r, [], h => by simp at h
  | a :: r, b :: q, h => by
    simp only [List.map_cons, List.cons.injEq] at h
    rw [costL, costL, costL_of h.2, h.1]
theorem map_set {j : Nat} (ha : l[j]? = some a) (ht : b.s.t = a.s.t) : (l.set j b).map (fun a => a.s.t) = l.map (fun a => a.s.t) := by
  apply List.ext_getElem?
  intro i
  rw [List.getElem?_map, List.getElem?_map]
  by_cases e : j = i
  · subst e
    rw [List.getElem?_set_self (List.getElem?_eq_some_iff.1 ha).1, ha]
    show some b.s.t = some a.s.t
    rw [ht]
  · rw [List.getElem?_set_ne e]
def tx (a : Pa) : Tox := a.s.t
theorem tx_set {l : List Pa} {i : Nat} {a b : Pa} (ha : l[i]? = some a) (hb : tx b = tx a) : (l.set i b).map tx = l.map tx := map_set ha hb
theorem tx_lose (n : Nat) (l : List Pa) : (loseL n l).map tx = l.map tx := by
  unfold loseL
  have e : (l.take n).map (tx ∘ drainA) = (l.take n).map tx := List.map_congr_left fun a _ => rfl
  rw [List.map_append, List.map_map, e, ← List.map_append, List.take_append_drop]
theorem tx_moveAt (now : Int) (j : Nat) (l : List Pa) : (moveAt now j l).map tx = l.map tx := by
  unfold moveAt
  split
  · rename_i a b ha hb
    split
    · have hb2 : (l.set j ⟨takeS a.s now (free (lookP b.s now)), a.cl⟩)[j + 1]? = some b := by rw [List.getElem?_set_ne (by omega)]; exact hb
      rw [tx_set hb2 (by show (forceP (lookP b.s now) now _).t = b.s.t; rw [(force_st _ _ _).1]; rfl), tx_set ha (by show (takeS a.s now _).t = a.s.t; rw [(take_st _ _ _).1])]
    · exact tx_set hb rfl
  · rfl
theorem tx_moves (now : Int) (l : List Pa) : ∀ m, (moves now m l).map tx = l.map tx
  | 0 => rfl
  | m + 1 => (tx_moveAt now m _).trans (tx_moves now l m)
theorem tx_shutAt (now : Int) (j : Nat) (x : Ch) : (shutAt now j x).l.map tx = x.l.map tx := by
  unfold shutAt
  split
  · rename_i a b ha hb
    split
    · have hb2 : (loseL (j + 1) (x.l.set j (lookA now a)))[j + 1]? = some b := by rw [lose_get (Nat.le_refl _), List.getElem?_set_ne (by omega)]; exact hb
      show ((loseL (j + 1) (x.l.set j (lookA now a))).set (j + 1) (endA now b)).map tx = _
      rw [tx_set (b := endA now b) hb2 (show tx (endA now b) = tx b from (close_st b.s now).1), tx_lose, tx_set (b := lookA now a) ha rfl]
    · exact tx_set ha rfl
  · rfl
theorem tx_shuts (now : Int) (x : Ch) : ∀ m, (shuts now m x).l.map tx = x.l.map tx
  | 0 => rfl
  | m + 1 => (tx_shutAt now m _).trans (tx_shuts now x m)
theorem tx_look (now : Int) (l : List Pa) : (l.map (lookA now)).map tx = l.map tx := by rw [List.map_map]; exact List.map_congr_left fun a _ => rfl
theorem tx_last (now : Int) (x : Ch) : (lastC now x).l.map tx = x.l.map tx := by
  unfold lastC
  split
  · rename_i a ha; exact tx_set ha rfl
  · rfl
theorem tx_step (now : Int) (x : Ch) (S : SafeI x) : (stepC now x).l.map tx = x.l.map tx := by
  unfold stepC
  split
  · rfl
  rw [safe_notBroken S.psf now, if_neg (by decide), tx_last, tx_shuts, tx_moves, tx_look]
theorem set_self_ {l : List Pa} {i : Nat} {a : Pa} (h : l[i]? = some a) : l.set i a = l := by
  obtain ⟨hi, he⟩ := List.getElem?_eq_some_iff.1 h
  rw [← he]
  exact List.set_getElem_self _
theorem cost_take_set {j : Nat} (ha : l[j]? = some a) (ht : b.s.t = a.s.t) (i : Nat) : costL ((l.set j b).take i) = costL (l.take i) := by
  apply costL_of
  rw [List.map_take, List.map_take, map_set ha ht]
theorem cost_succ {j : Nat} (ha : l[j]? = some a) : costL (l.take (j + 1)) = costL (l.take j) + cst a.s.t := by
  rw [List.take_add_one, ha, costL_app]
  show costL (l.take j) + (cst a.s.t + 0) = _
  omega
theorem held_drop_lt {j m : Nat} (hm : j < m) (b : Pa) : heldL ((l.set j b).drop m) = heldL (l.drop m) := by rw [List.drop_set_of_lt hm]
theorem held_drop_ge {j m : Nat} (ha : l[j]? = some a) (hm : m ≤ j) (b : Pa) : heldL ((l.set j b).drop m) + held a.s = heldL (l.drop m) + held b.s := by
  have h1 : (l.drop m)[j - m]? = some a := by rw [List.getElem?_drop, show m + (j - m) = j by omega]; exact ha
  have h2 : (l.set j b).drop m = (l.drop m).set (j - m) b := by rw [List.drop_set, if_neg (by omega)]
  rw [h2]
  exact heldL_set h1 b
theorem held_drop {j : Nat} (ha : l[j]? = some a) : heldL (l.drop j) = held a.s + heldL (l.drop (j + 1)) := by
  have := (List.getElem?_eq_some_iff.1 ha)
  obtain ⟨hj, he⟩ := this
  rw [List.drop_eq_getElem_cons hj, he]
  rfl
theorem held_drop_le (m : Nat) : heldL (l.drop m) ≤ heldL l := by
  have := heldL_append (l.take m) (l.drop m)
  rw [List.take_append_drop] at this
  omega
def Fl (τ κ : Nat → Int) (N n o : Int) (l : List Pa) : Prop := ∀ (i : Nat) (a : Pa), l[i]? = some a → Stg (τ i) (κ i) N n (costL (l.take i) - 1) (o + heldL (l.drop (i + 1))) a
theorem Fl.set_same (H : Fl τ κ N n o l) {j : Nat} (ha : l[j]? = some a) (ht : b.s.t = a.s.t) (hh : held b.s = held a.s) (hb : Stg (τ' j) (κ' j) N n (costL (l.take j) - 1) (o + heldL (l.drop (j + 1))) b) (h1 : ∀ i, i ≠ j → τ' i = τ i) (h2 : ∀ i, i ≠ j → κ' i = κ i) : Fl τ' κ' N n o (l.set j b) := by
  intro i d hd
  have hj := (List.getElem?_eq_some_iff.1 ha).1
  by_cases e : j = i
  · subst e
    rw [List.getElem?_set_self hj] at hd
    cases hd
    exact hb.cast rfl rfl (by rw [cost_take_set ha ht]) (by rw [held_drop_lt (by omega)])
  · rw [List.getElem?_set_ne e] at hd
    refine (H i d hd).cast (h1 i (Ne.symm e)) (h2 i (Ne.symm e)) (by rw [cost_take_set ha ht]) ?_
    by_cases hlt : j < i + 1
    · rw [held_drop_lt hlt]
    · have := held_drop_ge ha (by omega : i + 1 ≤ j) b
      omega
theorem Fl.lookAt (H : Fl τ κ N n o l) (hN : 0 ≤ N) (hN1 : N ≤ 1099511627776) {j : Nat} (ha : l[j]? = some a) : Fl τ κ N n o (l.set j (lookA N a)) :=
  H.set_same ha rfl rfl ((H j a ha).look hN hN1) (fun _ _ => rfl) (fun _ _ => rfl)
theorem Fl.lookAll (H : Fl τ κ N n o l) (hN : 0 ≤ N) (hN1 : N ≤ 1099511627776) : Fl τ κ N n o (l.map (lookA N)) := by
  intro i d hd
  rw [List.getElem?_map] at hd
  obtain ⟨a, ha, rfl⟩ := Option.map_eq_some_iff.1 hd
  refine ((H i a ha).look hN hN1).cast rfl rfl ?_ ?_
  · congr 1
    apply costL_of
    rw [← List.map_take, List.map_map]
    rfl
  · congr 2
    rw [← List.map_drop]
    exact heldL_of_line (look_map N _)
set_option maxHeartbeats 1000000 in
theorem Fl.moveAt (H : Fl τ κ N n o l) (pe : PE l) (hN : 0 ≤ N) (hN1 : N ≤ 1000000000) (ho : 0 ≤ o) (hs : o + heldL l = n) (j : Nat) (hj1 : j + 1 < l.length) (h1 : ∀ i, i ≠ j → τ' i = τ i) (h2 : τ' j = N + 1) (hj : τ j = N ∨ τ j = N + 1) (h3 : τ (j + 1) ≤ τ j) : Fl τ' κ N n o (Chain.moveAt N j l) := by
  obtain ⟨a, ha⟩ : ∃ a, l[j]? = some a := ⟨_, List.getElem?_eq_getElem (by omega)⟩
  obtain ⟨c, hc⟩ : ∃ c, l[j + 1]? = some c := ⟨_, List.getElem?_eq_getElem hj1⟩
  have Sa := H j a ha
  have Sc := H (j + 1) c hc
  have hd1 := held_drop ha
  have hd2 := held_drop hc
  have hd3 := held_drop_le (l := l) j
  have hce : costL (l.take (j + 1)) - 1 = costL (l.take j) - 1 + cst a.s.t := by rw [cost_succ ha]; omega
  unfold Chain.moveAt
  rw [ha, hc]
  dsimp only
  by_cases hop : (lookP c.s N).state = 0
  · rw [if_pos hop]
    have hfree : (held a.s : Int) ≤ free (lookP c.s N) := by
      have := Sc.rm
      unfold free
      show (held a.s : Int) ≤ max (c.s.room - (held c.s : Int)) 0
      omega
    have Ta := Sa.take hN hN1 (by omega) hj _ hfree
    have hht := held_take a.s N (free (lookP c.s N))
    have hE := Sa.e0
    rw [hce] at Sc
    have hab := stg_ab Sc
    have hcp := cst_pos hab.1 hab.2
    have Tc := Sc.force hN (by omega) (by omega) (takeB a.s N (free (lookP c.s N))) hop (.inl hE) (fun hx => .inl (by
      have h4 := Sa.T (by omega)
      have e4 : o + (heldL (l.drop (j + 1)) : Int) + 1 = o + (heldL (l.drop (j + 1 + 1)) : Int) + held c.s + 1 := by omega
      rw [← e4]
      omega)) (fun hx hz => by
      have h4 := Sa.T (by omega)
      have e4 : o + (heldL (l.drop (j + 1)) : Int) + 1 = o + (heldL (l.drop (j + 1 + 1)) : Int) + 1 := by omega
      rw [e4] at h4
      have h5 : 0 ≤ (o + (heldL (l.drop (j + 1 + 1)) : Int) + 1) * cst c.s.t := Int.mul_nonneg (by omega) (by omega)
      rw [Int.mul_add]
      omega)
    have hheld : held (forceP (lookP c.s N) N (takeB a.s N (free (lookP c.s N)))) = held c.s + (takeB a.s N (free (lookP c.s N))).size := by
      have h6 := congrArg ByteArray.size (cat_force (lookP c.s N) N (takeB a.s N (free (lookP c.s N))))
      rw [look_idem, if_neg (fun q => q hop), ← held_cat, ByteArray.size_append, ← held_cat] at h6
      exact h6
    have hta : (takeS a.s N (free (lookP c.s N))).t = a.s.t := (take_st _ _ _).1
    have htc : (forceP (lookP c.s N) N (takeB a.s N (free (lookP c.s N)))).t = c.s.t := (force_st _ _ _).1
    generalize hA : (⟨takeS a.s N (free (lookP c.s N)), a.cl⟩ : Pa) = a' at *
    generalize hC : (⟨forceP (lookP c.s N) N (takeB a.s N (free (lookP c.s N))), c.cl⟩ : Pa) = c' at *
    have ea : a'.s.t = a.s.t := by rw [← hA]; exact hta
    have ec : c'.s.t = c.s.t := by rw [← hC]; exact htc
    have eha : (takeB a.s N (free (lookP c.s N))).size + held a'.s = held a.s := by rw [← hA]; exact hht
    have ehc : held c'.s = held c.s + (takeB a.s N (free (lookP c.s N))).size := by rw [← hC]; exact hheld
    generalize (takeB a.s N (free (lookP c.s N))).size = q at *
    have hc2 : (l.set j a')[j + 1]? = some c := by rw [List.getElem?_set_ne (by omega)]; exact hc
    have hcost : ∀ i, costL (((l.set j a').set (j + 1) c').take i) = costL (l.take i) := fun i => by rw [cost_take_set hc2 ec, cost_take_set ha ea]
    intro i d hd
    by_cases e2 : j + 1 = i
    · subst e2
      rw [List.getElem?_set_self (by simp; omega)] at hd
      cases hd
      exact Tc.cast (h1 _ (by omega)) rfl (by rw [hcost, hce]) (by rw [held_drop_lt (by omega : j + 1 < j + 1 + 1), held_drop_lt (by omega : j < j + 1 + 1)])
    · rw [List.getElem?_set_ne e2] at hd
      by_cases e1 : j = i
      · subst e1
        rw [List.getElem?_set_self (by omega)] at hd
        cases hd
        refine Ta.cast h2 rfl (by rw [hcost]) ?_
        have g1 := held_drop_ge hc2 (Nat.le_refl (j + 1)) c'
        rw [held_drop_lt (by omega : j < j + 1)] at g1
        omega
      · rw [List.getElem?_set_ne e1] at hd
        refine (H i d hd).cast (h1 i (Ne.symm e1)) rfl (by rw [hcost]) ?_
        by_cases hlt : j + 1 < i + 1
        · rw [held_drop_lt hlt, held_drop_lt (by omega)]
        · have g1 := held_drop_ge hc2 (by omega : i + 1 ≤ j + 1) c'
          have g2 := held_drop_ge ha (by omega : i + 1 ≤ j) a'
          omega
  · rw [if_neg hop]
    have hz : a.cl = true ∧ held a.s = 0 := by
      rcases psf_look Sc.psf N with q | ⟨_, q, _⟩
      · exact absurd q hop
      · exact pe j a c ha hc q
    have h4 := H.lookAt hN (by omega) hc
    have ha2 : (l.set (j + 1) (lookA N c))[j]? = some a := by rw [List.getElem?_set_ne (by omega)]; exact ha
    have h5 := h4.set_same (τ' := τ') (κ' := κ) (b := a) ha2 rfl rfl (((h4 j a ha2).up hz.2 (τ' := τ' j) (by omega))) h1 (fun _ _ => rfl)
    rwa [set_self_ ha2] at h5
theorem moves_len (m : Nat) : (moves N m l).length = l.length := (moves_line N m l).2
theorem Fl.moves (H : Fl (fun _ => t) κ N n o l) (pe : PE l) (hN : 0 ≤ N) (hN1 : N ≤ 1000000000) (ho : 0 ≤ o) (hs : o + heldL l = n) (ht : t = N ∨ t = N + 1) : ∀ m, m + 1 ≤ l.length → Fl (fun i => if i < m then N + 1 else t) κ N n o (Chain.moves N m l)
  | 0, _ => by
    refine fun i a ha => (H i a ha).cast ?_ rfl rfl rfl
    show (if i < 0 then N + 1 else t) = t
    rw [if_neg (by omega)]
  | m + 1, hm => by
    have ih := Fl.moves H pe hN hN1 ho hs ht m (by omega)
    have hl := moves_line N m l
    refine ih.moveAt (pe.moves N m) hN hN1 ho (by rw [heldL_of_line hl.1]; exact hs) m (by rw [hl.2]; omega) (fun i hi => ?_) ?_ ?_ ?_
    · show (if i < m + 1 then N + 1 else t) = (if i < m then N + 1 else t)
      by_cases h1 : i < m
      · rw [if_pos h1, if_pos (by omega)]
      · rw [if_neg h1, if_neg (by omega)]
    · show (if m < m + 1 then N + 1 else t) = N + 1; rw [if_pos (by omega)]
    · show (if m < m then N + 1 else t) = N ∨ (if m < m then N + 1 else t) = N + 1; rw [if_neg (by omega)]; exact ht
    · show (if m + 1 < m then N + 1 else t) ≤ (if m < m then N + 1 else t); rw [if_neg (by omega), if_neg (by omega)]; exact Int.le_refl _
/-! ends -/
theorem Stg.fin {t k k' : Int} (H : Stg t k N n e h b) (hN : 0 ≤ N) (hN1 : N ≤ 1099511627776) (hk : N ≤ k ∨ b.s.t.kind = 0) : Stg t k' N n e h (endA N b) := by
  have hs := close_st b.s N
  have hclk : (closeP b.s N).clock = (lookP b.s N).clock := by unfold closeP; split <;> rfl
  have hcl := lk_clk H.clk hN hN1
  have hty : (closeP b.s N).t = b.s.t := hs.1
  have hheld : held (closeP b.s N) = held b.s := held_close _ _
  have hoth : (closeP b.s N).pause = b.s.pause ∧ (closeP b.s N).b0 = b.s.b0 ∧ (closeP b.s N).b3 = b.s.b3 := by unfold closeP; split <;> exact ⟨rfl, rfl, rfl⟩
  refine ⟨H.ok.close N, loc_psf.fin b N H.psf, by show n ≤ (closeP b.s N).room; rw [hs.2.2.2.1]; exact H.rm, by show (closeP b.s N).clock ≤ N; rw [hclk, hcl]; exact Int.le_refl _, ?_, ?_, ?_, ?_, ?_, ?_, .inl rfl, ?_, ?_⟩
  · show 0 < held (closeP b.s N) → t ≤ (h + 1) * (e + cst (closeP b.s N).t)
    rw [hty, hheld]; exact H.T
  · show (closeP b.s N).t.kind = 1 → (∀ (p : Nat) (d : Int), (dues (closeP b.s N).c.1)[p]? = some d → d ≤ (h + p + 1) * (e + cst (closeP b.s N).t)) ∧ (closeP b.s N).c.2 ≤ (h + held (closeP b.s N)) * (e + cst (closeP b.s N).t)
    rw [hty, hheld, hs.2.2.2.2]; exact H.D1
  · show (closeP b.s N).t.kind ≠ 1 → (closeP b.s N).c.2 ≤ (closeP b.s N).clock
    rw [hty, hs.2.2.2.2, hclk, hcl]
    exact fun hk => Int.le_trans (H.D0 hk) H.clk
  · show (closeP b.s N).t.kind = 3 → (closeP b.s N).pause ≤ (h + 1) * (e + cst (closeP b.s N).t)
    rw [hty, hoth.1]; exact H.P
  · show (closeP b.s N).t.kind = 2 → 1 ≤ (closeP b.s N).b0 ∧ (closeP b.s N).b3 ≤ max 0 (t - 1)
    rw [hty, hoth.2.1, hoth.2.2]; exact H.B
  · show (closeP b.s N).t.kind = 7 → true = true → (closeP b.s N).at_ ≤ (n + 1) * e
    rw [hty]
    intro h7 _
    cases hc : b.cl with
    | true =>
      have hcc : b.s.closed = true := H.psf.2.1.trans hc
      have : (closeP b.s N).at_ = b.s.at_ := by unfold closeP; rw [if_pos hcc]; rfl
      rw [this]; exact H.A h7 hc
    | false =>
      have hcc : b.s.closed = false := H.psf.2.1.trans hc
      have : (closeP b.s N).at_ = (lookP b.s N).clock := by unfold closeP; rw [hcc]; rfl
      rw [this, hcl]
      rcases H.L with q | q
      · rw [hc] at q; cases q
      · have hk2 := hk.resolve_right (by omega)
        omega
  · show 0 ≤ e + cst (closeP b.s N).t
    rw [hty]; exact H.e0
  · show (closeP b.s N).t.kind ≠ 0 → 0 ≤ e
    rw [hty]; exact H.e1
theorem Stg.ended (H : Stg (N + 1) (N + 1) N n e h a) (hN : 0 ≤ N) (hN1 : N ≤ 1099511627776) (hh : 0 ≤ h) (hs : h + held a.s ≤ n) (hE : (n + 1) * (e + cst a.s.t) < N + 1) : (lookP a.s N).state = 1 := by
  have hab := stg_ab H
  have hcp := cst_pos hab.1 hab.2
  have hclk := lk_clk H.clk hN hN1
  have h1 : 0 ≤ (n + 1) * cst a.s.t := Int.mul_nonneg (by omega) (by omega)
  have h2 : (n + 1) * (e + cst a.s.t) = (n + 1) * e + (n + 1) * cst a.s.t := Int.mul_add _ _ _
  have hcl : a.cl = true := by
    rcases H.L with q | q
    · exact q
    · omega
  have hz : held a.s = 0 := by
    apply Decidable.byContradiction
    intro q
    have h3 := H.T (by omega)
    have h4 : (h + 1) * (e + cst a.s.t) ≤ (n + 1) * (e + cst a.s.t) := mulr (by omega) H.e0
    omega
  have hcc : a.s.closed = true := H.psf.2.1.trans hcl
  have hk := H.psf.1
  show lookS (nowP a.s N) = 1
  unfold lookS
  have e0 : (nowP a.s N).state = a.s.state := rfl
  have e1 : (nowP a.s N).t = a.s.t := rfl
  rw [e0, e1]
  by_cases h0 : a.s.state = 0
  · rw [if_neg (by omega), if_neg (by omega), if_neg (by omega), if_neg (by omega), if_pos]
    unfold endedB
    have e2 : (nowP a.s N).closed = true := hcc
    have e3 : held (nowP a.s N) = 0 := hz
    have e4 : (nowP a.s N).at_ = a.s.at_ := rfl
    rw [e2, e3, e1, e4]
    by_cases h7 : a.s.t.kind = 7
    · have hA := H.A h7 hcl
      have he := H.e1 (by omega)
      have hcst : cst a.s.t = a.s.t.a + a.s.t.b + 1 := by unfold cst; rw [if_neg (by omega), if_neg (by omega), if_pos (.inr h7)]
      have h5 : 1 * cst a.s.t ≤ (n + 1) * cst a.s.t := mulr (by omega) (by omega)
      have h6 : 0 ≤ (n + 1) * e := Int.mul_nonneg (by omega) he
      have hl : Tick.add a.s.at_ a.s.t.a ≤ (nowP a.s N).clock := by
        have hc2 : (nowP a.s N).clock = N := hclk
        rw [hc2]
        have ha0 := hab.1
        have : Tick.add a.s.at_ a.s.t.a ≤ (max a.s.at_ 0) + a.s.t.a := by
          unfold Tick.add nr
          repeat' split
          all_goals omega
        omega
      unfold lateB
      rw [decide_eq_true hl]
      simp
    · rw [decide_eq_true h7]
      simp
  · rw [if_pos h0]
    rcases H.psf.2.2 with q | ⟨q, _⟩
    · exact absurd q h0
    · exact q
theorem drain_same (ho : Ok a.s) (hz : held a.s = 0) : drainA a = a := by
  obtain ⟨s, cl⟩ := a
  have hf := ho.good.1
  have : s.c.1 = [] := by
    cases hc : s.c.1 with
    | nil => rfl
    | cons p r =>
      have h1 : 0 < p.2.size := hf p (by show p ∈ s.c.1; rw [hc]; exact List.mem_cons_self ..)
      have h2 : held s = tot s.c.1 := rfl
      rw [hc] at h2
      simp only [tot] at h2
      have h3 : held s = 0 := hz
      omega
  show (⟨{ s with c := ([], s.c.2) }, cl⟩ : Pa) = ⟨s, cl⟩
  rw [← this]
theorem heldL_zero (l : List Pa) (h : heldL l = 0) (a : Pa) (ha : a ∈ l) : held a.s = 0 := by
  induction l with
  | nil => simp at ha
  | cons p r ih =>
    have e : heldL (p :: r) = held p.s + heldL r := rfl
    rcases List.mem_cons.1 ha with h1 | h1
    · subst h1; omega
    · exact ih (by omega) h1
theorem lose_same {m : Nat} (hok : ∀ a ∈ l, Ok a.s) (hz : heldL (l.take m) = 0) : loseL m l = l := by
  have : (l.take m).map drainA = l.take m := by
    conv => rhs; rw [← List.map_id (l.take m)]
    apply List.map_congr_left
    intro a ha
    exact drain_same (hok a (List.mem_of_mem_take ha)) (heldL_zero _ hz a ha)
  unfold loseL
  rw [this, List.take_append_drop]
theorem Fl.ok (H : Fl τ κ N n o l) : ∀ a ∈ l, Ok a.s := fun a ha => by
  obtain ⟨i, hi⟩ := List.mem_iff_getElem?.1 ha
  exact (H i a hi).ok
theorem Fl.shutAt (H : Fl τ κ N n o x.l) (pe : PE x.l) (hN : 0 ≤ N) (hN1 : N ≤ 1000000000) (ho : 0 ≤ o) (hs : o + heldL x.l = n) (j : Nat) (hj1 : j + 1 < x.l.length) (hτ : τ j = N + 1) (hκ : κ j = N + 1) (hκ1 : N ≤ κ (j + 1)) (h1 : ∀ i, i ≠ j + 1 → κ' i = κ i) (h2 : κ' (j + 1) = N + 1) : Fl τ κ' N n o (Chain.shutAt N j x).l := by
  obtain ⟨a, ha⟩ : ∃ a, x.l[j]? = some a := ⟨_, List.getElem?_eq_getElem (by omega)⟩
  obtain ⟨b, hb⟩ : ∃ b, x.l[j + 1]? = some b := ⟨_, List.getElem?_eq_getElem hj1⟩
  have Sa := H j a ha
  have Hl := H.lookAt hN (by omega) ha
  have hb2 : (x.l.set j (lookA N a))[j + 1]? = some b := by rw [List.getElem?_set_ne (by omega)]; exact hb
  have Sb := Hl (j + 1) b hb2
  have hd1 := held_drop ha
  have hd3 := held_drop_le (l := x.l) j
  have hce : costL ((x.l.set j (lookA N a)).take (j + 1)) - 1 = costL (x.l.take j) - 1 + cst a.s.t := by
    rw [cost_take_set ha (show (lookA N a).s.t = a.s.t from rfl), cost_succ ha]; omega
  unfold Chain.shutAt
  rw [ha, hb]
  dsimp only
  by_cases hop : (lookP a.s N).state = 1
  · rw [if_pos hop]
    dsimp only
    have hz : a.cl = true ∧ held a.s = 0 := by
      rcases psf_look Sa.psf N with q | ⟨_, q, q2⟩
      · omega
      · exact ⟨q, q2⟩
    have hem := pe.empty j a ha hz.1
    have hem2 : heldL ((x.l.set j (lookA N a)).take (j + 1)) = 0 := by
      rw [heldL_succ (a := lookA N a) (by rw [List.getElem?_set_self (by omega)]), List.take_set_of_le (Nat.le_refl _), hem]
      show 0 + held a.s = 0
      omega
    rw [lose_same Hl.ok hem2]
    refine Hl.set_same hb2 (by show (closeP b.s N).t = b.s.t; exact (close_st _ _).1) (held_close _ _) (Sb.fin hN (by omega) (.inl hκ1)) (fun _ _ => rfl) h1
  · rw [if_neg hop]
    dsimp only
    have hL : b.cl = true ∨ N + 1 ≤ (n + 1) * (costL ((x.l.set j (lookA N a)).take (j + 1)) - 1) := by
      apply Decidable.byContradiction
      intro q
      apply hop
      refine (Sa.cast (t' := N + 1) (k' := N + 1) hτ.symm hκ.symm rfl rfl).ended hN (by omega) (by omega) (by omega) ?_
      rw [hce] at q
      omega
    have h5 := Hl.set_same (τ' := τ) (κ' := κ') (b := b) hb2 rfl rfl ⟨Sb.ok, Sb.psf, Sb.rm, Sb.clk, Sb.T, Sb.D1, Sb.D0, Sb.P, Sb.B, Sb.A, by rw [h2]; exact hL, Sb.e0, Sb.e1⟩ (fun _ _ => rfl) h1
    rwa [set_self_ hb2] at h5
theorem shuts_held (H : SafeI x) (m : Nat) : heldL (shuts N m x).l = heldL x.l ∧ (shuts N m x).l.length = x.l.length := by
  have h1 := flow_shuts N m x
  have h2 := flow_mass h1.1
  have h3 := (H.shuts N m).lost
  have h4 := H.lost
  refine ⟨by omega, h1.2⟩
theorem Fl.shuts (H : Fl τ (fun i => if i ≤ 0 then N + 1 else k) N n o x.l) (S : SafeI x) (hN : 0 ≤ N) (hN1 : N ≤ 1000000000) (ho : 0 ≤ o) (hs : o + heldL x.l = n) (hk : N ≤ k) (hτ : ∀ i, i + 1 < x.l.length → τ i = N + 1) : ∀ m, m + 1 ≤ x.l.length → Fl τ (fun i => if i ≤ m then N + 1 else k) N n o (Chain.shuts N m x).l
  | 0, _ => H
  | m + 1, hm => by
    have ih := Fl.shuts H S hN hN1 ho hs hk hτ m (by omega)
    have hh := shuts_held (N := N) S m
    refine ih.shutAt (S.shuts N m).pe hN hN1 ho (by rw [hh.1]; exact hs) m (by rw [hh.2]; omega) (hτ m (by omega)) ?_ ?_ (fun i hi => ?_) ?_
    · (try dsimp only); rw [if_pos (by omega)]
    · (try dsimp only); rw [if_neg (by omega)]; exact hk
    · (try dsimp only)
      by_cases h1 : i ≤ m
      · rw [if_pos h1, if_pos (by omega)]
      · rw [if_neg h1, if_neg (by omega)]
    · (try dsimp only); rw [if_pos (by omega)]
def Front (l : List Pa) : Prop := ∀ a, l[0]? = some a → a.cl = true
theorem Front.set (h : Front l) {j : Nat} (ha : l[j]? = some a) (hb : a.cl = true → b.cl = true) : Front (l.set j b) := by
  intro d hd
  by_cases e : j = 0
  · subst e
    rw [List.getElem?_set_self (List.getElem?_eq_some_iff.1 ha).1] at hd
    cases hd
    exact hb (h a ha)
  · rw [List.getElem?_set_ne e] at hd
    exact h d hd
theorem Front.look (h : Front l) : Front (l.map (lookA N)) := by
  intro d hd
  rw [List.getElem?_map] at hd
  obtain ⟨a, ha, rfl⟩ := Option.map_eq_some_iff.1 hd
  exact h a ha
theorem Front.moveAt (h : Front l) (j : Nat) : Front (Chain.moveAt N j l) := by
  unfold Chain.moveAt
  split
  · rename_i a b ha hb
    split
    · exact (h.set ha (b := ⟨takeS a.s N _, a.cl⟩) id).set (a := b) (by rw [List.getElem?_set_ne (by omega)]; exact hb) id
    · exact h.set hb id
  · exact h
theorem Front.moves (h : Front l) : ∀ m, Front (Chain.moves N m l)
  | 0 => h
  | m + 1 => (Front.moves h m).moveAt m
theorem Front.lose (h : Front l) (m : Nat) : Front (loseL m l) := by
  intro d hd
  unfold loseL at hd
  by_cases hm : m = 0
  · subst hm; exact h d (by simpa using hd)
  · by_cases hl : 0 < l.length
    · rw [List.getElem?_append_left (by rw [List.length_map, List.length_take]; omega), List.getElem?_map, List.getElem?_take, if_pos (by omega)] at hd
      obtain ⟨a, ha, rfl⟩ := Option.map_eq_some_iff.1 hd
      exact h a ha
    · rw [List.getElem?_eq_none (by rw [List.length_append, List.length_map, List.length_take, List.length_drop]; omega)] at hd; cases hd
theorem Front.shutAt (h : Front x.l) (j : Nat) : Front (Chain.shutAt N j x).l := by
  unfold Chain.shutAt
  split
  · rename_i a b ha hb
    have h1 : Front (x.l.set j (lookA N a)) := h.set ha id
    split
    · have h2 := h1.lose (j + 1)
      have hb2 : (loseL (j + 1) (x.l.set j (lookA N a)))[j + 1]? = some b := by rw [lose_get (Nat.le_refl _), List.getElem?_set_ne (by omega)]; exact hb
      exact h2.set hb2 (fun _ => rfl)
    · exact h1
  · exact h
theorem Front.shuts (h : Front x.l) : ∀ m, Front (Chain.shuts N m x).l
  | 0 => h
  | m + 1 => (Front.shuts h m).shutAt m
theorem Front.last (h : Front x.l) : Front (lastC N x).l := by
  unfold lastC
  split
  · rename_i a ha; exact h.set ha id
  · exact h
theorem Front.step (h : Front x.l) (S : SafeI x) : Front (stepC N x).l := by
  unfold stepC
  split
  · exact h
  rw [safe_notBroken S.psf N, if_neg (by decide)]
  exact Front.last (Front.shuts (x := { x with l := Chain.moves N (x.l.length - 1) (x.l.map (lookA N)) }) ((h.look (N := N)).moves _) _)
theorem Fl.step (H : Fl (fun _ => t) (fun _ => k) N n o x.l) (S : SafeI x) (hF : Front x.l) (h2 : 2 ≤ x.l.length) (h0 : x.state = 0) (hN : 0 ≤ N) (hN1 : N ≤ 1000000000) (ho : 0 ≤ o) (hs : o + heldL x.l = n) (ht : t = N ∨ t = N + 1) (hk : N ≤ k) :
    Fl (fun i => if i < x.l.length - 1 then N + 1 else t) (fun i => if i ≤ x.l.length - 1 then N + 1 else k) N n o (stepC N x).l ∧ (t = N + 1 → (n + 1) * (costL x.l - 1) < N + 1 → (stepC N x).state = 1) := by
  have hlook := (H.lookAll hN (by omega)).moves (S.pe.map (qt_look N)) hN hN1 ho (by rw [heldL_of_line (look_map N x.l)]; exact hs) ht (x.l.length - 1) (by simp; omega)
  have S1 : SafeI { x with l := Chain.moves N (x.l.length - 1) (x.l.map (lookA N)) } := ⟨AllL.moves loc_psf (S.psf.map fun a => loc_psf.look a N) N _, (S.pe.map (qt_look N)).moves N _, S.lost⟩
  have hF1 : Front (Chain.moves N (x.l.length - 1) (x.l.map (lookA N))) := (hF.look (N := N)).moves _
  have hl1 : (Chain.moves N (x.l.length - 1) (x.l.map (lookA N))).length = x.l.length := by rw [moves_len]; simp
  have hh1 : heldL (Chain.moves N (x.l.length - 1) (x.l.map (lookA N))) = heldL x.l := by rw [heldL_of_line (moves_line N _ _).1, heldL_of_line (look_map N x.l)]
  have H1 : Fl (fun i => if i < x.l.length - 1 then N + 1 else t) (fun i => if i ≤ 0 then N + 1 else k) N n o (Chain.moves N (x.l.length - 1) (x.l.map (lookA N))) := by
    intro i d hd
    have Sd := hlook i d hd
    by_cases e : i = 0
    · subst e
      exact ⟨Sd.ok, Sd.psf, Sd.rm, Sd.clk, Sd.T, Sd.D1, Sd.D0, Sd.P, Sd.B, Sd.A, .inl (hF1 d hd), Sd.e0, Sd.e1⟩
    · exact Sd.cast rfl (by (try dsimp only); rw [if_neg (by omega)]) rfl rfl
  have H2 := Fl.shuts (x := { x with l := Chain.moves N (x.l.length - 1) (x.l.map (lookA N)) }) H1 S1 hN hN1 ho (by show o + heldL (Chain.moves N _ _) = n; rw [hh1]; exact hs) hk (fun i hi => by
    have hi' : i + 1 < x.l.length := by rw [← hl1]; exact hi
    (try dsimp only)
    rw [if_pos (by omega)]) (x.l.length - 1) (by show x.l.length - 1 + 1 ≤ (Chain.moves N _ _).length; rw [hl1]; omega)
  have hh2 := shuts_held (N := N) S1 (x.l.length - 1)
  have e2 : stepC N x = lastC N (Chain.shuts N (x.l.length - 1) { x with l := Chain.moves N (x.l.length - 1) (x.l.map (lookA N)) }) := by
    unfold stepC
    rw [if_neg (fun q => q h0), safe_notBroken S.psf N, if_neg (by decide)]
  have hcost : costL (Chain.shuts N (x.l.length - 1) { x with l := Chain.moves N (x.l.length - 1) (x.l.map (lookA N)) }).l = costL x.l := costL_of ((tx_shuts N _ _).trans ((tx_moves N _ _).trans (tx_look N _)))
  rw [e2]
  generalize Chain.shuts N (x.l.length - 1) { x with l := Chain.moves N (x.l.length - 1) (x.l.map (lookA N)) } = y at *
  have hyl : y.l.length = x.l.length := hh2.2.trans hl1
  have hyh : heldL y.l = heldL x.l := hh2.1.trans hh1
  obtain ⟨z, hz⟩ : ∃ z, y.l[y.l.length - 1]? = some z := ⟨_, List.getElem?_eq_getElem (by omega)⟩
  have hz' : y.l[x.l.length - 1]? = some z := by rw [← hyl]; exact hz
  have Sz := H2 _ z hz'
  refine ⟨?_, fun ht1 hE => ?_⟩
  · unfold lastC
    rw [hz]
    exact H2.lookAt hN (by omega) hz
  · unfold lastC
    rw [hz]
    show (lookP z.s N).state = 1
    have hd1 := held_drop hz'
    have hd3 := held_drop_le (l := y.l) (x.l.length - 1)
    have hc2 := cost_succ hz'
    rw [List.take_of_length_le (by omega)] at hc2
    refine (Sz.cast (t' := N + 1) (k' := N + 1) (by (try dsimp only); rw [if_neg (by omega)]; exact ht1.symm) (by (try dsimp only); rw [if_pos (Nat.le_refl _)]) rfl rfl).ended hN (by omega) (by omega) (by omega) ?_
    rw [show costL (y.l.take (x.l.length - 1)) - 1 + cst z.s.t = costL x.l - 1 by omega]
    exact hE
end Go.Proofs.Ytoiibmcbjjnpbaa.Link
namespace Go.Proofs.Ytoiibmcbjjnpbaa.Link
open Go.RowKit Mem Tick Cargo Toxic Stage Chain
set_option linter.unusedVariables false
set_option linter.unusedSimpArgs false
variable {N n o e h t k : Int} {a b c : Pa} {l : List Pa} {x : Lk}
theorem Stg.take1 (H : Stg t k N n e h a) (hN : 0 ≤ N) (hN1 : N ≤ 1000000000) (hh : 0 ≤ h) (hτ : t = N ∨ t = N + 1) (k0 : a.s.t.kind = 0) (hE : 1 ≤ e + cst a.s.t) : Stg (N + 1) k N n e (h + (takeB a.s N 1).size) ⟨takeS a.s N 1, a.cl⟩ := by
  have hclk := lk_clk H.clk hN (by omega)
  by_cases hcn : (lookP a.s N).state ≠ 0 ∨ (1 : Int) < 1
  · have e1 : takeS a.s N 1 = lookP a.s N := by unfold takeS; rw [if_pos hcn]
    have e2 : takeB a.s N 1 = ⟨#[]⟩ := by unfold takeB; rw [if_pos hcn]
    have hz : held a.s = 0 := by
      rcases hcn with q | q
      · rcases psf_look H.psf N with z | ⟨_, _, z⟩
        · exact absurd z q
        · exact z
      · omega
    rw [e1, e2]
    exact ((H.look hN (by omega)).up (τ' := N + 1) hz (by omega)).cast rfl rfl rfl (by show h + (0 : Int) = h; omega)
  have e1 : takeS a.s N 1 = takeOut (lookP a.s N) (readyN (lookP a.s N) 1) := by unfold takeS; rw [if_neg hcn]
  have e2 : (takeB a.s N 1).size = outN (lookP a.s N) (readyN (lookP a.s N) 1) := by
    unfold takeB
    rw [if_neg hcn]
    exact (take_c (outN_le _ _).1).1
  rw [e1, e2]
  have hrd := all_ready H.ok.good (Int.le_trans (H.D0 (by omega)) H.clk)
  have hr : readyN (lookP a.s N) 1 = min (held a.s : Int) 1 := by
    unfold readyN
    rw [hclk]
    show min ((rdy N a.s.c.1 : Nat) : Int) 1 = _
    rw [hrd]
  have hway : ∀ m, wayN (lookP a.s N) m = m := fun m => by
    unfold wayN
    have : (lookP a.s N).t.kind = 0 := k0
    rw [if_neg (by omega), if_neg (by omega), if_neg (by omega), if_neg (by omega)]
  have ek : outN (lookP a.s N) (readyN (lookP a.s N) 1) = (min (held a.s : Int) 1).toNat := by
    rw [outN_is, hclk, hway, hr]
    show (min ((rdy N a.s.c.1 : Nat) : Int) _).toNat = _
    rw [hrd]
    omega
  refine H.out hN (by omega) hh _ (by omega) (fun hl => ?_) (fun e => by omega)
  rw [ek] at hl ⊢
  have h1 := H.T (by omega)
  have h2 : (h + 1 + 1) * (e + cst a.s.t) ≤ (h + ((min (held a.s : Int) 1).toNat : Int) + 1) * (e + cst a.s.t) := mulr (by omega) H.e0
  rw [add1] at h2
  omega
theorem cost_front (hl : 2 ≤ l.length) (hok : ∀ a ∈ l, Ok a.s) : 1 ≤ costL (l.take (l.length - 1)) := by
  rcases l with _ | ⟨a, r⟩
  · simp at hl
  · rw [show (a :: r).length - 1 = (r.length - 1) + 1 by simp at hl ⊢; omega, List.take_succ_cons]
    have h1 := tox_ab (hok a (List.mem_cons_self ..))
    have h2 := cst_pos h1.1 h1.2.2.1
    have h3 : ∀ q : List Pa, (∀ a ∈ q, Ok a.s) → 0 ≤ costL q := by
      intro q
      induction q with
      | nil => intro _; exact Int.le_refl 0
      | cons p q ih =>
        intro hq
        have g1 := tox_ab (hq p (List.mem_cons_self ..))
        have g2 := cst_pos g1.1 g1.2.2.1
        have := ih fun a ha => hq a (List.mem_cons_of_mem _ ha)
        show 0 ≤ cst p.s.t + costL q
        omega
    have := h3 (r.take (r.length - 1)) fun a ha => hok a (List.mem_cons_of_mem _ (List.mem_of_mem_take ha))
    show 1 ≤ cst a.s.t + costL (r.take (r.length - 1))
    omega
structure FlowI (N n o : Int) (x : Lk) : Prop where
  fl : Fl (fun _ => N) (fun _ => N) N n o x.c.l
  safe : SafeI x.c
  st : x.c.state = 0
  dn : x.done = false
  fr : Front x.c.l
  two : 2 ≤ x.c.l.length
  kz : ∀ a, x.c.l[x.c.l.length - 1]? = some a → a.s.t.kind = 0
  sum : o + heldL x.c.l = n
  o0 : 0 ≤ o
  dl : N ≤ (n + 1) * (costL x.c.l - 1)
theorem takeC_is {y : Ch} (h2 : y.state ≠ 2) {z : Pa} (hz : y.l[y.l.length - 1]? = some z) (N m : Int) : takeC y N m = { y with l := y.l.set (y.l.length - 1) ⟨takeS z.s N m, z.cl⟩ } ∧ takeCB y N m = takeB z.s N m := by
  unfold takeC takeCB
  rw [if_neg h2, if_neg h2, hz]
  exact ⟨rfl, rfl⟩
theorem stepC_ended {y : Ch} (h : y.state ≠ 0) (N : Int) : stepC N y = y := by unfold stepC; rw [if_pos h]
set_option maxHeartbeats 1000000 in
theorem FlowI.tick (H : FlowI N n o x) (hN : 0 ≤ N) (hN1 : N ≤ 1000000000) :
    (stepE x N 1 = 1 ∧ heldL (stepK x N 1).c.l = 0 ∧ (stepK x N 1).c.lost = 0) ∨ (stepE x N 1 = 0 ∧ FlowI (N + 1) n (o + (stepB x N 1).size) (stepK x N 1) ∧ costL (stepK x N 1).c.l = costL x.c.l) := by
  have S1 := H.safe.step N
  have Q1 := safe_state H.safe (.inl H.st) ⟨3, N, 0, ⟨#[]⟩, ⟨⟨#[]⟩, 0, false, 0, 0, 0⟩, 0⟩ (by show (3 : Int) ≠ 2; decide) (fun q => absurd (show (3 : Int) = 5 from q) (by decide))
  have S2a := safe_does S1 ⟨4, N, 1, ⟨#[]⟩, ⟨⟨#[]⟩, 0, false, 0, 0, 0⟩, 0⟩ (by show (4 : Int) ≠ 2; decide) (fun q => absurd (show (4 : Int) = 5 from q) (by decide))
  have Q2 := safe_state S1 Q1 ⟨4, N, 1, ⟨#[]⟩, ⟨⟨#[]⟩, 0, false, 0, 0, 0⟩, 0⟩ (by show (4 : Int) ≠ 2; decide) (fun q => absurd (show (4 : Int) = 5 from q) (by decide))
  have S3a := S2a.step N
  have Q3a := safe_state S2a Q2 ⟨3, N, 0, ⟨#[]⟩, ⟨⟨#[]⟩, 0, false, 0, 0, 0⟩, 0⟩ (by show (3 : Int) ≠ 2; decide) (fun q => absurd (show (3 : Int) = 5 from q) (by decide))
  have S2 : SafeI (takeC (stepC N x.c) N 1) := S2a
  have S3 : SafeI (stepX x N 1) := S3a
  have Q3 : (stepX x N 1).state = 0 ∨ ((stepX x N 1).state = 1 ∧ heldL (stepX x N 1).l = 0) := Q3a
  clear S2a S3a Q3a Q1 Q2
  have hE : stepE x N 1 = (stepX x N 1).state := by
    unfold stepE tellB
    rw [H.dn]
    by_cases q : (stepX x N 1).state = 0
    · rw [q]; rfl
    · rw [decide_eq_false q]; rfl
  rcases Q3 with q | ⟨q, q2⟩
  · right
    have hx1 : (stepC N x.c).state = 0 := by
      apply Decidable.byContradiction
      intro z
      have : (takeC (stepC N x.c) N 1).state ≠ 0 := by rw [take_state]; exact z
      have e3 : stepX x N 1 = takeC (stepC N x.c) N 1 := stepC_ended this N
      rw [e3] at q
      exact this q
    have F1 := H.fl.step H.safe H.fr H.two H.st hN hN1 H.o0 H.sum (.inl rfl) (Int.le_refl N)
    have fr1 := H.fr.step H.safe (N := N)
    have tx1 := tx_step N x.c H.safe
    have len1 := two_step N x.c
    have hm1 := flow_mass (flow_step N x.c)
    have hl1 := S1.lost
    have hl0 := H.safe.lost
    have F1' := F1.1
    generalize hx1' : stepC N x.c = y at *
    obtain ⟨z, hz⟩ : ∃ z, y.l[y.l.length - 1]? = some z := ⟨_, List.getElem?_eq_getElem (by have := H.two; omega)⟩
    have hk0 : z.s.t.kind = 0 := by
      have g := congrArg (fun l => l[x.c.l.length - 1]?) tx1
      (try dsimp only at g)
      rw [List.getElem?_map, List.getElem?_map] at g
      rw [len1] at hz
      rw [hz] at g
      obtain ⟨z0, hz0⟩ : ∃ z, x.c.l[x.c.l.length - 1]? = some z := ⟨_, List.getElem?_eq_getElem (by have := H.two; omega)⟩
      rw [hz0] at g
      have g : some z.s.t = some z0.s.t := g
      injection g with g
      rw [g]
      exact H.kz z0 hz0
    have Tk := takeC_is (by omega) hz N 1
    have hB : stepB x N 1 = takeB z.s N 1 := by
      unfold stepB
      rw [hx1']
      exact Tk.2
    have Sz := F1' _ z hz
    have hce : 1 ≤ costL (y.l.take (y.l.length - 1)) := cost_front (by have := H.two; omega) F1'.ok
    have hab := stg_ab Sz
    have hcp := cst_pos hab.1 hab.2
    have hdz : y.l.drop (y.l.length - 1 + 1) = [] := List.drop_of_length_le (by have := H.two; omega)
    have Z1 := Sz.take1 hN hN1 (by have := H.o0; omega) (.inl (by (try dsimp only); rw [if_neg (by omega)])) hk0 (by omega)
    have hty : (takeS z.s N 1).t = z.s.t := (take_st _ _ _).1
    have hht := held_take z.s N 1
    have F2 : Fl (fun _ => N + 1) (fun _ => N + 1) N n (o + (takeB z.s N 1).size) (takeC y N 1).l := by
      rw [Tk.1]
      show Fl _ _ _ _ _ (y.l.set (y.l.length - 1) ⟨takeS z.s N 1, z.cl⟩)
      intro i d hd
      have hd : (y.l.set (y.l.length - 1) ⟨takeS z.s N 1, z.cl⟩)[i]? = some d := hd
      by_cases e1 : y.l.length - 1 = i
      · subst e1
        rw [List.getElem?_set_self (by have := H.two; omega)] at hd
        cases hd
        refine Z1.cast rfl (by (try dsimp only); rw [if_pos (by omega)]) (by rw [cost_take_set hz hty]) ?_
        rw [held_drop_lt (by omega), hdz]
        show o + ((takeB z.s N 1).size : Int) + (0 : Int) = o + (0 : Int) + ((takeB z.s N 1).size : Int)
        omega
      · rw [List.getElem?_set_ne e1] at hd
        have hi := (List.getElem?_eq_some_iff.1 hd).1
        refine (F1' i d hd).cast (by (try dsimp only); rw [if_pos (by omega)]) (by (try dsimp only); rw [if_pos (by omega)]) (by rw [cost_take_set hz hty]) ?_
        have g := held_drop_ge hz (by omega : i + 1 ≤ y.l.length - 1) ⟨takeS z.s N 1, z.cl⟩
        have g2 : held (Pa.s ⟨takeS z.s N 1, z.cl⟩) = held (takeS z.s N 1) := rfl
        omega
    have fr2 : Front (takeC y N 1).l := by rw [Tk.1]; exact fr1.set hz id
    have len2 : (takeC y N 1).l.length = x.c.l.length := by rw [Tk.1]; show (y.l.set _ _).length = _; rw [List.length_set]; exact len1
    have st2 : (takeC y N 1).state = 0 := by rw [take_state]; exact hx1
    have held2 : (takeB z.s N 1).size + heldL (takeC y N 1).l = heldL y.l := by
      rw [Tk.1]
      have g := heldL_set hz ⟨takeS z.s N 1, z.cl⟩
      have g2 : held (Pa.s ⟨takeS z.s N 1, z.cl⟩) = held (takeS z.s N 1) := rfl
      show (takeB z.s N 1).size + heldL (y.l.set (y.l.length - 1) ⟨takeS z.s N 1, z.cl⟩) = _
      omega
    have hsum2 : o + ((takeB z.s N 1).size : Int) + heldL (takeC y N 1).l = n := by have := H.sum; omega
    have tx2 : (takeC y N 1).l.map tx = x.c.l.map tx := by rw [Tk.1]; exact (tx_set (b := ⟨takeS z.s N 1, z.cl⟩) hz hty).trans tx1
    have F3 := F2.step S2 fr2 (by rw [len2]; exact H.two) st2 hN hN1 (by have := H.o0; omega) hsum2 (.inr rfl) (by omega)
    have len3 := two_step N (takeC y N 1)
    have hm3 := flow_mass (flow_step N (takeC y N 1))
    have fr3 := fr2.step S2 (N := N)
    have hl2 := S2.lost
    have hX : stepX x N 1 = stepC N (takeC y N 1) := by unfold stepX; rw [hx1']
    rw [hX] at q S3 hE
    have tx3 := (tx_step N (takeC y N 1) S2).trans tx2
    have hl3 := S3.lost
    have hcost := costL_of tx2
    have hcost3 : costL (stepC N (takeC y N 1)).l = costL x.c.l := costL_of tx3
    rw [hB]
    refine ⟨by rw [hE]; exact q, ⟨?_, ?_, ?_, ?_, ?_, ?_, ?_, ?_, by have := H.o0; omega, ?_⟩, ?_⟩
    · show Fl _ _ (N + 1) n _ (stepX x N 1).l
      rw [hX]
      intro i d hd
      have hi := (List.getElem?_eq_some_iff.1 hd).1
      exact ((F3.1 i d hd).later (by omega : N ≤ N + 1)).cast (by (try dsimp only); split <;> rfl) (by (try dsimp only); rw [if_pos (by omega)]) rfl rfl
    · show SafeI (stepX x N 1); rw [hX]; exact S3
    · show (stepX x N 1).state = 0; rw [hX]; exact q
    · show (x.done || tellB x N 1) = false
      unfold tellB
      rw [H.dn, hX, q]; rfl
    · show Front (stepX x N 1).l; rw [hX]; exact fr3
    · show 2 ≤ (stepX x N 1).l.length; rw [hX, len3, len2]; exact H.two
    · show ∀ a, (stepX x N 1).l[(stepX x N 1).l.length - 1]? = some a → a.s.t.kind = 0
      rw [hX, len3, len2]
      intro a ha
      have g := congrArg (fun l => l[x.c.l.length - 1]?) tx3
      (try dsimp only at g)
      rw [List.getElem?_map, List.getElem?_map, ha] at g
      obtain ⟨z0, hz0⟩ : ∃ z, x.c.l[x.c.l.length - 1]? = some z := ⟨_, List.getElem?_eq_getElem (by have := H.two; omega)⟩
      rw [hz0] at g
      have g : some a.s.t = some z0.s.t := g
      injection g with g
      rw [g]
      exact H.kz z0 hz0
    · show o + ((takeB z.s N 1).size : Int) + heldL (stepX x N 1).l = n
      rw [hX]
      omega
    · show N + 1 ≤ (n + 1) * (costL (stepX x N 1).l - 1)
      rw [hX, hcost3]
      apply Decidable.byContradiction
      intro z9
      have := F3.2 rfl (by rw [hcost]; omega)
      omega
    · show costL (stepX x N 1).l = costL x.c.l
      rw [hX]; exact hcost3
  · left
    exact ⟨by rw [hE]; exact q, q2, S3.lost⟩
/-! what New, Send and Finish make -/
def costT (t : Tox) : Int := if t.kind = 2 then 1 else if t.kind = 3 then t.b + 1 else t.a + t.b + 1
def costs : List Tox → Int
  | [] => 0
  | t :: r => costT t + costs r
def flowsB (t : Tox) : Bool := decide (t.kind ≠ 4 ∧ t.kind ≠ 5 ∧ t.kind ≠ 6 ∧ (t.kind = 2 → t.a ≠ 0))
theorem cst_le {t : Tox} (h : chk t = 0) : cst t ≤ costT t ∧ 1 ≤ costT t ∧ (t.a ≤ 40 → t.b ≤ 40 → costT t ≤ 81) := by
  have hp := tox_parts (.inr h)
  unfold cst costT
  refine ⟨?_, ?_, fun h1 h2 => ?_⟩
  all_goals (repeat' split)
  all_goals omega
theorem costs_way (up : Bool) : ∀ (L : List Tox), (∀ t ∈ L, chk t = 0) → costs (ofWay L up) ≤ costs L ∧ 0 ≤ costs (ofWay L up)
  | [], _ => ⟨Int.le_refl 0, Int.le_refl 0⟩
  | t :: r, h => by
    have ih := costs_way up r fun u hu => h u (List.mem_cons_of_mem _ hu)
    have h1 := (cst_le (h t (List.mem_cons_self ..))).2.1
    by_cases hu : t.up = up
    · have e : ofWay (t :: r) up = t :: ofWay r up := by simp [ofWay, hu]
      rw [e]
      simp only [costs]
      omega
    · have e : ofWay (t :: r) up = ofWay r up := by simp [ofWay, hu]
      rw [e]
      simp only [costs]
      omega
theorem costs_le : ∀ (L : List Tox), (∀ t ∈ L, chk t = 0 ∧ t.a ≤ 40 ∧ t.b ≤ 40) → 0 ≤ costs L ∧ costs L ≤ 81 * L.length
  | [], _ => ⟨Int.le_refl 0, Int.le_refl 0⟩
  | t :: r, h => by
    have ih := costs_le r fun u hu => h u (List.mem_cons_of_mem _ hu)
    have h0 := h t (List.mem_cons_self ..)
    have h1 := cst_le h0.1
    have h2 := h1.2.2 h0.2.1 h0.2.2
    simp only [costs, List.length_cons]
    omega
theorem cost_drawn : ∀ (l d : List Tox), DrL l d → (∀ t ∈ l, chk t = 0) → ∀ (room now : Int) (ps : List (Tox × Int)), ps.map (fun p => p.1) = d → costL (ps.map (fresh room now)) ≤ costs l
  | [], d, h, _, room, now, ps, hp => by
    have h1 := h.1
    have : ps = [] := by
      cases ps with
      | nil => rfl
      | cons p q => rw [← hp] at h1; simp at h1
    subst this
    exact Int.le_refl 0
  | t :: l, d, h, hc, room, now, ps, hp => by
    cases ps with
    | nil => have h1 := h.1; rw [← hp] at h1; simp at h1
    | cons p q =>
      subst hp
      have h0 := h.2 0 t p.1 rfl rfl
      have ih := cost_drawn l (q.map fun p => p.1) ⟨by have := h.1; simpa using this, fun i u v h1 h2 => h.2 (i + 1) u v (by simpa using h1) (by simpa using h2)⟩ (fun u hu => hc u (List.mem_cons_of_mem _ hu)) room now q rfl
      have hct := cst_le (hc t (List.mem_cons_self ..))
      have e : (fresh room now p).s.t = p.1 := by show (newS p.1 p.2 room now).t = p.1; unfold newS; split <;> rfl
      have h3 : cst p.1 ≤ costT t := by
        rcases h0.1 with q | q
        · rw [q]; exact hct.1
        · rw [q]; show (1 : Int) ≤ costT t; exact hct.2.1
      rw [List.map_cons]
      show cst (fresh room now p).s.t + costL (q.map (fresh room now)) ≤ costT t + costs l
      rw [e]
      omega
theorem fresh_held (room now : Int) (p : Tox × Int) : (fresh room now p).s.c = ([], 0) ∧ (fresh room now p).s.t = p.1 ∧ held (fresh room now p).s = 0 ∧ (fresh room now p).s.room = room ∧ (fresh room now p).s.clock = Tick.add now 0 ∧ (fresh room now p).s.pause = 0 ∧ (p.1.kind = 2 → (fresh room now p).s.b0 = p.1.a ∧ (fresh room now p).s.b3 = Tick.add now 0) := by
  show (newS p.1 p.2 room now).c = _ ∧ (newS p.1 p.2 room now).t = _ ∧ held (newS p.1 p.2 room now) = 0 ∧ (newS p.1 p.2 room now).room = room ∧ (newS p.1 p.2 room now).clock = Tick.add now 0 ∧ (newS p.1 p.2 room now).pause = 0 ∧ (p.1.kind = 2 → (newS p.1 p.2 room now).b0 = p.1.a ∧ (newS p.1 p.2 room now).b3 = Tick.add now 0)
  unfold newS
  split
  · exact ⟨rfl, rfl, rfl, rfl, rfl, rfl, fun _ => ⟨rfl, rfl⟩⟩
  · rename_i hk; exact ⟨rfl, rfl, rfl, rfl, rfl, rfl, fun q => absurd q hk⟩
theorem heldL_fresh (room now : Int) : ∀ ps : List (Tox × Int), heldL (ps.map (fresh room now)) = 0
  | [] => rfl
  | p :: r => by rw [List.map_cons]; show held (fresh room now p).s + heldL (r.map (fresh room now)) = 0; rw [heldL_fresh room now r, (fresh_held room now p).2.2.1]
theorem stg_fresh {room : Int} {p : Tox × Int} (hok : Ok (fresh room 0 p).s) (hr : n ≤ room) (hn : 0 ≤ n) (hk : flowsB p.1 = true) (hpos : 0 ≤ p.1.a ∧ 0 ≤ p.1.b) (he : 0 ≤ e + cst p.1) (he1 : p.1.kind ≠ 0 → 0 ≤ e) (hL : k ≤ (n + 1) * e) : Stg 0 k 0 n e 0 (fresh room 0 p) := by
  obtain ⟨h1, h2, h3, h4, h5, h6, h7⟩ := fresh_held room 0 p
  have hf := of_decide_eq_true (show decide (p.1.kind ≠ 4 ∧ p.1.kind ≠ 5 ∧ p.1.kind ≠ 6 ∧ (p.1.kind = 2 → p.1.a ≠ 0)) = true from hk)
  have hc0 : Tick.add 0 0 = 0 := by decide
  refine ⟨hok, psf_new _ _ _ _ ⟨hf.1, hf.2.1, hf.2.2.1⟩, by rw [h4]; exact hr, by rw [h5, hc0]; exact Int.le_refl 0, fun q => (by omega), fun _ => ?_, fun _ => (by rw [h1, h5, hc0]; exact Int.le_refl 0), fun _ => (by rw [h6, h2, Int.zero_add, Int.one_mul]; exact he), fun q => ?_, fun _ q => (by cases q), .inr hL, by rw [h2]; exact he, by rw [h2]; exact he1⟩
  · rw [h1]
    refine ⟨fun p d hd => by simp [dues] at hd, ?_⟩
    rw [h3, h2]
    show (0 : Int) ≤ (0 + ((0 : Nat) : Int)) * _
    rw [show (0 + ((0 : Nat) : Int)) = 0 from rfl, Int.zero_mul]
    exact Int.le_refl 0
  · rw [h2] at q
    obtain ⟨g1, g2⟩ := h7 q
    rw [g1, g2, hc0]
    have := hf.2.2.2 q
    omega
theorem safe_fresh (room : Int) : ∀ ps : List (Tox × Int), (∀ p ∈ ps, flowsB p.1 = true) → AllL Psf (ps.map (fresh room 0)) := fun ps h a ha => by
  obtain ⟨p, hp, rfl⟩ := List.mem_map.1 ha
  have hf := of_decide_eq_true (show decide (p.1.kind ≠ 4 ∧ p.1.kind ≠ 5 ∧ p.1.kind ≠ 6 ∧ (p.1.kind = 2 → p.1.a ≠ 0)) = true from h p hp)
  exact psf_new _ _ _ _ ⟨hf.1, hf.2.1, hf.2.2.1⟩
theorem flow_start (L : List Tox) (up : Bool) (seed room : Int) (s : ByteArray) (hr : linkE L room = 0) (hok : ∀ a ∈ (linkN L up seed room 0).c.l, Ok a.s) (hf : ∀ t ∈ L, flowsB t = true) (hs : (s.size : Int) ≤ room) :
    FlowI 0 s.size 0 (finishK (sendK (linkN L up seed room 0) 0 s) 0) ∧ putCN (linkN L up seed room 0).c 0 s = s.size ∧ costL (finishK (sendK (linkN L up seed room 0) 0 s) 0).c.l - 1 ≤ 1 + costs L ∧ (linkN L up seed room 0).c.lost = 0 := by
  have hN := newI_linkN L up seed room 0 hr
  obtain ⟨ds, hl, hd⟩ := hN.l
  have hall := first_all (linkE_0 hr).2.2.1
  have hlost := hN.lost
  have hst := hN.st
  have hsh := hN.sh
  have hdn := hN.dn
  generalize linkN L up seed room 0 = x at *
  -- the toxics that are drawn flow
  have hds : ∀ p ∈ ds, flowsB p.1 = true := by
    intro p hp
    obtain ⟨i, hi⟩ := List.mem_iff_getElem?.1 hp
    have hlen : ds.length = (ofWay L up).length := by have := hd.1; simpa using this
    have hlt := (List.getElem?_eq_some_iff.1 hi).1
    have ht : (ofWay L up)[i]? = some (ofWay L up)[i] := List.getElem?_eq_getElem (by omega)
    have hm : (ofWay L up)[i] ∈ L := (List.mem_filter.1 (List.getElem_mem (by omega : i < (ofWay L up).length))).1
    have h1 := hd.2 i _ p.1 ht (by rw [List.getElem?_map, hi]; rfl)
    rcases h1.1 with q | q
    · rw [q]; exact hf _ hm
    · rw [q]; decide
  have hps : ∀ p ∈ ((noTox, (0 : Int)) :: ds ++ [(noTox, 0)]), flowsB p.1 = true := by
    intro p hp
    rcases List.mem_append.1 hp with q | q
    · rcases List.mem_cons.1 q with q | q
      · subst q; decide
      · exact hds p q
    · have : p = (noTox, 0) := by simpa using q
      subst this; decide
  have hl2 : x.c.l = fresh room 0 (noTox, 0) :: (ds ++ [(noTox, 0)]).map (fresh room 0) := by rw [hl]; rfl
  obtain ⟨f, hf0⟩ : ∃ f, fresh room 0 (noTox, 0) = f := ⟨_, rfl⟩
  have hff := fresh_held room 0 (noTox, 0)
  rw [hf0] at hff hl2
  have hx0 : x.c.l[0]? = some f := by rw [hl2]; rfl
  have hokf : Ok f.s := hok f (by rw [hl2]; exact List.mem_cons_self ..)
  have hn0 : (0 : Int) ≤ s.size := by omega
  have S0 : Stg 0 (-((s.size : Int) + 1)) 0 s.size (-1) 0 f := by
    rw [← hf0]
    refine stg_fresh (p := (noTox, 0)) (by rw [hf0]; exact hokf) hs hn0 (by decide) ⟨by decide, by decide⟩ (by decide) (fun q => absurd rfl q) ?_
    rw [Int.mul_neg_one]
    exact Int.le_refl _
  have hc0 : Tick.add 0 0 = 0 := by decide
  have hopen : (lookP f.s 0).state = 0 := by
    rcases psf_look S0.psf 0 with q | ⟨_, q, _⟩
    · exact q
    · rw [← hf0] at q; cases q
  have hclosed : (lookP f.s 0).closed = false := by
    show f.s.closed = false
    rw [S0.psf.2.1, ← hf0]; rfl
  have hroom : roomFor (lookP f.s 0) s = s.size := by
    unfold roomFor free
    have e1 : (lookP f.s 0).room = room := hff.2.2.2.1
    have e2 : held (lookP f.s 0) = 0 := hff.2.2.1
    rw [e1, e2]
    omega
  have hput : putS f.s 0 s = forceP (lookP f.s 0) 0 s := by
    unfold putS
    rw [if_neg (by rintro (q | q); exact q hopen; rw [hclosed] at q; cases q), hroom]
    congr 1
    apply ByteArray.ext
    simp
  have hpn : putCN x.c 0 s = s.size := by
    unfold putCN
    rw [if_neg (by rintro (q | q); rw [hsh] at q; cases q; exact q hst), hx0]
    show putN f.s 0 s = s.size
    unfold putN
    rw [if_neg (by rintro (q | q); exact q hopen; rw [hclosed] at q; cases q)]
    exact hroom
  have hfk : f.s.t.kind = 0 := by rw [hff.2.1]; rfl
  have hfc : f.s.t = noTox := hff.2.1
  have S1 := S0.force (by decide) (by decide) (by decide) s hopen (.inr hfk) (fun _ => .inr hfk) (fun _ _ => by rw [hfc]; decide)
  have hk1 : (forceP (lookP f.s 0) 0 s).t = f.s.t := (force_st _ _ _).1
  have S2 := S1.fin (k' := 0) (by decide) (by decide) (.inr (by show (forceP (lookP f.s 0) 0 s).t.kind = 0; rw [hk1]; exact hfk))
  have hh1 : held (forceP (lookP f.s 0) 0 s) = s.size := by
    have h6 := congrArg ByteArray.size (cat_force (lookP f.s 0) 0 s)
    rw [look_idem, if_neg (fun q => q hopen), ← held_cat, ByteArray.size_append, ← held_cat] at h6
    have : held (lookP f.s 0) = 0 := hff.2.2.1
    omega
  -- the row
  have hc1 : (putC x.c 0 s).l = ⟨forceP (lookP f.s 0) 0 s, f.cl⟩ :: (ds ++ [(noTox, 0)]).map (fresh room 0) ∧ (putC x.c 0 s).state = 0 ∧ (putC x.c 0 s).lost = 0 := by
    unfold putC
    rw [if_neg (by rintro (q | q); rw [hsh] at q; cases q; exact q hst), hx0]
    refine ⟨?_, hst, hlost⟩
    show x.c.l.set 0 ⟨putS f.s 0 s, f.cl⟩ = _
    rw [hput, hl2]
    rfl
  have hc2 : (closeC (putC x.c 0 s) 0).l = endA 0 ⟨forceP (lookP f.s 0) 0 s, f.cl⟩ :: (ds ++ [(noTox, 0)]).map (fresh room 0) ∧ (closeC (putC x.c 0 s) 0).state = 0 ∧ (closeC (putC x.c 0 s) 0).lost = 0 := by
    unfold closeC
    rw [if_pos hc1.2.1, hc1.1]
    exact ⟨rfl, hc1.2.1, hc1.2.2⟩
  have hheld : held (endA 0 ⟨forceP (lookP f.s 0) 0 s, f.cl⟩).s = s.size := by rw [← hh1]; exact held_close _ _
  have hkf : (endA 0 ⟨forceP (lookP f.s 0) 0 s, f.cl⟩).s.t = noTox := by show (closeP (forceP (lookP f.s 0) 0 s) 0).t = noTox; rw [(close_st _ _).1, hk1]; exact hfc
  obtain ⟨g, hg⟩ : ∃ g, endA 0 ⟨forceP (lookP f.s 0) 0 s, f.cl⟩ = g := ⟨_, rfl⟩
  rw [hg] at S2 hc2 hheld hkf
  have hgc : g.cl = true := by rw [← hg]; rfl
  obtain ⟨rest, hrest⟩ : ∃ rest, ds ++ [(noTox, (0 : Int))] = rest := ⟨_, rfl⟩
  have hrp : ∀ p ∈ rest, flowsB p.1 = true := by
    intro p hp
    rw [← hrest] at hp
    exact hps p (List.mem_cons_of_mem _ hp)
  have hcr : costL (rest.map (fresh room 0)) ≤ costs L + 1 := by
    rw [← hrest, List.map_append, costL_app]
    have h1 := cost_drawn (ofWay L up) _ hd (fun t ht => hall t (List.mem_filter.1 ht).1) room 0 ds rfl
    have h2 := (costs_way up L hall).1
    have h3 : costL ([((noTox : Tox), (0 : Int))].map (fresh room 0)) = 1 := by
      show cst (fresh room 0 (noTox, 0)).s.t + 0 = 1
      rw [(fresh_held room 0 (noTox, 0)).2.1]
      decide
    omega
  have hrl : 1 ≤ rest.length := by rw [← hrest]; simp
  have hz0 : heldL (rest.map (fresh room 0)) = 0 := heldL_fresh room 0 rest
  have hlastk : ∀ a, (g :: rest.map (fresh room 0))[(g :: rest.map (fresh room 0)).length - 1]? = some a → a.s.t.kind = 0 := by
    intro a ha
    rw [← hrest] at ha
    rw [show (g :: (ds ++ [((noTox : Tox), (0 : Int))]).map (fresh room 0)) = (g :: ds.map (fresh room 0)) ++ [fresh room 0 (noTox, 0)] by rw [List.map_append]; rfl] at ha
    rw [List.getElem?_append_right (by simp)] at ha
    have : a = fresh room 0 (noTox, 0) := by simpa using ha.symm
    rw [this, (fresh_held room 0 (noTox, 0)).2.1]
    rfl
  rw [hrest] at hc2
  have hokr : ∀ p ∈ rest, Ok (fresh room 0 p).s := by
    intro p hp
    rw [← hrest] at hp
    exact hok _ (by rw [hl]; exact List.mem_map.2 ⟨p, List.mem_cons_of_mem _ hp, rfl⟩)
  have hcg : cst g.s.t = 1 := by rw [hkf]; decide
  have hcn : ∀ q : List (Tox × Int), (∀ p ∈ q, Ok (fresh room 0 p).s) → 0 ≤ costL (q.map (fresh room 0)) := by
    intro q
    induction q with
    | nil => intro _; exact Int.le_refl 0
    | cons p q ih =>
      intro hq
      have g1 := tox_ab (hq p (List.mem_cons_self ..))
      have g2 := cst_pos g1.1 g1.2.2.1
      have := ih fun a ha => hq a (List.mem_cons_of_mem _ ha)
      rw [List.map_cons]
      show 0 ≤ cst (fresh room 0 p).s.t + costL (q.map (fresh room 0))
      omega
  refine ⟨⟨?_, ⟨?_, ?_, hc2.2.2⟩, hc2.2.1, hdn, ?_, ?_, ?_, ?_, Int.le_refl 0, ?_⟩, hpn, ?_, hlost⟩
  · show Fl _ _ 0 s.size 0 (closeC (putC x.c 0 s) 0).l
    rw [hc2.1]
    intro i d hd'
    cases i with
    | zero =>
      cases hd'
      exact S2.cast rfl rfl rfl (by show (0 : Int) + (heldL (rest.map (fresh room 0)) : Int) = 0; rw [hz0]; rfl)
    | succ i =>
      rw [List.getElem?_cons_succ, List.getElem?_map] at hd'
      obtain ⟨p, hp, rfl⟩ := Option.map_eq_some_iff.1 hd'
      have hpm := List.mem_of_getElem? hp
      have e1 : costL ((g :: rest.map (fresh room 0)).take (i + 1)) = 1 + costL ((rest.take i).map (fresh room 0)) := by
        rw [List.take_succ_cons, ← List.map_take]
        show cst g.s.t + _ = _
        rw [hcg]
      have e2 : heldL ((g :: rest.map (fresh room 0)).drop (i + 1 + 1)) = 0 := by
        rw [List.drop_succ_cons, ← List.map_drop]
        exact heldL_fresh room 0 _
      have hcp := hcn (rest.take i) fun q hq => hokr q (List.mem_of_mem_take hq)
      have hab := tox_ab (hokr p hpm)
      rw [(fresh_held room 0 p).2.1] at hab
      have hcp2 := cst_pos hab.1 hab.2.2.1
      refine (stg_fresh (p := p) (e := costL ((rest.take i).map (fresh room 0))) (k := 0) (n := s.size) (hokr p hpm) hs hn0 (hrp p hpm) ⟨hab.1, hab.2.2.1⟩ (by omega) (fun _ => hcp) (Int.mul_nonneg (by omega) hcp)).cast rfl rfl (by rw [e1]; omega) (by rw [e2]; rfl)
  · show AllL Psf (closeC (putC x.c 0 s) 0).l
    rw [hc2.1]
    intro a ha
    rcases List.mem_cons.1 ha with q | q
    · subst q; exact S2.psf
    · exact safe_fresh room rest hrp a q
  · show PE (closeC (putC x.c 0 s) 0).l
    rw [hc2.1]
    intro i a b ha hb hcl
    rw [List.getElem?_cons_succ, List.getElem?_map] at hb
    obtain ⟨p, hp, rfl⟩ := Option.map_eq_some_iff.1 hb
    cases hcl
  · show Front (closeC (putC x.c 0 s) 0).l
    rw [hc2.1]
    intro a ha
    cases ha
    exact hgc
  · show 2 ≤ (closeC (putC x.c 0 s) 0).l.length
    rw [hc2.1, List.length_cons, List.length_map]; omega
  · show ∀ a, (closeC (putC x.c 0 s) 0).l[(closeC (putC x.c 0 s) 0).l.length - 1]? = some a → a.s.t.kind = 0
    rw [hc2.1]; exact hlastk
  · show (0 : Int) + (heldL (closeC (putC x.c 0 s) 0).l : Int) = s.size
    rw [hc2.1]
    show (0 : Int) + ((held g.s + heldL (rest.map (fresh room 0)) : Nat) : Int) = s.size
    rw [hz0, hheld]; omega
  · show (0 : Int) ≤ ((s.size : Int) + 1) * (costL (closeC (putC x.c 0 s) 0).l - 1)
    rw [hc2.1]
    have := hcn rest hokr
    refine Int.mul_nonneg (by omega) ?_
    show 0 ≤ cst g.s.t + costL (rest.map (fresh room 0)) - 1
    omega
  · show costL (closeC (putC x.c 0 s) 0).l - 1 ≤ 1 + costs L
    rw [hc2.1]
    show cst g.s.t + costL (rest.map (fresh room 0)) - 1 ≤ _
    omega
end Go.Proofs.Ytoiibmcbjjnpbaa.Link
namespace Go.Proofs.Ytoiibmcbjjnpbaa.Link
open Go.RowKit Mem Tick Cargo Toxic Stage Chain
set_option maxRecDepth 100000
set_option linter.unusedVariables false
set_option linter.unusedSimpArgs false
theorem script_nil' (w : World) : Script w (.slice none 0 0) [] := ⟨none, 0, rfl, by decide, fun x hx => (by simp at hx), fun h => absurd rfl h⟩
def Small (L : List Tox) : Prop := ∀ t ∈ L, chk t = 0 ∧ t.a ≤ 40 ∧ t.b ≤ 40
def allB (L : List Tox) : Bool := L.all flowsB
def bnd (L : List Tox) (n : Int) : Int := if allB L = true then (n + 2) * (1 + costs L) else -1
theorem costs_snoc (l : List Tox) (t : Tox) : costs (l ++ [t]) = costs l + costT t := by
  induction l with
  | nil => simp [costs]
  | cons p r ih => simp only [List.cons_append, costs, ih]; omega
theorem costs_succ {L : List Tox} {k : Nat} {t : Tox} (h : L[k]? = some t) : costs (L.take (k + 1)) = costs (L.take k) + costT t := by rw [List.take_add_one, h]; exact costs_snoc _ _
theorem allB_succ {L : List Tox} {k : Nat} {t : Tox} (h : L[k]? = some t) (h1 : allB (L.take k) = true) (h2 : flowsB t = true) : allB (L.take (k + 1)) = true := by
  rw [List.take_add_one, h]
  unfold allB at *
  rw [List.all_append, h1]
  simp [h2]
theorem allB_no {L : List Tox} {k : Nat} {t : Tox} (h : L[k]? = some t) (h2 : flowsB t = false) : allB L = false := by
  unfold allB
  rw [List.all_eq_false]
  exact ⟨t, List.mem_of_getElem? h, by rw [h2]; decide⟩
theorem flows_no {t : Tox} (h : t.kind = 4 ∨ t.kind = 5 ∨ t.kind = 6 ∨ (t.kind = 2 ∧ t.a = 0)) : flowsB t = false := by
  unfold flowsB
  refine decide_eq_false ?_
  rintro ⟨h1, h2, h3, h4⟩
  rcases h with q | q | q | ⟨q, q2⟩
  · exact h1 q
  · exact h2 q
  · exact h3 q
  · exact h4 q q2
theorem flows_yes {t : Tox} (h4 : t.kind ≠ 4) (h5 : t.kind ≠ 5) (h6 : t.kind ≠ 6) (h2 : t.kind = 2 → t.a ≠ 0) : flowsB t = true := by
  unfold flowsB
  exact decide_eq_true ⟨h4, h5, h6, h2⟩
def BI (L : List Tox) (k : Nat) (c : Int) : Prop := Small L → c = 1 + costs (L.take k) ∧ allB (L.take k) = true ∧ (0 ≤ costs (L.take k) ∧ costs (L.take k) ≤ 81 * L.length)
theorem small_take {L : List Tox} (h : Small L) (k : Nat) : 0 ≤ costs (L.take k) ∧ costs (L.take k) ≤ 81 * L.length := by
  have := costs_le (L.take k) fun t ht => h t (List.mem_of_mem_take ht)
  rw [List.length_take] at this
  omega
theorem BI.next {L : List Tox} {k : Nat} {c c' : Int} {t : Tox} (h : BI L k c) (hx : L[k]? = some t) (hf : flowsB t = true) (hc : Small L → c' = c + costT t) : BI L (k + 1) c' := fun hS => by
  obtain ⟨h1, h2, _⟩ := h hS
  exact ⟨by rw [hc hS, h1, costs_succ hx]; omega, allB_succ hx h2 hf, small_take hS _⟩
theorem bound_any (sa : Option Addr) (sc : Nat) (L : List Tox) (n : Int) (w : World) (hs : Toxs w (.slice sa L.length sc) L) (hl : L.length ≤ 12) (h0 : 0 ≤ n) (h1 : n ≤ 30) :
    Calls Try.prog 8 #[.slice sa L.length sc, .int .i64 n] w fun e w' => ∃ r, e = .returned (.int .i64 r) ∧ (Small L → r = bnd L n) ∧ Below w.heap.size w w' := by
  have hs' := Lib.hid hs
  clear hs
  go_enter Try.func8, Try.ntmps8
  go_wp2
  go_loopw [5, 10] (fun cv iv wr => ∃ (k : Nat) (c : Int), k ≤ L.length ∧ iv = .int .i64 k ∧ cv = .int .i64 c ∧ BI L k c ∧ Below w.heap.size w wr) (fun _ iv _ => L.length - (intOf iv).toNat)
  case atStart => exact ⟨0, 1, by omega, rfl, rfl, fun _ => ⟨by show (1 : Int) = 1 + 0; rfl, rfl, Int.le_refl 0, by show (0 : Int) ≤ _; omega⟩, Below.refl _ _⟩
  case round =>
    obtain ⟨k, c, hk, rfl, rfl, hI, hB⟩ := hrel
    by_cases hlt : k < L.length
    · obtain ⟨sa', sc', e1, -, -, hTA⟩ := hs'.out
      injection e1 with e1 e2 e3
      subst e1 e3
      obtain ⟨g, oo, rfl, hc⟩ := hTA (by intro h; subst h; simp at hlt)
      have hx : L[k]? = some L[k] := List.getElem?_eq_getElem hlt
      obtain ⟨d0, d1, d2, d3, d4, d5⟩ := hc k _ hx
      have hsm := Lib.hid (fun hS : Small L => hS L[k] (List.getElem_mem hlt))
      generalize L[k] = p at *
      have hI' := Lib.hid (show ∀ c', flowsB p = true → (Small L → c' = c + costT p) → BI L (k + 1) c' from fun c' hf hc => hI.next hx hf hc)
      have hcB := Lib.hid (fun hS => (hI hS))
      have hno := Lib.hid (show flowsB p = false → bnd L n = -1 from fun h => by unfold bnd; rw [allB_no hx h]; rfl)
      obtain ⟨t0, t1, t2, t3, t4, t5⟩ := p
      dsimp only at *
      have d0' := bcells hB d0
      have d1' := bcells hB d1
      have d2' := bcells hB d2
      have d3' := bcells hB d3
      have d4' := bcells hB d4
      have d5' := bcells hB d5
      have hBx : Below w.heap.size w (wr.alloc (.cells #[.string t0, .int .i64 t1, .bool t2, .int .i64 t3, .int .i64 t4, .int .i64 t5] 29)) := hB.alloc hB.size _
      have HBx := Lib.hid hBx
      clear hc hx hTA hBx hB hI d0 d1 d2 d3 d4 d5 e2
      by_cases k4 : t1 = 4
      · have hz := Lib.hid (hno.out (flows_no (.inl k4)))
        have e4 : (t1 == 4) = true := by simpa using k4
        clear k4 hno hI' hsm hcB
        go_wp2
        go_ret
        exact ⟨_, rfl, fun _ => hz.out.symm, HBx.out⟩
      have e4 : (t1 == 4) = false := by simpa using k4
      by_cases k5 : t1 = 5
      · have hz := Lib.hid (hno.out (flows_no (.inr (.inl k5))))
        have e5 : (t1 == 5) = true := by simpa using k5
        clear k4 k5 hno hI' hsm hcB
        go_wp2
        go_ret
        exact ⟨_, rfl, fun _ => hz.out.symm, HBx.out⟩
      have e5 : (t1 == 5) = false := by simpa using k5
      by_cases k6 : t1 = 6
      · have hz := Lib.hid (hno.out (flows_no (.inr (.inr (.inl k6)))))
        have e6 : (t1 == 6) = true := by simpa using k6
        clear k4 k5 k6 hno hI' hsm hcB
        go_wp2
        go_ret
        exact ⟨_, rfl, fun _ => hz.out.symm, HBx.out⟩
      have e6 : (t1 == 6) = false := by simpa using k6
      by_cases k2 : t1 = 2
      · have e2 : (t1 == 2) = true := by simpa using k2
        by_cases z : t4 = 0
        · have hz := Lib.hid (hno.out (flows_no (.inr (.inr (.inr ⟨k2, z⟩)))))
          have e7 : (t4 == 0) = true := by simpa using z
          clear k4 k5 k6 k2 z hno hI' hsm hcB
          go_wp2
          go_ret
          exact ⟨_, rfl, fun _ => hz.out.symm, HBx.out⟩
        · have hn := Lib.hid (hI'.out (wrap64 (c + 1)) (flows_yes k4 k5 k6 (fun _ => z)) (fun hS => by
            have hq := (hcB.out hS)
            have e : costT ⟨t0, t1, t2, t3, t4, t5⟩ = 1 := by unfold costT; rw [if_pos k2]
            rw [e]
            unfold wrap64
            omega))
          have e7 : (t4 == 0) = false := by simpa using z
          clear k4 k5 k6 k2 z hno hI' hsm hcB
          go_wp2
          go_roundw
          case rel => exact ⟨k + 1, _, by omega, by go_num, rfl, hn.out, HBx.out⟩
          case measure => simp [intOf]; omega
      have e2 : (t1 == 2) = false := by simpa using k2
      by_cases k3 : t1 = 3
      · have hn := Lib.hid (hI'.out (wrap64 (c + wrap64 (t5 + 1))) (flows_yes k4 k5 k6 (fun q => absurd q k2)) (fun hS => by
          have hq := (hcB.out hS)
          have hp := tox_parts (.inr (hsm.out hS).1)
          have h40 := (hsm.out hS).2
          dsimp only at hp h40
          have e : costT ⟨t0, t1, t2, t3, t4, t5⟩ = t5 + 1 := by unfold costT; rw [if_neg k2, if_pos k3]
          rw [e]
          have e9 : wrap64 (t5 + 1) = t5 + 1 := by unfold wrap64; omega
          rw [e9]
          unfold wrap64
          omega))
        have e3 : (t1 == 3) = true := by simpa using k3
        clear k4 k5 k6 k2 k3 hno hI' hsm hcB
        go_wp2
        go_roundw
        case rel => exact ⟨k + 1, _, by omega, by go_num, rfl, hn.out, HBx.out⟩
        case measure => simp [intOf]; omega
      have e3 : (t1 == 3) = false := by simpa using k3
      have hn := Lib.hid (hI'.out (wrap64 (c + wrap64 (wrap64 (t4 + t5) + 1))) (flows_yes k4 k5 k6 (fun q => absurd q k2)) (fun hS => by
        have hq := (hcB.out hS)
        have hp := tox_parts (.inr (hsm.out hS).1)
        have h40 := (hsm.out hS).2
        dsimp only at hp h40
        have e : costT ⟨t0, t1, t2, t3, t4, t5⟩ = t4 + t5 + 1 := by unfold costT; rw [if_neg k2, if_neg k3]
        rw [e]
        have e8 : wrap64 (t4 + t5) = t4 + t5 := by unfold wrap64; omega
        have e9 : wrap64 (t4 + t5 + 1) = t4 + t5 + 1 := by unfold wrap64; omega
        rw [e8, e9]
        unfold wrap64
        omega))
      clear k4 k5 k6 k2 k3 hno hI' hsm hcB
      go_wp2
      go_roundw
      case rel => exact ⟨k + 1, _, by omega, by go_num, rfl, hn.out, HBx.out⟩
      case measure => simp [intOf]; omega
    · have hk2 : k = L.length := by omega
      subst hk2
      have hnl : ¬ (L.length < L.length) := by omega
      have HB := Lib.hid hB
      have hfin := Lib.hid (show Small L → wrap64 ((n + 2) * c) = bnd L n from fun hS => by
        obtain ⟨g1, g2, g3⟩ := hI hS
        rw [List.take_length] at g1 g2 g3
        unfold bnd
        rw [if_pos g2, ← g1]
        have a1 : (n + 2) * c ≤ 32 * c := Int.mul_le_mul_of_nonneg_right (by omega) (by omega)
        have a2 : 0 ≤ (n + 2) * c := Int.mul_nonneg (by omega) (by omega)
        generalize (n + 2) * c = z at *
        unfold wrap64
        omega)
      clear hI hB
      go_wp2
      go_ret
      exact ⟨_, rfl, hfin.out, HB.out⟩
structure FlowS (C : Int) (s : ByteArray) (N : Nat) (x : Lk) (o : ByteArray) : Prop where
  fl : FlowI N s.size o.size x
  kk : KK x s o
  ok : OkK x 30 (900 * N + 900)
  co : costL x.c.l - 1 ≤ C
theorem FlowS.tick {C : Int} {s : ByteArray} {N : Nat} {x : Lk} {o : ByteArray} (H : FlowS C s N x o) (hN : N ≤ 100000) :
    (stepE x N 1 = 1 ∧ o ++ stepB x N 1 = s) ∨ (stepE x N 1 = 0 ∧ FlowS C s (N + 1) (stepK x N 1) (o ++ stepB x N 1)) := by
  have hk := H.kk.does ⟨3, N, 1, ⟨#[]⟩, noTox⟩
  have hk : KK (stepK x N 1) (s ++ ⟨#[]⟩) (o ++ stepB x N 1) := hk
  rw [app_nil] at hk
  have ho := (H.ok.step N 1).more (M' := 30) (Q' := 900 * ((N + 1 : Nat) : Int) + 900) (by omega) (by omega)
  rcases H.fl.tick (by omega) (by omega) with ⟨h1, h2, h3⟩ | ⟨h1, h2, h3⟩
  · exact .inl ⟨h1, (km_same hk.km h2 h3).symm⟩
  · refine .inr ⟨h1, ?_, hk, ho, by rw [h3]; exact H.co⟩
    rw [ByteArray.size_append]
    exact h2
theorem FlowS.room {C : Int} {s : ByteArray} {N : Nat} {x : Lk} {o : ByteArray} (H : FlowS C s N x o) : o.size + (stepB x N 1).size ≤ s.size := by
  have hk := H.kk.does ⟨3, N, 1, ⟨#[]⟩, noTox⟩
  have hk : KK (stepK x N 1) (s ++ ⟨#[]⟩) (o ++ stepB x N 1) := hk
  rw [app_nil] at hk
  have := (keep_pre hk.km.1).1
  rw [ByteArray.size_append] at this
  exact this
theorem FlowS.time {C : Int} {s : ByteArray} {N : Nat} {x : Lk} {o : ByteArray} (H : FlowS C s N x o) (hC : 0 ≤ C) : (N : Int) ≤ ((s.size : Int) + 2) * C := by
  have h1 := H.fl.dl
  have h2 : ((s.size : Int) + 1) * (costL x.c.l - 1) ≤ ((s.size : Int) + 1) * C := Int.mul_le_mul_of_nonneg_left H.co (by omega)
  have h3 : ((s.size : Int) + 1) * C ≤ ((s.size : Int) + 2) * C := Int.mul_le_mul_of_nonneg_right (by omega) hC
  omega
theorem flow_begin (L : List Tox) (up : Bool) (seed room : Int) (s : ByteArray) (hr : linkE L room = 0) (h0 : 0 ≤ seed) (h1 : seed < 18446744073709551616) (hf : allB L = true) (hs : s.size ≤ 30) (hm : 30 ≤ room) :
    FlowS (1 + costs L) s 0 (finishK (sendK (linkN L up seed room 0) 0 s) 0) ⟨#[]⟩ ∧ putCN (linkN L up seed room 0).c 0 s = s.size ∧ OkK (linkN L up seed room 0) 0 0 ∧ OkK (sendK (linkN L up seed room 0) 0 s) 30 0 ∧ (linkN L up seed room 0).sent = 0 := by
  have hz := linkE_0 hr
  have ok0 := (ok_linkN L up seed room 0 hz.1 h0 h1 hz.2.1).1
  have ok1 := (ok0.send 0 s).more (M' := 30) (Q' := 0) (by omega) (Int.le_refl 0)
  have k0 := kk_linkN L up seed room 0
  have hall : ∀ t ∈ L, flowsB t = true := fun t ht => List.all_eq_true.1 hf t ht
  obtain ⟨f1, f2, f3, f4⟩ := flow_start L up seed room s hr (fun a ha => (ok0.c.ok a ha).1) hall (by omega)
  have hsent : (linkN L up seed room 0).sent = 0 := k0.sent
  have hd : (linkN L up seed room 0).drawn ≤ 8 := (ok_linkN L up seed room 0 hz.1 h0 h1 hz.2.1).2
  generalize linkN L up seed room 0 = x at *
  have k1 := k0.does ⟨0, 0, 0, s, noTox⟩
  have k1 : KK (sendK x 0 s) (⟨#[]⟩ ++ s.extract 0 (putCN x.c 0 s)) (⟨#[]⟩ ++ ⟨#[]⟩) := k1
  have e1 : s.extract 0 (putCN x.c 0 s) = s := by rw [f2]; apply ByteArray.ext; simp
  rw [e1, nil_app, nil_app] at k1
  have k2 := k1.does ⟨1, 0, 0, ⟨#[]⟩, noTox⟩
  have k2 : KK (finishK (sendK x 0 s) 0) (s ++ ⟨#[]⟩) (⟨#[]⟩ ++ ⟨#[]⟩) := k2
  rw [app_nil, nil_app] at k2
  have ok2 := (ok1.does (Int.le_refl 0) (by show x.drawn + 1 ≤ 1000000000; omega) ⟨1, 0, 0, ⟨#[]⟩, noTox⟩).more (M' := 30) (Q' := 900) (by show (30 : Int) + 0 ≤ 30; omega) (by show (0 : Int) + 30 * (30 + 0) ≤ 900; omega)
  exact ⟨⟨f1, k2, ok2, f3⟩, f2, ok0, ok1, hsent⟩
theorem LinkFlows_few (sa : Option Addr) (sc : Nat) (L : List Tox) (up : Bool) (seed room : Int) (s : ByteArray) (w : World) (hs : Toxs w (.slice sa L.length sc) L) (h0 : 0 ≤ seed) (h1 : seed < 18446744073709551616) (hf : fewK L.length [] = false) :
    Calls Try.prog 3 #[.agg #[.slice sa L.length sc, .bool up, .int .u64 seed, .int .i64 room], .string s] w fun e w' => e = .returned (.bool true) ∧ Below w.heap.size w w' := by
  obtain ⟨w0, e0, B0, X0⟩ : ∃ w0, Hid (w.alloc (.cells #[.slice sa L.length sc, .bool up, .int .u64 seed, .int .i64 room] 25) = w0) ∧ Hid (Below w.heap.size w w0) ∧ Hid (Blk w0 w.heap.size 25 #[.slice sa L.length sc, .bool up, .int .u64 seed, .int .i64 room]) := ⟨_, Lib.hid rfl, Lib.hid ((Below.refl _ _).alloc (Nat.le_refl _) _), Lib.hid (Blk.new w _ _)⟩
  have hmx : L.length ≤ 9223372036854775807 := by obtain ⟨_, _, _, e, _⟩ := hs; exact e
  have hf' := Lib.hid hf
  clear hf
  go_enter Try.func3, Try.ntmps3
  go_wp2_with fail
  rw [e0.out]
  refine (few_any sa L.length sc up seed room _ [] _ hmx (script_nil' _)).mono ?_
  rintro e w2 ⟨rfl, hB⟩
  rw [hf'.out]
  have B2 := Lib.hid (bw_below B0.out hB)
  have X2 := Lib.hid (X0.out.below hB)
  clear hB
  go_wp2_with (go_at_call 6; (with_reducible refine (alive_any _).mono ?_); rintro e wA ⟨rfl, hBA⟩; have hBA' := Lib.hid hBA; clear hBA)
  go_ret
  exact ⟨rfl, bw_below B2.out hBA'.out⟩
theorem LinkFlows_long (sa : Option Addr) (sc : Nat) (L : List Tox) (up : Bool) (seed room : Int) (s : ByteArray) (w : World) (hs : Toxs w (.slice sa L.length sc) L) (h0 : 0 ≤ seed) (h1 : seed < 18446744073709551616) (hf : fewK L.length [] = true) (hl : 30 < s.size) :
    Calls Try.prog 3 #[.agg #[.slice sa L.length sc, .bool up, .int .u64 seed, .int .i64 room], .string s] w fun e w' => e = .returned (.bool true) ∧ Below w.heap.size w w' := by
  obtain ⟨w0, e0, B0, X0⟩ : ∃ w0, Hid (w.alloc (.cells #[.slice sa L.length sc, .bool up, .int .u64 seed, .int .i64 room] 25) = w0) ∧ Hid (Below w.heap.size w w0) ∧ Hid (Blk w0 w.heap.size 25 #[.slice sa L.length sc, .bool up, .int .u64 seed, .int .i64 room]) := ⟨_, Lib.hid rfl, Lib.hid ((Below.refl _ _).alloc (Nat.le_refl _) _), Lib.hid (Blk.new w _ _)⟩
  have hmx : L.length ≤ 9223372036854775807 := by obtain ⟨_, _, _, e, _⟩ := hs; exact e
  have tl : decide ((30 : Int) < (s.size : Int)) = true := decide_eq_true (by omega)
  have tln : decide (30 < s.size) = true := decide_eq_true hl
  have hf' := Lib.hid hf
  clear hf
  go_enter Try.func3, Try.ntmps3
  go_wp2_with fail
  rw [e0.out]
  refine (few_any sa L.length sc up seed room _ [] _ hmx (script_nil' _)).mono ?_
  rintro e w2 ⟨rfl, hB⟩
  rw [hf'.out]
  have B2 := Lib.hid (bw_below B0.out hB)
  have X2 := Lib.hid (X0.out.below hB)
  clear hB
  go_wp2_with (go_at_call 6; (with_reducible refine (alive_any _).mono ?_); rintro e wA ⟨rfl, hBA⟩; have hBA' := Lib.hid hBA; clear hBA)
  go_ret
  exact ⟨rfl, bw_below B2.out hBA'.out⟩
theorem LinkFlows_room (sa : Option Addr) (sc : Nat) (L : List Tox) (up : Bool) (seed room : Int) (s : ByteArray) (w : World) (hs : Toxs w (.slice sa L.length sc) L) (h0 : 0 ≤ seed) (h1 : seed < 18446744073709551616) (hf : fewK L.length [] = true) (hl : s.size ≤ 30) (hr : room < 30) :
    Calls Try.prog 3 #[.agg #[.slice sa L.length sc, .bool up, .int .u64 seed, .int .i64 room], .string s] w fun e w' => e = .returned (.bool true) ∧ Below w.heap.size w w' := by
  obtain ⟨w0, e0, B0, X0⟩ : ∃ w0, Hid (w.alloc (.cells #[.slice sa L.length sc, .bool up, .int .u64 seed, .int .i64 room] 25) = w0) ∧ Hid (Below w.heap.size w w0) ∧ Hid (Blk w0 w.heap.size 25 #[.slice sa L.length sc, .bool up, .int .u64 seed, .int .i64 room]) := ⟨_, Lib.hid rfl, Lib.hid ((Below.refl _ _).alloc (Nat.le_refl _) _), Lib.hid (Blk.new w _ _)⟩
  have hmx : L.length ≤ 9223372036854775807 := by obtain ⟨_, _, _, e, _⟩ := hs; exact e
  have tl : decide ((30 : Int) < (s.size : Int)) = false := decide_eq_false (by omega)
  have tln : decide (30 < s.size) = false := decide_eq_false (by omega)
  have tr : decide (room < 30) = true := decide_eq_true hr
  have hf' := Lib.hid hf
  clear hf
  go_enter Try.func3, Try.ntmps3
  go_wp2_with fail
  rw [e0.out]
  refine (few_any sa L.length sc up seed room _ [] _ hmx (script_nil' _)).mono ?_
  rintro e w2 ⟨rfl, hB⟩
  rw [hf'.out]
  have B2 := Lib.hid (bw_below B0.out hB)
  have X2 := Lib.hid (X0.out.below hB)
  have x0 : w2.cell? ⟨w.heap.size, 0, none⟩ = some (.slice sa L.length sc) := (X2.out.cell 0).trans rfl
  have x1 : w2.cell? ⟨w.heap.size, 1, none⟩ = some (.bool up) := (X2.out.cell 1).trans rfl
  have x2 : w2.cell? ⟨w.heap.size, 2, none⟩ = some (.int .u64 seed) := (X2.out.cell 2).trans rfl
  have x3 : w2.cell? ⟨w.heap.size, 3, none⟩ = some (.int .i64 room) := (X2.out.cell 3).trans rfl
  have xb := X2.out.lt
  clear hB
  go_wp2_with (go_at_call 6; (with_reducible refine (alive_any _).mono ?_); rintro e wA ⟨rfl, hBA⟩; have hBA' := Lib.hid hBA; clear hBA)
  go_ret
  exact ⟨rfl, bw_below B2.out hBA'.out⟩
set_option maxHeartbeats 2000000 in
theorem LinkFlows_main (sa : Option Addr) (sc : Nat) (L : List Tox) (up : Bool) (seed room : Int) (s : ByteArray) (w : World) (hs : Toxs w (.slice sa L.length sc) L) (h0 : 0 ≤ seed) (h1 : seed < 18446744073709551616) (hf : fewK L.length [] = true) (hl : s.size ≤ 30) (hr : 30 ≤ room) :
    Calls Try.prog 3 #[.agg #[.slice sa L.length sc, .bool up, .int .u64 seed, .int .i64 room], .string s] w fun e w' => e = .returned (.bool true) ∧ Below w.heap.size w w' := by
  obtain ⟨w0, e0, B0, X0⟩ : ∃ w0, Hid (w.alloc (.cells #[.slice sa L.length sc, .bool up, .int .u64 seed, .int .i64 room] 25) = w0) ∧ Hid (Below w.heap.size w w0) ∧ Hid (Blk w0 w.heap.size 25 #[.slice sa L.length sc, .bool up, .int .u64 seed, .int .i64 room]) := ⟨_, Lib.hid rfl, Lib.hid ((Below.refl _ _).alloc (Nat.le_refl _) _), Lib.hid (Blk.new w _ _)⟩
  have hmx : L.length ≤ 9223372036854775807 := by obtain ⟨_, _, _, e, _⟩ := hs; exact e
  have tl : decide ((30 : Int) < (s.size : Int)) = false := decide_eq_false (by omega)
  have tln : decide (30 < s.size) = false := decide_eq_false (by omega)
  have tr : decide (room < 30) = false := decide_eq_false (by omega)
  have hs' := Lib.hid (hs.below B0.out)
  have hl12 : L.length ≤ 12 := by simp [fewK] at hf; exact hf.1
  have hh0 := Lib.hid (And.intro h0 h1)
  have hr30 := hr
  clear hs h0 h1
  have hf' := Lib.hid hf
  clear hf
  go_enter Try.func3, Try.ntmps3
  go_wp2_with fail
  rw [e0.out]
  refine (few_any sa L.length sc up seed room _ [] _ hmx (script_nil' _)).mono ?_
  rintro e w2 ⟨rfl, hB⟩
  rw [hf'.out]
  have B2 := Lib.hid (bw_below B0.out hB)
  have X2 := Lib.hid (X0.out.below hB)
  have x0 : w2.cell? ⟨w.heap.size, 0, none⟩ = some (.slice sa L.length sc) := (X2.out.cell 0).trans rfl
  have x1 : w2.cell? ⟨w.heap.size, 1, none⟩ = some (.bool up) := (X2.out.cell 1).trans rfl
  have x2 : w2.cell? ⟨w.heap.size, 2, none⟩ = some (.int .u64 seed) := (X2.out.cell 2).trans rfl
  have x3 : w2.cell? ⟨w.heap.size, 3, none⟩ = some (.int .i64 room) := (X2.out.cell 3).trans rfl
  have xb := X2.out.lt
  have B02 := Lib.hid hB
  clear hB
  go_wp2
  go_loopw [33] (fun iv wr => ∃ k : Nat, k ≤ L.length ∧ iv = .int .i64 k ∧ (∀ (i : Nat) (t : Tox), i < k → L[i]? = some t → t.a ≤ 40 ∧ t.b ≤ 40) ∧ Below w2.heap.size w2 wr) (fun iv _ => L.length - (intOf iv).toNat)
  case atStart => exact ⟨0, by omega, rfl, fun i t h => by omega, Below.refl _ _⟩
  case round =>
    obtain ⟨k, hk, rfl, hal, hB⟩ := hrel
    clear x0 x1 x2 x3 xb
    by_cases hlt : k < L.length
    · obtain ⟨sa', sc', e1, -, -, hTA⟩ := hs'.out
      injection e1 with e1 e2 e3
      subst e1 e3
      obtain ⟨g, oo, rfl, hc⟩ := hTA (by intro h; subst h; simp at hlt)
      have hx : L[k]? = some L[k] := List.getElem?_eq_getElem hlt
      obtain ⟨d0, d1, d2, d3, d4, d5⟩ := hc k _ hx
      have hn := Lib.hid (show L[k].a ≤ 40 → L[k].b ≤ 40 → ∀ (i : Nat) (t : Tox), i < k + 1 → L[i]? = some t → t.a ≤ 40 ∧ t.b ≤ 40 from fun q1 q2 i t hi ht => by
        by_cases e : i = k
        · subst e; rw [hx] at ht; cases ht; exact ⟨q1, q2⟩
        · exact hal i t (by omega) ht)
      generalize L[k] = p at *
      obtain ⟨t0, t1, t2, t3, t4, t5⟩ := p
      dsimp only at *
      have hold := bw_below B02.out hB
      have d0' := bcells hold d0
      have d1' := bcells hold d1
      have d2' := bcells hold d2
      have d3' := bcells hold d3
      have d4' := bcells hold d4
      have d5' := bcells hold d5
      have hBx : Below w2.heap.size w2 (wr.alloc (.cells #[.string t0, .int .i64 t1, .bool t2, .int .i64 t3, .int .i64 t4, .int .i64 t5] 29)) := hB.alloc hB.size _
      have HBx := Lib.hid hBx
      clear hc hx hTA hBx hB hold hal d0 d1 d2 d3 d4 d5 e2
      by_cases z4 : 40 < t4
      · have q4 : decide ((40 : Int) < t4) = true := decide_eq_true z4
        clear hn z4
        go_wp2_with (go_at_call 6; (with_reducible refine (alive_any _).mono ?_); rintro e wA ⟨rfl, hBA⟩; have hBA' := Lib.hid hBA; clear hBA)
        go_ret
        exact ⟨rfl, bw_below (bw_below B2.out HBx.out) hBA'.out⟩
      have q4 : decide ((40 : Int) < t4) = false := decide_eq_false z4
      by_cases z5 : 40 < t5
      · have q5 : decide ((40 : Int) < t5) = true := decide_eq_true z5
        clear hn z4 z5
        go_wp2_with (go_at_call 6; (with_reducible refine (alive_any _).mono ?_); rintro e wA ⟨rfl, hBA⟩; have hBA' := Lib.hid hBA; clear hBA)
        go_ret
        exact ⟨rfl, bw_below (bw_below B2.out HBx.out) hBA'.out⟩
      have q5 : decide ((40 : Int) < t5) = false := decide_eq_false z5
      have hn2 := Lib.hid (hn.out (by omega) (by omega))
      clear hn z4 z5
      go_wp2
      go_roundw
      case rel => exact ⟨k + 1, by omega, by go_num, hn2.out, HBx.out⟩
      case measure => simp [intOf]; omega
    · have hk2 : k = L.length := by omega
      subst hk2
      have hnl : ¬ (L.length < L.length) := by omega
      have h40 := Lib.hid (show ∀ t ∈ L, t.a ≤ 40 ∧ t.b ≤ 40 from fun t ht => by
        obtain ⟨i, hi⟩ := List.mem_iff_getElem?.1 ht
        exact hal i t (List.getElem?_eq_some_iff.1 hi).1 hi)
      have B3 := Lib.hid (bw_below B2.out hB)
      have B03 := Lib.hid (bw_below B02.out hB)
      have X3 := Lib.hid (X2.out.below hB)
      clear hal hB
      generalize wr = w3 at *
      have x0 : w3.cell? ⟨w.heap.size, 0, none⟩ = some (.slice sa L.length sc) := (X3.out.cell 0).trans rfl
      have x1 : w3.cell? ⟨w.heap.size, 1, none⟩ = some (.bool up) := (X3.out.cell 1).trans rfl
      have x2 : w3.cell? ⟨w.heap.size, 2, none⟩ = some (.int .u64 seed) := (X3.out.cell 2).trans rfl
      have x3 : w3.cell? ⟨w.heap.size, 3, none⟩ = some (.int .i64 room) := (X3.out.cell 3).trans rfl
      have xb := X3.out.lt
      by_cases hr : linkE L room = 0
      · obtain ⟨h0, h1⟩ := hh0.out
        have hn := Lib.hid (live_new (w := w0) up seed room 0 (hs'.out) hr h0 h1 B03.out)
        have hsmall : Small L := fun t ht => ⟨first_all (linkE_0 hr).2.2.1 t ht, h40.out t ht⟩
        have hS := Lib.hid hsmall
        have hcl := Lib.hid (costs_le L hsmall)
        have te : (linkE L room != 0) = false := by simp [hr]
        cases hab : allB L with
        | false =>
          have hab' := Lib.hid hab
          clear hr hab hsmall
          go_wp2_with fail
          refine hn.out.mono ?_
          rintro e w4 ⟨c, rfl, hL⟩
          have B4 := Lib.hid (bw_below B0.out hL.old)
          have B04 := Lib.hid hL.old
          have X4 := Lib.hid (X0.out.below hL.old)
          have y0 : w4.cell? ⟨w.heap.size, 0, none⟩ = some (.slice sa L.length sc) := (X4.out.cell 0).trans rfl
          have yb := X4.out.lt
          clear hn hL x0 x1 x2 x3 xb
          go_wp2_with fail
          refine (bound_any sa sc L s.size w4 (hs'.out.below B04.out) hl12 (by omega) (by omega)).mono ?_
          rintro e w5 ⟨r, rfl, hrb, hB⟩
          have B5 := Lib.hid (bw_below B4.out hB)
          obtain rfl : r = -1 := by rw [hrb hS.out]; unfold bnd; rw [hab'.out]; rfl
          clear hB hrb
          go_wp2_with (go_at_call 6; (with_reducible refine (alive_any _).mono ?_); rintro e wA ⟨rfl, hBA⟩; have hBA' := Lib.hid hBA; clear hBA)
          go_ret
          exact ⟨rfl, bw_below B5.out hBA'.out⟩
        | true =>
          have hbeg := Lib.hid (flow_begin L up seed room s hr h0 h1 hab hl hr30)
          have hab' := Lib.hid hab
          clear hr hab hsmall
          generalize linkN L up seed room 0 = K0 at *
          go_wp2_with fail
          refine hn.out.mono ?_
          rintro e w4 ⟨c, rfl, hL⟩
          have H4 := Lib.hid hL
          have X4 := Lib.hid (X0.out.below hL.old)
          have y0 : w4.cell? ⟨w.heap.size, 0, none⟩ = some (.slice sa L.length sc) := (X4.out.cell 0).trans rfl
          have yb := X4.out.lt
          clear hn hL x0 x1 x2 x3 xb
          go_wp2_with fail
          refine (bound_any sa sc L s.size w4 (hs'.out.below H4.out.old) hl12 (by omega) (by omega)).mono ?_
          rintro e w5 ⟨r, rfl, hrb, hB⟩
          have H5 := Lib.hid (H4.out.below hB)
          obtain ⟨C, hC⟩ : ∃ C, 1 + costs L = C := ⟨_, rfl⟩
          have hCb : 0 ≤ C ∧ C ≤ 1000 := by have := hcl.out; omega
          have hr1 : r = (s.size + 2) * C := by rw [hrb hS.out]; unfold bnd; rw [if_pos hab'.out, hC]
          rw [hC] at hbeg
          have hr2 : 0 ≤ r ∧ r ≤ 32000 := by
            have a1 : ((s.size : Int) + 2) * C ≤ 32 * C := Int.mul_le_mul_of_nonneg_right (by omega) hCb.1
            have a2 : 0 ≤ ((s.size : Int) + 2) * C := Int.mul_nonneg (by omega) hCb.1
            omega
          have hr1' := Lib.hid hr1
          have hCb' := Lib.hid hCb.1
          have tm : decide (r < 0) = false := decide_eq_false (by omega)
          clear hB hrb hr1 hcl hCb hC y0 yb H4 X4
          obtain ⟨b1, b2, b3, b4, b5⟩ := hbeg.out
          have hcv := conv_str s
          obtain ⟨F, hK, hF, hBL⟩ := H5.out
          have hBy := Lib.hid (bytes_below w5 s)
          have hBS := Lib.hid (bytes_new w5 s)
          have hcap3 := fun (W : World) => grownCap_ge W s.size 0 5
          have hK' := Lib.hid (hK.below hBy.out)
          have hlt := fun j (hj : F j) => Lib.hid (hK.lt hj)
          have HF := Lib.hid (And.intro hF (bw_below hBL hBy.out))
          have HB := Lib.hid (And.intro b1 (And.intro b3 (And.intro b4 (And.intro b2 b5))))
          clear b1 b2 b3 b4 b5 hbeg hK hF hBL H5
          go_wp2_with fail
          refine (kSend_any hK'.out HB.out.2.1 0 _ _ s (hcap3 _) (by simpa using hBS.out) (fun g o e hF => by have := (hlt g hF).out; injection e with e; injection e with e; subst e; first | omega | (simp at this; omega) | simp at this) (by omega) (by rw [HB.out.2.2.2.2]; omega)).mono ?_
          rintro e w6 ⟨rfl, hT⟩
          rw [HB.out.2.2.2.1]
          have H6 := Lib.hid (LiveK.turn hK'.out HF.out.1 HF.out.2 hT).1
          clear hT hK' hlt hcap3 hcv hBy hBS HF
          obtain ⟨F6, hK6, hF6, hB6⟩ := H6.out
          have HF6 := Lib.hid (And.intro hF6 hB6)
          have hK6' := Lib.hid hK6
          clear hK6 hF6 hB6 H6
          go_wp2_with fail
          refine (kFinish_any hK6'.out HB.out.2.2.1 0).mono ?_
          rintro e w7 ⟨rfl, hT⟩
          have H7 := Lib.hid (LiveK.turn hK6'.out HF6.out.1 HF6.out.2 hT).1
          have HS0 := Lib.hid HB.out.1
          clear hT hK6' HF6 HB
          generalize finishK (sendK K0 0 s) 0 = x0 at *
          go_wp2
          go_loopw [11, 12, 13] (fun ov ev nv wr => ∃ (N : Nat) (x : Lk) (o : ByteArray) (en : Int), nv = .int .i64 N ∧ ov = .string o ∧ ev = .int .i64 en ∧ (N : Int) ≤ r + 1 ∧ LiveK w0 wr c x ∧ ((en = 0 ∧ FlowS C s N x o) ∨ (en = 1 ∧ o = s))) (fun _ _ nv _ => (r + 2).toNat - (intOf nv).toNat)
          case atStart => exact ⟨0, x0, ⟨#[]⟩, 0, rfl, rfl, rfl, by omega, H7.out, .inl ⟨rfl, HS0.out⟩⟩
          case round =>
            obtain ⟨N, x, o, en, rfl, rfl, rfl, hNr, hL, hcase⟩ := hrel
            clear H7 HS0
            rcases hcase with ⟨rfl, hFS⟩ | ⟨rfl, rfl⟩
            · have hN1 := hFS.time hCb'.out
              rw [← hr1'.out] at hN1
              have tN : decide ((N : Int) ≤ r) = true := decide_eq_true hN1
              have htk := Lib.hid (hFS.tick (by omega))
              have hrm := hFS.room
              have hgot : x.got + 30 ≤ 1000000000 := by have h1 := hFS.kk.got; have := (keep_pre hFS.kk.km.1).1; omega
              obtain ⟨F, hK, hF, hBL⟩ := hL
              have hK' := Lib.hid hK
              have HF := Lib.hid (And.intro hF hBL)
              have hok := Lib.hid (And.intro hFS.ok hgot)
              clear hK hF hBL hFS hgot
              go_wp2_with fail
              refine (kStep_any hK'.out hok.out.1 (by decide) (by omega) hok.out.2 N 1).mono ?_
              rintro e w8 ⟨A, cap, F', rfl, hb, -, hL8, hD, hS, -⟩
              have hcv := conv_bytes cap hb
              have H8 := Lib.hid (LiveK.turn hK'.out HF.out.1 HF.out.2 ⟨F', hL8, hD, hS⟩).1
              have htk' := htk.out
              clear hb hL8 hD hS hK' HF hok htk
              generalize stepB x N 1 = ob at *
              have hno : ¬ (9223372036854775807 < o.size + ob.size) := by omega
              generalize stepE x N 1 = eb at *
              generalize stepK x N 1 = y at *
              have htk := Lib.hid htk'
              clear htk'
              go_wp2
              go_roundw
              case rel => exact ⟨N + 1, y, o ++ ob, eb, by go_num, rfl, rfl, by omega, H8.out, htk.out.symm.imp id id⟩
              case measure => simp [intOf]; omega
            · have H8 := Lib.hid hL
              clear hL
              by_cases hN1 : (N : Int) ≤ r
              · have tN : decide ((N : Int) ≤ r) = true := decide_eq_true hN1
                go_wp2_with (go_at_call 6; (with_reducible refine (alive_any _).mono ?_); rintro e wA ⟨rfl, hBA⟩; have hBA' := Lib.hid hBA; clear hBA)
                go_ret
                exact ⟨by simp, bw_below B0.out (bw_below H8.out.old hBA'.out)⟩
              · have tN : decide ((N : Int) ≤ r) = false := decide_eq_false hN1
                go_wp2_with (go_at_call 6; (with_reducible refine (alive_any _).mono ?_); rintro e wA ⟨rfl, hBA⟩; have hBA' := Lib.hid hBA; clear hBA)
                go_ret
                exact ⟨by simp, bw_below B0.out (bw_below H8.out.old hBA'.out)⟩
      · have hn := Lib.hid (bad_new up seed room 0 (hs'.out.below B03.out) hr)
        have te : (linkE L room != 0) = true := by simpa using hr
        clear hr
        go_wp2_with fail
        refine hn.out.mono ?_
        rintro e w4 ⟨rfl, hB⟩
        have B4 := Lib.hid (bw_below B3.out hB)
        have B04 := Lib.hid (bw_below B03.out hB)
        have X4 := Lib.hid (X3.out.below hB)
        have y0 : w4.cell? ⟨w.heap.size, 0, none⟩ = some (.slice sa L.length sc) := (X4.out.cell 0).trans rfl
        have yb := X4.out.lt
        clear hn hB x0 x1 x2 x3 xb
        go_wp2_with fail
        refine (bound_any sa sc L s.size w4 (hs'.out.below B04.out) hl12 (by omega) (by omega)).mono ?_
        rintro e w5 ⟨r, rfl, -, hB⟩
        have B5 := Lib.hid (bw_below B4.out hB)
        clear hB
        go_wp2_with (go_at_call 6; (with_reducible refine (alive_any _).mono ?_); rintro e wA ⟨rfl, hBA⟩; have hBA' := Lib.hid hBA; clear hBA)
        go_ret
        exact ⟨rfl, bw_below B5.out hBA'.out⟩
theorem LinkFlows_any (sv : Value) (L : List Tox) (up : Bool) (seed room : Int) (s : ByteArray) (w : World) (hs : Seats w sv L up seed room) (hz : s.size ≤ 140737488351232) :
    Calls Try.prog 3 #[sv, .string s] w fun e w' => e = .returned (.bool true) ∧ Below w.heap.size w w' := by
  obtain ⟨sa, sc, rfl, hs, h0, h1⟩ := hs
  cases hf : fewK L.length [] with
  | false => exact LinkFlows_few sa sc L up seed room s w hs h0 h1 hf
  | true =>
    by_cases hl : 30 < s.size
    · exact LinkFlows_long sa sc L up seed room s w hs h0 h1 hf hl
    by_cases hr : room < 30
    · exact LinkFlows_room sa sc L up seed room s w hs h0 h1 hf (by omega) hr
    exact LinkFlows_main sa sc L up seed room s w hs h0 h1 hf (by omega) (by omega)
end Go.Proofs.Ytoiibmcbjjnpbaa.Link
