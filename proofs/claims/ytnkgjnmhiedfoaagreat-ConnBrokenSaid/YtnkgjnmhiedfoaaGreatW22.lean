/- A chain (chapter 11), plain: what each call makes of it, and where the bytes are. No condition. -/
import Derived.Test.YtnkgjnmhiedfoaaGreatW21
namespace Go.Proofs.YtnkgjnmhiedfoaaGreat.Chain
open Go.RowKit Mem Tick Cargo Toxic Stage
set_option linter.unusedVariables false
set_option linter.unusedSimpArgs false
structure Pa where
  s : Sg
  cl : Bool
structure Ch where
  l : List Pa
  room : Int
  lost : Int
  shut : Bool
  state : Int
def heldL : List Pa → Nat
  | [] => 0
  | a :: r => held a.s + heldL r
def lineL : List Pa → ByteArray
  | [] => ⟨#[]⟩
  | a :: r => lineL r ++ cat a.s.c.1
theorem heldL_append (a b : List Pa) : heldL (a ++ b) = heldL a + heldL b := by induction a with | nil => simp [heldL] | cons p r ih => simp [heldL, ih]; omega
theorem lineL_append (a b : List Pa) : lineL (a ++ b) = lineL b ++ lineL a := by
  induction a with
  | nil => simp [lineL, app_nil]
  | cons p r ih => simp [lineL, ih, ByteArray.append_assoc]
theorem lineL_size (l : List Pa) : (lineL l).size = heldL l := by
  induction l with
  | nil => rfl
  | cons a r ih => simp only [lineL, heldL, ByteArray.size_append, ih, ← held_cat]; omega
def endA (now : Int) (a : Pa) : Pa := ⟨closeP a.s now, true⟩
def drainA (a : Pa) : Pa := ⟨drainP a.s, a.cl⟩
def lookA (now : Int) (a : Pa) : Pa := ⟨lookP a.s now, a.cl⟩
theorem endA_c (now : Int) (a : Pa) : (endA now a).s.c = a.s.c := by unfold endA closeP; split <;> rfl
def loseL (n : Nat) (l : List Pa) : List Pa := (l.take n).map drainA ++ l.drop n
def loseC (n : Nat) (x : Ch) : Ch := { x with l := loseL n x.l, lost := x.lost + heldL (x.l.take n), shut := true }
def breakC (x : Ch) : Ch := if x.state = 1 then x else { loseC x.l.length x with state := 2 }
def moveAt (now : Int) (j : Nat) (l : List Pa) : List Pa :=
  match l[j]?, l[j + 1]? with
  | some a, some b =>
    if (lookP b.s now).state = 0 then (l.set j ⟨takeS a.s now (free (lookP b.s now)), a.cl⟩).set (j + 1) ⟨forceP (lookP b.s now) now (takeB a.s now (free (lookP b.s now))), b.cl⟩
    else l.set (j + 1) (lookA now b)
  | _, _ => l
def moves (now : Int) : Nat → List Pa → List Pa
  | 0, l => l
  | m + 1, l => moveAt now m (moves now m l)
def shutAt (now : Int) (j : Nat) (x : Ch) : Ch :=
  match x.l[j]?, x.l[j + 1]? with
  | some a, some b =>
    if (lookP a.s now).state = 1 then { loseC (j + 1) { x with l := x.l.set j (lookA now a) } with l := (loseL (j + 1) (x.l.set j (lookA now a))).set (j + 1) (endA now b) }
    else { x with l := x.l.set j (lookA now a) }
  | _, _ => x
def shuts (now : Int) : Nat → Ch → Ch
  | 0, x => x
  | m + 1, x => shutAt now m (shuts now m x)
def brokenB (l : List Pa) : Bool := l.any fun a => a.s.state == 2
def lastC (now : Int) (x : Ch) : Ch :=
  match x.l[x.l.length - 1]? with
  | some a => { x with l := x.l.set (x.l.length - 1) (lookA now a), state := (lookP a.s now).state }
  | none => x
def stepC (now : Int) (x : Ch) : Ch :=
  if x.state ≠ 0 then x
  else if brokenB (x.l.map (lookA now)) = true then breakC { x with l := x.l.map (lookA now) }
  else lastC now (shuts now (x.l.length - 1) { x with l := moves now (x.l.length - 1) (x.l.map (lookA now)) })
def putC (x : Ch) (now : Int) (b : ByteArray) : Ch :=
  if x.shut = true ∨ x.state ≠ 0 then x else match x.l[0]? with
    | some a => { x with l := x.l.set 0 ⟨putS a.s now b, a.cl⟩ }
    | none => x
def putCN (x : Ch) (now : Int) (b : ByteArray) : Nat :=
  if x.shut = true ∨ x.state ≠ 0 then 0 else match x.l[0]? with
    | some a => putN a.s now b
    | none => 0
def closeC (x : Ch) (now : Int) : Ch :=
  if x.state = 0 then match x.l[0]? with
    | some a => { x with l := x.l.set 0 (endA now a), shut := true }
    | none => x
  else x
def takeC (x : Ch) (now most : Int) : Ch :=
  if x.state = 2 then x else match x.l[x.l.length - 1]? with
    | some a => { x with l := x.l.set (x.l.length - 1) ⟨takeS a.s now most, a.cl⟩ }
    | none => x
def takeCB (x : Ch) (now most : Int) : ByteArray :=
  if x.state = 2 then ⟨#[]⟩ else match x.l[x.l.length - 1]? with
    | some a => takeB a.s now most
    | none => ⟨#[]⟩
def noPlace (x : Ch) (at_ : Int) : Bool := decide (at_ < 0) || decide ((x.l.length : Int) - 2 < at_) || decide (8 ≤ (x.l.length : Int) - 2)
def insE (x : Ch) (at_ : Int) (t : Tox) : Int := if noPlace x at_ = true then 110 else newE t x.room
def insC (x : Ch) (at_ : Int) (t : Tox) (seed now : Int) : Ch :=
  if insE x at_ t ≠ 0 then x else
  match x.l[at_.toNat + 1]? with
  | some b => { x with l := x.l.take (at_.toNat + 1) ++ (if b.cl = true then endA now ⟨newS t seed x.room now, false⟩ else ⟨newS t seed x.room now, false⟩) :: x.l.drop (at_.toNat + 1) }
  | none => x
def isB (x : Ch) (at_ : Int) : Bool := decide (0 ≤ at_) && decide (at_ < (x.l.length : Int) - 2)
def remAt (x : Ch) (i : Nat) (now : Int) : Ch :=
  match x.l[i]?, x.l[i + 1]? with
  | some p, some q =>
    let q1 : Pa := ⟨forceP q.s now (cat p.s.c.1), q.cl⟩
    let l1 := (x.l.set i (drainA p)).set (i + 1) q1
    let gone : Int := (held p.s : Int) - ((held q1.s : Int) - held q.s)
    let l2 := if 0 < gone then loseL i l1 else l1
    let q2 := if p.cl = true then endA now q1 else q1
    { x with l := (l2.set (i + 1) q2).eraseIdx i, lost := if 0 < gone then x.lost + gone + heldL (l1.take i) else x.lost, shut := if 0 < gone then true else x.shut }
  | _, _ => x
def remC (x : Ch) (at_ now : Int) : Ch := if isB x at_ = true then remAt x (at_.toNat + 1) now else x
def remE (x : Ch) (at_ : Int) : Int := if isB x at_ = true then 0 else 110
def updC (x : Ch) (at_ : Int) (t : Tox) (now : Int) : Ch :=
  if isB x at_ = true then match x.l[at_.toNat + 1]? with
    | some a => { x with l := x.l.set (at_.toNat + 1) ⟨updS a.s t now, a.cl⟩ }
    | none => x
  else x
def updCE (x : Ch) (at_ : Int) (t : Tox) : Int :=
  if isB x at_ = true then match x.l[at_.toNat + 1]? with
    | some a => updE a.s t
    | none => 110
  else 110
/-! where the bytes are -/
theorem split_at {l : List Pa} {i : Nat} {a : Pa} (h : l[i]? = some a) : l = l.take i ++ a :: l.drop (i + 1) := by
  obtain ⟨hi, he⟩ := List.getElem?_eq_some_iff.1 h
  rw [← he, List.getElem_cons_drop, List.take_append_drop]
theorem set_at {l : List Pa} {i : Nat} {a : Pa} (h : l[i]? = some a) (b : Pa) : l.set i b = l.take i ++ b :: l.drop (i + 1) := by
  have hi := (List.getElem?_eq_some_iff.1 h).1
  rw [List.set_eq_take_append_cons_drop, if_pos hi]
theorem heldL_set {l : List Pa} {i : Nat} {a : Pa} (h : l[i]? = some a) (b : Pa) : heldL (l.set i b) + held a.s = heldL l + held b.s := by
  have h1 := congrArg heldL (split_at h)
  rw [set_at h b]
  rw [h1]
  simp only [heldL_append, heldL]
  omega
theorem lineL_set_same {l : List Pa} {i : Nat} {a : Pa} (h : l[i]? = some a) (b : Pa) (hc : cat b.s.c.1 = cat a.s.c.1) : lineL (l.set i b) = lineL l := by
  have h1 := congrArg lineL (split_at h)
  rw [set_at h b]
  rw [h1]
  simp only [lineL_append, lineL, hc]
theorem split_two {l : List Pa} {i : Nat} {a b : Pa} (h : l[i]? = some a) (h2 : l[i + 1]? = some b) : l = l.take i ++ a :: b :: l.drop (i + 2) := by
  have e := split_at h
  have h3 : (l.drop (i + 1))[0]? = some b := by rw [List.getElem?_drop]; exact h2
  have e2 : l.drop (i + 1) = b :: l.drop (i + 2) := by
    have := split_at h2
    obtain ⟨hi, he⟩ := List.getElem?_eq_some_iff.1 h2
    rw [← he, List.getElem_cons_drop]
  rw [e2] at e
  exact e
theorem set_two {l : List Pa} {i : Nat} {a b : Pa} (h : l[i]? = some a) (h2 : l[i + 1]? = some b) (a' b' : Pa) : (l.set i a').set (i + 1) b' = l.take i ++ a' :: b' :: l.drop (i + 2) := by
  have hi := (List.getElem?_eq_some_iff.1 h2).1
  have h3 : (l.set i a')[i + 1]? = some b := by rw [List.getElem?_set_ne (by omega)]; exact h2
  rw [set_at h3 b', set_at h a']
  have hl : (l.take i).length = i := by simp; omega
  rw [List.take_append, hl, show i + 1 - i = 1 by omega, List.take_of_length_le (by omega : (l.take i).length ≤ i + 1), List.drop_append, hl, List.drop_of_length_le (by omega : (l.take i).length ≤ i + 1 + 1), show i + 1 + 1 - i = 2 by omega]
  simp only [List.take_succ_cons, List.take_zero, List.drop_succ_cons, List.drop_zero, List.nil_append, List.append_assoc, List.cons_append, List.drop_drop, List.drop_zero]
theorem lineL_two {l : List Pa} {i : Nat} {a b : Pa} (h : l[i]? = some a) (h2 : l[i + 1]? = some b) (a' b' : Pa) (hc : cat b'.s.c.1 ++ cat a'.s.c.1 = cat b.s.c.1 ++ cat a.s.c.1) : lineL ((l.set i a').set (i + 1) b') = lineL l := by
  have h1 := congrArg lineL (split_two h h2)
  rw [set_two h h2]
  rw [h1]
  simp only [lineL_append, lineL]
  rw [ByteArray.append_assoc (a := lineL (List.drop (i + 2) l)), hc, ← ByteArray.append_assoc (a := lineL (List.drop (i + 2) l))]
theorem drain_nil : ∀ (l : List Pa), lineL (l.map drainA) = ⟨#[]⟩
  | [] => rfl
  | a :: r => by
    simp only [List.map_cons, lineL, drain_nil r]
    rfl
theorem lineL_lose (n : Nat) (l : List Pa) : lineL (loseL n l) ++ lineL (l.take n) = lineL l := by
  unfold loseL
  rw [lineL_append, drain_nil, app_nil, ← lineL_append, List.take_append_drop]
theorem loseL_length (n : Nat) (l : List Pa) : (loseL n l).length = l.length := by
  unfold loseL
  rw [List.length_append, List.length_map, ← List.length_append, List.take_append_drop]
def Flow (x : Ch) (i : ByteArray) (o : ByteArray) (y : Ch) : Prop := ∃ L : ByteArray, lineL x.l ++ i = o ++ lineL y.l ++ L ∧ y.lost = x.lost + L.size ∧ (0 < L.size → y.shut = true) ∧ (x.shut = true → y.shut = true)
theorem Flow.same {x y : Ch} (h : lineL y.l = lineL x.l) (h1 : y.lost = x.lost) (h2 : x.shut = true → y.shut = true) : Flow x ⟨#[]⟩ ⟨#[]⟩ y :=
  ⟨⟨#[]⟩, by rw [h, app_nil, nil_app, app_nil], by rw [h1]; exact (Int.add_zero _).symm, fun e => absurd e (by decide), h2⟩
theorem Flow.trans {x y z : Ch} (h : Flow x ⟨#[]⟩ ⟨#[]⟩ y) (k : Flow y ⟨#[]⟩ ⟨#[]⟩ z) : Flow x ⟨#[]⟩ ⟨#[]⟩ z := by
  obtain ⟨L, h1, h2, h3, h4⟩ := h
  obtain ⟨M, k1, k2, k3, k4⟩ := k
  rw [app_nil, nil_app] at h1 k1
  refine ⟨M ++ L, ?_, ?_, ?_, fun e => k4 (h4 e)⟩
  · rw [app_nil, nil_app, h1, k1, ByteArray.append_assoc]
  · rw [k2, h2, ByteArray.size_append]; omega
  · intro e
    rw [ByteArray.size_append] at e
    by_cases z : 0 < M.size
    · exact k3 z
    · exact k4 (h3 (by omega))
theorem flow_lose (n : Nat) (x : Ch) : Flow x ⟨#[]⟩ ⟨#[]⟩ (loseC n x) :=
  ⟨lineL (x.l.take n), by rw [app_nil, nil_app]; exact (lineL_lose n x.l).symm, by rw [lineL_size]; rfl, fun _ => rfl, fun _ => rfl⟩
theorem flow_break (x : Ch) : Flow x ⟨#[]⟩ ⟨#[]⟩ (breakC x) := by
  unfold breakC
  split
  · exact Flow.same rfl rfl id
  · obtain ⟨L, h1, h2, h3, h4⟩ := flow_lose x.l.length x
    exact ⟨L, h1, h2, h3, h4⟩
theorem move_line (now : Int) (j : Nat) (l : List Pa) : lineL (moveAt now j l) = lineL l ∧ (moveAt now j l).length = l.length := by
  unfold moveAt
  split
  · rename_i a b ha hb
    split
    · rename_i hz
      refine ⟨lineL_two ha hb _ _ ?_, by simp⟩
      show cat (forceP (lookP b.s now) now _).c.1 ++ cat (takeS a.s now _).c.1 = _
      rw [cat_force, look_idem, if_neg (fun e => e hz), ByteArray.append_assoc, cat_take_]
      rfl
    · exact ⟨lineL_set_same hb _ rfl, by simp⟩
  · exact ⟨rfl, rfl⟩
theorem moves_line (now : Int) : ∀ (m : Nat) (l : List Pa), lineL (moves now m l) = lineL l ∧ (moves now m l).length = l.length
  | 0, l => ⟨rfl, rfl⟩
  | m + 1, l => by
    have h1 := moves_line now m l
    have h2 := move_line now m (moves now m l)
    exact ⟨h2.1.trans h1.1, h2.2.trans h1.2⟩
theorem flow_set (x : Ch) {i : Nat} {a : Pa} (h : x.l[i]? = some a) (b : Pa) (hc : cat b.s.c.1 = cat a.s.c.1) : Flow x ⟨#[]⟩ ⟨#[]⟩ { x with l := x.l.set i b } :=
  Flow.same (lineL_set_same h b hc) rfl id
theorem lose_get {l : List Pa} {n i : Nat} (h : n ≤ i) : (loseL n l)[i]? = l[i]? := by
  unfold loseL
  by_cases hn : n ≤ l.length
  · rw [List.getElem?_append_right (by simp; omega), List.getElem?_drop]
    congr 1
    simp; omega
  · rw [List.getElem?_eq_none (by simp; omega), List.getElem?_eq_none (by omega)]
theorem flow_shut (now : Int) (j : Nat) (x : Ch) : Flow x ⟨#[]⟩ ⟨#[]⟩ (shutAt now j x) ∧ (shutAt now j x).l.length = x.l.length := by
  unfold shutAt
  split
  · rename_i a b ha hb
    split
    · have h1 := flow_set x ha (lookA now a) rfl
      have h2 := flow_lose (j + 1) { x with l := x.l.set j (lookA now a) }
      have hb2 : (loseL (j + 1) (x.l.set j (lookA now a)))[j + 1]? = some b := by
        rw [lose_get (Nat.le_refl _), List.getElem?_set_ne (by omega)]; exact hb
      have h3 := flow_set (loseC (j + 1) { x with l := x.l.set j (lookA now a) }) hb2 (endA now b) (by rw [endA_c])
      exact ⟨(h1.trans h2).trans h3, by simp [loseC, loseL_length]⟩
    · exact ⟨flow_set x ha (lookA now a) rfl, by simp⟩
  · exact ⟨Flow.same rfl rfl id, rfl⟩
theorem flow_shuts (now : Int) : ∀ (m : Nat) (x : Ch), Flow x ⟨#[]⟩ ⟨#[]⟩ (shuts now m x) ∧ (shuts now m x).l.length = x.l.length
  | 0, x => ⟨Flow.same rfl rfl id, rfl⟩
  | m + 1, x => by
    have h1 := flow_shuts now m x
    have h2 := flow_shut now m (shuts now m x)
    exact ⟨h1.1.trans h2.1, h2.2.trans h1.2⟩
theorem look_map (now : Int) : ∀ (l : List Pa), lineL (l.map (lookA now)) = lineL l
  | [] => rfl
  | a :: r => by simp only [List.map_cons, lineL, look_map now r]; rfl
theorem flow_last (now : Int) (x : Ch) : Flow x ⟨#[]⟩ ⟨#[]⟩ (lastC now x) ∧ (lastC now x).l.length = x.l.length := by
  unfold lastC
  split
  · rename_i a ha
    obtain ⟨L, h1, h2, h3, h4⟩ := flow_set x ha (lookA now a) rfl
    exact ⟨⟨L, h1, h2, h3, h4⟩, by simp⟩
  · exact ⟨Flow.same rfl rfl id, rfl⟩
theorem flow_step (now : Int) (x : Ch) : Flow x ⟨#[]⟩ ⟨#[]⟩ (stepC now x) := by
  unfold stepC
  split
  · exact Flow.same rfl rfl id
  split
  · exact (Flow.same (y := { x with l := x.l.map (lookA now) }) (look_map now x.l) rfl id).trans (flow_break _)
  · refine (Flow.same (x := x) (y := { x with l := moves now (x.l.length - 1) (x.l.map (lookA now)) }) ?_ rfl id).trans ((flow_shuts now _ _).1.trans (flow_last now _).1)
    exact (moves_line now _ _).1.trans (look_map now x.l)
theorem flow_close (x : Ch) (now : Int) : Flow x ⟨#[]⟩ ⟨#[]⟩ (closeC x now) := by
  unfold closeC
  split
  · split
    · rename_i a ha
      exact Flow.same (lineL_set_same ha _ (by rw [endA_c])) rfl (fun _ => rfl)
    · exact Flow.same rfl rfl id
  · exact Flow.same rfl rfl id
theorem flow_put (x : Ch) (now : Int) (b : ByteArray) : Flow x (b.extract 0 (putCN x now b)) ⟨#[]⟩ (putC x now b) := by
  unfold putC putCN
  have h0 : b.extract 0 0 = ⟨#[]⟩ := by apply empty_of; simp [ByteArray.size_extract]
  by_cases hc : x.shut = true ∨ x.state ≠ 0
  · rw [if_pos hc, if_pos hc, h0]
    exact Flow.same rfl rfl id
  · rw [if_neg hc, if_neg hc]
    split
    · rename_i a ha
      refine ⟨⟨#[]⟩, ?_, (Int.add_zero _).symm, fun e => absurd e (by decide), id⟩
      rw [nil_app, app_nil]
      have h1 := congrArg lineL (split_at ha)
      rw [set_at ha, h1]
      simp only [List.take_zero, List.nil_append, lineL, cat_put, ByteArray.append_assoc]
    · rw [h0]
      exact Flow.same rfl rfl id
theorem flow_take (x : Ch) (now most : Int) : Flow x ⟨#[]⟩ (takeCB x now most) (takeC x now most) := by
  unfold takeC takeCB
  by_cases hc : x.state = 2
  · rw [if_pos hc, if_pos hc]
    exact Flow.same rfl rfl id
  · rw [if_neg hc, if_neg hc]
    split
    · rename_i a ha
      refine ⟨⟨#[]⟩, ?_, (Int.add_zero _).symm, fun e => absurd e (by decide), id⟩
      rw [app_nil, app_nil]
      have hd : x.l.drop (x.l.length - 1 + 1) = [] := List.drop_of_length_le (by omega)
      have h1 := congrArg lineL (split_at ha)
      rw [set_at ha, h1, hd]
      simp only [lineL_append, lineL, nil_app]
      rw [← ByteArray.append_assoc, cat_take_]
    · exact Flow.same rfl rfl id
theorem flow_ins (x : Ch) (at_ : Int) (t : Tox) (seed now : Int) : Flow x ⟨#[]⟩ ⟨#[]⟩ (insC x at_ t seed now) := by
  unfold insC
  split
  · exact Flow.same rfl rfl id
  split
  · refine Flow.same ?_ rfl id
    rename_i b hb
    have hn : (newS t seed x.room now).c = ([], 0) := by unfold newS; split <;> rfl
    have e : ∀ y : Pa, cat y.s.c.1 = ⟨#[]⟩ → lineL (x.l.take (at_.toNat + 1) ++ y :: x.l.drop (at_.toNat + 1)) = lineL x.l := by
      intro y hy
      rw [lineL_append]
      simp only [lineL, hy, app_nil]
      rw [← lineL_append, List.take_append_drop]
    apply e
    split
    · rw [endA_c]; show cat (newS t seed x.room now).c.1 = _; rw [hn]; rfl
    · show cat (newS t seed x.room now).c.1 = _; rw [hn]; rfl
  · exact Flow.same rfl rfl id
theorem flow_upd (x : Ch) (at_ : Int) (t : Tox) (now : Int) : Flow x ⟨#[]⟩ ⟨#[]⟩ (updC x at_ t now) := by
  unfold updC
  split
  · split
    · rename_i a ha
      exact flow_set x ha _ (by rw [show (Pa.s ⟨updS a.s t now, a.cl⟩) = updS a.s t now from rfl, (upd_c a.s t now).1])
    · exact Flow.same rfl rfl id
  · exact Flow.same rfl rfl id
theorem flow_rem (x : Ch) (i : Nat) (now : Int) : Flow x ⟨#[]⟩ ⟨#[]⟩ (remAt x i now) := by
  unfold remAt
  split
  · rename_i p q hp hq
    dsimp only
    have hcf := cat_force q.s now (cat p.s.c.1)
    have hhq : held (forceP q.s now (cat p.s.c.1)) = (cat (forceP q.s now (cat p.s.c.1)).c.1).size := held_cat _
    have hq0 : held q.s = (cat q.s.c.1).size := held_cat _
    have hp0 : held p.s = (cat p.s.c.1).size := held_cat _
    have hi := (List.getElem?_eq_some_iff.1 hq).1
    have hlen : (x.l.take i).length = i := by simp; omega
    -- what the row is behind it, for any first part
    have hrow : ∀ (A : List Pa) (p' q' q2 : Pa), A.length = i → ((A ++ p' :: q' :: x.l.drop (i + 2)).set (i + 1) q2).eraseIdx i = A ++ q2 :: x.l.drop (i + 2) := by
      intro A p' q' q2 hA
      rw [List.set_append, if_neg (by omega), show i + 1 - A.length = 1 by omega]
      simp only [List.set_cons_succ, List.set_cons_zero]
      rw [List.eraseIdx_append_of_length_le (by omega), show i - A.length = 0 by omega]
      simp
    have hl1 : (x.l.set i (drainA p)).set (i + 1) ⟨forceP q.s now (cat p.s.c.1), q.cl⟩ = x.l.take i ++ drainA p :: ⟨forceP q.s now (cat p.s.c.1), q.cl⟩ :: x.l.drop (i + 2) := set_two hp hq _ _
    have hline : lineL x.l = lineL (x.l.drop (i + 2)) ++ cat q.s.c.1 ++ cat p.s.c.1 ++ lineL (x.l.take i) := by
      have h1 := congrArg lineL (split_two hp hq)
      rw [h1]
      simp only [lineL_append, lineL]
    have hend : ∀ (c : Bool) (a : Pa), cat (if c = true then endA now a else a).s.c.1 = cat a.s.c.1 := by
      intro c a
      split
      · rw [endA_c]
      · rfl
    rw [hl1]
    by_cases hg : (0 : Int) < (held p.s : Int) - ((held (forceP q.s now (cat p.s.c.1)) : Int) - held q.s)
    · rw [if_pos hg, if_pos hg, if_pos hg]
      have hst : (lookP q.s now).state ≠ 0 := by
        intro e
        rw [if_neg (fun h => h e)] at hcf
        rw [hcf, ByteArray.size_append] at hhq
        omega
      rw [if_pos hst] at hcf
      have hlose : loseL i (x.l.take i ++ drainA p :: ⟨forceP q.s now (cat p.s.c.1), q.cl⟩ :: x.l.drop (i + 2)) = (x.l.take i).map drainA ++ drainA p :: ⟨forceP q.s now (cat p.s.c.1), q.cl⟩ :: x.l.drop (i + 2) := by
        unfold loseL
        rw [List.take_append_of_le_length (by omega), List.drop_append_of_le_length (by omega), List.take_of_length_le (by omega), List.drop_of_length_le (by omega), List.nil_append]
      rw [hlose, hrow _ _ _ _ (by simp; omega)]
      refine ⟨cat p.s.c.1 ++ lineL (x.l.take i), ?_, ?_, fun _ => rfl, fun _ => rfl⟩
      · rw [app_nil, nil_app]
        show lineL x.l = lineL ((x.l.take i).map drainA ++ _ :: x.l.drop (i + 2)) ++ _
        rw [lineL_append, drain_nil, app_nil]
        simp only [lineL]
        rw [hend, show cat (Pa.s ⟨forceP q.s now (cat p.s.c.1), q.cl⟩).c.1 = cat q.s.c.1 from hcf, hline]
        simp only [ByteArray.append_assoc]
      · show x.lost + ((held p.s : Int) - ((held (forceP q.s now (cat p.s.c.1)) : Int) - held q.s)) + (heldL ((x.l.take i ++ drainA p :: ⟨forceP q.s now (cat p.s.c.1), q.cl⟩ :: x.l.drop (i + 2)).take i) : Int) = _
        rw [List.take_append_of_le_length (by omega), List.take_of_length_le (by omega : (x.l.take i).length ≤ i), ByteArray.size_append, lineL_size]
        rw [hcf] at hhq
        omega
    · rw [if_neg hg, if_neg hg, if_neg hg]
      rw [hrow _ _ _ _ hlen]
      refine Flow.same ?_ rfl id
      show lineL (x.l.take i ++ _ :: x.l.drop (i + 2)) = lineL x.l
      rw [lineL_append]
      simp only [lineL]
      rw [hend, hline]
      have : cat (Pa.s ⟨forceP q.s now (cat p.s.c.1), q.cl⟩).c.1 = cat q.s.c.1 ++ cat p.s.c.1 := by
        show cat (forceP q.s now (cat p.s.c.1)).c.1 = _
        by_cases hst : (lookP q.s now).state ≠ 0
        · rw [if_pos hst] at hcf
          rw [hcf] at hhq ⊢
          have : cat p.s.c.1 = ⟨#[]⟩ := empty_of (by omega)
          rw [this, app_nil]
        · rw [if_neg hst] at hcf; exact hcf
      rw [this]
      simp only [ByteArray.append_assoc]
  · exact Flow.same rfl rfl id
theorem flow_remC (x : Ch) (at_ now : Int) : Flow x ⟨#[]⟩ ⟨#[]⟩ (remC x at_ now) := by
  unfold remC
  split
  · exact flow_rem x _ now
  · exact Flow.same rfl rfl id
end Go.Proofs.YtnkgjnmhiedfoaaGreat.Chain
namespace Go.Proofs.YtnkgjnmhiedfoaaGreat.Chain
open Go.RowKit Mem Tick Cargo Toxic Stage
set_option maxRecDepth 100000
set_option linter.unusedVariables false
set_option linter.unusedSimpArgs false
structure Pt where
  p : Nat
  b : Nat
  k : Nat
structure Lay where
  r : Nat
  cap : Nat
  ps : List Pt
abbrev ptr (b : Nat) : Value := .pointer (some ⟨b, 0, none⟩)
def PG (w : World) (H : Nat → Prop) (t : Pt) (a : Pa) : Prop :=
  ∃ G, Blk w t.p 103 #[ptr t.b, .bool a.cl] ∧ SG w G t.b t.k a.s ∧ ∀ j, H j ↔ (j = t.p ∨ G j)
abbrev pts : List TypeId := [103, 123, 144, 146]
abbrev cts : List TypeId := [106, 101, 103, 123, 144, 146]
variable {w w' : World} {F H : Nat → Prop} {t : Pt} {a : Pa} {c : Nat} {D : Lay} {x : Ch}
theorem PG.typed (h : PG w H t a) : Typed w H pts := by
  obtain ⟨G, hb, hs, hH⟩ := h
  intro j hj
  rcases (hH j).1 hj with rfl | hg
  · exact ⟨_, by simp, _, hb⟩
  · obtain ⟨t, ht, cs, hb⟩ := hs.typed j hg
    exact ⟨t, List.mem_cons_of_mem _ ht, cs, hb⟩
theorem PG.kept (h : PG w H t a) (hk : ∀ j, H j → w'.heap[j]? = w.heap[j]?) : PG w' H t a := by
  obtain ⟨G, hb, hs, hH⟩ := h
  exact ⟨G, (hk _ ((hH _).2 (.inl rfl))).trans hb, hs.kept fun j hj => hk j ((hH j).2 (.inr hj)), hH⟩
theorem PG.blk (h : PG w H t a) : Blk w t.p 103 #[ptr t.b, .bool a.cl] := by obtain ⟨G, hb, _⟩ := h; exact hb
theorem PG.step (h : PG w H t a) : ∃ G, SG w G t.b t.k a.s ∧ (∀ j, G j → H j) ∧ ∀ (w' : World) (G' : Nat → Prop) (s' : Sg), SG w' G' t.b t.k s' → Did G w w' → Stem G G' w → ∃ H', PG w' H' t ⟨s', a.cl⟩ ∧ Did H w w' ∧ Stem H H' w ∧ ∀ j, H' j → H j ∨ G' j := by
  obtain ⟨G, hb, hs, hH⟩ := h
  refine ⟨G, hs, fun j hj => (hH j).2 (.inr hj), fun w' G' s' hs' hd hst => ⟨fun j => j = t.p ∨ G' j, ⟨G', hb.did hd (hs.typed.out hb (by decide)), hs', fun j => Iff.rfl⟩, hd.more fun j hj => .inl ((hH j).2 (.inr hj)), (fun j hj => ?_), fun j hj => hj.imp (fun e => (hH j).2 (.inl e)) id⟩⟩
  rcases hj with rfl | hj
  · exact .inl ((hH _).2 (.inl rfl))
  · exact (hst j hj).imp (fun h => (hH j).2 (.inr h)) id
theorem PG.shut (h : PG w H t a) (v : Bool) : PG (w.setCell ⟨t.p, 1, none⟩ (.bool v)) H t ⟨a.s, v⟩ ∧ H t.p := by
  obtain ⟨G, hb, hs, hH⟩ := h
  refine ⟨⟨G, hb.set_ 1 (.bool v), hs.kept fun j hj => Below.heap_setCell _ _ _ j ?_, hH⟩, (hH _).2 (.inl rfl)⟩
  rintro rfl
  exact hs.typed.out hb (by decide) hj
def ccells (D : Lay) (x : Ch) : Array Value := #[.slice (some ⟨D.r, 0, none⟩) x.l.length D.cap, .int .i64 x.room, .int .i64 x.lost, .bool x.shut, .int .i64 x.state]
def Rw (w : World) (D : Lay) : Prop := ∃ cs, Blk w D.r 101 cs ∧ cs.size = D.cap ∧ ∀ (i : Nat) (t : Pt), D.ps[i]? = some t → cs[i]? = some (ptr t.p)
structure CHG (w : World) (F : Nat → Prop) (c : Nat) (D : Lay) (x : Ch) (H : Nat → Nat → Prop) : Prop where
  blk : Blk w c 106 (ccells D x)
  row : Rw w D
  len : D.ps.length = x.l.length
  part : ∀ (i : Nat) (t : Pt) (a : Pa), D.ps[i]? = some t → x.l[i]? = some a → PG w (H i) t a
  apart : ∀ (i j : Nat), i < x.l.length → j < x.l.length → i ≠ j → ∀ y, H i y → ¬ H j y
  own : ∀ j, F j ↔ (j = c ∨ j = D.r ∨ ∃ i, i < x.l.length ∧ H i j)
def CH (w : World) (F : Nat → Prop) (c : Nat) (D : Lay) (x : Ch) : Prop := ∃ H, CHG w F c D x H
theorem CHG.at_ {H : Nat → Nat → Prop} (h : CHG w F c D x H) {i : Nat} (hi : i < x.l.length) : ∃ t a, D.ps[i]? = some t ∧ x.l[i]? = some a ∧ PG w (H i) t a := by
  have h1 : i < D.ps.length := by rw [h.len]; exact hi
  exact ⟨_, _, List.getElem?_eq_getElem h1, List.getElem?_eq_getElem hi, h.part i _ _ (List.getElem?_eq_getElem h1) (List.getElem?_eq_getElem hi)⟩
theorem CH.typed (h : CH w F c D x) : Typed w F cts := by
  obtain ⟨H, h⟩ := h
  intro j hj
  rcases (h.own j).1 hj with rfl | rfl | ⟨i, hi, hg⟩
  · exact ⟨_, by simp, _, h.blk⟩
  · obtain ⟨cs, hb, _⟩ := h.row
    exact ⟨_, by simp, _, hb⟩
  · obtain ⟨t, a, _, _, hp⟩ := h.at_ hi
    obtain ⟨ty, ht, cs, hb⟩ := hp.typed j hg
    exact ⟨ty, List.mem_cons_of_mem _ (List.mem_cons_of_mem _ ht), cs, hb⟩
theorem CH.lt (h : CH w F c D x) {j : Nat} (hj : F j) : j < w.heap.size := h.typed.lt hj
theorem CH.mine (h : CH w F c D x) : F c := by obtain ⟨H, h⟩ := h; exact (h.own c).2 (.inl rfl)
theorem CH.kept (h : CH w F c D x) (hk : ∀ j, F j → w'.heap[j]? = w.heap[j]?) : CH w' F c D x := by
  obtain ⟨H, h⟩ := h
  obtain ⟨cs, hb, hr⟩ := h.row
  refine ⟨H, (hk _ ((h.own _).2 (.inl rfl))).trans h.blk, ⟨cs, (hk _ ((h.own _).2 (.inr (.inl rfl)))).trans hb, hr⟩, h.len, fun i t a ht ha => (h.part i t a ht ha).kept fun j hj => hk j ((h.own j).2 (.inr (.inr ⟨i, ?_, hj⟩))), h.apart, h.own⟩
  exact (List.getElem?_eq_some_iff.1 ha).1
theorem CH.below (h : CH w F c D x) (hb : Below w.heap.size w w') : CH w' F c D x := h.kept fun j hj => hb.block j (h.lt hj)
theorem CH.drew (h : CH w F c D x) : CH w.drew F c D x := h.kept fun _ _ => rfl
theorem CH.blk (h : CH w F c D x) : Blk w c 106 (ccells D x) := by obtain ⟨H, h⟩ := h; exact h.blk
theorem CH.pt (h : CH w F c D x) {i : Nat} {a : Pa} (hi : x.l[i]? = some a) : ∃ t, D.ps[i]? = some t := by
  obtain ⟨H, h⟩ := h
  obtain ⟨t, _, ht, _⟩ := h.at_ (List.getElem?_eq_some_iff.1 hi).1
  exact ⟨t, ht⟩
theorem CH.len (h : CH w F c D x) : D.ps.length = x.l.length := by obtain ⟨H, h⟩ := h; exact h.len
theorem CH.cap (h : CH w F c D x) : x.l.length ≤ D.cap := by
  obtain ⟨H, h⟩ := h
  obtain ⟨cs, hb, hc, hr⟩ := h.row
  by_cases hz : x.l.length = 0
  · omega
  · have hi : x.l.length - 1 < D.ps.length := by rw [h.len]; omega
    have := hr _ _ (List.getElem?_eq_getElem hi)
    have := (Array.getElem?_eq_some_iff.1 this).1
    omega
theorem CH.rcell (h : CH w F c D x) {i : Nat} {t : Pt} (ht : D.ps[i]? = some t) : w.cell? ⟨D.r, i, none⟩ = some (ptr t.p) := by
  obtain ⟨H, h⟩ := h
  obtain ⟨cs, hb, hc, hr⟩ := h.row
  exact (hb.cell i).trans (hr i t ht)
theorem CH.pcell (h : CH w F c D x) {i : Nat} {t : Pt} {a : Pa} (ht : D.ps[i]? = some t) (hi : x.l[i]? = some a) : w.cell? ⟨t.p, 0, none⟩ = some (ptr t.b) ∧ w.cell? ⟨t.p, 1, none⟩ = some (.bool a.cl) := by
  obtain ⟨H, h⟩ := h
  have hb := (h.part i t a ht hi).blk
  exact ⟨hb.cell 0, hb.cell 1⟩
theorem CH.scell (h : CH w F c D x) {i : Nat} {t : Pt} {a : Pa} (ht : D.ps[i]? = some t) (hi : x.l[i]? = some a) : w.cell? ⟨t.b, 0, none⟩ = some (ptr t.k) := by
  obtain ⟨H, h⟩ := h
  obtain ⟨G, _, hs, _⟩ := h.part i t a ht hi
  exact (hs.blk.cell 0).trans rfl
theorem CH.step (h : CH w F c D x) {i : Nat} {t : Pt} {a : Pa} (ht : D.ps[i]? = some t) (hi : x.l[i]? = some a) :
    ∃ Hi, PG w Hi t a ∧ (∀ j, Hi j → F j) ∧ ∀ (w' : World) (H' : Nat → Prop) (a' : Pa), PG w' H' t a' → Did Hi w w' → Stem Hi H' w → ∃ F', CH w' F' c D { x with l := x.l.set i a' } ∧ Did F w w' ∧ Stem F F' w ∧ ∀ j, F' j → F j ∨ H' j := by
  have hty := h.typed
  obtain ⟨H, h⟩ := h
  have hlt := (List.getElem?_eq_some_iff.1 hi).1
  have hF : ∀ j, H i j → F j := fun j hj => (h.own j).2 (.inr (.inr ⟨i, hlt, hj⟩))
  have hP := h.part i t a ht hi
  refine ⟨H i, hP, hF, fun w' H' a' hP' hd hst => ?_⟩
  obtain ⟨cs, hb, hr⟩ := h.row
  refine ⟨fun j => j = c ∨ j = D.r ∨ ∃ m, m < x.l.length ∧ (if m = i then H' j else H m j), ⟨fun m j => if m = i then H' j else H m j, ⟨?_, ⟨cs, hb.did hd (hP.typed.out hb (by decide)), hr⟩, by rw [List.length_set]; exact h.len, ?_, ?_, ?_⟩⟩, hd.more fun j hj => .inl (hF j hj), ?_, ?_⟩
  · have e : ccells D { x with l := x.l.set i a' } = ccells D x := by simp [ccells]
    rw [e]
    exact h.blk.did hd (hP.typed.out h.blk (by decide))
  · intro m t' b ht' hm
    by_cases e : m = i
    · subst e
      have e1 : t' = t := Option.some.inj (ht'.symm.trans ht)
      have e2 : a' = b := by
        have : (x.l.set m a')[m]? = some a' := by rw [List.getElem?_set_self hlt]
        exact Option.some.inj (this.symm.trans hm)
      subst e1 e2
      simpa using hP'
    · have hm' : x.l[m]? = some b := by rw [← hm]; exact (List.getElem?_set_ne (fun q => e q.symm)).symm
      have hml := (List.getElem?_eq_some_iff.1 hm').1
      have hp := h.part m t' b ht' hm'
      simp only [e, if_false]
      exact hp.kept fun j hj => hd.block j (hp.typed.lt hj) (h.apart m i hml hlt e j hj)
  · intro m m' hm hm' hne y hy
    rw [List.length_set] at hm hm'
    by_cases e : m = i
    · subst e
      rw [if_pos rfl] at hy
      rw [if_neg (fun q => hne q.symm)]
      intro hy'
      rcases hst y hy with q | q
      · exact h.apart m m' hm hm' hne y q hy'
      · obtain ⟨t2, b2, _, _, hp2⟩ := h.at_ hm'
        have := hp2.typed.lt hy'
        omega
    · rw [if_neg e] at hy
      by_cases e2 : m' = i
      · subst e2
        rw [if_pos rfl]
        intro hy'
        rcases hst y hy' with q | q
        · exact h.apart m m' hm hm' hne y hy q
        · obtain ⟨t2, b2, _, _, hp2⟩ := h.at_ hm
          have := hp2.typed.lt hy
          omega
      · rw [if_neg e2]
        exact h.apart m m' hm hm' hne y hy
  · intro j
    rw [List.length_set]
  · intro j hj
    rcases hj with rfl | rfl | ⟨m, hm, hj⟩
    · exact .inl ((h.own _).2 (.inl rfl))
    · exact .inl ((h.own _).2 (.inr (.inl rfl)))
    · by_cases e : m = i
      · rw [if_pos e] at hj
        exact (hst j hj).imp (hF j) id
      · rw [if_neg e] at hj
        exact .inl ((h.own j).2 (.inr (.inr ⟨m, hm, hj⟩)))
  · intro j hj
    rcases hj with rfl | rfl | ⟨m, hm, hj⟩
    · exact .inl ((h.own _).2 (.inl rfl))
    · exact .inl ((h.own _).2 (.inr (.inl rfl)))
    · by_cases e : m = i
      · rw [if_pos e] at hj
        exact .inr hj
      · rw [if_neg e] at hj
        exact .inl ((h.own j).2 (.inr (.inr ⟨m, hm, hj⟩)))
theorem CH.set (h : CH w F c D x) (i : Nat) (u : Value) (x' : Ch) (hs : (ccells D x).setIfInBounds i u = ccells D x') (hl : x'.l = x.l) : CH (w.setCell ⟨c, i, none⟩ u) F c D x' ∧ F c := by
  have hm := h.mine
  obtain ⟨H, h⟩ := h
  have hb2 := h.blk.set_ i u
  rw [hs] at hb2
  obtain ⟨cs, hb, hr⟩ := h.row
  have hcr : D.r ≠ c := hb.ne h.blk (by decide)
  refine ⟨⟨H, hb2, ⟨cs, hb.far (by exact hcr) u, hr⟩, by rw [hl]; exact h.len, fun m t a ht ha => ?_, by rw [hl]; exact h.apart, fun j => by rw [hl]; exact h.own j⟩, hm⟩
  rw [hl] at ha
  have hp := h.part m t a ht ha
  refine hp.kept fun j hj => Below.heap_setCell _ _ _ j ?_
  rintro rfl
  exact hp.typed.out h.blk (by decide) hj
def Tu (w : World) (F : Nat → Prop) (w' : World) (c : Nat) (D : Lay) (y : Ch) : Prop := ∃ F', CH w' F' c D y ∧ Did F w w' ∧ Stem F F' w
def TuS (w : World) (F : Nat → Prop) (w' : World) (c : Nat) (D : Lay) (y : Ch) : Prop := ∃ F', CH w' F' c D y ∧ Did F w w' ∧ Stem F F' w ∧ ∀ j, F' j → F j
theorem TuS.off {w w' : World} {F : Nat → Prop} {y : Ch} (hC : CH w F c D x) (h : TuS w F w' c D y) {A : Option Addr} (hn : Newly w A) : ∃ F', CH w' F' c D y ∧ Did F w w' ∧ Stem F F' w ∧ BS.Off A F' := by
  obtain ⟨F', a, b, d, e⟩ := h
  refine ⟨F', a, b, d, fun g o hA hg => ?_⟩
  have h1 := hn g o hA
  have h2 := hC.lt (e g hg)
  omega
theorem CH.stageX (h : CH w F c D x) {i : Nat} {t : Pt} {a : Pa} (ht : D.ps[i]? = some t) (hi : x.l[i]? = some a) :
    ∃ G, SG w G t.b t.k a.s ∧ (∀ j, G j → F j) ∧ ∀ (w' : World) (G' : Nat → Prop) (s' : Sg), SG w' G' t.b t.k s' → Did G w w' → Stem G G' w → Tu w F w' c D { x with l := x.l.set i ⟨s', a.cl⟩ } ∧ ((∀ j, G' j → G j) → TuS w F w' c D { x with l := x.l.set i ⟨s', a.cl⟩ }) := by
  obtain ⟨Hi, hP, hF, hK⟩ := h.step ht hi
  obtain ⟨G, hs, hG, hK2⟩ := hP.step
  refine ⟨G, hs, fun j hj => hF j (hG j hj), fun w' G' s' hs' hd hst => ?_⟩
  obtain ⟨H', hP', hd', hst', hsub⟩ := hK2 w' G' s' hs' hd hst
  obtain ⟨F', h1, h2, h3, h4⟩ := hK w' H' _ hP' hd' hst'
  exact ⟨⟨F', h1, h2, h3⟩, fun hg => ⟨F', h1, h2, h3, fun j hj => (h4 j hj).elim id fun e => (hsub j e).elim (hF j) fun e => hF j (hG j (hg j e))⟩⟩
theorem CH.stage (h : CH w F c D x) {i : Nat} {t : Pt} {a : Pa} (ht : D.ps[i]? = some t) (hi : x.l[i]? = some a) :
    ∃ G, SG w G t.b t.k a.s ∧ (∀ j, G j → F j) ∧ ∀ (w' : World) (G' : Nat → Prop) (s' : Sg), SG w' G' t.b t.k s' → Did G w w' → Stem G G' w → Tu w F w' c D { x with l := x.l.set i ⟨s', a.cl⟩ } := by
  obtain ⟨G, h1, h2, h3⟩ := h.stageX ht hi
  exact ⟨G, h1, h2, fun w' G' s' a b d => (h3 w' G' s' a b d).1⟩
theorem drainS_any {b k : Nat} {s : Sg} (h : SG w F b k s) (ht : held s ≤ 1000000000) :
    Calls Tryz.prog 68 #[.pointer (some ⟨k, 0, none⟩)] w fun e w' => ∃ A cap, e = .returned (.slice A (cat s.c.1).size cap) ∧ BS w' A (cat s.c.1) ∧ Newly w A ∧ ∃ F', SG w' F' b k (drainP s) ∧ Did F w w' ∧ Stem F F' w ∧ ∀ j, F' j → F j := by
  have hm := h.mine
  obtain ⟨G, hB, hC, hF⟩ := h
  unfold held at ht
  have hG := hC.mine
  refine (Cargo.drain_far hC (by omega)).mono fun e w' ⟨A, cap, he, hs, hC', hd, hn⟩ => ⟨A, cap, he, hs, hn, (fun j => j = b ∨ j = k), ?_⟩
  have h1 := SG.cargo (s' := drainP s) hB hC hF hC' hd (fun j hj => by subst hj; exact .inl hG) rfl
  refine ⟨h1.1, h1.2.1, h1.2.2, fun j hj => ?_⟩
  rcases hj with rfl | rfl
  · exact hm
  · exact (hF _).2 (.inr hG)
theorem Tu.below (h : CH w F c D x) (hb : Below w.heap.size w w') : Tu w F w' c D x := ⟨F, h.below hb, Did.of_below hb, Stem.refl _ _⟩
theorem Tu.trans {w1 w2 : World} {y z : Ch} (h : Tu w F w1 c D y) (k : ∀ F', CH w1 F' c D y → Tu w1 F' w2 c D z) : Tu w F w2 c D z := by
  obtain ⟨F', hC, hd, hs⟩ := h
  obtain ⟨F'', hC2, hd2, hs2⟩ := k F' hC
  exact ⟨F'', hC2, hd.trans hs hd2, hs.trans hd.size hs2⟩
theorem Tu.next {w1 w2 : World} {F1 : Nat → Prop} {z : Ch} (hD : Did F w w1) (hS : Stem F F1 w) (k : Tu w1 F1 w2 c D z) : Tu w F w2 c D z := by
  obtain ⟨F'', hC2, hd2, hs2⟩ := k
  exact ⟨F'', hC2, hD.trans hS hd2, hS.trans hD.size hs2⟩
theorem Tu.set {w1 : World} {y : Ch} (h : Tu w F w1 c D y) (i : Nat) (u : Value) (y' : Ch) (hs : (ccells D y).setIfInBounds i u = ccells D y') (hl : y'.l = y.l) : Tu w F (w1.setCell ⟨c, i, none⟩ u) c D y' := by
  obtain ⟨F1, hC, hD, hS⟩ := h
  obtain ⟨h1, h2⟩ := hC.set i u y' hs hl
  exact Tu.next hD hS ⟨F1, h1, (Did.refl F1 w1).setCell (p := ⟨c, i, none⟩) (.inl h2) u, Stem.refl _ _⟩
theorem Tu.start (h : CH w F c D x) : Tu w F w c D x := ⟨F, h, Did.refl _ _, Stem.refl _ _⟩
theorem set_self {l : List Pa} {i : Nat} {a : Pa} (hi : l[i]? = some a) : l.set i a = l := by
  obtain ⟨hl, he⟩ := List.getElem?_eq_some_iff.1 hi
  rw [← he]; exact List.set_getElem_self hl
/-! calls on one stage -/
theorem cs_state (h : CH w F c D x) {i : Nat} (ht : D.ps[i]? = some t) (hi : x.l[i]? = some a) (hq : held a.s ≤ 1000000000) (n : Int) :
    Calls Tryz.prog 83 #[ptr t.b, .int .i64 n] w fun e w' => e = .returned (.int .i64 (lookP a.s n).state) ∧ Tu w F w' c D { x with l := x.l.set i (lookA n a) } := by
  obtain ⟨G, hs, hF, hK⟩ := h.stage ht hi
  exact (state_any hs (by omega) n).mono fun e w' ⟨he, hs', hd⟩ => ⟨he, hK w' G _ hs' hd (Stem.refl _ _)⟩
theorem cs_held (h : CH w F c D x) {i : Nat} (ht : D.ps[i]? = some t) (hi : x.l[i]? = some a) (hq : held a.s ≤ 1000000000) :
    Calls Tryz.prog 69 #[ptr t.b] w fun e w' => e = .returned (.int .i64 (held a.s)) ∧ Below w.heap.size w w' := by
  obtain ⟨G, hs, hF, hK⟩ := h.stage ht hi
  exact held_any hs (by omega)
theorem cs_free (h : CH w F c D x) {i : Nat} (ht : D.ps[i]? = some t) (hi : x.l[i]? = some a) (hq : held a.s ≤ 1000000000) (ho : Ok a.s) :
    Calls Tryz.prog 85 #[ptr t.b] w fun e w' => e = .returned (.int .i64 (free a.s)) ∧ Below w.heap.size w w' := by
  obtain ⟨G, hs, hF, hK⟩ := h.stage ht hi
  have := ho.r0
  have := ho.r1
  exact free_any hs (by omega) (by omega) (by omega)
theorem cs_take (h : CH w F c D x) {i : Nat} (ht : D.ps[i]? = some t) (hi : x.l[i]? = some a) (hq : held a.s ≤ 1000000000) (ho : Ok a.s) (hp : a.s.passed ≤ 1000000000) (n most : Int) :
    Calls Tryz.prog 84 #[ptr t.b, .int .i64 n, .int .i64 most] w fun e w' => ∃ A cap, e = .returned (.slice A (takeB a.s n most).size cap) ∧ BS w' A (takeB a.s n most) ∧ Newly w A ∧ TuS w F w' c D { x with l := x.l.set i ⟨takeS a.s n most, a.cl⟩ } := by
  obtain ⟨G, hs, hF, hK⟩ := h.stageX ht hi
  exact (take_any hs ho.good.1 (ho.fit hp) hq n most).mono fun e w' ⟨A, cap, he, hb, hs', hd, hN⟩ => ⟨A, cap, he, hb, hN, (hK w' G _ hs' hd (Stem.refl _ _)).2 fun _ h => h⟩
theorem cs_force (h : CH w F c D x) {i : Nat} (ht : D.ps[i]? = some t) (hi : x.l[i]? = some a) (ho : Ok a.s) (n : Int) (A : Option Addr) (cap : Nat) (b : ByteArray) (hb : BS w A b) (hoff : BS.Off A F) (hq : held a.s + b.size ≤ 1000000000) :
    Calls Tryz.prog 70 #[ptr t.b, .int .i64 n, .slice A b.size cap] w fun e w' => e = .returned (.tuple #[]) ∧ Tu w F w' c D { x with l := x.l.set i ⟨forceP a.s n b, a.cl⟩ } := by
  obtain ⟨G, hs, hF, hK⟩ := h.stage ht hi
  exact (force_any hs ho.good.1 n A cap b hb (fun g o e hg => hoff g o e (hF g hg)) hq).mono fun e w' ⟨he, G', hs', hd, hst⟩ => ⟨he, hK w' G' _ hs' hd hst⟩
theorem cs_put (h : CH w F c D x) {i : Nat} (ht : D.ps[i]? = some t) (hi : x.l[i]? = some a) (ho : Ok a.s) (n : Int) (A : Option Addr) (cap : Nat) (b : ByteArray) (hc : b.size ≤ cap) (hb : BS w A b) (hoff : BS.Off A F) (hq : held a.s + b.size ≤ 1000000000) :
    Calls Tryz.prog 80 #[ptr t.b, .int .i64 n, .slice A b.size cap] w fun e w' => e = .returned (.int .i64 (putN a.s n b)) ∧ Tu w F w' c D { x with l := x.l.set i ⟨putS a.s n b, a.cl⟩ } := by
  obtain ⟨G, hs, hF, hK⟩ := h.stage ht hi
  have := ho.r0
  have := ho.r1
  exact (put_any hs ho.good.1 n A cap b hc hb (fun g o e hg => hoff g o e (hF g hg)) hq (by omega) (by omega)).mono fun e w' ⟨he, G', hs', hd, hst⟩ => ⟨he, hK w' G' _ hs' hd hst⟩
theorem cs_drain (h : CH w F c D x) {i : Nat} (ht : D.ps[i]? = some t) (hi : x.l[i]? = some a) (hq : held a.s ≤ 1000000000) :
    Calls Tryz.prog 68 #[ptr t.k] w fun e w' => ∃ A cap, e = .returned (.slice A (cat a.s.c.1).size cap) ∧ BS w' A (cat a.s.c.1) ∧ Newly w A ∧ TuS w F w' c D { x with l := x.l.set i (drainA a) } := by
  obtain ⟨G, hs, hF, hK⟩ := h.stageX ht hi
  exact (drainS_any hs hq).mono fun e w' ⟨A, cap, he, hb, hN, G', hs', hd, hst, hsub⟩ => ⟨A, cap, he, hb, hN, (hK w' G' _ hs' hd hst).2 hsub⟩
theorem cs_upd (h : CH w F c D x) {i : Nat} (ht : D.ps[i]? = some t) (hi : x.l[i]? = some a) (hq : held a.s ≤ 1000000000) (ho : Ok a.s) (tx : Tox) (n : Int) :
    Calls Tryz.prog 100 #[ptr t.b, tx.v, .int .i64 n] w fun e w' => e = .returned (.int .i64 (updE a.s tx)) ∧ Tu w F w' c D { x with l := x.l.set i ⟨updS a.s tx n, a.cl⟩ } := by
  obtain ⟨G, hs, hF, hK⟩ := h.stage ht hi
  exact (update_any hs hq tx n ho.k0 ho.k1 ho.bk).mono fun e w' ⟨he, hs', hd⟩ => ⟨he, hK w' G _ hs' hd (Stem.refl _ _)⟩
end Go.Proofs.YtnkgjnmhiedfoaaGreat.Chain
namespace Go.Proofs.YtnkgjnmhiedfoaaGreat.Chain
open Go.RowKit Mem Tick Cargo Toxic Stage
open Go.Proofs.YtnkgjnmhiedfoaaGreatW.PrintLast Pu
set_option maxRecDepth 100000
set_option linter.unusedVariables false
set_option linter.unusedSimpArgs false
variable {w w' : World} {F H : Nat → Prop} {t : Pt} {a : Pa} {c : Nat} {D : Lay} {x : Ch}
structure OkC (x : Ch) (M Q : Int) : Prop where
  two : 2 ≤ x.l.length
  ten : x.l.length ≤ 10
  r0 : 1 ≤ x.room
  r1 : x.room ≤ 4096
  held : (heldL x.l : Int) ≤ M
  lost0 : 0 ≤ x.lost
  lost : x.lost + heldL x.l ≤ M
  ok : ∀ a ∈ x.l, Ok a.s ∧ a.s.passed ≤ Q
def mapK (f : Pa → Pa) (k : Nat) (l : List Pa) : List Pa := (l.take k).map f ++ l.drop k
theorem mapK_get {f : Pa → Pa} {k i : Nat} {l : List Pa} (h : k ≤ i) : (mapK f k l)[i]? = l[i]? := by
  unfold mapK
  by_cases hn : k ≤ l.length
  · rw [List.getElem?_append_right (by simp; omega), List.getElem?_drop]
    congr 1
    simp; omega
  · rw [List.getElem?_eq_none (by simp; omega), List.getElem?_eq_none (by omega)]
theorem mapK_len (f : Pa → Pa) (k : Nat) (l : List Pa) : (mapK f k l).length = l.length := by
  unfold mapK
  rw [List.length_append, List.length_map, ← List.length_append, List.take_append_drop]
theorem take_succ_ {l : List Pa} {k : Nat} {a : Pa} (h : l[k]? = some a) : l.take (k + 1) = l.take k ++ [a] := by
  rw [List.take_add_one, h]; rfl
theorem mapK_set {f : Pa → Pa} {k : Nat} {l : List Pa} {a : Pa} (h : l[k]? = some a) : (mapK f k l).set k (f a) = mapK f (k + 1) l := by
  have hk := (List.getElem?_eq_some_iff.1 h).1
  have hl : ((l.take k).map f).length = k := by simp; omega
  unfold mapK
  rw [List.set_append_right _ _ (by omega), hl, Nat.sub_self, take_succ_ h, List.map_append, List.append_assoc]
  have e : l.drop k = a :: l.drop (k + 1) := by
    obtain ⟨hi, he⟩ := List.getElem?_eq_some_iff.1 h
    rw [← he, List.getElem_cons_drop]
  rw [e]
  rfl
theorem mapK_zero (f : Pa → Pa) (l : List Pa) : mapK f 0 l = l := rfl
theorem mapK_all (f : Pa → Pa) (l : List Pa) : mapK f l.length l = l.map f := by
  unfold mapK
  rw [List.take_length, List.drop_length, List.append_nil]
theorem heldL_succ {l : List Pa} {k : Nat} {a : Pa} (h : l[k]? = some a) : heldL (l.take (k + 1)) = heldL (l.take k) + held a.s := by
  rw [take_succ_ h, heldL_append]; simp [heldL]
theorem heldL_take_le (l : List Pa) (k : Nat) : heldL (l.take k) ≤ heldL l := by
  have := congrArg heldL (List.take_append_drop k l)
  rw [heldL_append] at this
  omega
theorem held_le {l : List Pa} {k : Nat} {a : Pa} (h : l[k]? = some a) : held a.s ≤ heldL l := by
  have h1 := heldL_succ h
  have h2 := heldL_take_le l (k + 1)
  omega
theorem wr_add (p : Int) (n : Nat) (h0 : 0 ≤ p) (h1 : p + n ≤ 1000000000) : wrap64 (p + (n : Int)) = p + (n : Int) := by unfold wrap64; omega
theorem wr_addN (p n : Nat) (h1 : p + n ≤ 1000000000) : wrap64 ((p : Int) + (n : Int)) = ((p + n : Nat) : Int) := by unfold wrap64; omega
theorem end_any (h : PG w H t a) (now : Int) :
    Calls Tryz.prog 65 #[ptr t.p, .int .i64 now] w fun e w' => e = .returned (.tuple #[]) ∧ ∃ H', PG w' H' t (endA now a) ∧ Did H w w' ∧ Stem H H' w := by
  have h1 := h.shut true
  have c1 : w.cell? ⟨t.p, 1, none⟩ = some (.bool a.cl) := h.blk.cell 1
  have f1 := h.blk.free 1
  have c0 : (w.setCell ⟨t.p, 1, none⟩ (.bool true)).cell? ⟨t.p, 0, none⟩ = some (ptr t.b) := h1.1.blk.cell 0
  have hd1 := Lib.hid ((Did.refl H w).setCell (p := ⟨t.p, 1, none⟩) (.inl h1.2) (.bool true))
  obtain ⟨G, hs, hG, hK⟩ := h1.1.step
  have hK' := Lib.hid hK
  have hs' := Lib.hid hs
  clear h h1 hK hs
  go_enter Tryz.func65, Tryz.ntmps65
  go_wp2_with (go_at_call 93; (with_reducible refine (close_any hs'.out now).mono ?_); rintro e w2 ⟨rfl, hS2, hD2⟩; obtain ⟨H', hP, hD3, hS3, _⟩ := hK'.out _ _ _ hS2 hD2 (Stem.refl _ _); have hr := Lib.hid (show PG w2 H' t (endA now a) ∧ Did H w w2 ∧ Stem H H' w from ⟨hP, hd1.out.trans (Stem.refl _ _) hD3, (Stem.refl H w).trans hd1.out.size hS3⟩); clear hS2 hD2 hP hD3 hS3)
  go_end0
  exact ⟨rfl, H', hr.out⟩
theorem cs_end (h : CH w F c D x) {i : Nat} (ht : D.ps[i]? = some t) (hi : x.l[i]? = some a) (n : Int) :
    Calls Tryz.prog 65 #[ptr t.p, .int .i64 n] w fun e w' => e = .returned (.tuple #[]) ∧ Tu w F w' c D { x with l := x.l.set i (endA n a) } := by
  obtain ⟨Hi, hP, hF, hK⟩ := h.step ht hi
  refine (end_any hP n).mono fun e w' ⟨he, H', hP', hd, hst⟩ => ⟨he, ?_⟩
  obtain ⟨F', h1, h2, h3, _⟩ := hK w' H' _ hP' hd hst
  exact ⟨F', h1, h2, h3⟩
theorem cLost_any (h : CH w F c D x) :
    Calls Tryz.prog 51 #[ptr c] w fun e w' => e = .returned (.int .i64 x.lost) ∧ w = w' := by
  have c2 : w.cell? ⟨c, 2, none⟩ = some (.int .i64 x.lost) := (h.blk.cell 2).trans rfl
  clear h
  go_enter Tryz.func51, Tryz.ntmps51
  go_wp2
  go_ret
  exact ⟨rfl, rfl⟩
theorem cHeld_any (h : CH w F c D x) (hm : heldL x.l ≤ 1000000000) (hmx : x.l.length ≤ 10) :
    Calls Tryz.prog 50 #[ptr c] w fun e w' => e = .returned (.int .i64 (heldL x.l)) ∧ Below w.heap.size w w' := by
  have c0 : w.cell? ⟨c, 0, none⟩ = some (.slice (some ⟨D.r, 0, none⟩) x.l.length D.cap) := (h.blk.cell 0).trans rfl
  have hcap := h.cap
  have H := Lib.hid h
  clear h
  go_enter Tryz.func50, Tryz.ntmps50
  go_wp2
  go_loopw [3, 11] (fun nv iv wr => ∃ k : Nat, k ≤ x.l.length ∧ iv = .int .i64 k ∧ nv = .int .i64 (heldL (x.l.take k)) ∧ Below w.heap.size w wr) (fun _ iv _ => x.l.length - (intOf iv).toNat)
  case atStart => exact ⟨0, by omega, rfl, rfl, Below.refl _ _⟩
  case round =>
    obtain ⟨k, hk, rfl, rfl, hB⟩ := hrel
    by_cases hlt : k < x.l.length
    · have hx : x.l[k]? = some x.l[k] := List.getElem?_eq_getElem hlt
      generalize x.l[k] = p at *
      have hsum := Lib.hid (heldL_succ hx)
      have hle := heldL_take_le x.l (k + 1)
      rw [hsum.out] at hle
      have hwr := wr_addN (heldL (x.l.take k)) (held p.s) (by omega)
      have H2 := H.out.below hB
      obtain ⟨t, ht⟩ := H2.pt hx
      have d0 := H2.rcell ht
      have d1 := (H2.pcell ht hx).1
      have hh := Lib.hid (fun hq => cs_held H2 ht hx hq)
      have hpl : held p.s ≤ 1000000000 := by omega
      have hB' := Lib.hid hB
      have hx' := Lib.hid hx
      clear H2 hx ht hB
      generalize hn : x.l.length = n at *
      go_wp2_with (go_at_call 69; (with_reducible refine (hh.out hpl).mono ?_); rintro e w2 ⟨rfl, hB2⟩; have hB2' := Lib.hid (hB'.out.trans (hB2.mono hB'.out.size)); clear hB2)
      go_roundw
      case rel => exact ⟨k + 1, by omega, by go_num, by rw [hsum.out]; rfl, hB2'.out⟩
      case measure => simp [intOf]; omega
    · have hk2 : k = x.l.length := by omega
      subst hk2
      have hnl : ¬ (x.l.length < x.l.length) := by omega
      rw [List.take_length]
      go_wp2
      go_ret
      exact ⟨rfl, hB⟩
theorem wr_less (n : Nat) (h0 : 2 ≤ n) (h1 : n ≤ 10) : wrap64 ((n : Int) - 1) = (n : Int) - 1 := by unfold wrap64; omega
theorem inner_any (h : CH w F c D x) (h2 : 2 ≤ x.l.length) (h10 : x.l.length ≤ 10) :
    Calls Tryz.prog 64 #[ptr c] w fun e w' => e = .returned (.slice (some ⟨D.r, 1, none⟩) (x.l.length - 2) (D.cap - 1)) ∧ Below w.heap.size w w' := by
  have c0 : w.cell? ⟨c, 0, none⟩ = some (.slice (some ⟨D.r, 0, none⟩) x.l.length D.cap) := (h.blk.cell 0).trans rfl
  have hcap := h.cap
  have hwl := wr_less x.l.length h2 h10
  clear h
  generalize x.l.length = n at *
  have hc1 : ¬ D.cap = 1 := by omega
  have hn1 : (1 : Int) ≤ (n : Int) - 1 := by omega
  have hn2 : (n : Int) - 1 ≤ (D.cap : Int) := by omega
  have hn3 : ((n : Int) - 1).toNat = n - 1 := by omega
  go_enter Tryz.func64, Tryz.ntmps64
  go_wp2
  refine start_ (n := 12) (S := fun w' => w'.cell? ⟨c, 0, none⟩ = some (.slice (some ⟨D.r, 0, none⟩) n D.cap)) (ds := []) (m_ 12 0) (by kernel_rfl) rfl (by kernel_rfl) (c0) (fun hHeld => ?_)
  refine pq_ 0 3 12 1 ?_
  refine pq_ 1 4 12 3 ?_
  refine pq_ 2 5 12 7 ?_
  refine pq_ 4 7 12 23 ?_
  refine pq_ 5 8 12 55 ?_
  refine pq_ 6 9 12 119 ?_
  refine tq_ 3 6 12 127 hHeld ?_
  refine tq_ 7 10 12 255 hHeld ?_
  refine pq_ 8 11 12 511 ?_
  refine pq_ 9 12 12 1023 ?_
  refine pq_ 10 13 12 2047 ?_
  refine pq_ 11 2 12 4095 ?_
  refine done_ (by kernel_rfl) ?_
  go_wp2
  go_ret
  exact ⟨rfl, (Below.refl _ _).drew⟩
theorem mem_ok {Q : Int} {l : List Pa} {i : Nat} {a : Pa} (h : ∀ a ∈ l, Ok a.s ∧ a.s.passed ≤ Q) (hi : l[i]? = some a) : Ok a.s ∧ a.s.passed ≤ Q := h a (List.mem_of_getElem? hi)
theorem broken_succ {now : Int} {l : List Pa} {k : Nat} {a : Pa} (h : l[k]? = some a) : brokenB ((l.take (k + 1)).map (lookA now)) = (((lookP a.s now).state == 2) || brokenB ((l.take k).map (lookA now))) := by
  rw [take_succ_ h]
  unfold brokenB
  rw [List.map_append, List.any_append, Bool.or_comm]
  simp [lookA]
theorem cbroken_any (h : CH w F c D x) (now : Int) (hm : heldL x.l ≤ 1000000000) (h10 : x.l.length ≤ 10) :
    Calls Tryz.prog 81 #[ptr c, .int .i64 now] w fun e w' => e = .returned (.bool (brokenB (x.l.map (lookA now)))) ∧ Tu w F w' c D { x with l := x.l.map (lookA now) } := by
  have c0 : w.cell? ⟨c, 0, none⟩ = some (.slice (some ⟨D.r, 0, none⟩) x.l.length D.cap) := (h.blk.cell 0).trans rfl
  have hcap := h.cap
  have H0 := Lib.hid (show Tu w F w c D { x with l := mapK (lookA now) 0 x.l } from ⟨F, h, Did.refl _ _, Stem.refl _ _⟩)
  clear h
  go_enter Tryz.func81, Tryz.ntmps81
  go_wp2
  go_loopw [5, 13] (fun bv iv wr => ∃ k : Nat, k ≤ x.l.length ∧ iv = .int .i64 k ∧ bv = .bool (brokenB ((x.l.take k).map (lookA now))) ∧ Tu w F wr c D { x with l := mapK (lookA now) k x.l }) (fun _ iv _ => x.l.length - (intOf iv).toNat)
  case atStart => exact ⟨0, by omega, rfl, rfl, H0.out⟩
  case round =>
    obtain ⟨k, hk, rfl, rfl, F1, hC, hD, hS⟩ := hrel
    clear H0
    by_cases hlt : k < x.l.length
    · have hx : x.l[k]? = some x.l[k] := List.getElem?_eq_getElem hlt
      generalize x.l[k] = p at *
      have hx1 : (mapK (lookA now) k x.l)[k]? = some p := (mapK_get (Nat.le_refl _)).trans hx
      have hle := held_le hx
      obtain ⟨t, ht⟩ := hC.pt (a := p) hx1
      have d0 := hC.rcell ht
      have d1 := (hC.pcell ht hx1).1
      have hh := Lib.hid (cs_state hC ht hx1 (by omega) now)
      have hset := Lib.hid (mapK_set (f := lookA now) hx)
      have hbs := Lib.hid (broken_succ (now := now) hx)
      have hT := Lib.hid (And.intro hD hS)
      clear hx hx1 ht hC hD hS
      generalize hn : x.l.length = n at *
      generalize brokenB ((x.l.take k).map (lookA now)) = B at *
      go_wp2_with fail
      refine hh.out.mono ?_
      rintro e w2 ⟨rfl, hT2⟩
      have hT3 := Lib.hid (show Tu w F w2 c D { x with l := mapK (lookA now) (k + 1) x.l } from by rw [← hset.out]; exact Tu.next hT.out.1 hT.out.2 hT2)
      clear hT2 hh hT
      by_cases he : (lookP p.s now).state = 2
      · have te : ((lookP p.s now).state == 2) = true := by simpa using he
        have hb : brokenB ((x.l.take (k + 1)).map (lookA now)) = true := by rw [hbs.out, te]; rfl
        have hb' := Lib.hid hb
        clear hb hbs he
        go_wp2
        go_roundw
        case rel => exact ⟨k + 1, by omega, by go_num, by rw [hb'.out], hT3.out⟩
        case measure => simp [intOf]; omega
      · have te : ((lookP p.s now).state == 2) = false := by simpa using he
        have hb : brokenB ((x.l.take (k + 1)).map (lookA now)) = B := by rw [hbs.out, te]; rfl
        have hb' := Lib.hid hb
        clear hb hbs he
        go_wp2
        go_roundw
        case rel => exact ⟨k + 1, by omega, by go_num, by rw [hb'.out], hT3.out⟩
        case measure => simp [intOf]; omega
    · have hk2 : k = x.l.length := by omega
      subst hk2
      have hnl : ¬ (x.l.length < x.l.length) := by omega
      rw [List.take_length]
      rw [mapK_all] at hC
      have hT := Lib.hid (show Tu w F wr c D { x with l := x.l.map (lookA now) } from ⟨F1, hC, hD, hS⟩)
      clear hC hD hS
      go_wp2
      go_ret
      exact ⟨rfl, hT.out⟩
theorem lose_any (h : CH w F c D x) (n : Nat) (hn : n ≤ x.l.length) (cp : Nat) (hnc : n ≤ cp) (h10 : x.l.length ≤ 10) (h0 : 0 ≤ x.lost) (hm : x.lost + heldL x.l ≤ 1000000000) :
    Calls Tryz.prog 71 #[ptr c, .slice (some ⟨D.r, 0, none⟩) n cp] w fun e w' => e = .returned (.tuple #[]) ∧ Tu w F w' c D (loseC n x) := by
  have H0 := Lib.hid (show Tu w F w c D { x with l := mapK drainA 0 x.l, lost := x.lost + heldL (x.l.take 0) } from ⟨F, by rw [mapK_zero, show x.lost + (heldL (x.l.take 0) : Nat) = x.lost from Int.add_zero _]; exact h, Did.refl _ _, Stem.refl _ _⟩)
  clear h
  go_enter Tryz.func71, Tryz.ntmps71
  go_wp2
  go_loopw [8] (fun iv wr => ∃ k : Nat, k ≤ n ∧ iv = .int .i64 k ∧ Tu w F wr c D { x with l := mapK drainA k x.l, lost := x.lost + heldL (x.l.take k) }) (fun iv _ => n - (intOf iv).toNat)
  case atStart => exact ⟨0, by omega, rfl, H0.out⟩
  case round =>
    obtain ⟨k, hk, rfl, F1, hC, hD, hS⟩ := hrel
    clear H0
    by_cases hlt : k < n
    · have hx : x.l[k]? = some x.l[k] := List.getElem?_eq_getElem (by omega)
      generalize x.l[k] = p at *
      have hx1 : (mapK drainA k x.l)[k]? = some p := (mapK_get (Nat.le_refl _)).trans hx
      have hsum := Lib.hid (heldL_succ hx)
      have hle := heldL_take_le x.l (k + 1)
      rw [hsum.out] at hle
      have hcat := held_cat p.s
      have hwr := wr_add (x.lost + heldL (x.l.take k)) (cat p.s.c.1).size (by omega) (by omega)
      obtain ⟨t, ht⟩ := hC.pt (a := p) hx1
      have d0 := hC.rcell ht
      have d1 := (hC.pcell ht hx1).1
      have d2 := hC.scell ht hx1
      have c2 : wr.cell? ⟨c, 2, none⟩ = some (.int .i64 (x.lost + heldL (x.l.take k))) := (hC.blk.cell 2).trans rfl
      have hh := Lib.hid (cs_drain hC.drew ht hx1 (by omega))
      have hset := Lib.hid (mapK_set (f := drainA) hx)
      have hlt2 : k < (mapK drainA k x.l).length := by rw [mapK_len]; omega
      have hx3 : ((mapK drainA k x.l).set k (drainA p))[k]? = some (drainA p) := by rw [List.getElem?_set_self hlt2]
      have hl2 : x.lost + heldL (x.l.take k) + (cat p.s.c.1).size = x.lost + heldL (x.l.take (k + 1)) := by rw [hsum.out, ← hcat]; omega
      have hl2' := Lib.hid hl2
      have hT := Lib.hid (And.intro hD.drew hS)
      have ht' := Lib.hid ht
      have hx3' := Lib.hid hx3
      clear hx hx1 ht hC hD hS hx3 hl2 hsum hcat hlt2
      generalize hLL : x.lost + (heldL (x.l.take k) : Int) = L at *
      go_wp2
      refine start_ (n := 17) (S := fun w' => w'.cell? ⟨c, 2, none⟩ = some (.int .i64 L) ∧ w'.cell? ⟨t.p, 0, none⟩ = some (ptr t.b) ∧ w'.cell? ⟨t.b, 0, none⟩ = some (ptr t.k)) (ds := [16]) (m_ 17 0) (by kernel_rfl) rfl (by kernel_rfl) ⟨c2, d1, d2⟩ (fun hHeld => ?_)
      refine pq_ 0 12 17 1 ?_
      refine pq_ 1 13 17 3 ?_
      refine pq_ 2 14 17 7 ?_
      refine pq_ 4 16 17 23 ?_
      refine pq_ 5 17 17 55 ?_
      refine pq_ 6 18 17 119 ?_
      refine tq_ 3 15 17 127 hHeld ?_
      refine tq_ 7 19 17 255 hHeld ?_
      refine pq_ 8 20 17 511 ?_
      refine pq_ 9 21 17 1023 ?_
      refine tq_ 10 22 17 2047 hHeld ?_
      refine one_ (i := 11) (N := some 23) (m_ 17 4095) rfl rfl (by kernel_rfl) (by decide) (fun K hK => ?_)
      refine goes_ Tryz.func68 (by kernel_rfl) rfl #[ptr t.k] (by rfl) rfl rfl (by simp only [List.map_toArray, List.map_cons, List.map_nil]; rfl) ?_
      with_reducible refine (hh.out).mono ?_
      rintro e w3 ⟨A3, cp3, rfl, hb3, hn3, F3, hC3, hD3, hS3, hF3⟩
      have e2 : w3.cell? ⟨c, 2, none⟩ = some (.int .i64 L) := (hC3.blk.cell 2).trans rfl
      have f2 := hC3.blk.free 2
      have e1 := (hC3.pcell ht'.out hx3'.out).1
      have e3 := hC3.scell ht'.out hx3'.out
      have hb3s : True := trivial
      have hT3 := Lib.hid (Tu.next hT.out.1 hT.out.2 ⟨F3, hC3, hD3, hS3⟩)
      clear hb3 hn3 hC3 hD3 hS3 hF3
      refine ⟨_, rfl, ?_⟩
      refine hK.out _ _ ⟨e2, e1, e3⟩ (fun hHeld => ?_)
      clear hK K
      refine norm_ (a' := ?_) ?_ ?_
      rotate_left
      · show Act.put _ (some 23) _ = _
        simp only [Act.put, List.setIfInBounds_toArray, List.set_cons_zero, List.set_cons_succ, i64_w, i32_w]
        rfl
      refine pq_ 12 24 17 8191 ?_
      refine pq_ 13 25 17 16383 ?_
      refine pq_ 14 26 17 32767 ?_
      refine pq_ 15 27 17 65535 ?_
      refine last_ (i := 16) (N := none) (m_ 17 131071) rfl rfl (by kernel_rfl) (by decide) (fun K hK => ?_)
      refine skip_ (w1 := ?_) (by rfl) rfl ?_ ?_
      rotate_left
      · go_simp
        rfl
      refine hK.out _ _ ?_
      clear hK K
      refine done_ (by kernel_rfl) ?_
      clear hHeld
      have hT4 := Lib.hid (hT3.out.set 2 (.int .i64 (L + ((cat p.s.c.1).size : Int))) { x with l := mapK drainA (k + 1) x.l, lost := x.lost + heldL (x.l.take (k + 1)) } (by rw [hset.out, hl2'.out]; rfl) (by rw [hset.out]))
      clear hT3 hset hl2' hh hT ht' hx3' c2 d0 d1 d2 e1 e2 e3 f2 hb3s
      go_wp2
      go_roundw
      case rel => exact ⟨k + 1, by omega, by go_num, hT4.out⟩
      case measure => simp [intOf]; omega
    · have hk2 : k = n := by omega
      subst hk2
      have hnl : ¬ (k < k) := by omega
      have c3 : wr.cell? ⟨c, 3, none⟩ = some (.bool x.shut) := (hC.blk.cell 3).trans rfl
      have f3 := hC.blk.free 3
      have hset := Lib.hid (hC.set 3 (.bool true) (loseC k x) rfl rfl)
      have hT := Lib.hid (And.intro hD hS)
      clear hC hD hS
      go_wp2
      go_end0
      exact ⟨rfl, Tu.next hT.out.1 hT.out.2 ⟨F1, hset.out.1, (Did.refl F1 wr).setCell (p := ⟨c, 3, none⟩) (.inl hset.out.2) _, Stem.refl _ _⟩⟩
theorem cBreak_any (h : CH w F c D x) (now : Int) (h10 : x.l.length ≤ 10) (h0 : 0 ≤ x.lost) (hm : x.lost + heldL x.l ≤ 1000000000) :
    Calls Tryz.prog 58 #[ptr c, .int .i64 now] w fun e w' => e = .returned (.tuple #[]) ∧ Tu w F w' c D (breakC x) := by
  have c0 : w.cell? ⟨c, 0, none⟩ = some (.slice (some ⟨D.r, 0, none⟩) x.l.length D.cap) := (h.blk.cell 0).trans rfl
  have c4 : w.cell? ⟨c, 4, none⟩ = some (.int .i64 x.state) := (h.blk.cell 4).trans rfl
  have hl := Lib.hid (lose_any h x.l.length (Nat.le_refl _) D.cap h.cap h10 h0 hm)
  have hS := Lib.hid (Tu.start h)
  clear h
  unfold breakC
  by_cases h1 : x.state = 1
  · rw [if_pos h1]
    have t1 : (x.state != 1) = false := by simpa using h1
    clear h1
    go_enter Tryz.func58, Tryz.ntmps58
    go_wp2
    go_end0
    exact ⟨rfl, hS.out⟩
  · rw [if_neg h1]
    have t1 : (x.state != 1) = true := by simpa using h1
    clear h1
    go_enter Tryz.func58, Tryz.ntmps58
    go_wp2_with fail
    refine hl.out.mono ?_
    rintro e w1 ⟨rfl, hT⟩
    have hT4 := Lib.hid (hT.set 4 (.int .i64 2) { loseC x.l.length x with state := 2 } rfl rfl)
    obtain ⟨F1, hC, hD, hS1⟩ := hT
    have d4 : w1.cell? ⟨c, 4, none⟩ = some (.int .i64 x.state) := (hC.blk.cell 4).trans rfl
    have f4 := hC.blk.free 4
    clear hC hD hS1 hl
    go_wp2
    go_end0
    exact ⟨rfl, hT4.out⟩
theorem cClose_any (h : CH w F c D x) (h2 : 2 ≤ x.l.length) (h10 : x.l.length ≤ 10) (now : Int) :
    Calls Tryz.prog 73 #[ptr c, .int .i64 now] w fun e w' => e = .returned (.tuple #[]) ∧ Tu w F w' c D (closeC x now) := by
  have c3 : w.cell? ⟨c, 3, none⟩ = some (.bool x.shut) := (h.blk.cell 3).trans rfl
  have c4 : w.cell? ⟨c, 4, none⟩ = some (.int .i64 x.state) := (h.blk.cell 4).trans rfl
  have f3 := h.blk.free 3
  have hcap := h.cap
  have hS := Lib.hid (Tu.start h)
  have hx : x.l[0]? = some x.l[0] := List.getElem?_eq_getElem (by omega)
  unfold closeC
  rw [hx]
  generalize x.l[0] = p at *
  by_cases h1 : x.state = 0
  · rw [if_pos h1]
    have hT := hS.out.set 3 (.bool true) { x with shut := true } rfl rfl
    obtain ⟨F1, hC, hD, hS1⟩ := hT
    obtain ⟨t, ht⟩ := hC.pt (a := p) hx
    have d0 := hC.rcell ht
    have e0 : (w.setCell ⟨c, 3, none⟩ (.bool true)).cell? ⟨c, 0, none⟩ = some (.slice (some ⟨D.r, 0, none⟩) x.l.length D.cap) := (hC.blk.cell 0).trans rfl
    have hh := Lib.hid (cs_end hC ht hx now)
    have hq := Lib.hid (And.intro hD hS1)
    rw [h1] at c4
    clear h1 h hx hC hD hS1 ht hS
    generalize hn : x.l.length = n at *
    go_enter Tryz.func73, Tryz.ntmps73
    go_wp2_with fail
    refine hh.out.mono ?_
    rintro e w1 ⟨rfl, hT⟩
    have hT' := Lib.hid (Tu.next hq.out.1 hq.out.2 hT)
    clear hT hh hq
    go_wp2
    go_end0
    exact ⟨rfl, hT'.out⟩
  · rw [if_neg h1]
    have t1 : (x.state == 0) = false := by simpa using h1
    clear h1 h hx
    go_enter Tryz.func73, Tryz.ntmps73
    go_wp2
    go_end0
    exact ⟨rfl, hS.out⟩
theorem cPut_any (h : CH w F c D x) {M Q : Int} (ho : OkC x M Q) (now : Int) (A : Option Addr) (cap : Nat) (b : ByteArray) (hc : b.size ≤ cap) (hb : BS w A b) (hoff : BS.Off A F) (hM : M + b.size ≤ 1000000000) :
    Calls Tryz.prog 55 #[ptr c, .int .i64 now, .slice A b.size cap] w fun e w' => e = .returned (.int .i64 (putCN x now b)) ∧ Tu w F w' c D (putC x now b) := by
  have c0 : w.cell? ⟨c, 0, none⟩ = some (.slice (some ⟨D.r, 0, none⟩) x.l.length D.cap) := (h.blk.cell 0).trans rfl
  have c3 : w.cell? ⟨c, 3, none⟩ = some (.bool x.shut) := (h.blk.cell 3).trans rfl
  have c4 : w.cell? ⟨c, 4, none⟩ = some (.int .i64 x.state) := (h.blk.cell 4).trans rfl
  have hS := Lib.hid (Tu.start h)
  have h2 := ho.two
  have h10 := ho.ten
  have hm := ho.held
  have hcap := h.cap
  have hx : x.l[0]? = some x.l[0] := List.getElem?_eq_getElem (by omega)
  unfold putC putCN
  rw [hx]
  generalize x.l[0] = p at *
  have hok := (mem_ok ho.ok hx).1
  have hle := held_le hx
  obtain ⟨t, ht⟩ := h.pt hx
  have d0 := h.rcell ht
  have d1 := (h.pcell ht hx).1
  have hh := Lib.hid (cs_put h ht hx hok now A cap b hc hb hoff (by omega))
  clear h ho hx ht hok hb hoff hm hle hM
  rcases (by cases x.shut <;> simp : x.shut = true ∨ x.shut = false) with hsh | hsh
  · rw [if_pos (.inl hsh), if_pos (.inl hsh)]
    rw [hsh] at c3
    clear hsh
    go_enter Tryz.func55, Tryz.ntmps55
    go_wp2
    go_ret
    exact ⟨rfl, hS.out⟩
  · rw [hsh] at c3
    by_cases h1 : x.state = 0
    · rw [if_neg (by rintro (e | e); rw [hsh] at e; cases e; exact e h1), if_neg (by rintro (e | e); rw [hsh] at e; cases e; exact e h1)]
      rw [h1] at c4
      clear h1 hS hsh
      generalize hn : x.l.length = n at *
      go_enter Tryz.func55, Tryz.ntmps55
      go_wp2_with fail
      refine hh.out.mono ?_
      rintro e w1 ⟨rfl, hT⟩
      have hT' := Lib.hid hT
      clear hT hh
      go_wp2
      go_ret
      exact ⟨rfl, hT'.out⟩
    · rw [if_pos (.inr h1), if_pos (.inr h1)]
      have t1 : (x.state != 0) = true := by simpa using h1
      clear h1 hsh
      go_enter Tryz.func55, Tryz.ntmps55
      go_wp2
      go_ret
      exact ⟨rfl, hS.out⟩
theorem cTake_any (h : CH w F c D x) {M Q : Int} (ho : OkC x M Q) (now most : Int) (hM : M ≤ 1000000000) (hQ : Q ≤ 1000000000) :
    Calls Tryz.prog 57 #[ptr c, .int .i64 now, .int .i64 most] w fun e w' => ∃ A cap, e = .returned (.slice A (takeCB x now most).size cap) ∧ BS w' A (takeCB x now most) ∧ Newly w A ∧ TuS w F w' c D (takeC x now most) := by
  have c0 : w.cell? ⟨c, 0, none⟩ = some (.slice (some ⟨D.r, 0, none⟩) x.l.length D.cap) := (h.blk.cell 0).trans rfl
  have c4 : w.cell? ⟨c, 4, none⟩ = some (.int .i64 x.state) := (h.blk.cell 4).trans rfl
  have hS := Lib.hid (show TuS w F w c D x from ⟨F, h, Did.refl _ _, Stem.refl _ _, fun _ h => h⟩)
  have h2 := ho.two
  have h10 := ho.ten
  have hm := ho.held
  have hcap := h.cap
  have hx : x.l[x.l.length - 1]? = some x.l[x.l.length - 1] := List.getElem?_eq_getElem (by omega)
  unfold takeC takeCB
  rw [hx]
  generalize x.l[x.l.length - 1] = p at *
  have hok := mem_ok ho.ok hx
  have hle := held_le hx
  obtain ⟨t, ht⟩ := h.pt hx
  have d0 := h.rcell ht
  have d1 := (h.pcell ht hx).1
  have hD := Lib.hid (Did.refl F w)
  by_cases h1 : x.state = 2
  · rw [if_pos h1, if_pos h1]
    rw [h1] at c4
    clear h ho hx ht hok h1
    go_enter Tryz.func57, Tryz.ntmps57
    go_wp2
    go_ret
    exact ⟨none, 0, rfl, takeOutB_nil, (fun g o e => by cases e), hS.out⟩
  · rw [if_neg h1, if_neg h1]
    have t1 : (x.state == 2) = false := by simpa using h1
    have hh := Lib.hid (cs_take h.drew ht hx (by omega) hok.1 (by omega) now most)
    have hwl := wr_less x.l.length h2 h10
    have ht' := Lib.hid ht
    have hx' := Lib.hid hx
    clear h ho ht hok h1 hS hm hle hM hQ hx
    generalize hn : x.l.length = n at *
    have hn1 : (0 : Int) ≤ (n : Int) - 1 := by omega
    have hn2 : (n : Int) - 1 < (n : Int) := by omega
    have hn4 : (1 : Int) ≤ (n : Int) := by omega
    have hn3 : ((n : Int) - 1).toNat = n - 1 := by omega
    go_enter Tryz.func57, Tryz.ntmps57
    go_wp2
    refine start_ (n := 19) (S := fun w' => w'.cell? ⟨c, 0, none⟩ = some (.slice (some ⟨D.r, 0, none⟩) n D.cap) ∧ w'.cell? ⟨D.r, n - 1, none⟩ = some (ptr t.p) ∧ w'.cell? ⟨t.p, 0, none⟩ = some (ptr t.b)) (ds := []) (m_ 19 0) (by kernel_rfl) rfl (by kernel_rfl) ⟨c0, d0, d1⟩ (fun hHeld => ?_)
    refine pq_ 0 12 19 1 ?_
    refine pq_ 1 13 19 3 ?_
    refine pq_ 2 14 19 7 ?_
    refine pq_ 4 16 19 23 ?_
    refine pq_ 5 17 19 55 ?_
    refine pq_ 6 18 19 119 ?_
    refine pq_ 15 27 19 32887 ?_
    refine pq_ 16 28 19 98423 ?_
    refine tq_ 3 15 19 98431 hHeld ?_
    refine tq_ 7 19 19 98559 hHeld ?_
    refine pq_ 8 20 19 98815 ?_
    refine pq_ 9 21 19 99327 ?_
    refine pq_ 10 22 19 100351 ?_
    refine tq_ 11 23 19 102399 hHeld ?_
    refine pq_ 12 24 19 106495 ?_
    refine pq_ 13 25 19 114687 ?_
    refine tq_ 14 26 19 131071 hHeld ?_
    refine one_ (i := 17) (N := some 29) (m_ 19 262143) rfl rfl (by kernel_rfl) (by decide) (fun K hK => ?_)
    refine goes_ Tryz.func84 (by kernel_rfl) rfl #[ptr t.b, .int .i64 now, .int .i64 most] (by rfl) rfl rfl (by simp only [List.map_toArray, List.map_cons, List.map_nil]; rfl) ?_
    with_reducible refine (hh.out).mono ?_
    rintro e w3 ⟨A3, cp3, rfl, hb3, hn3, F3, hC3, hD3, hS3, hF3⟩
    have e0 : w3.cell? ⟨c, 0, none⟩ = some (.slice (some ⟨D.r, 0, none⟩) n D.cap) := (hC3.blk.cell 0).trans (by simp [ccells, hn])
    have e1 := hC3.rcell ht'.out
    have e2 := (hC3.pcell (a := ⟨takeS p.s now most, p.cl⟩) ht'.out (by show (x.l.set (n - 1) _)[n - 1]? = _; rw [List.getElem?_set_self (by omega)])).1
    have hT3 := Lib.hid (show TuS w F w3 c D _ from ⟨F3, hC3, hD.out.drew.trans (Stem.refl _ _) hD3, (Stem.refl F w).trans (Nat.le_refl _) hS3, hF3⟩)
    have hB3 := Lib.hid (And.intro hb3 hn3)
    clear hb3 hn3 hC3 hD3 hS3 hF3
    refine ⟨_, rfl, ?_⟩
    refine hK.out _ _ ⟨e0, e1, e2⟩ (fun hHeld => ?_)
    clear hK K
    refine norm_ (a' := ?_) ?_ ?_
    rotate_left
    · show Act.put _ (some 29) _ = _
      simp only [Act.put, List.setIfInBounds_toArray, List.set_cons_zero, List.set_cons_succ, i64_w, i32_w]
      rfl
    refine pq_ 18 6 19 524287 ?_
    refine done_ (by kernel_rfl) ?_
    clear hHeld
    go_wp2
    go_ret
    exact ⟨A3, cp3, rfl, hB3.out.1, hB3.out.2, hT3.out⟩
theorem is_any (h : CH w F c D x) (h2 : 2 ≤ x.l.length) (h10 : x.l.length ≤ 10) (at_ : Int) :
    Calls Tryz.prog 67 #[ptr c, .int .i64 at_] w fun e w' => e = .returned (.bool (isB x at_)) ∧ Below w.heap.size w w' := by
  have hh := Lib.hid (inner_any h h2 h10)
  clear h
  unfold isB
  by_cases h1 : 0 ≤ at_
  · have t1 : decide (0 ≤ at_) = true := by simpa using h1
    have t2 : decide (at_ < ((x.l.length - 2 : Nat) : Int)) = decide (at_ < (x.l.length : Int) - 2) := by congr 1; apply propext; omega
    have t2' := Lib.hid t2
    clear h1 t2
    go_enter Tryz.func67, Tryz.ntmps67
    go_wp2_with fail
    refine hh.out.mono ?_
    rintro e w1 ⟨rfl, hB⟩
    have hB' := Lib.hid hB
    clear hB hh
    go_wp2
    go_ret
    refine ⟨?_, hB'.out⟩
    rw [t1, ← t2'.out]
    simp
  · have t1 : decide (0 ≤ at_) = false := by simpa using h1
    clear h1 hh
    go_enter Tryz.func67, Tryz.ntmps67
    go_wp2
    go_ret
    exact ⟨by rw [t1]; rfl, Below.refl _ _⟩
theorem wr_at (k : Nat) (h : k < 10) : wrap64 ((k : Int) + 1) = (k : Int) + 1 := by unfold wrap64; omega
theorem cUpdate_any (h : CH w F c D x) {M Q : Int} (ho : OkC x M Q) (at_ : Int) (tx : Tox) (now : Int) (hM : M ≤ 1000000000) :
    Calls Tryz.prog 75 #[ptr c, .int .i64 at_, tx.v, .int .i64 now] w fun e w' => e = .returned (.int .i64 (updCE x at_ tx)) ∧ Tu w F w' c D (updC x at_ tx now) := by
  have h2 := ho.two
  have h10 := ho.ten
  have hm := ho.held
  have hcap := h.cap
  unfold updC updCE
  obtain ⟨t0, t1, t2, t3, t4, t5⟩ := tx
  have hb0 := (Below.refl w.heap.size w).alloc (Nat.le_refl _) (.cells #[.string t0, .int .i64 t1, .bool t2, .int .i64 t3, .int .i64 t4, .int .i64 t5] 27)
  have hb0' := Lib.hid hb0
  have hC0 := Lib.hid (h.below hb0)
  have hi := Lib.hid (is_any hC0.out h2 h10 at_)
  by_cases h1 : isB x at_ = true
  · rw [if_pos h1, if_pos h1]
    have hi1 : 0 ≤ at_ ∧ at_ < (x.l.length : Int) - 2 := by simp [isB] at h1; omega
    obtain ⟨k, rfl⟩ : ∃ k : Nat, at_ = (k : Int) := ⟨at_.toNat, by omega⟩
    have hk : k + 1 < x.l.length := by omega
    have hx : x.l[k + 1]? = some x.l[k + 1] := List.getElem?_eq_getElem hk
    have hx0 : x.l[(k : Int).toNat + 1]? = some x.l[k + 1] := hx
    rw [hx0]
    generalize x.l[k + 1] = p at *
    have hok := mem_ok ho.ok hx
    have hle := held_le hx
    obtain ⟨t, ht⟩ := h.pt hx
    have hw := wr_at k (by omega)
    have hH := Lib.hid (show held p.s ≤ 1000000000 by omega)
    have hO := Lib.hid hok.1
    have hx' := Lib.hid hx
    have ht' := Lib.hid ht
    rw [h1] at hi
    have hnf := Lib.hid (show ¬ F w.heap.size from fun e => Nat.lt_irrefl _ (h.lt e))
    clear h ho hok hx0 hx ht h1 hle hm hM hb0 hi1
    go_enter Tryz.func75, Tryz.ntmps75
    go_wp2_with fail
    refine hi.out.mono ?_
    rintro e w1 ⟨rfl, hB⟩
    have hC1 := Lib.hid (hC0.out.below hB)
    have hT1 := Lib.hid ((Did.of_below (F := F) hb0'.out).trans (Stem.refl _ _) (Did.of_below hB))
    have hB1 := Lib.hid (bw_below hb0'.out hB)
    have c0 : w1.cell? ⟨c, 0, none⟩ = some (.slice (some ⟨D.r, 0, none⟩) x.l.length D.cap) := (hC1.out.blk.cell 0).trans rfl
    have d0 := hC1.out.rcell ht'.out
    have d1 := (hC1.out.pcell ht'.out hx'.out).1
    have hh := Lib.hid (cs_upd hC1.out.drew ht'.out hx'.out hH.out hO.out ⟨t0, t1, t2, t3, t4, t5⟩ now)
    have hbx := hB.block w.heap.size (by simp)
    rw [heap_alloc_new] at hbx
    have g0 : w1.cell? ⟨w.heap.size, 0, none⟩ = some (.string t0) := (cell_of_row w1 _ 0 _ _ _ hbx).trans rfl
    have g1 : w1.cell? ⟨w.heap.size, 1, none⟩ = some (.int .i64 t1) := (cell_of_row w1 _ 1 _ _ _ hbx).trans rfl
    have g2 : w1.cell? ⟨w.heap.size, 2, none⟩ = some (.bool t2) := (cell_of_row w1 _ 2 _ _ _ hbx).trans rfl
    have g3 : w1.cell? ⟨w.heap.size, 3, none⟩ = some (.int .i64 t3) := (cell_of_row w1 _ 3 _ _ _ hbx).trans rfl
    have g4 : w1.cell? ⟨w.heap.size, 4, none⟩ = some (.int .i64 t4) := (cell_of_row w1 _ 4 _ _ _ hbx).trans rfl
    have g5 : w1.cell? ⟨w.heap.size, 5, none⟩ = some (.int .i64 t5) := (cell_of_row w1 _ 5 _ _ _ hbx).trans rfl
    clear hB hi hC0 hb0' hbx
    generalize hn : x.l.length = n at *
    have hk2 : ((k : Int) + 1) < (n : Int) := by omega
    have hk3 : (0 : Int) ≤ (k : Int) + 1 := by omega
    have hnF : ¬ F w.heap.size := hnf.out
    go_wp2
    refine start_ (n := 15) (S := fun w' => w'.cell? ⟨c, 0, none⟩ = some (.slice (some ⟨D.r, 0, none⟩) n D.cap) ∧ w'.cell? ⟨D.r, k + 1, none⟩ = some (ptr t.p) ∧ w'.cell? ⟨t.p, 0, none⟩ = some (ptr t.b) ∧ w'.cell? ⟨w.heap.size, 0, none⟩ = some (.string t0) ∧ w'.cell? ⟨w.heap.size, 1, none⟩ = some (.int .i64 t1) ∧ w'.cell? ⟨w.heap.size, 2, none⟩ = some (.bool t2) ∧ w'.cell? ⟨w.heap.size, 3, none⟩ = some (.int .i64 t3) ∧ w'.cell? ⟨w.heap.size, 4, none⟩ = some (.int .i64 t4) ∧ w'.cell? ⟨w.heap.size, 5, none⟩ = some (.int .i64 t5)) (ds := []) (m_ 15 0) (by kernel_rfl) rfl (by kernel_rfl) ⟨c0, d0, d1, g0, g1, g2, g3, g4, g5⟩ (fun hHeld => ?_)
    refine pq_ 0 13 15 1 ?_
    refine pq_ 1 14 15 3 ?_
    refine pq_ 2 15 15 7 ?_
    refine pq_ 4 17 15 23 ?_
    refine pq_ 5 18 15 55 ?_
    refine pq_ 12 25 15 4151 ?_
    refine tq_ 3 16 15 4159 hHeld ?_
    refine pq_ 6 19 15 4223 ?_
    refine tq_ 7 20 15 4351 hHeld ?_
    refine pq_ 8 21 15 4607 ?_
    refine pq_ 9 22 15 5119 ?_
    refine tq_ 10 23 15 6143 hHeld ?_
    refine tq_ 11 24 15 8191 hHeld ?_
    refine one_ (i := 13) (N := some 26) (m_ 15 16383) rfl rfl (by kernel_rfl) (by decide) (fun K hK => ?_)
    refine goes_ Tryz.func100 (by kernel_rfl) rfl #[ptr t.b, Tox.v ⟨t0, t1, t2, t3, t4, t5⟩, .int .i64 now] (by rfl) rfl rfl (by simp only [List.map_toArray, List.map_cons, List.map_nil]; rfl) ?_
    with_reducible refine (hh.out).mono ?_
    rintro e w3 ⟨rfl, F3, hC3, hD3, hS3⟩
    have e0 : w3.cell? ⟨c, 0, none⟩ = some (.slice (some ⟨D.r, 0, none⟩) n D.cap) := (hC3.blk.cell 0).trans (by simp [ccells, hn])
    have e1 := hC3.rcell ht'.out
    have e2 := (hC3.pcell (a := ⟨updS p.s ⟨t0, t1, t2, t3, t4, t5⟩ now, p.cl⟩) ht'.out (by show (x.l.set (k + 1) _)[k + 1]? = _; rw [List.getElem?_set_self (by omega)])).1
    have q0 := dcells hD3 (w := w1.drew) g0 hnF
    have q1 := dcells hD3 (w := w1.drew) g1 hnF
    have q2 := dcells hD3 (w := w1.drew) g2 hnF
    have q3 := dcells hD3 (w := w1.drew) g3 hnF
    have q4 := dcells hD3 (w := w1.drew) g4 hnF
    have q5 := dcells hD3 (w := w1.drew) g5 hnF
    have hT3 := Lib.hid (Tu.next hT1.out.drew (Stem.refl _ _) ⟨F3, hC3, hD3, hS3⟩)
    clear hC3 hD3 hS3
    refine ⟨_, rfl, ?_⟩
    refine hK.out _ _ ⟨e0, e1, e2, q0, q1, q2, q3, q4, q5⟩ (fun hHeld => ?_)
    clear hK K
    refine norm_ (a' := ?_) ?_ ?_
    rotate_left
    · show Act.put _ (some 26) _ = _
      simp only [Act.put, List.setIfInBounds_toArray, List.set_cons_zero, List.set_cons_succ, i64_w, i32_w]
      rfl
    refine pq_ 14 8 15 32767 ?_
    refine done_ (by kernel_rfl) ?_
    clear hHeld
    go_wp2
    go_ret
    exact ⟨rfl, hT3.out⟩
  · rw [if_neg h1, if_neg h1]
    have h1' : isB x at_ = false := by simpa using h1
    rw [h1'] at hi
    have hS := Lib.hid h
    clear h ho h1 hm hM hb0
    go_enter Tryz.func75, Tryz.ntmps75
    go_wp2_with fail
    refine hi.out.mono ?_
    rintro e w1 ⟨rfl, hB⟩
    have hB1 := Lib.hid (bw_below hb0'.out hB)
    clear hB hi hC0 hb0'
    go_wp2
    go_ret
    exact ⟨rfl, F, hS.out.below hB1.out, Did.of_below hB1.out, Stem.refl _ _⟩
end Go.Proofs.YtnkgjnmhiedfoaaGreat.Chain
namespace Go.Proofs.YtnkgjnmhiedfoaaGreat.Chain
open Go.RowKit Mem Tick Cargo Toxic Stage
set_option linter.unusedVariables false
set_option linter.unusedSimpArgs false
variable {x : Ch} {M Q : Int}
def OkL (l : List Pa) (Q : Int) : Prop := ∀ a ∈ l, Ok a.s ∧ a.s.passed ≤ Q
theorem OkL.more {l : List Pa} {Q Q' : Int} (h : OkL l Q) (hq : Q ≤ Q') : OkL l Q' := fun a ha => ⟨(h a ha).1, Int.le_trans (h a ha).2 hq⟩
theorem OkL.set {l : List Pa} (h : OkL l Q) (i : Nat) {b : Pa} (hb : Ok b.s ∧ b.s.passed ≤ Q) : OkL (l.set i b) Q := by
  intro a ha
  rcases List.mem_or_eq_of_mem_set ha with h1 | h1
  · exact h a h1
  · subst h1; exact hb
theorem OkL.at_ {l : List Pa} (h : OkL l Q) {i : Nat} {a : Pa} (hi : l[i]? = some a) : Ok a.s ∧ a.s.passed ≤ Q := h a (List.mem_of_getElem? hi)
theorem OkC.okL (h : OkC x M Q) : OkL x.l Q := h.ok
theorem OkC.list (ho : OkC x M Q) {l : List Pa} (hl : l.length = x.l.length) (hh : heldL l = heldL x.l) {Q' : Int} (hok : OkL l Q') : OkC { x with l := l } M Q' :=
  ⟨by rw [hl]; exact ho.two, by rw [hl]; exact ho.ten, ho.r0, ho.r1, by rw [hh]; exact ho.held, ho.lost0, by rw [hh]; exact ho.lost, hok⟩
theorem heldL_of_line {l l' : List Pa} (h : lineL l = lineL l') : heldL l = heldL l' := by rw [← lineL_size, ← lineL_size, h]
theorem OkL.look {l : List Pa} (h : OkL l Q) (now : Int) : OkL (l.map (lookA now)) Q := by
  intro a ha
  obtain ⟨b, hb, rfl⟩ := List.mem_map.1 ha
  exact ⟨(h b hb).1.look now, (h b hb).2⟩
theorem passed_force (s : Sg) (n : Int) (b : ByteArray) : (forceP s n b).passed = s.passed := by
  unfold forceP
  split
  · rfl
  · unfold putIn diceP; split <;> rfl
theorem passed_end (now : Int) (a : Pa) : (endA now a).s.passed = a.s.passed := by unfold endA closeP; split <;> rfl
theorem ok_end (now : Int) {a : Pa} (h : Ok a.s ∧ a.s.passed ≤ Q) : Ok (endA now a).s ∧ (endA now a).s.passed ≤ Q := ⟨h.1.close now, by rw [passed_end]; exact h.2⟩
theorem ok_look (now : Int) {a : Pa} (h : Ok a.s ∧ a.s.passed ≤ Q) : Ok (lookA now a).s ∧ (lookA now a).s.passed ≤ Q := ⟨h.1.look now, h.2⟩
theorem ok_drain {a : Pa} (h : Ok a.s ∧ a.s.passed ≤ Q) : Ok (drainA a).s ∧ (drainA a).s.passed ≤ Q := ⟨h.1.drain, h.2⟩
theorem takeB_le (s : Sg) (n most : Int) : (takeB s n most).size ≤ held s := by
  have h := congrArg ByteArray.size (cat_take_ s n most)
  rw [ByteArray.size_append] at h
  have := held_cat s
  omega
theorem move_ok {l : List Pa} (h : OkL l Q) (hm : (heldL l : Int) ≤ M) (hM : 0 ≤ M) (now : Int) (j : Nat) : OkL (moveAt now j l) (Q + M) := by
  unfold moveAt
  split
  · rename_i a b ha hb
    have ka := h.at_ ha
    have kb := h.at_ hb
    split
    · refine OkL.set (OkL.set (h.more (by omega)) _ ⟨ka.1.take _ _, ?_⟩) _ ⟨(kb.1.look now).force _ _, ?_⟩
      · show (takeS a.s now _).passed ≤ _
        rw [passed_take]
        have h1 := takeB_le a.s now (free (lookP b.s now))
        have h2 := held_le ha
        have h3 := ka.2
        omega
      · show (forceP _ _ _).passed ≤ _
        rw [passed_force]
        show b.s.passed ≤ _
        have := kb.2
        omega
    · exact OkL.set (h.more (by omega)) _ ⟨kb.1.look now, by show b.s.passed ≤ _; have := kb.2; omega⟩
  · exact h.more (by omega)
def mfold (now : Int) (pre : List Nat) (l : List Pa) : List Pa := pre.foldl (fun l k => moveAt now k l) l
def sfold (now : Int) (pre : List Nat) (x : Ch) : Ch := pre.foldl (fun x k => shutAt now k x) x
theorem mfold_snoc (now : Int) (pre : List Nat) (k : Nat) (l : List Pa) : mfold now (pre ++ [k]) l = moveAt now k (mfold now pre l) := by unfold mfold; rw [List.foldl_append]; rfl
theorem sfold_snoc (now : Int) (pre : List Nat) (k : Nat) (x : Ch) : sfold now (pre ++ [k]) x = shutAt now k (sfold now pre x) := by unfold sfold; rw [List.foldl_append]; rfl
theorem mfold_range (now : Int) (l : List Pa) : ∀ m, mfold now (List.range m) l = moves now m l
  | 0 => rfl
  | m + 1 => by rw [List.range_succ, mfold_snoc, mfold_range now l m]; rfl
theorem sfold_range (now : Int) (x : Ch) : ∀ m, sfold now (List.range m) x = shuts now m x
  | 0 => rfl
  | m + 1 => by rw [List.range_succ, sfold_snoc, sfold_range now x m]; rfl
theorem mfold_ok (ho : OkC x M Q) (now : Int) (pre : List Nat) : OkC { x with l := mfold now pre x.l } M (Q + pre.length * M) ∧ (mfold now pre x.l).length = x.l.length := by
  have hM : 0 ≤ M := by have := ho.held; omega
  have h0 := ho.okL
  suffices h : ∀ (pre : List Nat) (l : List Pa) (Q' : Int), OkL l Q' → l.length = x.l.length → heldL l = heldL x.l → OkL (mfold now pre l) (Q' + pre.length * M) ∧ (mfold now pre l).length = x.l.length ∧ heldL (mfold now pre l) = heldL x.l by
    obtain ⟨h1, h2, h3⟩ := h pre x.l Q h0 rfl rfl
    exact ⟨ho.list h2 h3 h1, h2⟩
  intro pre
  induction pre with
  | nil => intro l Q' h hl hh; exact ⟨by simpa [mfold] using h, hl, hh⟩
  | cons k r ih =>
    intro l Q' h hl hh
    have hm := move_ok (M := M) h (by rw [hh]; exact ho.held) hM now k
    have hln := move_line now k l
    obtain ⟨h1, h2, h3⟩ := ih (moveAt now k l) (Q' + M) hm (hln.2.trans hl) ((heldL_of_line hln.1).trans hh)
    have e : Q' + M + (r.length : Int) * M = Q' + ((k :: r).length : Int) * M := by
      rw [List.length_cons, Int.natCast_add, Int.add_mul]
      simp
      omega
    rw [e] at h1
    exact ⟨h1, h2, h3⟩
theorem flow_mass {x y : Ch} (h : Flow x ⟨#[]⟩ ⟨#[]⟩ y) : y.lost + heldL y.l = x.lost + heldL x.l ∧ x.lost ≤ y.lost ∧ heldL y.l ≤ heldL x.l := by
  obtain ⟨L, h1, h2, _, _⟩ := h
  have h3 := congrArg ByteArray.size h1
  simp only [ByteArray.size_append, lineL_size] at h3
  have e : ByteArray.size ⟨#[]⟩ = 0 := rfl
  rw [e] at h3
  refine ⟨?_, ?_, ?_⟩ <;> omega
theorem mapK_ok {l : List Pa} (h : OkL l Q) (n : Nat) : OkL (loseL n l) Q := by
  intro a ha
  unfold loseL at ha
  rcases List.mem_append.1 ha with h1 | h1
  · obtain ⟨b, hb, rfl⟩ := List.mem_map.1 h1
    exact ok_drain (h b (List.mem_of_mem_take hb))
  · exact h a (List.mem_of_mem_drop h1)
theorem OkC.flow {y : Ch} (ho : OkC x M Q) (h : Flow x ⟨#[]⟩ ⟨#[]⟩ y) (hl : y.l.length = x.l.length) (hr : y.room = x.room) {Q' : Int} (hok : OkL y.l Q') : OkC y M Q' := by
  obtain ⟨h1, h2, h3⟩ := flow_mass h
  have a := ho.held
  have b := ho.lost0
  have c := ho.lost
  exact ⟨by rw [hl]; exact ho.two, by rw [hl]; exact ho.ten, by rw [hr]; exact ho.r0, by rw [hr]; exact ho.r1, by omega, by omega, by omega, hok⟩
theorem shut_okL (now : Int) (j : Nat) (x : Ch) (h : OkL x.l Q) : OkL (shutAt now j x).l Q := by
  unfold shutAt
  split
  · rename_i a b ha hb
    have ka := h.at_ ha
    have kb := h.at_ hb
    split
    · exact OkL.set (mapK_ok (OkL.set h _ (ok_look now ka)) _) _ (ok_end now kb)
    · exact OkL.set h _ (ok_look now ka)
  · exact h
theorem shut_room (now : Int) (j : Nat) (x : Ch) : (shutAt now j x).room = x.room := by
  unfold shutAt
  split
  · split <;> rfl
  · rfl
theorem shut_ok (ho : OkC x M Q) (now : Int) (j : Nat) : OkC (shutAt now j x) M Q :=
  ho.flow (flow_shut now j x).1 (flow_shut now j x).2 (shut_room now j x) (shut_okL now j x ho.okL)
theorem sfold_ok (now : Int) : ∀ (pre : List Nat) (x : Ch), OkC x M Q → OkC (sfold now pre x) M Q ∧ (sfold now pre x).l.length = x.l.length
  | [], x, h => ⟨h, rfl⟩
  | k :: r, x, h => by
    have h1 := sfold_ok now r (shutAt now k x) (shut_ok h now k)
    exact ⟨h1.1, h1.2.trans (flow_shut now k x).2⟩
theorem set_three {l : List Pa} (k : Nat) (a b b' : Pa) : ((l.set (k + 1) b).set k a).set (k + 1) b' = (l.set k a).set (k + 1) b' := by
  rw [List.set_comm _ _ (by omega : k + 1 ≠ k), List.set_set]
end Go.Proofs.YtnkgjnmhiedfoaaGreat.Chain
