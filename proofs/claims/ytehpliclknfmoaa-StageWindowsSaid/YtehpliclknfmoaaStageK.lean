/- A stage that may be (chapter 10): what each call keeps; plain. Conditions: none. -/
import Derived.Test.YtehpliclknfmoaaStageI
import Derived.Test.YtehpliclknfmoaaCargoQ
import Derived.Test.YtehpliclknfmoaaAlive7
import Derived.Lib.SlBytesConst
namespace Go.Proofs.Ytehpliclknfmoaa.Stage
open Go.RowKit Mem Tick Cargo Toxic
set_option linter.unusedVariables false
set_option linter.unusedSimpArgs false
structure Ok (s : Sg) : Prop where
  good : Cargo.Good s.c
  tox : passB s.t = true ∨ chk s.t = 0
  r0 : 1 ≤ s.room
  r1 : s.room ≤ 4096
  k0 : 0 ≤ s.clock
  k1 : s.clock ≤ 1099511627776
  bk : s.t.kind = 2 → Bucket.okB s.b0 s.b1 s.b2 s.b3 = true
  p0 : 0 ≤ s.passed
theorem chk_parts {t : Tox} (h : chk t = 0) : nameB t.name = true ∧ kindB t.kind = true ∧ oftenB t.often = true ∧ numB t.kind t.a t.b = true := by
  unfold chk at h
  split at h
  · omega
  split at h
  · omega
  split at h
  · omega
  rename_i h1 h2 h3
  simp only [Bool.and_eq_false_iff, not_or, Bool.not_eq_false] at h1 h2 h3
  exact ⟨h1, h2, h3.1, h3.2⟩
theorem num_parts {k a b : Int} (h : numB k a b = true) : 0 ≤ a ∧ a ≤ 1099511627776 ∧ 0 ≤ b ∧ b ≤ 1099511627776 ∧ (k = 1 → b ≤ a) ∧ (k = 2 → 1 ≤ b ∧ b ≤ 4096) ∧ (k = 3 → 1 ≤ a ∧ a ≤ 4096) ∧ (k = 4 ∨ k = 5 → 0 < a) := by
  unfold numB rightB at h
  simp only [Bool.and_eq_true, decide_eq_true_eq] at h
  obtain ⟨⟨⟨ha, hb⟩, -⟩, hr⟩ := h
  refine ⟨ha.1, ha.2, hb.1, hb.2, fun e => ?_, fun e => ?_, fun e => ?_, fun e => ?_⟩
  · subst e; unfold ruleB at hr; rw [if_pos rfl] at hr; exact of_decide_eq_true hr
  · subst e; unfold ruleB at hr; rw [if_neg (by decide), if_pos rfl] at hr; exact of_decide_eq_true hr
  · subst e; unfold ruleB at hr; rw [if_neg (by decide), if_neg (by decide), if_pos rfl] at hr; exact of_decide_eq_true hr
  · unfold ruleB at hr; rw [if_neg (by omega), if_neg (by omega), if_neg (by omega), if_pos e] at hr; exact of_decide_eq_true hr
theorem tox_parts {t : Tox} (h : passB t = true ∨ chk t = 0) : 0 ≤ t.kind ∧ t.kind ≤ 7 ∧ 0 ≤ t.a ∧ t.a ≤ 1099511627776 ∧ 0 ≤ t.b ∧ t.b ≤ 1099511627776 ∧ (t.kind = 1 → t.b ≤ t.a) ∧ (t.kind = 2 → 1 ≤ t.b ∧ t.b ≤ 4096) ∧ (t.kind = 3 → 1 ≤ t.a ∧ t.a ≤ 4096) ∧ (t.kind = 4 ∨ t.kind = 5 → 0 < t.a) := by
  rcases h with h | h
  · rw [pass_kind h]
    unfold noTox
    exact ⟨by decide, by decide, by decide, by decide, by decide, by decide, (fun _ => by decide), (fun h => by cases h), (fun h => by cases h), (fun h => by rcases h with h | h <;> cases h)⟩
  · obtain ⟨-, hk, -, hn⟩ := chk_parts h
    unfold kindB at hk
    simp only [Bool.and_eq_true, decide_eq_true_eq] at hk
    obtain ⟨h1, h2, h3, h4, h5⟩ := num_parts hn
    exact ⟨by omega, hk.2, h1, h2, h3, h4, h5⟩
theorem Ok.fit {s : Sg} (h : Ok s) (hp : s.passed ≤ 1000000000) : Fit s := by
  obtain ⟨h1, h2, h3, h4, h5, h6, h7, h8, h9, h10⟩ := tox_parts h.tox
  exact ⟨h1, h2, h3, h4, h5, h6, h9, h.p0, hp⟩
theorem Ok.now {s : Sg} (h : Ok s) (n : Int) : Ok (nowP s n) := by
  have := nr_bd (nr n + nr 0)
  have hk0 := h.k0
  have hk1 := h.k1
  refine ⟨h.good, h.tox, h.r0, h.r1, ?_, ?_, h.bk, h.p0⟩
  · show 0 ≤ max s.clock (add n 0); unfold add; omega
  · show max s.clock (add n 0) ≤ 1099511627776; unfold add; omega
theorem Ok.look {s : Sg} (h : Ok s) (n : Int) : Ok (lookP s n) := by
  have h := h.now n
  exact ⟨h.good, h.tox, h.r0, h.r1, h.k0, h.k1, h.bk, h.p0⟩
theorem Ok.dice {s : Sg} (h : Ok s) : Ok (diceP s) := by
  unfold diceP
  split
  · exact ⟨h.good, h.tox, h.r0, h.r1, h.k0, h.k1, h.bk, h.p0⟩
  · exact h
theorem Ok.putIn {s : Sg} (h : Ok s) (t : Int) (x : ByteArray) : Ok (putIn s t x) := by
  have hg : Cargo.Good (stp s.c (0, t, 0, x)) := h.good.stp (0, t, 0, x)
  exact ⟨hg, h.tox, h.r0, h.r1, h.k0, h.k1, h.bk, h.p0⟩
theorem Ok.force {s : Sg} (h : Ok s) (n : Int) (x : ByteArray) : Ok (forceP s n x) := by
  unfold forceP
  split
  · exact h.look n
  · exact ((h.look n).dice).putIn _ _
theorem Ok.put {s : Sg} (h : Ok s) (n : Int) (x : ByteArray) : Ok (putS s n x) := by
  unfold putS
  split
  · exact h.look n
  · exact (h.look n).force n _
theorem Ok.close {s : Sg} (h : Ok s) (n : Int) : Ok (closeP s n) := by
  unfold closeP
  have h := h.now n
  split
  · exact h
  · exact ⟨h.good, h.tox, h.r0, h.r1, h.k0, h.k1, h.bk, h.p0⟩
theorem Ok.drain {s : Sg} (h : Ok s) : Ok (drainP s) :=
  ⟨h.good.stp (3, 0, 0, ⟨#[]⟩), h.tox, h.r0, h.r1, h.k0, h.k1, h.bk, h.p0⟩
theorem someS_ok {s : Sg} (n : Int) (hb : Bucket.okB s.b0 s.b1 s.b2 s.b3 = true) : Bucket.okB (someS s n).b0 (someS s n).b1 (someS s n).b2 (someS s n).b3 = true := by
  have h1 := Bucket.fill_ok (now := s.clock) hb
  have h2 := Bucket.takeK_bd (now := s.clock) (n := n) hb
  have h3 := Bucket.fillL_bd (now := s.clock) hb
  show Bucket.okB s.b0 s.b1 (Bucket.takeL s.b0 s.b1 s.b2 s.b3 s.clock n) (Bucket.takeT s.b0 s.b1 s.b2 s.b3 s.clock n) = true
  rw [show Bucket.takeL s.b0 s.b1 s.b2 s.b3 s.clock n = Bucket.fillL s.b0 s.b1 s.b2 s.b3 s.clock - Bucket.takeK s.b0 s.b1 s.b2 s.b3 s.clock n from if_pos hb, show Bucket.takeT s.b0 s.b1 s.b2 s.b3 s.clock n = Bucket.fillT s.b0 s.b1 s.b2 s.b3 s.clock from if_pos hb]
  have h4 := of_decide_eq_true h1
  unfold Bucket.okB
  unfold Bucket.Ok at h4 ⊢
  exact decide_eq_true ⟨h4.1, h4.2.1, by omega, h4.2.2.2.1, h4.2.2.2.2.1, by omega⟩
theorem Ok.way {s : Sg} (h : Ok s) (n : Int) : Ok (wayS s n) := by
  unfold wayS
  split
  · rename_i h2
    exact ⟨h.good, h.tox, h.r0, h.r1, h.k0, h.k1, fun _ => someS_ok n (h.bk h2), h.p0⟩
  · split
    · unfold sliceS
      split
      · exact h
      · exact ⟨h.good, h.tox, h.r0, h.r1, h.k0, h.k1, h.bk, h.p0⟩
    · exact h
theorem Ok.takeOut {s : Sg} (h : Ok s) (m : Int) : Ok (takeOut s m) := by
  have hw := h.way m
  have hg : Cargo.Good (stp (wayS s m).c (1, s.clock, wayN s m, ⟨#[]⟩)) := hw.good.stp _
  have hp := (wayS_c s m).2.2.1
  have hp0 := h.p0
  exact ⟨hg, hw.tox, hw.r0, hw.r1, hw.k0, hw.k1, hw.bk, by show 0 ≤ s.passed + _; omega⟩
theorem Ok.take {s : Sg} (h : Ok s) (n most : Int) : Ok (takeS s n most) := by
  unfold takeS
  split
  · exact h.look n
  · exact (h.look n).takeOut _
theorem Ok.upd {s : Sg} (h : Ok s) (t : Tox) (n : Int) : Ok (updS s t n) := by
  unfold updS
  split
  · exact h
  rename_i hc
  have hcl := (h.look n)
  have hc0 : chk t = 0 := by
    by_cases e : chk t = 0
    · exact e
    · exact absurd (.inr (.inr e)) hc
  split
  · rename_i h2
    refine ⟨hcl.good, .inr hc0, hcl.r0, hcl.r1, hcl.k0, hcl.k1, fun _ => ?_, hcl.p0⟩
    have hk : s.t.kind = 2 := by
      by_cases e : t.kind = s.t.kind
      · omega
      · exact absurd (.inl e) hc
    have hb := h.bk hk
    have h1 := of_decide_eq_true (Bucket.fill_ok (now := (lookP s n).clock) hb)
    have h3 := of_decide_eq_true (fit_bucketT hc0 h2 0 (by decide) (by decide))
    have hm : min (Bucket.fillL s.b0 s.b1 s.b2 s.b3 (lookP s n).clock) t.b = Bucket.fillL s.b0 s.b1 s.b2 s.b3 (lookP s n).clock ∨ min (Bucket.fillL s.b0 s.b1 s.b2 s.b3 (lookP s n).clock) t.b = t.b := by omega
    unfold Bucket.Ok at h1 h3
    unfold Bucket.okB Bucket.Ok
    refine decide_eq_true ⟨h3.1, h3.2.1, ?_, h1.2.2.2.1, h3.2.2.2.2.1, ?_⟩
    · have := h1.2.2.1
      have := h3.2.1
      show 0 ≤ min _ t.b ∧ min _ t.b ≤ 1099511627776
      omega
    · show min _ t.b ≤ t.b
      omega
  · rename_i h2
    exact ⟨hcl.good, .inr hc0, hcl.r0, hcl.r1, hcl.k0, hcl.k1, fun e => absurd e h2, hcl.p0⟩
theorem newE_parts {t : Tox} {room : Int} (h : newE t room = 0) : (passB t = true ∨ chk t = 0) ∧ 1 ≤ room ∧ room ≤ 4096 := by
  unfold newE at h
  split at h
  · rename_i hc; exact absurd h hc.2
  · rename_i hc
    split at h
    · omega
    · rename_i hr
      unfold roomOk at hr
      simp only [decide_eq_false_iff_not, Decidable.not_not] at hr
      refine ⟨?_, hr⟩
      cases hp : passB t with
      | true => exact .inl rfl
      | false =>
        by_cases e : chk t = 0
        · exact .inr e
        · exact absurd ⟨hp, e⟩ hc
theorem Ok.new {t : Tox} {seed room now : Int} (h : newE t room = 0) : Ok (newS t seed room now) := by
  obtain ⟨ht, h1, h2⟩ := newE_parts h
  have hn := nr_bd (nr now + nr 0)
  have hg : Cargo.Good (([], 0) : St) := Cargo.Good.nil 0
  unfold newS
  split
  · rename_i hk
    have hc : chk t = 0 := by
      rcases ht with hp | hc
      · rw [pass_kind hp] at hk; cases hk
      · exact hc
    exact ⟨hg, ht, h1, h2, hn.1, hn.2, fun _ => fit_bucket hc hk now, Int.le_refl 0⟩
  · rename_i hk
    exact ⟨hg, ht, h1, h2, hn.1, hn.2, fun e => absurd e hk, Int.le_refl 0⟩
/-! how many bytes -/
theorem tot_add (ps : List Pc) (t : Int) (x : ByteArray) : tot (addP ps t x) = tot ps + x.size := by
  rw [← cat_size, cat_add, ByteArray.size_append, cat_size]
theorem held_look (s : Sg) (n : Int) : held (lookP s n) = held s := rfl
theorem dice_c (s : Sg) : (diceP s).c = s.c := by unfold diceP; split <;> rfl
theorem cat_force (s : Sg) (n : Int) (x : ByteArray) : cat (forceP s n x).c.1 = if (lookP s n).state ≠ 0 then cat s.c.1 else cat s.c.1 ++ x := by
  unfold forceP
  by_cases h : (lookP s n).state ≠ 0
  · rw [if_pos (.inl h), if_pos h]; rfl
  · rw [if_neg h]
    by_cases hx : x.size = 0
    · rw [if_pos (.inr hx)]
      have : x = ⟨#[]⟩ := empty_of (by omega)
      rw [this, app_nil]; rfl
    · rw [if_neg (by rintro (e | e); exact h e; exact hx e)]
      show cat (addP (diceP (lookP s n)).c.1 _ x) = _
      rw [cat_add, dice_c]; rfl
theorem held_cat (s : Sg) : held s = (cat s.c.1).size := by unfold held; rw [cat_size]
theorem held_force (s : Sg) (n : Int) (x : ByteArray) : held (forceP s n x) ≤ held s + x.size := by
  rw [held_cat, held_cat, cat_force]
  split
  · omega
  · rw [ByteArray.size_append]; omega
theorem ext_size (x : ByteArray) (n : Nat) (h : n ≤ x.size) : (x.extract 0 n).size = n := by simp [ByteArray.size_extract]; omega
theorem held_put (s : Sg) (n : Int) (x : ByteArray) : held (putS s n x) ≤ held s + x.size := by
  unfold putS
  split
  · rw [held_look]; omega
  · have := held_force (lookP s n) n (x.extract 0 (roomFor (lookP s n) x))
    rw [ext_size _ _ (room_le _ _), held_look] at this
    have := room_le (lookP s n) x
    omega
theorem held_take (s : Sg) (n most : Int) : (takeB s n most).size + held (takeS s n most) = held s := by
  unfold takeB takeS
  by_cases h : (lookP s n).state ≠ 0 ∨ most < 1
  · rw [if_pos h, if_pos h, held_look]; rw [show (ByteArray.size ⟨#[]⟩) = 0 from rfl]; omega
  · rw [if_neg h, if_neg h]
    have := tot_takeP (outN (lookP s n) (readyN (lookP s n) most)) (wayS (lookP s n) (readyN (lookP s n) most)).c.1
    rw [(wayS_c _ _).1] at this
    show (takeP (outN (lookP s n) (readyN (lookP s n) most)) (wayS (lookP s n) (readyN (lookP s n) most)).c.1).1.size + tot (takeP (outN (lookP s n) (readyN (lookP s n) most)) (wayS (lookP s n) (readyN (lookP s n) most)).c.1).2 = _
    rw [(wayS_c _ _).1]
    exact this
theorem passed_take (s : Sg) (n most : Int) : (takeS s n most).passed = s.passed + (takeB s n most).size := by
  unfold takeB takeS
  by_cases h : (lookP s n).state ≠ 0 ∨ most < 1
  · rw [if_pos h, if_pos h]; show s.passed = s.passed + ((0 : Nat) : Int); omega
  · rw [if_neg h, if_neg h]; rfl
end Go.Proofs.Ytehpliclknfmoaa.Stage
/- A script of a stage's calls (chapter 10): how it lies in memory, and whether it is short. Conditions: each text is shorter than 2^47 bytes. -/
namespace Go.Proofs.Ytehpliclknfmoaa.Stage
open Go.RowKit Mem Tick Cargo Toxic
set_option maxRecDepth 100000
set_option linter.unusedVariables false
set_option linter.unusedSimpArgs false
/-- a call. -/
structure Op where
  kind : Int
  now : Int
  n : Int
  s : ByteArray
  t : Tox
def Op.cells (x : Op) : Array Value := #[.int .i64 x.kind, .int .i64 x.now, .int .i64 x.n, .string x.s, .string x.t.name, .int .i64 x.t.kind, .bool x.t.up, .int .i64 x.t.often, .int .i64 x.t.a, .int .i64 x.t.b]
abbrev Op.v (x : Op) : Value := .agg #[.int .i64 x.kind, .int .i64 x.now, .int .i64 x.n, .string x.s, .string x.t.name, .int .i64 x.t.kind, .bool x.t.up, .int .i64 x.t.often, .int .i64 x.t.a, .int .i64 x.t.b]
def opBytes (x : Op) : Nat := x.s.size
def Script (w : World) (v : Value) (l : List Op) : Prop :=
  ∃ a cap, v = .slice a l.length cap ∧ l.length ≤ 9223372036854775807 ∧ (∀ x ∈ l, x.s.size ≤ 140737488351232 ∧ x.t.name.size ≤ 140737488351232) ∧
    (l ≠ [] → ∃ b o, a = some ⟨b, o, none⟩ ∧ ∀ j x, l[j]? = some x → w.cell? ⟨b, o + j * 10, none⟩ = some (.int .i64 x.kind) ∧ w.cell? ⟨b, o + j * 10 + 1, none⟩ = some (.int .i64 x.now) ∧ w.cell? ⟨b, o + j * 10 + 2, none⟩ = some (.int .i64 x.n) ∧ w.cell? ⟨b, o + j * 10 + 3, none⟩ = some (.string x.s) ∧ w.cell? ⟨b, o + j * 10 + 4, none⟩ = some (.string x.t.name) ∧ w.cell? ⟨b, o + j * 10 + 5, none⟩ = some (.int .i64 x.t.kind) ∧ w.cell? ⟨b, o + j * 10 + 6, none⟩ = some (.bool x.t.up) ∧ w.cell? ⟨b, o + j * 10 + 7, none⟩ = some (.int .i64 x.t.often) ∧ w.cell? ⟨b, o + j * 10 + 8, none⟩ = some (.int .i64 x.t.a) ∧ w.cell? ⟨b, o + j * 10 + 9, none⟩ = some (.int .i64 x.t.b))
theorem Script.below {w w' : World} {v : Value} {l : List Op} (h : Script w v l) (hb : Below w.heap.size w w') : Script w' v l := by
  obtain ⟨a, cap, h1, h2, h3, h4⟩ := h
  refine ⟨a, cap, h1, h2, h3, fun hn => ?_⟩
  obtain ⟨b, o, e, hc⟩ := h4 hn
  refine ⟨b, o, e, fun j x hx => ?_⟩
  obtain ⟨c0, c1, c2, c3, c4, c5, c6, c7, c8, c9⟩ := hc j x hx
  exact ⟨bcells hb c0, bcells hb c1, bcells hb c2, bcells hb c3, bcells hb c4, bcells hb c5, bcells hb c6, bcells hb c7, bcells hb c8, bcells hb c9⟩
def bytesOf : List Op → Nat
  | [] => 0
  | x :: r => opBytes x + bytesOf r
theorem bytesOf_append (a b : List Op) : bytesOf (a ++ b) = bytesOf a + bytesOf b := by induction a with | nil => simp [bytesOf] | cons p r ih => simp [bytesOf, ih]; omega
theorem bytesOf_take (l : List Op) (k : Nat) (x : Op) (h : l[k]? = some x) : bytesOf (l.take (k + 1)) = bytesOf (l.take k) + opBytes x := by
  rw [List.take_add_one, h, bytesOf_append]; simp [bytesOf]
theorem bytesOf_le (l : List Op) (k : Nat) : bytesOf (l.take k) ≤ bytesOf l := by
  have := bytesOf_append (l.take k) (l.drop k)
  rw [List.take_append_drop] at this; omega
theorem bytesOf_max (l : List Op) (h : ∀ x ∈ l, x.s.size ≤ 140737488351232 ∧ x.t.name.size ≤ 140737488351232) : bytesOf l ≤ l.length * 281474976702464 := by
  induction l with
  | nil => simp [bytesOf]
  | cons x r ih =>
    have h1 := h x (List.mem_cons_self ..)
    have h2 := ih fun y hy => h y (List.mem_cons_of_mem _ hy)
    simp only [bytesOf, List.length_cons, opBytes]; omega
def fewB (l : List Op) : Bool := decide (l.length ≤ 60) && decide (bytesOf l ≤ 2000)
theorem few_short (v : Value) (l : List Op) (w : World) (hv : Script w v l) (hl : l.length ≤ 60) :
    Calls Try.prog 16 #[v] w fun e w' => e = .returned (.bool (decide (bytesOf l ≤ 2000))) ∧ Below w.heap.size w w' := by
  obtain ⟨a, cap, rfl, hm, hs, hA⟩ := hv
  have hmx := bytesOf_max l hs
  have hd : decide ((l.length : Int) ≤ 60) = true := decide_eq_true (by omega)
  clear hs
  go_enter Try.func16, Try.ntmps16
  go_wp2
  go_loopw [3, 8] (fun nv iv wr => ∃ k : Nat, k ≤ l.length ∧ iv = .int .i64 k ∧ nv = .int .i64 (bytesOf (l.take k)) ∧ Below w.heap.size w wr) (fun _ iv _ => l.length - (intOf iv).toNat)
  case atStart => exact ⟨0, by omega, rfl, by simp [bytesOf], Below.refl _ _⟩
  case round =>
    obtain ⟨k, hk, rfl, rfl, hB⟩ := hrel
    by_cases hlt : k < l.length
    · skip
      obtain ⟨g, o, rfl, hc⟩ := hA (by intro h; subst h; simp at hlt)
      have hx : l[k]? = some l[k] := List.getElem?_eq_getElem hlt
      obtain ⟨d0, d1, d2, d3, d4, d5, d6, d7, d8, d9⟩ := hc k _ hx
      have hs := Lib.hid (bytesOf_take l k _ hx)
      have hle := bytesOf_le l (k + 1)
      rw [hs.out] at hle
      unfold opBytes at hle hs
      generalize l[k] = p at *
      obtain ⟨p0, p1, p2, p3, ⟨t0, t1, t2, t3, t4, t5⟩⟩ := p
      dsimp only at *
      have d0' := bcells hB d0
      have d1' := bcells hB d1
      have d2' := bcells hB d2
      have d3' := bcells hB d3
      have d4' := bcells hB d4
      have d5' := bcells hB d5
      have d6' := bcells hB d6
      have d7' := bcells hB d7
      have d8' := bcells hB d8
      have d9' := bcells hB d9
      generalize hs1 : bytesOf (l.take (k + 1)) = s1 at *
      have hs1' := Lib.hid hs1
      generalize bytesOf (l.take k) = s0 at *
      have hsz := hB.size
      clear hc hx hA d0 d1 d2 d3 d4 d5 d6 d7 d8 d9 hs1
      go_wp2
      go_roundw
      case rel => exact ⟨k + 1, by omega, by go_num, by rw [hs1'.out, hs.out]; go_num, hB.alloc hB.size _⟩
      case measure => simp [intOf]; omega
    · have hk2 : k = l.length := by omega
      subst hk2
      have hnl : ¬ (l.length < l.length) := by omega
      rw [List.take_length]
      go_wp2
      go_ret
      exact ⟨by simp; omega, hB⟩
theorem few_long (v : Value) (l : List Op) (w : World) (hv : Script w v l) (hl : 60 < l.length) :
    Calls Try.prog 16 #[v] w fun e w' => e = .returned (.bool false) ∧ Below w.heap.size w w' := by
  obtain ⟨a, cap, rfl, hm, hs, hA⟩ := hv
  have hd : decide ((l.length : Int) ≤ 60) = false := decide_eq_false (by omega)
  clear hs
  go_enter Try.func16, Try.ntmps16
  go_wp2
  go_loopw [3, 8] (fun nv iv wr => ∃ (k : Nat) (x : Int), k ≤ l.length ∧ iv = .int .i64 k ∧ nv = .int .i64 x ∧ Below w.heap.size w wr) (fun _ iv _ => l.length - (intOf iv).toNat)
  case atStart => exact ⟨0, 0, by omega, rfl, rfl, Below.refl _ _⟩
  case round =>
    obtain ⟨k, x, hk, rfl, rfl, hB⟩ := hrel
    by_cases hlt : k < l.length
    · skip
      obtain ⟨g, o, rfl, hc⟩ := hA (by intro h; subst h; simp at hlt)
      have hx : l[k]? = some l[k] := List.getElem?_eq_getElem hlt
      obtain ⟨d0, d1, d2, d3, d4, d5, d6, d7, d8, d9⟩ := hc k _ hx
      generalize l[k] = p at *
      obtain ⟨p0, p1, p2, p3, ⟨t0, t1, t2, t3, t4, t5⟩⟩ := p
      dsimp only at *
      have d0' := bcells hB d0
      have d1' := bcells hB d1
      have d2' := bcells hB d2
      have d3' := bcells hB d3
      have d4' := bcells hB d4
      have d5' := bcells hB d5
      have d6' := bcells hB d6
      have d7' := bcells hB d7
      have d8' := bcells hB d8
      have d9' := bcells hB d9
      have hsz := hB.size
      clear hc hx hA d0 d1 d2 d3 d4 d5 d6 d7 d8 d9
      go_wp2
      go_roundw
      case rel => exact ⟨k + 1, _, by omega, by go_num, rfl, hB.alloc hB.size _⟩
      case measure => simp [intOf]; omega
    · have hk2 : k = l.length := by omega
      subst hk2
      have hnl : ¬ (l.length < l.length) := by omega
      go_wp2
      go_ret
      exact ⟨rfl, hB⟩
theorem few_any (v : Value) (l : List Op) (w : World) (hv : Script w v l) :
    Calls Try.prog 16 #[v] w fun e w' => e = .returned (.bool (fewB l)) ∧ Below w.heap.size w w' := by
  unfold fewB
  by_cases hl : l.length ≤ 60
  · rw [decide_eq_true hl, Bool.true_and]; exact few_short v l w hv hl
  · rw [decide_eq_false hl, Bool.false_and]; exact few_long v l w hv (by omega)
end Go.Proofs.Ytehpliclknfmoaa.Stage
/- A stage's calls, as the laws do them (does), and a stage of the call's own (chapter 10). Conditions: the bytes are fewer than 2^29. -/
namespace Go.Proofs.Ytehpliclknfmoaa.Stage
open Go.RowKit Mem Tick Cargo Toxic
set_option maxRecDepth 100000
set_option linter.unusedVariables false
set_option linter.unusedSimpArgs false
variable {w w' : World} {F : Nat → Prop} {b k : Nat} {s : Sg}
/-- what a call answers: a number, bytes, an error. -/
abbrev Ans := Int × ByteArray × Int
def Ans.cells (a : Ans) : Array Value := #[.int .i64 a.1, .string a.2.1, .int .i64 a.2.2]
abbrev Ans.v (a : Ans) : Value := .agg #[.int .i64 a.1, .string a.2.1, .int .i64 a.2.2]
def doesA (s : Sg) (o : Op) : Ans :=
  if o.kind = 0 then (putN s o.now o.s, ⟨#[]⟩, 0) else if o.kind = 1 then (0, ⟨#[]⟩, 0) else if o.kind = 2 then (0, takeB s o.now o.n, 0) else if o.kind = 3 then (0, ⟨#[]⟩, 0)
  else if o.kind = 4 then ((lookP s o.now).state, ⟨#[]⟩, 0) else if o.kind = 5 then (0, ⟨#[]⟩, updE s o.t) else if o.kind = 6 then (0, cat s.c.1, 0) else (0, ⟨#[]⟩, 0)
def doesS (s : Sg) (o : Op) : Sg :=
  if o.kind = 0 then putS s o.now o.s else if o.kind = 1 then forceP s o.now o.s else if o.kind = 2 then takeS s o.now o.n else if o.kind = 3 then closeP s o.now
  else if o.kind = 4 then lookP s o.now else if o.kind = 5 then updS s o.t o.now else if o.kind = 6 then drainP s else s
/-- a block of another type than a stage's is not its own. -/
theorem SG.off (h : SG w F b k s) {g : Nat} {t : TypeId} {cs : Array Value} (hb : Blk w g t cs) (ht : t ∉ [61, 78, 80]) : ¬ F g := h.typed.out hb ht
theorem SG.far (h : SG w F b k s) {g : Nat} {t : TypeId} {cs : Array Value} (hb : Blk w g t cs) (ht : t ∉ [61, 78, 80]) (i : Nat) (u : Value) : SG (w.setCell ⟨g, i, none⟩ u) F b k s :=
  h.kept fun j hj => Below.heap_setCell w ⟨g, i, none⟩ u j fun e => h.off hb ht (by have e' : j = g := e; exact e' ▸ hj)
def DoesQ (F : Nat → Prop) (b k : Nat) (w : World) (s' : Sg) (a : Ans) (e : Ending) (w' : World) : Prop :=
  e = .returned (Ans.v a) ∧ ∃ F', SG w' F' b k s' ∧ Did F w w' ∧ Stem F F' w
theorem does_0 (h : SG w F b k s) (nw n : Int) (x tn : ByteArray) (tk : Int) (tu : Bool) (tf ta tb : Int) (hg : Full s.c.1) (ht : held s + x.size ≤ 1000000000) (h0 : 0 ≤ s.room) (h1 : s.room ≤ 1000000000000) :
    Calls Try.prog 18 #[.pointer (some ⟨b, 0, none⟩), .agg #[.int .i64 0, .int .i64 nw, .int .i64 n, .string x, .string tn, .int .i64 tk, .bool tu, .int .i64 tf, .int .i64 ta, .int .i64 tb]] w (DoesQ F b k w (putS s nw x) ((putN s nw x, ⟨#[]⟩, 0))) := by
  have hcv := conv_str x
  have hB := (((Below.refl w.heap.size w).alloc (Nat.le_refl _) (.cells #[.int .i64 0, .int .i64 nw, .int .i64 n, .string x, .string tn, .int .i64 tk, .bool tu, .int .i64 tf, .int .i64 ta, .int .i64 tb] 52)).alloc (by simp) (.cells #[.int .i64 0, .string ⟨#[]⟩, .int .i64 0] 55)).alloc (by simp; omega) (.cells #[.int .i64 0, .string ⟨#[]⟩, .int .i64 0] 55)
  have hR := Lib.hid ((Blk.new (w.alloc (.cells #[.int .i64 0, .int .i64 nw, .int .i64 n, .string x, .string tn, .int .i64 tk, .bool tu, .int .i64 tf, .int .i64 ta, .int .i64 tb] 52)) 55 #[.int .i64 0, .string ⟨#[]⟩, .int .i64 0]).below ((Below.refl _ _).alloc (Nat.le_refl _) (.cells #[.int .i64 0, .string ⟨#[]⟩, .int .i64 0] 55)))
  have hA := Lib.hid (Blk.new ((w.alloc (.cells #[.int .i64 0, .int .i64 nw, .int .i64 n, .string x, .string tn, .int .i64 tk, .bool tu, .int .i64 tf, .int .i64 ta, .int .i64 tb] 52)).alloc (.cells #[.int .i64 0, .string ⟨#[]⟩, .int .i64 0] 55)) 55 #[.int .i64 0, .string ⟨#[]⟩, .int .i64 0])
  have H := Lib.hid (h.below hB)
  have HB := Lib.hid hB
  have hlt := fun j (hj : F j) => Lib.hid (h.lt hj)
  have hBy := Lib.hid (bytes_below (((w.alloc (.cells #[.int .i64 0, .int .i64 nw, .int .i64 n, .string x, .string tn, .int .i64 tk, .bool tu, .int .i64 tf, .int .i64 ta, .int .i64 tb] 52)).alloc (.cells #[.int .i64 0, .string ⟨#[]⟩, .int .i64 0] 55)).alloc (.cells #[.int .i64 0, .string ⟨#[]⟩, .int .i64 0] 55)) x)
  have hBS := Lib.hid (bytes_new (((w.alloc (.cells #[.int .i64 0, .int .i64 nw, .int .i64 n, .string x, .string tn, .int .i64 tk, .bool tu, .int .i64 tf, .int .i64 ta, .int .i64 tb] 52)).alloc (.cells #[.int .i64 0, .string ⟨#[]⟩, .int .i64 0] 55)).alloc (.cells #[.int .i64 0, .string ⟨#[]⟩, .int .i64 0] 55)) x)
  have hcap := fun (W : World) => grownCap_ge W x.size 0 5
  have hlt3 : (((w.alloc (.cells #[.int .i64 0, .int .i64 nw, .int .i64 n, .string x, .string tn, .int .i64 tk, .bool tu, .int .i64 tf, .int .i64 ta, .int .i64 tb] 52)).alloc (.cells #[.int .i64 0, .string ⟨#[]⟩, .int .i64 0] 55)).alloc (.cells #[.int .i64 0, .string ⟨#[]⟩, .int .i64 0] 55)).heap.size = w.heap.size + 3 := by simp
  clear h hB
  go_enter Try.func18, Try.ntmps18
  go_wp2_with fail
  refine (put_any (H.out.below hBy.out) hg nw _ _ x (hcap _) (by simpa using hBS.out) (fun g o e hF => by have := (hlt g hF).out; injection e with e; injection e with e; subst e; (try simp at this); omega) ht h0 h1).mono ?_
  rintro e w1 ⟨rfl, F', hS, hD, hT⟩
  have hdB := Lib.hid ((Did.of_below (F := F) hBy.out).trans (Stem.refl _ _) hD)
  have qS := Lib.hid hS
  have qD := Lib.hid (show Did F w w1 from (Did.of_below HB.out).trans (Stem.refl _ _) hdB.out)
  have qT := Lib.hid (show Stem F F' w from (Stem.refl F w).trans (Nat.le_trans HB.out.size hBy.out.size) hT)
  have qA := Lib.hid (hA.out.did hdB.out (fun c => by have := (hlt _ c).out; simp at this; omega))
  have qR := Lib.hid (hR.out.did hdB.out (fun c => by have := (hlt _ c).out; simp at this; omega))
  rw [World.size_alloc, World.size_alloc] at qA
  rw [World.size_alloc] at qR
  clear hA hR H HB hlt hBy hBS hcap hD hT hS hcv hdB hlt3
  have a0 : w1.cell? ⟨w.heap.size + 2, 0, none⟩ = some (.int .i64 0) := (qA.out.cell 0).trans rfl
  have a1 : w1.cell? ⟨w.heap.size + 2, 1, none⟩ = some (.string ⟨#[]⟩) := (qA.out.cell 1).trans rfl
  have a2 : w1.cell? ⟨w.heap.size + 2, 2, none⟩ = some (.int .i64 0) := (qA.out.cell 2).trans rfl
  have r0 : w1.cell? ⟨w.heap.size + 1, 0, none⟩ = some (.int .i64 0) := (qR.out.cell 0).trans rfl
  have r1 : w1.cell? ⟨w.heap.size + 1, 1, none⟩ = some (.string ⟨#[]⟩) := (qR.out.cell 1).trans rfl
  have r2 : w1.cell? ⟨w.heap.size + 1, 2, none⟩ = some (.int .i64 0) := (qR.out.cell 2).trans rfl
  have fa0 := qA.out.free 0
  have fa1 := qA.out.free 1
  have fa2 := qA.out.free 2
  have fr0 := qR.out.free 0
  have fr1 := qR.out.free 1
  have fr2 := qR.out.free 2
  have la : w.heap.size + 2 < w1.heap.size := qA.out.lt
  have lr : w.heap.size + 1 < w1.heap.size := qR.out.lt
  go_wp2
  refine bodyPost_ret (v := (.agg #[.int .i64 (putN s nw x), .string ⟨#[]⟩, .int .i64 0])) (by simp [results, Try.results18, go_sem, a0, a1, a2, r0, r1, r2, la, lr]) rfl ⟨rfl, F', ?_, ?_, qT.out⟩
  · have s0 := (qS.out.far qA.out (by decide) 0 (.int .i64 (putN s nw x)))
    have b0 := (qR.out.far (p := ⟨w.heap.size + 2, 0, none⟩) (by show w.heap.size + 1 ≠ w.heap.size + 2; omega) (.int .i64 (putN s nw x)))
    have s1 := s0.far b0 (by decide) 0 (.int .i64 (putN s nw x))
    have b1 := b0.set_ 0 (.int .i64 (putN s nw x))
    have s2 := s1.far b1 (by decide) 1 (.string ⟨#[]⟩)
    have b2 := b1.set_ 1 (.string ⟨#[]⟩)
    exact s2.far b2 (by decide) 2 (.int .i64 0)
  · exact ((((qD.out.setCell (p := ⟨w.heap.size + 2, 0, none⟩) (.inr (by show w.heap.size ≤ w.heap.size + 2; omega)) (.int .i64 (putN s nw x)))).setCell (p := ⟨w.heap.size + 1, 0, none⟩) (.inr (by show w.heap.size ≤ w.heap.size + 1; omega)) _).setCell (p := ⟨w.heap.size + 1, 1, none⟩) (.inr (by show w.heap.size ≤ w.heap.size + 1; omega)) _).setCell (p := ⟨w.heap.size + 1, 2, none⟩) (.inr (by show w.heap.size ≤ w.heap.size + 1; omega)) _
theorem does_1 (h : SG w F b k s) (nw n : Int) (x tn : ByteArray) (tk : Int) (tu : Bool) (tf ta tb : Int) (hg : Full s.c.1) (ht : held s + x.size ≤ 1000000000) :
    Calls Try.prog 18 #[.pointer (some ⟨b, 0, none⟩), .agg #[.int .i64 1, .int .i64 nw, .int .i64 n, .string x, .string tn, .int .i64 tk, .bool tu, .int .i64 tf, .int .i64 ta, .int .i64 tb]] w (DoesQ F b k w (forceP s nw x) ((0, ⟨#[]⟩, 0))) := by
  have hcv := conv_str x
  have hB := (((Below.refl w.heap.size w).alloc (Nat.le_refl _) (.cells #[.int .i64 1, .int .i64 nw, .int .i64 n, .string x, .string tn, .int .i64 tk, .bool tu, .int .i64 tf, .int .i64 ta, .int .i64 tb] 52)).alloc (by simp) (.cells #[.int .i64 0, .string ⟨#[]⟩, .int .i64 0] 55)).alloc (by simp; omega) (.cells #[.int .i64 0, .string ⟨#[]⟩, .int .i64 0] 55)
  have hR := Lib.hid ((Blk.new (w.alloc (.cells #[.int .i64 1, .int .i64 nw, .int .i64 n, .string x, .string tn, .int .i64 tk, .bool tu, .int .i64 tf, .int .i64 ta, .int .i64 tb] 52)) 55 #[.int .i64 0, .string ⟨#[]⟩, .int .i64 0]).below ((Below.refl _ _).alloc (Nat.le_refl _) (.cells #[.int .i64 0, .string ⟨#[]⟩, .int .i64 0] 55)))
  have hA := Lib.hid (Blk.new ((w.alloc (.cells #[.int .i64 1, .int .i64 nw, .int .i64 n, .string x, .string tn, .int .i64 tk, .bool tu, .int .i64 tf, .int .i64 ta, .int .i64 tb] 52)).alloc (.cells #[.int .i64 0, .string ⟨#[]⟩, .int .i64 0] 55)) 55 #[.int .i64 0, .string ⟨#[]⟩, .int .i64 0])
  have H := Lib.hid (h.below hB)
  have HB := Lib.hid hB
  have hlt := fun j (hj : F j) => Lib.hid (h.lt hj)
  have hBy := Lib.hid (bytes_below (((w.alloc (.cells #[.int .i64 1, .int .i64 nw, .int .i64 n, .string x, .string tn, .int .i64 tk, .bool tu, .int .i64 tf, .int .i64 ta, .int .i64 tb] 52)).alloc (.cells #[.int .i64 0, .string ⟨#[]⟩, .int .i64 0] 55)).alloc (.cells #[.int .i64 0, .string ⟨#[]⟩, .int .i64 0] 55)) x)
  have hBS := Lib.hid (bytes_new (((w.alloc (.cells #[.int .i64 1, .int .i64 nw, .int .i64 n, .string x, .string tn, .int .i64 tk, .bool tu, .int .i64 tf, .int .i64 ta, .int .i64 tb] 52)).alloc (.cells #[.int .i64 0, .string ⟨#[]⟩, .int .i64 0] 55)).alloc (.cells #[.int .i64 0, .string ⟨#[]⟩, .int .i64 0] 55)) x)
  have hcap := fun (W : World) => grownCap_ge W x.size 0 5
  have hlt3 : (((w.alloc (.cells #[.int .i64 1, .int .i64 nw, .int .i64 n, .string x, .string tn, .int .i64 tk, .bool tu, .int .i64 tf, .int .i64 ta, .int .i64 tb] 52)).alloc (.cells #[.int .i64 0, .string ⟨#[]⟩, .int .i64 0] 55)).alloc (.cells #[.int .i64 0, .string ⟨#[]⟩, .int .i64 0] 55)).heap.size = w.heap.size + 3 := by simp
  clear h hB
  go_enter Try.func18, Try.ntmps18
  go_wp2_with fail
  refine (force_any (H.out.below hBy.out) hg nw _ _ x (by simpa using hBS.out) (fun g o e hF => by have := (hlt g hF).out; injection e with e; injection e with e; subst e; (try simp at this); omega) ht).mono ?_
  rintro e w1 ⟨rfl, F', hS, hD, hT⟩
  have hdB := Lib.hid ((Did.of_below (F := F) hBy.out).trans (Stem.refl _ _) hD)
  have qS := Lib.hid hS
  have qD := Lib.hid (show Did F w w1 from (Did.of_below HB.out).trans (Stem.refl _ _) hdB.out)
  have qT := Lib.hid (show Stem F F' w from (Stem.refl F w).trans (Nat.le_trans HB.out.size hBy.out.size) hT)
  have qA := Lib.hid (hA.out.did hdB.out (fun c => by have := (hlt _ c).out; simp at this; omega))
  have qR := Lib.hid (hR.out.did hdB.out (fun c => by have := (hlt _ c).out; simp at this; omega))
  rw [World.size_alloc, World.size_alloc] at qA
  rw [World.size_alloc] at qR
  clear hA hR H HB hlt hBy hBS hcap hD hT hS hcv hdB hlt3
  have a0 : w1.cell? ⟨w.heap.size + 2, 0, none⟩ = some (.int .i64 0) := (qA.out.cell 0).trans rfl
  have a1 : w1.cell? ⟨w.heap.size + 2, 1, none⟩ = some (.string ⟨#[]⟩) := (qA.out.cell 1).trans rfl
  have a2 : w1.cell? ⟨w.heap.size + 2, 2, none⟩ = some (.int .i64 0) := (qA.out.cell 2).trans rfl
  have r0 : w1.cell? ⟨w.heap.size + 1, 0, none⟩ = some (.int .i64 0) := (qR.out.cell 0).trans rfl
  have r1 : w1.cell? ⟨w.heap.size + 1, 1, none⟩ = some (.string ⟨#[]⟩) := (qR.out.cell 1).trans rfl
  have r2 : w1.cell? ⟨w.heap.size + 1, 2, none⟩ = some (.int .i64 0) := (qR.out.cell 2).trans rfl
  have fa0 := qA.out.free 0
  have fa1 := qA.out.free 1
  have fa2 := qA.out.free 2
  have fr0 := qR.out.free 0
  have fr1 := qR.out.free 1
  have fr2 := qR.out.free 2
  have la : w.heap.size + 2 < w1.heap.size := qA.out.lt
  have lr : w.heap.size + 1 < w1.heap.size := qR.out.lt
  go_wp2
  refine bodyPost_ret (v := (.agg #[.int .i64 0, .string ⟨#[]⟩, .int .i64 0])) (by simp [results, Try.results18, go_sem, a0, a1, a2, r0, r1, r2, la, lr]) rfl ⟨rfl, F', ?_, ?_, qT.out⟩
  · have s0 := qS.out
    have b0 := qR.out
    have s1 := s0.far b0 (by decide) 0 (.int .i64 0)
    have b1 := b0.set_ 0 (.int .i64 0)
    have s2 := s1.far b1 (by decide) 1 (.string ⟨#[]⟩)
    have b2 := b1.set_ 1 (.string ⟨#[]⟩)
    exact s2.far b2 (by decide) 2 (.int .i64 0)
  · exact (((qD.out).setCell (p := ⟨w.heap.size + 1, 0, none⟩) (.inr (by show w.heap.size ≤ w.heap.size + 1; omega)) _).setCell (p := ⟨w.heap.size + 1, 1, none⟩) (.inr (by show w.heap.size ≤ w.heap.size + 1; omega)) _).setCell (p := ⟨w.heap.size + 1, 2, none⟩) (.inr (by show w.heap.size ≤ w.heap.size + 1; omega)) _
theorem does_2 (h : SG w F b k s) (nw n : Int) (x tn : ByteArray) (tk : Int) (tu : Bool) (tf ta tb : Int) (hg : Full s.c.1) (hf : Fit s) (ht : held s ≤ 1000000000) :
    Calls Try.prog 18 #[.pointer (some ⟨b, 0, none⟩), .agg #[.int .i64 2, .int .i64 nw, .int .i64 n, .string x, .string tn, .int .i64 tk, .bool tu, .int .i64 tf, .int .i64 ta, .int .i64 tb]] w (DoesQ F b k w (takeS s nw n) ((0, takeB s nw n, 0))) := by
  have hB := (((Below.refl w.heap.size w).alloc (Nat.le_refl _) (.cells #[.int .i64 2, .int .i64 nw, .int .i64 n, .string x, .string tn, .int .i64 tk, .bool tu, .int .i64 tf, .int .i64 ta, .int .i64 tb] 52)).alloc (by simp) (.cells #[.int .i64 0, .string ⟨#[]⟩, .int .i64 0] 55)).alloc (by simp; omega) (.cells #[.int .i64 0, .string ⟨#[]⟩, .int .i64 0] 55)
  have hR := Lib.hid ((Blk.new (w.alloc (.cells #[.int .i64 2, .int .i64 nw, .int .i64 n, .string x, .string tn, .int .i64 tk, .bool tu, .int .i64 tf, .int .i64 ta, .int .i64 tb] 52)) 55 #[.int .i64 0, .string ⟨#[]⟩, .int .i64 0]).below ((Below.refl _ _).alloc (Nat.le_refl _) (.cells #[.int .i64 0, .string ⟨#[]⟩, .int .i64 0] 55)))
  have hA := Lib.hid (Blk.new ((w.alloc (.cells #[.int .i64 2, .int .i64 nw, .int .i64 n, .string x, .string tn, .int .i64 tk, .bool tu, .int .i64 tf, .int .i64 ta, .int .i64 tb] 52)).alloc (.cells #[.int .i64 0, .string ⟨#[]⟩, .int .i64 0] 55)) 55 #[.int .i64 0, .string ⟨#[]⟩, .int .i64 0])
  have H := Lib.hid (h.below hB)
  have HB := Lib.hid hB
  have hlt := fun j (hj : F j) => Lib.hid (h.lt hj)
  clear h hB
  go_enter Try.func18, Try.ntmps18
  go_wp2_with fail
  refine (take_any H.out hg hf ht nw n).mono ?_
  rintro e w1 ⟨A, cap, rfl, hbs, hS, hD, -⟩
  have hcv := conv_bytes cap hbs
  obtain ⟨F', hF1, hT⟩ : ∃ F', SG w1 F' b k (takeS s nw n) ∧ Stem F F' w := ⟨F, hS, Stem.refl _ _⟩
  have qS := Lib.hid hF1
  have qT := Lib.hid hT
  have qD := Lib.hid (show Did F w w1 from (Did.of_below HB.out).trans (Stem.refl _ _) hD)
  have qA := Lib.hid (hA.out.did hD (fun c => by have := (hlt _ c).out; simp at this; omega))
  have qR := Lib.hid (hR.out.did hD (fun c => by have := (hlt _ c).out; simp at this; omega))
  rw [World.size_alloc, World.size_alloc] at qA
  rw [World.size_alloc] at qR
  clear hA hR H HB hlt hF1 hT hS hD hbs
  have a0 : w1.cell? ⟨w.heap.size + 2, 0, none⟩ = some (.int .i64 0) := (qA.out.cell 0).trans rfl
  have a1 : w1.cell? ⟨w.heap.size + 2, 1, none⟩ = some (.string ⟨#[]⟩) := (qA.out.cell 1).trans rfl
  have a2 : w1.cell? ⟨w.heap.size + 2, 2, none⟩ = some (.int .i64 0) := (qA.out.cell 2).trans rfl
  have r0 : w1.cell? ⟨w.heap.size + 1, 0, none⟩ = some (.int .i64 0) := (qR.out.cell 0).trans rfl
  have r1 : w1.cell? ⟨w.heap.size + 1, 1, none⟩ = some (.string ⟨#[]⟩) := (qR.out.cell 1).trans rfl
  have r2 : w1.cell? ⟨w.heap.size + 1, 2, none⟩ = some (.int .i64 0) := (qR.out.cell 2).trans rfl
  have fa0 := qA.out.free 0
  have fa1 := qA.out.free 1
  have fa2 := qA.out.free 2
  have fr0 := qR.out.free 0
  have fr1 := qR.out.free 1
  have fr2 := qR.out.free 2
  have la : w.heap.size + 2 < w1.heap.size := qA.out.lt
  have lr : w.heap.size + 1 < w1.heap.size := qR.out.lt
  go_wp2
  refine bodyPost_ret (v := (.agg #[.int .i64 0, .string (takeB s nw n), .int .i64 0])) (by simp [results, Try.results18, go_sem, a0, a1, a2, r0, r1, r2, la, lr]) rfl ⟨rfl, F', ?_, ?_, qT.out⟩
  · have s0 := (qS.out.far qA.out (by decide) 1 (.string (takeB s nw n)))
    have b0 := (qR.out.far (p := ⟨w.heap.size + 2, 1, none⟩) (by show w.heap.size + 1 ≠ w.heap.size + 2; omega) (.string (takeB s nw n)))
    have s1 := s0.far b0 (by decide) 0 (.int .i64 0)
    have b1 := b0.set_ 0 (.int .i64 0)
    have s2 := s1.far b1 (by decide) 1 (.string (takeB s nw n))
    have b2 := b1.set_ 1 (.string (takeB s nw n))
    exact s2.far b2 (by decide) 2 (.int .i64 0)
  · exact ((((qD.out.setCell (p := ⟨w.heap.size + 2, 1, none⟩) (.inr (by show w.heap.size ≤ w.heap.size + 2; omega)) (.string (takeB s nw n)))).setCell (p := ⟨w.heap.size + 1, 0, none⟩) (.inr (by show w.heap.size ≤ w.heap.size + 1; omega)) _).setCell (p := ⟨w.heap.size + 1, 1, none⟩) (.inr (by show w.heap.size ≤ w.heap.size + 1; omega)) _).setCell (p := ⟨w.heap.size + 1, 2, none⟩) (.inr (by show w.heap.size ≤ w.heap.size + 1; omega)) _
theorem does_3 (h : SG w F b k s) (nw n : Int) (x tn : ByteArray) (tk : Int) (tu : Bool) (tf ta tb : Int) :
    Calls Try.prog 18 #[.pointer (some ⟨b, 0, none⟩), .agg #[.int .i64 3, .int .i64 nw, .int .i64 n, .string x, .string tn, .int .i64 tk, .bool tu, .int .i64 tf, .int .i64 ta, .int .i64 tb]] w (DoesQ F b k w (closeP s nw) ((0, ⟨#[]⟩, 0))) := by
  have hB := (((Below.refl w.heap.size w).alloc (Nat.le_refl _) (.cells #[.int .i64 3, .int .i64 nw, .int .i64 n, .string x, .string tn, .int .i64 tk, .bool tu, .int .i64 tf, .int .i64 ta, .int .i64 tb] 52)).alloc (by simp) (.cells #[.int .i64 0, .string ⟨#[]⟩, .int .i64 0] 55)).alloc (by simp; omega) (.cells #[.int .i64 0, .string ⟨#[]⟩, .int .i64 0] 55)
  have hR := Lib.hid ((Blk.new (w.alloc (.cells #[.int .i64 3, .int .i64 nw, .int .i64 n, .string x, .string tn, .int .i64 tk, .bool tu, .int .i64 tf, .int .i64 ta, .int .i64 tb] 52)) 55 #[.int .i64 0, .string ⟨#[]⟩, .int .i64 0]).below ((Below.refl _ _).alloc (Nat.le_refl _) (.cells #[.int .i64 0, .string ⟨#[]⟩, .int .i64 0] 55)))
  have hA := Lib.hid (Blk.new ((w.alloc (.cells #[.int .i64 3, .int .i64 nw, .int .i64 n, .string x, .string tn, .int .i64 tk, .bool tu, .int .i64 tf, .int .i64 ta, .int .i64 tb] 52)).alloc (.cells #[.int .i64 0, .string ⟨#[]⟩, .int .i64 0] 55)) 55 #[.int .i64 0, .string ⟨#[]⟩, .int .i64 0])
  have H := Lib.hid (h.below hB)
  have HB := Lib.hid hB
  have hlt := fun j (hj : F j) => Lib.hid (h.lt hj)
  clear h hB
  go_enter Try.func18, Try.ntmps18
  go_wp2_with fail
  refine (close_any H.out nw).mono ?_
  rintro e w1 ⟨rfl, hS, hD⟩
  obtain ⟨F', hF1, hT⟩ : ∃ F', SG w1 F' b k (closeP s nw) ∧ Stem F F' w := ⟨F, hS, Stem.refl _ _⟩
  have qS := Lib.hid hF1
  have qT := Lib.hid hT
  have qD := Lib.hid (show Did F w w1 from (Did.of_below HB.out).trans (Stem.refl _ _) hD)
  have qA := Lib.hid (hA.out.did hD (fun c => by have := (hlt _ c).out; simp at this; omega))
  have qR := Lib.hid (hR.out.did hD (fun c => by have := (hlt _ c).out; simp at this; omega))
  rw [World.size_alloc, World.size_alloc] at qA
  rw [World.size_alloc] at qR
  clear hA hR H HB hlt hF1 hT hS hD
  have a0 : w1.cell? ⟨w.heap.size + 2, 0, none⟩ = some (.int .i64 0) := (qA.out.cell 0).trans rfl
  have a1 : w1.cell? ⟨w.heap.size + 2, 1, none⟩ = some (.string ⟨#[]⟩) := (qA.out.cell 1).trans rfl
  have a2 : w1.cell? ⟨w.heap.size + 2, 2, none⟩ = some (.int .i64 0) := (qA.out.cell 2).trans rfl
  have r0 : w1.cell? ⟨w.heap.size + 1, 0, none⟩ = some (.int .i64 0) := (qR.out.cell 0).trans rfl
  have r1 : w1.cell? ⟨w.heap.size + 1, 1, none⟩ = some (.string ⟨#[]⟩) := (qR.out.cell 1).trans rfl
  have r2 : w1.cell? ⟨w.heap.size + 1, 2, none⟩ = some (.int .i64 0) := (qR.out.cell 2).trans rfl
  have fa0 := qA.out.free 0
  have fa1 := qA.out.free 1
  have fa2 := qA.out.free 2
  have fr0 := qR.out.free 0
  have fr1 := qR.out.free 1
  have fr2 := qR.out.free 2
  have la : w.heap.size + 2 < w1.heap.size := qA.out.lt
  have lr : w.heap.size + 1 < w1.heap.size := qR.out.lt
  go_wp2
  refine bodyPost_ret (v := (.agg #[.int .i64 0, .string ⟨#[]⟩, .int .i64 0])) (by simp [results, Try.results18, go_sem, a0, a1, a2, r0, r1, r2, la, lr]) rfl ⟨rfl, F', ?_, ?_, qT.out⟩
  · have s0 := qS.out
    have b0 := qR.out
    have s1 := s0.far b0 (by decide) 0 (.int .i64 0)
    have b1 := b0.set_ 0 (.int .i64 0)
    have s2 := s1.far b1 (by decide) 1 (.string ⟨#[]⟩)
    have b2 := b1.set_ 1 (.string ⟨#[]⟩)
    exact s2.far b2 (by decide) 2 (.int .i64 0)
  · exact (((qD.out).setCell (p := ⟨w.heap.size + 1, 0, none⟩) (.inr (by show w.heap.size ≤ w.heap.size + 1; omega)) _).setCell (p := ⟨w.heap.size + 1, 1, none⟩) (.inr (by show w.heap.size ≤ w.heap.size + 1; omega)) _).setCell (p := ⟨w.heap.size + 1, 2, none⟩) (.inr (by show w.heap.size ≤ w.heap.size + 1; omega)) _
theorem does_4 (h : SG w F b k s) (nw n : Int) (x tn : ByteArray) (tk : Int) (tu : Bool) (tf ta tb : Int) (ht : held s ≤ 1000000000) :
    Calls Try.prog 18 #[.pointer (some ⟨b, 0, none⟩), .agg #[.int .i64 4, .int .i64 nw, .int .i64 n, .string x, .string tn, .int .i64 tk, .bool tu, .int .i64 tf, .int .i64 ta, .int .i64 tb]] w (DoesQ F b k w (lookP s nw) (((lookP s nw).state, ⟨#[]⟩, 0))) := by
  have hB := (((Below.refl w.heap.size w).alloc (Nat.le_refl _) (.cells #[.int .i64 4, .int .i64 nw, .int .i64 n, .string x, .string tn, .int .i64 tk, .bool tu, .int .i64 tf, .int .i64 ta, .int .i64 tb] 52)).alloc (by simp) (.cells #[.int .i64 0, .string ⟨#[]⟩, .int .i64 0] 55)).alloc (by simp; omega) (.cells #[.int .i64 0, .string ⟨#[]⟩, .int .i64 0] 55)
  have hR := Lib.hid ((Blk.new (w.alloc (.cells #[.int .i64 4, .int .i64 nw, .int .i64 n, .string x, .string tn, .int .i64 tk, .bool tu, .int .i64 tf, .int .i64 ta, .int .i64 tb] 52)) 55 #[.int .i64 0, .string ⟨#[]⟩, .int .i64 0]).below ((Below.refl _ _).alloc (Nat.le_refl _) (.cells #[.int .i64 0, .string ⟨#[]⟩, .int .i64 0] 55)))
  have hA := Lib.hid (Blk.new ((w.alloc (.cells #[.int .i64 4, .int .i64 nw, .int .i64 n, .string x, .string tn, .int .i64 tk, .bool tu, .int .i64 tf, .int .i64 ta, .int .i64 tb] 52)).alloc (.cells #[.int .i64 0, .string ⟨#[]⟩, .int .i64 0] 55)) 55 #[.int .i64 0, .string ⟨#[]⟩, .int .i64 0])
  have H := Lib.hid (h.below hB)
  have HB := Lib.hid hB
  have hlt := fun j (hj : F j) => Lib.hid (h.lt hj)
  clear h hB
  go_enter Try.func18, Try.ntmps18
  go_wp2_with fail
  refine (state_any H.out (by omega) nw).mono ?_
  rintro e w1 ⟨rfl, hS, hD⟩
  obtain ⟨F', hF1, hT⟩ : ∃ F', SG w1 F' b k (lookP s nw) ∧ Stem F F' w := ⟨F, hS, Stem.refl _ _⟩
  have qS := Lib.hid hF1
  have qT := Lib.hid hT
  have qD := Lib.hid (show Did F w w1 from (Did.of_below HB.out).trans (Stem.refl _ _) hD)
  have qA := Lib.hid (hA.out.did hD (fun c => by have := (hlt _ c).out; simp at this; omega))
  have qR := Lib.hid (hR.out.did hD (fun c => by have := (hlt _ c).out; simp at this; omega))
  rw [World.size_alloc, World.size_alloc] at qA
  rw [World.size_alloc] at qR
  clear hA hR H HB hlt hF1 hT hS hD
  have a0 : w1.cell? ⟨w.heap.size + 2, 0, none⟩ = some (.int .i64 0) := (qA.out.cell 0).trans rfl
  have a1 : w1.cell? ⟨w.heap.size + 2, 1, none⟩ = some (.string ⟨#[]⟩) := (qA.out.cell 1).trans rfl
  have a2 : w1.cell? ⟨w.heap.size + 2, 2, none⟩ = some (.int .i64 0) := (qA.out.cell 2).trans rfl
  have r0 : w1.cell? ⟨w.heap.size + 1, 0, none⟩ = some (.int .i64 0) := (qR.out.cell 0).trans rfl
  have r1 : w1.cell? ⟨w.heap.size + 1, 1, none⟩ = some (.string ⟨#[]⟩) := (qR.out.cell 1).trans rfl
  have r2 : w1.cell? ⟨w.heap.size + 1, 2, none⟩ = some (.int .i64 0) := (qR.out.cell 2).trans rfl
  have fa0 := qA.out.free 0
  have fa1 := qA.out.free 1
  have fa2 := qA.out.free 2
  have fr0 := qR.out.free 0
  have fr1 := qR.out.free 1
  have fr2 := qR.out.free 2
  have la : w.heap.size + 2 < w1.heap.size := qA.out.lt
  have lr : w.heap.size + 1 < w1.heap.size := qR.out.lt
  go_wp2
  refine bodyPost_ret (v := (.agg #[.int .i64 ((lookP s nw).state), .string ⟨#[]⟩, .int .i64 0])) (by simp [results, Try.results18, go_sem, a0, a1, a2, r0, r1, r2, la, lr]) rfl ⟨rfl, F', ?_, ?_, qT.out⟩
  · have s0 := (qS.out.far qA.out (by decide) 0 (.int .i64 ((lookP s nw).state)))
    have b0 := (qR.out.far (p := ⟨w.heap.size + 2, 0, none⟩) (by show w.heap.size + 1 ≠ w.heap.size + 2; omega) (.int .i64 ((lookP s nw).state)))
    have s1 := s0.far b0 (by decide) 0 (.int .i64 ((lookP s nw).state))
    have b1 := b0.set_ 0 (.int .i64 ((lookP s nw).state))
    have s2 := s1.far b1 (by decide) 1 (.string ⟨#[]⟩)
    have b2 := b1.set_ 1 (.string ⟨#[]⟩)
    exact s2.far b2 (by decide) 2 (.int .i64 0)
  · exact ((((qD.out.setCell (p := ⟨w.heap.size + 2, 0, none⟩) (.inr (by show w.heap.size ≤ w.heap.size + 2; omega)) (.int .i64 ((lookP s nw).state)))).setCell (p := ⟨w.heap.size + 1, 0, none⟩) (.inr (by show w.heap.size ≤ w.heap.size + 1; omega)) _).setCell (p := ⟨w.heap.size + 1, 1, none⟩) (.inr (by show w.heap.size ≤ w.heap.size + 1; omega)) _).setCell (p := ⟨w.heap.size + 1, 2, none⟩) (.inr (by show w.heap.size ≤ w.heap.size + 1; omega)) _
theorem does_5 (h : SG w F b k s) (nw n : Int) (x tn : ByteArray) (tk : Int) (tu : Bool) (tf ta tb : Int) (ht : held s ≤ 1000000000) (hc0 : 0 ≤ s.clock) (hc1 : s.clock ≤ 1099511627776) (hb : s.t.kind = 2 → Bucket.okB s.b0 s.b1 s.b2 s.b3 = true) :
    Calls Try.prog 18 #[.pointer (some ⟨b, 0, none⟩), .agg #[.int .i64 5, .int .i64 nw, .int .i64 n, .string x, .string tn, .int .i64 tk, .bool tu, .int .i64 tf, .int .i64 ta, .int .i64 tb]] w (DoesQ F b k w (updS s ⟨tn, tk, tu, tf, ta, tb⟩ nw) ((0, ⟨#[]⟩, updE s ⟨tn, tk, tu, tf, ta, tb⟩))) := by
  have hB := (((Below.refl w.heap.size w).alloc (Nat.le_refl _) (.cells #[.int .i64 5, .int .i64 nw, .int .i64 n, .string x, .string tn, .int .i64 tk, .bool tu, .int .i64 tf, .int .i64 ta, .int .i64 tb] 52)).alloc (by simp) (.cells #[.int .i64 0, .string ⟨#[]⟩, .int .i64 0] 55)).alloc (by simp; omega) (.cells #[.int .i64 0, .string ⟨#[]⟩, .int .i64 0] 55)
  have hR := Lib.hid ((Blk.new (w.alloc (.cells #[.int .i64 5, .int .i64 nw, .int .i64 n, .string x, .string tn, .int .i64 tk, .bool tu, .int .i64 tf, .int .i64 ta, .int .i64 tb] 52)) 55 #[.int .i64 0, .string ⟨#[]⟩, .int .i64 0]).below ((Below.refl _ _).alloc (Nat.le_refl _) (.cells #[.int .i64 0, .string ⟨#[]⟩, .int .i64 0] 55)))
  have hA := Lib.hid (Blk.new ((w.alloc (.cells #[.int .i64 5, .int .i64 nw, .int .i64 n, .string x, .string tn, .int .i64 tk, .bool tu, .int .i64 tf, .int .i64 ta, .int .i64 tb] 52)).alloc (.cells #[.int .i64 0, .string ⟨#[]⟩, .int .i64 0] 55)) 55 #[.int .i64 0, .string ⟨#[]⟩, .int .i64 0])
  have H := Lib.hid (h.below hB)
  have HB := Lib.hid hB
  have hlt := fun j (hj : F j) => Lib.hid (h.lt hj)
  clear h hB
  go_enter Try.func18, Try.ntmps18
  go_wp2_with fail
  refine (update_any H.out ht ⟨tn, tk, tu, tf, ta, tb⟩ nw hc0 hc1 hb).mono ?_
  rintro e w1 ⟨rfl, hS, hD⟩
  obtain ⟨F', hF1, hT⟩ : ∃ F', SG w1 F' b k (updS s ⟨tn, tk, tu, tf, ta, tb⟩ nw) ∧ Stem F F' w := ⟨F, hS, Stem.refl _ _⟩
  have qS := Lib.hid hF1
  have qT := Lib.hid hT
  have qD := Lib.hid (show Did F w w1 from (Did.of_below HB.out).trans (Stem.refl _ _) hD)
  have qA := Lib.hid (hA.out.did hD (fun c => by have := (hlt _ c).out; simp at this; omega))
  have qR := Lib.hid (hR.out.did hD (fun c => by have := (hlt _ c).out; simp at this; omega))
  rw [World.size_alloc, World.size_alloc] at qA
  rw [World.size_alloc] at qR
  clear hA hR H HB hlt hF1 hT hS hD
  have a0 : w1.cell? ⟨w.heap.size + 2, 0, none⟩ = some (.int .i64 0) := (qA.out.cell 0).trans rfl
  have a1 : w1.cell? ⟨w.heap.size + 2, 1, none⟩ = some (.string ⟨#[]⟩) := (qA.out.cell 1).trans rfl
  have a2 : w1.cell? ⟨w.heap.size + 2, 2, none⟩ = some (.int .i64 0) := (qA.out.cell 2).trans rfl
  have r0 : w1.cell? ⟨w.heap.size + 1, 0, none⟩ = some (.int .i64 0) := (qR.out.cell 0).trans rfl
  have r1 : w1.cell? ⟨w.heap.size + 1, 1, none⟩ = some (.string ⟨#[]⟩) := (qR.out.cell 1).trans rfl
  have r2 : w1.cell? ⟨w.heap.size + 1, 2, none⟩ = some (.int .i64 0) := (qR.out.cell 2).trans rfl
  have fa0 := qA.out.free 0
  have fa1 := qA.out.free 1
  have fa2 := qA.out.free 2
  have fr0 := qR.out.free 0
  have fr1 := qR.out.free 1
  have fr2 := qR.out.free 2
  have la : w.heap.size + 2 < w1.heap.size := qA.out.lt
  have lr : w.heap.size + 1 < w1.heap.size := qR.out.lt
  go_wp2
  refine bodyPost_ret (v := (.agg #[.int .i64 0, .string ⟨#[]⟩, .int .i64 (updE s ⟨tn, tk, tu, tf, ta, tb⟩)])) (by simp [results, Try.results18, go_sem, a0, a1, a2, r0, r1, r2, la, lr]) rfl ⟨rfl, F', ?_, ?_, qT.out⟩
  · have s0 := (qS.out.far qA.out (by decide) 2 (.int .i64 (updE s ⟨tn, tk, tu, tf, ta, tb⟩)))
    have b0 := (qR.out.far (p := ⟨w.heap.size + 2, 2, none⟩) (by show w.heap.size + 1 ≠ w.heap.size + 2; omega) (.int .i64 (updE s ⟨tn, tk, tu, tf, ta, tb⟩)))
    have s1 := s0.far b0 (by decide) 0 (.int .i64 0)
    have b1 := b0.set_ 0 (.int .i64 0)
    have s2 := s1.far b1 (by decide) 1 (.string ⟨#[]⟩)
    have b2 := b1.set_ 1 (.string ⟨#[]⟩)
    exact s2.far b2 (by decide) 2 (.int .i64 (updE s ⟨tn, tk, tu, tf, ta, tb⟩))
  · exact ((((qD.out.setCell (p := ⟨w.heap.size + 2, 2, none⟩) (.inr (by show w.heap.size ≤ w.heap.size + 2; omega)) (.int .i64 (updE s ⟨tn, tk, tu, tf, ta, tb⟩)))).setCell (p := ⟨w.heap.size + 1, 0, none⟩) (.inr (by show w.heap.size ≤ w.heap.size + 1; omega)) _).setCell (p := ⟨w.heap.size + 1, 1, none⟩) (.inr (by show w.heap.size ≤ w.heap.size + 1; omega)) _).setCell (p := ⟨w.heap.size + 1, 2, none⟩) (.inr (by show w.heap.size ≤ w.heap.size + 1; omega)) _
theorem does_6 (h : SG w F b k s) (nw n : Int) (x tn : ByteArray) (tk : Int) (tu : Bool) (tf ta tb : Int) (ht : held s ≤ 1000000000) :
    Calls Try.prog 18 #[.pointer (some ⟨b, 0, none⟩), .agg #[.int .i64 6, .int .i64 nw, .int .i64 n, .string x, .string tn, .int .i64 tk, .bool tu, .int .i64 tf, .int .i64 ta, .int .i64 tb]] w (DoesQ F b k w (drainP s) ((0, cat s.c.1, 0))) := by
  have hB := (((Below.refl w.heap.size w).alloc (Nat.le_refl _) (.cells #[.int .i64 6, .int .i64 nw, .int .i64 n, .string x, .string tn, .int .i64 tk, .bool tu, .int .i64 tf, .int .i64 ta, .int .i64 tb] 52)).alloc (by simp) (.cells #[.int .i64 0, .string ⟨#[]⟩, .int .i64 0] 55)).alloc (by simp; omega) (.cells #[.int .i64 0, .string ⟨#[]⟩, .int .i64 0] 55)
  have hR := Lib.hid ((Blk.new (w.alloc (.cells #[.int .i64 6, .int .i64 nw, .int .i64 n, .string x, .string tn, .int .i64 tk, .bool tu, .int .i64 tf, .int .i64 ta, .int .i64 tb] 52)) 55 #[.int .i64 0, .string ⟨#[]⟩, .int .i64 0]).below ((Below.refl _ _).alloc (Nat.le_refl _) (.cells #[.int .i64 0, .string ⟨#[]⟩, .int .i64 0] 55)))
  have hA := Lib.hid (Blk.new ((w.alloc (.cells #[.int .i64 6, .int .i64 nw, .int .i64 n, .string x, .string tn, .int .i64 tk, .bool tu, .int .i64 tf, .int .i64 ta, .int .i64 tb] 52)).alloc (.cells #[.int .i64 0, .string ⟨#[]⟩, .int .i64 0] 55)) 55 #[.int .i64 0, .string ⟨#[]⟩, .int .i64 0])
  have H := Lib.hid (h.below hB)
  have HB := Lib.hid hB
  have hlt := fun j (hj : F j) => Lib.hid (h.lt hj)
  have p0 : (((w.alloc (.cells #[.int .i64 6, .int .i64 nw, .int .i64 n, .string x, .string tn, .int .i64 tk, .bool tu, .int .i64 tf, .int .i64 ta, .int .i64 tb] 52)).alloc (.cells #[.int .i64 0, .string ⟨#[]⟩, .int .i64 0] 55)).alloc (.cells #[.int .i64 0, .string ⟨#[]⟩, .int .i64 0] 55)).cell? ⟨b, 0, none⟩ = some (.pointer (some ⟨k, 0, none⟩)) := (H.out.blk.cell 0).trans rfl
  clear h hB
  go_enter Try.func18, Try.ntmps18
  go_wp2_with fail
  refine (drain_any H.out ht).mono ?_
  rintro e w1 ⟨A, cap, rfl, hbs, -, F', hS, hD, hT⟩
  have hcv := conv_bytes cap hbs
  have qS := Lib.hid hS
  have qT := Lib.hid ((Stem.refl F w).trans HB.out.size hT)
  have qD := Lib.hid (show Did F w w1 from (Did.of_below HB.out).trans (Stem.refl _ _) hD)
  have qA := Lib.hid (hA.out.did hD (fun c => by have := (hlt _ c).out; simp at this; omega))
  have qR := Lib.hid (hR.out.did hD (fun c => by have := (hlt _ c).out; simp at this; omega))
  rw [World.size_alloc, World.size_alloc] at qA
  rw [World.size_alloc] at qR
  clear hA hR H HB hlt hS hD hbs hT p0
  have a0 : w1.cell? ⟨w.heap.size + 2, 0, none⟩ = some (.int .i64 0) := (qA.out.cell 0).trans rfl
  have a1 : w1.cell? ⟨w.heap.size + 2, 1, none⟩ = some (.string ⟨#[]⟩) := (qA.out.cell 1).trans rfl
  have a2 : w1.cell? ⟨w.heap.size + 2, 2, none⟩ = some (.int .i64 0) := (qA.out.cell 2).trans rfl
  have r0 : w1.cell? ⟨w.heap.size + 1, 0, none⟩ = some (.int .i64 0) := (qR.out.cell 0).trans rfl
  have r1 : w1.cell? ⟨w.heap.size + 1, 1, none⟩ = some (.string ⟨#[]⟩) := (qR.out.cell 1).trans rfl
  have r2 : w1.cell? ⟨w.heap.size + 1, 2, none⟩ = some (.int .i64 0) := (qR.out.cell 2).trans rfl
  have fa0 := qA.out.free 0
  have fa1 := qA.out.free 1
  have fa2 := qA.out.free 2
  have fr0 := qR.out.free 0
  have fr1 := qR.out.free 1
  have fr2 := qR.out.free 2
  have la : w.heap.size + 2 < w1.heap.size := qA.out.lt
  have lr : w.heap.size + 1 < w1.heap.size := qR.out.lt
  go_wp2
  refine bodyPost_ret (v := (.agg #[.int .i64 0, .string (cat s.c.1), .int .i64 0])) (by simp [results, Try.results18, go_sem, a0, a1, a2, r0, r1, r2, la, lr]) rfl ⟨rfl, F', ?_, ?_, qT.out⟩
  · have s0 := (qS.out.far qA.out (by decide) 1 (.string (cat s.c.1)))
    have b0 := (qR.out.far (p := ⟨w.heap.size + 2, 1, none⟩) (by show w.heap.size + 1 ≠ w.heap.size + 2; omega) (.string (cat s.c.1)))
    have s1 := s0.far b0 (by decide) 0 (.int .i64 0)
    have b1 := b0.set_ 0 (.int .i64 0)
    have s2 := s1.far b1 (by decide) 1 (.string (cat s.c.1))
    have b2 := b1.set_ 1 (.string (cat s.c.1))
    exact s2.far b2 (by decide) 2 (.int .i64 0)
  · exact ((((qD.out.setCell (p := ⟨w.heap.size + 2, 1, none⟩) (.inr (by show w.heap.size ≤ w.heap.size + 2; omega)) (.string (cat s.c.1)))).setCell (p := ⟨w.heap.size + 1, 0, none⟩) (.inr (by show w.heap.size ≤ w.heap.size + 1; omega)) _).setCell (p := ⟨w.heap.size + 1, 1, none⟩) (.inr (by show w.heap.size ≤ w.heap.size + 1; omega)) _).setCell (p := ⟨w.heap.size + 1, 2, none⟩) (.inr (by show w.heap.size ≤ w.heap.size + 1; omega)) _
theorem does_else (h : SG w F b k s) (kd : Int) (nw n : Int) (x tn : ByteArray) (tk : Int) (tu : Bool) (tf ta tb : Int) (h0 : kd ≠ 0) (h1 : kd ≠ 1) (h2 : kd ≠ 2) (h3 : kd ≠ 3) (h4 : kd ≠ 4) (h5 : kd ≠ 5) (h6 : kd ≠ 6) :
    Calls Try.prog 18 #[.pointer (some ⟨b, 0, none⟩), .agg #[.int .i64 kd, .int .i64 nw, .int .i64 n, .string x, .string tn, .int .i64 tk, .bool tu, .int .i64 tf, .int .i64 ta, .int .i64 tb]] w (DoesQ F b k w (s) ((0, ⟨#[]⟩, 0))) := by
  have d0 : (kd == 0) = false := by simpa using h0
  have d1 : (kd == 1) = false := by simpa using h1
  have d2 : (kd == 2) = false := by simpa using h2
  have d3 : (kd == 3) = false := by simpa using h3
  have d4 : (kd == 4) = false := by simpa using h4
  have d5 : (kd == 5) = false := by simpa using h5
  have d6 : (kd == 6) = false := by simpa using h6
  clear h0 h1 h2 h3 h4 h5 h6
  have hB := (((Below.refl w.heap.size w).alloc (Nat.le_refl _) (.cells #[.int .i64 kd, .int .i64 nw, .int .i64 n, .string x, .string tn, .int .i64 tk, .bool tu, .int .i64 tf, .int .i64 ta, .int .i64 tb] 52)).alloc (by simp) (.cells #[.int .i64 0, .string ⟨#[]⟩, .int .i64 0] 55)).alloc (by simp; omega) (.cells #[.int .i64 0, .string ⟨#[]⟩, .int .i64 0] 55)
  have hR := Lib.hid ((Blk.new (w.alloc (.cells #[.int .i64 kd, .int .i64 nw, .int .i64 n, .string x, .string tn, .int .i64 tk, .bool tu, .int .i64 tf, .int .i64 ta, .int .i64 tb] 52)) 55 #[.int .i64 0, .string ⟨#[]⟩, .int .i64 0]).below ((Below.refl _ _).alloc (Nat.le_refl _) (.cells #[.int .i64 0, .string ⟨#[]⟩, .int .i64 0] 55)))
  have hA := Lib.hid (Blk.new ((w.alloc (.cells #[.int .i64 kd, .int .i64 nw, .int .i64 n, .string x, .string tn, .int .i64 tk, .bool tu, .int .i64 tf, .int .i64 ta, .int .i64 tb] 52)).alloc (.cells #[.int .i64 0, .string ⟨#[]⟩, .int .i64 0] 55)) 55 #[.int .i64 0, .string ⟨#[]⟩, .int .i64 0])
  have H := Lib.hid (h.below hB)
  have HB := Lib.hid hB
  have hlt := fun j (hj : F j) => Lib.hid (h.lt hj)
  clear h hB
  go_enter Try.func18, Try.ntmps18
  have hF1 := H.out
  have hT := Stem.refl F w
  have qS := Lib.hid hF1
  have qT := Lib.hid hT
  have qD := Lib.hid (Did.of_below (F := F) HB.out)
  have qA := Lib.hid hA.out
  have qR := Lib.hid hR.out
  rw [World.size_alloc, World.size_alloc] at qA
  rw [World.size_alloc] at qR
  clear hA hR H HB hlt hF1 hT
  go_wp2
  exact bodyPost_ret (v := .agg #[.int .i64 0, .string ⟨#[]⟩, .int .i64 0]) (by simp [results, Try.results18, go_sem]) rfl ⟨rfl, F, qS.out, qD.out, qT.out⟩
theorem does_any (h : SG w F b k s) (hk : Ok s) (hp : s.passed ≤ 1000000000) (o : Op) (ht : held s + o.s.size ≤ 1000000000) :
    Calls Try.prog 18 #[.pointer (some ⟨b, 0, none⟩), o.v] w (DoesQ F b k w (doesS s o) (doesA s o)) := by
  obtain ⟨kd, nw, n, x, tn, tk, tu, tf, ta, tb⟩ := o
  have hg := hk.good.1
  have ht' : held s ≤ 1000000000 := by omega
  have hr0 := hk.r0
  have hr1 := hk.r1
  unfold doesS doesA
  dsimp only at ht ⊢
  by_cases h0 : kd = 0
  · subst h0; simp only [if_pos]; exact does_0 h nw n x tn tk tu tf ta tb hg ht (by omega) (by omega)
  by_cases h1 : kd = 1
  · subst h1; exact does_1 h nw n x tn tk tu tf ta tb hg ht
  by_cases h2 : kd = 2
  · subst h2; exact does_2 h nw n x tn tk tu tf ta tb hg (hk.fit hp) ht'
  by_cases h3 : kd = 3
  · subst h3; exact does_3 h nw n x tn tk tu tf ta tb
  by_cases h4 : kd = 4
  · subst h4; exact does_4 h nw n x tn tk tu tf ta tb ht'
  by_cases h5 : kd = 5
  · subst h5; exact does_5 h nw n x tn tk tu tf ta tb ht' hk.k0 hk.k1 hk.bk
  by_cases h6 : kd = 6
  · subst h6; exact does_6 h nw n x tn tk tu tf ta tb ht'
  simp only [if_neg h0, if_neg h1, if_neg h2, if_neg h3, if_neg h4, if_neg h5, if_neg h6]
  exact does_else h kd nw n x tn tk tu tf ta tb h0 h1 h2 h3 h4 h5 h6
end Go.Proofs.Ytehpliclknfmoaa.Stage
/- A stage of the call's own (chapter 10): each function's contract, told of what lives. Conditions: the bytes are fewer than 2^29. -/
namespace Go.Proofs.Ytehpliclknfmoaa.Stage
open Go.RowKit Mem Tick Cargo Toxic
set_option linter.unusedVariables false
set_option linter.unusedSimpArgs false
/-- since w: block b is stage s, all of it new. -/
def LiveS (w wr : World) (b k : Nat) (s : Sg) : Prop := ∃ F, SG wr F b k s ∧ (∀ j, F j → w.heap.size ≤ j) ∧ Below w.heap.size w wr ∧ Ok s
/-- blocks of other types are as they were. -/
def KeepS (wr w2 : World) : Prop := ∀ g t cs, Blk wr g t cs → t ∉ [61, 78, 80] → Blk w2 g t cs
variable {w wr w1 w2 : World} {F F' : Nat → Prop} {b k : Nat} {s s' : Sg}
theorem KeepS.below (h : Below wr.heap.size wr w2) : KeepS wr w2 := fun _ _ _ hb _ => hb.below h
theorem KeepS.trans (h : KeepS wr w1) (g : KeepS w1 w2) : KeepS wr w2 := fun k t cs hb ht => g k t cs (h k t cs hb ht) ht
theorem SG.keep (h : SG wr F b k s) (hd : Did F wr w2) : KeepS wr w2 := fun g t cs hb ht => hb.did hd (h.off hb ht)
theorem LiveS.old (h : LiveS w wr b k s) : Below w.heap.size w wr := by obtain ⟨F, _, _, hb, _⟩ := h; exact hb
theorem LiveS.ok (h : LiveS w wr b k s) : Ok s := by obtain ⟨F, _, _, _, hg⟩ := h; exact hg
theorem LiveS.below (h : LiveS w wr b k s) (hb : Below wr.heap.size wr w2) : LiveS w w2 b k s := by
  obtain ⟨F, hC, hF, hB, hG⟩ := h
  exact ⟨F, hC.below hb, hF, hB.trans (hb.mono hB.size), hG⟩
theorem LiveS.cell (h : LiveS w wr b k s) : wr.cell? ⟨b, 0, none⟩ = some (.pointer (some ⟨k, 0, none⟩)) := by
  obtain ⟨F, hC, _⟩ := h
  exact (hC.blk.cell 0).trans rfl
theorem LiveS.step (hC : SG wr F b k s) (hF : ∀ j, F j → w.heap.size ≤ j) (hB : Below w.heap.size w wr) (hG : Ok s') (hC2 : SG w2 F' b k s') (hd : Did F wr w2) (hs : Stem F F' wr) : LiveS w w2 b k s' ∧ KeepS wr w2 :=
  ⟨⟨F', hC2, fun j hj => (hs j hj).elim (hF j) (fun h => Nat.le_trans hB.size h), hB.trans (hd.below hB.size hF), hG⟩, hC.keep hd⟩
theorem live_new (t : Tox) (seed room now : Int) (h : newE t room = 0) (hB : Below w.heap.size w wr) :
    Calls Try.prog 8 #[t.v, .int .u64 seed, .int .i64 room, .int .i64 now] wr fun e w2 => ∃ b k, e = .returned (.tuple #[.pointer (some ⟨b, 0, none⟩), .int .i64 0]) ∧ LiveS w w2 b k (newS t seed room now) ∧ Below wr.heap.size wr w2 :=
  (new_any t seed room now wr).mono fun e w2 ⟨h1, _⟩ => by
    obtain ⟨b, k, F, he, hC, hF, hb⟩ := h1 h
    exact ⟨b, k, he, ⟨F, hC, fun j hj => Nat.le_trans hB.size (hF j hj), hB.trans (hb.mono hB.size), Ok.new h⟩, hb⟩
theorem live_none (t : Tox) (seed room now : Int) (h : newE t room ≠ 0) :
    Calls Try.prog 8 #[t.v, .int .u64 seed, .int .i64 room, .int .i64 now] wr fun e w2 => e = .returned (.tuple #[.pointer none, .int .i64 (newE t room)]) ∧ Below wr.heap.size wr w2 :=
  (new_any t seed room now wr).mono fun e w2 ⟨_, h2⟩ => h2 h
theorem Ok.doesS (h : Ok s) (o : Op) : Ok (doesS s o) := by
  unfold Stage.doesS
  split
  · exact h.put _ _
  split
  · exact h.force _ _
  split
  · exact h.take _ _
  split
  · exact h.close _
  split
  · exact h.look _
  split
  · exact h.upd _ _
  split
  · exact h.drain
  · exact h
theorem live_does (h : LiveS w wr b k s) (o : Op) (hp : s.passed ≤ 1000000000) (ht : held s + o.s.size ≤ 1000000000) :
    Calls Try.prog 18 #[.pointer (some ⟨b, 0, none⟩), o.v] wr fun e w2 => e = .returned (Ans.v (doesA s o)) ∧ LiveS w w2 b k (doesS s o) ∧ KeepS wr w2 := by
  obtain ⟨F, hC, hF, hB, hG⟩ := h
  exact (does_any hC hG hp o ht).mono fun e w2 ⟨he, F', hC2, hd, hs⟩ => ⟨he, LiveS.step hC hF hB (hG.doesS o) hC2 hd hs⟩
theorem live_state (h : LiveS w wr b k s) (n : Int) (ht : held s ≤ 1000000000) :
    Calls Try.prog 17 #[.pointer (some ⟨b, 0, none⟩), .int .i64 n] wr fun e w2 => e = .returned (.int .i64 (lookP s n).state) ∧ LiveS w w2 b k (lookP s n) ∧ KeepS wr w2 := by
  obtain ⟨F, hC, hF, hB, hG⟩ := h
  exact (state_any hC (by omega) n).mono fun e w2 ⟨he, hC2, hd⟩ => ⟨he, LiveS.step hC hF hB (hG.look n) hC2 hd (Stem.refl _ _)⟩
theorem live_close (h : LiveS w wr b k s) (n : Int) :
    Calls Try.prog 26 #[.pointer (some ⟨b, 0, none⟩), .int .i64 n] wr fun e w2 => e = .returned (.tuple #[]) ∧ LiveS w w2 b k (closeP s n) ∧ KeepS wr w2 := by
  obtain ⟨F, hC, hF, hB, hG⟩ := h
  exact (close_any hC n).mono fun e w2 ⟨he, hC2, hd⟩ => ⟨he, LiveS.step hC hF hB (hG.close n) hC2 hd (Stem.refl _ _)⟩
theorem live_take (h : LiveS w wr b k s) (n most : Int) (hp : s.passed ≤ 1000000000) (ht : held s ≤ 1000000000) :
    Calls Try.prog 12 #[.pointer (some ⟨b, 0, none⟩), .int .i64 n, .int .i64 most] wr fun e w2 =>
      ∃ A cap, e = .returned (.slice A (takeB s n most).size cap) ∧ BS w2 A (takeB s n most) ∧ Newly wr A ∧ LiveS w w2 b k (takeS s n most) ∧ KeepS wr w2 := by
  obtain ⟨F, hC, hF, hB, hG⟩ := h
  exact (take_any hC hG.good.1 (hG.fit hp) ht n most).mono fun e w2 ⟨A, cap, he, hb, hC2, hd, hN⟩ => ⟨A, cap, he, hb, hN, LiveS.step hC hF hB (hG.take n most) hC2 hd (Stem.refl _ _)⟩
/-- bytes of a block that is not a stage's stay. -/
theorem BS_keepS {A : Option Addr} {x : ByteArray} (h : BS wr A x) (hN : Newly wr A ∨ ∀ g o, A = some ⟨g, o, none⟩ → ∃ cs fr, wr.heap[g]? = some (.cells cs 5 fr)) (hC : SG wr F b k s) (hd : Did F wr w2) : BS w2 A x := by
  refine h.kept fun g ⟨o, e⟩ hg => hd.block g hg fun hF => ?_
  rcases hN with hN | hN
  · have := hC.lt hF
    have := hN g o e
    omega
  · obtain ⟨cs, fr, hh⟩ := hN g o e
    obtain ⟨t, ht, cs', hb⟩ := hC.typed g hF
    unfold Blk at hb
    rw [hh] at hb
    injection hb with hb
    injection hb with _ e2 _
    subst e2
    simp at ht
theorem live_put (h : LiveS w wr b k s) (hb1 : Below wr.heap.size wr w1) (n : Int) (A : Option Addr) (cap : Nat) (x : ByteArray) (hc : x.size ≤ cap) (hb : BS w1 A x) (hN : Newly wr A) (ht : held s + x.size ≤ 1000000000) :
    Calls Try.prog 11 #[.pointer (some ⟨b, 0, none⟩), .int .i64 n, .slice A x.size cap] w1 fun e w2 => e = .returned (.int .i64 (putN s n x)) ∧ LiveS w w2 b k (putS s n x) ∧ KeepS w1 w2 := by
  obtain ⟨F, hC, hF, hB, hG⟩ := h
  have h0 := hG.r0
  have h1 := hG.r1
  exact (put_any (hC.below hb1) hG.good.1 n A cap x hc hb (fun g o e hf => by have := hC.lt hf; have := hN g o e; omega) ht (by omega) (by omega)).mono fun e w2 ⟨he, F', hC2, hd, hs⟩ =>
    ⟨he, LiveS.step (hC.below hb1) hF (hB.trans (hb1.mono hB.size)) (hG.put n x) hC2 hd hs⟩
theorem live_held (h : LiveS w wr b k s) (ht : held s ≤ 1000000000) :
    Calls Try.prog 13 #[.pointer (some ⟨b, 0, none⟩)] wr fun e w2 => e = .returned (.int .i64 (held s)) ∧ LiveS w w2 b k s ∧ Below wr.heap.size wr w2 := by
  have h' := h
  obtain ⟨F, hC, _⟩ := h
  exact (held_any hC (by omega)).mono fun e w2 ⟨he, hb⟩ => ⟨he, h'.below hb, hb⟩
theorem live_passed (h : LiveS w wr b k s) :
    Calls Try.prog 21 #[.pointer (some ⟨b, 0, none⟩)] wr fun e w2 => e = .returned (.int .i64 s.passed) ∧ wr = w2 := by
  obtain ⟨F, hC, _⟩ := h
  exact passed_any hC
theorem live_drain (h : LiveS w wr b k s) (ht : held s ≤ 1000000000) :
    Calls Try.prog 19 #[.pointer (some ⟨k, 0, none⟩)] wr fun e w2 => ∃ A cap, e = .returned (.slice A (cat s.c.1).size cap) ∧ BS w2 A (cat s.c.1) ∧ Newly wr A ∧ LiveS w w2 b k (drainP s) ∧ KeepS wr w2 := by
  obtain ⟨F, hC, hF, hB, hG⟩ := h
  exact (drain_any hC ht).mono fun e w2 ⟨A, cap, he, hb, hN, F', hC2, hd, hs⟩ => ⟨A, cap, he, hb, hN, LiveS.step hC hF hB hG.drain hC2 hd hs⟩
end Go.Proofs.Ytehpliclknfmoaa.Stage
/- alive (chapter 10). Conditions: none. -/
namespace Go.Proofs.Ytehpliclknfmoaa.Stage
open Go.RowKit Mem Tick Cargo Toxic
set_option maxRecDepth 100000
set_option linter.unusedVariables false
set_option linter.unusedSimpArgs false
def aT : Tox := ⟨⟨#[97]⟩, 1, false, 100, 5, 0⟩
theorem al0 : newE aT 9 = 0 := by
  have hp : passB aT = false := by simp [passB, sameT, noTox, aT]
  have hc : chk aT = 0 := by decide
  unfold newE
  rw [if_neg (fun h => h.2 hc)]
  decide
def S1 : Sg := { new0 aT 7 9 0 with dice := Ref02.rangeS 7 5 5, c := ([(5, sAB)], 5) }
theorem al1 : putS (newS aT 7 9 0) 0 sAB = S1 := by
  have h0 : newS aT 7 9 0 = new0 aT 7 9 0 := if_neg (by decide)
  rw [h0]
  have h1 : lookP (new0 aT 7 9 0) 0 = new0 aT 7 9 0 := by rfl
  unfold putS
  rw [h1, if_neg (by decide)]
  have h2 : sAB.extract 0 (roomFor (new0 aT 7 9 0) sAB) = sAB := by rfl
  rw [h2]
  unfold forceP
  rw [h1, if_neg (by decide)]
  unfold putIn
  have h3 : (diceP (new0 aT 7 9 0)).c = ([], 0) := by rfl
  have h4 : whenP (new0 aT 7 9 0) = 5 := by kernel_rfl
  rw [h3, h4]
  show ({ diceP (new0 aT 7 9 0) with c := (addP [] (putAt 0 5) sAB, putLast 0 5 sAB) } : Sg) = S1
  rw [alive_e1.1, alive_e2.1, alive_e5.1]
  kernel_rfl
theorem al2 : putN (newS aT 7 9 0) 0 sAB = 2 := by rfl
theorem al3 : takeB S1 4 9 = ⟨#[]⟩ := by rfl
def S2 : Sg := takeS S1 4 9
theorem al4 : takeB S2 5 1 = ⟨#[97]⟩ := by rfl
def S3 : Sg := takeS S2 5 1
def S4 : Sg := lookP (closeP S3 5) 5
theorem al5 : S4.state = 0 := by rfl
theorem al6 : takeB S4 6 9 = ⟨#[98]⟩ := by rfl
def S5 : Sg := takeS S4 6 9
theorem al7 : (lookP S5 6).state = 1 := by rfl
theorem al8 : (lookP S5 6).passed = 2 := by rfl
theorem al9 : held (lookP S5 6) = 0 := by rfl
theorem al10 : held (newS aT 7 9 0) = 0 ∧ held S1 = 2 ∧ held S2 = 2 ∧ held S3 = 1 ∧ held S4 = 1 ∧ held S5 = 0 := by refine ⟨?_, ?_, ?_, ?_, ?_, ?_⟩ <;> rfl
theorem al11 : S1.passed = 0 ∧ S2.passed = 0 ∧ S4.passed = 1 := by refine ⟨?_, ?_, ?_⟩ <;> rfl
theorem held_close (s : Sg) (n : Int) : held (closeP s n) = held s := by unfold closeP; split <;> rfl
theorem bs_ab (w : World) : BS (w.alloc (.cells #[.int .u8 97, .int .u8 98] 5 (2, 3))) (some ⟨w.heap.size, 0, none⟩) sAB := sAB_of w
theorem alive_any (w : World) : Calls Try.prog 9 #[] w fun e w' => e = .returned (.bool true) ∧ Below w.heap.size w w' := by
  have hn := fun (wr : World) (hB : Below w.heap.size w wr) => live_new (w := w) (wr := wr) aT 7 9 0 al0 hB
  go_enter Try.func9, Try.ntmps9
  go_wp2_with fail
  refine (hn _ (Below.refl _ _)).mono ?_
  rintro e w0 ⟨b, k, rfl, HL, hB⟩
  have H0 := Lib.hid HL
  clear hn HL hB
  have k1 := Lib.run_convert_bytes_const (P := Try.prog) w0 37 5 #[.int .u8 97, .int .u8 98] 2 2 Try.underlying37 Try.underlying5
  go_wp2_with fail
  refine (live_put H0.out ((Below.refl w0.heap.size w0).alloc (Nat.le_refl _) _) 0 _ 2 sAB (by decide) (sAB_of w0) (fun g o e => by injection e with e; injection e with e; omega) (by rw [al10.1]; decide)).mono ?_
  rintro e w1 ⟨rfl, HL, -⟩
  rw [al1] at HL
  rw [al2]
  have H1 := Lib.hid HL
  clear k1 HL H0
  go_wp2_with fail
  refine (live_take H1.out 4 9 (by rw [al11.1]; decide) (by rw [al10.2.1]; decide)).mono ?_
  rintro e w2 ⟨A2, c2, rfl, -, -, HL, -⟩
  rw [al3]
  have H2 := Lib.hid (show LiveS w w2 b k S2 from HL)
  clear HL H1
  obtain ⟨F, hC2, hF, hB2, hG2⟩ := H2.out
  have HF := Lib.hid (show (∀ j, F j → w.heap.size ≤ j) ∧ Below w.heap.size w w2 from ⟨hF, hB2⟩)
  have HC2 := Lib.hid hC2
  have hOk2 := Lib.hid hG2
  clear H2 hC2 hF hB2 hG2
  go_wp2_with fail
  refine (take_any HC2.out hOk2.out.good.1 (hOk2.out.fit (by rw [al11.2.1]; decide)) (by rw [al10.2.2.1]; decide) 5 1).mono ?_
  rintro e w3 ⟨A3, c3, rfl, hb3, hC3, hD3, hN3⟩
  have HO := Lib.hid (show BS.Off A3 F from fun g o e hf => by have := HC2.out.lt hf; have := hN3 g o e; omega)
  rw [al4] at hb3 ⊢
  have HC3 := Lib.hid (show SG w3 F b k S3 from hC3)
  have HD3 := Lib.hid hD3
  have HB3 := Lib.hid hb3
  clear hb3 hC3 hD3 hN3
  go_wp2_with fail
  refine (close_any HC3.out 5).mono ?_
  rintro e w4 ⟨rfl, hC4, hD4⟩
  have HC4 := Lib.hid hC4
  have HD4 := Lib.hid (HD3.out.trans (Stem.refl _ _) hD4)
  have HB4 := Lib.hid (BS_did HB3.out HO.out hD4)
  clear hC4 hD4 HC3 HD3 HB3
  go_wp2_with fail
  refine (state_any HC4.out (by rw [held_close, al10.2.2.2.1]; decide) 5).mono ?_
  rintro e w5 ⟨rfl, hC5, hD5⟩
  rw [show (lookP (closeP S3 5) 5).state = 0 from al5]
  have HC5 := Lib.hid (show SG w5 F b k S4 from hC5)
  have HD5 := Lib.hid (HD4.out.trans (Stem.refl _ _) hD5)
  have HB5 := Lib.hid (BS_did HB4.out HO.out hD5)
  have hOk4 := Lib.hid (show Ok S4 from (((hOk2.out.take 5 1).close 5).look 5))
  clear hC5 hD5 HC4 HD4 HB4
  go_wp2_with fail
  refine (take_any HC5.out hOk4.out.good.1 (hOk4.out.fit (by rw [al11.2.2]; decide)) (by rw [al10.2.2.2.2.1]; decide) 6 9).mono ?_
  rintro e w6 ⟨A6, c6, rfl, hb6, hC6, hD6, hN6⟩
  rw [al6] at hb6 ⊢
  have hcv3 : (convert 37 9 (.slice A3 1 c3)).run Try.prog w6 = .ok (.string ⟨#[97]⟩) w6 := conv_bytes c3 (BS_did HB5.out HO.out hD6)
  have hcv6 : (convert 37 9 (.slice A6 1 c6)).run Try.prog w6 = .ok (.string ⟨#[98]⟩) w6 := conv_bytes c6 hb6
  have HC6 := Lib.hid (show SG w6 F b k S5 from hC6)
  have HD6 := Lib.hid (HD5.out.trans (Stem.refl _ _) hD6)
  clear hb6 hC6 hD6 hN6 HC5 HD5 HB5
  have e2 : (⟨#[98]⟩ : ByteArray).size = 1 := rfl
  rw [e2]
  clear e2
  go_wp2_with (first
    | (go_at_call 17; (with_reducible refine (state_any HC6.out (by rw [al10.2.2.2.2.2]; decide) 6).mono ?_); rintro e w7 ⟨rfl, hC7, hD7⟩; rw [al7]; have HC7 := Lib.hid hC7; have HD7 := Lib.hid (HD6.out.trans (Stem.refl _ _) hD7); clear hC7 hD7)
    | (go_at_call 21; (with_reducible refine (passed_any HC7.out).mono ?_); rintro e w8 ⟨rfl, rfl⟩; rw [al8])
    | (go_at_call 13; (with_reducible refine (held_any HC7.out (by rw [al9]; decide)).mono ?_); rintro e w9 ⟨rfl, hB9⟩; rw [al9]; have HB9 := Lib.hid hB9; clear hB9))
  go_ret
  exact ⟨by simp, HF.out.2.trans ((HD7.out.below HF.out.2.size HF.out.1).trans (HB9.out.mono (Nat.le_trans HF.out.2.size HD7.out.size)))⟩
end Go.Proofs.Ytehpliclknfmoaa.Stage
