/- A stage that may be (chapter 10): what each call keeps; plain. Conditions: none. -/
import Derived.Test.YtehpliclknfmoaaGreatC21
import Derived.Test.YtehpliclknfmoaaGreatC16
import Derived.Lib.SlBytesConst
import Derived.Deep.DeepCutAuto
import Derived.Test.YtehpliclknfmoaaGreatC5
import Derived.Test.YtehpliclknfmoaaGreatC12
import Derived.Test.YtehpliclknfmoaaGreatC8
import Derived.Test.YtehpliclknfmoaaGreatC20
namespace Go.Proofs.YtehpliclknfmoaaGreat.Stage
open Go.RowKit Mem Tick Cargo Toxic
set_option linter.unusedVariables false
set_option linter.unusedSimpArgs false
structure Ok (s : Sg) : Prop where
  good : Cargo.Good s.c
  tox : passB s.t = true ∨ chk s.t = 0
  r0 : 1 ≤ s.room
  r1 : s.room ≤ 4096
  k0 : 0 ≤ s.clock
  k1 : s.clock ≤ 1099511627776
  bk : s.t.kind = 2 → Bucket.okB s.b0 s.b1 s.b2 s.b3 = true
  p0 : 0 ≤ s.passed
theorem chk_parts {t : Tox} (h : chk t = 0) : nameB t.name = true ∧ kindB t.kind = true ∧ oftenB t.often = true ∧ numB t.kind t.a t.b = true := by
  unfold chk at h
  split at h
  · omega
  split at h
  · omega
  split at h
  · omega
  rename_i h1 h2 h3
  simp only [Bool.and_eq_false_iff, not_or, Bool.not_eq_false] at h1 h2 h3
  exact ⟨h1, h2, h3.1, h3.2⟩
theorem num_parts {k a b : Int} (h : numB k a b = true) : 0 ≤ a ∧ a ≤ 1099511627776 ∧ 0 ≤ b ∧ b ≤ 1099511627776 ∧ (k = 1 → b ≤ a) ∧ (k = 2 → 1 ≤ b ∧ b ≤ 4096) ∧ (k = 3 → 1 ≤ a ∧ a ≤ 4096) ∧ (k = 4 ∨ k = 5 → 0 < a) := by
  unfold numB rightB at h
  simp only [Bool.and_eq_true, decide_eq_true_eq] at h
  obtain ⟨⟨⟨ha, hb⟩, -⟩, hr⟩ := h
  refine ⟨ha.1, ha.2, hb.1, hb.2, fun e => ?_, fun e => ?_, fun e => ?_, fun e => ?_⟩
  · subst e; unfold ruleB at hr; rw [if_pos rfl] at hr; exact of_decide_eq_true hr
  · subst e; unfold ruleB at hr; rw [if_neg (by decide), if_pos rfl] at hr; exact of_decide_eq_true hr
  · subst e; unfold ruleB at hr; rw [if_neg (by decide), if_neg (by decide), if_pos rfl] at hr; exact of_decide_eq_true hr
  · unfold ruleB at hr; rw [if_neg (by omega), if_neg (by omega), if_neg (by omega), if_pos e] at hr; exact of_decide_eq_true hr
theorem tox_parts {t : Tox} (h : passB t = true ∨ chk t = 0) : 0 ≤ t.kind ∧ t.kind ≤ 7 ∧ 0 ≤ t.a ∧ t.a ≤ 1099511627776 ∧ 0 ≤ t.b ∧ t.b ≤ 1099511627776 ∧ (t.kind = 1 → t.b ≤ t.a) ∧ (t.kind = 2 → 1 ≤ t.b ∧ t.b ≤ 4096) ∧ (t.kind = 3 → 1 ≤ t.a ∧ t.a ≤ 4096) ∧ (t.kind = 4 ∨ t.kind = 5 → 0 < t.a) := by
  rcases h with h | h
  · rw [pass_kind h]
    unfold noTox
    exact ⟨by decide, by decide, by decide, by decide, by decide, by decide, (fun _ => by decide), (fun h => by cases h), (fun h => by cases h), (fun h => by rcases h with h | h <;> cases h)⟩
  · obtain ⟨-, hk, -, hn⟩ := chk_parts h
    unfold kindB at hk
    simp only [Bool.and_eq_true, decide_eq_true_eq] at hk
    obtain ⟨h1, h2, h3, h4, h5⟩ := num_parts hn
    exact ⟨by omega, hk.2, h1, h2, h3, h4, h5⟩
theorem Ok.fit {s : Sg} (h : Ok s) (hp : s.passed ≤ 1000000000) : Fit s := by
  obtain ⟨h1, h2, h3, h4, h5, h6, h7, h8, h9, h10⟩ := tox_parts h.tox
  exact ⟨h1, h2, h3, h4, h5, h6, h9, h.p0, hp⟩
theorem Ok.now {s : Sg} (h : Ok s) (n : Int) : Ok (nowP s n) := by
  have := nr_bd (nr n + nr 0)
  have hk0 := h.k0
  have hk1 := h.k1
  refine ⟨h.good, h.tox, h.r0, h.r1, ?_, ?_, h.bk, h.p0⟩
  · show 0 ≤ max s.clock (add n 0); unfold add; omega
  · show max s.clock (add n 0) ≤ 1099511627776; unfold add; omega
theorem Ok.look {s : Sg} (h : Ok s) (n : Int) : Ok (lookP s n) := by
  have h := h.now n
  exact ⟨h.good, h.tox, h.r0, h.r1, h.k0, h.k1, h.bk, h.p0⟩
theorem Ok.dice {s : Sg} (h : Ok s) : Ok (diceP s) := by
  unfold diceP
  split
  · exact ⟨h.good, h.tox, h.r0, h.r1, h.k0, h.k1, h.bk, h.p0⟩
  · exact h
theorem Ok.putIn {s : Sg} (h : Ok s) (t : Int) (x : ByteArray) : Ok (putIn s t x) := by
  have hg : Cargo.Good (stp s.c (0, t, 0, x)) := h.good.stp (0, t, 0, x)
  exact ⟨hg, h.tox, h.r0, h.r1, h.k0, h.k1, h.bk, h.p0⟩
theorem Ok.force {s : Sg} (h : Ok s) (n : Int) (x : ByteArray) : Ok (forceP s n x) := by
  unfold forceP
  split
  · exact h.look n
  · exact ((h.look n).dice).putIn _ _
theorem Ok.put {s : Sg} (h : Ok s) (n : Int) (x : ByteArray) : Ok (putS s n x) := by
  unfold putS
  split
  · exact h.look n
  · exact (h.look n).force n _
theorem Ok.close {s : Sg} (h : Ok s) (n : Int) : Ok (closeP s n) := by
  unfold closeP
  have h := h.now n
  split
  · exact h
  · exact ⟨h.good, h.tox, h.r0, h.r1, h.k0, h.k1, h.bk, h.p0⟩
theorem Ok.drain {s : Sg} (h : Ok s) : Ok (drainP s) :=
  ⟨h.good.stp (3, 0, 0, ⟨#[]⟩), h.tox, h.r0, h.r1, h.k0, h.k1, h.bk, h.p0⟩
theorem someS_ok {s : Sg} (n : Int) (hb : Bucket.okB s.b0 s.b1 s.b2 s.b3 = true) : Bucket.okB (someS s n).b0 (someS s n).b1 (someS s n).b2 (someS s n).b3 = true := by
  have h1 := Bucket.fill_ok (now := s.clock) hb
  have h2 := Bucket.takeK_bd (now := s.clock) (n := n) hb
  have h3 := Bucket.fillL_bd (now := s.clock) hb
  show Bucket.okB s.b0 s.b1 (Bucket.takeL s.b0 s.b1 s.b2 s.b3 s.clock n) (Bucket.takeT s.b0 s.b1 s.b2 s.b3 s.clock n) = true
  rw [show Bucket.takeL s.b0 s.b1 s.b2 s.b3 s.clock n = Bucket.fillL s.b0 s.b1 s.b2 s.b3 s.clock - Bucket.takeK s.b0 s.b1 s.b2 s.b3 s.clock n from if_pos hb, show Bucket.takeT s.b0 s.b1 s.b2 s.b3 s.clock n = Bucket.fillT s.b0 s.b1 s.b2 s.b3 s.clock from if_pos hb]
  have h4 := of_decide_eq_true h1
  unfold Bucket.okB
  unfold Bucket.Ok at h4 ⊢
  exact decide_eq_true ⟨h4.1, h4.2.1, by omega, h4.2.2.2.1, h4.2.2.2.2.1, by omega⟩
theorem Ok.way {s : Sg} (h : Ok s) (n : Int) : Ok (wayS s n) := by
  unfold wayS
  split
  · rename_i h2
    exact ⟨h.good, h.tox, h.r0, h.r1, h.k0, h.k1, fun _ => someS_ok n (h.bk h2), h.p0⟩
  · split
    · unfold sliceS
      split
      · exact h
      · exact ⟨h.good, h.tox, h.r0, h.r1, h.k0, h.k1, h.bk, h.p0⟩
    · exact h
theorem Ok.takeOut {s : Sg} (h : Ok s) (m : Int) : Ok (takeOut s m) := by
  have hw := h.way m
  have hg : Cargo.Good (stp (wayS s m).c (1, s.clock, wayN s m, ⟨#[]⟩)) := hw.good.stp _
  have hp := (wayS_c s m).2.2.1
  have hp0 := h.p0
  exact ⟨hg, hw.tox, hw.r0, hw.r1, hw.k0, hw.k1, hw.bk, by show 0 ≤ s.passed + _; omega⟩
theorem Ok.take {s : Sg} (h : Ok s) (n most : Int) : Ok (takeS s n most) := by
  unfold takeS
  split
  · exact h.look n
  · exact (h.look n).takeOut _
theorem Ok.upd {s : Sg} (h : Ok s) (t : Tox) (n : Int) : Ok (updS s t n) := by
  unfold updS
  split
  · exact h
  rename_i hc
  have hcl := (h.look n)
  have hc0 : chk t = 0 := by
    by_cases e : chk t = 0
    · exact e
    · exact absurd (.inr (.inr e)) hc
  split
  · rename_i h2
    refine ⟨hcl.good, .inr hc0, hcl.r0, hcl.r1, hcl.k0, hcl.k1, fun _ => ?_, hcl.p0⟩
    have hk : s.t.kind = 2 := by
      by_cases e : t.kind = s.t.kind
      · omega
      · exact absurd (.inl e) hc
    have hb := h.bk hk
    have h1 := of_decide_eq_true (Bucket.fill_ok (now := (lookP s n).clock) hb)
    have h3 := of_decide_eq_true (fit_bucketT hc0 h2 0 (by decide) (by decide))
    have hm : min (Bucket.fillL s.b0 s.b1 s.b2 s.b3 (lookP s n).clock) t.b = Bucket.fillL s.b0 s.b1 s.b2 s.b3 (lookP s n).clock ∨ min (Bucket.fillL s.b0 s.b1 s.b2 s.b3 (lookP s n).clock) t.b = t.b := by omega
    unfold Bucket.Ok at h1 h3
    unfold Bucket.okB Bucket.Ok
    refine decide_eq_true ⟨h3.1, h3.2.1, ?_, h1.2.2.2.1, h3.2.2.2.2.1, ?_⟩
    · have := h1.2.2.1
      have := h3.2.1
      show 0 ≤ min _ t.b ∧ min _ t.b ≤ 1099511627776
      omega
    · show min _ t.b ≤ t.b
      omega
  · rename_i h2
    exact ⟨hcl.good, .inr hc0, hcl.r0, hcl.r1, hcl.k0, hcl.k1, fun e => absurd e h2, hcl.p0⟩
theorem newE_parts {t : Tox} {room : Int} (h : newE t room = 0) : (passB t = true ∨ chk t = 0) ∧ 1 ≤ room ∧ room ≤ 4096 := by
  unfold newE at h
  split at h
  · rename_i hc; exact absurd h hc.2
  · rename_i hc
    split at h
    · omega
    · rename_i hr
      unfold roomOk at hr
      simp only [decide_eq_false_iff_not, Decidable.not_not] at hr
      refine ⟨?_, hr⟩
      cases hp : passB t with
      | true => exact .inl rfl
      | false =>
        by_cases e : chk t = 0
        · exact .inr e
        · exact absurd ⟨hp, e⟩ hc
theorem Ok.new {t : Tox} {seed room now : Int} (h : newE t room = 0) : Ok (newS t seed room now) := by
  obtain ⟨ht, h1, h2⟩ := newE_parts h
  have hn := nr_bd (nr now + nr 0)
  have hg : Cargo.Good (([], 0) : St) := Cargo.Good.nil 0
  unfold newS
  split
  · rename_i hk
    have hc : chk t = 0 := by
      rcases ht with hp | hc
      · rw [pass_kind hp] at hk; cases hk
      · exact hc
    exact ⟨hg, ht, h1, h2, hn.1, hn.2, fun _ => fit_bucket hc hk now, Int.le_refl 0⟩
  · rename_i hk
    exact ⟨hg, ht, h1, h2, hn.1, hn.2, fun e => absurd e hk, Int.le_refl 0⟩
/-! how many bytes -/
theorem held_look (s : Sg) (n : Int) : held (lookP s n) = held s := rfl
theorem dice_c (s : Sg) : (diceP s).c = s.c := by unfold diceP; split <;> rfl
theorem cat_force (s : Sg) (n : Int) (x : ByteArray) : cat (forceP s n x).c.1 = if (lookP s n).state ≠ 0 then cat s.c.1 else cat s.c.1 ++ x := by
  unfold forceP
  by_cases h : (lookP s n).state ≠ 0
  · rw [if_pos (.inl h), if_pos h]; rfl
  · rw [if_neg h]
    by_cases hx : x.size = 0
    · rw [if_pos (.inr hx)]
      have : x = ⟨#[]⟩ := empty_of (by omega)
      rw [this, app_nil]; rfl
    · rw [if_neg (by rintro (e | e); exact h e; exact hx e)]
      show cat (addP (diceP (lookP s n)).c.1 _ x) = _
      rw [cat_add, dice_c]; rfl
theorem held_cat (s : Sg) : held s = (cat s.c.1).size := by unfold held; rw [cat_size]
theorem held_force (s : Sg) (n : Int) (x : ByteArray) : held (forceP s n x) ≤ held s + x.size := by
  rw [held_cat, held_cat, cat_force]
  split
  · omega
  · rw [ByteArray.size_append]; omega
theorem ext_size (x : ByteArray) (n : Nat) (h : n ≤ x.size) : (x.extract 0 n).size = n := by simp [ByteArray.size_extract]; omega
theorem held_put (s : Sg) (n : Int) (x : ByteArray) : held (putS s n x) ≤ held s + x.size := by
  unfold putS
  split
  · rw [held_look]; omega
  · have := held_force (lookP s n) n (x.extract 0 (roomFor (lookP s n) x))
    rw [ext_size _ _ (room_le _ _), held_look] at this
    have := room_le (lookP s n) x
    omega
theorem held_take (s : Sg) (n most : Int) : (takeB s n most).size + held (takeS s n most) = held s := by
  unfold takeB takeS
  by_cases h : (lookP s n).state ≠ 0 ∨ most < 1
  · rw [if_pos h, if_pos h, held_look]; rw [show (ByteArray.size ⟨#[]⟩) = 0 from rfl]; omega
  · rw [if_neg h, if_neg h]
    have := tot_takeP (outN (lookP s n) (readyN (lookP s n) most)) (wayS (lookP s n) (readyN (lookP s n) most)).c.1
    rw [(wayS_c _ _).1] at this
    show (takeP (outN (lookP s n) (readyN (lookP s n) most)) (wayS (lookP s n) (readyN (lookP s n) most)).c.1).1.size + tot (takeP (outN (lookP s n) (readyN (lookP s n) most)) (wayS (lookP s n) (readyN (lookP s n) most)).c.1).2 = _
    rw [(wayS_c _ _).1]
    exact this
theorem passed_take (s : Sg) (n most : Int) : (takeS s n most).passed = s.passed + (takeB s n most).size := by
  unfold takeB takeS
  by_cases h : (lookP s n).state ≠ 0 ∨ most < 1
  · rw [if_pos h, if_pos h]; show s.passed = s.passed + ((0 : Nat) : Int); omega
  · rw [if_neg h, if_neg h]; rfl
end Go.Proofs.YtehpliclknfmoaaGreat.Stage
/- A script of a stage's calls (chapter 10): how it lies in memory, and whether it is short. Conditions: each text is shorter than 2^47 bytes. -/
namespace Go.Proofs.YtehpliclknfmoaaGreat.Stage
open Go.RowKit Mem Tick Cargo Toxic
set_option maxRecDepth 100000
set_option linter.unusedVariables false
set_option linter.unusedSimpArgs false
structure Op where
  kind : Int
  now : Int
  n : Int
  s : ByteArray
  t : Tox
abbrev Op.v (x : Op) : Value := .agg #[.int .i64 x.kind, .int .i64 x.now, .int .i64 x.n, .string x.s, .string x.t.name, .int .i64 x.t.kind, .bool x.t.up, .int .i64 x.t.often, .int .i64 x.t.a, .int .i64 x.t.b]
def opBytes (x : Op) : Nat := x.s.size
def Script (w : World) (v : Value) (l : List Op) : Prop :=
  ∃ a cap, v = .slice a l.length cap ∧ l.length ≤ 9223372036854775807 ∧ (∀ x ∈ l, x.s.size ≤ 140737488351232 ∧ x.t.name.size ≤ 140737488351232) ∧
    (l ≠ [] → ∃ b o, a = some ⟨b, o, none⟩ ∧ ∀ j x, l[j]? = some x → w.cell? ⟨b, o + j * 10, none⟩ = some (.int .i64 x.kind) ∧ w.cell? ⟨b, o + j * 10 + 1, none⟩ = some (.int .i64 x.now) ∧ w.cell? ⟨b, o + j * 10 + 2, none⟩ = some (.int .i64 x.n) ∧ w.cell? ⟨b, o + j * 10 + 3, none⟩ = some (.string x.s) ∧ w.cell? ⟨b, o + j * 10 + 4, none⟩ = some (.string x.t.name) ∧ w.cell? ⟨b, o + j * 10 + 5, none⟩ = some (.int .i64 x.t.kind) ∧ w.cell? ⟨b, o + j * 10 + 6, none⟩ = some (.bool x.t.up) ∧ w.cell? ⟨b, o + j * 10 + 7, none⟩ = some (.int .i64 x.t.often) ∧ w.cell? ⟨b, o + j * 10 + 8, none⟩ = some (.int .i64 x.t.a) ∧ w.cell? ⟨b, o + j * 10 + 9, none⟩ = some (.int .i64 x.t.b))
theorem Script.below {w w' : World} {v : Value} {l : List Op} (h : Script w v l) (hb : Below w.heap.size w w') : Script w' v l := by
  obtain ⟨a, cap, h1, h2, h3, h4⟩ := h
  refine ⟨a, cap, h1, h2, h3, fun hn => ?_⟩
  obtain ⟨b, o, e, hc⟩ := h4 hn
  refine ⟨b, o, e, fun j x hx => ?_⟩
  obtain ⟨c0, c1, c2, c3, c4, c5, c6, c7, c8, c9⟩ := hc j x hx
  exact ⟨bcells hb c0, bcells hb c1, bcells hb c2, bcells hb c3, bcells hb c4, bcells hb c5, bcells hb c6, bcells hb c7, bcells hb c8, bcells hb c9⟩
def bytesOf : List Op → Nat
  | [] => 0
  | x :: r => opBytes x + bytesOf r
theorem bytesOf_append (a b : List Op) : bytesOf (a ++ b) = bytesOf a + bytesOf b := by induction a with | nil => simp [bytesOf] | cons p r ih => simp [bytesOf, ih]; omega
theorem bytesOf_take (l : List Op) (k : Nat) (x : Op) (h : l[k]? = some x) : bytesOf (l.take (k + 1)) = bytesOf (l.take k) + opBytes x := by
  rw [List.take_add_one, h, bytesOf_append]; simp [bytesOf]
theorem bytesOf_le (l : List Op) (k : Nat) : bytesOf (l.take k) ≤ bytesOf l := by
  have := bytesOf_append (l.take k) (l.drop k)
  rw [List.take_append_drop] at this; omega
theorem bytesOf_max (l : List Op) (h : ∀ x ∈ l, x.s.size ≤ 140737488351232 ∧ x.t.name.size ≤ 140737488351232) : bytesOf l ≤ l.length * 281474976702464 := by
  induction l with
  | nil => simp [bytesOf]
  | cons x r ih =>
    have h1 := h x (List.mem_cons_self ..)
    have h2 := ih fun y hy => h y (List.mem_cons_of_mem _ hy)
    simp only [bytesOf, List.length_cons, opBytes]; omega
def fewB (l : List Op) : Bool := decide (l.length ≤ 60) && decide (bytesOf l ≤ 2000)
theorem few_short (v : Value) (l : List Op) (w : World) (hv : Script w v l) (hl : l.length ≤ 60) :
    Calls Tryz.prog 6 #[v] w fun e w' => e = .returned (.bool (decide (bytesOf l ≤ 2000))) ∧ Below w.heap.size w w' := by
  obtain ⟨a, cap, rfl, hm, hs, hA⟩ := hv
  have hmx := bytesOf_max l hs
  have hd : decide ((l.length : Int) ≤ 60) = true := decide_eq_true (by omega)
  clear hs
  go_enter Tryz.func6, Tryz.ntmps6
  go_wp2
  go_loopw [3, 8] (fun nv iv wr => ∃ k : Nat, k ≤ l.length ∧ iv = .int .i64 k ∧ nv = .int .i64 (bytesOf (l.take k)) ∧ Below w.heap.size w wr) (fun _ iv _ => l.length - (intOf iv).toNat)
  case atStart => exact ⟨0, by omega, rfl, by simp [bytesOf], Below.refl _ _⟩
  case round =>
    obtain ⟨k, hk, rfl, rfl, hB⟩ := hrel
    by_cases hlt : k < l.length
    · skip
      obtain ⟨g, o, rfl, hc⟩ := hA (by intro h; subst h; simp at hlt)
      have hx : l[k]? = some l[k] := List.getElem?_eq_getElem hlt
      obtain ⟨d0, d1, d2, d3, d4, d5, d6, d7, d8, d9⟩ := hc k _ hx
      have hs := Lib.hid (bytesOf_take l k _ hx)
      have hle := bytesOf_le l (k + 1)
      rw [hs.out] at hle
      unfold opBytes at hle hs
      generalize l[k] = p at *
      obtain ⟨p0, p1, p2, p3, ⟨t0, t1, t2, t3, t4, t5⟩⟩ := p
      dsimp only at *
      have d0' := bcells hB d0
      have d1' := bcells hB d1
      have d2' := bcells hB d2
      have d3' := bcells hB d3
      have d4' := bcells hB d4
      have d5' := bcells hB d5
      have d6' := bcells hB d6
      have d7' := bcells hB d7
      have d8' := bcells hB d8
      have d9' := bcells hB d9
      generalize hs1 : bytesOf (l.take (k + 1)) = s1 at *
      have hs1' := Lib.hid hs1
      generalize bytesOf (l.take k) = s0 at *
      have hsz := hB.size
      clear hc hx hA d0 d1 d2 d3 d4 d5 d6 d7 d8 d9 hs1
      go_wp2
      go_roundw
      case rel => exact ⟨k + 1, by omega, by go_num, by rw [hs1'.out, hs.out]; go_num, hB.alloc hB.size _⟩
      case measure => simp [intOf]; omega
    · have hk2 : k = l.length := by omega
      subst hk2
      have hnl : ¬ (l.length < l.length) := by omega
      rw [List.take_length]
      go_wp2
      go_ret
      exact ⟨by simp; omega, hB⟩
theorem few_long (v : Value) (l : List Op) (w : World) (hv : Script w v l) (hl : 60 < l.length) :
    Calls Tryz.prog 6 #[v] w fun e w' => e = .returned (.bool false) ∧ Below w.heap.size w w' := by
  obtain ⟨a, cap, rfl, hm, hs, hA⟩ := hv
  have hd : decide ((l.length : Int) ≤ 60) = false := decide_eq_false (by omega)
  clear hs
  go_enter Tryz.func6, Tryz.ntmps6
  go_wp2
  go_loopw [3, 8] (fun nv iv wr => ∃ (k : Nat) (x : Int), k ≤ l.length ∧ iv = .int .i64 k ∧ nv = .int .i64 x ∧ Below w.heap.size w wr) (fun _ iv _ => l.length - (intOf iv).toNat)
  case atStart => exact ⟨0, 0, by omega, rfl, rfl, Below.refl _ _⟩
  case round =>
    obtain ⟨k, x, hk, rfl, rfl, hB⟩ := hrel
    by_cases hlt : k < l.length
    · skip
      obtain ⟨g, o, rfl, hc⟩ := hA (by intro h; subst h; simp at hlt)
      have hx : l[k]? = some l[k] := List.getElem?_eq_getElem hlt
      obtain ⟨d0, d1, d2, d3, d4, d5, d6, d7, d8, d9⟩ := hc k _ hx
      generalize l[k] = p at *
      obtain ⟨p0, p1, p2, p3, ⟨t0, t1, t2, t3, t4, t5⟩⟩ := p
      dsimp only at *
      have d0' := bcells hB d0
      have d1' := bcells hB d1
      have d2' := bcells hB d2
      have d3' := bcells hB d3
      have d4' := bcells hB d4
      have d5' := bcells hB d5
      have d6' := bcells hB d6
      have d7' := bcells hB d7
      have d8' := bcells hB d8
      have d9' := bcells hB d9
      have hsz := hB.size
      clear hc hx hA d0 d1 d2 d3 d4 d5 d6 d7 d8 d9
      go_wp2
      go_roundw
      case rel => exact ⟨k + 1, _, by omega, by go_num, rfl, hB.alloc hB.size _⟩
      case measure => simp [intOf]; omega
    · have hk2 : k = l.length := by omega
      subst hk2
      have hnl : ¬ (l.length < l.length) := by omega
      go_wp2
      go_ret
      exact ⟨rfl, hB⟩
theorem few_any (v : Value) (l : List Op) (w : World) (hv : Script w v l) :
    Calls Tryz.prog 6 #[v] w fun e w' => e = .returned (.bool (fewB l)) ∧ Below w.heap.size w w' := by
  unfold fewB
  by_cases hl : l.length ≤ 60
  · rw [decide_eq_true hl, Bool.true_and]; exact few_short v l w hv hl
  · rw [decide_eq_false hl, Bool.false_and]; exact few_long v l w hv (by omega)
end Go.Proofs.YtehpliclknfmoaaGreat.Stage
/- A stage's calls, as the laws do them (does), and a stage of the call's own (chapter 10). Conditions: the bytes are fewer than 2^29. -/
namespace Go.Proofs.YtehpliclknfmoaaGreat.Stage
open Go.RowKit Mem Tick Cargo Toxic
set_option maxRecDepth 100000
set_option linter.unusedVariables false
set_option linter.unusedSimpArgs false
variable {w w' : World} {F : Nat → Prop} {b k : Nat} {s : Sg}
abbrev Ans := Int × ByteArray × Int
abbrev Ans.v (a : Ans) : Value := .agg #[.int .i64 a.1, .string a.2.1, .int .i64 a.2.2]
def doesA (s : Sg) (o : Op) : Ans :=
  if o.kind = 0 then (putN s o.now o.s, ⟨#[]⟩, 0) else if o.kind = 1 then (0, ⟨#[]⟩, 0) else if o.kind = 2 then (0, takeB s o.now o.n, 0) else if o.kind = 3 then (0, ⟨#[]⟩, 0)
  else if o.kind = 4 then ((lookP s o.now).state, ⟨#[]⟩, 0) else if o.kind = 5 then (0, ⟨#[]⟩, updE s o.t) else if o.kind = 6 then (0, cat s.c.1, 0) else (0, ⟨#[]⟩, 0)
def doesS (s : Sg) (o : Op) : Sg :=
  if o.kind = 0 then putS s o.now o.s else if o.kind = 1 then forceP s o.now o.s else if o.kind = 2 then takeS s o.now o.n else if o.kind = 3 then closeP s o.now
  else if o.kind = 4 then lookP s o.now else if o.kind = 5 then updS s o.t o.now else if o.kind = 6 then drainP s else s
theorem SG.off (h : SG w F b k s) {g : Nat} {t : TypeId} {cs : Array Value} (hb : Blk w g t cs) (ht : t ∉ [59, 83, 100]) : ¬ F g := h.typed.out hb ht
theorem SG.far (h : SG w F b k s) {g : Nat} {t : TypeId} {cs : Array Value} (hb : Blk w g t cs) (ht : t ∉ [59, 83, 100]) (i : Nat) (u : Value) : SG (w.setCell ⟨g, i, none⟩ u) F b k s :=
  h.kept fun j hj => Below.heap_setCell w ⟨g, i, none⟩ u j fun e => h.off hb ht (by have e' : j = g := e; exact e' ▸ hj)
def DoesQ (F : Nat → Prop) (b k : Nat) (w : World) (s' : Sg) (a : Ans) (e : Ending) (w' : World) : Prop :=
  e = .returned (Ans.v a) ∧ ∃ F', SG w' F' b k s' ∧ Did F w w' ∧ Stem F F' w
theorem does_0 (h : SG w F b k s) (nw n : Int) (x tn : ByteArray) (tk : Int) (tu : Bool) (tf ta tb : Int) (hg : Full s.c.1) (ht : held s + x.size ≤ 1000000000) (h0 : 0 ≤ s.room) (h1 : s.room ≤ 1000000000000) :
    Calls Tryz.prog 9 #[.pointer (some ⟨b, 0, none⟩), .agg #[.int .i64 0, .int .i64 nw, .int .i64 n, .string x, .string tn, .int .i64 tk, .bool tu, .int .i64 tf, .int .i64 ta, .int .i64 tb]] w (DoesQ F b k w (putS s nw x) ((putN s nw x, ⟨#[]⟩, 0))) := by
  have hcv := conv_str x
  have hB := (((Below.refl w.heap.size w).alloc (Nat.le_refl _) (.cells #[.int .i64 0, .int .i64 nw, .int .i64 n, .string x, .string tn, .int .i64 tk, .bool tu, .int .i64 tf, .int .i64 ta, .int .i64 tb] 44)).alloc (by simp) (.cells #[.int .i64 0, .string ⟨#[]⟩, .int .i64 0] 46)).alloc (by simp; omega) (.cells #[.int .i64 0, .string ⟨#[]⟩, .int .i64 0] 46)
  have hR := Lib.hid ((Blk.new (w.alloc (.cells #[.int .i64 0, .int .i64 nw, .int .i64 n, .string x, .string tn, .int .i64 tk, .bool tu, .int .i64 tf, .int .i64 ta, .int .i64 tb] 44)) 46 #[.int .i64 0, .string ⟨#[]⟩, .int .i64 0]).below ((Below.refl _ _).alloc (Nat.le_refl _) (.cells #[.int .i64 0, .string ⟨#[]⟩, .int .i64 0] 46)))
  have hA := Lib.hid (Blk.new ((w.alloc (.cells #[.int .i64 0, .int .i64 nw, .int .i64 n, .string x, .string tn, .int .i64 tk, .bool tu, .int .i64 tf, .int .i64 ta, .int .i64 tb] 44)).alloc (.cells #[.int .i64 0, .string ⟨#[]⟩, .int .i64 0] 46)) 46 #[.int .i64 0, .string ⟨#[]⟩, .int .i64 0])
  have H := Lib.hid (h.below hB)
  have HB := Lib.hid hB
  have hlt := fun j (hj : F j) => Lib.hid (h.lt hj)
  have hBy := Lib.hid (bytes_below (((w.alloc (.cells #[.int .i64 0, .int .i64 nw, .int .i64 n, .string x, .string tn, .int .i64 tk, .bool tu, .int .i64 tf, .int .i64 ta, .int .i64 tb] 44)).alloc (.cells #[.int .i64 0, .string ⟨#[]⟩, .int .i64 0] 46)).alloc (.cells #[.int .i64 0, .string ⟨#[]⟩, .int .i64 0] 46)) x)
  have hBS := Lib.hid (bytes_new (((w.alloc (.cells #[.int .i64 0, .int .i64 nw, .int .i64 n, .string x, .string tn, .int .i64 tk, .bool tu, .int .i64 tf, .int .i64 ta, .int .i64 tb] 44)).alloc (.cells #[.int .i64 0, .string ⟨#[]⟩, .int .i64 0] 46)).alloc (.cells #[.int .i64 0, .string ⟨#[]⟩, .int .i64 0] 46)) x)
  have hcap := fun (W : World) => grownCap_ge W x.size 0 5
  have hlt3 : (((w.alloc (.cells #[.int .i64 0, .int .i64 nw, .int .i64 n, .string x, .string tn, .int .i64 tk, .bool tu, .int .i64 tf, .int .i64 ta, .int .i64 tb] 44)).alloc (.cells #[.int .i64 0, .string ⟨#[]⟩, .int .i64 0] 46)).alloc (.cells #[.int .i64 0, .string ⟨#[]⟩, .int .i64 0] 46)).heap.size = w.heap.size + 3 := by simp
  clear h hB
  go_enter Tryz.func9, Tryz.ntmps9
  go_wp2_with fail
  refine (put_any (H.out.below hBy.out) hg nw _ _ x (hcap _) (by simpa using hBS.out) (fun g o e hF => by have := (hlt g hF).out; injection e with e; injection e with e; subst e; (try simp at this); omega) ht h0 h1).mono ?_
  rintro e w1 ⟨rfl, F', hS, hD, hT⟩
  have hdB := Lib.hid ((Did.of_below (F := F) hBy.out).trans (Stem.refl _ _) hD)
  have qS := Lib.hid hS
  have qD := Lib.hid (show Did F w w1 from (Did.of_below HB.out).trans (Stem.refl _ _) hdB.out)
  have qT := Lib.hid (show Stem F F' w from (Stem.refl F w).trans (Nat.le_trans HB.out.size hBy.out.size) hT)
  have qA := Lib.hid (hA.out.did hdB.out (fun c => by have := (hlt _ c).out; simp at this; omega))
  have qR := Lib.hid (hR.out.did hdB.out (fun c => by have := (hlt _ c).out; simp at this; omega))
  rw [World.size_alloc, World.size_alloc] at qA
  rw [World.size_alloc] at qR
  clear hA hR H HB hlt hBy hBS hcap hD hT hS hcv hdB hlt3
  have a0 : w1.cell? ⟨w.heap.size + 2, 0, none⟩ = some (.int .i64 0) := (qA.out.cell 0).trans rfl
  have a1 : w1.cell? ⟨w.heap.size + 2, 1, none⟩ = some (.string ⟨#[]⟩) := (qA.out.cell 1).trans rfl
  have a2 : w1.cell? ⟨w.heap.size + 2, 2, none⟩ = some (.int .i64 0) := (qA.out.cell 2).trans rfl
  have r0 : w1.cell? ⟨w.heap.size + 1, 0, none⟩ = some (.int .i64 0) := (qR.out.cell 0).trans rfl
  have r1 : w1.cell? ⟨w.heap.size + 1, 1, none⟩ = some (.string ⟨#[]⟩) := (qR.out.cell 1).trans rfl
  have r2 : w1.cell? ⟨w.heap.size + 1, 2, none⟩ = some (.int .i64 0) := (qR.out.cell 2).trans rfl
  have fa0 := qA.out.free 0
  have fa1 := qA.out.free 1
  have fa2 := qA.out.free 2
  have fr0 := qR.out.free 0
  have fr1 := qR.out.free 1
  have fr2 := qR.out.free 2
  have la : w.heap.size + 2 < w1.heap.size := qA.out.lt
  have lr : w.heap.size + 1 < w1.heap.size := qR.out.lt
  go_wp2
  refine bodyPost_ret (v := (.agg #[.int .i64 (putN s nw x), .string ⟨#[]⟩, .int .i64 0])) (by simp [results, Tryz.results9, go_sem, a0, a1, a2, r0, r1, r2, la, lr]) rfl ⟨rfl, F', ?_, ?_, qT.out⟩
  · have s0 := (qS.out.far qA.out (by decide) 0 (.int .i64 (putN s nw x)))
    have b0 := (qR.out.far (p := ⟨w.heap.size + 2, 0, none⟩) (by show w.heap.size + 1 ≠ w.heap.size + 2; omega) (.int .i64 (putN s nw x)))
    have s1 := s0.far b0 (by decide) 0 (.int .i64 (putN s nw x))
    have b1 := b0.set_ 0 (.int .i64 (putN s nw x))
    have s2 := s1.far b1 (by decide) 1 (.string ⟨#[]⟩)
    have b2 := b1.set_ 1 (.string ⟨#[]⟩)
    exact s2.far b2 (by decide) 2 (.int .i64 0)
  · exact ((((qD.out.setCell (p := ⟨w.heap.size + 2, 0, none⟩) (.inr (by show w.heap.size ≤ w.heap.size + 2; omega)) (.int .i64 (putN s nw x)))).setCell (p := ⟨w.heap.size + 1, 0, none⟩) (.inr (by show w.heap.size ≤ w.heap.size + 1; omega)) _).setCell (p := ⟨w.heap.size + 1, 1, none⟩) (.inr (by show w.heap.size ≤ w.heap.size + 1; omega)) _).setCell (p := ⟨w.heap.size + 1, 2, none⟩) (.inr (by show w.heap.size ≤ w.heap.size + 1; omega)) _
theorem does_1 (h : SG w F b k s) (nw n : Int) (x tn : ByteArray) (tk : Int) (tu : Bool) (tf ta tb : Int) (hg : Full s.c.1) (ht : held s + x.size ≤ 1000000000) :
    Calls Tryz.prog 9 #[.pointer (some ⟨b, 0, none⟩), .agg #[.int .i64 1, .int .i64 nw, .int .i64 n, .string x, .string tn, .int .i64 tk, .bool tu, .int .i64 tf, .int .i64 ta, .int .i64 tb]] w (DoesQ F b k w (forceP s nw x) ((0, ⟨#[]⟩, 0))) := by
  have hcv := conv_str x
  have hB := (((Below.refl w.heap.size w).alloc (Nat.le_refl _) (.cells #[.int .i64 1, .int .i64 nw, .int .i64 n, .string x, .string tn, .int .i64 tk, .bool tu, .int .i64 tf, .int .i64 ta, .int .i64 tb] 44)).alloc (by simp) (.cells #[.int .i64 0, .string ⟨#[]⟩, .int .i64 0] 46)).alloc (by simp; omega) (.cells #[.int .i64 0, .string ⟨#[]⟩, .int .i64 0] 46)
  have hR := Lib.hid ((Blk.new (w.alloc (.cells #[.int .i64 1, .int .i64 nw, .int .i64 n, .string x, .string tn, .int .i64 tk, .bool tu, .int .i64 tf, .int .i64 ta, .int .i64 tb] 44)) 46 #[.int .i64 0, .string ⟨#[]⟩, .int .i64 0]).below ((Below.refl _ _).alloc (Nat.le_refl _) (.cells #[.int .i64 0, .string ⟨#[]⟩, .int .i64 0] 46)))
  have hA := Lib.hid (Blk.new ((w.alloc (.cells #[.int .i64 1, .int .i64 nw, .int .i64 n, .string x, .string tn, .int .i64 tk, .bool tu, .int .i64 tf, .int .i64 ta, .int .i64 tb] 44)).alloc (.cells #[.int .i64 0, .string ⟨#[]⟩, .int .i64 0] 46)) 46 #[.int .i64 0, .string ⟨#[]⟩, .int .i64 0])
  have H := Lib.hid (h.below hB)
  have HB := Lib.hid hB
  have hlt := fun j (hj : F j) => Lib.hid (h.lt hj)
  have hBy := Lib.hid (bytes_below (((w.alloc (.cells #[.int .i64 1, .int .i64 nw, .int .i64 n, .string x, .string tn, .int .i64 tk, .bool tu, .int .i64 tf, .int .i64 ta, .int .i64 tb] 44)).alloc (.cells #[.int .i64 0, .string ⟨#[]⟩, .int .i64 0] 46)).alloc (.cells #[.int .i64 0, .string ⟨#[]⟩, .int .i64 0] 46)) x)
  have hBS := Lib.hid (bytes_new (((w.alloc (.cells #[.int .i64 1, .int .i64 nw, .int .i64 n, .string x, .string tn, .int .i64 tk, .bool tu, .int .i64 tf, .int .i64 ta, .int .i64 tb] 44)).alloc (.cells #[.int .i64 0, .string ⟨#[]⟩, .int .i64 0] 46)).alloc (.cells #[.int .i64 0, .string ⟨#[]⟩, .int .i64 0] 46)) x)
  have hcap := fun (W : World) => grownCap_ge W x.size 0 5
  have hlt3 : (((w.alloc (.cells #[.int .i64 1, .int .i64 nw, .int .i64 n, .string x, .string tn, .int .i64 tk, .bool tu, .int .i64 tf, .int .i64 ta, .int .i64 tb] 44)).alloc (.cells #[.int .i64 0, .string ⟨#[]⟩, .int .i64 0] 46)).alloc (.cells #[.int .i64 0, .string ⟨#[]⟩, .int .i64 0] 46)).heap.size = w.heap.size + 3 := by simp
  clear h hB
  go_enter Tryz.func9, Tryz.ntmps9
  go_wp2_with fail
  refine (force_any (H.out.below hBy.out) hg nw _ _ x (by simpa using hBS.out) (fun g o e hF => by have := (hlt g hF).out; injection e with e; injection e with e; subst e; (try simp at this); omega) ht).mono ?_
  rintro e w1 ⟨rfl, F', hS, hD, hT⟩
  have hdB := Lib.hid ((Did.of_below (F := F) hBy.out).trans (Stem.refl _ _) hD)
  have qS := Lib.hid hS
  have qD := Lib.hid (show Did F w w1 from (Did.of_below HB.out).trans (Stem.refl _ _) hdB.out)
  have qT := Lib.hid (show Stem F F' w from (Stem.refl F w).trans (Nat.le_trans HB.out.size hBy.out.size) hT)
  have qA := Lib.hid (hA.out.did hdB.out (fun c => by have := (hlt _ c).out; simp at this; omega))
  have qR := Lib.hid (hR.out.did hdB.out (fun c => by have := (hlt _ c).out; simp at this; omega))
  rw [World.size_alloc, World.size_alloc] at qA
  rw [World.size_alloc] at qR
  clear hA hR H HB hlt hBy hBS hcap hD hT hS hcv hdB hlt3
  have a0 : w1.cell? ⟨w.heap.size + 2, 0, none⟩ = some (.int .i64 0) := (qA.out.cell 0).trans rfl
  have a1 : w1.cell? ⟨w.heap.size + 2, 1, none⟩ = some (.string ⟨#[]⟩) := (qA.out.cell 1).trans rfl
  have a2 : w1.cell? ⟨w.heap.size + 2, 2, none⟩ = some (.int .i64 0) := (qA.out.cell 2).trans rfl
  have r0 : w1.cell? ⟨w.heap.size + 1, 0, none⟩ = some (.int .i64 0) := (qR.out.cell 0).trans rfl
  have r1 : w1.cell? ⟨w.heap.size + 1, 1, none⟩ = some (.string ⟨#[]⟩) := (qR.out.cell 1).trans rfl
  have r2 : w1.cell? ⟨w.heap.size + 1, 2, none⟩ = some (.int .i64 0) := (qR.out.cell 2).trans rfl
  have fa0 := qA.out.free 0
  have fa1 := qA.out.free 1
  have fa2 := qA.out.free 2
  have fr0 := qR.out.free 0
  have fr1 := qR.out.free 1
  have fr2 := qR.out.free 2
  have la : w.heap.size + 2 < w1.heap.size := qA.out.lt
  have lr : w.heap.size + 1 < w1.heap.size := qR.out.lt
  go_wp2
  refine bodyPost_ret (v := (.agg #[.int .i64 0, .string ⟨#[]⟩, .int .i64 0])) (by simp [results, Tryz.results9, go_sem, a0, a1, a2, r0, r1, r2, la, lr]) rfl ⟨rfl, F', ?_, ?_, qT.out⟩
  · have s0 := qS.out
    have b0 := qR.out
    have s1 := s0.far b0 (by decide) 0 (.int .i64 0)
    have b1 := b0.set_ 0 (.int .i64 0)
    have s2 := s1.far b1 (by decide) 1 (.string ⟨#[]⟩)
    have b2 := b1.set_ 1 (.string ⟨#[]⟩)
    exact s2.far b2 (by decide) 2 (.int .i64 0)
  · exact (((qD.out).setCell (p := ⟨w.heap.size + 1, 0, none⟩) (.inr (by show w.heap.size ≤ w.heap.size + 1; omega)) _).setCell (p := ⟨w.heap.size + 1, 1, none⟩) (.inr (by show w.heap.size ≤ w.heap.size + 1; omega)) _).setCell (p := ⟨w.heap.size + 1, 2, none⟩) (.inr (by show w.heap.size ≤ w.heap.size + 1; omega)) _
theorem does_2 (h : SG w F b k s) (nw n : Int) (x tn : ByteArray) (tk : Int) (tu : Bool) (tf ta tb : Int) (hg : Full s.c.1) (hf : Fit s) (ht : held s ≤ 1000000000) :
    Calls Tryz.prog 9 #[.pointer (some ⟨b, 0, none⟩), .agg #[.int .i64 2, .int .i64 nw, .int .i64 n, .string x, .string tn, .int .i64 tk, .bool tu, .int .i64 tf, .int .i64 ta, .int .i64 tb]] w (DoesQ F b k w (takeS s nw n) ((0, takeB s nw n, 0))) := by
  have hB := (((Below.refl w.heap.size w).alloc (Nat.le_refl _) (.cells #[.int .i64 2, .int .i64 nw, .int .i64 n, .string x, .string tn, .int .i64 tk, .bool tu, .int .i64 tf, .int .i64 ta, .int .i64 tb] 44)).alloc (by simp) (.cells #[.int .i64 0, .string ⟨#[]⟩, .int .i64 0] 46)).alloc (by simp; omega) (.cells #[.int .i64 0, .string ⟨#[]⟩, .int .i64 0] 46)
  have hR := Lib.hid ((Blk.new (w.alloc (.cells #[.int .i64 2, .int .i64 nw, .int .i64 n, .string x, .string tn, .int .i64 tk, .bool tu, .int .i64 tf, .int .i64 ta, .int .i64 tb] 44)) 46 #[.int .i64 0, .string ⟨#[]⟩, .int .i64 0]).below ((Below.refl _ _).alloc (Nat.le_refl _) (.cells #[.int .i64 0, .string ⟨#[]⟩, .int .i64 0] 46)))
  have hA := Lib.hid (Blk.new ((w.alloc (.cells #[.int .i64 2, .int .i64 nw, .int .i64 n, .string x, .string tn, .int .i64 tk, .bool tu, .int .i64 tf, .int .i64 ta, .int .i64 tb] 44)).alloc (.cells #[.int .i64 0, .string ⟨#[]⟩, .int .i64 0] 46)) 46 #[.int .i64 0, .string ⟨#[]⟩, .int .i64 0])
  have H := Lib.hid (h.below hB)
  have HB := Lib.hid hB
  have hlt := fun j (hj : F j) => Lib.hid (h.lt hj)
  clear h hB
  go_enter Tryz.func9, Tryz.ntmps9
  go_wp2_with fail
  refine (take_any H.out hg hf ht nw n).mono ?_
  rintro e w1 ⟨A, cap, rfl, hbs, hS, hD, -⟩
  have hcv := conv_bytes cap hbs
  obtain ⟨F', hF1, hT⟩ : ∃ F', SG w1 F' b k (takeS s nw n) ∧ Stem F F' w := ⟨F, hS, Stem.refl _ _⟩
  have qS := Lib.hid hF1
  have qT := Lib.hid hT
  have qD := Lib.hid (show Did F w w1 from (Did.of_below HB.out).trans (Stem.refl _ _) hD)
  have qA := Lib.hid (hA.out.did hD (fun c => by have := (hlt _ c).out; simp at this; omega))
  have qR := Lib.hid (hR.out.did hD (fun c => by have := (hlt _ c).out; simp at this; omega))
  rw [World.size_alloc, World.size_alloc] at qA
  rw [World.size_alloc] at qR
  clear hA hR H HB hlt hF1 hT hS hD hbs
  have a0 : w1.cell? ⟨w.heap.size + 2, 0, none⟩ = some (.int .i64 0) := (qA.out.cell 0).trans rfl
  have a1 : w1.cell? ⟨w.heap.size + 2, 1, none⟩ = some (.string ⟨#[]⟩) := (qA.out.cell 1).trans rfl
  have a2 : w1.cell? ⟨w.heap.size + 2, 2, none⟩ = some (.int .i64 0) := (qA.out.cell 2).trans rfl
  have r0 : w1.cell? ⟨w.heap.size + 1, 0, none⟩ = some (.int .i64 0) := (qR.out.cell 0).trans rfl
  have r1 : w1.cell? ⟨w.heap.size + 1, 1, none⟩ = some (.string ⟨#[]⟩) := (qR.out.cell 1).trans rfl
  have r2 : w1.cell? ⟨w.heap.size + 1, 2, none⟩ = some (.int .i64 0) := (qR.out.cell 2).trans rfl
  have fa0 := qA.out.free 0
  have fa1 := qA.out.free 1
  have fa2 := qA.out.free 2
  have fr0 := qR.out.free 0
  have fr1 := qR.out.free 1
  have fr2 := qR.out.free 2
  have la : w.heap.size + 2 < w1.heap.size := qA.out.lt
  have lr : w.heap.size + 1 < w1.heap.size := qR.out.lt
  go_wp2
  refine bodyPost_ret (v := (.agg #[.int .i64 0, .string (takeB s nw n), .int .i64 0])) (by simp [results, Tryz.results9, go_sem, a0, a1, a2, r0, r1, r2, la, lr]) rfl ⟨rfl, F', ?_, ?_, qT.out⟩
  · have s0 := (qS.out.far qA.out (by decide) 1 (.string (takeB s nw n)))
    have b0 := (qR.out.far (p := ⟨w.heap.size + 2, 1, none⟩) (by show w.heap.size + 1 ≠ w.heap.size + 2; omega) (.string (takeB s nw n)))
    have s1 := s0.far b0 (by decide) 0 (.int .i64 0)
    have b1 := b0.set_ 0 (.int .i64 0)
    have s2 := s1.far b1 (by decide) 1 (.string (takeB s nw n))
    have b2 := b1.set_ 1 (.string (takeB s nw n))
    exact s2.far b2 (by decide) 2 (.int .i64 0)
  · exact ((((qD.out.setCell (p := ⟨w.heap.size + 2, 1, none⟩) (.inr (by show w.heap.size ≤ w.heap.size + 2; omega)) (.string (takeB s nw n)))).setCell (p := ⟨w.heap.size + 1, 0, none⟩) (.inr (by show w.heap.size ≤ w.heap.size + 1; omega)) _).setCell (p := ⟨w.heap.size + 1, 1, none⟩) (.inr (by show w.heap.size ≤ w.heap.size + 1; omega)) _).setCell (p := ⟨w.heap.size + 1, 2, none⟩) (.inr (by show w.heap.size ≤ w.heap.size + 1; omega)) _
theorem does_3 (h : SG w F b k s) (nw n : Int) (x tn : ByteArray) (tk : Int) (tu : Bool) (tf ta tb : Int) :
    Calls Tryz.prog 9 #[.pointer (some ⟨b, 0, none⟩), .agg #[.int .i64 3, .int .i64 nw, .int .i64 n, .string x, .string tn, .int .i64 tk, .bool tu, .int .i64 tf, .int .i64 ta, .int .i64 tb]] w (DoesQ F b k w (closeP s nw) ((0, ⟨#[]⟩, 0))) := by
  have hB := (((Below.refl w.heap.size w).alloc (Nat.le_refl _) (.cells #[.int .i64 3, .int .i64 nw, .int .i64 n, .string x, .string tn, .int .i64 tk, .bool tu, .int .i64 tf, .int .i64 ta, .int .i64 tb] 44)).alloc (by simp) (.cells #[.int .i64 0, .string ⟨#[]⟩, .int .i64 0] 46)).alloc (by simp; omega) (.cells #[.int .i64 0, .string ⟨#[]⟩, .int .i64 0] 46)
  have hR := Lib.hid ((Blk.new (w.alloc (.cells #[.int .i64 3, .int .i64 nw, .int .i64 n, .string x, .string tn, .int .i64 tk, .bool tu, .int .i64 tf, .int .i64 ta, .int .i64 tb] 44)) 46 #[.int .i64 0, .string ⟨#[]⟩, .int .i64 0]).below ((Below.refl _ _).alloc (Nat.le_refl _) (.cells #[.int .i64 0, .string ⟨#[]⟩, .int .i64 0] 46)))
  have hA := Lib.hid (Blk.new ((w.alloc (.cells #[.int .i64 3, .int .i64 nw, .int .i64 n, .string x, .string tn, .int .i64 tk, .bool tu, .int .i64 tf, .int .i64 ta, .int .i64 tb] 44)).alloc (.cells #[.int .i64 0, .string ⟨#[]⟩, .int .i64 0] 46)) 46 #[.int .i64 0, .string ⟨#[]⟩, .int .i64 0])
  have H := Lib.hid (h.below hB)
  have HB := Lib.hid hB
  have hlt := fun j (hj : F j) => Lib.hid (h.lt hj)
  clear h hB
  go_enter Tryz.func9, Tryz.ntmps9
  go_wp2_with fail
  refine (close_any H.out nw).mono ?_
  rintro e w1 ⟨rfl, hS, hD⟩
  obtain ⟨F', hF1, hT⟩ : ∃ F', SG w1 F' b k (closeP s nw) ∧ Stem F F' w := ⟨F, hS, Stem.refl _ _⟩
  have qS := Lib.hid hF1
  have qT := Lib.hid hT
  have qD := Lib.hid (show Did F w w1 from (Did.of_below HB.out).trans (Stem.refl _ _) hD)
  have qA := Lib.hid (hA.out.did hD (fun c => by have := (hlt _ c).out; simp at this; omega))
  have qR := Lib.hid (hR.out.did hD (fun c => by have := (hlt _ c).out; simp at this; omega))
  rw [World.size_alloc, World.size_alloc] at qA
  rw [World.size_alloc] at qR
  clear hA hR H HB hlt hF1 hT hS hD
  have a0 : w1.cell? ⟨w.heap.size + 2, 0, none⟩ = some (.int .i64 0) := (qA.out.cell 0).trans rfl
  have a1 : w1.cell? ⟨w.heap.size + 2, 1, none⟩ = some (.string ⟨#[]⟩) := (qA.out.cell 1).trans rfl
  have a2 : w1.cell? ⟨w.heap.size + 2, 2, none⟩ = some (.int .i64 0) := (qA.out.cell 2).trans rfl
  have r0 : w1.cell? ⟨w.heap.size + 1, 0, none⟩ = some (.int .i64 0) := (qR.out.cell 0).trans rfl
  have r1 : w1.cell? ⟨w.heap.size + 1, 1, none⟩ = some (.string ⟨#[]⟩) := (qR.out.cell 1).trans rfl
  have r2 : w1.cell? ⟨w.heap.size + 1, 2, none⟩ = some (.int .i64 0) := (qR.out.cell 2).trans rfl
  have fa0 := qA.out.free 0
  have fa1 := qA.out.free 1
  have fa2 := qA.out.free 2
  have fr0 := qR.out.free 0
  have fr1 := qR.out.free 1
  have fr2 := qR.out.free 2
  have la : w.heap.size + 2 < w1.heap.size := qA.out.lt
  have lr : w.heap.size + 1 < w1.heap.size := qR.out.lt
  go_wp2
  refine bodyPost_ret (v := (.agg #[.int .i64 0, .string ⟨#[]⟩, .int .i64 0])) (by simp [results, Tryz.results9, go_sem, a0, a1, a2, r0, r1, r2, la, lr]) rfl ⟨rfl, F', ?_, ?_, qT.out⟩
  · have s0 := qS.out
    have b0 := qR.out
    have s1 := s0.far b0 (by decide) 0 (.int .i64 0)
    have b1 := b0.set_ 0 (.int .i64 0)
    have s2 := s1.far b1 (by decide) 1 (.string ⟨#[]⟩)
    have b2 := b1.set_ 1 (.string ⟨#[]⟩)
    exact s2.far b2 (by decide) 2 (.int .i64 0)
  · exact (((qD.out).setCell (p := ⟨w.heap.size + 1, 0, none⟩) (.inr (by show w.heap.size ≤ w.heap.size + 1; omega)) _).setCell (p := ⟨w.heap.size + 1, 1, none⟩) (.inr (by show w.heap.size ≤ w.heap.size + 1; omega)) _).setCell (p := ⟨w.heap.size + 1, 2, none⟩) (.inr (by show w.heap.size ≤ w.heap.size + 1; omega)) _
theorem does_4 (h : SG w F b k s) (nw n : Int) (x tn : ByteArray) (tk : Int) (tu : Bool) (tf ta tb : Int) (ht : held s ≤ 1000000000) :
    Calls Tryz.prog 9 #[.pointer (some ⟨b, 0, none⟩), .agg #[.int .i64 4, .int .i64 nw, .int .i64 n, .string x, .string tn, .int .i64 tk, .bool tu, .int .i64 tf, .int .i64 ta, .int .i64 tb]] w (DoesQ F b k w (lookP s nw) (((lookP s nw).state, ⟨#[]⟩, 0))) := by
  have hB := (((Below.refl w.heap.size w).alloc (Nat.le_refl _) (.cells #[.int .i64 4, .int .i64 nw, .int .i64 n, .string x, .string tn, .int .i64 tk, .bool tu, .int .i64 tf, .int .i64 ta, .int .i64 tb] 44)).alloc (by simp) (.cells #[.int .i64 0, .string ⟨#[]⟩, .int .i64 0] 46)).alloc (by simp; omega) (.cells #[.int .i64 0, .string ⟨#[]⟩, .int .i64 0] 46)
  have hR := Lib.hid ((Blk.new (w.alloc (.cells #[.int .i64 4, .int .i64 nw, .int .i64 n, .string x, .string tn, .int .i64 tk, .bool tu, .int .i64 tf, .int .i64 ta, .int .i64 tb] 44)) 46 #[.int .i64 0, .string ⟨#[]⟩, .int .i64 0]).below ((Below.refl _ _).alloc (Nat.le_refl _) (.cells #[.int .i64 0, .string ⟨#[]⟩, .int .i64 0] 46)))
  have hA := Lib.hid (Blk.new ((w.alloc (.cells #[.int .i64 4, .int .i64 nw, .int .i64 n, .string x, .string tn, .int .i64 tk, .bool tu, .int .i64 tf, .int .i64 ta, .int .i64 tb] 44)).alloc (.cells #[.int .i64 0, .string ⟨#[]⟩, .int .i64 0] 46)) 46 #[.int .i64 0, .string ⟨#[]⟩, .int .i64 0])
  have H := Lib.hid (h.below hB)
  have HB := Lib.hid hB
  have hlt := fun j (hj : F j) => Lib.hid (h.lt hj)
  clear h hB
  go_enter Tryz.func9, Tryz.ntmps9
  go_wp2_with fail
  refine (state_any H.out (by omega) nw).mono ?_
  rintro e w1 ⟨rfl, hS, hD⟩
  obtain ⟨F', hF1, hT⟩ : ∃ F', SG w1 F' b k (lookP s nw) ∧ Stem F F' w := ⟨F, hS, Stem.refl _ _⟩
  have qS := Lib.hid hF1
  have qT := Lib.hid hT
  have qD := Lib.hid (show Did F w w1 from (Did.of_below HB.out).trans (Stem.refl _ _) hD)
  have qA := Lib.hid (hA.out.did hD (fun c => by have := (hlt _ c).out; simp at this; omega))
  have qR := Lib.hid (hR.out.did hD (fun c => by have := (hlt _ c).out; simp at this; omega))
  rw [World.size_alloc, World.size_alloc] at qA
  rw [World.size_alloc] at qR
  clear hA hR H HB hlt hF1 hT hS hD
  have a0 : w1.cell? ⟨w.heap.size + 2, 0, none⟩ = some (.int .i64 0) := (qA.out.cell 0).trans rfl
  have a1 : w1.cell? ⟨w.heap.size + 2, 1, none⟩ = some (.string ⟨#[]⟩) := (qA.out.cell 1).trans rfl
  have a2 : w1.cell? ⟨w.heap.size + 2, 2, none⟩ = some (.int .i64 0) := (qA.out.cell 2).trans rfl
  have r0 : w1.cell? ⟨w.heap.size + 1, 0, none⟩ = some (.int .i64 0) := (qR.out.cell 0).trans rfl
  have r1 : w1.cell? ⟨w.heap.size + 1, 1, none⟩ = some (.string ⟨#[]⟩) := (qR.out.cell 1).trans rfl
  have r2 : w1.cell? ⟨w.heap.size + 1, 2, none⟩ = some (.int .i64 0) := (qR.out.cell 2).trans rfl
  have fa0 := qA.out.free 0
  have fa1 := qA.out.free 1
  have fa2 := qA.out.free 2
  have fr0 := qR.out.free 0
  have fr1 := qR.out.free 1
  have fr2 := qR.out.free 2
  have la : w.heap.size + 2 < w1.heap.size := qA.out.lt
  have lr : w.heap.size + 1 < w1.heap.size := qR.out.lt
  go_wp2
  refine bodyPost_ret (v := (.agg #[.int .i64 ((lookP s nw).state), .string ⟨#[]⟩, .int .i64 0])) (by simp [results, Tryz.results9, go_sem, a0, a1, a2, r0, r1, r2, la, lr]) rfl ⟨rfl, F', ?_, ?_, qT.out⟩
  · have s0 := (qS.out.far qA.out (by decide) 0 (.int .i64 ((lookP s nw).state)))
    have b0 := (qR.out.far (p := ⟨w.heap.size + 2, 0, none⟩) (by show w.heap.size + 1 ≠ w.heap.size + 2; omega) (.int .i64 ((lookP s nw).state)))
    have s1 := s0.far b0 (by decide) 0 (.int .i64 ((lookP s nw).state))
    have b1 := b0.set_ 0 (.int .i64 ((lookP s nw).state))
    have s2 := s1.far b1 (by decide) 1 (.string ⟨#[]⟩)
    have b2 := b1.set_ 1 (.string ⟨#[]⟩)
    exact s2.far b2 (by decide) 2 (.int .i64 0)
  · exact ((((qD.out.setCell (p := ⟨w.heap.size + 2, 0, none⟩) (.inr (by show w.heap.size ≤ w.heap.size + 2; omega)) (.int .i64 ((lookP s nw).state)))).setCell (p := ⟨w.heap.size + 1, 0, none⟩) (.inr (by show w.heap.size ≤ w.heap.size + 1; omega)) _).setCell (p := ⟨w.heap.size + 1, 1, none⟩) (.inr (by show w.heap.size ≤ w.heap.size + 1; omega)) _).setCell (p := ⟨w.heap.size + 1, 2, none⟩) (.inr (by show w.heap.size ≤ w.heap.size + 1; omega)) _
theorem does_5 (h : SG w F b k s) (nw n : Int) (x tn : ByteArray) (tk : Int) (tu : Bool) (tf ta tb : Int) (ht : held s ≤ 1000000000) (hc0 : 0 ≤ s.clock) (hc1 : s.clock ≤ 1099511627776) (hb : s.t.kind = 2 → Bucket.okB s.b0 s.b1 s.b2 s.b3 = true) :
    Calls Tryz.prog 9 #[.pointer (some ⟨b, 0, none⟩), .agg #[.int .i64 5, .int .i64 nw, .int .i64 n, .string x, .string tn, .int .i64 tk, .bool tu, .int .i64 tf, .int .i64 ta, .int .i64 tb]] w (DoesQ F b k w (updS s ⟨tn, tk, tu, tf, ta, tb⟩ nw) ((0, ⟨#[]⟩, updE s ⟨tn, tk, tu, tf, ta, tb⟩))) := by
  have hB := (((Below.refl w.heap.size w).alloc (Nat.le_refl _) (.cells #[.int .i64 5, .int .i64 nw, .int .i64 n, .string x, .string tn, .int .i64 tk, .bool tu, .int .i64 tf, .int .i64 ta, .int .i64 tb] 44)).alloc (by simp) (.cells #[.int .i64 0, .string ⟨#[]⟩, .int .i64 0] 46)).alloc (by simp; omega) (.cells #[.int .i64 0, .string ⟨#[]⟩, .int .i64 0] 46)
  have hR := Lib.hid ((Blk.new (w.alloc (.cells #[.int .i64 5, .int .i64 nw, .int .i64 n, .string x, .string tn, .int .i64 tk, .bool tu, .int .i64 tf, .int .i64 ta, .int .i64 tb] 44)) 46 #[.int .i64 0, .string ⟨#[]⟩, .int .i64 0]).below ((Below.refl _ _).alloc (Nat.le_refl _) (.cells #[.int .i64 0, .string ⟨#[]⟩, .int .i64 0] 46)))
  have hA := Lib.hid (Blk.new ((w.alloc (.cells #[.int .i64 5, .int .i64 nw, .int .i64 n, .string x, .string tn, .int .i64 tk, .bool tu, .int .i64 tf, .int .i64 ta, .int .i64 tb] 44)).alloc (.cells #[.int .i64 0, .string ⟨#[]⟩, .int .i64 0] 46)) 46 #[.int .i64 0, .string ⟨#[]⟩, .int .i64 0])
  have H := Lib.hid (h.below hB)
  have HB := Lib.hid hB
  have hlt := fun j (hj : F j) => Lib.hid (h.lt hj)
  clear h hB
  go_enter Tryz.func9, Tryz.ntmps9
  go_wp2_with fail
  refine (update_any H.out ht ⟨tn, tk, tu, tf, ta, tb⟩ nw hc0 hc1 hb).mono ?_
  rintro e w1 ⟨rfl, hS, hD⟩
  obtain ⟨F', hF1, hT⟩ : ∃ F', SG w1 F' b k (updS s ⟨tn, tk, tu, tf, ta, tb⟩ nw) ∧ Stem F F' w := ⟨F, hS, Stem.refl _ _⟩
  have qS := Lib.hid hF1
  have qT := Lib.hid hT
  have qD := Lib.hid (show Did F w w1 from (Did.of_below HB.out).trans (Stem.refl _ _) hD)
  have qA := Lib.hid (hA.out.did hD (fun c => by have := (hlt _ c).out; simp at this; omega))
  have qR := Lib.hid (hR.out.did hD (fun c => by have := (hlt _ c).out; simp at this; omega))
  rw [World.size_alloc, World.size_alloc] at qA
  rw [World.size_alloc] at qR
  clear hA hR H HB hlt hF1 hT hS hD
  have a0 : w1.cell? ⟨w.heap.size + 2, 0, none⟩ = some (.int .i64 0) := (qA.out.cell 0).trans rfl
  have a1 : w1.cell? ⟨w.heap.size + 2, 1, none⟩ = some (.string ⟨#[]⟩) := (qA.out.cell 1).trans rfl
  have a2 : w1.cell? ⟨w.heap.size + 2, 2, none⟩ = some (.int .i64 0) := (qA.out.cell 2).trans rfl
  have r0 : w1.cell? ⟨w.heap.size + 1, 0, none⟩ = some (.int .i64 0) := (qR.out.cell 0).trans rfl
  have r1 : w1.cell? ⟨w.heap.size + 1, 1, none⟩ = some (.string ⟨#[]⟩) := (qR.out.cell 1).trans rfl
  have r2 : w1.cell? ⟨w.heap.size + 1, 2, none⟩ = some (.int .i64 0) := (qR.out.cell 2).trans rfl
  have fa0 := qA.out.free 0
  have fa1 := qA.out.free 1
  have fa2 := qA.out.free 2
  have fr0 := qR.out.free 0
  have fr1 := qR.out.free 1
  have fr2 := qR.out.free 2
  have la : w.heap.size + 2 < w1.heap.size := qA.out.lt
  have lr : w.heap.size + 1 < w1.heap.size := qR.out.lt
  go_wp2
  refine bodyPost_ret (v := (.agg #[.int .i64 0, .string ⟨#[]⟩, .int .i64 (updE s ⟨tn, tk, tu, tf, ta, tb⟩)])) (by simp [results, Tryz.results9, go_sem, a0, a1, a2, r0, r1, r2, la, lr]) rfl ⟨rfl, F', ?_, ?_, qT.out⟩
  · have s0 := (qS.out.far qA.out (by decide) 2 (.int .i64 (updE s ⟨tn, tk, tu, tf, ta, tb⟩)))
    have b0 := (qR.out.far (p := ⟨w.heap.size + 2, 2, none⟩) (by show w.heap.size + 1 ≠ w.heap.size + 2; omega) (.int .i64 (updE s ⟨tn, tk, tu, tf, ta, tb⟩)))
    have s1 := s0.far b0 (by decide) 0 (.int .i64 0)
    have b1 := b0.set_ 0 (.int .i64 0)
    have s2 := s1.far b1 (by decide) 1 (.string ⟨#[]⟩)
    have b2 := b1.set_ 1 (.string ⟨#[]⟩)
    exact s2.far b2 (by decide) 2 (.int .i64 (updE s ⟨tn, tk, tu, tf, ta, tb⟩))
  · exact ((((qD.out.setCell (p := ⟨w.heap.size + 2, 2, none⟩) (.inr (by show w.heap.size ≤ w.heap.size + 2; omega)) (.int .i64 (updE s ⟨tn, tk, tu, tf, ta, tb⟩)))).setCell (p := ⟨w.heap.size + 1, 0, none⟩) (.inr (by show w.heap.size ≤ w.heap.size + 1; omega)) _).setCell (p := ⟨w.heap.size + 1, 1, none⟩) (.inr (by show w.heap.size ≤ w.heap.size + 1; omega)) _).setCell (p := ⟨w.heap.size + 1, 2, none⟩) (.inr (by show w.heap.size ≤ w.heap.size + 1; omega)) _
theorem does_6 (h : SG w F b k s) (nw n : Int) (x tn : ByteArray) (tk : Int) (tu : Bool) (tf ta tb : Int) (ht : held s ≤ 1000000000) :
    Calls Tryz.prog 9 #[.pointer (some ⟨b, 0, none⟩), .agg #[.int .i64 6, .int .i64 nw, .int .i64 n, .string x, .string tn, .int .i64 tk, .bool tu, .int .i64 tf, .int .i64 ta, .int .i64 tb]] w (DoesQ F b k w (drainP s) ((0, cat s.c.1, 0))) := by
  have hB := (((Below.refl w.heap.size w).alloc (Nat.le_refl _) (.cells #[.int .i64 6, .int .i64 nw, .int .i64 n, .string x, .string tn, .int .i64 tk, .bool tu, .int .i64 tf, .int .i64 ta, .int .i64 tb] 44)).alloc (by simp) (.cells #[.int .i64 0, .string ⟨#[]⟩, .int .i64 0] 46)).alloc (by simp; omega) (.cells #[.int .i64 0, .string ⟨#[]⟩, .int .i64 0] 46)
  have hR := Lib.hid ((Blk.new (w.alloc (.cells #[.int .i64 6, .int .i64 nw, .int .i64 n, .string x, .string tn, .int .i64 tk, .bool tu, .int .i64 tf, .int .i64 ta, .int .i64 tb] 44)) 46 #[.int .i64 0, .string ⟨#[]⟩, .int .i64 0]).below ((Below.refl _ _).alloc (Nat.le_refl _) (.cells #[.int .i64 0, .string ⟨#[]⟩, .int .i64 0] 46)))
  have hA := Lib.hid (Blk.new ((w.alloc (.cells #[.int .i64 6, .int .i64 nw, .int .i64 n, .string x, .string tn, .int .i64 tk, .bool tu, .int .i64 tf, .int .i64 ta, .int .i64 tb] 44)).alloc (.cells #[.int .i64 0, .string ⟨#[]⟩, .int .i64 0] 46)) 46 #[.int .i64 0, .string ⟨#[]⟩, .int .i64 0])
  have H := Lib.hid (h.below hB)
  have HB := Lib.hid hB
  have hlt := fun j (hj : F j) => Lib.hid (h.lt hj)
  have p0 : (((w.alloc (.cells #[.int .i64 6, .int .i64 nw, .int .i64 n, .string x, .string tn, .int .i64 tk, .bool tu, .int .i64 tf, .int .i64 ta, .int .i64 tb] 44)).alloc (.cells #[.int .i64 0, .string ⟨#[]⟩, .int .i64 0] 46)).alloc (.cells #[.int .i64 0, .string ⟨#[]⟩, .int .i64 0] 46)).cell? ⟨b, 0, none⟩ = some (.pointer (some ⟨k, 0, none⟩)) := (H.out.blk.cell 0).trans rfl
  clear h hB
  go_enter Tryz.func9, Tryz.ntmps9
  go_wp2_with fail
  refine (drain_any H.out ht).mono ?_
  rintro e w1 ⟨A, cap, rfl, hbs, -, F', hS, hD, hT⟩
  have hcv := conv_bytes cap hbs
  have qS := Lib.hid hS
  have qT := Lib.hid ((Stem.refl F w).trans HB.out.size hT)
  have qD := Lib.hid (show Did F w w1 from (Did.of_below HB.out).trans (Stem.refl _ _) hD)
  have qA := Lib.hid (hA.out.did hD (fun c => by have := (hlt _ c).out; simp at this; omega))
  have qR := Lib.hid (hR.out.did hD (fun c => by have := (hlt _ c).out; simp at this; omega))
  rw [World.size_alloc, World.size_alloc] at qA
  rw [World.size_alloc] at qR
  clear hA hR H HB hlt hS hD hbs hT p0
  have a0 : w1.cell? ⟨w.heap.size + 2, 0, none⟩ = some (.int .i64 0) := (qA.out.cell 0).trans rfl
  have a1 : w1.cell? ⟨w.heap.size + 2, 1, none⟩ = some (.string ⟨#[]⟩) := (qA.out.cell 1).trans rfl
  have a2 : w1.cell? ⟨w.heap.size + 2, 2, none⟩ = some (.int .i64 0) := (qA.out.cell 2).trans rfl
  have r0 : w1.cell? ⟨w.heap.size + 1, 0, none⟩ = some (.int .i64 0) := (qR.out.cell 0).trans rfl
  have r1 : w1.cell? ⟨w.heap.size + 1, 1, none⟩ = some (.string ⟨#[]⟩) := (qR.out.cell 1).trans rfl
  have r2 : w1.cell? ⟨w.heap.size + 1, 2, none⟩ = some (.int .i64 0) := (qR.out.cell 2).trans rfl
  have fa0 := qA.out.free 0
  have fa1 := qA.out.free 1
  have fa2 := qA.out.free 2
  have fr0 := qR.out.free 0
  have fr1 := qR.out.free 1
  have fr2 := qR.out.free 2
  have la : w.heap.size + 2 < w1.heap.size := qA.out.lt
  have lr : w.heap.size + 1 < w1.heap.size := qR.out.lt
  go_wp2
  refine bodyPost_ret (v := (.agg #[.int .i64 0, .string (cat s.c.1), .int .i64 0])) (by simp [results, Tryz.results9, go_sem, a0, a1, a2, r0, r1, r2, la, lr]) rfl ⟨rfl, F', ?_, ?_, qT.out⟩
  · have s0 := (qS.out.far qA.out (by decide) 1 (.string (cat s.c.1)))
    have b0 := (qR.out.far (p := ⟨w.heap.size + 2, 1, none⟩) (by show w.heap.size + 1 ≠ w.heap.size + 2; omega) (.string (cat s.c.1)))
    have s1 := s0.far b0 (by decide) 0 (.int .i64 0)
    have b1 := b0.set_ 0 (.int .i64 0)
    have s2 := s1.far b1 (by decide) 1 (.string (cat s.c.1))
    have b2 := b1.set_ 1 (.string (cat s.c.1))
    exact s2.far b2 (by decide) 2 (.int .i64 0)
  · exact ((((qD.out.setCell (p := ⟨w.heap.size + 2, 1, none⟩) (.inr (by show w.heap.size ≤ w.heap.size + 2; omega)) (.string (cat s.c.1)))).setCell (p := ⟨w.heap.size + 1, 0, none⟩) (.inr (by show w.heap.size ≤ w.heap.size + 1; omega)) _).setCell (p := ⟨w.heap.size + 1, 1, none⟩) (.inr (by show w.heap.size ≤ w.heap.size + 1; omega)) _).setCell (p := ⟨w.heap.size + 1, 2, none⟩) (.inr (by show w.heap.size ≤ w.heap.size + 1; omega)) _
theorem does_else (h : SG w F b k s) (kd : Int) (nw n : Int) (x tn : ByteArray) (tk : Int) (tu : Bool) (tf ta tb : Int) (h0 : kd ≠ 0) (h1 : kd ≠ 1) (h2 : kd ≠ 2) (h3 : kd ≠ 3) (h4 : kd ≠ 4) (h5 : kd ≠ 5) (h6 : kd ≠ 6) :
    Calls Tryz.prog 9 #[.pointer (some ⟨b, 0, none⟩), .agg #[.int .i64 kd, .int .i64 nw, .int .i64 n, .string x, .string tn, .int .i64 tk, .bool tu, .int .i64 tf, .int .i64 ta, .int .i64 tb]] w (DoesQ F b k w (s) ((0, ⟨#[]⟩, 0))) := by
  have d0 : (kd == 0) = false := by simpa using h0
  have d1 : (kd == 1) = false := by simpa using h1
  have d2 : (kd == 2) = false := by simpa using h2
  have d3 : (kd == 3) = false := by simpa using h3
  have d4 : (kd == 4) = false := by simpa using h4
  have d5 : (kd == 5) = false := by simpa using h5
  have d6 : (kd == 6) = false := by simpa using h6
  clear h0 h1 h2 h3 h4 h5 h6
  have hB := (((Below.refl w.heap.size w).alloc (Nat.le_refl _) (.cells #[.int .i64 kd, .int .i64 nw, .int .i64 n, .string x, .string tn, .int .i64 tk, .bool tu, .int .i64 tf, .int .i64 ta, .int .i64 tb] 44)).alloc (by simp) (.cells #[.int .i64 0, .string ⟨#[]⟩, .int .i64 0] 46)).alloc (by simp; omega) (.cells #[.int .i64 0, .string ⟨#[]⟩, .int .i64 0] 46)
  have hR := Lib.hid ((Blk.new (w.alloc (.cells #[.int .i64 kd, .int .i64 nw, .int .i64 n, .string x, .string tn, .int .i64 tk, .bool tu, .int .i64 tf, .int .i64 ta, .int .i64 tb] 44)) 46 #[.int .i64 0, .string ⟨#[]⟩, .int .i64 0]).below ((Below.refl _ _).alloc (Nat.le_refl _) (.cells #[.int .i64 0, .string ⟨#[]⟩, .int .i64 0] 46)))
  have hA := Lib.hid (Blk.new ((w.alloc (.cells #[.int .i64 kd, .int .i64 nw, .int .i64 n, .string x, .string tn, .int .i64 tk, .bool tu, .int .i64 tf, .int .i64 ta, .int .i64 tb] 44)).alloc (.cells #[.int .i64 0, .string ⟨#[]⟩, .int .i64 0] 46)) 46 #[.int .i64 0, .string ⟨#[]⟩, .int .i64 0])
  have H := Lib.hid (h.below hB)
  have HB := Lib.hid hB
  have hlt := fun j (hj : F j) => Lib.hid (h.lt hj)
  clear h hB
  go_enter Tryz.func9, Tryz.ntmps9
  have hF1 := H.out
  have hT := Stem.refl F w
  have qS := Lib.hid hF1
  have qT := Lib.hid hT
  have qD := Lib.hid (Did.of_below (F := F) HB.out)
  have qA := Lib.hid hA.out
  have qR := Lib.hid hR.out
  rw [World.size_alloc, World.size_alloc] at qA
  rw [World.size_alloc] at qR
  clear hA hR H HB hlt hF1 hT
  go_wp2
  exact bodyPost_ret (v := .agg #[.int .i64 0, .string ⟨#[]⟩, .int .i64 0]) (by simp [results, Tryz.results9, go_sem]) rfl ⟨rfl, F, qS.out, qD.out, qT.out⟩
theorem does_any (h : SG w F b k s) (hk : Ok s) (hp : s.passed ≤ 1000000000) (o : Op) (ht : held s + o.s.size ≤ 1000000000) :
    Calls Tryz.prog 9 #[.pointer (some ⟨b, 0, none⟩), o.v] w (DoesQ F b k w (doesS s o) (doesA s o)) := by
  obtain ⟨kd, nw, n, x, tn, tk, tu, tf, ta, tb⟩ := o
  have hg := hk.good.1
  have ht' : held s ≤ 1000000000 := by omega
  have hr0 := hk.r0
  have hr1 := hk.r1
  unfold doesS doesA
  dsimp only at ht ⊢
  by_cases h0 : kd = 0
  · subst h0; simp only [if_pos]; exact does_0 h nw n x tn tk tu tf ta tb hg ht (by omega) (by omega)
  by_cases h1 : kd = 1
  · subst h1; exact does_1 h nw n x tn tk tu tf ta tb hg ht
  by_cases h2 : kd = 2
  · subst h2; exact does_2 h nw n x tn tk tu tf ta tb hg (hk.fit hp) ht'
  by_cases h3 : kd = 3
  · subst h3; exact does_3 h nw n x tn tk tu tf ta tb
  by_cases h4 : kd = 4
  · subst h4; exact does_4 h nw n x tn tk tu tf ta tb ht'
  by_cases h5 : kd = 5
  · subst h5; exact does_5 h nw n x tn tk tu tf ta tb ht' hk.k0 hk.k1 hk.bk
  by_cases h6 : kd = 6
  · subst h6; exact does_6 h nw n x tn tk tu tf ta tb ht'
  simp only [if_neg h0, if_neg h1, if_neg h2, if_neg h3, if_neg h4, if_neg h5, if_neg h6]
  exact does_else h kd nw n x tn tk tu tf ta tb h0 h1 h2 h3 h4 h5 h6
end Go.Proofs.YtehpliclknfmoaaGreat.Stage
/- A stage of the call's own (chapter 10): each function's contract, told of what lives. Conditions: the bytes are fewer than 2^29. -/
namespace Go.Proofs.YtehpliclknfmoaaGreat.Stage
open Go.RowKit Mem Tick Cargo Toxic
set_option linter.unusedVariables false
set_option linter.unusedSimpArgs false
def LiveS (w wr : World) (b k : Nat) (s : Sg) : Prop := ∃ F, SG wr F b k s ∧ (∀ j, F j → w.heap.size ≤ j) ∧ Below w.heap.size w wr ∧ Ok s
def KeepS (wr w2 : World) : Prop := ∀ g t cs, Blk wr g t cs → t ∉ [59, 83, 100] → Blk w2 g t cs
variable {w wr w1 w2 : World} {F F' : Nat → Prop} {b k : Nat} {s s' : Sg}
theorem SG.keep (h : SG wr F b k s) (hd : Did F wr w2) : KeepS wr w2 := fun g t cs hb ht => hb.did hd (h.off hb ht)
theorem LiveS.old (h : LiveS w wr b k s) : Below w.heap.size w wr := by obtain ⟨F, _, _, hb, _⟩ := h; exact hb
theorem LiveS.ok (h : LiveS w wr b k s) : Ok s := by obtain ⟨F, _, _, _, hg⟩ := h; exact hg
theorem LiveS.below (h : LiveS w wr b k s) (hb : Below wr.heap.size wr w2) : LiveS w w2 b k s := by
  obtain ⟨F, hC, hF, hB, hG⟩ := h
  exact ⟨F, hC.below hb, hF, hB.trans (hb.mono hB.size), hG⟩
theorem LiveS.step (hC : SG wr F b k s) (hF : ∀ j, F j → w.heap.size ≤ j) (hB : Below w.heap.size w wr) (hG : Ok s') (hC2 : SG w2 F' b k s') (hd : Did F wr w2) (hs : Stem F F' wr) : LiveS w w2 b k s' ∧ KeepS wr w2 :=
  ⟨⟨F', hC2, fun j hj => (hs j hj).elim (hF j) (fun h => Nat.le_trans hB.size h), hB.trans (hd.below hB.size hF), hG⟩, hC.keep hd⟩
theorem live_new (t : Tox) (seed room now : Int) (h : newE t room = 0) (hB : Below w.heap.size w wr) :
    Calls Tryz.prog 4 #[t.v, .int .u64 seed, .int .i64 room, .int .i64 now] wr fun e w2 => ∃ b k, e = .returned (.tuple #[.pointer (some ⟨b, 0, none⟩), .int .i64 0]) ∧ LiveS w w2 b k (newS t seed room now) ∧ Below wr.heap.size wr w2 :=
  (new_any t seed room now wr).mono fun e w2 ⟨h1, _⟩ => by
    obtain ⟨b, k, F, he, hC, hF, hb⟩ := h1 h
    exact ⟨b, k, he, ⟨F, hC, fun j hj => Nat.le_trans hB.size (hF j hj), hB.trans (hb.mono hB.size), Ok.new h⟩, hb⟩
theorem live_none (t : Tox) (seed room now : Int) (h : newE t room ≠ 0) :
    Calls Tryz.prog 4 #[t.v, .int .u64 seed, .int .i64 room, .int .i64 now] wr fun e w2 => e = .returned (.tuple #[.pointer none, .int .i64 (newE t room)]) ∧ Below wr.heap.size wr w2 :=
  (new_any t seed room now wr).mono fun e w2 ⟨_, h2⟩ => h2 h
theorem Ok.doesS (h : Ok s) (o : Op) : Ok (doesS s o) := by
  unfold Stage.doesS
  split
  · exact h.put _ _
  split
  · exact h.force _ _
  split
  · exact h.take _ _
  split
  · exact h.close _
  split
  · exact h.look _
  split
  · exact h.upd _ _
  split
  · exact h.drain
  · exact h
theorem live_take (h : LiveS w wr b k s) (n most : Int) (hp : s.passed ≤ 1000000000) (ht : held s ≤ 1000000000) :
    Calls Tryz.prog 22 #[.pointer (some ⟨b, 0, none⟩), .int .i64 n, .int .i64 most] wr fun e w2 =>
      ∃ A cap, e = .returned (.slice A (takeB s n most).size cap) ∧ BS w2 A (takeB s n most) ∧ Newly wr A ∧ LiveS w w2 b k (takeS s n most) ∧ KeepS wr w2 := by
  obtain ⟨F, hC, hF, hB, hG⟩ := h
  exact (take_any hC hG.good.1 (hG.fit hp) ht n most).mono fun e w2 ⟨A, cap, he, hb, hC2, hd, hN⟩ => ⟨A, cap, he, hb, hN, LiveS.step hC hF hB (hG.take n most) hC2 hd (Stem.refl _ _)⟩
theorem live_put (h : LiveS w wr b k s) (hb1 : Below wr.heap.size wr w1) (n : Int) (A : Option Addr) (cap : Nat) (x : ByteArray) (hc : x.size ≤ cap) (hb : BS w1 A x) (hN : Newly wr A) (ht : held s + x.size ≤ 1000000000) :
    Calls Tryz.prog 21 #[.pointer (some ⟨b, 0, none⟩), .int .i64 n, .slice A x.size cap] w1 fun e w2 => e = .returned (.int .i64 (putN s n x)) ∧ LiveS w w2 b k (putS s n x) ∧ KeepS w1 w2 := by
  obtain ⟨F, hC, hF, hB, hG⟩ := h
  have h0 := hG.r0
  have h1 := hG.r1
  exact (put_any (hC.below hb1) hG.good.1 n A cap x hc hb (fun g o e hf => by have := hC.lt hf; have := hN g o e; omega) ht (by omega) (by omega)).mono fun e w2 ⟨he, F', hC2, hd, hs⟩ =>
    ⟨he, LiveS.step (hC.below hb1) hF (hB.trans (hb1.mono hB.size)) (hG.put n x) hC2 hd hs⟩
end Go.Proofs.YtehpliclknfmoaaGreat.Stage
/- alive (chapter 10). Conditions: none. -/
namespace Go.Proofs.YtehpliclknfmoaaGreat.Stage
open Go.RowKit Mem Tick Cargo Toxic
set_option maxRecDepth 100000
set_option linter.unusedVariables false
set_option linter.unusedSimpArgs false
def aT : Tox := ⟨⟨#[97]⟩, 1, false, 100, 5, 0⟩
theorem al0 : newE aT 9 = 0 := by
  have hp : passB aT = false := by simp [passB, sameT, noTox, aT]
  have hc : chk aT = 0 := by decide
  unfold newE
  rw [if_neg (fun h => h.2 hc)]
  decide
def S1 : Sg := { new0 aT 7 9 0 with dice := Ref02.rangeS 7 5 5, c := ([(5, sAB)], 5) }
theorem al1 : putS (newS aT 7 9 0) 0 sAB = S1 := by
  have h0 : newS aT 7 9 0 = new0 aT 7 9 0 := if_neg (by decide)
  rw [h0]
  have h1 : lookP (new0 aT 7 9 0) 0 = new0 aT 7 9 0 := by rfl
  unfold putS
  rw [h1, if_neg (by decide)]
  have h2 : sAB.extract 0 (roomFor (new0 aT 7 9 0) sAB) = sAB := by rfl
  rw [h2]
  unfold forceP
  rw [h1, if_neg (by decide)]
  unfold putIn
  have h3 : (diceP (new0 aT 7 9 0)).c = ([], 0) := by rfl
  have h4 : whenP (new0 aT 7 9 0) = 5 := by kernel_rfl
  rw [h3, h4]
  show ({ diceP (new0 aT 7 9 0) with c := (addP [] (putAt 0 5) sAB, putLast 0 5 sAB) } : Sg) = S1
  rw [alive_e1.1, alive_e2.1, alive_e5.1]
  kernel_rfl
theorem al2 : putN (newS aT 7 9 0) 0 sAB = 2 := by rfl
theorem al3 : takeB S1 4 9 = ⟨#[]⟩ := by rfl
def S2 : Sg := takeS S1 4 9
theorem al4 : takeB S2 5 1 = ⟨#[97]⟩ := by rfl
def S3 : Sg := takeS S2 5 1
def S4 : Sg := lookP (closeP S3 5) 5
theorem al5 : S4.state = 0 := by rfl
theorem al6 : takeB S4 6 9 = ⟨#[98]⟩ := by rfl
def S5 : Sg := takeS S4 6 9
theorem al7 : (lookP S5 6).state = 1 := by rfl
theorem al8 : (lookP S5 6).passed = 2 := by rfl
theorem al9 : held (lookP S5 6) = 0 := by rfl
theorem al10 : held (newS aT 7 9 0) = 0 ∧ held S1 = 2 ∧ held S2 = 2 ∧ held S3 = 1 ∧ held S4 = 1 ∧ held S5 = 0 := by refine ⟨?_, ?_, ?_, ?_, ?_, ?_⟩ <;> rfl
theorem al11 : S1.passed = 0 ∧ S2.passed = 0 ∧ S4.passed = 1 := by refine ⟨?_, ?_, ?_⟩ <;> rfl
theorem held_close (s : Sg) (n : Int) : held (closeP s n) = held s := by unfold closeP; split <;> rfl
theorem alive_any (w : World) : Calls Tryz.prog 7 #[] w fun e w' => e = .returned (.bool true) ∧ Below w.heap.size w w' := by
  have hn := fun (wr : World) (hB : Below w.heap.size w wr) => live_new (w := w) (wr := wr) aT 7 9 0 al0 hB
  go_enter Tryz.func7, Tryz.ntmps7
  go_wp2_with fail
  refine (hn _ (Below.refl _ _)).mono ?_
  rintro e w0 ⟨b, k, rfl, HL, hB⟩
  have H0 := Lib.hid HL
  clear hn HL hB
  have k1 := Lib.run_convert_bytes_const (P := Tryz.prog) w0 67 5 #[.int .u8 97, .int .u8 98] 2 2 Tryz.underlying67 Tryz.underlying5
  go_wp2_with fail
  refine (live_put H0.out ((Below.refl w0.heap.size w0).alloc (Nat.le_refl _) _) 0 _ 2 sAB (by decide) (sAB_of w0) (fun g o e => by injection e with e; injection e with e; omega) (by rw [al10.1]; decide)).mono ?_
  rintro e w1 ⟨rfl, HL, -⟩
  rw [al1] at HL
  rw [al2]
  have H1 := Lib.hid HL
  clear k1 HL H0
  go_wp2_with fail
  refine (live_take H1.out 4 9 (by rw [al11.1]; decide) (by rw [al10.2.1]; decide)).mono ?_
  rintro e w2 ⟨A2, c2, rfl, -, -, HL, -⟩
  rw [al3]
  have H2 := Lib.hid (show LiveS w w2 b k S2 from HL)
  clear HL H1
  obtain ⟨F, hC2, hF, hB2, hG2⟩ := H2.out
  have HF := Lib.hid (show (∀ j, F j → w.heap.size ≤ j) ∧ Below w.heap.size w w2 from ⟨hF, hB2⟩)
  have HC2 := Lib.hid hC2
  have hOk2 := Lib.hid hG2
  clear H2 hC2 hF hB2 hG2
  go_wp2_with fail
  refine (take_any HC2.out hOk2.out.good.1 (hOk2.out.fit (by rw [al11.2.1]; decide)) (by rw [al10.2.2.1]; decide) 5 1).mono ?_
  rintro e w3 ⟨A3, c3, rfl, hb3, hC3, hD3, hN3⟩
  have HO := Lib.hid (show BS.Off A3 F from fun g o e hf => by have := HC2.out.lt hf; have := hN3 g o e; omega)
  rw [al4] at hb3 ⊢
  have HC3 := Lib.hid (show SG w3 F b k S3 from hC3)
  have HD3 := Lib.hid hD3
  have HB3 := Lib.hid hb3
  clear hb3 hC3 hD3 hN3
  go_wp2_with fail
  refine (close_any HC3.out 5).mono ?_
  rintro e w4 ⟨rfl, hC4, hD4⟩
  have HC4 := Lib.hid hC4
  have HD4 := Lib.hid (HD3.out.trans (Stem.refl _ _) hD4)
  have HB4 := Lib.hid (BS_did HB3.out HO.out hD4)
  clear hC4 hD4 HC3 HD3 HB3
  go_wp2_with fail
  refine (state_any HC4.out (by rw [held_close, al10.2.2.2.1]; decide) 5).mono ?_
  rintro e w5 ⟨rfl, hC5, hD5⟩
  rw [show (lookP (closeP S3 5) 5).state = 0 from al5]
  have HC5 := Lib.hid (show SG w5 F b k S4 from hC5)
  have HD5 := Lib.hid (HD4.out.trans (Stem.refl _ _) hD5)
  have HB5 := Lib.hid (BS_did HB4.out HO.out hD5)
  have hOk4 := Lib.hid (show Ok S4 from (((hOk2.out.take 5 1).close 5).look 5))
  clear hC5 hD5 HC4 HD4 HB4
  go_wp2_with fail
  refine (take_any HC5.out hOk4.out.good.1 (hOk4.out.fit (by rw [al11.2.2]; decide)) (by rw [al10.2.2.2.2.1]; decide) 6 9).mono ?_
  rintro e w6 ⟨A6, c6, rfl, hb6, hC6, hD6, hN6⟩
  rw [al6] at hb6 ⊢
  have hcv3 : (convert 67 9 (.slice A3 1 c3)).run Tryz.prog w6 = .ok (.string ⟨#[97]⟩) w6 := conv_bytes c3 (BS_did HB5.out HO.out hD6)
  have hcv6 : (convert 67 9 (.slice A6 1 c6)).run Tryz.prog w6 = .ok (.string ⟨#[98]⟩) w6 := conv_bytes c6 hb6
  have HC6 := Lib.hid (show SG w6 F b k S5 from hC6)
  have HD6 := Lib.hid (HD5.out.trans (Stem.refl _ _) hD6)
  clear hb6 hC6 hD6 hN6 HC5 HD5 HB5
  have e2 : (⟨#[98]⟩ : ByteArray).size = 1 := rfl
  rw [e2]
  clear e2
  go_wp2_with (first
    | (go_at_call 24; (with_reducible refine (state_any HC6.out (by rw [al10.2.2.2.2.2]; decide) 6).mono ?_); rintro e w7 ⟨rfl, hC7, hD7⟩; rw [al7]; have HC7 := Lib.hid hC7; have HD7 := Lib.hid (HD6.out.trans (Stem.refl _ _) hD7); clear hC7 hD7)
    | (go_at_call 12; (with_reducible refine (passed_any HC7.out).mono ?_); rintro e w8 ⟨rfl, rfl⟩; rw [al8])
    | (go_at_call 11; (with_reducible refine (held_any HC7.out (by rw [al9]; decide)).mono ?_); rintro e w9 ⟨rfl, hB9⟩; rw [al9]; have HB9 := Lib.hid hB9; clear hB9))
  go_ret
  exact ⟨by simp, HF.out.2.trans ((HD7.out.below HF.out.2.size HF.out.1).trans (HB9.out.mono (Nat.le_trans HF.out.2.size HD7.out.size)))⟩
end Go.Proofs.YtehpliclknfmoaaGreat.Stage
namespace Go.Proofs.YtehpliclknfmoaaGreat.Stage
open Go.RowKit Mem Tick Cargo Toxic
set_option maxRecDepth 100000
set_option linter.unusedVariables false
set_option linter.unusedSimpArgs false
theorem lookS_zero {s : Sg} (h : lookS s = 0) : s.state = 0 := by
  unfold lookS at h
  by_cases e : s.state = 0
  · exact e
  · rw [if_pos e] at h; exact h
theorem look_idem (s : Sg) (n : Int) : lookP (lookP s n) n = lookP s n := by
  have h1 : nowP (lookP s n) n = lookP s n := by
    show ({ lookP s n with clock := max (max s.clock (add n 0)) (add n 0) } : Sg) = lookP s n
    rw [show max (max s.clock (add n 0)) (add n 0) = max s.clock (add n 0) by omega]
    rfl
  have h2 : lookS (lookP s n) = lookS (nowP s n) := by
    by_cases e : lookS (nowP s n) = 0
    · have hz := lookS_zero e
      have : lookP s n = nowP s n := by
        show ({ nowP s n with state := lookS (nowP s n) } : Sg) = nowP s n
        rw [e, ← hz]
      rw [this]
    · unfold lookS
      rw [if_pos (show (lookP s n).state ≠ 0 from e)]
      rfl
  show ({ nowP (lookP s n) n with state := lookS (nowP (lookP s n) n) } : Sg) = lookP s n
  rw [h1, h2]
  rfl
end Go.Proofs.YtehpliclknfmoaaGreat.Stage
namespace Go.Proofs.YtehpliclknfmoaaGreat.Stage
open Go.RowKit Mem Tick Cargo Toxic
set_option linter.unusedVariables false
set_option linter.unusedSimpArgs false
theorem add_zero (n : Int) : add n 0 = nr n := by
  have h := nr_bd n
  unfold add
  rw [show nr 0 = 0 by decide, nr_in (by omega) (by omega)]; omega
theorem force_passed (s : Sg) (n : Int) (x : ByteArray) : (forceP s n x).passed = s.passed := by
  unfold forceP
  split
  · rfl
  · unfold putIn diceP; split <;> rfl
theorem put_passed (s : Sg) (n : Int) (x : ByteArray) : (putS s n x).passed = s.passed := by
  unfold putS
  split
  · rfl
  · rw [force_passed]; rfl
theorem mass_step (s : Sg) (o : Op) : (doesS s o).passed + held (doesS s o) ≤ s.passed + held s + o.s.size := by
  unfold doesS
  split
  · have := held_put s o.now o.s; rw [put_passed]; omega
  split
  · have := held_force s o.now o.s; rw [force_passed]; omega
  split
  · have := held_take s o.now o.n; rw [passed_take]; omega
  split
  · rw [held_close]
    have : (closeP s o.now).passed = s.passed := by unfold closeP; split <;> rfl
    omega
  split
  · show s.passed + held s ≤ _; omega
  split
  · have h1 : (updS s o.t o.now).c = s.c ∧ (updS s o.t o.now).passed = s.passed := by
      unfold updS
      split
      · exact ⟨rfl, rfl⟩
      split <;> exact ⟨rfl, rfl⟩
    unfold held
    rw [h1.1, h1.2]; omega
  split
  · show s.passed + ((0 : Nat) : Int) ≤ _; omega
  · omega
end Go.Proofs.YtehpliclknfmoaaGreat.Stage
namespace Go.Proofs.YtehpliclknfmoaaGreat.RefT
open Go.RowKit Mem Tick Cargo Toxic Stage Ref07
open Go.Proofs.YtehpliclknfmoaaGreatW.PrintLast Pu
set_option maxRecDepth 100000
set_option linter.unusedVariables false
set_option linter.unusedSimpArgs false
theorem rc_clock (s : Sg) (A : Option Addr) (c : Nat) (C : Int) : (rcells s A c).setIfInBounds 16 (.int .i64 C) = rcells { s with clock := C } A c := rfl
theorem rc_state (s : Sg) (A : Option Addr) (c : Nat) (v : Int) : (rcells s A c).setIfInBounds 21 (.int .i64 v) = rcells { s with state := v } A c := rfl
theorem held_of (cs : Array Value) (S : ByteArray) (w : World) (h : cs[11]? = some (.string S)) :
    Calls Tryz.prog 54 #[.agg cs] w fun e w' => e = .returned (.int .i64 (S.size : Int)) ∧ Below w.heap.size w w' := by
  have hB := Lib.hid ((Below.refl w.heap.size w).alloc (Nat.le_refl _) (.cells cs 38))
  obtain ⟨W, hW⟩ : ∃ W, W = w.alloc (.cells cs 38) := ⟨_, rfl⟩
  have h2 : Blk W w.heap.size 38 cs := by rw [hW]; exact Blk.new w _ _
  have c11 : W.cell? ⟨w.heap.size, 11, none⟩ = some (.string S) := (h2.cell 11).trans h
  rw [← hW] at hB
  clear h2 h
  go_enter Tryz.func54, Tryz.ntmps54
  go_upto_region 1 with (fail)
  rw [← hW]
  clear hW
  go_wp2
  go_ret
  exact ⟨rfl, hB.out⟩
set_option maxHeartbeats 2000000 in
theorem look_any (s0 : Sg) (A : Option Addr) (c : Nat) (now : Int) (w : World) :
    Calls Tryz.prog 26 #[.agg (rcells s0 A c), .int .i64 now] w fun e w' => e = .returned (.agg (rcells (lookP s0 now) A c)) ∧ Below w.heap.size w w' := by
  have hn := Lib.hid (fun (wy : World) => Ref01.near_any now wy)
  obtain ⟨W, hW⟩ : ∃ W, W = (w.alloc (.cells (rcells s0 A c) 38)).alloc (.cells zcells 38) := ⟨_, rfl⟩
  have hB0 := Lib.hid (show Below w.heap.size w W by rw [hW]; exact ((Below.refl _ _).alloc (Nat.le_refl _) _).alloc (by simp) _)
  have h20 := Lib.hid (show Blk W w.heap.size 38 (rcells s0 A c) by rw [hW]; exact (Blk.new w _ _).below ((Below.refl _ _).alloc (Nat.le_refl _) _))
  have h40 := Lib.hid (show Blk W (w.heap.size + 1) 38 zcells by
    rw [hW]
    have := Blk.new (w.alloc (.cells (rcells s0 A c) 38)) 38 zcells
    simpa using this)
  have hdf0 := Lib.hid (show lookP s0 now = { nowP s0 now with state := lookS (nowP s0 now) } from rfl)
  have hz := Stage.add_zero now
  go_enter Tryz.func26, Tryz.ntmps26
  go_wp2_with fail
  rw [← hW]
  refine (hn.out _).mono ?_
  rintro e w1 ⟨rfl, rfl⟩
  clear hn hW
  have c16 : W.cell? ⟨w.heap.size, 16, none⟩ = some (.int .i64 s0.clock) := (h20.out.cell 16).trans rfl
  have f16 := h20.out.free 16
  generalize nr now = nw at *
  go_upto_if 11 with fail
  generalize hc : decide (s0.clock < nw) = B at *
  go_cut [] (fun wx => Blk wx w.heap.size 38 (rcells (nowP s0 now) A c) ∧ Blk wx (w.heap.size + 1) 38 zcells ∧ Below w.heap.size w wx)
  case first =>
    cases B with
    | true =>
      have hc := of_decide_eq_true hc
      have e1 := Lib.hid (show nowP s0 now = { s0 with clock := nw } from by unfold nowP; rw [hz, Int.max_eq_right (by omega)])
      have h2 := h20.out.set_ 16 (.int .i64 nw)
      rw [rc_clock, ← e1.out] at h2
      have HM := Lib.hid (And.intro h2 (And.intro (h40.out.far (p := ⟨w.heap.size, 16, none⟩) (by show w.heap.size + 1 ≠ w.heap.size; omega) (.int .i64 nw)) (hB0.out.setCell (p := ⟨w.heap.size, 16, none⟩) (Nat.le_refl _) (.int .i64 nw))))
      clear h2 hc e1 hz
      go_wp2
      go_meet
      exact HM.out
    | false =>
      have hc := of_decide_eq_false hc
      have e1 := Lib.hid (show nowP s0 now = s0 from by unfold nowP; rw [hz, Int.max_eq_left (by omega)])
      clear hz hc
      go_wp2
      go_meet
      exact ⟨by rw [e1.out]; exact h20.out, h40.out, hB0.out⟩
  case rest =>
  obtain ⟨h2, h4, h5⟩ := hcut
  have hb2 := Lib.hid h2
  have hb4 := Lib.hid h4
  have hBB := Lib.hid h5
  clear h2 h4 h5 h20 h40 hB0 c16 f16 hz hc
  generalize nowP s0 now = s at *
  generalize wc = W at *
  have c21 : W.cell? ⟨w.heap.size, 21, none⟩ = some (.int .i64 s.state) := (hb2.out.cell 21).trans rfl
  by_cases hs : s.state ≠ 0
  · have t2 : (s.state != 0) = true := by simpa using hs
    have hdf := Lib.hid (show lookP s0 now = s from by rw [hdf0.out]; unfold lookS; rw [if_pos hs])
    clear hs hdf0
    go_upto_region 5 with (fail)
    refine copy_ w.heap.size (w.heap.size + 1) 2 4 17 rfl rfl rfl rfl rfl rfl hb2.out hb4.out Tryz.underlying38 rfl inf22 rfl (one22 s A c) (by rfl) (by simp only [Act.put, List.setIfInBounds_toArray, List.set_cons_zero, List.set_cons_succ]; rfl) (by rfl) (by rfl) (fun WR hbr hk hbl => ?_)
    have hR := Lib.hid (And.intro hbr (hbl _ w (by omega) hBB.out))
    clear hbr hk hbl
    go_wp2
    exact bodyPost_ret (v := .agg (rcells s A c)) (results_cell_row Tryz.results26 _ _ (w.heap.size + 1) 38 _ (0, 0) _ rfl hR.out.1 Tryz.underlying38 rfl inf22) rfl ⟨by rw [hdf.out], hR.out.2⟩
  · have hs0 : s.state = 0 := by omega
    have t2 : (s.state != 0) = false := by rw [hs0]; rfl
    have f21 := hb2.out.free 21
    have c16 : W.cell? ⟨w.heap.size, 16, none⟩ = some (.int .i64 s.clock) := (hb2.out.cell 16).trans rfl
    have c15 : W.cell? ⟨w.heap.size, 15, none⟩ = some (.int .i64 s.began) := (hb2.out.cell 15).trans rfl
    have c4 : W.cell? ⟨w.heap.size, 4, none⟩ = some (.int .i64 s.t.a) := (hb2.out.cell 4).trans rfl
    have hadd := Lib.hid (fun (a b : Int) (wy : World) => Ref01.add_any a b wy)
    have hlt : lookS s = if s.t.kind = 5 ∧ lateB s s.began s.t.a = true then 2 else if s.t.kind = 4 then (if lateB s s.began s.t.a = true then 1 else 0) else if s.t.kind = 6 ∧ s.t.a ≤ s.passed then 1 else if endedB s = true then 1 else 0 := by unfold lookS; rw [if_neg hs]
    have hlook := Lib.hid hlt
    clear hs hlt
    obtain ⟨late, hl⟩ : ∃ late, Hid (lateB s s.began s.t.a = late) := ⟨_, Lib.hid rfl⟩
    have hl2 := Lib.hid (show decide (add s.began s.t.a ≤ s.clock) = late from hl.out)
    go_upto_region 6 with (fail)
    have r0 : W.drew.cell? ⟨w.heap.size, 16, none⟩ = some (.int .i64 s.clock) := c16
    have r1 : W.drew.cell? ⟨w.heap.size, 15, none⟩ = some (.int .i64 s.began) := c15
    have r2 : W.drew.cell? ⟨w.heap.size, 4, none⟩ = some (.int .i64 s.t.a) := c4
    refine start_ (n := 10) (S := fun w' => w'.cell? ⟨w.heap.size, 16, none⟩ = some (.int .i64 s.clock) ∧ w'.cell? ⟨w.heap.size, 15, none⟩ = some (.int .i64 s.began) ∧ w'.cell? ⟨w.heap.size, 4, none⟩ = some (.int .i64 s.t.a)) (ds := []) (m_ 10 0) (by kernel_rfl) rfl (by kernel_rfl) ⟨c16, c15, c4⟩ (fun hHeld => ?_)
    refine pq_ 0 18 10 1 ?_
    refine pq_ 2 20 10 5 ?_
    refine pq_ 4 22 10 21 ?_
    refine pq_ 5 23 10 53 ?_
    refine tq_ 1 19 10 55 hHeld ?_
    refine tq_ 3 21 10 63 hHeld ?_
    refine tq_ 6 24 10 127 hHeld ?_
    refine one_ (i := 7) (N := some 25) (m_ 10 255) rfl rfl (by kernel_rfl) (by decide) (fun K hK => ?_)
    refine goes_ Tryz.func53 (by kernel_rfl) rfl #[.int .i64 s.began, .int .i64 s.t.a] (by rfl) rfl rfl (by simp only [List.map_toArray, List.map_cons, List.map_nil]; rfl) ?_
    with_reducible refine ((hadd.out s.began s.t.a _)).mono ?_
    rintro e w6 ⟨rfl, rfl⟩
    refine ⟨_, rfl, ?_⟩
    refine hK.out _ _ ⟨r0, r1, r2⟩ (fun hHeld => ?_)
    clear hK K
    refine norm_ (a' := ?_) ?_ ?_
    rotate_left
    · show Act.put _ (some 25) _ = _
      simp only [Act.put, List.setIfInBounds_toArray, List.set_cons_zero, List.set_cons_succ, i64_w, i32_w]
      rfl
    refine pq_ 8 26 10 511 ?_
    refine pq_ 9 5 10 1023 ?_
    refine done_ (by kernel_rfl) ?_
    rw [hl2.out]
    have hb2d := Lib.hid (show Blk W.drew w.heap.size 38 (rcells s A c) from hb2.out)
    have hb4d := Lib.hid (show Blk W.drew (w.heap.size + 1) 38 zcells from hb4.out)
    have hBBd := Lib.hid (show Below w.heap.size w W.drew from hBB.out.drew)
    clear hHeld r0 r1 r2 c21 c16 c15 c4 f21 hb2 hb4 hBB hl2
    have hb2 := hb2d
    have hb4 := hb4d
    have hBB := hBBd
    clear hb2d hb4d hBBd
    generalize W.drew = V at *
    have c1 : V.cell? ⟨w.heap.size, 1, none⟩ = some (.int .i64 s.t.kind) := (hb2.out.cell 1).trans rfl
    have c4 : V.cell? ⟨w.heap.size, 4, none⟩ = some (.int .i64 s.t.a) := (hb2.out.cell 4).trans rfl
    have c18 : V.cell? ⟨w.heap.size, 18, none⟩ = some (.int .i64 s.passed) := (hb2.out.cell 18).trans rfl
    have c19 : V.cell? ⟨w.heap.size, 19, none⟩ = some (.bool s.closed) := (hb2.out.cell 19).trans rfl
    have c21 : V.cell? ⟨w.heap.size, 21, none⟩ = some (.int .i64 0) := (hb2.out.cell 21).trans (by rw [show (rcells s A c)[21]? = some (.int .i64 s.state) from rfl, hs0])
    have f21 := hb2.out.free 21
    have hset := Lib.hid (fun (v : Int) => show Blk (V.setCell ⟨w.heap.size, 21, none⟩ (.int .i64 v)) w.heap.size 38 (rcells { s with state := v } A c) ∧ Blk (V.setCell ⟨w.heap.size, 21, none⟩ (.int .i64 v)) (w.heap.size + 1) 38 zcells ∧ Below w.heap.size w (V.setCell ⟨w.heap.size, 21, none⟩ (.int .i64 v)) from ⟨by have := hb2.out.set_ 21 (.int .i64 v); rwa [rc_state] at this, hb4.out.far (p := ⟨w.heap.size, 21, none⟩) (by show w.heap.size + 1 ≠ w.heap.size; omega) _, hBB.out.setCell (p := ⟨w.heap.size, 21, none⟩) (Nat.le_refl _) _⟩)
    by_cases k4 : s.t.kind = 4
    · have t5 : (s.t.kind == 5) = false := by rw [k4]; rfl
      have t4 : (s.t.kind == 4) = true := by rw [k4]; rfl
      cases late with
      | true =>
        have hdf := Lib.hid (show lookP s0 now = { s with state := 1 } from by rw [hdf0.out, hlook.out, k4, hl.out]; rfl)
        clear hdf0 hlook k4
        obtain ⟨q1, q2, q3⟩ := hset.out 1
        have hb2x := Lib.hid q1
        have hb4x := Lib.hid q2
        have hBBx := Lib.hid q3
        clear hset q1 q2 q3 hb2 hb4 hBB
        have hb2 := hb2x
        have hb4 := hb4x
        have hBB := hBBx
        clear hb2x hb4x hBBx
        go_upto_region 13 with (fail)
        generalize V.setCell ⟨w.heap.size, 21, none⟩ (.int .i64 1) = U at *
        refine copy_ w.heap.size (w.heap.size + 1) 2 4 42 rfl rfl rfl rfl rfl rfl hb2.out hb4.out Tryz.underlying38 rfl inf22 rfl (one22 { s with state := 1 } A c) (by rfl) (by simp only [Act.put, List.setIfInBounds_toArray, List.set_cons_zero, List.set_cons_succ]; rfl) (by rfl) (by rfl) (fun WR hbr hk hbl => ?_)
        have hR := Lib.hid (And.intro hbr (hbl _ w (by omega) hBB.out))
        clear hbr hk hbl
        go_wp2
        exact bodyPost_ret (v := .agg (rcells { s with state := 1 } A c)) (results_cell_row Tryz.results26 _ _ (w.heap.size + 1) 38 _ (0, 0) _ rfl hR.out.1 Tryz.underlying38 rfl inf22) rfl ⟨by rw [hdf.out], hR.out.2⟩
      | false =>
        have hdf := Lib.hid (show lookP s0 now = s from by rw [hdf0.out, hlook.out, k4, hl.out]; show ({ s with state := 0 } : Sg) = s; rw [← hs0])
        clear hdf0 hlook k4 hset
        go_upto_region 13 with (fail)
        refine copy_ w.heap.size (w.heap.size + 1) 2 4 42 rfl rfl rfl rfl rfl rfl hb2.out hb4.out Tryz.underlying38 rfl inf22 rfl (one22 s A c) (by rfl) (by simp only [Act.put, List.setIfInBounds_toArray, List.set_cons_zero, List.set_cons_succ]; rfl) (by rfl) (by rfl) (fun WR hbr hk hbl => ?_)
        have hR := Lib.hid (And.intro hbr (hbl _ w (by omega) hBB.out))
        clear hbr hk hbl
        go_wp2
        exact bodyPost_ret (v := .agg (rcells s A c)) (results_cell_row Tryz.results26 _ _ (w.heap.size + 1) 38 _ (0, 0) _ rfl hR.out.1 Tryz.underlying38 rfl inf22) rfl ⟨by rw [hdf.out], hR.out.2⟩
    · have t4 : (s.t.kind == 4) = false := by simpa using k4
      by_cases k5 : s.t.kind = 5 ∧ late = true
      · obtain ⟨k5, rfl⟩ := k5
        have t5 : (s.t.kind == 5) = true := by simpa using k5
        have hdf := Lib.hid (show lookP s0 now = { s with state := 2 } from by rw [hdf0.out, hlook.out, k5, hl.out]; rfl)
        clear hdf0 hlook k5 k4
        obtain ⟨q1, q2, q3⟩ := hset.out 2
        have hb2x := Lib.hid q1
        have hb4x := Lib.hid q2
        have hBBx := Lib.hid q3
        clear hset q1 q2 q3 hb2 hb4 hBB
        have hb2 := hb2x
        have hb4 := hb4x
        have hBB := hBBx
        clear hb2x hb4x hBBx
        go_upto_region 9 with (fail)
        generalize V.setCell ⟨w.heap.size, 21, none⟩ (.int .i64 2) = U at *
        refine copy_ w.heap.size (w.heap.size + 1) 2 4 35 rfl rfl rfl rfl rfl rfl hb2.out hb4.out Tryz.underlying38 rfl inf22 rfl (one22 { s with state := 2 } A c) (by rfl) (by simp only [Act.put, List.setIfInBounds_toArray, List.set_cons_zero, List.set_cons_succ]; rfl) (by rfl) (by rfl) (fun WR hbr hk hbl => ?_)
        have hR := Lib.hid (And.intro hbr (hbl _ w (by omega) hBB.out))
        clear hbr hk hbl
        go_wp2
        exact bodyPost_ret (v := .agg (rcells { s with state := 2 } A c)) (results_cell_row Tryz.results26 _ _ (w.heap.size + 1) 38 _ (0, 0) _ rfl hR.out.1 Tryz.underlying38 rfl inf22) rfl ⟨by rw [hdf.out], hR.out.2⟩
      · by_cases k6 : s.t.kind = 6 ∧ s.t.a ≤ s.passed
        · have t5 : (s.t.kind == 5) = false := by rw [k6.1]; rfl
          have t6 : (s.t.kind == 6) = true := by rw [k6.1]; rfl
          have t7 : decide (s.t.a ≤ s.passed) = true := decide_eq_true k6.2
          have hdf := Lib.hid (show lookP s0 now = { s with state := 1 } from by rw [hdf0.out, hlook.out, if_neg (by rw [k6.1]; rintro ⟨e, _⟩; cases e), if_neg k4, if_pos k6])
          clear hdf0 hlook k5 k4 k6
          obtain ⟨q1, q2, q3⟩ := hset.out 1
          have hb2x := Lib.hid q1
          have hb4x := Lib.hid q2
          have hBBx := Lib.hid q3
          clear hset q1 q2 q3 hb2 hb4 hBB
          have hb2 := hb2x
          have hb4 := hb4x
          have hBB := hBBx
          clear hb2x hb4x hBBx
          go_upto_region 16 with (fail)
          generalize V.setCell ⟨w.heap.size, 21, none⟩ (.int .i64 1) = U at *
          refine copy_ w.heap.size (w.heap.size + 1) 2 4 56 rfl rfl rfl rfl rfl rfl hb2.out hb4.out Tryz.underlying38 rfl inf22 rfl (one22 { s with state := 1 } A c) (by rfl) (by simp only [Act.put, List.setIfInBounds_toArray, List.set_cons_zero, List.set_cons_succ]; rfl) (by rfl) (by rfl) (fun WR hbr hk hbl => ?_)
          have hR := Lib.hid (And.intro hbr (hbl _ w (by omega) hBB.out))
          clear hbr hk hbl
          go_wp2
          exact bodyPost_ret (v := .agg (rcells { s with state := 1 } A c)) (results_cell_row Tryz.results26 _ _ (w.heap.size + 1) 38 _ (0, 0) _ rfl hR.out.1 Tryz.underlying38 rfl inf22) rfl ⟨by rw [hdf.out], hR.out.2⟩
        · skip
          have hE := Lib.hid (show lookP s0 now = { s with state := if endedB s = true then 1 else 0 } from by rw [hdf0.out, hlook.out, hl.out, if_neg k5, if_neg k4, if_neg k6])
          clear hdf0 hlook hl
          by_cases k5' : s.t.kind = 5
          · have t5 : (s.t.kind == 5) = true := by simpa using k5'
            have t6 : (s.t.kind == 6) = false := by rw [k5']; rfl
            have hlate : late = false := by
              cases late with
              | true => exact absurd ⟨k5', rfl⟩ k5
              | false => rfl
            subst hlate
            clear k5 k4 k6 k5'
            cases hcl : s.closed with
            | false =>
              have hdf := Lib.hid (show lookP s0 now = s from by rw [hE.out, show endedB s = false from by unfold endedB; rw [hcl]; rfl]; show ({ s with state := 0 } : Sg) = s; rw [← hs0])
              rw [hcl] at c19
              clear hset hE
              go_upto_region 20 with (fail)
              refine copy_ w.heap.size (w.heap.size + 1) 2 4 80 rfl rfl rfl rfl rfl rfl hb2.out hb4.out Tryz.underlying38 rfl inf22 rfl (one22 s A c) (by rfl) (by simp only [Act.put, List.setIfInBounds_toArray, List.set_cons_zero, List.set_cons_succ]; rfl) (by rfl) (by rfl) (fun WR hbr hk hbl => ?_)
              have hR := Lib.hid (And.intro hbr (hbl _ w (by omega) hBB.out))
              clear hbr hk hbl
              go_wp2
              exact bodyPost_ret (v := .agg (rcells s A c)) (results_cell_row Tryz.results26 _ _ (w.heap.size + 1) 38 _ (0, 0) _ rfl hR.out.1 Tryz.underlying38 rfl inf22) rfl ⟨by rw [hdf.out], hR.out.2⟩
            | true =>
              rw [hcl] at c19
              go_upto_region 17 with (fail)
              refine wp_region_lit (l := [_, _, _, _, _, _, _]) ?_
              refine lp_ (v := ?_) (a' := ?_) ?_ (by rfl) ?_ ?_
              rotate_left 2
              · go_simp; with_reducible rfl
              · simp only [Act.put, List.setIfInBounds_toArray, List.set_cons_zero, List.set_cons_succ]; rfl
              refine lp_ (v := ?_) (a' := ?_) ?_ (by rfl) ?_ ?_
              rotate_left 2
              · go_simp; with_reducible rfl
              · simp only [Act.put, List.setIfInBounds_toArray, List.set_cons_zero, List.set_cons_succ]; rfl
              refine lp_ (v := ?_) (a' := ?_) ?_ (by rfl) ?_ ?_
              rotate_left 2
              · go_simp; with_reducible rfl
              · simp only [Act.put, List.setIfInBounds_toArray, List.set_cons_zero, List.set_cons_succ]; rfl
              refine lp_ (load_run rfl (by rfl) hb2.out Tryz.underlying38 rfl inf22) (by rfl) (by simp only [Act.put, List.setIfInBounds_toArray, List.set_cons_zero, List.set_cons_succ]; rfl) ?_
              refine wpList_step fun K hK => ?_
              refine goes_ Tryz.func54 (by kernel_rfl) rfl #[.agg (rcells s A c)] (by rfl) rfl rfl (by simp only [List.map_toArray, List.map_cons, List.map_nil]; rfl) ?_
              refine (held_of (rcells s A c) (cat s.c.1) V rfl).mono ?_
              rintro e w7 ⟨rfl, hB7⟩
              have hb27 := Lib.hid (hb2.out.below hB7)
              have hb47 := Lib.hid (hb4.out.below hB7)
              have hBB7 := Lib.hid (hBB.out.trans (hB7.mono hBB.out.size))
              refine ⟨_, rfl, hK _ _ ?_⟩
              clear hB7 hK c1 c4 c18 c19 c21 f21 hset hb2 hb4 hBB
              have hb2 := hb27
              have hb4 := hb47
              have hBB := hBB7
              clear hb27 hb47 hBB7
              have hsz : held s = (cat s.c.1).size := by unfold held; rw [cat_size]
              refine nl_ (by simp only [Act.put, List.setIfInBounds_toArray, List.set_cons_zero, List.set_cons_succ]; rfl) ?_
              have c1 : w7.cell? ⟨w.heap.size, 1, none⟩ = some (.int .i64 s.t.kind) := (hb2.out.cell 1).trans rfl
              have c16 : w7.cell? ⟨w.heap.size, 16, none⟩ = some (.int .i64 s.clock) := (hb2.out.cell 16).trans rfl
              have c20 : w7.cell? ⟨w.heap.size, 20, none⟩ = some (.int .i64 s.at_) := (hb2.out.cell 20).trans rfl
              have c4 : w7.cell? ⟨w.heap.size, 4, none⟩ = some (.int .i64 s.t.a) := (hb2.out.cell 4).trans rfl
              have f21 := hb2.out.free 21
              have c21 : w7.cell? ⟨w.heap.size, 21, none⟩ = some (.int .i64 0) := (hb2.out.cell 21).trans (by rw [show (rcells s A c)[21]? = some (.int .i64 s.state) from rfl, hs0])
              by_cases hz : (cat s.c.1).size = 0
              · have tz : (((cat s.c.1).size : Int) == 0) = true := by rw [hz]; rfl
                refine lp_ (v := ?_) (a' := ?_) ?_ (by rfl) ?_ ?_
                rotate_left 2
                · go_simp; with_reducible rfl
                · simp only [Act.put, List.setIfInBounds_toArray, List.set_cons_zero, List.set_cons_succ]; rfl
                refine lp_ (v := ?_) (a' := ?_) ?_ (by rfl) ?_ ?_
                rotate_left 2
                · go_simp; with_reducible rfl
                · simp only [Act.put, List.setIfInBounds_toArray, List.set_cons_zero, List.set_cons_succ]; rfl
                refine wpList_nil ?_
                go_upto_region 18 with (fail)
                have r0 : w7.drew.cell? ⟨w.heap.size, 1, none⟩ = some (.int .i64 s.t.kind) := c1
                have r1 : w7.drew.cell? ⟨w.heap.size, 16, none⟩ = some (.int .i64 s.clock) := c16
                have r2 : w7.drew.cell? ⟨w.heap.size, 20, none⟩ = some (.int .i64 s.at_) := c20
                have r3 : w7.drew.cell? ⟨w.heap.size, 4, none⟩ = some (.int .i64 s.t.a) := c4
                have hEE := Lib.hid (show endedB s = (decide (s.t.kind ≠ 7) || lateB s s.at_ s.t.a) from by unfold endedB; rw [hsz, decide_eq_true hz, hcl]; simp)
                clear hsz hz tz
                by_cases k7 : s.t.kind = 7
                · have t7_ : (s.t.kind != 7) = false := by rw [k7]; rfl
                  obtain ⟨late2, hl⟩ : ∃ late2, Hid (lateB s s.at_ s.t.a = late2) := ⟨_, Lib.hid rfl⟩
                  have hl2 := Lib.hid (show decide (add s.at_ s.t.a ≤ s.clock) = late2 from hl.out)
                  have k7h := Lib.hid k7
                  clear k7
                  refine start_ (n := 15) (S := fun w' => w'.cell? ⟨w.heap.size, 1, none⟩ = some (.int .i64 s.t.kind) ∧ w'.cell? ⟨w.heap.size, 16, none⟩ = some (.int .i64 s.clock) ∧ w'.cell? ⟨w.heap.size, 20, none⟩ = some (.int .i64 s.at_) ∧ w'.cell? ⟨w.heap.size, 4, none⟩ = some (.int .i64 s.t.a)) (ds := []) (m_ 15 0) (by kernel_rfl) rfl (by kernel_rfl) ⟨r0, r1, r2, r3⟩ (fun hHeld => ?_)
                  refine pq_ 0 64 15 1 ?_
                  refine pq_ 1 65 15 3 ?_
                  refine tq_ 2 66 15 7 hHeld ?_
                  refine pq_ 3 67 15 15 ?_
                  refine pq_ 4 68 15 31 ?_
                  refine pq_ 5 69 15 63 ?_
                  refine pq_ 7 71 15 191 ?_
                  refine pq_ 9 73 15 703 ?_
                  refine pq_ 10 74 15 1727 ?_
                  refine tq_ 6 70 15 1791 hHeld ?_
                  refine tq_ 8 72 15 2047 hHeld ?_
                  refine tq_ 11 75 15 4095 hHeld ?_
                  refine one_ (i := 12) (N := some 76) (m_ 15 8191) rfl rfl (by kernel_rfl) (by decide) (fun K hK => ?_)
                  refine goes_ Tryz.func53 (by kernel_rfl) rfl #[.int .i64 s.at_, .int .i64 s.t.a] (by rfl) rfl rfl (by simp only [List.map_toArray, List.map_cons, List.map_nil]; rfl) ?_
                  with_reducible refine ((hadd.out s.at_ s.t.a _)).mono ?_
                  rintro e w8 ⟨rfl, rfl⟩
                  refine ⟨_, rfl, ?_⟩
                  refine hK.out _ _ ⟨r0, r1, r2, r3⟩ (fun hHeld => ?_)
                  clear hK K
                  refine norm_ (a' := ?_) ?_ ?_
                  rotate_left
                  · show Act.put _ (some 76) _ = _
                    simp only [Act.put, List.setIfInBounds_toArray, List.set_cons_zero, List.set_cons_succ, i64_w, i32_w]
                    rfl
                  refine pq_ 13 77 15 16383 ?_
                  refine pq_ 14 78 15 32767 ?_
                  refine done_ (by kernel_rfl) ?_
                  rw [hl2.out]
                  clear hHeld r0 r1 r2 r3
                  have hb2d := Lib.hid (show Blk w7.drew w.heap.size 38 (rcells s A c) from hb2.out)
                  have hb4d := Lib.hid (show Blk w7.drew (w.heap.size + 1) 38 zcells from hb4.out)
                  have hBBd := Lib.hid (show Below w.heap.size w w7.drew from hBB.out.drew)
                  have c21d : w7.drew.cell? ⟨w.heap.size, 21, none⟩ = some (.int .i64 0) := c21
                  have f21d : w7.drew.frozen? ⟨w.heap.size, 21, none⟩ = false := f21
                  clear c1 c16 c20 c4 f21 c21 hb2 hb4 hBB
                  have hb2 := hb2d
                  have hb4 := hb4d
                  have hBB := hBBd
                  clear hb2d hb4d hBBd
                  generalize w7.drew = V2 at *
                  have hset := Lib.hid (fun (v : Int) => show Blk (V2.setCell ⟨w.heap.size, 21, none⟩ (.int .i64 v)) w.heap.size 38 (rcells { s with state := v } A c) ∧ Blk (V2.setCell ⟨w.heap.size, 21, none⟩ (.int .i64 v)) (w.heap.size + 1) 38 zcells ∧ Below w.heap.size w (V2.setCell ⟨w.heap.size, 21, none⟩ (.int .i64 v)) from ⟨by have := hb2.out.set_ 21 (.int .i64 v); rwa [rc_state] at this, hb4.out.far (p := ⟨w.heap.size, 21, none⟩) (by show w.heap.size + 1 ≠ w.heap.size; omega) _, hBB.out.setCell (p := ⟨w.heap.size, 21, none⟩) (Nat.le_refl _) _⟩)
                  cases late2 with
                  | true =>
                    have hdf := Lib.hid (show lookP s0 now = { s with state := 1 } from by rw [hE.out, hEE.out, hl.out]; simp)
                    clear hE hEE hl hl2
                    obtain ⟨q1, q2, q3⟩ := hset.out 1
                    have hb2x := Lib.hid q1
                    have hb4x := Lib.hid q2
                    have hBBx := Lib.hid q3
                    clear hset q1 q2 q3 hb2 hb4 hBB
                    have hb2 := hb2x
                    have hb4 := hb4x
                    have hBB := hBBx
                    clear hb2x hb4x hBBx
                    go_upto_region 20 with (fail)
                    generalize V2.setCell ⟨w.heap.size, 21, none⟩ (.int .i64 1) = U at *
                    refine copy_ w.heap.size (w.heap.size + 1) 2 4 80 rfl rfl rfl rfl rfl rfl hb2.out hb4.out Tryz.underlying38 rfl inf22 rfl (one22 { s with state := 1 } A c) (by rfl) (by simp only [Act.put, List.setIfInBounds_toArray, List.set_cons_zero, List.set_cons_succ]; rfl) (by rfl) (by rfl) (fun WR hbr hk hbl => ?_)
                    have hR := Lib.hid (And.intro hbr (hbl _ w (by omega) hBB.out))
                    clear hbr hk hbl
                    go_wp2
                    exact bodyPost_ret (v := .agg (rcells { s with state := 1 } A c)) (results_cell_row Tryz.results26 _ _ (w.heap.size + 1) 38 _ (0, 0) _ rfl hR.out.1 Tryz.underlying38 rfl inf22) rfl ⟨by rw [hdf.out], hR.out.2⟩
                  | false =>
                    have hdf := Lib.hid (show lookP s0 now = s from by rw [hE.out, hEE.out, hl.out, k7h.out]; show ({ s with state := 0 } : Sg) = s; rw [← hs0])
                    clear hE hEE hl hl2 hset
                    go_upto_region 20 with (fail)
                    refine copy_ w.heap.size (w.heap.size + 1) 2 4 80 rfl rfl rfl rfl rfl rfl hb2.out hb4.out Tryz.underlying38 rfl inf22 rfl (one22 s A c) (by rfl) (by simp only [Act.put, List.setIfInBounds_toArray, List.set_cons_zero, List.set_cons_succ]; rfl) (by rfl) (by rfl) (fun WR hbr hk hbl => ?_)
                    have hR := Lib.hid (And.intro hbr (hbl _ w (by omega) hBB.out))
                    clear hbr hk hbl
                    go_wp2
                    exact bodyPost_ret (v := .agg (rcells s A c)) (results_cell_row Tryz.results26 _ _ (w.heap.size + 1) 38 _ (0, 0) _ rfl hR.out.1 Tryz.underlying38 rfl inf22) rfl ⟨by rw [hdf.out], hR.out.2⟩
                · have t7_ : (s.t.kind != 7) = true := by simpa using k7
                  have k7h := Lib.hid k7
                  clear k7
                  refine start_ (n := 15) (S := fun w' => w'.cell? ⟨w.heap.size, 1, none⟩ = some (.int .i64 s.t.kind) ∧ w'.cell? ⟨w.heap.size, 16, none⟩ = some (.int .i64 s.clock) ∧ w'.cell? ⟨w.heap.size, 20, none⟩ = some (.int .i64 s.at_) ∧ w'.cell? ⟨w.heap.size, 4, none⟩ = some (.int .i64 s.t.a)) (ds := []) (m_ 15 0) (by kernel_rfl) rfl (by kernel_rfl) ⟨r0, r1, r2, r3⟩ (fun hHeld => ?_)
                  refine pq_ 0 64 15 1 ?_
                  refine pq_ 1 65 15 3 ?_
                  refine tq_ 2 66 15 7 hHeld ?_
                  refine pq_ 3 67 15 15 ?_
                  refine pq_ 4 68 15 31 ?_
                  refine oq_ 5 69 15 63 ?_
                  refine oq_ 6 70 15 127 ?_
                  refine oq_ 7 71 15 255 ?_
                  refine oq_ 8 72 15 511 ?_
                  refine oq_ 9 73 15 1023 ?_
                  refine oq_ 10 74 15 2047 ?_
                  refine oq_ 11 75 15 4095 ?_
                  refine oq_ 12 76 15 8191 ?_
                  refine oq_ 13 77 15 16383 ?_
                  refine pq_ 14 78 15 32767 ?_
                  refine done_ (by kernel_rfl) ?_
                  skip
                  clear hHeld r0 r1 r2 r3
                  have hb2d := Lib.hid (show Blk w7.drew w.heap.size 38 (rcells s A c) from hb2.out)
                  have hb4d := Lib.hid (show Blk w7.drew (w.heap.size + 1) 38 zcells from hb4.out)
                  have hBBd := Lib.hid (show Below w.heap.size w w7.drew from hBB.out.drew)
                  have c21d : w7.drew.cell? ⟨w.heap.size, 21, none⟩ = some (.int .i64 0) := c21
                  have f21d : w7.drew.frozen? ⟨w.heap.size, 21, none⟩ = false := f21
                  clear c1 c16 c20 c4 f21 c21 hb2 hb4 hBB
                  have hb2 := hb2d
                  have hb4 := hb4d
                  have hBB := hBBd
                  clear hb2d hb4d hBBd
                  generalize w7.drew = V2 at *
                  have hset := Lib.hid (fun (v : Int) => show Blk (V2.setCell ⟨w.heap.size, 21, none⟩ (.int .i64 v)) w.heap.size 38 (rcells { s with state := v } A c) ∧ Blk (V2.setCell ⟨w.heap.size, 21, none⟩ (.int .i64 v)) (w.heap.size + 1) 38 zcells ∧ Below w.heap.size w (V2.setCell ⟨w.heap.size, 21, none⟩ (.int .i64 v)) from ⟨by have := hb2.out.set_ 21 (.int .i64 v); rwa [rc_state] at this, hb4.out.far (p := ⟨w.heap.size, 21, none⟩) (by show w.heap.size + 1 ≠ w.heap.size; omega) _, hBB.out.setCell (p := ⟨w.heap.size, 21, none⟩) (Nat.le_refl _) _⟩)
                  have hdf := Lib.hid (show lookP s0 now = { s with state := 1 } from by rw [hE.out, hEE.out]; simp [k7h.out])
                  clear hE hEE
                  obtain ⟨q1, q2, q3⟩ := hset.out 1
                  have hb2x := Lib.hid q1
                  have hb4x := Lib.hid q2
                  have hBBx := Lib.hid q3
                  clear hset q1 q2 q3 hb2 hb4 hBB
                  have hb2 := hb2x
                  have hb4 := hb4x
                  have hBB := hBBx
                  clear hb2x hb4x hBBx
                  go_upto_region 20 with (fail)
                  generalize V2.setCell ⟨w.heap.size, 21, none⟩ (.int .i64 1) = U at *
                  refine copy_ w.heap.size (w.heap.size + 1) 2 4 80 rfl rfl rfl rfl rfl rfl hb2.out hb4.out Tryz.underlying38 rfl inf22 rfl (one22 { s with state := 1 } A c) (by rfl) (by simp only [Act.put, List.setIfInBounds_toArray, List.set_cons_zero, List.set_cons_succ]; rfl) (by rfl) (by rfl) (fun WR hbr hk hbl => ?_)
                  have hR := Lib.hid (And.intro hbr (hbl _ w (by omega) hBB.out))
                  clear hbr hk hbl
                  go_wp2
                  exact bodyPost_ret (v := .agg (rcells { s with state := 1 } A c)) (results_cell_row Tryz.results26 _ _ (w.heap.size + 1) 38 _ (0, 0) _ rfl hR.out.1 Tryz.underlying38 rfl inf22) rfl ⟨by rw [hdf.out], hR.out.2⟩
              · have tz : (((cat s.c.1).size : Int) == 0) = false := by simpa using hz
                refine lp_ (v := ?_) (a' := ?_) ?_ (by rfl) ?_ ?_
                rotate_left 2
                · go_simp; with_reducible rfl
                · simp only [Act.put, List.setIfInBounds_toArray, List.set_cons_zero, List.set_cons_succ]; rfl
                refine lp_ (v := ?_) (a' := ?_) ?_ (by rfl) ?_ ?_
                rotate_left 2
                · go_simp; with_reducible rfl
                · simp only [Act.put, List.setIfInBounds_toArray, List.set_cons_zero, List.set_cons_succ]; rfl
                refine wpList_nil ?_
                have hdf := Lib.hid (show lookP s0 now = s from by rw [hE.out, show endedB s = false from by unfold endedB; rw [hsz, decide_eq_false hz]; simp]; show ({ s with state := 0 } : Sg) = s; rw [← hs0])
                clear hE hsz hz tz
                go_upto_region 20 with (fail)
                refine copy_ w.heap.size (w.heap.size + 1) 2 4 80 rfl rfl rfl rfl rfl rfl hb2.out hb4.out Tryz.underlying38 rfl inf22 rfl (one22 s A c) (by rfl) (by simp only [Act.put, List.setIfInBounds_toArray, List.set_cons_zero, List.set_cons_succ]; rfl) (by rfl) (by rfl) (fun WR hbr hk hbl => ?_)
                have hR := Lib.hid (And.intro hbr (hbl _ w (by omega) hBB.out))
                clear hbr hk hbl
                go_wp2
                exact bodyPost_ret (v := .agg (rcells s A c)) (results_cell_row Tryz.results26 _ _ (w.heap.size + 1) 38 _ (0, 0) _ rfl hR.out.1 Tryz.underlying38 rfl inf22) rfl ⟨by rw [hdf.out], hR.out.2⟩
          have t5 : (s.t.kind == 5) = false := by simpa using k5'
          by_cases k6' : s.t.kind = 6
          · have t6 : (s.t.kind == 6) = true := by simpa using k6'
            have t7 : decide (s.t.a ≤ s.passed) = false := decide_eq_false fun e => k6 ⟨k6', e⟩
            clear k5 k4 k6 k5' k6'
            cases hcl : s.closed with
            | false =>
              have hdf := Lib.hid (show lookP s0 now = s from by rw [hE.out, show endedB s = false from by unfold endedB; rw [hcl]; rfl]; show ({ s with state := 0 } : Sg) = s; rw [← hs0])
              rw [hcl] at c19
              clear hset hE
              go_upto_region 20 with (fail)
              refine copy_ w.heap.size (w.heap.size + 1) 2 4 80 rfl rfl rfl rfl rfl rfl hb2.out hb4.out Tryz.underlying38 rfl inf22 rfl (one22 s A c) (by rfl) (by simp only [Act.put, List.setIfInBounds_toArray, List.set_cons_zero, List.set_cons_succ]; rfl) (by rfl) (by rfl) (fun WR hbr hk hbl => ?_)
              have hR := Lib.hid (And.intro hbr (hbl _ w (by omega) hBB.out))
              clear hbr hk hbl
              go_wp2
              exact bodyPost_ret (v := .agg (rcells s A c)) (results_cell_row Tryz.results26 _ _ (w.heap.size + 1) 38 _ (0, 0) _ rfl hR.out.1 Tryz.underlying38 rfl inf22) rfl ⟨by rw [hdf.out], hR.out.2⟩
            | true =>
              rw [hcl] at c19
              go_upto_region 17 with (fail)
              refine wp_region_lit (l := [_, _, _, _, _, _, _]) ?_
              refine lp_ (v := ?_) (a' := ?_) ?_ (by rfl) ?_ ?_
              rotate_left 2
              · go_simp; with_reducible rfl
              · simp only [Act.put, List.setIfInBounds_toArray, List.set_cons_zero, List.set_cons_succ]; rfl
              refine lp_ (v := ?_) (a' := ?_) ?_ (by rfl) ?_ ?_
              rotate_left 2
              · go_simp; with_reducible rfl
              · simp only [Act.put, List.setIfInBounds_toArray, List.set_cons_zero, List.set_cons_succ]; rfl
              refine lp_ (v := ?_) (a' := ?_) ?_ (by rfl) ?_ ?_
              rotate_left 2
              · go_simp; with_reducible rfl
              · simp only [Act.put, List.setIfInBounds_toArray, List.set_cons_zero, List.set_cons_succ]; rfl
              refine lp_ (load_run rfl (by rfl) hb2.out Tryz.underlying38 rfl inf22) (by rfl) (by simp only [Act.put, List.setIfInBounds_toArray, List.set_cons_zero, List.set_cons_succ]; rfl) ?_
              refine wpList_step fun K hK => ?_
              refine goes_ Tryz.func54 (by kernel_rfl) rfl #[.agg (rcells s A c)] (by rfl) rfl rfl (by simp only [List.map_toArray, List.map_cons, List.map_nil]; rfl) ?_
              refine (held_of (rcells s A c) (cat s.c.1) V rfl).mono ?_
              rintro e w7 ⟨rfl, hB7⟩
              have hb27 := Lib.hid (hb2.out.below hB7)
              have hb47 := Lib.hid (hb4.out.below hB7)
              have hBB7 := Lib.hid (hBB.out.trans (hB7.mono hBB.out.size))
              refine ⟨_, rfl, hK _ _ ?_⟩
              clear hB7 hK c1 c4 c18 c19 c21 f21 hset hb2 hb4 hBB
              have hb2 := hb27
              have hb4 := hb47
              have hBB := hBB7
              clear hb27 hb47 hBB7
              have hsz : held s = (cat s.c.1).size := by unfold held; rw [cat_size]
              refine nl_ (by simp only [Act.put, List.setIfInBounds_toArray, List.set_cons_zero, List.set_cons_succ]; rfl) ?_
              have c1 : w7.cell? ⟨w.heap.size, 1, none⟩ = some (.int .i64 s.t.kind) := (hb2.out.cell 1).trans rfl
              have c16 : w7.cell? ⟨w.heap.size, 16, none⟩ = some (.int .i64 s.clock) := (hb2.out.cell 16).trans rfl
              have c20 : w7.cell? ⟨w.heap.size, 20, none⟩ = some (.int .i64 s.at_) := (hb2.out.cell 20).trans rfl
              have c4 : w7.cell? ⟨w.heap.size, 4, none⟩ = some (.int .i64 s.t.a) := (hb2.out.cell 4).trans rfl
              have f21 := hb2.out.free 21
              have c21 : w7.cell? ⟨w.heap.size, 21, none⟩ = some (.int .i64 0) := (hb2.out.cell 21).trans (by rw [show (rcells s A c)[21]? = some (.int .i64 s.state) from rfl, hs0])
              by_cases hz : (cat s.c.1).size = 0
              · have tz : (((cat s.c.1).size : Int) == 0) = true := by rw [hz]; rfl
                refine lp_ (v := ?_) (a' := ?_) ?_ (by rfl) ?_ ?_
                rotate_left 2
                · go_simp; with_reducible rfl
                · simp only [Act.put, List.setIfInBounds_toArray, List.set_cons_zero, List.set_cons_succ]; rfl
                refine lp_ (v := ?_) (a' := ?_) ?_ (by rfl) ?_ ?_
                rotate_left 2
                · go_simp; with_reducible rfl
                · simp only [Act.put, List.setIfInBounds_toArray, List.set_cons_zero, List.set_cons_succ]; rfl
                refine wpList_nil ?_
                go_upto_region 18 with (fail)
                have r0 : w7.drew.cell? ⟨w.heap.size, 1, none⟩ = some (.int .i64 s.t.kind) := c1
                have r1 : w7.drew.cell? ⟨w.heap.size, 16, none⟩ = some (.int .i64 s.clock) := c16
                have r2 : w7.drew.cell? ⟨w.heap.size, 20, none⟩ = some (.int .i64 s.at_) := c20
                have r3 : w7.drew.cell? ⟨w.heap.size, 4, none⟩ = some (.int .i64 s.t.a) := c4
                have hEE := Lib.hid (show endedB s = (decide (s.t.kind ≠ 7) || lateB s s.at_ s.t.a) from by unfold endedB; rw [hsz, decide_eq_true hz, hcl]; simp)
                clear hsz hz tz
                by_cases k7 : s.t.kind = 7
                · have t7_ : (s.t.kind != 7) = false := by rw [k7]; rfl
                  obtain ⟨late2, hl⟩ : ∃ late2, Hid (lateB s s.at_ s.t.a = late2) := ⟨_, Lib.hid rfl⟩
                  have hl2 := Lib.hid (show decide (add s.at_ s.t.a ≤ s.clock) = late2 from hl.out)
                  have k7h := Lib.hid k7
                  clear k7
                  refine start_ (n := 15) (S := fun w' => w'.cell? ⟨w.heap.size, 1, none⟩ = some (.int .i64 s.t.kind) ∧ w'.cell? ⟨w.heap.size, 16, none⟩ = some (.int .i64 s.clock) ∧ w'.cell? ⟨w.heap.size, 20, none⟩ = some (.int .i64 s.at_) ∧ w'.cell? ⟨w.heap.size, 4, none⟩ = some (.int .i64 s.t.a)) (ds := []) (m_ 15 0) (by kernel_rfl) rfl (by kernel_rfl) ⟨r0, r1, r2, r3⟩ (fun hHeld => ?_)
                  refine pq_ 0 64 15 1 ?_
                  refine pq_ 1 65 15 3 ?_
                  refine tq_ 2 66 15 7 hHeld ?_
                  refine pq_ 3 67 15 15 ?_
                  refine pq_ 4 68 15 31 ?_
                  refine pq_ 5 69 15 63 ?_
                  refine pq_ 7 71 15 191 ?_
                  refine pq_ 9 73 15 703 ?_
                  refine pq_ 10 74 15 1727 ?_
                  refine tq_ 6 70 15 1791 hHeld ?_
                  refine tq_ 8 72 15 2047 hHeld ?_
                  refine tq_ 11 75 15 4095 hHeld ?_
                  refine one_ (i := 12) (N := some 76) (m_ 15 8191) rfl rfl (by kernel_rfl) (by decide) (fun K hK => ?_)
                  refine goes_ Tryz.func53 (by kernel_rfl) rfl #[.int .i64 s.at_, .int .i64 s.t.a] (by rfl) rfl rfl (by simp only [List.map_toArray, List.map_cons, List.map_nil]; rfl) ?_
                  with_reducible refine ((hadd.out s.at_ s.t.a _)).mono ?_
                  rintro e w8 ⟨rfl, rfl⟩
                  refine ⟨_, rfl, ?_⟩
                  refine hK.out _ _ ⟨r0, r1, r2, r3⟩ (fun hHeld => ?_)
                  clear hK K
                  refine norm_ (a' := ?_) ?_ ?_
                  rotate_left
                  · show Act.put _ (some 76) _ = _
                    simp only [Act.put, List.setIfInBounds_toArray, List.set_cons_zero, List.set_cons_succ, i64_w, i32_w]
                    rfl
                  refine pq_ 13 77 15 16383 ?_
                  refine pq_ 14 78 15 32767 ?_
                  refine done_ (by kernel_rfl) ?_
                  rw [hl2.out]
                  clear hHeld r0 r1 r2 r3
                  have hb2d := Lib.hid (show Blk w7.drew w.heap.size 38 (rcells s A c) from hb2.out)
                  have hb4d := Lib.hid (show Blk w7.drew (w.heap.size + 1) 38 zcells from hb4.out)
                  have hBBd := Lib.hid (show Below w.heap.size w w7.drew from hBB.out.drew)
                  have c21d : w7.drew.cell? ⟨w.heap.size, 21, none⟩ = some (.int .i64 0) := c21
                  have f21d : w7.drew.frozen? ⟨w.heap.size, 21, none⟩ = false := f21
                  clear c1 c16 c20 c4 f21 c21 hb2 hb4 hBB
                  have hb2 := hb2d
                  have hb4 := hb4d
                  have hBB := hBBd
                  clear hb2d hb4d hBBd
                  generalize w7.drew = V2 at *
                  have hset := Lib.hid (fun (v : Int) => show Blk (V2.setCell ⟨w.heap.size, 21, none⟩ (.int .i64 v)) w.heap.size 38 (rcells { s with state := v } A c) ∧ Blk (V2.setCell ⟨w.heap.size, 21, none⟩ (.int .i64 v)) (w.heap.size + 1) 38 zcells ∧ Below w.heap.size w (V2.setCell ⟨w.heap.size, 21, none⟩ (.int .i64 v)) from ⟨by have := hb2.out.set_ 21 (.int .i64 v); rwa [rc_state] at this, hb4.out.far (p := ⟨w.heap.size, 21, none⟩) (by show w.heap.size + 1 ≠ w.heap.size; omega) _, hBB.out.setCell (p := ⟨w.heap.size, 21, none⟩) (Nat.le_refl _) _⟩)
                  cases late2 with
                  | true =>
                    have hdf := Lib.hid (show lookP s0 now = { s with state := 1 } from by rw [hE.out, hEE.out, hl.out]; simp)
                    clear hE hEE hl hl2
                    obtain ⟨q1, q2, q3⟩ := hset.out 1
                    have hb2x := Lib.hid q1
                    have hb4x := Lib.hid q2
                    have hBBx := Lib.hid q3
                    clear hset q1 q2 q3 hb2 hb4 hBB
                    have hb2 := hb2x
                    have hb4 := hb4x
                    have hBB := hBBx
                    clear hb2x hb4x hBBx
                    go_upto_region 20 with (fail)
                    generalize V2.setCell ⟨w.heap.size, 21, none⟩ (.int .i64 1) = U at *
                    refine copy_ w.heap.size (w.heap.size + 1) 2 4 80 rfl rfl rfl rfl rfl rfl hb2.out hb4.out Tryz.underlying38 rfl inf22 rfl (one22 { s with state := 1 } A c) (by rfl) (by simp only [Act.put, List.setIfInBounds_toArray, List.set_cons_zero, List.set_cons_succ]; rfl) (by rfl) (by rfl) (fun WR hbr hk hbl => ?_)
                    have hR := Lib.hid (And.intro hbr (hbl _ w (by omega) hBB.out))
                    clear hbr hk hbl
                    go_wp2
                    exact bodyPost_ret (v := .agg (rcells { s with state := 1 } A c)) (results_cell_row Tryz.results26 _ _ (w.heap.size + 1) 38 _ (0, 0) _ rfl hR.out.1 Tryz.underlying38 rfl inf22) rfl ⟨by rw [hdf.out], hR.out.2⟩
                  | false =>
                    have hdf := Lib.hid (show lookP s0 now = s from by rw [hE.out, hEE.out, hl.out, k7h.out]; show ({ s with state := 0 } : Sg) = s; rw [← hs0])
                    clear hE hEE hl hl2 hset
                    go_upto_region 20 with (fail)
                    refine copy_ w.heap.size (w.heap.size + 1) 2 4 80 rfl rfl rfl rfl rfl rfl hb2.out hb4.out Tryz.underlying38 rfl inf22 rfl (one22 s A c) (by rfl) (by simp only [Act.put, List.setIfInBounds_toArray, List.set_cons_zero, List.set_cons_succ]; rfl) (by rfl) (by rfl) (fun WR hbr hk hbl => ?_)
                    have hR := Lib.hid (And.intro hbr (hbl _ w (by omega) hBB.out))
                    clear hbr hk hbl
                    go_wp2
                    exact bodyPost_ret (v := .agg (rcells s A c)) (results_cell_row Tryz.results26 _ _ (w.heap.size + 1) 38 _ (0, 0) _ rfl hR.out.1 Tryz.underlying38 rfl inf22) rfl ⟨by rw [hdf.out], hR.out.2⟩
                · have t7_ : (s.t.kind != 7) = true := by simpa using k7
                  have k7h := Lib.hid k7
                  clear k7
                  refine start_ (n := 15) (S := fun w' => w'.cell? ⟨w.heap.size, 1, none⟩ = some (.int .i64 s.t.kind) ∧ w'.cell? ⟨w.heap.size, 16, none⟩ = some (.int .i64 s.clock) ∧ w'.cell? ⟨w.heap.size, 20, none⟩ = some (.int .i64 s.at_) ∧ w'.cell? ⟨w.heap.size, 4, none⟩ = some (.int .i64 s.t.a)) (ds := []) (m_ 15 0) (by kernel_rfl) rfl (by kernel_rfl) ⟨r0, r1, r2, r3⟩ (fun hHeld => ?_)
                  refine pq_ 0 64 15 1 ?_
                  refine pq_ 1 65 15 3 ?_
                  refine tq_ 2 66 15 7 hHeld ?_
                  refine pq_ 3 67 15 15 ?_
                  refine pq_ 4 68 15 31 ?_
                  refine oq_ 5 69 15 63 ?_
                  refine oq_ 6 70 15 127 ?_
                  refine oq_ 7 71 15 255 ?_
                  refine oq_ 8 72 15 511 ?_
                  refine oq_ 9 73 15 1023 ?_
                  refine oq_ 10 74 15 2047 ?_
                  refine oq_ 11 75 15 4095 ?_
                  refine oq_ 12 76 15 8191 ?_
                  refine oq_ 13 77 15 16383 ?_
                  refine pq_ 14 78 15 32767 ?_
                  refine done_ (by kernel_rfl) ?_
                  skip
                  clear hHeld r0 r1 r2 r3
                  have hb2d := Lib.hid (show Blk w7.drew w.heap.size 38 (rcells s A c) from hb2.out)
                  have hb4d := Lib.hid (show Blk w7.drew (w.heap.size + 1) 38 zcells from hb4.out)
                  have hBBd := Lib.hid (show Below w.heap.size w w7.drew from hBB.out.drew)
                  have c21d : w7.drew.cell? ⟨w.heap.size, 21, none⟩ = some (.int .i64 0) := c21
                  have f21d : w7.drew.frozen? ⟨w.heap.size, 21, none⟩ = false := f21
                  clear c1 c16 c20 c4 f21 c21 hb2 hb4 hBB
                  have hb2 := hb2d
                  have hb4 := hb4d
                  have hBB := hBBd
                  clear hb2d hb4d hBBd
                  generalize w7.drew = V2 at *
                  have hset := Lib.hid (fun (v : Int) => show Blk (V2.setCell ⟨w.heap.size, 21, none⟩ (.int .i64 v)) w.heap.size 38 (rcells { s with state := v } A c) ∧ Blk (V2.setCell ⟨w.heap.size, 21, none⟩ (.int .i64 v)) (w.heap.size + 1) 38 zcells ∧ Below w.heap.size w (V2.setCell ⟨w.heap.size, 21, none⟩ (.int .i64 v)) from ⟨by have := hb2.out.set_ 21 (.int .i64 v); rwa [rc_state] at this, hb4.out.far (p := ⟨w.heap.size, 21, none⟩) (by show w.heap.size + 1 ≠ w.heap.size; omega) _, hBB.out.setCell (p := ⟨w.heap.size, 21, none⟩) (Nat.le_refl _) _⟩)
                  have hdf := Lib.hid (show lookP s0 now = { s with state := 1 } from by rw [hE.out, hEE.out]; simp [k7h.out])
                  clear hE hEE
                  obtain ⟨q1, q2, q3⟩ := hset.out 1
                  have hb2x := Lib.hid q1
                  have hb4x := Lib.hid q2
                  have hBBx := Lib.hid q3
                  clear hset q1 q2 q3 hb2 hb4 hBB
                  have hb2 := hb2x
                  have hb4 := hb4x
                  have hBB := hBBx
                  clear hb2x hb4x hBBx
                  go_upto_region 20 with (fail)
                  generalize V2.setCell ⟨w.heap.size, 21, none⟩ (.int .i64 1) = U at *
                  refine copy_ w.heap.size (w.heap.size + 1) 2 4 80 rfl rfl rfl rfl rfl rfl hb2.out hb4.out Tryz.underlying38 rfl inf22 rfl (one22 { s with state := 1 } A c) (by rfl) (by simp only [Act.put, List.setIfInBounds_toArray, List.set_cons_zero, List.set_cons_succ]; rfl) (by rfl) (by rfl) (fun WR hbr hk hbl => ?_)
                  have hR := Lib.hid (And.intro hbr (hbl _ w (by omega) hBB.out))
                  clear hbr hk hbl
                  go_wp2
                  exact bodyPost_ret (v := .agg (rcells { s with state := 1 } A c)) (results_cell_row Tryz.results26 _ _ (w.heap.size + 1) 38 _ (0, 0) _ rfl hR.out.1 Tryz.underlying38 rfl inf22) rfl ⟨by rw [hdf.out], hR.out.2⟩
              · have tz : (((cat s.c.1).size : Int) == 0) = false := by simpa using hz
                refine lp_ (v := ?_) (a' := ?_) ?_ (by rfl) ?_ ?_
                rotate_left 2
                · go_simp; with_reducible rfl
                · simp only [Act.put, List.setIfInBounds_toArray, List.set_cons_zero, List.set_cons_succ]; rfl
                refine lp_ (v := ?_) (a' := ?_) ?_ (by rfl) ?_ ?_
                rotate_left 2
                · go_simp; with_reducible rfl
                · simp only [Act.put, List.setIfInBounds_toArray, List.set_cons_zero, List.set_cons_succ]; rfl
                refine wpList_nil ?_
                have hdf := Lib.hid (show lookP s0 now = s from by rw [hE.out, show endedB s = false from by unfold endedB; rw [hsz, decide_eq_false hz]; simp]; show ({ s with state := 0 } : Sg) = s; rw [← hs0])
                clear hE hsz hz tz
                go_upto_region 20 with (fail)
                refine copy_ w.heap.size (w.heap.size + 1) 2 4 80 rfl rfl rfl rfl rfl rfl hb2.out hb4.out Tryz.underlying38 rfl inf22 rfl (one22 s A c) (by rfl) (by simp only [Act.put, List.setIfInBounds_toArray, List.set_cons_zero, List.set_cons_succ]; rfl) (by rfl) (by rfl) (fun WR hbr hk hbl => ?_)
                have hR := Lib.hid (And.intro hbr (hbl _ w (by omega) hBB.out))
                clear hbr hk hbl
                go_wp2
                exact bodyPost_ret (v := .agg (rcells s A c)) (results_cell_row Tryz.results26 _ _ (w.heap.size + 1) 38 _ (0, 0) _ rfl hR.out.1 Tryz.underlying38 rfl inf22) rfl ⟨by rw [hdf.out], hR.out.2⟩
          have t6 : (s.t.kind == 6) = false := by simpa using k6'
          clear k5 k4 k6 k5' k6'
          cases hcl : s.closed with
          | false =>
            have hdf := Lib.hid (show lookP s0 now = s from by rw [hE.out, show endedB s = false from by unfold endedB; rw [hcl]; rfl]; show ({ s with state := 0 } : Sg) = s; rw [← hs0])
            rw [hcl] at c19
            clear hset hE
            go_upto_region 20 with (fail)
            refine copy_ w.heap.size (w.heap.size + 1) 2 4 80 rfl rfl rfl rfl rfl rfl hb2.out hb4.out Tryz.underlying38 rfl inf22 rfl (one22 s A c) (by rfl) (by simp only [Act.put, List.setIfInBounds_toArray, List.set_cons_zero, List.set_cons_succ]; rfl) (by rfl) (by rfl) (fun WR hbr hk hbl => ?_)
            have hR := Lib.hid (And.intro hbr (hbl _ w (by omega) hBB.out))
            clear hbr hk hbl
            go_wp2
            exact bodyPost_ret (v := .agg (rcells s A c)) (results_cell_row Tryz.results26 _ _ (w.heap.size + 1) 38 _ (0, 0) _ rfl hR.out.1 Tryz.underlying38 rfl inf22) rfl ⟨by rw [hdf.out], hR.out.2⟩
          | true =>
            rw [hcl] at c19
            go_upto_region 17 with (fail)
            refine wp_region_lit (l := [_, _, _, _, _, _, _]) ?_
            refine lp_ (v := ?_) (a' := ?_) ?_ (by rfl) ?_ ?_
            rotate_left 2
            · go_simp; with_reducible rfl
            · simp only [Act.put, List.setIfInBounds_toArray, List.set_cons_zero, List.set_cons_succ]; rfl
            refine lp_ (v := ?_) (a' := ?_) ?_ (by rfl) ?_ ?_
            rotate_left 2
            · go_simp; with_reducible rfl
            · simp only [Act.put, List.setIfInBounds_toArray, List.set_cons_zero, List.set_cons_succ]; rfl
            refine lp_ (v := ?_) (a' := ?_) ?_ (by rfl) ?_ ?_
            rotate_left 2
            · go_simp; with_reducible rfl
            · simp only [Act.put, List.setIfInBounds_toArray, List.set_cons_zero, List.set_cons_succ]; rfl
            refine lp_ (load_run rfl (by rfl) hb2.out Tryz.underlying38 rfl inf22) (by rfl) (by simp only [Act.put, List.setIfInBounds_toArray, List.set_cons_zero, List.set_cons_succ]; rfl) ?_
            refine wpList_step fun K hK => ?_
            refine goes_ Tryz.func54 (by kernel_rfl) rfl #[.agg (rcells s A c)] (by rfl) rfl rfl (by simp only [List.map_toArray, List.map_cons, List.map_nil]; rfl) ?_
            refine (held_of (rcells s A c) (cat s.c.1) V rfl).mono ?_
            rintro e w7 ⟨rfl, hB7⟩
            have hb27 := Lib.hid (hb2.out.below hB7)
            have hb47 := Lib.hid (hb4.out.below hB7)
            have hBB7 := Lib.hid (hBB.out.trans (hB7.mono hBB.out.size))
            refine ⟨_, rfl, hK _ _ ?_⟩
            clear hB7 hK c1 c4 c18 c19 c21 f21 hset hb2 hb4 hBB
            have hb2 := hb27
            have hb4 := hb47
            have hBB := hBB7
            clear hb27 hb47 hBB7
            have hsz : held s = (cat s.c.1).size := by unfold held; rw [cat_size]
            refine nl_ (by simp only [Act.put, List.setIfInBounds_toArray, List.set_cons_zero, List.set_cons_succ]; rfl) ?_
            have c1 : w7.cell? ⟨w.heap.size, 1, none⟩ = some (.int .i64 s.t.kind) := (hb2.out.cell 1).trans rfl
            have c16 : w7.cell? ⟨w.heap.size, 16, none⟩ = some (.int .i64 s.clock) := (hb2.out.cell 16).trans rfl
            have c20 : w7.cell? ⟨w.heap.size, 20, none⟩ = some (.int .i64 s.at_) := (hb2.out.cell 20).trans rfl
            have c4 : w7.cell? ⟨w.heap.size, 4, none⟩ = some (.int .i64 s.t.a) := (hb2.out.cell 4).trans rfl
            have f21 := hb2.out.free 21
            have c21 : w7.cell? ⟨w.heap.size, 21, none⟩ = some (.int .i64 0) := (hb2.out.cell 21).trans (by rw [show (rcells s A c)[21]? = some (.int .i64 s.state) from rfl, hs0])
            by_cases hz : (cat s.c.1).size = 0
            · have tz : (((cat s.c.1).size : Int) == 0) = true := by rw [hz]; rfl
              refine lp_ (v := ?_) (a' := ?_) ?_ (by rfl) ?_ ?_
              rotate_left 2
              · go_simp; with_reducible rfl
              · simp only [Act.put, List.setIfInBounds_toArray, List.set_cons_zero, List.set_cons_succ]; rfl
              refine lp_ (v := ?_) (a' := ?_) ?_ (by rfl) ?_ ?_
              rotate_left 2
              · go_simp; with_reducible rfl
              · simp only [Act.put, List.setIfInBounds_toArray, List.set_cons_zero, List.set_cons_succ]; rfl
              refine wpList_nil ?_
              go_upto_region 18 with (fail)
              have r0 : w7.drew.cell? ⟨w.heap.size, 1, none⟩ = some (.int .i64 s.t.kind) := c1
              have r1 : w7.drew.cell? ⟨w.heap.size, 16, none⟩ = some (.int .i64 s.clock) := c16
              have r2 : w7.drew.cell? ⟨w.heap.size, 20, none⟩ = some (.int .i64 s.at_) := c20
              have r3 : w7.drew.cell? ⟨w.heap.size, 4, none⟩ = some (.int .i64 s.t.a) := c4
              have hEE := Lib.hid (show endedB s = (decide (s.t.kind ≠ 7) || lateB s s.at_ s.t.a) from by unfold endedB; rw [hsz, decide_eq_true hz, hcl]; simp)
              clear hsz hz tz
              by_cases k7 : s.t.kind = 7
              · have t7_ : (s.t.kind != 7) = false := by rw [k7]; rfl
                obtain ⟨late2, hl⟩ : ∃ late2, Hid (lateB s s.at_ s.t.a = late2) := ⟨_, Lib.hid rfl⟩
                have hl2 := Lib.hid (show decide (add s.at_ s.t.a ≤ s.clock) = late2 from hl.out)
                have k7h := Lib.hid k7
                clear k7
                refine start_ (n := 15) (S := fun w' => w'.cell? ⟨w.heap.size, 1, none⟩ = some (.int .i64 s.t.kind) ∧ w'.cell? ⟨w.heap.size, 16, none⟩ = some (.int .i64 s.clock) ∧ w'.cell? ⟨w.heap.size, 20, none⟩ = some (.int .i64 s.at_) ∧ w'.cell? ⟨w.heap.size, 4, none⟩ = some (.int .i64 s.t.a)) (ds := []) (m_ 15 0) (by kernel_rfl) rfl (by kernel_rfl) ⟨r0, r1, r2, r3⟩ (fun hHeld => ?_)
                refine pq_ 0 64 15 1 ?_
                refine pq_ 1 65 15 3 ?_
                refine tq_ 2 66 15 7 hHeld ?_
                refine pq_ 3 67 15 15 ?_
                refine pq_ 4 68 15 31 ?_
                refine pq_ 5 69 15 63 ?_
                refine pq_ 7 71 15 191 ?_
                refine pq_ 9 73 15 703 ?_
                refine pq_ 10 74 15 1727 ?_
                refine tq_ 6 70 15 1791 hHeld ?_
                refine tq_ 8 72 15 2047 hHeld ?_
                refine tq_ 11 75 15 4095 hHeld ?_
                refine one_ (i := 12) (N := some 76) (m_ 15 8191) rfl rfl (by kernel_rfl) (by decide) (fun K hK => ?_)
                refine goes_ Tryz.func53 (by kernel_rfl) rfl #[.int .i64 s.at_, .int .i64 s.t.a] (by rfl) rfl rfl (by simp only [List.map_toArray, List.map_cons, List.map_nil]; rfl) ?_
                with_reducible refine ((hadd.out s.at_ s.t.a _)).mono ?_
                rintro e w8 ⟨rfl, rfl⟩
                refine ⟨_, rfl, ?_⟩
                refine hK.out _ _ ⟨r0, r1, r2, r3⟩ (fun hHeld => ?_)
                clear hK K
                refine norm_ (a' := ?_) ?_ ?_
                rotate_left
                · show Act.put _ (some 76) _ = _
                  simp only [Act.put, List.setIfInBounds_toArray, List.set_cons_zero, List.set_cons_succ, i64_w, i32_w]
                  rfl
                refine pq_ 13 77 15 16383 ?_
                refine pq_ 14 78 15 32767 ?_
                refine done_ (by kernel_rfl) ?_
                rw [hl2.out]
                clear hHeld r0 r1 r2 r3
                have hb2d := Lib.hid (show Blk w7.drew w.heap.size 38 (rcells s A c) from hb2.out)
                have hb4d := Lib.hid (show Blk w7.drew (w.heap.size + 1) 38 zcells from hb4.out)
                have hBBd := Lib.hid (show Below w.heap.size w w7.drew from hBB.out.drew)
                have c21d : w7.drew.cell? ⟨w.heap.size, 21, none⟩ = some (.int .i64 0) := c21
                have f21d : w7.drew.frozen? ⟨w.heap.size, 21, none⟩ = false := f21
                clear c1 c16 c20 c4 f21 c21 hb2 hb4 hBB
                have hb2 := hb2d
                have hb4 := hb4d
                have hBB := hBBd
                clear hb2d hb4d hBBd
                generalize w7.drew = V2 at *
                have hset := Lib.hid (fun (v : Int) => show Blk (V2.setCell ⟨w.heap.size, 21, none⟩ (.int .i64 v)) w.heap.size 38 (rcells { s with state := v } A c) ∧ Blk (V2.setCell ⟨w.heap.size, 21, none⟩ (.int .i64 v)) (w.heap.size + 1) 38 zcells ∧ Below w.heap.size w (V2.setCell ⟨w.heap.size, 21, none⟩ (.int .i64 v)) from ⟨by have := hb2.out.set_ 21 (.int .i64 v); rwa [rc_state] at this, hb4.out.far (p := ⟨w.heap.size, 21, none⟩) (by show w.heap.size + 1 ≠ w.heap.size; omega) _, hBB.out.setCell (p := ⟨w.heap.size, 21, none⟩) (Nat.le_refl _) _⟩)
                cases late2 with
                | true =>
                  have hdf := Lib.hid (show lookP s0 now = { s with state := 1 } from by rw [hE.out, hEE.out, hl.out]; simp)
                  clear hE hEE hl hl2
                  obtain ⟨q1, q2, q3⟩ := hset.out 1
                  have hb2x := Lib.hid q1
                  have hb4x := Lib.hid q2
                  have hBBx := Lib.hid q3
                  clear hset q1 q2 q3 hb2 hb4 hBB
                  have hb2 := hb2x
                  have hb4 := hb4x
                  have hBB := hBBx
                  clear hb2x hb4x hBBx
                  go_upto_region 20 with (fail)
                  generalize V2.setCell ⟨w.heap.size, 21, none⟩ (.int .i64 1) = U at *
                  refine copy_ w.heap.size (w.heap.size + 1) 2 4 80 rfl rfl rfl rfl rfl rfl hb2.out hb4.out Tryz.underlying38 rfl inf22 rfl (one22 { s with state := 1 } A c) (by rfl) (by simp only [Act.put, List.setIfInBounds_toArray, List.set_cons_zero, List.set_cons_succ]; rfl) (by rfl) (by rfl) (fun WR hbr hk hbl => ?_)
                  have hR := Lib.hid (And.intro hbr (hbl _ w (by omega) hBB.out))
                  clear hbr hk hbl
                  go_wp2
                  exact bodyPost_ret (v := .agg (rcells { s with state := 1 } A c)) (results_cell_row Tryz.results26 _ _ (w.heap.size + 1) 38 _ (0, 0) _ rfl hR.out.1 Tryz.underlying38 rfl inf22) rfl ⟨by rw [hdf.out], hR.out.2⟩
                | false =>
                  have hdf := Lib.hid (show lookP s0 now = s from by rw [hE.out, hEE.out, hl.out, k7h.out]; show ({ s with state := 0 } : Sg) = s; rw [← hs0])
                  clear hE hEE hl hl2 hset
                  go_upto_region 20 with (fail)
                  refine copy_ w.heap.size (w.heap.size + 1) 2 4 80 rfl rfl rfl rfl rfl rfl hb2.out hb4.out Tryz.underlying38 rfl inf22 rfl (one22 s A c) (by rfl) (by simp only [Act.put, List.setIfInBounds_toArray, List.set_cons_zero, List.set_cons_succ]; rfl) (by rfl) (by rfl) (fun WR hbr hk hbl => ?_)
                  have hR := Lib.hid (And.intro hbr (hbl _ w (by omega) hBB.out))
                  clear hbr hk hbl
                  go_wp2
                  exact bodyPost_ret (v := .agg (rcells s A c)) (results_cell_row Tryz.results26 _ _ (w.heap.size + 1) 38 _ (0, 0) _ rfl hR.out.1 Tryz.underlying38 rfl inf22) rfl ⟨by rw [hdf.out], hR.out.2⟩
              · have t7_ : (s.t.kind != 7) = true := by simpa using k7
                have k7h := Lib.hid k7
                clear k7
                refine start_ (n := 15) (S := fun w' => w'.cell? ⟨w.heap.size, 1, none⟩ = some (.int .i64 s.t.kind) ∧ w'.cell? ⟨w.heap.size, 16, none⟩ = some (.int .i64 s.clock) ∧ w'.cell? ⟨w.heap.size, 20, none⟩ = some (.int .i64 s.at_) ∧ w'.cell? ⟨w.heap.size, 4, none⟩ = some (.int .i64 s.t.a)) (ds := []) (m_ 15 0) (by kernel_rfl) rfl (by kernel_rfl) ⟨r0, r1, r2, r3⟩ (fun hHeld => ?_)
                refine pq_ 0 64 15 1 ?_
                refine pq_ 1 65 15 3 ?_
                refine tq_ 2 66 15 7 hHeld ?_
                refine pq_ 3 67 15 15 ?_
                refine pq_ 4 68 15 31 ?_
                refine oq_ 5 69 15 63 ?_
                refine oq_ 6 70 15 127 ?_
                refine oq_ 7 71 15 255 ?_
                refine oq_ 8 72 15 511 ?_
                refine oq_ 9 73 15 1023 ?_
                refine oq_ 10 74 15 2047 ?_
                refine oq_ 11 75 15 4095 ?_
                refine oq_ 12 76 15 8191 ?_
                refine oq_ 13 77 15 16383 ?_
                refine pq_ 14 78 15 32767 ?_
                refine done_ (by kernel_rfl) ?_
                skip
                clear hHeld r0 r1 r2 r3
                have hb2d := Lib.hid (show Blk w7.drew w.heap.size 38 (rcells s A c) from hb2.out)
                have hb4d := Lib.hid (show Blk w7.drew (w.heap.size + 1) 38 zcells from hb4.out)
                have hBBd := Lib.hid (show Below w.heap.size w w7.drew from hBB.out.drew)
                have c21d : w7.drew.cell? ⟨w.heap.size, 21, none⟩ = some (.int .i64 0) := c21
                have f21d : w7.drew.frozen? ⟨w.heap.size, 21, none⟩ = false := f21
                clear c1 c16 c20 c4 f21 c21 hb2 hb4 hBB
                have hb2 := hb2d
                have hb4 := hb4d
                have hBB := hBBd
                clear hb2d hb4d hBBd
                generalize w7.drew = V2 at *
                have hset := Lib.hid (fun (v : Int) => show Blk (V2.setCell ⟨w.heap.size, 21, none⟩ (.int .i64 v)) w.heap.size 38 (rcells { s with state := v } A c) ∧ Blk (V2.setCell ⟨w.heap.size, 21, none⟩ (.int .i64 v)) (w.heap.size + 1) 38 zcells ∧ Below w.heap.size w (V2.setCell ⟨w.heap.size, 21, none⟩ (.int .i64 v)) from ⟨by have := hb2.out.set_ 21 (.int .i64 v); rwa [rc_state] at this, hb4.out.far (p := ⟨w.heap.size, 21, none⟩) (by show w.heap.size + 1 ≠ w.heap.size; omega) _, hBB.out.setCell (p := ⟨w.heap.size, 21, none⟩) (Nat.le_refl _) _⟩)
                have hdf := Lib.hid (show lookP s0 now = { s with state := 1 } from by rw [hE.out, hEE.out]; simp [k7h.out])
                clear hE hEE
                obtain ⟨q1, q2, q3⟩ := hset.out 1
                have hb2x := Lib.hid q1
                have hb4x := Lib.hid q2
                have hBBx := Lib.hid q3
                clear hset q1 q2 q3 hb2 hb4 hBB
                have hb2 := hb2x
                have hb4 := hb4x
                have hBB := hBBx
                clear hb2x hb4x hBBx
                go_upto_region 20 with (fail)
                generalize V2.setCell ⟨w.heap.size, 21, none⟩ (.int .i64 1) = U at *
                refine copy_ w.heap.size (w.heap.size + 1) 2 4 80 rfl rfl rfl rfl rfl rfl hb2.out hb4.out Tryz.underlying38 rfl inf22 rfl (one22 { s with state := 1 } A c) (by rfl) (by simp only [Act.put, List.setIfInBounds_toArray, List.set_cons_zero, List.set_cons_succ]; rfl) (by rfl) (by rfl) (fun WR hbr hk hbl => ?_)
                have hR := Lib.hid (And.intro hbr (hbl _ w (by omega) hBB.out))
                clear hbr hk hbl
                go_wp2
                exact bodyPost_ret (v := .agg (rcells { s with state := 1 } A c)) (results_cell_row Tryz.results26 _ _ (w.heap.size + 1) 38 _ (0, 0) _ rfl hR.out.1 Tryz.underlying38 rfl inf22) rfl ⟨by rw [hdf.out], hR.out.2⟩
            · have tz : (((cat s.c.1).size : Int) == 0) = false := by simpa using hz
              refine lp_ (v := ?_) (a' := ?_) ?_ (by rfl) ?_ ?_
              rotate_left 2
              · go_simp; with_reducible rfl
              · simp only [Act.put, List.setIfInBounds_toArray, List.set_cons_zero, List.set_cons_succ]; rfl
              refine lp_ (v := ?_) (a' := ?_) ?_ (by rfl) ?_ ?_
              rotate_left 2
              · go_simp; with_reducible rfl
              · simp only [Act.put, List.setIfInBounds_toArray, List.set_cons_zero, List.set_cons_succ]; rfl
              refine wpList_nil ?_
              have hdf := Lib.hid (show lookP s0 now = s from by rw [hE.out, show endedB s = false from by unfold endedB; rw [hsz, decide_eq_false hz]; simp]; show ({ s with state := 0 } : Sg) = s; rw [← hs0])
              clear hE hsz hz tz
              go_upto_region 20 with (fail)
              refine copy_ w.heap.size (w.heap.size + 1) 2 4 80 rfl rfl rfl rfl rfl rfl hb2.out hb4.out Tryz.underlying38 rfl inf22 rfl (one22 s A c) (by rfl) (by simp only [Act.put, List.setIfInBounds_toArray, List.set_cons_zero, List.set_cons_succ]; rfl) (by rfl) (by rfl) (fun WR hbr hk hbl => ?_)
              have hR := Lib.hid (And.intro hbr (hbl _ w (by omega) hBB.out))
              clear hbr hk hbl
              go_wp2
              exact bodyPost_ret (v := .agg (rcells s A c)) (results_cell_row Tryz.results26 _ _ (w.heap.size + 1) 38 _ (0, 0) _ rfl hR.out.1 Tryz.underlying38 rfl inf22) rfl ⟨by rw [hdf.out], hR.out.2⟩
end Go.Proofs.YtehpliclknfmoaaGreat.RefT
namespace Go.Proofs.YtehpliclknfmoaaGreat.RefT
open Go.RowKit Mem Tick Cargo Toxic Stage Ref07
open Go.Proofs.YtehpliclknfmoaaGreatW.PrintLast Pu
set_option maxRecDepth 100000
set_option linter.unusedVariables false
set_option linter.unusedSimpArgs false
theorem w_free {r : Int} {n : Nat} (h0 : 0 ≤ r) (h1 : r ≤ 1000000000000) (hn : n ≤ 1000000000000) : wrap64 (r - (n : Int)) = r - (n : Int) := by unfold wrap64; omega
theorem free_any (s : Sg) (A : Option Addr) (c : Nat) (w : World) (ht : held s ≤ 1000000000000) (h0 : 0 ≤ s.room) (h1 : s.room ≤ 1000000000000) :
    Calls Tryz.prog 52 #[.agg (rcells s A c)] w fun e w' => e = .returned (.int .i64 (free s)) ∧ Below w.heap.size w w' := by
  have hsz : held s = (cat s.c.1).size := by unfold held; rw [cat_size]
  have hw := Lib.hid (w_free h0 h1 (show (cat s.c.1).size ≤ 1000000000000 by omega))
  obtain ⟨W, hW⟩ : ∃ W, W = w.alloc (.cells (rcells s A c) 38) := ⟨_, rfl⟩
  have hB := Lib.hid (show Below w.heap.size w W by rw [hW]; exact (Below.refl _ _).alloc (Nat.le_refl _) _)
  have hb2 : Blk W w.heap.size 38 (rcells s A c) := by rw [hW]; exact Blk.new w _ _
  have h2 := Lib.hid (show Blk W.drew w.heap.size 38 (rcells s A c) from hb2)
  have r1 : W.drew.cell? ⟨w.heap.size, 14, none⟩ = some (.int .i64 s.room) := (h2.out.cell 14).trans rfl
  clear hb2
  go_enter Tryz.func52, Tryz.ntmps52
  go_upto_region 1 with (fail)
  rw [← hW]
  clear hW
  by_cases hc : s.room < ((cat s.c.1).size : Int)
  · have t1 : decide (s.room < ((cat s.c.1).size : Int)) = true := decide_eq_true hc
    have hf := Lib.hid (show free s = 0 from by unfold free; rw [hsz, Int.max_eq_right (by omega)])
    clear hc hsz ht h0 h1
    refine start_ (n := 5) (S := fun w' => Blk w' w.heap.size 38 (rcells s A c) ∧ w'.cell? ⟨w.heap.size, 14, none⟩ = some (.int .i64 s.room)) (ds := []) (m_ 5 0) (by kernel_rfl) rfl (by kernel_rfl) ⟨h2.out, r1⟩ (fun hHeld => ?_)
    refine pq_ 2 5 5 4 ?_
    refine tk_ 0 (some 3) (m_ 5 5) rfl rfl (by kernel_rfl) (fun _ _ _ h => h) (by rfl) (fun w' s0 => load_run rfl (by rfl) s0.1 Tryz.underlying38 rfl inf22) hHeld (by simp only [Act.put, List.setIfInBounds_toArray, List.set_cons_zero, List.set_cons_succ]; rfl) ?_
    refine tq_ 3 6 5 13 hHeld ?_
    refine one_ (i := 1) (N := some 4) (m_ 5 15) rfl rfl (by kernel_rfl) (by decide) (fun K hK => ?_)
    refine goes_ Tryz.func54 (by kernel_rfl) rfl #[.agg (rcells s A c)] (by rfl) rfl rfl (by simp only [List.map_toArray, List.map_cons, List.map_nil]; rfl) ?_
    with_reducible refine ((held_of (rcells s A c) (cat s.c.1) _ rfl)).mono ?_
    rintro e w5 ⟨rfl, hB5⟩
    have b5 := h2.out.below hB5
    have d5 := bcells hB5 r1
    refine ⟨_, rfl, ?_⟩
    refine hK.out _ _ ⟨b5, d5⟩ (fun hHeld => ?_)
    clear hK K
    refine norm_ (a' := ?_) ?_ ?_
    rotate_left
    · show Act.put _ (some 4) _ = _
      simp only [Act.put, List.setIfInBounds_toArray, List.set_cons_zero, List.set_cons_succ, i64_w, i32_w]
      rfl
    refine pq_ 4 7 5 31 ?_
    refine done_ (by kernel_rfl) ?_
    clear hHeld
    have hB5' := Lib.hid (hB.out.trans ((show Below W.heap.size W w5 from (show Below W.heap.size W W.drew from (Below.refl _ _).drew).trans hB5).mono hB.out.size))
    clear b5 d5 hB5 r1
    go_wp2
    go_ret
    exact ⟨by rw [hf.out]; rfl, hB5'.out⟩
  · have t1 : decide (s.room < ((cat s.c.1).size : Int)) = false := decide_eq_false hc
    have hf := Lib.hid (show free s = s.room - ((cat s.c.1).size : Int) from by unfold free; rw [hsz, Int.max_eq_left (by omega)])
    clear hc hsz ht h0 h1
    refine start_ (n := 5) (S := fun w' => Blk w' w.heap.size 38 (rcells s A c) ∧ w'.cell? ⟨w.heap.size, 14, none⟩ = some (.int .i64 s.room)) (ds := []) (m_ 5 0) (by kernel_rfl) rfl (by kernel_rfl) ⟨h2.out, r1⟩ (fun hHeld => ?_)
    refine pq_ 2 5 5 4 ?_
    refine tk_ 0 (some 3) (m_ 5 5) rfl rfl (by kernel_rfl) (fun _ _ _ h => h) (by rfl) (fun w' s0 => load_run rfl (by rfl) s0.1 Tryz.underlying38 rfl inf22) hHeld (by simp only [Act.put, List.setIfInBounds_toArray, List.set_cons_zero, List.set_cons_succ]; rfl) ?_
    refine tq_ 3 6 5 13 hHeld ?_
    refine one_ (i := 1) (N := some 4) (m_ 5 15) rfl rfl (by kernel_rfl) (by decide) (fun K hK => ?_)
    refine goes_ Tryz.func54 (by kernel_rfl) rfl #[.agg (rcells s A c)] (by rfl) rfl rfl (by simp only [List.map_toArray, List.map_cons, List.map_nil]; rfl) ?_
    with_reducible refine ((held_of (rcells s A c) (cat s.c.1) _ rfl)).mono ?_
    rintro e w5 ⟨rfl, hB5⟩
    have b5 := h2.out.below hB5
    have d5 := bcells hB5 r1
    refine ⟨_, rfl, ?_⟩
    refine hK.out _ _ ⟨b5, d5⟩ (fun hHeld => ?_)
    clear hK K
    refine norm_ (a' := ?_) ?_ ?_
    rotate_left
    · show Act.put _ (some 4) _ = _
      simp only [Act.put, List.setIfInBounds_toArray, List.set_cons_zero, List.set_cons_succ, i64_w, i32_w]
      rfl
    refine pq_ 4 7 5 31 ?_
    refine done_ (by kernel_rfl) ?_
    clear hHeld
    have hB5' := Lib.hid (hB.out.trans ((show Below W.heap.size W w5 from (show Below W.heap.size W W.drew from (Below.refl _ _).drew).trans hB5).mono hB.out.size))
    have b5h := Lib.hid (show Blk w5.drew w.heap.size 38 (rcells s A c) from b5)
    have r2 : w5.drew.cell? ⟨w.heap.size, 14, none⟩ = some (.int .i64 s.room) := d5
    clear b5 d5 hB5 r1
    go_upto_region 3 with (fail)
    have hwx := hw.out
    refine start_ (n := 6) (S := fun w' => Blk w' w.heap.size 38 (rcells s A c) ∧ w'.cell? ⟨w.heap.size, 14, none⟩ = some (.int .i64 s.room)) (ds := []) (m_ 6 0) (by kernel_rfl) rfl (by kernel_rfl) ⟨b5h.out, r2⟩ (fun hHeld => ?_)
    refine pq_ 0 8 6 1 ?_
    refine tq_ 1 9 6 3 hHeld ?_
    refine tk_ 2 (some 10) (m_ 6 7) rfl rfl (by kernel_rfl) (fun _ _ _ h => h) (by rfl) (fun w' s0 => load_run rfl (by rfl) s0.1 Tryz.underlying38 rfl inf22) hHeld (by simp only [Act.put, List.setIfInBounds_toArray, List.set_cons_zero, List.set_cons_succ]; rfl) ?_
    refine one_ (i := 3) (N := some 11) (m_ 6 15) rfl rfl (by kernel_rfl) (by decide) (fun K hK => ?_)
    refine goes_ Tryz.func54 (by kernel_rfl) rfl #[.agg (rcells s A c)] (by rfl) rfl rfl (by simp only [List.map_toArray, List.map_cons, List.map_nil]; rfl) ?_
    with_reducible refine ((held_of (rcells s A c) (cat s.c.1) _ rfl)).mono ?_
    rintro e w6 ⟨rfl, hB6⟩
    have b6 := b5h.out.below hB6
    have d6 := bcells hB6 r2
    refine ⟨_, rfl, ?_⟩
    refine hK.out _ _ ⟨b6, d6⟩ (fun hHeld => ?_)
    clear hK K
    refine norm_ (a' := ?_) ?_ ?_
    rotate_left
    · show Act.put _ (some 11) _ = _
      simp only [Act.put, List.setIfInBounds_toArray, List.set_cons_zero, List.set_cons_succ, i64_w, i32_w]
      rfl
    refine pq_ 4 12 6 31 ?_
    refine pq_ 5 2 6 63 ?_
    refine done_ (by kernel_rfl) ?_
    clear hHeld hwx
    have hB6' := Lib.hid (hB5'.out.trans ((show Below w5.heap.size w5 w6 from (show Below w5.heap.size w5 w5.drew from (Below.refl _ _).drew).trans hB6).mono hB5'.out.size))
    clear b6 d6 hB6 r2
    go_wp2
    go_ret
    exact ⟨by rw [hf.out]; rfl, hB6'.out⟩
end Go.Proofs.YtehpliclknfmoaaGreat.RefT
namespace Go.Proofs.YtehpliclknfmoaaGreat.RefT
open Go.RowKit Mem Tick Cargo Toxic Stage Ref07
set_option maxRecDepth 100000
set_option linter.unusedVariables false
set_option linter.unusedSimpArgs false
theorem pass_any (n : ByteArray) (k : Int) (u : Bool) (o a b : Int) (w : World) :
    Calls Tryz.prog 17 #[.agg #[.string n, .int .i64 k, .bool u, .int .i64 o, .int .i64 a, .int .i64 b]] w fun e w' => e = .returned (.bool (passB ⟨n, k, u, o, a, b⟩)) ∧ Below w.heap.size w w' := by
  have hB := Lib.hid ((Below.refl w.heap.size w).alloc (Nat.le_refl _) (.cells #[.string n, .int .i64 k, .bool u, .int .i64 o, .int .i64 a, .int .i64 b] 23))
  have hdf := Lib.hid (show passB ⟨n, k, u, o, a, b⟩ = (n.toList == (⟨#[]⟩ : ByteArray).toList && (k == 0 && (u == false && (o == 0 && (a == 0 && b == 0))))) from rfl)
  generalize passB ⟨n, k, u, o, a, b⟩ = N at *
  cases t0 : (n.toList == (⟨#[]⟩ : ByteArray).toList) with
  | false =>
    have t0b : (n.toList == []) = false := by simpa using t0
    have hr := Lib.hid (show N = false from by rw [hdf.out, t0]; simp)
    clear hdf
    go_enter Tryz.func17, Tryz.ntmps17
    go_wp2
    go_ret
    exact ⟨by rw [hr.out]; rfl, hB.out⟩
  | true =>
    have t0b : (n.toList == []) = true := by simpa using t0
    by_cases hk : k = 0
    case neg =>
      have t1 : (k == 0) = false := by simpa using hk
      clear hk
      have hr := Lib.hid (show N = false from by rw [hdf.out, t0]; simp [t1])
      clear hdf
      go_enter Tryz.func17, Tryz.ntmps17
      go_wp2
      go_ret
      exact ⟨by rw [hr.out]; rfl, hB.out⟩
    subst hk
    cases u with
    | true =>
      have hr := Lib.hid (show N = false from by rw [hdf.out, t0]; simp)
      clear hdf
      go_enter Tryz.func17, Tryz.ntmps17
      go_wp2
      go_ret
      exact ⟨by rw [hr.out]; rfl, hB.out⟩
    | false =>
      by_cases ho : o = 0
      case neg =>
        have t3 : (o == 0) = false := by simpa using ho
        clear ho
        have hr := Lib.hid (show N = false from by rw [hdf.out, t0]; simp [t3])
        clear hdf
        go_enter Tryz.func17, Tryz.ntmps17
        go_wp2
        go_ret
        exact ⟨by rw [hr.out]; rfl, hB.out⟩
      subst ho
      by_cases ha : a = 0
      case neg =>
        have t4 : (a == 0) = false := by simpa using ha
        clear ha
        have hr := Lib.hid (show N = false from by rw [hdf.out, t0]; simp [t4])
        clear hdf
        go_enter Tryz.func17, Tryz.ntmps17
        go_wp2
        go_ret
        exact ⟨by rw [hr.out]; rfl, hB.out⟩
      subst ha
      by_cases hb : b = 0
      case neg =>
        have t5 : (b == 0) = false := by simpa using hb
        clear hb
        have hr := Lib.hid (show N = false from by rw [hdf.out, t0]; simp [t5])
        clear hdf
        go_enter Tryz.func17, Tryz.ntmps17
        go_wp2
        go_ret
        exact ⟨by rw [hr.out]; rfl, hB.out⟩
      subst hb
      have hr := Lib.hid (show N = true from by rw [hdf.out, t0]; simp)
      clear hdf
      go_enter Tryz.func17, Tryz.ntmps17
      go_wp2
      go_ret
      exact ⟨by rw [hr.out]; rfl, hB.out⟩
end Go.Proofs.YtehpliclknfmoaaGreat.RefT
namespace Go.Proofs.YtehpliclknfmoaaGreat.RefT
open Go.RowKit Mem Tick Cargo Toxic Stage Ref07
open Go.Proofs.YtehpliclknfmoaaGreatW.PrintLast Pu
set_option maxRecDepth 100000
set_option linter.unusedVariables false
set_option linter.unusedSimpArgs false
theorem lpw_ {ops : Array Oper} {rest : List Oper} {o : Oper} {a a' : Act} {w w1 : World} {Q : Exit → Act → World → Prop} {v : Value} (hy : (execOp a.eval o).run Tryz.prog w = .ok (.value v) w1) (hw : Region.wanted o (yielded ops a.tmps) = true) (ha : a.put o.dst v = a') (h : wpList Tryz.prog ops Q rest a' w1) : wpList Tryz.prog ops Q (o :: rest) a w :=
  wpList_step fun K hK => by
    rw [if_pos hw]
    unfold Oper.wp
    rw [hy]
    exact hK _ _ (ha ▸ h)
theorem scopy_any {w : World} {F : Nat → Prop} {b k : Nat} {s : Sg} (h : SG w F b k s) (hn : s.c.1.length ≤ 2000000000000) :
    Calls Tryz.prog 10 #[.pointer (some ⟨b, 0, none⟩)] w fun e w' => ∃ d k' G, e = .returned (.pointer (some ⟨d, 0, none⟩)) ∧ SG w' G d k' s ∧ (∀ j, G j → w.heap.size ≤ j) ∧ Below w.heap.size w w' := by
  have H := Lib.hid h
  obtain ⟨G0, hb, hc, hF⟩ := h
  have hcp := Lib.hid (fun (wy : World) (hy : Below w.heap.size w wy) => Cargo.copy_any (w := wy) (hc.below hy) hn)
  have hB := Lib.hid hb
  have c0 : w.cell? ⟨b, 0, none⟩ = some (.pointer (some ⟨k, 0, none⟩)) := (hb.cell 0).trans rfl
  have hlt := hb.lt
  clear hb hc
  go_enter Tryz.func10, Tryz.ntmps10
  go_upto_region 1 with (fail)
  refine wp_region_lit (l := [_, _, _, _, _]) ?_
  refine lp_ (v := ?_) (a' := ?_) ?_ (by rfl) ?_ ?_
  rotate_left 2
  · go_simp; with_reducible rfl
  · simp only [Act.put, List.setIfInBounds_toArray, List.set_cons_zero, List.set_cons_succ]; rfl
  refine lp_ (v := ?_) (a' := ?_) ?_ (by rfl) ?_ ?_
  rotate_left 2
  · go_simp; with_reducible rfl
  · simp only [Act.put, List.setIfInBounds_toArray, List.set_cons_zero, List.set_cons_succ]; rfl
  refine lp_ (load_run rfl (by rfl) hB.out Tryz.underlying59 rfl (by kernel_rfl)) (by rfl) (by simp only [Act.put, List.setIfInBounds_toArray, List.set_cons_zero, List.set_cons_succ]; rfl) ?_
  refine lpw_ (v := .pointer (some ⟨w.heap.size, 0, none⟩)) (w1 := w.alloc (.cells #[.pointer none, .string ⟨#[]⟩, .int .i64 0, .bool false, .int .i64 0, .int .i64 0, .int .i64 0, .int .u64 0, .int .i64 0, .int .i64 0, .int .i64 0, .int .i64 0, .int .i64 0, .int .i64 0, .int .i64 0, .int .i64 0, .int .i64 0, .bool false, .int .i64 0, .int .i64 0] 59)) (a' := ?_) (by go_simp) (by rfl) (by simp only [Act.put, List.setIfInBounds_toArray, List.set_cons_zero, List.set_cons_succ]; rfl) ?_
  have hz := Blk.new w 59 #[.pointer none, .string ⟨#[]⟩, .int .i64 0, .bool false, .int .i64 0, .int .i64 0, .int .i64 0, .int .u64 0, .int .i64 0, .int .i64 0, .int .i64 0, .int .i64 0, .int .i64 0, .int .i64 0, .int .i64 0, .int .i64 0, .int .i64 0, .bool false, .int .i64 0, .int .i64 0]
  have hb1 := (hB.out).below ((Below.refl w.heap.size w).alloc (Nat.le_refl _) (.cells #[.pointer none, .string ⟨#[]⟩, .int .i64 0, .bool false, .int .i64 0, .int .i64 0, .int .i64 0, .int .u64 0, .int .i64 0, .int .i64 0, .int .i64 0, .int .i64 0, .int .i64 0, .int .i64 0, .int .i64 0, .int .i64 0, .int .i64 0, .bool false, .int .i64 0, .int .i64 0] 59))
  have hBB := (Below.refl w.heap.size w).alloc (Nat.le_refl _) (.cells #[.pointer none, .string ⟨#[]⟩, .int .i64 0, .bool false, .int .i64 0, .int .i64 0, .int .i64 0, .int .u64 0, .int .i64 0, .int .i64 0, .int .i64 0, .int .i64 0, .int .i64 0, .int .i64 0, .int .i64 0, .int .i64 0, .int .i64 0, .bool false, .int .i64 0, .int .i64 0] 59)
  generalize w.alloc (.cells #[.pointer none, .string ⟨#[]⟩, .int .i64 0, .bool false, .int .i64 0, .int .i64 0, .int .i64 0, .int .u64 0, .int .i64 0, .int .i64 0, .int .i64 0, .int .i64 0, .int .i64 0, .int .i64 0, .int .i64 0, .int .i64 0, .int .i64 0, .bool false, .int .i64 0, .int .i64 0] 59) = W at *
  refine wpList_store_mid rfl 59 (.tmp 3) (.tmp 6) rfl w.heap.size 0 (scells k s) (by rfl) (by rfl) (fun j hj => ⟨by rw [Nat.zero_add, hz.cell j, Array.getElem?_eq_getElem (by exact hj)]; rfl, hz.free _⟩) (by kernel_rfl) (by unfold scells; simp [Value.oneCell']) ?_
  have hz2 := set_cells w.heap.size 59 (scells k s).toList (#[.pointer none, .string ⟨#[]⟩, .int .i64 0, .bool false, .int .i64 0, .int .i64 0, .int .i64 0, .int .u64 0, .int .i64 0, .int .i64 0, .int .i64 0, .int .i64 0, .int .i64 0, .int .i64 0, .int .i64 0, .int .i64 0, .int .i64 0, .bool false, .int .i64 0, .int .i64 0] : Array Value).toList [] W hz rfl
  have hb2 := set_far w.heap.size (show b ≠ w.heap.size by omega) (scells k s).toList 0 W hb1
  have hBB2 := set_below w.heap.size (Nat.le_refl _) (scells k s).toList 0 W hBB
  generalize W.setCells w.heap.size 0 (scells k s).toList = V at *
  refine wpList_nil ?_
  have hz3 := Lib.hid (show Blk V w.heap.size 59 (scells k s) from hz2)
  have hb3 := Lib.hid hb2
  have hB3 := Lib.hid hBB2
  have c0' : V.cell? ⟨b, 0, none⟩ = some (.pointer (some ⟨k, 0, none⟩)) := (hb2.cell 0).trans rfl
  clear hz hb1 hBB hz2 hb2 hBB2 c0
  go_wp2_with fail
  refine (hcp.out V hB3.out).mono ?_
  rintro e w7 ⟨d, G, rfl, hC, hG, hB7⟩
  have hz7 := hz3.out.below hB7
  have hsz := hB3.out.size
  have hlt7 := hz3.out.lt
  have hne : ¬ G w.heap.size := fun e => by have := hG _ e; omega
  have hset := hz7.set_ 0 (.pointer (some ⟨d, 0, none⟩))
  have hr := Lib.hid (show SG (w7.setCell ⟨w.heap.size, 0, none⟩ (.pointer (some ⟨d, 0, none⟩))) (fun j => j = w.heap.size ∨ G j) w.heap.size d s ∧ (∀ j, (j = w.heap.size ∨ G j) → w.heap.size ≤ j) ∧ Below w.heap.size w (w7.setCell ⟨w.heap.size, 0, none⟩ (.pointer (some ⟨d, 0, none⟩))) from
    ⟨⟨G, hset, hC.kept fun j hj => Below.heap_setCell _ _ _ j (by rintro rfl; exact hne hj), fun j => Iff.rfl⟩, fun j hj => by
      rcases hj with rfl | hj
      · exact Nat.le_refl _
      · have := hG j hj; omega, (hB3.out.trans (hB7.mono hB3.out.size)).setCell (p := ⟨w.heap.size, 0, none⟩) (Nat.le_refl _) _⟩)
  have e0 : w7.cell? ⟨w.heap.size, 0, none⟩ = some (.pointer (some ⟨k, 0, none⟩)) := (hz7.cell 0).trans rfl
  have f0 := hz7.free 0
  clear hz7 hset hC hG hB7 hz3 hb3 hB3 c0' hcp hB H
  go_wp2
  go_ret
  exact ⟨_, _, _, rfl, hr.out.1, hr.out.2.1, hr.out.2.2⟩
end Go.Proofs.YtehpliclknfmoaaGreat.RefT
namespace Go.Proofs.YtehpliclknfmoaaGreat.RefT
open Go.RowKit Mem Tick Cargo Toxic Stage Ref07
open Go.Proofs.YtehpliclknfmoaaGreatW.PrintLast Pu
set_option maxRecDepth 100000
set_option linter.unusedVariables false
set_option linter.unusedSimpArgs false
def RI (w : World) (s : Sg) (A : Option Addr) (c : Nat) : Prop := IR w A (tk s.c.1) ∧ (tk s.c.1).length ≤ c
theorem RI.below {w w' : World} {s : Sg} {A : Option Addr} {c : Nat} (h : RI w s A c) (hb : Below w.heap.size w w') : RI w' s A c := ⟨h.1.below hb, h.2⟩
def D64 (s : Sg) : Prop := 0 ≤ s.dice ∧ s.dice < 18446744073709551616
def FQ (w : World) (s : Sg) (e : Ending) (w' : World) : Prop := ∃ A c, e = .returned (.agg (rcells s A c)) ∧ RI w' s A c ∧ Below w.heap.size w w'
theorem nil_size (x : ByteArray) : (x.toList == []) = (x.size == 0) := by
  have h := isEmpty_size (s := x)
  cases e : x.toList <;> rw [e] at h
  · have : x.size = 0 := by simpa using h.symm
    rw [this]; rfl
  · have : ¬ x.size = 0 := by simpa using h.symm
    simpa using this
theorem two_blk (w : World) (s : Sg) (A : Option Addr) (c : Nat) : ∃ W, W = (w.alloc (.cells (rcells s A c) 38)).alloc (.cells zcells 38) ∧ Hid (Below w.heap.size w W) ∧ Hid (Blk W w.heap.size 38 (rcells s A c)) ∧ Hid (Blk W (w.heap.size + 1) 38 zcells) :=
  ⟨_, rfl, Lib.hid (((Below.refl _ _).alloc (Nat.le_refl _) _).alloc (by simp) _), Lib.hid ((Blk.new w _ _).below ((Below.refl _ _).alloc (Nat.le_refl _) _)), Lib.hid (by
    have := Blk.new (w.alloc (.cells (rcells s A c) 38)) 38 zcells
    simpa using this)⟩
theorem back_ {fn : Func} {p : Tmp} {tmps : Array Value} {w : World} {g : Nat} {t : TypeId} {cs : Array Value} {d : TypeDesc} (hb : Blk w g t cs) (h : fn.results = #[.cell p t]) (hp : tmps.getD p undef = .pointer (some ⟨g, 0, none⟩)) (hu : Tryz.prog.underlying t = some d) (hd : d.isRow = true) (hi : (Tryz.prog.info? t).map (·.size) = some cs.size) :
    (results fn tmps).run Tryz.prog w = .ok (.agg cs) w := by
  cases d <;> first
    | exact results_cell_row h _ _ g t _ (0, 0) _ hp hb hu rfl hi
    | cases hd
theorem rc_dice (s : Sg) (A : Option Addr) (c : Nat) (v : Int) : (rcells s A c).setIfInBounds 6 (.int .u64 v) = rcells { s with dice := v } A c := rfl
theorem rc_cargo (s s2 : Sg) (A A2 : Option Addr) (c c2 : Nat) (h : s2 = { s with c := s2.c }) : (((rcells s A c).setIfInBounds 11 (.string (cat s2.c.1))).setIfInBounds 12 (.slice A2 (tk s2.c.1).length c2)).setIfInBounds 13 (.int .i64 s2.c.2) = rcells s2 A2 c2 := by rw [h]; rfl
theorem ir_set {w : World} {A : Option Addr} {ts : List Int} {k : Nat} {t : TypeId} {cs : Array Value} (h : IR w A ts) (hb : Blk w k t cs) (ht : t ≠ 3) (i : Nat) (u : Value) : IR (w.setCell ⟨k, i, none⟩ u) A ts :=
  h.kept fun g ⟨cs', fr, hg⟩ => Below.heap_setCell _ _ _ g (by
    rintro rfl
    rw [hb] at hg
    injection hg with hg
    injection hg with _ hg
    exact ht hg)
theorem RI.heap {w w' : World} {s : Sg} {A : Option Addr} {c m : Nat} {t : TypeId} {cs : Array Value} (h : RI w s A c) (hb : Blk w m t cs) (ht : t ≠ 3) (hk : ∀ j, j ≠ m → w'.heap[j]? = w.heap[j]?) : RI w' s A c :=
  ⟨h.1.kept fun g ⟨cs', fr, hg⟩ => hk g (by
    rintro rfl
    rw [hb] at hg
    injection hg with hg
    injection hg with _ hg
    exact ht hg), h.2⟩
theorem fin3 {w w7 V : World} {m : Nat} {s s2 : Sg} {A A2 : Option Addr} {c c2 : Nat} {o : Obj} {x y z : Value} (h2 : Blk w7 m 38 (rcells s A c)) (h4 : Blk w7 (m + 1) 38 zcells) (hB : Below m w w7)
    (hg : (((rcells s A c).setIfInBounds 11 x).setIfInBounds 12 y).setIfInBounds 13 z = rcells s2 A2 c2) (hI : RI w7 s2 A2 c2) (hV : (((w7.setCell ⟨m, 11, none⟩ x).setCell ⟨m, 12, none⟩ y).setCell ⟨m, 13, none⟩ z).alloc o = V) :
    Blk V m 38 (rcells s2 A2 c2) ∧ Blk V (m + 1) 38 zcells ∧ Below m w V ∧ RI V s2 A2 c2 := by
  subst hV
  have hn : m + 1 ≠ m := by omega
  have a1 := h2.set_ 11 x
  have a2 := a1.set_ 12 y
  have a3 := a2.set_ 13 z
  rw [hg] at a3
  have b3 := ((h4.far (p := ⟨m, 11, none⟩) hn x).far (p := ⟨m, 12, none⟩) hn y).far (p := ⟨m, 13, none⟩) hn z
  have i3 := ir_set (ir_set (ir_set hI.1 h2 (by decide) 11 x) a1 (by decide) 12 y) a2 (by decide) 13 z
  have B3 := ((hB.setCell (p := ⟨m, 11, none⟩) (Nat.le_refl _) x).setCell (p := ⟨m, 12, none⟩) (Nat.le_refl _) y).setCell (p := ⟨m, 13, none⟩) (Nat.le_refl _) z
  have bx := (Below.refl (((w7.setCell ⟨m, 11, none⟩ x).setCell ⟨m, 12, none⟩ y).setCell ⟨m, 13, none⟩ z).heap.size (((w7.setCell ⟨m, 11, none⟩ x).setCell ⟨m, 12, none⟩ y).setCell ⟨m, 13, none⟩ z)).alloc (Nat.le_refl _) o
  exact ⟨a3.below bx, b3.below bx, B3.alloc (Nat.le_of_lt a3.lt) o, i3.below bx, hI.2⟩
theorem back2_ {fn : Func} {p u : Tmp} {tmps : Array Value} {w : World} {g : Nat} {t : TypeId} {cs : Array Value} {d : TypeDesc} (hb : Blk w g t cs) (h : fn.results = #[.cell p t, .tmp u]) (hp : tmps.getD p undef = .pointer (some ⟨g, 0, none⟩)) (hu : Tryz.prog.underlying t = some d) (hd : d.isRow = true) (hi : (Tryz.prog.info? t).map (·.size) = some cs.size) :
    (results fn tmps).run Tryz.prog w = .ok (.tuple #[.agg cs, tmps.getD u undef]) w := by
  have hl := run_loadVar_mid (P := Tryz.prog) w g 0 t cs.toList d (fun j v hv => by rw [Nat.zero_add]; exact (hb.cell j).trans (by simpa using hv)) hu hd (by simpa using hi)
  rw [results_cell_tmp h, hp]
  simp [asAddr, hl, Result.andThen]
theorem back3_ {fn : Func} {p q : Tmp} {tmps : Array Value} {w : World} {g k : Nat} {t u : TypeId} {cs ds : Array Value} {d e : TypeDesc} (hb : Blk w g t cs) (hc : Blk w k u ds) (h : fn.results = #[.cell p t, .cell q u]) (hp : tmps.getD p undef = .pointer (some ⟨g, 0, none⟩)) (hq : tmps.getD q undef = .pointer (some ⟨k, 0, none⟩))
    (hu : Tryz.prog.underlying t = some d) (hd : d.isRow = true) (hi : (Tryz.prog.info? t).map (·.size) = some cs.size) (hv : Tryz.prog.underlying u = some e) (he : e.isRow = true) (hj : (Tryz.prog.info? u).map (·.size) = some ds.size) :
    (results fn tmps).run Tryz.prog w = .ok (.tuple #[.agg cs, .agg ds]) w := by
  have hl := run_loadVar_mid (P := Tryz.prog) w g 0 t cs.toList d (fun j v hv => by rw [Nat.zero_add]; exact (hb.cell j).trans (by simpa using hv)) hu hd (by simpa using hi)
  have hm := run_loadVar_mid (P := Tryz.prog) w k 0 u ds.toList e (fun j v hv => by rw [Nat.zero_add]; exact (hc.cell j).trans (by simpa using hv)) hv he (by simpa using hj)
  have hp' : tmps[p]?.getD undef = .pointer (some ⟨g, 0, none⟩) := by simpa using hp
  have hq' : tmps[q]?.getD undef = .pointer (some ⟨k, 0, none⟩) := by simpa using hq
  simp [results, h, hp', hq', asAddr, hl, hm, Result.andThen, Sem.run_bind]
section
variable {ops : Array Oper} {rest : List Oper} {o : Oper} {a a' : Act} {w : World} {Q : Exit → Act → World → Prop}
theorem ls_ {v : Value} (h : wpList Tryz.prog ops Q rest a' w) (hw : Region.wanted o (yielded ops a.tmps) = true := by rfl) (hy : (execOp a.eval o).run Tryz.prog w = .ok (.value v) w := by go_simp; with_reducible rfl)
    (ha : a.put o.dst v = a' := by simp only [Act.put, List.setIfInBounds_toArray, List.set_cons_zero, List.set_cons_succ, i64_w]; rfl) : wpList Tryz.prog ops Q (o :: rest) a w := lp_ hy hw ha h
theorem lS_ {m : Nat} {s : Sg} {A : Option Addr} {c : Nat} (i : Tmp) (hb : Blk w m 38 (rcells s A c)) (h : wpList Tryz.prog ops Q rest a' w) (ho : o.op = .load 38 (.tmp i) := by exact rfl) (he : a.eval (.tmp i) = .pointer (some ⟨m, 0, none⟩) := by rfl)
    (hw : Region.wanted o (yielded ops a.tmps) = true := by rfl) (ha : a.put o.dst (.agg (rcells s A c)) = a' := by simp only [Act.put, List.setIfInBounds_toArray, List.set_cons_zero, List.set_cons_succ]; rfl) : wpList Tryz.prog ops Q (o :: rest) a w :=
  lp_ (load_run ho he hb Tryz.underlying38 rfl inf22) hw ha h
theorem sS_ {m : Nat} {s : Sg} {A : Option Addr} {c : Nat} {cs : Array Value} (i j : Tmp) (hb : Blk w m 38 cs) (h : ∀ W2, Blk W2 m 38 (rcells s A c) → (∀ j, j ≠ m → W2.heap[j]? = w.heap[j]?) → (∀ n w0, n ≤ m → Below n w0 w → Below n w0 W2) → wpList Tryz.prog ops Q rest a' W2)
    (ho : o.op = .store 38 (.tmp i) (.tmp j) := by exact rfl) (hg : o.guard = none := by exact rfl) (he : a.eval (.tmp i) = .pointer (some ⟨m, 0, none⟩) := by rfl) (hf : a.eval (.tmp j) = .agg (rcells s A c) := by rfl) (hl : cs.size = 22 := by exact rfl)
    (ha : a.put o.dst undef = a' := by rfl) : wpList Tryz.prog ops Q (o :: rest) a w := by
  refine wpList_store_mid hg 38 (.tmp i) (.tmp j) ho m 0 (rcells s A c) he hf (fun x hx => ⟨by rw [Nat.zero_add, hb.cell x, Array.getElem?_eq_getElem (by rw [hl]; exact hx)]; rfl, hb.free _⟩) inf22 (one22 s A c) ?_
  rw [ha]
  refine h _ ?_ (fun x hx => set_heap m hx _ _ _) (fun n w0 hn hB => set_below m hn _ _ _ hB)
  have := set_cells m 38 (rcells s A c).toList cs.toList [] w hb (by simpa [hl] using (show 22 = (rcells s A c).size from rfl))
  simpa using this
theorem sW_ {t : TypeId} {m : Nat} {vs cs : Array Value} (i j : Tmp) (hb : Blk w m t cs) (hi : (Tryz.prog.info? t).map (·.size) = some vs.size) (h1 : vs.all (·.oneCell') = true) (h : ∀ W2, Blk W2 m t vs → (∀ j, j ≠ m → W2.heap[j]? = w.heap[j]?) → (∀ n w0, n ≤ m → Below n w0 w → Below n w0 W2) → wpList Tryz.prog ops Q rest a' W2)
    (ho : o.op = .store t (.tmp i) (.tmp j) := by exact rfl) (hg : o.guard = none := by exact rfl) (he : a.eval (.tmp i) = .pointer (some ⟨m, 0, none⟩) := by rfl) (hf : a.eval (.tmp j) = .agg vs := by rfl) (hl : cs.size = vs.size := by exact rfl)
    (ha : a.put o.dst undef = a' := by rfl) : wpList Tryz.prog ops Q (o :: rest) a w := by
  refine wpList_store_mid hg t (.tmp i) (.tmp j) ho m 0 vs he hf (fun x hx => ⟨by rw [Nat.zero_add, hb.cell x, Array.getElem?_eq_getElem (by rw [hl]; exact hx)]; rfl, hb.free _⟩) hi h1 ?_
  rw [ha]
  refine h _ ?_ (fun x hx => set_heap m hx _ _ _) (fun n w0 hn hB => set_below m hn _ _ _ hB)
  have := set_cells m t vs.toList cs.toList [] w hb (by simpa using hl)
  simpa using this
theorem alS_ (h : ∀ V, Blk V w.heap.size 38 zcells → Below w.heap.size w V → wpList Tryz.prog ops Q rest a' V) (hw : Region.wanted o (yielded ops a.tmps) = true := by rfl) (hy : (execOp a.eval o).run Tryz.prog w = .ok (.value (.pointer (some ⟨w.heap.size, 0, none⟩))) (w.alloc (.cells zcells 38)) := by go_simp)
    (ha : a.put o.dst (.pointer (some ⟨w.heap.size, 0, none⟩)) = a' := by simp only [Act.put, List.setIfInBounds_toArray, List.set_cons_zero, List.set_cons_succ]; rfl) : wpList Tryz.prog ops Q (o :: rest) a w :=
  lpw_ hy hw ha (h _ (Blk.new w _ _) ((Below.refl _ _).alloc (Nat.le_refl _) _))
theorem alA_ (h : ∀ V, Blk V w.heap.size 46 #[.int .i64 0, .string ⟨#[]⟩, .int .i64 0] → Below w.heap.size w V → wpList Tryz.prog ops Q rest a' V) (hw : Region.wanted o (yielded ops a.tmps) = true := by rfl) (hy : (execOp a.eval o).run Tryz.prog w = .ok (.value (.pointer (some ⟨w.heap.size, 0, none⟩))) (w.alloc (.cells #[.int .i64 0, .string ⟨#[]⟩, .int .i64 0] 46)) := by go_simp)
    (ha : a.put o.dst (.pointer (some ⟨w.heap.size, 0, none⟩)) = a' := by simp only [Act.put, List.setIfInBounds_toArray, List.set_cons_zero, List.set_cons_succ]; rfl) : wpList Tryz.prog ops Q (o :: rest) a w :=
  lpw_ hy hw ha (h _ (Blk.new w _ _) ((Below.refl _ _).alloc (Nat.le_refl _) _))
theorem sA_ {m : Nat} {x z : Int} {y : ByteArray} {cs : Array Value} (i j : Tmp) (hb : Blk w m 46 cs) (h : ∀ W2, Blk W2 m 46 #[.int .i64 x, .string y, .int .i64 z] → (∀ j, j ≠ m → W2.heap[j]? = w.heap[j]?) → (∀ n w0, n ≤ m → Below n w0 w → Below n w0 W2) → wpList Tryz.prog ops Q rest a' W2)
    (ho : o.op = .store 46 (.tmp i) (.tmp j) := by exact rfl) (hg : o.guard = none := by exact rfl) (he : a.eval (.tmp i) = .pointer (some ⟨m, 0, none⟩) := by rfl) (hf : a.eval (.tmp j) = .agg #[.int .i64 x, .string y, .int .i64 z] := by rfl) (hl : cs.size = 3 := by exact rfl)
    (ha : a.put o.dst undef = a' := by rfl) : wpList Tryz.prog ops Q (o :: rest) a w := by
  refine wpList_store_mid hg 46 (.tmp i) (.tmp j) ho m 0 #[.int .i64 x, .string y, .int .i64 z] he hf (fun x hx => ⟨by rw [Nat.zero_add, hb.cell x, Array.getElem?_eq_getElem (by rw [hl]; exact hx)]; rfl, hb.free _⟩) (by kernel_rfl) (by simp [Value.oneCell']) ?_
  rw [ha]
  refine h _ ?_ (fun x hx => set_heap m hx _ _ _) (fun n w0 hn hB => set_below m hn _ _ _ hB)
  have := set_cells m 46 [.int .i64 x, .string y, .int .i64 z] cs.toList [] w hb (by simpa using hl)
  simpa using this
theorem cl_ (n : Tmp) {f : FuncId} {fn : Func} (args : Array Value) {xs : Array Operand} {ts : Array TypeId} (h : Calls Tryz.prog f args w fun e w' => ∃ v, e = .returned v ∧ wpList Tryz.prog ops Q rest (a.put (some n) v) w')
    (hf : Tryz.prog.funcs[f]? = some fn) (hd : o.dst = some n := by exact rfl) (hg : o.guard = none := by exact rfl) (hop : o.op = .call { callee := .value (.func f), args := xs, argTypes := ts } := by exact rfl) (hname : (fn.name == "runtime.NumGoroutine") = false := by kernel_rfl) (hb : fn.body.isSome = true := by rfl)
    (hargs : xs.map a.eval = args := by simp only [List.map_toArray, List.map_cons, List.map_nil]; rfl) : wpList Tryz.prog ops Q (o :: rest) a w := goesL_ (some n) hd hg hf hname hb args hop hargs h
end
section
variable {ops : Array Oper} {Q : Exit → Act → World → Prop} {md : Region.Mode} {S : World → Prop} {ds : List Nat}
theorem stq_ {o : Oper} {a : Act} {w : World} {K : Act → World → Prop} {m : Nat} {s : Sg} {A : Option Addr} {c : Nat} {cs : Array Value} (i j : Tmp) (hb : Blk w m 38 cs) (h : ∀ W2, Blk W2 m 38 (rcells s A c) → (∀ j, j ≠ m → W2.heap[j]? = w.heap[j]?) → (∀ n w0, n ≤ m → Below n w0 w → Below n w0 W2) → K a W2)
    (hw : Region.wanted o (yielded ops a.tmps) = true := by rfl) (hN : o.dst = none := by exact rfl) (ho : o.op = .store 38 (.tmp i) (.tmp j) := by exact rfl) (he : a.eval (.tmp i) = .pointer (some ⟨m, 0, none⟩) := by rfl) (hf : a.eval (.tmp j) = .agg (rcells s A c) := by rfl) (hl : cs.size = 22 := by exact rfl) :
    if Region.wanted o (yielded ops a.tmps) = true then Oper.wp Tryz.prog o a w K Q else K (a.put none undef) w := by
  refine skip_ (w1 := w.setCells m 0 (rcells s A c).toList) hw hN ?_ ?_
  · unfold execOp
    simp only [ho, he, hf, Sem.run_bind, Sem.run_pure, Result.andThen_ok, run_storeAt_mid (P := Tryz.prog) w m 0 38 (rcells s A c) (fun x hx => ⟨by rw [Nat.zero_add, hb.cell x, Array.getElem?_eq_getElem (by rw [hl]; exact hx)]; rfl, hb.free _⟩) inf22 (one22 s A c)]
  · refine h _ ?_ (fun x hx => set_heap m hx _ _ _) (fun n w0 hn hB => set_below m hn _ _ _ hB)
    have := set_cells m 38 (rcells s A c).toList cs.toList [] w hb (by simpa [hl] using (show 22 = (rcells s A c).size from rfl))
    simpa using this
theorem staq_ {o : Oper} {a : Act} {w : World} {K : Act → World → Prop} {m : Nat} {x z : Int} {y : ByteArray} {cs : Array Value} (i j : Tmp) (hb : Blk w m 46 cs) (h : ∀ W2, Blk W2 m 46 #[.int .i64 x, .string y, .int .i64 z] → (∀ j, j ≠ m → W2.heap[j]? = w.heap[j]?) → (∀ n w0, n ≤ m → Below n w0 w → Below n w0 W2) → K a W2)
    (hw : Region.wanted o (yielded ops a.tmps) = true := by rfl) (hN : o.dst = none := by exact rfl) (ho : o.op = .store 46 (.tmp i) (.tmp j) := by exact rfl) (he : a.eval (.tmp i) = .pointer (some ⟨m, 0, none⟩) := by rfl) (hf : a.eval (.tmp j) = .agg #[.int .i64 x, .string y, .int .i64 z] := by rfl) (hl : cs.size = 3 := by exact rfl) :
    if Region.wanted o (yielded ops a.tmps) = true then Oper.wp Tryz.prog o a w K Q else K (a.put none undef) w := by
  refine skip_ (w1 := w.setCells m 0 [.int .i64 x, .string y, .int .i64 z]) hw hN ?_ ?_
  · unfold execOp
    simp only [ho, he, hf, Sem.run_bind, Sem.run_pure, Result.andThen_ok, run_storeAt_mid (P := Tryz.prog) w m 0 46 #[.int .i64 x, .string y, .int .i64 z] (fun x hx => ⟨by rw [Nat.zero_add, hb.cell x, Array.getElem?_eq_getElem (by rw [hl]; exact hx)]; rfl, hb.free _⟩) (by kernel_rfl) (by simp [Value.oneCell'])]
  · refine h _ ?_ (fun x hx => set_heap m hx _ _ _) (fun n w0 hn hB => set_below m hn _ _ _ hB)
    have := set_cells m 46 [.int .i64 x, .string y, .int .i64 z] cs.toList [] w hb (by simpa using hl)
    simpa using this
theorem tS_ (i n k b : Nat) {m : Nat} {s : Sg} {A : Option Addr} {c : Nat} {S' : World → Prop} (j : Tmp) {oi : Oper} {fuel : Nat} {l : Array Bool} {a a' : Act} {w : World} (hS : Blk w m 38 (rcells s A c) ∧ S' w) (h : wpAnyLast Tryz.prog md ops Q (fun w => Blk w m 38 (rcells s A c) ∧ S' w) ds fuel (m_ k b) a' w)
    (hi : ops[i]? = some oi := by exact rfl) (hN : oi.dst = some n := by exact rfl) (hc : takeB md ops ds l (m_ k b) i = true := by kernel_rfl) (hQ : ∀ p a w, Q (.panic p) (a.put oi.dst (.agg (rcells s A c))) w → Q (.panic p) a w := by exact fun _ _ _ h => h)
    (hw : Region.wanted oi (yielded ops a.tmps) = true := by rfl) (ho : oi.op = .load 38 (.tmp j) := by exact rfl) (he : a.eval (.tmp j) = .pointer (some ⟨m, 0, none⟩) := by rfl)
    (ha : a.put (some n) (.agg (rcells s A c)) = a' := by simp only [Act.put, List.setIfInBounds_toArray, List.set_cons_zero, List.set_cons_succ, i64_w, i32_w]; rfl) : wpAnyLast Tryz.prog md ops Q (fun w => Blk w m 38 (rcells s A c) ∧ S' w) ds (fuel + 1) l a w :=
  tk_ i (some n) (m_ k b) hi hN hc hQ hw (fun w' s0 => load_run ho he s0.1 Tryz.underlying38 rfl inf22) hS ha h
theorem tW_ (i n k b : Nat) (j : Tmp) {m : Nat} {t : TypeId} {cs : Array Value} {d : TypeDesc} (hB : ∀ w, S w → Blk w m t cs) (hu : Tryz.prog.underlying t = some d) (hd : d.isRow = true) (hz : (Tryz.prog.info? t).map (·.size) = some cs.size) {oi : Oper} {fuel : Nat} {l : Array Bool} {a a' : Act} {w : World} (hS : S w) (h : wpAnyLast Tryz.prog md ops Q S ds fuel (m_ k b) a' w)
    (hi : ops[i]? = some oi := by exact rfl) (hN : oi.dst = some n := by exact rfl) (hc : takeB md ops ds l (m_ k b) i = true := by kernel_rfl) (hQ : ∀ p a w, Q (.panic p) (a.put oi.dst (.agg cs)) w → Q (.panic p) a w := by exact fun _ _ _ h => h)
    (hw : Region.wanted oi (yielded ops a.tmps) = true := by rfl) (ho : oi.op = .load t (.tmp j) := by exact rfl) (he : a.eval (.tmp j) = .pointer (some ⟨m, 0, none⟩) := by rfl)
    (ha : a.put (some n) (.agg cs) = a' := by simp only [Act.put, List.setIfInBounds_toArray, List.set_cons_zero, List.set_cons_succ, i64_w, i32_w]; rfl) : wpAnyLast Tryz.prog md ops Q S ds (fuel + 1) l a w :=
  tk_ i (some n) (m_ k b) hi hN hc hQ hw (fun w' s0 => load_run ho he (hB w' s0) hu hd hz) hS ha h
end
theorem cpS_ {id : Nat} {o1 o2 : Oper} {Q : Exit → Act → World → Prop} {a a' : Act} {W : World} {m m2 : Nat} {s : Sg} {A : Option Addr} {c : Nat} {cs2 : Array Value} (i j k : Tmp) (hb : Blk W m 38 (rcells s A c)) (hb2 : Blk W m2 38 cs2)
    (hQ : ∀ W2, Blk W2 m2 38 (rcells s A c) → (∀ j, j ≠ m2 → W2.heap[j]? = W.heap[j]?) → (∀ n w, n ≤ m2 → Below n w W → Below n w W2) → Q .normal a' W2)
    (h1 : o1.op = .load 38 (.tmp i) := by exact rfl) (h2 : o2.op = .store 38 (.tmp j) (.tmp k) := by exact rfl) (g1 : o1.guard = none := by exact rfl) (g2 : o2.guard = none := by exact rfl) (d1 : o1.dst = some k := by exact rfl) (d2 : o2.dst = none := by exact rfl)
    (hl : cs2.size = 22 := by exact rfl) (e1 : a.eval (.tmp i) = .pointer (some ⟨m, 0, none⟩) := by rfl) (ha : a.put (some k) (.agg (rcells s A c)) = a' := by simp only [Act.put, List.setIfInBounds_toArray, List.set_cons_zero, List.set_cons_succ]; rfl) (e2 : a'.eval (.tmp j) = .pointer (some ⟨m2, 0, none⟩) := by rfl) (e3 : a'.eval (.tmp k) = .agg (rcells s A c) := by rfl) :
    (Code.region id #[o1, o2] false).wp Tryz.prog Q a W :=
  copy_ m m2 i j k h1 h2 g1 g2 d1 d2 hb hb2 Tryz.underlying38 rfl inf22 (by rw [hl]; rfl) (one22 s A c) e1 ha e2 e3 hQ
abbrev opc (o : Stage.Op) : Array Value := #[.int .i64 o.kind, .int .i64 o.now, .int .i64 o.n, .string o.s, .string o.t.name, .int .i64 o.t.kind, .bool o.t.up, .int .i64 o.t.often, .int .i64 o.t.a, .int .i64 o.t.b]
abbrev zans : Array Value := #[.int .i64 0, .string ⟨#[]⟩, .int .i64 0]
theorem four_blk (w : World) (s : Sg) (A : Option Addr) (c : Nat) (o : Stage.Op) : ∃ W, W = (((w.alloc (.cells (rcells s A c) 38)).alloc (.cells (opc o) 44)).alloc (.cells zcells 38)).alloc (.cells zans 46) ∧
    Hid (Below w.heap.size w W) ∧ Hid (Blk W w.heap.size 38 (rcells s A c)) ∧ Hid (Blk W (w.heap.size + 1) 44 (opc o)) ∧ Hid (Blk W (w.heap.size + 2) 38 zcells) ∧ Hid (Blk W (w.heap.size + 3) 46 zans) := by
  have b1 := Blk.new w 38 (rcells s A c)
  have a1 := (Below.refl w.heap.size w).alloc (Nat.le_refl _) (.cells (rcells s A c) 38)
  have s1 : (w.alloc (.cells (rcells s A c) 38)).heap.size = w.heap.size + 1 := by simp
  generalize w.alloc (.cells (rcells s A c) 38) = W1 at *
  have b2 := Blk.new W1 44 (opc o)
  have s2 : (W1.alloc (.cells (opc o) 44)).heap.size = w.heap.size + 2 := by simp [s1]
  have a2 := (Below.refl W1.heap.size W1).alloc (Nat.le_refl _) (.cells (opc o) 44)
  generalize W1.alloc (.cells (opc o) 44) = W2 at *
  have b3 := Blk.new W2 38 zcells
  have s3 : (W2.alloc (.cells zcells 38)).heap.size = w.heap.size + 3 := by simp [s2]
  have a3 := (Below.refl W2.heap.size W2).alloc (Nat.le_refl _) (.cells zcells 38)
  generalize W2.alloc (.cells zcells 38) = W3 at *
  have b4 := Blk.new W3 46 zans
  have a4 := (Below.refl W3.heap.size W3).alloc (Nat.le_refl _) (.cells zans 46)
  refine ⟨_, rfl, Lib.hid ?_, Lib.hid ?_, Lib.hid ?_, Lib.hid ?_, Lib.hid ?_⟩
  · exact (((a1.trans (a2.mono (by omega))).trans (a3.mono (by omega))).trans (a4.mono (by omega)))
  · exact ((b1.below a2).below a3).below a4
  · rw [s1] at b2; exact (b2.below a3).below a4
  · rw [s2] at b3; exact b3.below a4
  · rw [s3] at b4; exact b4
theorem lookR_ {id : Nat} {o1 o2 o3 o4 o5 : Oper} {Q : Exit → Act → World → Prop} {a a' : Act} {W : World} {m p : Nat} {s : Sg} {A : Option Addr} {c : Nat} {o : Stage.Op} (i1 i2 i3 i4 : Tmp) (hb : Blk W m 38 (rcells s A c)) (ho : Blk W p 44 (opc o))
    (hQ : ∀ W2, Blk W2 m 38 (rcells (lookP s o.now) A c) → (∀ j, j ≠ m → j < W.heap.size → W2.heap[j]? = W.heap[j]?) → (∀ n w, n ≤ m → Below n w W → Below n w W2) → Q .normal a' W2)
    (h1 : o1.op = .load 38 (.tmp 2) := by exact rfl) (h2 : o2.op = .fieldAddr 44 (.tmp 3) 1 := by exact rfl) (h3 : o3.op = .load 3 (.tmp i2) := by exact rfl) (h4 : o4.op = .call { callee := .value (.func 26), args := #[.tmp i1, .tmp i3], argTypes := #[38, 3] } := by exact rfl) (h5 : o5.op = .store 38 (.tmp 2) (.tmp i4) := by exact rfl)
    (g : (o1.guard, o2.guard, o3.guard, o4.guard, o5.guard) = (none, none, none, none, none) := by exact rfl) (d : (o1.dst, o2.dst, o3.dst, o4.dst, o5.dst) = (some i1, some i2, some i3, some i4, none) := by exact rfl)
    (e2 : a.eval (.tmp 2) = .pointer (some ⟨m, 0, none⟩) := by rfl) (e3 : (a.put (some i1) (.agg (rcells s A c))).eval (.tmp 3) = .pointer (some ⟨p, 0, none⟩) := by rfl)
    (e4 : ((a.put (some i1) (.agg (rcells s A c))).put (some i2) (.pointer (some ⟨p, 1, none⟩))).eval (.tmp i2) = .pointer (some ⟨p, 1, none⟩) := by rfl)
    (e5 : #[Operand.tmp i1, Operand.tmp i3].map (((a.put (some i1) (.agg (rcells s A c))).put (some i2) (.pointer (some ⟨p, 1, none⟩))).put (some i3) (.int .i64 o.now)).eval = #[.agg (rcells s A c), .int .i64 o.now] := by simp only [List.map_toArray, List.map_cons, List.map_nil]; rfl)
    (ha : (((a.put (some i1) (.agg (rcells s A c))).put (some i2) (.pointer (some ⟨p, 1, none⟩))).put (some i3) (.int .i64 o.now)).put (some i4) (.agg (rcells (lookP s o.now) A c)) = a' := by simp only [Act.put, List.setIfInBounds_toArray, List.set_cons_zero, List.set_cons_succ]; rfl)
    (e6 : a'.eval (.tmp 2) = .pointer (some ⟨m, 0, none⟩) := by rfl) (e7 : a'.eval (.tmp i4) = .agg (rcells (lookP s o.now) A c) := by rfl) :
    (Code.region id #[o1, o2, o3, o4, o5] false).wp Tryz.prog Q a W := by
  simp only [Prod.mk.injEq] at g d
  obtain ⟨g1, g2, g3, g4, g5⟩ := g
  obtain ⟨d1, d2, d3, d4, d5⟩ := d
  have c1 : W.cell? ⟨p, 1, none⟩ = some (.int .i64 o.now) := (ho.cell 1).trans rfl
  have hw : ∀ (x : Oper) (b : Act), x.guard = none → Region.wanted x (yielded #[o1, o2, o3, o4, o5] b.tmps) = true := fun x b h => by unfold Region.wanted; rw [h]
  refine wp_region_lit (l := [o1, o2, o3, o4, o5]) ?_
  refine lp_ (load_run h1 e2 hb Tryz.underlying38 rfl inf22) (hw _ _ g1) rfl ?_
  rw [d1]
  refine lp_ (v := .pointer (some ⟨p, 1, none⟩)) (by unfold execOp; simp only [h2, e3]; go_simp) (hw _ _ g2) rfl ?_
  rw [d2]
  refine lp_ (v := .int .i64 o.now) (by unfold execOp; simp only [h3, e4]; go_simp) (hw _ _ g3) rfl ?_
  rw [d3]
  refine goesL_ (some i4) d4 g4 Tryz.func26 (by kernel_rfl) rfl _ h4 e5 ?_
  refine (look_any s A c o.now W).mono ?_
  rintro e w5 ⟨rfl, hB5⟩
  refine ⟨_, rfl, ?_⟩
  rw [ha]
  have hlt := hb.lt
  refine wpList_store_mid g5 38 (.tmp 2) (.tmp i4) h5 m 0 (rcells (lookP s o.now) A c) e6 e7 (fun x hx => ⟨by rw [Nat.zero_add, (hb.below hB5).cell x, Array.getElem?_eq_getElem (by exact hx)]; rfl, (hb.below hB5).free _⟩) inf22 (one22 _ A c) ?_
  refine wpList_nil ?_
  rw [d5]
  refine hQ _ ?_ (fun x hx hx2 => (set_heap m hx _ _ _).trans (hB5.block x hx2)) (fun n w0 hn hB => set_below m hn _ _ _ (hB.trans (hB5.mono (by omega))))
  have := set_cells m 38 (rcells (lookP s o.now) A c).toList (rcells s A c).toList [] w5 (hb.below hB5) rfl
  simpa using this
end Go.Proofs.YtehpliclknfmoaaGreat.RefT
namespace Go.Proofs.YtehpliclknfmoaaGreat.RefT
open Go.RowKit Mem Tick Cargo Toxic Stage Ref07
open Go.Proofs.YtehpliclknfmoaaGreatW.PrintLast Pu
set_option maxRecDepth 100000
set_option linter.unusedVariables false
set_option linter.unusedSimpArgs false
def fpR (s : Sg) (x : ByteArray) : Sg := if x.size = 0 then s else putIn (diceP s) (whenP s) x
theorem putL_last (l t : Int) (x : ByteArray) : putL l t x = putLast l t x := by
  unfold putL putLast
  rw [isEmpty_size, ref_at]
  simp
theorem ref_put {w' : World} {s : Sg} {v : Value} {t : Int} {x : ByteArray} (h : RefIs w' v (cat s.c.1 ++ x) (tk s.c.1 ++ List.replicate x.size (refAt s.c.2 t)) (putL s.c.2 t x)) :
    ∃ A c, v = .agg #[.string (cat (putIn s t x).c.1), .slice A (tk (putIn s t x).c.1).length c, .int .i64 (putIn s t x).c.2] ∧ RI w' (putIn s t x) A c := by
  obtain ⟨A, c, rfl, hi, hc⟩ := h
  rw [putL_last]
  rw [ref_at, ← tk_add] at *
  rw [← cat_add s.c.1 (putAt s.c.2 t)]
  exact ⟨A, c, rfl, hi, hc⟩
theorem force_none (s : Sg) (A : Option Addr) (c : Nat) (x : ByteArray) (w : World) (hi : RI w s A c) (hx : x.size = 0) :
    Calls Tryz.prog 51 #[.agg (rcells s A c), .string x] w (FQ w (fpR s x)) := by
  have he : fpR s x = s := if_pos hx
  rw [he]
  have t1 : (x.toList == []) = true := by rw [nil_size]; simpa using hx
  have hI := Lib.hid hi
  clear hi hx he
  obtain ⟨W, hW, hB, h2, h4⟩ := two_blk w s A c
  go_enter Tryz.func51, Tryz.ntmps51
  go_upto_region 2 with (fail)
  rw [← hW]
  clear hW
  refine cpS_ 2 4 12 h2.out h4.out (fun W2 hb4 hk hbl => ?_)
  have hR := Lib.hid (And.intro hb4 (hbl _ w (by omega) hB.out))
  clear hb4 hk hbl h2 h4 hB
  go_wp2
  exact bodyPost_ret (back_ hR.out.1 Tryz.results51 rfl Tryz.underlying38 rfl inf22) rfl ⟨A, c, rfl, hI.out.below hR.out.2, hR.out.2⟩
set_option maxHeartbeats 1000000 in
theorem force_some (s : Sg) (A : Option Addr) (c : Nat) (x : ByteArray) (w : World) (hi : RI w s A c) (hd : D64 s) (ht : held s + x.size ≤ 1000000000) (hx : x.size ≠ 0) :
    Calls Tryz.prog 51 #[.agg (rcells s A c), .string x] w (FQ w (fpR s x)) := by
  have he := Lib.hid (show fpR s x = putIn (diceP s) (whenP s) x from if_neg hx)
  have t1 : (x.toList == []) = false := by rw [nil_size]; simpa using hx
  have hc1 : (diceP s).c = s.c := by unfold diceP; split <;> rfl
  have hz1 : (tk (diceP s).c.1).length + x.size ≤ 1000000000000 := by rw [hc1, tk_length]; unfold held at ht; omega
  have hz2 : (cat (diceP s).c.1).size + x.size ≤ 1000000000000 := by rw [hc1, cat_size]; unfold held at ht; omega
  have hrng := Lib.hid (fun (wy : World) => Ref02.range_any s.dice (wrap64 (s.t.a - s.t.b)) (wrap64 (s.t.a + s.t.b)) wy hd.1 hd.2)
  have hput := Lib.hid (fun (wy : World) (v : Value) (t : Int) (h : RefIs wy v (cat (diceP s).c.1) (tk (diceP s).c.1) (diceP s).c.2) => put_anyL wy v (cat (diceP s).c.1) (tk (diceP s).c.1) (diceP s).c.2 t x h hz1 hz2)
  have hdp : diceP s = if s.t.kind = 1 then { s with dice := Ref02.rangeS s.dice (loP s) (hiP s) } else s := rfl
  have hwp : whenP s = if s.t.kind = 1 then add s.clock (Ref02.rangeN s.dice (loP s) (hiP s)) else s.clock := rfl
  have hI := Lib.hid (show RI w (diceP s) A c from by unfold RI; rw [hc1]; exact hi)
  generalize fpR s x = sF at *
  clear hi hx hd hz1 hz2 ht hc1
  obtain ⟨W, hW, hB, h2, h4⟩ := two_blk w s A c
  have c16 : W.cell? ⟨w.heap.size, 16, none⟩ = some (.int .i64 s.clock) := (h2.out.cell 16).trans rfl
  have c1 : W.cell? ⟨w.heap.size, 1, none⟩ = some (.int .i64 s.t.kind) := (h2.out.cell 1).trans rfl
  go_enter Tryz.func51, Tryz.ntmps51
  go_upto_region 3 with (fail)
  rw [← hW]
  clear hW
  go_upto_if 18 with fail
  generalize hk : (s.t.kind == 1) = B at *
  go_cut [5] (fun tv wx => tv = .int .i64 (whenP s) ∧ Blk wx w.heap.size 38 (rcells (diceP s) A c) ∧ Blk wx (w.heap.size + 1) 38 zcells ∧ Below w.heap.size w wx)
  case first =>
    cases B with
    | true =>
      have hk : s.t.kind = 1 := by simpa using hk
      rw [if_pos hk] at hdp hwp
      have hdp := Lib.hid hdp
      have hwp := Lib.hid hwp
      have c6 : W.cell? ⟨w.heap.size, 6, none⟩ = some (.int .u64 s.dice) := (h2.out.cell 6).trans rfl
      have c4 : W.cell? ⟨w.heap.size, 4, none⟩ = some (.int .i64 s.t.a) := (h2.out.cell 4).trans rfl
      have c5 : W.cell? ⟨w.heap.size, 5, none⟩ = some (.int .i64 s.t.b) := (h2.out.cell 5).trans rfl
      clear hk
      go_wp2_with fail
      refine (hrng.out _).mono ?_
      rintro e w5 ⟨rfl, hB5⟩
      have h25 := Lib.hid (h2.out.below hB5)
      have h45 := Lib.hid (h4.out.below hB5)
      have hBB := Lib.hid (hB.out.trans (hB5.mono hB.out.size))
      have d6 : w5.cell? ⟨w.heap.size, 6, none⟩ = some (.int .u64 s.dice) := (h25.out.cell 6).trans rfl
      have f6 := h25.out.free 6
      clear hB5 c6 c4 c5 c16 c1 hrng h2 h4 hB
      go_wp2_with fail
      refine (Ref01.add_any _ _ _).mono ?_
      rintro e w6 ⟨rfl, rfl⟩
      have hset := h25.out.set_ 6 (.int .u64 (Ref02.rangeS s.dice (wrap64 (s.t.a - s.t.b)) (wrap64 (s.t.a + s.t.b))))
      rw [rc_dice] at hset
      have HM := Lib.hid (And.intro hset (And.intro (h45.out.far (p := ⟨w.heap.size, 6, none⟩) (by show w.heap.size + 1 ≠ w.heap.size; omega) (.int .u64 (Ref02.rangeS s.dice (wrap64 (s.t.a - s.t.b)) (wrap64 (s.t.a + s.t.b))))) (hBB.out.setCell (p := ⟨w.heap.size, 6, none⟩) (Nat.le_refl _) (.int .u64 (Ref02.rangeS s.dice (wrap64 (s.t.a - s.t.b)) (wrap64 (s.t.a + s.t.b)))))))
      clear hset
      go_wp2
      go_meet
      exact ⟨by rw [hwp.out]; rfl, by rw [hdp.out]; exact HM.out.1, HM.out.2.1, HM.out.2.2⟩
    | false =>
      have hk : ¬ s.t.kind = 1 := by simpa using hk
      rw [if_neg hk] at hdp hwp
      have hdp := Lib.hid hdp
      have hwp := Lib.hid hwp
      clear hk
      go_wp2
      go_meet
      exact ⟨by rw [hwp.out], by rw [hdp.out]; exact h2.out, h4.out, hB.out⟩
  case rest =>
  obtain ⟨rfl, hb2, hb4, hBB⟩ := hcut
  have hb2 := Lib.hid hb2
  have hb4 := Lib.hid hb4
  have hBB := Lib.hid hBB
  have hIc := Lib.hid (hI.out.below ((Below.mono hBB.out (Nat.le_refl _))))
  clear hk hdp hwp h2 h4 hB c16 c1 hI hrng
  generalize whenP s = T at *
  generalize diceP s = s1 at *
  have c11 : wc.cell? ⟨w.heap.size, 11, none⟩ = some (.string (cat s1.c.1)) := (hb2.out.cell 11).trans rfl
  have c12 : wc.cell? ⟨w.heap.size, 12, none⟩ = some (.slice A (tk s1.c.1).length c) := (hb2.out.cell 12).trans rfl
  have c13 : wc.cell? ⟨w.heap.size, 13, none⟩ = some (.int .i64 s1.c.2) := (hb2.out.cell 13).trans rfl
  go_wp2_with fail
  refine (hput.out _ _ T ⟨A, c, rfl, hIc.out.1, hIc.out.2⟩).mono ?_
  rintro e w7 ⟨v, rfl, hR, hB7⟩
  obtain ⟨A2, c2, rfl, hR2⟩ := ref_put hR
  have hRI := Lib.hid hR2
  have h27 := Lib.hid (hb2.out.below hB7)
  have h47 := Lib.hid (hb4.out.below hB7)
  have hB7' := Lib.hid (hBB.out.trans (hB7.mono hBB.out.size))
  clear hR hR2 hB7 hput hb2 hb4 hBB c11 c12 c13 hIc
  have hcg := Lib.hid (rc_cargo s1 (putIn s1 T x) A A2 c c2 rfl)
  generalize putIn s1 T x = s2 at *
  have c11 : w7.cell? ⟨w.heap.size, 11, none⟩ = some (.string (cat s1.c.1)) := (h27.out.cell 11).trans rfl
  have c12 : w7.cell? ⟨w.heap.size, 12, none⟩ = some (.slice A (tk s1.c.1).length c) := (h27.out.cell 12).trans rfl
  have c13 : w7.cell? ⟨w.heap.size, 13, none⟩ = some (.int .i64 s1.c.2) := (h27.out.cell 13).trans rfl
  have f11 := h27.out.free 11
  have f12 := h27.out.free 12
  have f13 := h27.out.free 13
  have hlt : w.heap.size < w7.heap.size := h27.out.lt
  go_upto_region 10 with (fail)
  generalize hV : ((((w7.setCell ⟨w.heap.size, 11, none⟩ (.string (cat s2.c.1))).setCell ⟨w.heap.size, 12, none⟩ (.slice A2 (tk s2.c.1).length c2)).setCell ⟨w.heap.size, 13, none⟩ (.int .i64 s2.c.2)).alloc (.cells #[.string (cat s2.c.1), .slice A2 (tk s2.c.1).length c2, .int .i64 s2.c.2] 36)) = V
  obtain ⟨v2, v4, vB, vI⟩ := fin3 h27.out h47.out hB7'.out hcg.out hRI.out hV
  have hR := Lib.hid (And.intro vB vI)
  clear hV c11 c12 c13 f11 f12 f13 h27 h47 hB7' hcg hRI vB vI
  refine cpS_ 2 4 54 v2 v4 (fun W2 hb4 hk hbl => ?_)
  have hR2 := Lib.hid (And.intro hb4 (And.intro (hbl _ w (by omega) hR.out.1) (hR.out.2.heap v4 (by decide) hk)))
  clear hb4 hk hbl v2 v4 hR
  go_wp2
  exact bodyPost_ret (back_ hR2.out.1 Tryz.results51 rfl Tryz.underlying38 rfl inf22) rfl ⟨A2, c2, by rw [he.out], by rw [he.out]; exact hR2.out.2.2, hR2.out.2.1⟩
end Go.Proofs.YtehpliclknfmoaaGreat.RefT
namespace Go.Proofs.YtehpliclknfmoaaGreat.RefT
open Go.RowKit Mem Tick Cargo Toxic Stage Ref07 Bucket
open Go.Proofs.YtehpliclknfmoaaGreatW.PrintLast Pu
set_option maxRecDepth 100000
set_option linter.unusedVariables false
set_option linter.unusedSimpArgs false
def TQ (w : World) (s : Sg) (A : Option Addr) (c : Nat) (n : Int) (e : Ending) (w' : World) : Prop := e = .returned (.tuple #[.agg (rcells s A c), .int .i64 n]) ∧ Below w.heap.size w w'
theorem take_4 (s : Sg) (A : Option Addr) (c : Nat) (n : Int) (w : World) (hk : s.t.kind = 4) :
    Calls Tryz.prog 28 #[.agg (rcells s A c), .int .i64 n] w (TQ w (wayS s n) A c (wayN s n)) := by
  have e1 : wayS s n = s := by unfold wayS; rw [if_neg (by omega), if_neg (by omega)]
  have e2 : wayN s n = 0 := by unfold wayN; rw [if_neg (by omega), if_neg (by omega), if_pos hk]
  rw [e1, e2]
  obtain ⟨W, hW, hB, h2, h4⟩ := two_blk w s A c
  have c1 : W.cell? ⟨w.heap.size, 1, none⟩ = some (.int .i64 s.t.kind) := (h2.out.cell 1).trans rfl
  rw [hk] at c1
  clear hk e1 e2
  go_enter Tryz.func28, Tryz.ntmps28
  go_upto_region 1 with (fail)
  rw [← hW]
  clear hW
  go_upto_region 15 with (fail)
  refine wp_region_lit (l := [_, _, _]) ?_
  refine lS_ 2 h2.out ?_
  refine sS_ 4 67 h4.out (fun W2 q1 q2 q3 => ?_)
  refine ls_ ?_
  refine wpList_nil ?_
  have hR := Lib.hid (And.intro q1 (q3 _ w (by omega) hB.out))
  clear q1 q2 q3
  go_wp2
  exact bodyPost_ret (back2_ hR.out.1 Tryz.results28 rfl Tryz.underlying38 rfl inf22) rfl ⟨rfl, hR.out.2⟩
theorem take_else (s : Sg) (A : Option Addr) (c : Nat) (n : Int) (w : World) (h2' : s.t.kind ≠ 2) (h3' : s.t.kind ≠ 3) (h4' : s.t.kind ≠ 4) (h6' : s.t.kind ≠ 6) :
    Calls Tryz.prog 28 #[.agg (rcells s A c), .int .i64 n] w (TQ w (wayS s n) A c (wayN s n)) := by
  have e1 : wayS s n = s := by unfold wayS; rw [if_neg h2', if_neg h3']
  have e2 : wayN s n = n := by unfold wayN; rw [if_neg h2', if_neg h3', if_neg h4', if_neg h6']
  rw [e1, e2]
  have t2 : (s.t.kind == 2) = false := by simpa using h2'
  have t3 : (s.t.kind == 3) = false := by simpa using h3'
  have t4 : (s.t.kind == 4) = false := by simpa using h4'
  have t6 : (s.t.kind == 6) = false := by simpa using h6'
  clear e1 e2 h2' h3' h4' h6'
  obtain ⟨W, hW, hB, h2, h4⟩ := two_blk w s A c
  have c1 : W.cell? ⟨w.heap.size, 1, none⟩ = some (.int .i64 s.t.kind) := (h2.out.cell 1).trans rfl
  go_enter Tryz.func28, Tryz.ntmps28
  go_upto_region 1 with (fail)
  rw [← hW]
  clear hW
  go_upto_region 19 with (fail)
  refine wp_region_lit (l := [_, _, _, _]) ?_
  refine lS_ 2 h2.out ?_
  refine ls_ ?_
  refine sS_ 4 85 h4.out (fun W2 q1 q2 q3 => ?_)
  refine ls_ ?_
  refine wpList_nil ?_
  have hR := Lib.hid (And.intro q1 (q3 _ w (by omega) hB.out))
  clear q1 q2 q3
  go_wp2
  exact bodyPost_ret (back2_ hR.out.1 Tryz.results28 rfl Tryz.underlying38 rfl inf22) rfl ⟨rfl, hR.out.2⟩
theorem take_6 (s : Sg) (A : Option Addr) (c : Nat) (n : Int) (w : World) (hk : s.t.kind = 6) (h0 : 0 ≤ s.t.a) (h1 : s.t.a ≤ 1099511627776) (hp0 : 0 ≤ s.passed) (hp1 : s.passed ≤ 1099511627776) :
    Calls Tryz.prog 28 #[.agg (rcells s A c), .int .i64 n] w (TQ w (wayS s n) A c (wayN s n)) := by
  have e1 : wayS s n = s := by unfold wayS; rw [if_neg (by omega), if_neg (by omega)]
  have e2 := Lib.hid (show wayN s n = min n (s.t.a - s.passed) from by unfold wayN; rw [if_neg (by omega), if_neg (by omega), if_neg (by omega), if_pos hk])
  rw [e1]
  have hw := Lib.hid (show wrap64 (s.t.a - s.passed) = s.t.a - s.passed from by unfold wrap64; omega)
  obtain ⟨W, hW, hB, h2, h4⟩ := two_blk w s A c
  have c1 : W.cell? ⟨w.heap.size, 1, none⟩ = some (.int .i64 s.t.kind) := (h2.out.cell 1).trans rfl
  have c4 : W.cell? ⟨w.heap.size, 4, none⟩ = some (.int .i64 s.t.a) := (h2.out.cell 4).trans rfl
  have c18 : W.cell? ⟨w.heap.size, 18, none⟩ = some (.int .i64 s.passed) := (h2.out.cell 18).trans rfl
  rw [hk] at c1
  clear h0 h1 hp0 hp1 hk e1
  go_enter Tryz.func28, Tryz.ntmps28
  go_upto_region 1 with (fail)
  rw [← hW]
  clear hW
  generalize wayN s n = N at *
  by_cases hc : s.t.a - s.passed < n
  · have t1 : decide (wrap64 (s.t.a - s.passed) < n) = true := by rw [hw.out]; exact decide_eq_true hc
    have hN := Lib.hid (show N = wrap64 (s.t.a - s.passed) from by rw [e2.out, hw.out]; omega)
    clear hc e2
    go_upto_region 18 with (fail)
    have b2 : Blk W.drew w.heap.size 38 (rcells s A c) := h2.out
    have b4 : Blk W.drew (w.heap.size + 1) 38 zcells := h4.out
    have bB : Below w.heap.size w W.drew := hB.out.drew
    have r4 : W.drew.cell? ⟨w.heap.size, 4, none⟩ = some (.int .i64 s.t.a) := c4
    have r18 : W.drew.cell? ⟨w.heap.size, 18, none⟩ = some (.int .i64 s.passed) := c18
    refine start_ (n := 9) (S := fun w' => Blk w' w.heap.size 38 (rcells s A c) ∧ w'.cell? ⟨w.heap.size, 4, none⟩ = some (.int .i64 s.t.a) ∧ w'.cell? ⟨w.heap.size, 18, none⟩ = some (.int .i64 s.passed)) (ds := []) (m_ 9 0) (by kernel_rfl) rfl (by kernel_rfl) ⟨b2, r4, r18⟩ (fun hHeld => ?_)
    refine pq_ 1 79 9 2 ?_
    refine pq_ 2 80 9 6 ?_
    refine pq_ 4 82 9 22 ?_
    refine tS_ 0 78 9 23 2 hHeld ?_
    refine tq_ 3 81 9 31 hHeld ?_
    refine tq_ 5 83 9 63 hHeld ?_
    refine pq_ 6 84 9 127 ?_
    refine one_ (i := 7) (N := none) (m_ 9 255) rfl rfl (by kernel_rfl) (by decide) (fun K hK => ?_)
    refine stq_ 4 78 b4 (fun W2 q1 q2 q3 => ?_)
    have hR := Lib.hid (And.intro q1 (q3 _ w (by omega) bB))
    have x2 : Blk W2 w.heap.size 38 (rcells s A c) := (q2 w.heap.size (by omega)).trans b2
    have x4 : W2.cell? ⟨w.heap.size, 4, none⟩ = some (.int .i64 s.t.a) := (x2.cell 4).trans rfl
    have x18 : W2.cell? ⟨w.heap.size, 18, none⟩ = some (.int .i64 s.passed) := (x2.cell 18).trans rfl
    clear q1 q2 q3
    refine hK.out _ _ ⟨x2, x4, x18⟩ (fun hHeld => ?_)
    clear hK K
    refine pq_ 8 5 9 511 ?_
    refine done_ (by kernel_rfl) ?_
    clear hHeld b2 b4 bB r4 r18 x2 x4 x18 h2 h4 hB c1 c4 c18
    go_wp2
    exact bodyPost_ret (back2_ hR.out.1 Tryz.results28 rfl Tryz.underlying38 rfl inf22) rfl ⟨by rw [hN.out]; rfl, hR.out.2⟩
  · have t1 : decide (wrap64 (s.t.a - s.passed) < n) = false := by rw [hw.out]; exact decide_eq_false hc
    have hN := Lib.hid (show N = n from by rw [e2.out]; omega)
    clear hc e2
    go_upto_region 19 with (fail)
    refine wp_region_lit (l := [_, _, _, _]) ?_
    refine lS_ 2 h2.out ?_
    refine ls_ ?_
    refine sS_ 4 85 h4.out (fun W2 q1 q2 q3 => ?_)
    refine ls_ ?_
    refine wpList_nil ?_
    have hR := Lib.hid (And.intro q1 (q3 _ w (by omega) hB.out))
    clear q1 q2 q3
    go_wp2
    exact bodyPost_ret (back2_ hR.out.1 Tryz.results28 rfl Tryz.underlying38 rfl inf22) rfl ⟨by rw [hN.out]; rfl, hR.out.2⟩
theorem rc_pause (s : Sg) (A : Option Addr) (c : Nat) (v : Int) : (rcells s A c).setIfInBounds 17 (.int .i64 v) = rcells { s with pause := v } A c := rfl
theorem take_3_none (s : Sg) (A : Option Addr) (c : Nat) (n : Int) (w : World) (hk : s.t.kind = 3) (hn : n = 0 ∨ s.clock < s.pause) :
    Calls Tryz.prog 28 #[.agg (rcells s A c), .int .i64 n] w (TQ w (wayS s n) A c (wayN s n)) := by
  have e1 : wayS s n = s := by unfold wayS sliceS; rw [if_neg (by omega), if_pos hk, if_pos hn]
  have e2 : wayN s n = 0 := by unfold wayN sliceN; rw [if_neg (by omega), if_pos hk, if_pos hn]
  rw [e1, e2]
  obtain ⟨W, hW, hB, h2, h4⟩ := two_blk w s A c
  have c1 : W.cell? ⟨w.heap.size, 1, none⟩ = some (.int .i64 s.t.kind) := (h2.out.cell 1).trans rfl
  have c16 : W.cell? ⟨w.heap.size, 16, none⟩ = some (.int .i64 s.clock) := (h2.out.cell 16).trans rfl
  have c17 : W.cell? ⟨w.heap.size, 17, none⟩ = some (.int .i64 s.pause) := (h2.out.cell 17).trans rfl
  have c6 : W.cell? ⟨w.heap.size, 6, none⟩ = some (.int .u64 s.dice) := (h2.out.cell 6).trans rfl
  have c4 : W.cell? ⟨w.heap.size, 4, none⟩ = some (.int .i64 s.t.a) := (h2.out.cell 4).trans rfl
  rw [hk] at c1
  clear hk
  go_enter Tryz.func28, Tryz.ntmps28
  go_upto_region 1 with (fail)
  rw [← hW]
  clear hW
  by_cases h0 : n = 0
  · subst h0
    clear hn e1 e2
    go_upto_region 8 with (fail)
    refine wp_region_lit (l := [_, _, _]) ?_
    refine lS_ 2 h2.out ?_
    refine sS_ 4 39 h4.out (fun W2 q1 q2 q3 => ?_)
    refine ls_ ?_
    refine wpList_nil ?_
    have hR := Lib.hid (And.intro q1 (q3 _ w (by omega) hB.out))
    clear q1 q2 q3
    go_wp2
    exact bodyPost_ret (back2_ hR.out.1 Tryz.results28 rfl Tryz.underlying38 rfl inf22) rfl ⟨rfl, hR.out.2⟩
  · have t0 : (n == 0) = false := by simpa using h0
    have t1 : decide (s.clock < s.pause) = true := decide_eq_true (hn.resolve_left h0)
    clear hn h0 e1 e2
    go_upto_region 8 with (fail)
    refine wp_region_lit (l := [_, _, _]) ?_
    refine lS_ 2 h2.out ?_
    refine sS_ 4 39 h4.out (fun W2 q1 q2 q3 => ?_)
    refine ls_ ?_
    refine wpList_nil ?_
    have hR := Lib.hid (And.intro q1 (q3 _ w (by omega) hB.out))
    clear q1 q2 q3
    go_wp2
    exact bodyPost_ret (back2_ hR.out.1 Tryz.results28 rfl Tryz.underlying38 rfl inf22) rfl ⟨rfl, hR.out.2⟩
set_option maxHeartbeats 1000000 in
theorem take_3_some (s : Sg) (A : Option Addr) (c : Nat) (n : Int) (w : World) (hk : s.t.kind = 3) (hn : ¬ (n = 0 ∨ s.clock < s.pause)) (hd : D64 s) (ha : 1 ≤ s.t.a) (ha2 : s.t.a ≤ 4096) :
    Calls Tryz.prog 28 #[.agg (rcells s A c), .int .i64 n] w (TQ w (wayS s n) A c (wayN s n)) := by
  have e1 := Lib.hid (show wayS s n = { s with dice := Ref02.stepI s.dice, pause := add s.clock s.t.b } from by unfold wayS sliceS; rw [if_neg (by omega), if_pos hk, if_neg hn])
  have e2 := Lib.hid (show wayN s n = min n (Ref02.hiI s.dice s.t.a + 1) from by unfold wayN sliceN; rw [if_neg (by omega), if_pos hk, if_neg hn])
  have hbl := Lib.hid (fun (wy : World) => Ref02.below_some s.dice s.t.a wy hd.1 hd.2 ha (by omega))
  have hbd := Ref02.hiI_bd s.dice s.t.a ha
  have hw := Lib.hid (show wrap64 (Ref02.hiI s.dice s.t.a + 1) = Ref02.hiI s.dice s.t.a + 1 from by unfold wrap64; omega)
  have t0 : (n == 0) = false := by simpa using fun e => hn (.inl e)
  have t1 : decide (s.clock < s.pause) = false := decide_eq_false fun e => hn (.inr e)
  generalize wayN s n = N at *
  generalize wayS s n = sN at *
  obtain ⟨W, hW, hB, h2, h4⟩ := two_blk w s A c
  have c1 : W.cell? ⟨w.heap.size, 1, none⟩ = some (.int .i64 s.t.kind) := (h2.out.cell 1).trans rfl
  have c16 : W.cell? ⟨w.heap.size, 16, none⟩ = some (.int .i64 s.clock) := (h2.out.cell 16).trans rfl
  have c17 : W.cell? ⟨w.heap.size, 17, none⟩ = some (.int .i64 s.pause) := (h2.out.cell 17).trans rfl
  have c6 : W.cell? ⟨w.heap.size, 6, none⟩ = some (.int .u64 s.dice) := (h2.out.cell 6).trans rfl
  have c4 : W.cell? ⟨w.heap.size, 4, none⟩ = some (.int .i64 s.t.a) := (h2.out.cell 4).trans rfl
  rw [hk] at c1
  clear hk
  clear hn hbd hd ha ha2
  go_enter Tryz.func28, Tryz.ntmps28
  go_upto_region 1 with (fail)
  rw [← hW]
  clear hW
  go_wp2_with fail
  refine (hbl.out _).mono ?_
  rintro e w5 ⟨rfl, hB5⟩
  have h25 := Lib.hid (h2.out.below hB5)
  have h45 := Lib.hid (h4.out.below hB5)
  have hBB := Lib.hid (hB.out.trans (hB5.mono hB.out.size))
  have f6 := h25.out.free 6
  have f17 := h25.out.free 17
  have d16 : w5.cell? ⟨w.heap.size, 16, none⟩ = some (.int .i64 s.clock) := (h25.out.cell 16).trans rfl
  have d17 : w5.cell? ⟨w.heap.size, 17, none⟩ = some (.int .i64 s.pause) := (h25.out.cell 17).trans rfl
  have d6 : w5.cell? ⟨w.heap.size, 6, none⟩ = some (.int .u64 s.dice) := (h25.out.cell 6).trans rfl
  have d5 : w5.cell? ⟨w.heap.size, 5, none⟩ = some (.int .i64 s.t.b) := (h25.out.cell 5).trans rfl
  clear hB5 c16 c17 c6 c4 c1 hbl h2 h4 hB
  generalize hH : Ref02.hiI s.dice s.t.a = H at *
  go_wp2_with fail
  refine (Ref01.add_any _ _ _).mono ?_
  rintro e w6 ⟨rfl, rfl⟩
  have hs1 := h25.out.set_ 6 (.int .u64 (Ref02.stepI s.dice))
  rw [rc_dice] at hs1
  have hs2 := hs1.set_ 17 (.int .i64 (add s.clock s.t.b))
  rw [rc_pause] at hs2
  have hn1 : w.heap.size + 1 ≠ w.heap.size := by omega
  have g2 := Lib.hid (show Blk ((w5.setCell ⟨w.heap.size, 6, none⟩ (.int .u64 (Ref02.stepI s.dice))).setCell ⟨w.heap.size, 17, none⟩ (.int .i64 (add s.clock s.t.b))) w.heap.size 38 (rcells sN A c) from by rw [e1.out]; exact hs2)
  have g4 := Lib.hid ((h45.out.far (p := ⟨w.heap.size, 6, none⟩) hn1 (.int .u64 (Ref02.stepI s.dice))).far (p := ⟨w.heap.size, 17, none⟩) hn1 (.int .i64 (add s.clock s.t.b)))
  have gB := Lib.hid ((hBB.out.setCell (p := ⟨w.heap.size, 6, none⟩) (Nat.le_refl _) (.int .u64 (Ref02.stepI s.dice))).setCell (p := ⟨w.heap.size, 17, none⟩) (Nat.le_refl _) (.int .i64 (add s.clock s.t.b)))
  clear hs1 hs2 h25 h45 hBB hn1
  by_cases hc : H + 1 < n
  · have t2 : decide (wrap64 (H + 1) < n) = true := by rw [hw.out]; exact decide_eq_true hc
    have hN := Lib.hid (show N = wrap64 (H + 1) from by rw [e2.out, hw.out]; omega)
    clear hc e2 hw e1
    go_upto_region 13 with (fail)
    refine wp_region_lit (l := [_, _, _, _, _]) ?_
    refine lS_ 2 g2.out ?_
    refine ls_ ?_
    refine ls_ ?_
    refine sS_ 4 62 g4.out (fun W2 q1 q2 q3 => ?_)
    refine ls_ ?_
    refine wpList_nil ?_
    have hR := Lib.hid (And.intro q1 (q3 _ w (by omega) gB.out))
    clear q1 q2 q3
    go_wp2
    exact bodyPost_ret (back2_ hR.out.1 Tryz.results28 rfl Tryz.underlying38 rfl inf22) rfl ⟨by rw [hN.out]; rfl, hR.out.2⟩
  · have t2 : decide (wrap64 (H + 1) < n) = false := by rw [hw.out]; exact decide_eq_false hc
    have hN := Lib.hid (show N = n from by rw [e2.out]; omega)
    clear hc e2 hw e1
    go_upto_region 19 with (fail)
    refine wp_region_lit (l := [_, _, _, _]) ?_
    refine lS_ 2 g2.out ?_
    refine ls_ ?_
    refine sS_ 4 85 g4.out (fun W2 q1 q2 q3 => ?_)
    refine ls_ ?_
    refine wpList_nil ?_
    have hR := Lib.hid (And.intro q1 (q3 _ w (by omega) gB.out))
    clear q1 q2 q3
    go_wp2
    exact bodyPost_ret (back2_ hR.out.1 Tryz.results28 rfl Tryz.underlying38 rfl inf22) rfl ⟨by rw [hN.out]; rfl, hR.out.2⟩
theorem rc_bucket (s : Sg) (A : Option Addr) (c : Nat) (x y z u : Int) : ((((rcells s A c).setIfInBounds 7 (.int .i64 x)).setIfInBounds 8 (.int .i64 y)).setIfInBounds 9 (.int .i64 z)).setIfInBounds 10 (.int .i64 u) = rcells { s with b0 := x, b1 := y, b2 := z, b3 := u } A c := rfl
theorem fin4 {w w7 V : World} {m : Nat} {cs ds es : Array Value} {o : Obj} {x y z u : Value} (h2 : Blk w7 m 38 cs) (h4 : Blk w7 (m + 1) 38 es) (hB : Below m w w7)
    (hg : (((cs.setIfInBounds 7 x).setIfInBounds 8 y).setIfInBounds 9 z).setIfInBounds 10 u = ds) (hV : ((((w7.setCell ⟨m, 7, none⟩ x).setCell ⟨m, 8, none⟩ y).setCell ⟨m, 9, none⟩ z).setCell ⟨m, 10, none⟩ u).alloc o = V) :
    Blk V m 38 ds ∧ Blk V (m + 1) 38 es ∧ Below m w V := by
  subst hV
  have hn : m + 1 ≠ m := by omega
  have a3 := (((h2.set_ 7 x).set_ 8 y).set_ 9 z).set_ 10 u
  rw [hg] at a3
  have b3 := (((h4.far (p := ⟨m, 7, none⟩) hn x).far (p := ⟨m, 8, none⟩) hn y).far (p := ⟨m, 9, none⟩) hn z).far (p := ⟨m, 10, none⟩) hn u
  have B3 := (((hB.setCell (p := ⟨m, 7, none⟩) (Nat.le_refl _) x).setCell (p := ⟨m, 8, none⟩) (Nat.le_refl _) y).setCell (p := ⟨m, 9, none⟩) (Nat.le_refl _) z).setCell (p := ⟨m, 10, none⟩) (Nat.le_refl _) u
  generalize (((w7.setCell ⟨m, 7, none⟩ x).setCell ⟨m, 8, none⟩ y).setCell ⟨m, 9, none⟩ z).setCell ⟨m, 10, none⟩ u = U at *
  have bx := (Below.refl U.heap.size U).alloc (Nat.le_refl _) o
  exact ⟨a3.below bx, b3.below bx, B3.alloc (Nat.le_of_lt a3.lt) o⟩
theorem take_2 (s : Sg) (A : Option Addr) (c : Nat) (n : Int) (w : World) (hk : s.t.kind = 2) :
    Calls Tryz.prog 28 #[.agg (rcells s A c), .int .i64 n] w (TQ w (wayS s n) A c (wayN s n)) := by
  have e1 := Lib.hid (show wayS s n = { s with b2 := takeL s.b0 s.b1 s.b2 s.b3 s.clock n, b3 := takeT s.b0 s.b1 s.b2 s.b3 s.clock n } from by unfold wayS someS; rw [if_pos hk])
  have e2 := Lib.hid (show wayN s n = takeK s.b0 s.b1 s.b2 s.b3 s.clock n from by unfold wayN someN; rw [if_pos hk])
  have htk := Lib.hid (fun (wy : World) => Ref08.take_any s.b0 s.b1 s.b2 s.b3 s.clock n wy)
  generalize wayN s n = N at *
  generalize wayS s n = sN at *
  obtain ⟨W, hW, hB, h2, h4⟩ := two_blk w s A c
  have c1 : W.cell? ⟨w.heap.size, 1, none⟩ = some (.int .i64 s.t.kind) := (h2.out.cell 1).trans rfl
  have c7 : W.cell? ⟨w.heap.size, 7, none⟩ = some (.int .i64 s.b0) := (h2.out.cell 7).trans rfl
  have c8 : W.cell? ⟨w.heap.size, 8, none⟩ = some (.int .i64 s.b1) := (h2.out.cell 8).trans rfl
  have c9 : W.cell? ⟨w.heap.size, 9, none⟩ = some (.int .i64 s.b2) := (h2.out.cell 9).trans rfl
  have c10 : W.cell? ⟨w.heap.size, 10, none⟩ = some (.int .i64 s.b3) := (h2.out.cell 10).trans rfl
  have c16 : W.cell? ⟨w.heap.size, 16, none⟩ = some (.int .i64 s.clock) := (h2.out.cell 16).trans rfl
  rw [hk] at c1
  clear hk
  go_enter Tryz.func28, Tryz.ntmps28
  go_upto_region 1 with (fail)
  rw [← hW]
  clear hW
  go_wp2_with fail
  refine (htk.out _).mono ?_
  rintro e w5 ⟨rfl, hB5⟩
  have h25 := Lib.hid (h2.out.below hB5)
  have h45 := Lib.hid (h4.out.below hB5)
  have hBB := Lib.hid (hB.out.trans (hB5.mono hB.out.size))
  generalize takeL s.b0 s.b1 s.b2 s.b3 s.clock n = L at *
  generalize takeT s.b0 s.b1 s.b2 s.b3 s.clock n = TT at *
  generalize takeK s.b0 s.b1 s.b2 s.b3 s.clock n = KK at *
  have hlt : w.heap.size < w5.heap.size := h25.out.lt
  have f7 := h25.out.free 7
  have f8 := h25.out.free 8
  have f9 := h25.out.free 9
  have f10 := h25.out.free 10
  have d7 : w5.cell? ⟨w.heap.size, 7, none⟩ = some (.int .i64 s.b0) := (h25.out.cell 7).trans rfl
  have d8 : w5.cell? ⟨w.heap.size, 8, none⟩ = some (.int .i64 s.b1) := (h25.out.cell 8).trans rfl
  have d9 : w5.cell? ⟨w.heap.size, 9, none⟩ = some (.int .i64 s.b2) := (h25.out.cell 9).trans rfl
  have d10 : w5.cell? ⟨w.heap.size, 10, none⟩ = some (.int .i64 s.b3) := (h25.out.cell 10).trans rfl
  clear hB5 c7 c8 c9 c10 c16 c1 htk h2 h4 hB
  go_upto_region 5 with (fail)
  generalize hV : ((((w5.setCell ⟨w.heap.size, 7, none⟩ (.int .i64 s.b0)).setCell ⟨w.heap.size, 8, none⟩ (.int .i64 s.b1)).setCell ⟨w.heap.size, 9, none⟩ (.int .i64 L)).setCell ⟨w.heap.size, 10, none⟩ (.int .i64 TT)).alloc (.cells #[.int .i64 s.b0, .int .i64 s.b1, .int .i64 L, .int .i64 TT] 33) = V
  obtain ⟨v2, v4, vB⟩ := fin4 h25.out h45.out hBB.out (rc_bucket s A c s.b0 s.b1 L TT) hV
  have v2 := Lib.hid (show Blk V w.heap.size 38 (rcells sN A c) from by rw [e1.out]; exact v2)
  have v4 := Lib.hid v4
  have vB := Lib.hid vB
  clear hV d7 d8 d9 d10 f7 f8 f9 f10 h25 h45 hBB e1
  refine wp_region_lit (l := [_, _, _, _]) ?_
  refine lS_ 2 v2.out ?_
  refine ls_ ?_
  refine sS_ 4 26 v4.out (fun W2 q1 q2 q3 => ?_)
  refine ls_ ?_
  refine wpList_nil ?_
  have hR := Lib.hid (And.intro q1 (q3 _ w (by omega) vB.out))
  clear q1 q2 q3
  go_wp2
  exact bodyPost_ret (back2_ hR.out.1 Tryz.results28 rfl Tryz.underlying38 rfl inf22) rfl ⟨by rw [e2.out]; rfl, hR.out.2⟩
theorem rtake_any (s : Sg) (A : Option Addr) (c : Nat) (n : Int) (w : World) (hd : D64 s) (hf : Fit s) :
    Calls Tryz.prog 28 #[.agg (rcells s A c), .int .i64 n] w (TQ w (wayS s n) A c (wayN s n)) := by
  by_cases h2 : s.t.kind = 2
  · exact take_2 s A c n w h2
  by_cases h3 : s.t.kind = 3
  · by_cases hn : n = 0 ∨ s.clock < s.pause
    · exact take_3_none s A c n w h3 hn
    · exact take_3_some s A c n w h3 hn hd (hf.sl h3).1 (hf.sl h3).2
  by_cases h4 : s.t.kind = 4
  · exact take_4 s A c n w h4
  by_cases h6 : s.t.kind = 6
  · exact take_6 s A c n w h6 hf.a0 hf.a1 hf.p0 (by have := hf.p1; omega)
  exact take_else s A c n w h2 h3 h4 h6
end Go.Proofs.YtehpliclknfmoaaGreat.RefT
namespace Go.Proofs.YtehpliclknfmoaaGreat.RefT
open Go.RowKit Mem Tick Cargo Toxic Stage Ref07
open Go.Proofs.YtehpliclknfmoaaGreatW.PrintLast Pu
set_option maxRecDepth 100000
set_option linter.unusedVariables false
set_option linter.unusedSimpArgs false
def DQ (w : World) (s : Sg) (a : Ans) (e : Ending) (w' : World) : Prop := ∃ A c, e = .returned (.tuple #[.agg (rcells s A c), .agg #[.int .i64 a.1, .string a.2.1, .int .i64 a.2.2]]) ∧ RI w' s A c ∧ Below w.heap.size w w'
theorem rforce_any (s : Sg) (A : Option Addr) (c : Nat) (x : ByteArray) (w : World) (hi : RI w s A c) (hd : D64 s) (ht : held s + x.size ≤ 1000000000) :
    Calls Tryz.prog 51 #[.agg (rcells s A c), .string x] w (FQ w (fpR s x)) := by
  by_cases hx : x.size = 0
  · exact force_none s A c x w hi hx
  · exact force_some s A c x w hi hd ht hx
theorem room_free (s : Sg) (x : ByteArray) (h : free s < (x.size : Int)) : ((roomFor s x : Nat) : Int) = free s := by
  have h0 : 0 ≤ free s := by unfold free; omega
  unfold roomFor; omega
theorem room_size (s : Sg) (x : ByteArray) (h : ¬ free s < (x.size : Int)) : ((roomFor s x : Nat) : Int) = (x.size : Int) := by
  unfold roomFor; omega
theorem room_le (s : Sg) (x : ByteArray) : roomFor s x ≤ x.size := by
  unfold roomFor; omega
theorem bring_shut (s : Sg) (A : Option Addr) (c : Nat) (o : Stage.Op) (w : World) (hi : RI w s A c) (hs : (lookP s o.now).state ≠ 0) :
    Calls Tryz.prog 25 #[.agg (rcells s A c), .agg (opc o)] w (DQ w (lookP s o.now) (0, ⟨#[]⟩, 0)) := by
  have hI := Lib.hid (show RI w (lookP s o.now) A c from hi)
  clear hi
  obtain ⟨W, hW, hB, h2, h3, h4, h5⟩ := four_blk w s A c o
  go_enter Tryz.func25, Tryz.ntmps25
  go_upto_region 1 with (fail)
  rw [← hW]
  clear hW
  refine lookR_ 7 8 9 10 h2.out h3.out (fun W2 q1 q2 q3 => ?_)
  have b2 := Lib.hid q1
  have b3 := Lib.hid (show Blk W2 (w.heap.size + 1) 44 (opc o) from Eq.trans (q2 _ (by omega) h3.out.lt) h3.out)
  have b4 := Lib.hid (show Blk W2 (w.heap.size + 2) 38 zcells from Eq.trans (q2 _ (by omega) h4.out.lt) h4.out)
  have b5 := Lib.hid (show Blk W2 (w.heap.size + 3) 46 zans from Eq.trans (q2 _ (by omega) h5.out.lt) h5.out)
  have bB := Lib.hid (q3 _ w (Nat.le_refl _) hB.out)
  clear q1 q2 q3 h2 h3 h4 h5 hB
  generalize lookP s o.now = s1 at *
  have c21 : W2.cell? ⟨w.heap.size, 21, none⟩ = some (.int .i64 s1.state) := (b2.out.cell 21).trans rfl
  have t1 : (s1.state != 0) = true := by simpa using hs
  clear hs
  go_upto_region 3 with (fail)
  refine wp_region_lit (l := [_, _, _, _]) ?_
  refine lS_ 2 b2.out ?_
  refine ls_ ?_
  refine sS_ 4 14 b4.out (fun W3 q1 q2 q3 => ?_)
  refine sA_ 5 15 (Eq.trans (q2 _ (by omega)) b5.out) (fun W4 r1 r2 r3 => ?_)
  refine wpList_nil ?_
  have hR := Lib.hid (And.intro (show Blk W4 _ _ _ from Eq.trans (r2 _ (by omega)) q1) (And.intro r1 (r3 _ w (by omega) (q3 _ w (by omega) bB.out))))
  clear q1 q2 q3 r1 r2 r3
  go_wp2
  exact bodyPost_ret (back3_ hR.out.1 hR.out.2.1 Tryz.results25 rfl rfl Tryz.underlying38 rfl inf22 Tryz.underlying46 rfl (by kernel_rfl)) rfl ⟨A, c, rfl, hI.out.below hR.out.2.2, hR.out.2.2⟩
theorem bring_1 (s : Sg) (A : Option Addr) (c : Nat) (o : Stage.Op) (w : World) (hi : RI w s A c) (hs : (lookP s o.now).state = 0) (hk : o.kind = 1) (hd : D64 s) (ht : held s + o.s.size ≤ 1000000000) :
    Calls Tryz.prog 25 #[.agg (rcells s A c), .agg (opc o)] w (DQ w (fpR (lookP s o.now) o.s) (0, ⟨#[]⟩, 0)) := by
  have hI := Lib.hid (show RI w (lookP s o.now) A c from hi)
  have hfc := Lib.hid (fun (wy : World) (h : RI wy (lookP s o.now) A c) => rforce_any (lookP s o.now) A c o.s wy h hd ht)
  clear hi hd ht
  obtain ⟨W, hW, hB, h2, h3, h4, h5⟩ := four_blk w s A c o
  go_enter Tryz.func25, Tryz.ntmps25
  go_upto_region 1 with (fail)
  rw [← hW]
  clear hW
  refine lookR_ 7 8 9 10 h2.out h3.out (fun W2 q1 q2 q3 => ?_)
  have b2 := Lib.hid q1
  have b3 := Lib.hid (show Blk W2 (w.heap.size + 1) 44 (opc o) from Eq.trans (q2 _ (by omega) h3.out.lt) h3.out)
  have b4 := Lib.hid (show Blk W2 (w.heap.size + 2) 38 zcells from Eq.trans (q2 _ (by omega) h4.out.lt) h4.out)
  have b5 := Lib.hid (show Blk W2 (w.heap.size + 3) 46 zans from Eq.trans (q2 _ (by omega) h5.out.lt) h5.out)
  have bB := Lib.hid (q3 _ w (Nat.le_refl _) hB.out)
  clear q1 q2 q3 h2 h3 h4 h5 hB
  generalize lookP s o.now = s1 at *
  have c21 : W2.cell? ⟨w.heap.size, 21, none⟩ = some (.int .i64 s1.state) := (b2.out.cell 21).trans rfl
  have k0 : W2.cell? ⟨w.heap.size + 1, 0, none⟩ = some (.int .i64 o.kind) := (b3.out.cell 0).trans rfl
  have k3 : W2.cell? ⟨w.heap.size + 1, 3, none⟩ = some (.string o.s) := (b3.out.cell 3).trans rfl
  rw [hs] at c21
  rw [hk] at k0
  clear hs hk
  go_upto_region 5 with (fail)
  refine wp_region_lit (l := [_, _, _, _, _, _, _]) ?_
  refine lS_ 2 b2.out ?_
  refine ls_ ?_
  refine ls_ ?_
  refine cl_ 22 #[.agg (rcells s1 A c), .string o.s] ?_ Tryz.func51
  refine (hfc.out W2 (hI.out.below bB.out)).mono ?_
  rintro e w5 ⟨A2, c2, rfl, hR2, hB5⟩
  have hJ := Lib.hid hR2
  have d4 := Lib.hid (b4.out.below hB5)
  have d5 := Lib.hid (b5.out.below hB5)
  have dB := Lib.hid (bB.out.trans (hB5.mono bB.out.size))
  clear hR2 hB5 b2 b3 b4 b5 bB hfc c21 k0 k3 hI
  refine ⟨_, rfl, ?_⟩
  refine nl_ (by simp only [Act.put, List.setIfInBounds_toArray, List.set_cons_zero, List.set_cons_succ]; rfl) ?_
  refine ls_ ?_
  refine sS_ 4 22 d4.out (fun W3 q1 q2 q3 => ?_)
  refine sA_ 5 23 (Eq.trans (q2 _ (by omega)) d5.out) (fun W4 r1 r2 r3 => ?_)
  refine wpList_nil ?_
  have hR := Lib.hid (And.intro (show Blk W4 _ _ _ from Eq.trans (r2 _ (by omega)) q1) (And.intro r1 (r3 _ w (by omega) (q3 _ w (by omega) dB.out))))
  have hJ2 := Lib.hid ((hJ.out.heap d4.out (by decide) q2).heap (show Blk W3 _ _ _ from Eq.trans (q2 _ (by omega)) d5.out) (by decide) r2)
  clear q1 q2 q3 r1 r2 r3 hJ d4 d5 dB
  go_wp2
  exact bodyPost_ret (back3_ hR.out.1 hR.out.2.1 Tryz.results25 rfl rfl Tryz.underlying38 rfl inf22 Tryz.underlying46 rfl (by kernel_rfl)) rfl ⟨A2, c2, rfl, hJ2.out, hR.out.2.2⟩
theorem bring_0 (s : Sg) (A : Option Addr) (c : Nat) (o : Stage.Op) (w : World) (hi : RI w s A c) (hs : (lookP s o.now).state = 0) (hk : o.kind = 0) (hc : (lookP s o.now).closed = true) :
    Calls Tryz.prog 25 #[.agg (rcells s A c), .agg (opc o)] w (DQ w (lookP s o.now) (0, ⟨#[]⟩, 0)) := by
  have hI := Lib.hid (show RI w (lookP s o.now) A c from hi)
  clear hi
  obtain ⟨W, hW, hB, h2, h3, h4, h5⟩ := four_blk w s A c o
  go_enter Tryz.func25, Tryz.ntmps25
  go_upto_region 1 with (fail)
  rw [← hW]
  clear hW
  refine lookR_ 7 8 9 10 h2.out h3.out (fun W2 q1 q2 q3 => ?_)
  have b2 := Lib.hid q1
  have b3 := Lib.hid (show Blk W2 (w.heap.size + 1) 44 (opc o) from Eq.trans (q2 _ (by omega) h3.out.lt) h3.out)
  have b4 := Lib.hid (show Blk W2 (w.heap.size + 2) 38 zcells from Eq.trans (q2 _ (by omega) h4.out.lt) h4.out)
  have b5 := Lib.hid (show Blk W2 (w.heap.size + 3) 46 zans from Eq.trans (q2 _ (by omega) h5.out.lt) h5.out)
  have bB := Lib.hid (q3 _ w (Nat.le_refl _) hB.out)
  clear q1 q2 q3 h2 h3 h4 h5 hB
  generalize lookP s o.now = s1 at *
  have c21 : W2.cell? ⟨w.heap.size, 21, none⟩ = some (.int .i64 s1.state) := (b2.out.cell 21).trans rfl
  have c19 : W2.cell? ⟨w.heap.size, 19, none⟩ = some (.bool s1.closed) := (b2.out.cell 19).trans rfl
  have k0 : W2.cell? ⟨w.heap.size + 1, 0, none⟩ = some (.int .i64 o.kind) := (b3.out.cell 0).trans rfl
  rw [hs] at c21
  rw [hc] at c19
  rw [hk] at k0
  clear hs hk hc
  go_upto_region 7 with (fail)
  refine wp_region_lit (l := [_, _, _, _]) ?_
  refine lS_ 2 b2.out ?_
  refine ls_ ?_
  refine sS_ 4 26 b4.out (fun W3 q1 q2 q3 => ?_)
  refine sA_ 5 27 (Eq.trans (q2 _ (by omega)) b5.out) (fun W4 r1 r2 r3 => ?_)
  refine wpList_nil ?_
  have hR := Lib.hid (And.intro (show Blk W4 _ _ _ from Eq.trans (r2 _ (by omega)) q1) (And.intro r1 (r3 _ w (by omega) (q3 _ w (by omega) bB.out))))
  clear q1 q2 q3 r1 r2 r3
  go_wp2
  exact bodyPost_ret (back3_ hR.out.1 hR.out.2.1 Tryz.results25 rfl rfl Tryz.underlying38 rfl inf22 Tryz.underlying46 rfl (by kernel_rfl)) rfl ⟨A, c, rfl, hI.out.below hR.out.2.2, hR.out.2.2⟩
theorem hpcell {w w' : World} {g i : Nat} {v : Value} (h : w'.heap[g]? = w.heap[g]?) (hc : w.cell? ⟨g, i, none⟩ = some v) : w'.cell? ⟨g, i, none⟩ = some v := by
  unfold World.cell? at hc ⊢
  rw [h]; exact hc
set_option maxHeartbeats 1000000 in
theorem bring_00 (s : Sg) (A : Option Addr) (c : Nat) (o : Stage.Op) (w : World) (hi : RI w s A c) (hs : (lookP s o.now).state = 0) (hk : o.kind = 0) (hc : (lookP s o.now).closed = false) (hd : D64 s) (ht : held s + o.s.size ≤ 1000000000) (r0 : 0 ≤ s.room) (r1 : s.room ≤ 1000000000000) :
    Calls Tryz.prog 25 #[.agg (rcells s A c), .agg (opc o)] w (DQ w (fpR (lookP s o.now) (o.s.extract 0 (roomFor (lookP s o.now) o.s))) ((roomFor (lookP s o.now) o.s : Nat), ⟨#[]⟩, 0)) := by
  have hI := Lib.hid (show RI w (lookP s o.now) A c from hi)
  have hfr := Lib.hid (fun (wy : World) => free_any (lookP s o.now) A c wy (show held s ≤ 1000000000000 by omega) r0 r1)
  have hfc := Lib.hid (fun (wy : World) (h : RI wy (lookP s o.now) A c) => rforce_any (lookP s o.now) A c (o.s.extract 0 (roomFor (lookP s o.now) o.s)) wy h hd (show held s + _ ≤ _ by rw [ByteArray.size_extract]; omega))
  have hrf := Lib.hid (room_free (lookP s o.now) o.s)
  have hrs := Lib.hid (room_size (lookP s o.now) o.s)
  have hrl := room_le (lookP s o.now) o.s
  clear hi hd ht r0 r1
  obtain ⟨W, hW, hB, h2, h3, h4, h5⟩ := four_blk w s A c o
  go_enter Tryz.func25, Tryz.ntmps25
  go_upto_region 1 with (fail)
  rw [← hW]
  clear hW
  refine lookR_ 7 8 9 10 h2.out h3.out (fun W2 q1 q2 q3 => ?_)
  have b2 := Lib.hid q1
  have b3 := Lib.hid (show Blk W2 (w.heap.size + 1) 44 (opc o) from Eq.trans (q2 _ (by omega) h3.out.lt) h3.out)
  have b4 := Lib.hid (show Blk W2 (w.heap.size + 2) 38 zcells from Eq.trans (q2 _ (by omega) h4.out.lt) h4.out)
  have b5 := Lib.hid (show Blk W2 (w.heap.size + 3) 46 zans from Eq.trans (q2 _ (by omega) h5.out.lt) h5.out)
  have bB := Lib.hid (q3 _ w (Nat.le_refl _) hB.out)
  clear q1 q2 q3 h2 h3 h4 h5 hB
  generalize lookP s o.now = s1 at *
  generalize roomFor s1 o.s = n at *
  have c21 : W2.cell? ⟨w.heap.size, 21, none⟩ = some (.int .i64 s1.state) := (b2.out.cell 21).trans rfl
  have c19 : W2.cell? ⟨w.heap.size, 19, none⟩ = some (.bool s1.closed) := (b2.out.cell 19).trans rfl
  have k0 : W2.cell? ⟨w.heap.size + 1, 0, none⟩ = some (.int .i64 o.kind) := (b3.out.cell 0).trans rfl
  have k3 : W2.cell? ⟨w.heap.size + 1, 3, none⟩ = some (.string o.s) := (b3.out.cell 3).trans rfl
  rw [hs] at c21
  rw [hc] at c19
  rw [hk] at k0
  clear hs hk hc
  go_upto_region 9 with (fail)
  refine wp_region_lit (l := [_, _, _, _]) ?_
  refine ls_ ?_
  refine lS_ 2 b2.out ?_
  refine cl_ 33 #[.agg (rcells s1 A c)] ?_ Tryz.func52
  refine (hfr.out W2).mono ?_
  rintro e w4 ⟨rfl, hB4⟩
  have d2 := Lib.hid (b2.out.below hB4)
  have d3 := Lib.hid (b3.out.below hB4)
  have d4 := Lib.hid (b4.out.below hB4)
  have d5 := Lib.hid (b5.out.below hB4)
  have dB := Lib.hid (bB.out.trans (hB4.mono bB.out.size))
  clear hB4 b2 b3 b4 b5 bB c21 c19 k0 k3
  refine ⟨_, rfl, ?_⟩
  refine nl_ (by simp only [Act.put, List.setIfInBounds_toArray, List.set_cons_zero, List.set_cons_succ]; rfl) ?_
  refine ls_ ?_
  refine wpList_nil ?_
  go_upto_if 34 with fail
  generalize hq : decide (free s1 < (o.s.size : Int)) = B at *
  go_cut [6] (fun tv wx => tv = .int .i64 ((n : Nat) : Int) ∧ Blk wx w.heap.size 38 (rcells s1 A c) ∧ Blk wx (w.heap.size + 1) 44 (opc o) ∧ Blk wx (w.heap.size + 2) 38 zcells ∧ Blk wx (w.heap.size + 3) 46 zans ∧ Below w.heap.size w wx)
  case first =>
    cases B with
    | true =>
      have hr := Lib.hid (hrf.out (of_decide_eq_true hq))
      clear hq hrf hrs
      go_upto_region 10 with (fail)
      refine wp_region_lit (l := [_, _, _]) ?_
      refine lS_ 2 d2.out ?_
      refine cl_ 36 #[.agg (rcells s1 A c)] ?_ Tryz.func52
      refine (hfr.out _).mono ?_
      rintro e w5 ⟨rfl, hB5⟩
      have HM := Lib.hid (And.intro (d2.out.below hB5) (And.intro (d3.out.below hB5) (And.intro (d4.out.below hB5) (And.intro (d5.out.below hB5) (dB.out.trans (hB5.mono dB.out.size))))))
      clear hB5
      refine ⟨_, rfl, ?_⟩
      refine nl_ (by simp only [Act.put, List.setIfInBounds_toArray, List.set_cons_zero, List.set_cons_succ]; rfl) ?_
      refine ls_ ?_
      refine wpList_nil ?_
      go_wp2
      go_meet
      exact ⟨by rw [hr.out], HM.out.1, HM.out.2.1, HM.out.2.2.1, HM.out.2.2.2.1, HM.out.2.2.2.2⟩
    | false =>
      have hr := Lib.hid (hrs.out (of_decide_eq_false hq))
      clear hq hrf hrs
      go_wp2
      go_meet
      exact ⟨by rw [hr.out], d2.out, d3.out, d4.out, d5.out, dB.out⟩
  case rest =>
  obtain ⟨rfl, b2, b3, b4, b5, bB⟩ := hcut
  have b2 := Lib.hid (show Blk wc.drew w.heap.size 38 (rcells s1 A c) from b2)
  have b4 := Lib.hid (show Blk wc.drew (w.heap.size + 2) 38 zcells from b4)
  have b5 := Lib.hid (show Blk wc.drew (w.heap.size + 3) 46 zans from b5)
  have r3 : wc.drew.cell? ⟨w.heap.size + 1, 3, none⟩ = some (.string o.s) := (b3.cell 3).trans rfl
  have bB := Lib.hid (show Below w.heap.size w wc.drew from bB.drew)
  have hIV := Lib.hid (hI.out.below bB.out)
  clear hq hrf hrs hfr b3 hI d2 d3 d4 d5 dB
  have hnn : (0 : Int) ≤ (n : Int) := by omega
  have tt1 : decide ((n : Int) < 0) = false := decide_eq_false (by omega)
  have tt2 : decide (o.s.size < n) = false := decide_eq_false (by omega)
  go_upto_region 11 with (fail)
  refine start_ (n := 10) (S := fun w' => Blk w' w.heap.size 38 (rcells s1 A c) ∧ w'.cell? ⟨w.heap.size + 1, 3, none⟩ = some (.string o.s)) (ds := []) (m_ 10 0) (by kernel_rfl) rfl (by kernel_rfl) ⟨b2.out, r3⟩ (fun hHeld => ?_)
  refine pq_ 1 38 10 2 ?_
  refine pq_ 3 40 10 10 ?_
  refine pq_ 6 43 10 74 ?_
  refine pq_ 7 44 10 202 ?_
  refine tS_ 0 37 10 203 2 hHeld ?_
  refine tq_ 2 39 10 207 hHeld ?_
  refine pq_ 4 41 10 223 ?_
  refine one_ (i := 5) (N := some 42) (m_ 10 255) rfl rfl (by kernel_rfl) (by decide) (fun K hK => ?_)
  refine goes_ Tryz.func51 (by kernel_rfl) rfl #[.agg (rcells s1 A c), .string (o.s.extract 0 n)] (by rfl) rfl rfl (by simp only [List.map_toArray, List.map_cons, List.map_nil]; rfl) ?_
  with_reducible refine ((hfc.out _ (hIV.out))).mono ?_
  rintro e w5 ⟨A2, c2, rfl, hJ, hB5⟩
  refine ⟨_, rfl, ?_⟩
  have d2 := Eq.trans (hB5.block _ b2.out.lt) b2.out
  have d4 := b4.out.below hB5
  have d5 := b5.out.below hB5
  have dB := bB.out.trans (hB5.mono bB.out.size)
  have x2 := b2.out.below hB5
  have x3 := bcells hB5 r3
  refine hK.out _ _ ⟨x2, x3⟩ (fun hHeld => ?_)
  clear hK K
  refine norm_ (a' := ?_) ?_ ?_
  rotate_left
  · show Act.put _ (some 42) _ = _
    simp only [Act.put, List.setIfInBounds_toArray, List.set_cons_zero, List.set_cons_succ, i64_w, i32_w]
    rfl
  refine one_ (i := 8) (N := none) (m_ 10 511) rfl rfl (by kernel_rfl) (by decide) (fun K hK => ?_)
  refine stq_ 4 42 d4 (fun W3 q1 q2 q3 => ?_)
  have y2 : Blk W3 w.heap.size 38 (rcells s1 A c) := Eq.trans (q2 _ (by omega)) x2
  have y3 : W3.cell? ⟨w.heap.size + 1, 3, none⟩ = some (.string o.s) := hpcell (q2 (w.heap.size + 1) (by omega)) x3
  have y5 : Blk W3 (w.heap.size + 3) 46 zans := Eq.trans (q2 _ (by omega)) d5
  have yJ := hJ.heap d4 (by decide) q2
  have yB := q3 _ w (by omega) dB
  refine hK.out _ _ ⟨y2, y3⟩ (fun hHeld => ?_)
  clear hK K
  refine one_ (i := 9) (N := none) (m_ 10 1023) rfl rfl (by kernel_rfl) (by decide) (fun K hK => ?_)
  refine staq_ 5 44 y5 (fun W4 p1 p2 p3 => ?_)
  have z2 : Blk W4 w.heap.size 38 (rcells s1 A c) := Eq.trans (p2 _ (by omega)) y2
  have z3 : W4.cell? ⟨w.heap.size + 1, 3, none⟩ = some (.string o.s) := hpcell (p2 (w.heap.size + 1) (by omega)) y3
  have hR := Lib.hid (And.intro (show Blk W4 _ _ _ from Eq.trans (p2 _ (by omega)) q1) (And.intro p1 (p3 _ w (by omega) yB)))
  have zJ := Lib.hid (yJ.heap y5 (by decide) p2)
  refine hK.out _ _ ⟨z2, z3⟩ (fun hHeld => ?_)
  clear hK K
  refine done_ (by kernel_rfl) ?_
  clear hHeld
  go_wp2
  exact bodyPost_ret (back3_ hR.out.1 hR.out.2.1 Tryz.results25 rfl rfl Tryz.underlying38 rfl inf22 Tryz.underlying46 rfl (by kernel_rfl)) rfl ⟨A2, c2, rfl, zJ.out, hR.out.2.2⟩
theorem bring_any (s : Sg) (A : Option Addr) (c : Nat) (o : Stage.Op) (w : World) (hi : RI w s A c) (hk : o.kind = 0 ∨ o.kind = 1) (hd : D64 s) (ht : held s + o.s.size ≤ 1000000000) (r0 : 0 ≤ s.room) (r1 : s.room ≤ 1000000000000) :
    Calls Tryz.prog 25 #[.agg (rcells s A c), .agg (opc o)] w (DQ w (doesS s o) (doesA s o)) := by
  have e1 : ∀ x : ByteArray, (lookP s o.now).state = 0 → forceP (lookP s o.now) o.now x = fpR (lookP s o.now) x := fun x h => by
    unfold forceP fpR
    rw [look_idem]
    by_cases hx : x.size = 0
    · rw [if_pos (.inr hx), if_pos hx]
    · rw [if_neg (by rintro (e | e); exact e h; exact hx e), if_neg hx]
  have e2 : (lookP s o.now).state = 0 → forceP s o.now o.s = fpR (lookP s o.now) o.s := fun h => by rw [← e1 _ h]; unfold forceP; rw [look_idem]
  by_cases hs : (lookP s o.now).state = 0
  · rcases hk with hk | hk
    · have f1 : doesS s o = putS s o.now o.s := if_pos hk
      have f2 : doesA s o = ((putN s o.now o.s : Int), ⟨#[]⟩, 0) := if_pos hk
      rw [f1, f2]
      unfold putS putN
      cases hc : (lookP s o.now).closed with
      | true => rw [if_pos (.inr rfl), if_pos (.inr rfl)]; exact bring_0 s A c o w hi hs hk hc
      | false =>
        rw [if_neg (by rintro (e | e); exact e hs; cases e), if_neg (by rintro (e | e); exact e hs; cases e), e1 _ hs]
        exact bring_00 s A c o w hi hs hk hc hd ht r0 r1
    · have f1 : doesS s o = forceP s o.now o.s := by unfold doesS; rw [if_neg (by omega), if_pos hk]
      have f2 : doesA s o = (0, ⟨#[]⟩, 0) := by unfold doesA; rw [if_neg (by omega), if_pos hk]
      rw [f1, f2, e2 hs]
      exact bring_1 s A c o w hi hs hk hd ht
  · have f1 : doesS s o = lookP s o.now := by
      unfold doesS
      rcases hk with hk | hk
      · rw [if_pos hk]; unfold putS; rw [if_pos (.inl hs)]
      · rw [if_neg (by omega), if_pos hk]; unfold forceP; rw [if_pos (.inl hs)]
    have f2 : doesA s o = (0, ⟨#[]⟩, 0) := by
      unfold doesA
      rcases hk with hk | hk
      · rw [if_pos hk]; unfold putN; rw [if_pos (.inl hs)]; rfl
      · rw [if_neg (by omega), if_pos hk]
    rw [f1, f2]
    exact bring_shut s A c o w hi hs
end Go.Proofs.YtehpliclknfmoaaGreat.RefT
namespace Go.Proofs.YtehpliclknfmoaaGreat.RefT
open Go.RowKit Mem Tick Cargo Toxic Stage Ref07 Bucket
open Go.Proofs.YtehpliclknfmoaaGreatW.PrintLast Pu
set_option maxRecDepth 100000
set_option linter.unusedVariables false
set_option linter.unusedSimpArgs false
def CQ (w : World) (rate burst L T : Int) (e : Ending) (w' : World) : Prop := e = .returned (.tuple #[.agg #[.int .i64 rate, .int .i64 burst, .int .i64 (min L burst), .int .i64 T], .int .i64 0]) ∧ Below w.heap.size w w'
theorem change_yes (r b l t rate burst now : Int) (w : World) (h : okB r b l t = true) (hn : Ref08.newOk rate burst now = true) :
    Calls Tryz.prog 57 #[.agg #[.int .i64 r, .int .i64 b, .int .i64 l, .int .i64 t], .int .i64 rate, .int .i64 burst, .int .i64 now] w (CQ w rate burst (fillL r b l t now) (fillT r b l t now)) := by
  have hnw := Lib.hid (fun (wy : World) => Ref08.new_any rate burst now wy)
  have hnv := Lib.hid (show Ref08.newV rate burst now = .tuple #[.agg #[.int .i64 rate, .int .i64 burst, .int .i64 burst, .int .i64 now], .int .i64 0] from if_pos hn)
  have hrt := Lib.hid (fun (wy : World) => Ref08.right_any r b l t wy)
  have hk := Lib.hid h
  have hfl := Lib.hid (fun (wy : World) => Ref08.fill_any r b l t now wy)
  clear h hn
  obtain ⟨W, hW⟩ : ∃ W, W = (w.alloc (.cells #[.int .i64 r, .int .i64 b, .int .i64 l, .int .i64 t] 33)).alloc (.cells #[.int .i64 0, .int .i64 0, .int .i64 0, .int .i64 0] 33) := ⟨_, rfl⟩
  have hB := Lib.hid (show Below w.heap.size w W by rw [hW]; exact ((Below.refl _ _).alloc (Nat.le_refl _) _).alloc (by simp) _)
  have h2 := Lib.hid (show Blk W w.heap.size 33 #[.int .i64 r, .int .i64 b, .int .i64 l, .int .i64 t] by rw [hW]; exact (Blk.new w _ _).below ((Below.refl _ _).alloc (Nat.le_refl _) _))
  have h4 := Lib.hid (show Blk W (w.heap.size + 1) 33 #[.int .i64 0, .int .i64 0, .int .i64 0, .int .i64 0] by
    rw [hW]
    have := Blk.new (w.alloc (.cells #[.int .i64 r, .int .i64 b, .int .i64 l, .int .i64 t] 33)) 33 #[.int .i64 0, .int .i64 0, .int .i64 0, .int .i64 0]
    simpa using this)
  go_enter Tryz.func57, Tryz.ntmps57
  go_upto_region 1 with (fail)
  rw [← hW]
  clear hW
  go_wp2_with fail
  refine (hnw.out _).mono ?_
  rintro e w1 ⟨rfl, hB1⟩
  rw [hnv.out]
  have b2 := Lib.hid (h2.out.below hB1)
  have b4 := Lib.hid (h4.out.below hB1)
  have bB := Lib.hid (hB.out.trans (hB1.mono hB.out.size))
  clear hB1 h2 h4 hB hnw hnv
  go_upto_region 2 with (fail)
  have bx := (Below.refl w1.heap.size w1).alloc (Nat.le_refl _) (.cells #[.int .i64 rate, .int .i64 burst, .int .i64 burst, .int .i64 now] 33)
  generalize w1.alloc (.cells #[.int .i64 rate, .int .i64 burst, .int .i64 burst, .int .i64 now] 33) = V1 at *
  have d2 := Lib.hid (b2.out.below bx)
  have d4 := Lib.hid (b4.out.below bx)
  have dB := Lib.hid (bB.out.trans (bx.mono bB.out.size))
  clear bx b2 b4 bB
  have c0 : V1.cell? ⟨w.heap.size, 0, none⟩ = some (.int .i64 r) := (d2.out.cell 0).trans rfl
  have c1 : V1.cell? ⟨w.heap.size, 1, none⟩ = some (.int .i64 b) := (d2.out.cell 1).trans rfl
  have c2 : V1.cell? ⟨w.heap.size, 2, none⟩ = some (.int .i64 l) := (d2.out.cell 2).trans rfl
  have c3 : V1.cell? ⟨w.heap.size, 3, none⟩ = some (.int .i64 t) := (d2.out.cell 3).trans rfl
  go_wp2_with fail
  refine (hrt.out _).mono ?_
  rintro e w3 ⟨rfl, hB3⟩
  rw [hk.out]
  have e2 := Lib.hid (d2.out.below hB3)
  have e4 := Lib.hid (d4.out.below hB3)
  have eB := Lib.hid (dB.out.trans (hB3.mono dB.out.size))
  clear hB3 d2 d4 dB c0 c1 c2 c3 hrt
  have c0 : w3.cell? ⟨w.heap.size, 0, none⟩ = some (.int .i64 r) := (e2.out.cell 0).trans rfl
  have c1 : w3.cell? ⟨w.heap.size, 1, none⟩ = some (.int .i64 b) := (e2.out.cell 1).trans rfl
  have c2 : w3.cell? ⟨w.heap.size, 2, none⟩ = some (.int .i64 l) := (e2.out.cell 2).trans rfl
  have c3 : w3.cell? ⟨w.heap.size, 3, none⟩ = some (.int .i64 t) := (e2.out.cell 3).trans rfl
  go_wp2_with fail
  refine (hfl.out _).mono ?_
  rintro e w4 ⟨rfl, hB4⟩
  have g2 := Lib.hid (e2.out.below hB4)
  have g4 := Lib.hid (e4.out.below hB4)
  have gB := Lib.hid (eB.out.trans (hB4.mono eB.out.size))
  clear hB4 e2 e4 eB c0 c1 c2 c3 hfl
  generalize fillL r b l t now = L at *
  generalize fillT r b l t now = TT at *
  dsimp only
  have f0 := g2.out.free 0
  have f1 := g2.out.free 1
  have f2 := g2.out.free 2
  have f3 := g2.out.free 3
  have c0 : w4.cell? ⟨w.heap.size, 0, none⟩ = some (.int .i64 r) := (g2.out.cell 0).trans rfl
  have c1 : w4.cell? ⟨w.heap.size, 1, none⟩ = some (.int .i64 b) := (g2.out.cell 1).trans rfl
  have c2 : w4.cell? ⟨w.heap.size, 2, none⟩ = some (.int .i64 l) := (g2.out.cell 2).trans rfl
  have c3 : w4.cell? ⟨w.heap.size, 3, none⟩ = some (.int .i64 t) := (g2.out.cell 3).trans rfl
  go_upto_region 5 with (fail)
  have hn1 : w.heap.size + 1 ≠ w.heap.size := by omega
  have i2 := (((g2.out.set_ 0 (.int .i64 r)).set_ 1 (.int .i64 b)).set_ 2 (.int .i64 L)).set_ 3 (.int .i64 TT)
  have i4 := (((g4.out.far (p := ⟨w.heap.size, 0, none⟩) hn1 (.int .i64 r)).far (p := ⟨w.heap.size, 1, none⟩) hn1 (.int .i64 b)).far (p := ⟨w.heap.size, 2, none⟩) hn1 (.int .i64 L)).far (p := ⟨w.heap.size, 3, none⟩) hn1 (.int .i64 TT)
  have iB := (((gB.out.setCell (p := ⟨w.heap.size, 0, none⟩) (Nat.le_refl _) (.int .i64 r)).setCell (p := ⟨w.heap.size, 1, none⟩) (Nat.le_refl _) (.int .i64 b)).setCell (p := ⟨w.heap.size, 2, none⟩) (Nat.le_refl _) (.int .i64 L)).setCell (p := ⟨w.heap.size, 3, none⟩) (Nat.le_refl _) (.int .i64 TT)
  clear c0 c1 c2 c3 f0 f1 f2 f3 g2 g4 gB
  generalize (((w4.setCell ⟨w.heap.size, 0, none⟩ (.int .i64 r)).setCell ⟨w.heap.size, 1, none⟩ (.int .i64 b)).setCell ⟨w.heap.size, 2, none⟩ (.int .i64 L)).setCell ⟨w.heap.size, 3, none⟩ (.int .i64 TT) = V at *
  have i2 := Lib.hid (show Blk V w.heap.size 33 #[.int .i64 r, .int .i64 b, .int .i64 L, .int .i64 TT] from i2)
  have i4 := Lib.hid i4
  have iB := Lib.hid iB
  have c2 : V.cell? ⟨w.heap.size, 2, none⟩ = some (.int .i64 L) := (i2.out.cell 2).trans rfl
  have c3 : V.cell? ⟨w.heap.size, 3, none⟩ = some (.int .i64 TT) := (i2.out.cell 3).trans rfl
  have f2 := i2.out.free 2
  by_cases hc : burst < L
  · have t1 : decide (burst < L) = true := decide_eq_true hc
    have hm := Lib.hid (show min L burst = burst from by omega)
    have j2 := Lib.hid (i2.out.set_ 2 (.int .i64 burst))
    have j4 := Lib.hid (i4.out.far (p := ⟨w.heap.size, 2, none⟩) hn1 (.int .i64 burst))
    have jB := Lib.hid (iB.out.setCell (p := ⟨w.heap.size, 2, none⟩) (Nat.le_refl _) (.int .i64 burst))
    clear hc i2 i4 iB
    go_upto_region 7 with (fail)
    generalize V.setCell ⟨w.heap.size, 2, none⟩ (.int .i64 burst) = V2 at *
    clear c2 c3 f2
    have c2 : V2.cell? ⟨w.heap.size, 2, none⟩ = some (.int .i64 burst) := (j2.out.cell 2).trans rfl
    have c3 : V2.cell? ⟨w.heap.size, 3, none⟩ = some (.int .i64 TT) := (j2.out.cell 3).trans rfl
    refine wp_region_lit (l := [_, _, _, _, _, _, _, _, _]) ?_
    refine ls_ ?_
    refine ls_ ?_
    refine ls_ ?_
    refine ls_ ?_
    refine ls_ ?_
    refine ls_ ?_
    refine ls_ ?_
    refine sW_ (vs := #[.int .i64 rate, .int .i64 burst, .int .i64 burst, .int .i64 TT]) 8 42 j4.out (by kernel_rfl) (by simp [Value.oneCell']) (fun W2 q1 q2 q3 => ?_)
    refine ls_ ?_
    refine wpList_nil ?_
    have hR := Lib.hid (And.intro q1 (q3 _ w (by omega) jB.out))
    clear q1 q2 q3
    go_wp2
    exact bodyPost_ret (back2_ hR.out.1 Tryz.results57 rfl Tryz.underlying33 rfl (by kernel_rfl)) rfl ⟨by rw [hm.out]; rfl, hR.out.2⟩
  · have t1 : decide (burst < L) = false := decide_eq_false hc
    have hm := Lib.hid (show min L burst = L from by omega)
    clear hc
    go_upto_region 7 with (fail)
    refine wp_region_lit (l := [_, _, _, _, _, _, _, _, _]) ?_
    refine ls_ ?_
    refine ls_ ?_
    refine ls_ ?_
    refine ls_ ?_
    refine ls_ ?_
    refine ls_ ?_
    refine ls_ ?_
    refine sW_ (vs := #[.int .i64 rate, .int .i64 burst, .int .i64 L, .int .i64 TT]) 8 42 i4.out (by kernel_rfl) (by simp [Value.oneCell']) (fun W2 q1 q2 q3 => ?_)
    refine ls_ ?_
    refine wpList_nil ?_
    have hR := Lib.hid (And.intro q1 (q3 _ w (by omega) iB.out))
    clear q1 q2 q3
    go_wp2
    exact bodyPost_ret (back2_ hR.out.1 Tryz.results57 rfl Tryz.underlying33 rfl (by kernel_rfl)) rfl ⟨by rw [hm.out]; rfl, hR.out.2⟩
end Go.Proofs.YtehpliclknfmoaaGreat.RefT
namespace Go.Proofs.YtehpliclknfmoaaGreat.RefT
open Go.RowKit Mem Tick Cargo Toxic Stage Ref07 Bucket
open Go.Proofs.YtehpliclknfmoaaGreatW.PrintLast Pu
set_option maxRecDepth 100000
set_option linter.unusedVariables false
set_option linter.unusedSimpArgs false
theorem upd_kind (s : Sg) (A : Option Addr) (c : Nat) (o : Stage.Op) (w : World) (hi : RI w s A c) (hk : o.t.kind ≠ s.t.kind) :
    Calls Tryz.prog 30 #[.agg (rcells s A c), .agg (opc o)] w (DQ w s (0, ⟨#[]⟩, 91)) := by
  have hI := Lib.hid (show RI w (s) A c from hi)
  clear hi
  obtain ⟨W, hW, hB, h2, h3, h4, h5⟩ := four_blk w s A c o
  have k1 : W.cell? ⟨w.heap.size, 1, none⟩ = some (.int .i64 s.t.kind) := (h2.out.cell 1).trans rfl
  have k5 : W.cell? ⟨w.heap.size + 1, 5, none⟩ = some (.int .i64 o.t.kind) := (h3.out.cell 5).trans rfl
  have t1 : (o.t.kind != s.t.kind) = true := by simpa using hk
  clear hk
  go_enter Tryz.func30, Tryz.ntmps30
  go_upto_region 1 with (fail)
  rw [← hW]
  clear hW
  go_upto_region 2 with (fail)
  refine wp_region_lit (l := [_, _, _, _]) ?_
  refine lS_ 2 h2.out ?_
  refine ls_ ?_
  refine sS_ 4 16 h4.out (fun W3 q1 q2 q3 => ?_)
  refine sA_ 5 17 (Eq.trans (q2 _ (by omega)) h5.out) (fun W4 r1 r2 r3 => ?_)
  refine wpList_nil ?_
  have hR := Lib.hid (And.intro (show Blk W4 _ _ _ from Eq.trans (r2 _ (by omega)) q1) (And.intro r1 (r3 _ w (by omega) (q3 _ w (by omega) hB.out))))
  clear q1 q2 q3 r1 r2 r3
  go_wp2
  exact bodyPost_ret (back3_ hR.out.1 hR.out.2.1 Tryz.results30 rfl rfl Tryz.underlying38 rfl inf22 Tryz.underlying46 rfl (by kernel_rfl)) rfl ⟨A, c, rfl, hI.out.below hR.out.2.2, hR.out.2.2⟩
theorem upd_zero (s : Sg) (A : Option Addr) (c : Nat) (o : Stage.Op) (w : World) (hi : RI w s A c) (hk : o.t.kind = s.t.kind) (h0 : o.t.kind = 0) :
    Calls Tryz.prog 30 #[.agg (rcells s A c), .agg (opc o)] w (DQ w s (0, ⟨#[]⟩, 0)) := by
  have hI := Lib.hid (show RI w (s) A c from hi)
  clear hi
  obtain ⟨W, hW, hB, h2, h3, h4, h5⟩ := four_blk w s A c o
  have k1 : W.cell? ⟨w.heap.size, 1, none⟩ = some (.int .i64 s.t.kind) := (h2.out.cell 1).trans rfl
  have k5 : W.cell? ⟨w.heap.size + 1, 5, none⟩ = some (.int .i64 o.t.kind) := (h3.out.cell 5).trans rfl
  rw [← hk, h0] at k1
  rw [h0] at k5
  clear hk h0
  go_enter Tryz.func30, Tryz.ntmps30
  go_upto_region 1 with (fail)
  rw [← hW]
  clear hW
  go_upto_region 4 with (fail)
  refine wp_region_lit (l := [_, _, _, _]) ?_
  refine lS_ 2 h2.out ?_
  refine ls_ ?_
  refine sS_ 4 22 h4.out (fun W3 q1 q2 q3 => ?_)
  refine sA_ 5 23 (Eq.trans (q2 _ (by omega)) h5.out) (fun W4 r1 r2 r3 => ?_)
  refine wpList_nil ?_
  have hR := Lib.hid (And.intro (show Blk W4 _ _ _ from Eq.trans (r2 _ (by omega)) q1) (And.intro r1 (r3 _ w (by omega) (q3 _ w (by omega) hB.out))))
  clear q1 q2 q3 r1 r2 r3
  go_wp2
  exact bodyPost_ret (back3_ hR.out.1 hR.out.2.1 Tryz.results30 rfl rfl Tryz.underlying38 rfl inf22 Tryz.underlying46 rfl (by kernel_rfl)) rfl ⟨A, c, rfl, hI.out.below hR.out.2.2, hR.out.2.2⟩
theorem upd_bad (s : Sg) (A : Option Addr) (c : Nat) (o : Stage.Op) (w : World) (hi : RI w s A c) (hn : o.t.name.size ≤ 9223372036854775807) (hk : o.t.kind = s.t.kind) (h0 : o.t.kind ≠ 0) (hc : chk o.t ≠ 0) :
    Calls Tryz.prog 30 #[.agg (rcells s A c), .agg (opc o)] w (DQ w s (0, ⟨#[]⟩, chk o.t)) := by
  have hI := Lib.hid (show RI w (s) A c from hi)
  clear hi
  have hck := Lib.hid (fun (wy : World) => Ref09.check_any o.t wy hn)
  have t1 : (o.t.kind != s.t.kind) = false := by rw [hk]; simp
  have t0 : (o.t.kind == 0) = false := by simpa using h0
  have tc : (chk o.t != 0) = true := by simpa using hc
  obtain ⟨W, hW, hB, h2, h3, h4, h5⟩ := four_blk w s A c o
  have k1 : W.cell? ⟨w.heap.size, 1, none⟩ = some (.int .i64 s.t.kind) := (h2.out.cell 1).trans rfl
  have k5 : W.cell? ⟨w.heap.size + 1, 5, none⟩ = some (.int .i64 o.t.kind) := (h3.out.cell 5).trans rfl
  have k4 : W.cell? ⟨w.heap.size + 1, 4, none⟩ = some (.string o.t.name) := (h3.out.cell 4).trans rfl
  have k6 : W.cell? ⟨w.heap.size + 1, 6, none⟩ = some (.bool o.t.up) := (h3.out.cell 6).trans rfl
  have k7 : W.cell? ⟨w.heap.size + 1, 7, none⟩ = some (.int .i64 o.t.often) := (h3.out.cell 7).trans rfl
  have k8 : W.cell? ⟨w.heap.size + 1, 8, none⟩ = some (.int .i64 o.t.a) := (h3.out.cell 8).trans rfl
  have k9 : W.cell? ⟨w.heap.size + 1, 9, none⟩ = some (.int .i64 o.t.b) := (h3.out.cell 9).trans rfl
  clear hk h0 hc
  go_enter Tryz.func30, Tryz.ntmps30
  go_upto_region 1 with (fail)
  rw [← hW]
  clear hW
  go_wp2_with fail
  refine (hck.out _).mono ?_
  rintro e w1 ⟨rfl, hB1⟩
  have b2 := Lib.hid (h2.out.below hB1)
  have b3 := Lib.hid (h3.out.below hB1)
  have b4 := Lib.hid (h4.out.below hB1)
  have b5 := Lib.hid (h5.out.below hB1)
  have bB := Lib.hid (hB.out.trans (hB1.mono hB.out.size))
  clear hB1 h2 h3 h4 h5 hB k1 k4 k5 k6 k7 k8 k9 hck
  generalize chk o.t = E at *
  go_upto_region 7 with (fail)
  refine wp_region_lit (l := [_, _, _, _, _]) ?_
  refine lS_ 2 b2.out ?_
  refine ls_ ?_
  refine ls_ ?_
  refine sS_ 4 29 b4.out (fun W3 q1 q2 q3 => ?_)
  refine sA_ 5 31 (Eq.trans (q2 _ (by omega)) b5.out) (fun W4 r1 r2 r3 => ?_)
  refine wpList_nil ?_
  have hR := Lib.hid (And.intro (show Blk W4 _ _ _ from Eq.trans (r2 _ (by omega)) q1) (And.intro r1 (r3 _ w (by omega) (q3 _ w (by omega) bB.out))))
  clear q1 q2 q3 r1 r2 r3
  go_wp2
  exact bodyPost_ret (back3_ hR.out.1 hR.out.2.1 Tryz.results30 rfl rfl Tryz.underlying38 rfl inf22 Tryz.underlying46 rfl (by kernel_rfl)) rfl ⟨A, c, rfl, hI.out.below hR.out.2.2, hR.out.2.2⟩
theorem rc_tox (s : Sg) (A : Option Addr) (c : Nat) (t : Tox) : ((((((rcells s A c).setIfInBounds 0 (.string t.name)).setIfInBounds 1 (.int .i64 t.kind)).setIfInBounds 2 (.bool t.up)).setIfInBounds 3 (.int .i64 t.often)).setIfInBounds 4 (.int .i64 t.a)).setIfInBounds 5 (.int .i64 t.b) = rcells { s with t := t } A c := rfl
theorem fin4h {w w7 V : World} {n m : Nat} {cs ds : Array Value} {o : Obj} {x y z u : Value} (h2 : Blk w7 m 38 cs) (hB : Below n w w7) (hnm : n ≤ m)
    (hg : (((cs.setIfInBounds 7 x).setIfInBounds 8 y).setIfInBounds 9 z).setIfInBounds 10 u = ds) (hV : ((((w7.setCell ⟨m, 7, none⟩ x).setCell ⟨m, 8, none⟩ y).setCell ⟨m, 9, none⟩ z).setCell ⟨m, 10, none⟩ u).alloc o = V) :
    Blk V m 38 ds ∧ Below n w V ∧ ∀ j, j ≠ m → j < w7.heap.size → V.heap[j]? = w7.heap[j]? := by
  subst hV
  have a3 := (((h2.set_ 7 x).set_ 8 y).set_ 9 z).set_ 10 u
  rw [hg] at a3
  have B3 := (((hB.setCell (p := ⟨m, 7, none⟩) hnm x).setCell (p := ⟨m, 8, none⟩) hnm y).setCell (p := ⟨m, 9, none⟩) hnm z).setCell (p := ⟨m, 10, none⟩) hnm u
  have hh : ∀ j, j ≠ m → ((((w7.setCell ⟨m, 7, none⟩ x).setCell ⟨m, 8, none⟩ y).setCell ⟨m, 9, none⟩ z).setCell ⟨m, 10, none⟩ u).heap[j]? = w7.heap[j]? := fun j hj => by
    rw [Below.heap_setCell _ _ _ j hj, Below.heap_setCell _ _ _ j hj, Below.heap_setCell _ _ _ j hj, Below.heap_setCell _ _ _ j hj]
  have hz : ((((w7.setCell ⟨m, 7, none⟩ x).setCell ⟨m, 8, none⟩ y).setCell ⟨m, 9, none⟩ z).setCell ⟨m, 10, none⟩ u).heap.size = w7.heap.size := by simp
  generalize (((w7.setCell ⟨m, 7, none⟩ x).setCell ⟨m, 8, none⟩ y).setCell ⟨m, 9, none⟩ z).setCell ⟨m, 10, none⟩ u = U at *
  have bx := (Below.refl U.heap.size U).alloc (Nat.le_refl _) o
  exact ⟨a3.below bx, B3.alloc (Nat.le_trans hnm (Nat.le_of_lt a3.lt)) o, fun j hj hl => (bx.block j (by omega)).trans (hh j hj)⟩
theorem new_ok {r b t : Int} (h : okB r b b t = true) : Ref08.newOk r b t = true := by
  have h := of_decide_eq_true h
  unfold Ref08.newOk rightB
  unfold Bucket.Ok at h
  simp only [Bool.and_eq_true, decide_eq_true_eq]
  omega
theorem fin6 {w w7 V : World} {m : Nat} {cs ds : Array Value} {x y z u v q : Value} (h2 : Blk w7 m 38 cs) (hB : Below m w w7)
    (hg : (((((cs.setIfInBounds 0 x).setIfInBounds 1 y).setIfInBounds 2 z).setIfInBounds 3 u).setIfInBounds 4 v).setIfInBounds 5 q = ds) (hV : (((((w7.setCell ⟨m, 0, none⟩ x).setCell ⟨m, 1, none⟩ y).setCell ⟨m, 2, none⟩ z).setCell ⟨m, 3, none⟩ u).setCell ⟨m, 4, none⟩ v).setCell ⟨m, 5, none⟩ q = V) :
    Blk V m 38 ds ∧ Below m w V ∧ ∀ j, j ≠ m → V.heap[j]? = w7.heap[j]? := by
  subst hV
  have a3 := (((((h2.set_ 0 x).set_ 1 y).set_ 2 z).set_ 3 u).set_ 4 v).set_ 5 q
  rw [hg] at a3
  exact ⟨a3, (((((hB.setCell (p := ⟨m, 0, none⟩) (Nat.le_refl _) x).setCell (p := ⟨m, 1, none⟩) (Nat.le_refl _) y).setCell (p := ⟨m, 2, none⟩) (Nat.le_refl _) z).setCell (p := ⟨m, 3, none⟩) (Nat.le_refl _) u).setCell (p := ⟨m, 4, none⟩) (Nat.le_refl _) v).setCell (p := ⟨m, 5, none⟩) (Nat.le_refl _) q,
    fun j hj => by
      rw [Below.heap_setCell _ _ _ j hj, Below.heap_setCell _ _ _ j hj, Below.heap_setCell _ _ _ j hj, Below.heap_setCell _ _ _ j hj, Below.heap_setCell _ _ _ j hj, Below.heap_setCell _ _ _ j hj]⟩
set_option maxHeartbeats 1000000 in
theorem upd_else (s : Sg) (A : Option Addr) (c : Nat) (o : Stage.Op) (w : World) (hi : RI w s A c) (hn : o.t.name.size ≤ 9223372036854775807) (hk : o.t.kind = s.t.kind) (h0 : o.t.kind ≠ 0) (hc : chk o.t = 0) (h2 : o.t.kind ≠ 2) :
    Calls Tryz.prog 30 #[.agg (rcells s A c), .agg (opc o)] w (DQ w { lookP s o.now with t := o.t } (0, ⟨#[]⟩, 0)) := by
  have hI := Lib.hid (show RI w (lookP s o.now) A c from hi)
  clear hi
  have hck := Lib.hid (fun (wy : World) => Ref09.check_any o.t wy hn)
  have t1 : (o.t.kind != s.t.kind) = false := by rw [hk]; simp
  have t0 : (o.t.kind == 0) = false := by simpa using h0
  have tc : (chk o.t != 0) = false := by rw [hc]; rfl
  have t2 : (o.t.kind == 2) = false := by simpa using h2
  obtain ⟨W, hW, hB, h2, h3, h4, h5⟩ := four_blk w s A c o
  have k1 : W.cell? ⟨w.heap.size, 1, none⟩ = some (.int .i64 s.t.kind) := (h2.out.cell 1).trans rfl
  have k5 : W.cell? ⟨w.heap.size + 1, 5, none⟩ = some (.int .i64 o.t.kind) := (h3.out.cell 5).trans rfl
  have k4 : W.cell? ⟨w.heap.size + 1, 4, none⟩ = some (.string o.t.name) := (h3.out.cell 4).trans rfl
  have k6 : W.cell? ⟨w.heap.size + 1, 6, none⟩ = some (.bool o.t.up) := (h3.out.cell 6).trans rfl
  have k7 : W.cell? ⟨w.heap.size + 1, 7, none⟩ = some (.int .i64 o.t.often) := (h3.out.cell 7).trans rfl
  have k8 : W.cell? ⟨w.heap.size + 1, 8, none⟩ = some (.int .i64 o.t.a) := (h3.out.cell 8).trans rfl
  have k9 : W.cell? ⟨w.heap.size + 1, 9, none⟩ = some (.int .i64 o.t.b) := (h3.out.cell 9).trans rfl
  clear hk h0 hc 
  go_enter Tryz.func30, Tryz.ntmps30
  go_upto_region 1 with (fail)
  rw [← hW]
  clear hW
  go_wp2_with fail
  refine (hck.out _).mono ?_
  rintro e w1 ⟨rfl, hB1⟩
  have b2 := Lib.hid (h2.out.below hB1)
  have b3 := Lib.hid (h3.out.below hB1)
  have b4 := Lib.hid (h4.out.below hB1)
  have b5 := Lib.hid (h5.out.below hB1)
  have bB := Lib.hid (hB.out.trans (hB1.mono hB.out.size))
  clear hB1 h2 h3 h4 h5 hB k1 k4 k5 k6 k7 k8 k9 hck
  generalize chk o.t = E at *
  go_upto_region 8 with (fail)
  refine lookR_ 32 33 34 35 b2.out b3.out (fun W2 q1 q2 q3 => ?_)
  have d2 := Lib.hid q1
  have d3 := Lib.hid (show Blk W2 (w.heap.size + 1) 44 (opc o) from Eq.trans (q2 _ (by omega) b3.out.lt) b3.out)
  have d4 := Lib.hid (show Blk W2 (w.heap.size + 2) 38 zcells from Eq.trans (q2 _ (by omega) b4.out.lt) b4.out)
  have d5 := Lib.hid (show Blk W2 (w.heap.size + 3) 46 zans from Eq.trans (q2 _ (by omega) b5.out.lt) b5.out)
  have dB := Lib.hid (q3 _ w (Nat.le_refl _) bB.out)
  clear q1 q2 q3 b2 b3 b4 b5 bB
  generalize lookP s o.now = s1 at *
  have k4 : W2.cell? ⟨w.heap.size + 1, 4, none⟩ = some (.string o.t.name) := (d3.out.cell 4).trans rfl
  have k5 : W2.cell? ⟨w.heap.size + 1, 5, none⟩ = some (.int .i64 o.t.kind) := (d3.out.cell 5).trans rfl
  have k6 : W2.cell? ⟨w.heap.size + 1, 6, none⟩ = some (.bool o.t.up) := (d3.out.cell 6).trans rfl
  have k7 : W2.cell? ⟨w.heap.size + 1, 7, none⟩ = some (.int .i64 o.t.often) := (d3.out.cell 7).trans rfl
  have k8 : W2.cell? ⟨w.heap.size + 1, 8, none⟩ = some (.int .i64 o.t.a) := (d3.out.cell 8).trans rfl
  have k9 : W2.cell? ⟨w.heap.size + 1, 9, none⟩ = some (.int .i64 o.t.b) := (d3.out.cell 9).trans rfl
  have f0 := d2.out.free 0
  have f1 := d2.out.free 1
  have f2 := d2.out.free 2
  have f3 := d2.out.free 3
  have f4 := d2.out.free 4
  have f5 := d2.out.free 5
  have j0 : W2.cell? ⟨w.heap.size, 0, none⟩ = some (.string s1.t.name) := (d2.out.cell 0).trans rfl
  have j1 : W2.cell? ⟨w.heap.size, 1, none⟩ = some (.int .i64 s1.t.kind) := (d2.out.cell 1).trans rfl
  have j2 : W2.cell? ⟨w.heap.size, 2, none⟩ = some (.bool s1.t.up) := (d2.out.cell 2).trans rfl
  have j3 : W2.cell? ⟨w.heap.size, 3, none⟩ = some (.int .i64 s1.t.often) := (d2.out.cell 3).trans rfl
  have j4 : W2.cell? ⟨w.heap.size, 4, none⟩ = some (.int .i64 s1.t.a) := (d2.out.cell 4).trans rfl
  have j5 : W2.cell? ⟨w.heap.size, 5, none⟩ = some (.int .i64 s1.t.b) := (d2.out.cell 5).trans rfl
  go_upto_region 10 with (fail)
  generalize hV : (((((W2.setCell ⟨w.heap.size, 0, none⟩ (.string o.t.name)).setCell ⟨w.heap.size, 1, none⟩ (.int .i64 o.t.kind)).setCell ⟨w.heap.size, 2, none⟩ (.bool o.t.up)).setCell ⟨w.heap.size, 3, none⟩ (.int .i64 o.t.often)).setCell ⟨w.heap.size, 4, none⟩ (.int .i64 o.t.a)).setCell ⟨w.heap.size, 5, none⟩ (.int .i64 o.t.b) = V
  obtain ⟨e2, eB, eH⟩ := fin6 d2.out dB.out (rc_tox s1 A c o.t) hV
  have e4 := Lib.hid (show Blk V (w.heap.size + 2) _ _ from Eq.trans (eH _ (by omega)) d4.out)
  have e5 := Lib.hid (show Blk V (w.heap.size + 3) _ _ from Eq.trans (eH _ (by omega)) d5.out)
  have e2 := Lib.hid e2
  have eB := Lib.hid eB
  clear hV eH d2 d3 d4 d5 dB k4 k5 k6 k7 k8 k9 f0 f1 f2 f3 f4 f5 j0 j1 j2 j3 j4 j5
  have c1 : V.cell? ⟨w.heap.size, 1, none⟩ = some (.int .i64 o.t.kind) := (e2.out.cell 1).trans rfl
  go_upto_region 13 with (fail)
  refine wp_region_lit (l := [_, _, _, _]) ?_
  refine lS_ 2 e2.out ?_
  refine ls_ ?_
  refine sS_ 4 59 e4.out (fun W3 q1 q2 q3 => ?_)
  refine sA_ 5 60 (Eq.trans (q2 _ (by omega)) e5.out) (fun W4 r1 r2 r3 => ?_)
  refine wpList_nil ?_
  have hR := Lib.hid (And.intro (show Blk W4 _ _ _ from Eq.trans (r2 _ (by omega)) q1) (And.intro r1 (r3 _ w (by omega) (q3 _ w (by omega) eB.out))))
  clear q1 q2 q3 r1 r2 r3
  go_wp2
  exact bodyPost_ret (back3_ hR.out.1 hR.out.2.1 Tryz.results30 rfl rfl Tryz.underlying38 rfl inf22 Tryz.underlying46 rfl (by kernel_rfl)) rfl ⟨A, c, rfl, (show RI w { s1 with t := o.t } A c from hI.out).below hR.out.2.2, hR.out.2.2⟩
set_option maxHeartbeats 1000000 in
theorem upd_two (s : Sg) (A : Option Addr) (c : Nat) (o : Stage.Op) (w : World) (hi : RI w s A c) (hn : o.t.name.size ≤ 9223372036854775807) (hk : o.t.kind = s.t.kind) (hc : chk o.t = 0) (k2 : o.t.kind = 2) (hok : okB s.b0 s.b1 s.b2 s.b3 = true) (hc0 : 0 ≤ s.clock) (hc1 : s.clock ≤ 1099511627776) :
    Calls Tryz.prog 30 #[.agg (rcells s A c), .agg (opc o)] w (DQ w { lookP s o.now with t := o.t, b0 := o.t.a, b1 := o.t.b, b2 := min (fillL s.b0 s.b1 s.b2 s.b3 (lookP s o.now).clock) o.t.b, b3 := fillT s.b0 s.b1 s.b2 s.b3 (lookP s o.now).clock } (0, ⟨#[]⟩, 0)) := by
  have hI := Lib.hid (show RI w (lookP s o.now) A c from hi)
  clear hi
  have h0 : o.t.kind ≠ 0 := by omega
  have hck := Lib.hid (fun (wy : World) => Ref09.check_any o.t wy hn)
  have t1 : (o.t.kind != s.t.kind) = false := by rw [hk]; simp
  have t0 : (o.t.kind == 0) = false := by simpa using h0
  have tc : (chk o.t != 0) = false := by rw [hc]; rfl
  have t2 : (o.t.kind == 2) = true := by simpa using k2
  have hlc := look_clock s o.now hc0 hc1
  have hnk := new_ok (fit_bucketT hc k2 (lookP s o.now).clock hlc.1 hlc.2)
  have hch := Lib.hid (fun (wy : World) => change_yes (lookP s o.now).b0 (lookP s o.now).b1 (lookP s o.now).b2 (lookP s o.now).b3 o.t.a o.t.b (lookP s o.now).clock wy hok hnk)
  obtain ⟨sF, hF⟩ : ∃ sF : Sg, Hid (sF = { lookP s o.now with t := o.t, b0 := o.t.a, b1 := o.t.b, b2 := min (fillL (lookP s o.now).b0 (lookP s o.now).b1 (lookP s o.now).b2 (lookP s o.now).b3 (lookP s o.now).clock) o.t.b, b3 := fillT (lookP s o.now).b0 (lookP s o.now).b1 (lookP s o.now).b2 (lookP s o.now).b3 (lookP s o.now).clock }) := ⟨_, Lib.hid rfl⟩
  have hJ := Lib.hid (show RI w sF A c from by rw [hF.out]; exact hI.out)
  suffices hS : Calls Tryz.prog 30 #[.agg (rcells s A c), .agg (opc o)] w (DQ w sF (0, ⟨#[]⟩, 0)) by
    rw [hF.out] at hS
    exact hS
  obtain ⟨W, hW, hB, h2, h3, h4, h5⟩ := four_blk w s A c o
  have k1 : W.cell? ⟨w.heap.size, 1, none⟩ = some (.int .i64 s.t.kind) := (h2.out.cell 1).trans rfl
  have k5 : W.cell? ⟨w.heap.size + 1, 5, none⟩ = some (.int .i64 o.t.kind) := (h3.out.cell 5).trans rfl
  have k4 : W.cell? ⟨w.heap.size + 1, 4, none⟩ = some (.string o.t.name) := (h3.out.cell 4).trans rfl
  have k6 : W.cell? ⟨w.heap.size + 1, 6, none⟩ = some (.bool o.t.up) := (h3.out.cell 6).trans rfl
  have k7 : W.cell? ⟨w.heap.size + 1, 7, none⟩ = some (.int .i64 o.t.often) := (h3.out.cell 7).trans rfl
  have k8 : W.cell? ⟨w.heap.size + 1, 8, none⟩ = some (.int .i64 o.t.a) := (h3.out.cell 8).trans rfl
  have k9 : W.cell? ⟨w.heap.size + 1, 9, none⟩ = some (.int .i64 o.t.b) := (h3.out.cell 9).trans rfl
  clear hI hk h0 hc k2 hok hc0 hc1 hlc hnk
  go_enter Tryz.func30, Tryz.ntmps30
  go_upto_region 1 with (fail)
  rw [← hW]
  clear hW
  go_wp2_with fail
  refine (hck.out _).mono ?_
  rintro e w1 ⟨rfl, hB1⟩
  have b2 := Lib.hid (h2.out.below hB1)
  have b3 := Lib.hid (h3.out.below hB1)
  have b4 := Lib.hid (h4.out.below hB1)
  have b5 := Lib.hid (h5.out.below hB1)
  have bB := Lib.hid (hB.out.trans (hB1.mono hB.out.size))
  clear hB1 h2 h3 h4 h5 hB k1 k4 k5 k6 k7 k8 k9 hck
  generalize chk o.t = E at *
  go_upto_region 8 with (fail)
  refine lookR_ 32 33 34 35 b2.out b3.out (fun W2 q1 q2 q3 => ?_)
  have d2 := Lib.hid q1
  have d3 := Lib.hid (show Blk W2 (w.heap.size + 1) 44 (opc o) from Eq.trans (q2 _ (by omega) b3.out.lt) b3.out)
  have d4 := Lib.hid (show Blk W2 (w.heap.size + 2) 38 zcells from Eq.trans (q2 _ (by omega) b4.out.lt) b4.out)
  have d5 := Lib.hid (show Blk W2 (w.heap.size + 3) 46 zans from Eq.trans (q2 _ (by omega) b5.out.lt) b5.out)
  have dB := Lib.hid (q3 _ w (Nat.le_refl _) bB.out)
  clear q1 q2 q3 b2 b3 b4 b5 bB
  generalize lookP s o.now = s1 at *
  have k4 : W2.cell? ⟨w.heap.size + 1, 4, none⟩ = some (.string o.t.name) := (d3.out.cell 4).trans rfl
  have k5 : W2.cell? ⟨w.heap.size + 1, 5, none⟩ = some (.int .i64 o.t.kind) := (d3.out.cell 5).trans rfl
  have k6 : W2.cell? ⟨w.heap.size + 1, 6, none⟩ = some (.bool o.t.up) := (d3.out.cell 6).trans rfl
  have k7 : W2.cell? ⟨w.heap.size + 1, 7, none⟩ = some (.int .i64 o.t.often) := (d3.out.cell 7).trans rfl
  have k8 : W2.cell? ⟨w.heap.size + 1, 8, none⟩ = some (.int .i64 o.t.a) := (d3.out.cell 8).trans rfl
  have k9 : W2.cell? ⟨w.heap.size + 1, 9, none⟩ = some (.int .i64 o.t.b) := (d3.out.cell 9).trans rfl
  have f0 := d2.out.free 0
  have f1 := d2.out.free 1
  have f2 := d2.out.free 2
  have f3 := d2.out.free 3
  have f4 := d2.out.free 4
  have f5 := d2.out.free 5
  have j0 : W2.cell? ⟨w.heap.size, 0, none⟩ = some (.string s1.t.name) := (d2.out.cell 0).trans rfl
  have j1 : W2.cell? ⟨w.heap.size, 1, none⟩ = some (.int .i64 s1.t.kind) := (d2.out.cell 1).trans rfl
  have j2 : W2.cell? ⟨w.heap.size, 2, none⟩ = some (.bool s1.t.up) := (d2.out.cell 2).trans rfl
  have j3 : W2.cell? ⟨w.heap.size, 3, none⟩ = some (.int .i64 s1.t.often) := (d2.out.cell 3).trans rfl
  have j4 : W2.cell? ⟨w.heap.size, 4, none⟩ = some (.int .i64 s1.t.a) := (d2.out.cell 4).trans rfl
  have j5 : W2.cell? ⟨w.heap.size, 5, none⟩ = some (.int .i64 s1.t.b) := (d2.out.cell 5).trans rfl
  go_upto_region 10 with (fail)
  generalize hV : (((((W2.setCell ⟨w.heap.size, 0, none⟩ (.string o.t.name)).setCell ⟨w.heap.size, 1, none⟩ (.int .i64 o.t.kind)).setCell ⟨w.heap.size, 2, none⟩ (.bool o.t.up)).setCell ⟨w.heap.size, 3, none⟩ (.int .i64 o.t.often)).setCell ⟨w.heap.size, 4, none⟩ (.int .i64 o.t.a)).setCell ⟨w.heap.size, 5, none⟩ (.int .i64 o.t.b) = V
  obtain ⟨e2, eB, eH⟩ := fin6 d2.out dB.out (rc_tox s1 A c o.t) hV
  have e4 := Lib.hid (show Blk V (w.heap.size + 2) _ _ from Eq.trans (eH _ (by omega)) d4.out)
  have e5 := Lib.hid (show Blk V (w.heap.size + 3) _ _ from Eq.trans (eH _ (by omega)) d5.out)
  have e2 := Lib.hid e2
  have eB := Lib.hid eB
  clear hV eH d2 d3 d4 d5 dB k4 k5 k6 k7 k8 k9 f0 f1 f2 f3 f4 f5 j0 j1 j2 j3 j4 j5
  have c1 : V.cell? ⟨w.heap.size, 1, none⟩ = some (.int .i64 o.t.kind) := (e2.out.cell 1).trans rfl
  have c4 : V.cell? ⟨w.heap.size, 4, none⟩ = some (.int .i64 o.t.a) := (e2.out.cell 4).trans rfl
  have c5 : V.cell? ⟨w.heap.size, 5, none⟩ = some (.int .i64 o.t.b) := (e2.out.cell 5).trans rfl
  have c7 : V.cell? ⟨w.heap.size, 7, none⟩ = some (.int .i64 s1.b0) := (e2.out.cell 7).trans rfl
  have c8 : V.cell? ⟨w.heap.size, 8, none⟩ = some (.int .i64 s1.b1) := (e2.out.cell 8).trans rfl
  have c9 : V.cell? ⟨w.heap.size, 9, none⟩ = some (.int .i64 s1.b2) := (e2.out.cell 9).trans rfl
  have c10 : V.cell? ⟨w.heap.size, 10, none⟩ = some (.int .i64 s1.b3) := (e2.out.cell 10).trans rfl
  have c16 : V.cell? ⟨w.heap.size, 16, none⟩ = some (.int .i64 s1.clock) := (e2.out.cell 16).trans rfl
  go_wp2_with fail
  refine (hch.out _).mono ?_
  rintro e w5 ⟨rfl, hB5⟩
  have g2 := Lib.hid (e2.out.below hB5)
  have g4 := Lib.hid (e4.out.below hB5)
  have g5 := Lib.hid (e5.out.below hB5)
  have gB := Lib.hid (eB.out.trans (hB5.mono eB.out.size))
  generalize fillL s1.b0 s1.b1 s1.b2 s1.b3 s1.clock = L at *
  generalize fillT s1.b0 s1.b1 s1.b2 s1.b3 s1.clock = TT at *
  generalize min L o.t.b = M at *
  have hlt : w.heap.size < w5.heap.size := g2.out.lt
  have f7 := g2.out.free 7
  have f8 := g2.out.free 8
  have f9 := g2.out.free 9
  have f10 := g2.out.free 10
  have d7 : w5.cell? ⟨w.heap.size, 7, none⟩ = some (.int .i64 s1.b0) := (g2.out.cell 7).trans rfl
  have d8 : w5.cell? ⟨w.heap.size, 8, none⟩ = some (.int .i64 s1.b1) := (g2.out.cell 8).trans rfl
  have d9 : w5.cell? ⟨w.heap.size, 9, none⟩ = some (.int .i64 s1.b2) := (g2.out.cell 9).trans rfl
  have d10 : w5.cell? ⟨w.heap.size, 10, none⟩ = some (.int .i64 s1.b3) := (g2.out.cell 10).trans rfl
  clear hB5 c1 c4 c5 c7 c8 c9 c10 c16 e2 e4 e5 eB hch
  dsimp only
  go_upto_region 13 with (fail)
  generalize hV : ((((w5.setCell ⟨w.heap.size, 7, none⟩ (.int .i64 o.t.a)).setCell ⟨w.heap.size, 8, none⟩ (.int .i64 o.t.b)).setCell ⟨w.heap.size, 9, none⟩ (.int .i64 M)).setCell ⟨w.heap.size, 10, none⟩ (.int .i64 TT)).alloc (.cells #[.int .i64 o.t.a, .int .i64 o.t.b, .int .i64 M, .int .i64 TT] 33) = U
  obtain ⟨v2, vB, vH⟩ := fin4h g2.out gB.out (Nat.le_refl _) (rc_bucket _ A c o.t.a o.t.b M TT) hV
  have v4 := Lib.hid (show Blk U (w.heap.size + 2) _ _ from Eq.trans (vH _ (by omega) g4.out.lt) g4.out)
  have v5 := Lib.hid (show Blk U (w.heap.size + 3) _ _ from Eq.trans (vH _ (by omega) g5.out.lt) g5.out)
  have v2 := Lib.hid (show Blk U w.heap.size 38 (rcells sF A c) from by rw [hF.out]; exact v2)
  have vB := Lib.hid vB
  clear hV vH d7 d8 d9 d10 f7 f8 f9 f10 g2 g4 g5 gB
  refine wp_region_lit (l := [_, _, _, _]) ?_
  refine lS_ 2 v2.out ?_
  refine ls_ ?_
  refine sS_ 4 59 v4.out (fun W3 q1 q2 q3 => ?_)
  refine sA_ 5 60 (Eq.trans (q2 _ (by omega)) v5.out) (fun W4 r1 r2 r3 => ?_)
  refine wpList_nil ?_
  have hR := Lib.hid (And.intro (show Blk W4 _ _ _ from Eq.trans (r2 _ (by omega)) q1) (And.intro r1 (r3 _ w (by omega) (q3 _ w (by omega) vB.out))))
  clear q1 q2 q3 r1 r2 r3
  go_wp2
  exact bodyPost_ret (back3_ hR.out.1 hR.out.2.1 Tryz.results30 rfl rfl Tryz.underlying38 rfl inf22 Tryz.underlying46 rfl (by kernel_rfl)) rfl ⟨A, c, rfl, hJ.out.below hR.out.2.2, hR.out.2.2⟩
theorem rupd_any (s : Sg) (A : Option Addr) (c : Nat) (o : Stage.Op) (w : World) (hi : RI w s A c) (hk5 : o.kind = 5) (hn : o.t.name.size ≤ 9223372036854775807) (hok : s.t.kind = 2 → okB s.b0 s.b1 s.b2 s.b3 = true) (hc0 : 0 ≤ s.clock) (hc1 : s.clock ≤ 1099511627776) :
    Calls Tryz.prog 30 #[.agg (rcells s A c), .agg (opc o)] w (DQ w (doesS s o) (doesA s o)) := by
  have f1 : doesS s o = updS s o.t o.now := by unfold doesS; rw [if_neg (by omega), if_neg (by omega), if_neg (by omega), if_neg (by omega), if_neg (by omega), if_pos hk5]
  have f2 : doesA s o = (0, ⟨#[]⟩, updE s o.t) := by unfold doesA; rw [if_neg (by omega), if_neg (by omega), if_neg (by omega), if_neg (by omega), if_neg (by omega), if_pos hk5]
  rw [f1, f2]
  unfold updS updE
  by_cases hk : o.t.kind ≠ s.t.kind
  · rw [if_pos (.inl hk), if_pos hk]; exact upd_kind s A c o w hi hk
  rw [if_neg hk]
  have hk' : o.t.kind = s.t.kind := by omega
  by_cases h0 : o.t.kind = 0
  · rw [if_pos (.inr (.inl h0)), if_pos h0]; exact upd_zero s A c o w hi hk' h0
  rw [if_neg h0]
  by_cases hc : chk o.t ≠ 0
  · rw [if_pos (.inr (.inr hc))]; exact upd_bad s A c o w hi hn hk' h0 hc
  have hc' : chk o.t = 0 := by omega
  rw [if_neg (by rintro (e | e | e); exact hk e; exact h0 e; exact hc e), hc']
  by_cases h2 : o.t.kind = 2
  · rw [if_pos h2]; exact upd_two s A c o w hi hn hk' hc' h2 (hok (by omega)) hc0 hc1
  · rw [if_neg h2]; exact upd_else s A c o w hi hn hk' h0 hc' h2
end Go.Proofs.YtehpliclknfmoaaGreat.RefT
namespace Go.Proofs.YtehpliclknfmoaaGreat.RefT
open Go.RowKit Mem Tick Cargo Toxic Stage Ref07 Bucket
open Go.Proofs.YtehpliclknfmoaaGreatW.PrintLast Pu
set_option maxRecDepth 100000
set_option linter.unusedVariables false
set_option linter.unusedSimpArgs false
def NQ (w : World) (t : Tox) (seed room now : Int) (e : Ending) (w' : World) : Prop :=
  (newE t room = 0 → e = .returned (.tuple #[.agg (rcells (newS t seed room now) none 0), .int .i64 0])) ∧ (newE t room ≠ 0 → e = .returned (.tuple #[.agg zcells, .int .i64 (newE t room)])) ∧ Below w.heap.size w w'
abbrev tcs (t : Tox) : Array Value := #[.string t.name, .int .i64 t.kind, .bool t.up, .int .i64 t.often, .int .i64 t.a, .int .i64 t.b]
theorem one22z : (zcells).all (·.oneCell') = true := by simp [zcells, Value.oneCell']
theorem tox_blk (w : World) (t : Tox) : ∃ W, W = (w.alloc (.cells (tcs t) 23)).alloc (.cells zcells 38) ∧ Hid (Below w.heap.size w W) ∧ Hid (Blk W w.heap.size 23 (tcs t)) ∧ Hid (Blk W (w.heap.size + 1) 38 zcells) :=
  ⟨_, rfl, Lib.hid (((Below.refl _ _).alloc (Nat.le_refl _) _).alloc (by simp) _), Lib.hid ((Blk.new w _ _).below ((Below.refl _ _).alloc (Nat.le_refl _) _)), Lib.hid (by
    have := Blk.new (w.alloc (.cells (tcs t) 23)) 38 zcells
    simpa using this)⟩
theorem tox_cells {V : World} {m : Nat} {t : Tox} (h : Blk V m 23 (tcs t)) : V.cell? ⟨m, 0, none⟩ = some (.string t.name) ∧ V.cell? ⟨m, 1, none⟩ = some (.int .i64 t.kind) ∧ V.cell? ⟨m, 2, none⟩ = some (.bool t.up) ∧ V.cell? ⟨m, 3, none⟩ = some (.int .i64 t.often) ∧ V.cell? ⟨m, 4, none⟩ = some (.int .i64 t.a) ∧ V.cell? ⟨m, 5, none⟩ = some (.int .i64 t.b) :=
  ⟨(h.cell 0).trans rfl, (h.cell 1).trans rfl, (h.cell 2).trans rfl, (h.cell 3).trans rfl, (h.cell 4).trans rfl, (h.cell 5).trans rfl⟩
set_option maxHeartbeats 1000000 in
theorem rnew_any (t : Tox) (seed room now : Int) (w : World) (hn : t.name.size ≤ 9223372036854775807) :
    Calls Tryz.prog 5 #[t.v, .int .u64 seed, .int .i64 room, .int .i64 now] w (NQ w t seed room now) := by
  have hps := Lib.hid (fun (wy : World) => pass_any t.name t.kind t.up t.often t.a t.b wy)
  have hck := Lib.hid (fun (wy : World) => Ref09.check_any t wy hn)
  have hdE := Lib.hid (show newE t room = if passB t = false ∧ chk t ≠ 0 then chk t else if roomOk room = false then 1 else 0 from rfl)
  have hQ := Lib.hid (show ∀ e w', NQ w t seed room now e w' = ((newE t room = 0 → e = .returned (.tuple #[.agg (rcells (newS t seed room now) none 0), .int .i64 0])) ∧ (newE t room ≠ 0 → e = .returned (.tuple #[.agg zcells, .int .i64 (newE t room)])) ∧ Below w.heap.size w w') from fun _ _ => rfl)
  generalize NQ w t seed room now = NP at *
  generalize newE t room = E at *
  have hS := Lib.hid (show newS t seed room now = if t.kind = 2 then { new0 t seed room now with b0 := t.a, b1 := t.b, b2 := t.b, b3 := add now 0 } else new0 t seed room now from rfl)
  have hnr := Lib.hid (show add now 0 = nr now from Stage.add_zero now)
  have hnb := Lib.hid (show t.kind = 2 → chk t = 0 → ∀ wy : World, Calls Tryz.prog 20 #[.int .i64 t.a, .int .i64 t.b, .int .i64 (nr now)] wy fun e w' => e = .returned (.tuple #[.agg #[.int .i64 t.a, .int .i64 t.b, .int .i64 t.b, .int .i64 (nr now)], .int .i64 0]) ∧ Below wy.heap.size wy w' from fun hk hc wy => by
    have := Ref08.new_any t.a t.b (nr now) wy
    rwa [show Ref08.newV t.a t.b (nr now) = _ from if_pos (new_ok (by rw [← hnr.out]; exact fit_bucket hc hk now))] at this)
  have hpk := Lib.hid (show passB t = true → t.kind ≠ 2 from fun h => by rw [pass_kind h]; decide)
  have hps0 : passB ⟨t.name, t.kind, t.up, t.often, t.a, t.b⟩ = passB t := rfl
  rw [hps0] at hps
  generalize newS t seed room now = sN at *
  obtain ⟨W, hW, hB, h4, h8⟩ := tox_blk w t
  go_enter Tryz.func5, Tryz.ntmps5
  go_upto_region 1 with (fail)
  rw [← hW]
  clear hW hps0
  have hW := Lib.hid hB.out
  have hcell := Lib.hid (fun (V : World) (h : Blk V w.heap.size 23 (tcs t)) => tox_cells h)
  obtain ⟨c0, c1, c2, c3, c4, c5⟩ := hcell.out W h4.out
  generalize hbd : (!(passB t) && (chk t != 0)) = BD at *
  go_cut [20] (fun v wx => v = .bool BD ∧ Blk wx w.heap.size 23 (tcs t) ∧ Blk wx (w.heap.size + 1) 38 zcells ∧ Below w.heap.size w wx)
  case first =>
    go_wp2_with fail
    refine (hps.out _).mono ?_
    rintro e w1 ⟨rfl, hB1⟩
    have b4 := Lib.hid (h4.out.below hB1)
    have b8 := Lib.hid (h8.out.below hB1)
    have bB := Lib.hid (hB.out.trans (hB1.mono hB.out.size))
    clear hB1 c0 c1 c2 c3 c4 c5 h4 h8 hB hW
    cases hp : passB t with
    | true =>
      rw [hp] at hbd
      go_wp2
      go_meet
      exact ⟨by rw [← hbd]; rfl, b4.out, b8.out, bB.out⟩
    | false =>
      rw [hp] at hbd
      obtain ⟨c0, c1, c2, c3, c4, c5⟩ := hcell.out w1 b4.out
      go_wp2_with fail
      refine (hck.out _).mono ?_
      rintro e w2 ⟨rfl, hB2⟩
      have d4 := Lib.hid (b4.out.below hB2)
      have d8 := Lib.hid (b8.out.below hB2)
      have dB := Lib.hid (bB.out.trans (hB2.mono bB.out.size))
      have hbd2 := Lib.hid (show (chk t != 0) = BD from by rw [← hbd]; simp)
      clear hB2 c0 c1 c2 c3 c4 c5 b4 b8 bB hbd
      go_wp2
      go_meet
      exact ⟨by rw [← hbd2.out], d4.out, d8.out, dB.out⟩
  case rest =>
  obtain ⟨rfl, b4, b8, bB⟩ := hcut
  have b4 := Lib.hid b4
  have b8 := Lib.hid b8
  have bB := Lib.hid bB
  clear h4 h8 hB hW c0 c1 c2 c3 c4 c5
  cases BD with
  | true =>
    have hc : passB t = false ∧ chk t ≠ 0 := by simpa using hbd
    have hE := Lib.hid (show E = chk t from by rw [hdE.out, if_pos hc])
    have hE0 := Lib.hid (show E ≠ 0 from by rw [hE.out]; exact hc.2)
    clear hbd hc hdE hS hnb hpk
    obtain ⟨c0, c1, c2, c3, c4, c5⟩ := hcell.out wc b4.out
    go_upto_region 2 with (fail)
    refine wp_region_lit (l := [_, _, _, _, _]) ?_
    refine ls_ ?_
    refine ls_ ?_
    refine cl_ 23 #[t.v] ?_ Tryz.func18
    refine (hck.out _).mono ?_
    rintro e w2 ⟨rfl, hB2⟩
    have d8 := Lib.hid (b8.out.below hB2)
    have dB := Lib.hid (bB.out.trans (hB2.mono bB.out.size))
    clear hB2 c0 c1 c2 c3 c4 c5 b4 b8 bB
    refine ⟨_, rfl, ?_⟩
    refine nl_ (by simp only [Act.put, List.setIfInBounds_toArray, List.set_cons_zero, List.set_cons_succ]; rfl) ?_
    refine sW_ (vs := zcells) 8 21 d8.out inf22 one22z (fun W2 q1 q2 q3 => ?_)
    refine ls_ ?_
    refine wpList_nil ?_
    have hR := Lib.hid (And.intro q1 (q3 _ w (by omega) dB.out))
    clear q1 q2 q3
    go_wp2
    refine bodyPost_ret (back2_ hR.out.1 Tryz.results5 rfl Tryz.underlying38 rfl inf22) rfl ?_
    rw [hQ.out]
    exact ⟨fun h => absurd h hE0.out, fun _ => by rw [hE.out]; rfl, hR.out.2⟩
  | false =>
    have hc : ¬ (passB t = false ∧ chk t ≠ 0) := by
      rintro ⟨e1, e2⟩
      rw [e1] at hbd
      exact e2 (by simpa using hbd)
    have hE := Lib.hid (show E = if roomOk room = false then 1 else 0 from by rw [hdE.out, if_neg hc])
    cases hr : roomOk room with
    | false =>
      have hE1 := Lib.hid (show E = 1 from by rw [hE.out, hr]; rfl)
      clear hbd hc hdE hS hnb hpk hE
      have hrm : ¬ (1 ≤ room ∧ room ≤ 4096) := of_decide_eq_false hr
      by_cases h1 : room < 1
      · have t1 : decide (room < 1) = true := decide_eq_true h1
        clear h1 hrm hr
        go_upto_region 4 with (fail)
        refine wp_region_lit (l := [_, _, _]) ?_
        refine ls_ ?_
        refine sW_ (vs := zcells) 8 30 b8.out inf22 one22z (fun W2 q1 q2 q3 => ?_)
        refine ls_ ?_
        refine wpList_nil ?_
        have hR := Lib.hid (And.intro q1 (q3 _ w (by omega) bB.out))
        clear q1 q2 q3
        go_wp2
        refine bodyPost_ret (back2_ hR.out.1 Tryz.results5 rfl Tryz.underlying38 rfl inf22) rfl ?_
        rw [hQ.out]
        exact ⟨fun h => absurd (hE1.out.symm.trans h) (by decide), fun _ => by rw [hE1.out]; rfl, hR.out.2⟩
      · have t1 : decide (room < 1) = false := decide_eq_false h1
        have t2 : decide (4096 < room) = true := decide_eq_true (by omega)
        clear h1 hrm hr
        go_upto_region 4 with (fail)
        refine wp_region_lit (l := [_, _, _]) ?_
        refine ls_ ?_
        refine sW_ (vs := zcells) 8 30 b8.out inf22 one22z (fun W2 q1 q2 q3 => ?_)
        refine ls_ ?_
        refine wpList_nil ?_
        have hR := Lib.hid (And.intro q1 (q3 _ w (by omega) bB.out))
        clear q1 q2 q3
        go_wp2
        refine bodyPost_ret (back2_ hR.out.1 Tryz.results5 rfl Tryz.underlying38 rfl inf22) rfl ?_
        rw [hQ.out]
        exact ⟨fun h => absurd (hE1.out.symm.trans h) (by decide), fun _ => by rw [hE1.out]; rfl, hR.out.2⟩
    | true =>
      have hE1 := Lib.hid (show E = 0 from by rw [hE.out, hr]; rfl)
      have hrm : 1 ≤ room ∧ room ≤ 4096 := of_decide_eq_true hr
      have t1 : decide (room < 1) = false := decide_eq_false (by omega)
      have t2 : decide (4096 < room) = false := decide_eq_false (by omega)
      have hck0 := Lib.hid (show t.kind = 2 → chk t = 0 from fun hk => by
        by_cases e : chk t = 0
        · exact e
        · exact absurd hk (hpk.out (by
            cases hp : passB t with
            | true => rfl
            | false => exact absurd ⟨hp, e⟩ hc)))
      clear hr hrm hbd hc hE hpk hdE
      go_wp2_with fail
      refine (Ref01.near_any _ _).mono ?_
      rintro e w2 ⟨rfl, rfl⟩
      rw [← hnr.out]
      dsimp only
      go_upto_region 6 with (fail)
      obtain ⟨c0, c1, c2, c3, c4, c5⟩ := hcell.out wc b4.out
      have hm0 := b8.out.lt
      refine wp_region_lit (l := [_, _, _, _, _, _, _, _]) ?_
      refine ls_ ?_
      refine ls_ ?_
      refine ls_ ?_
      refine ls_ ?_
      refine ls_ ?_
      refine ls_ ?_
      refine alS_ (fun V hV hVB => ?_)
      refine sS_ (s := new0 t seed room now) (A := none) (c := 0) 10 38 hV (fun W2 q1 q2 q3 => ?_)
      refine wpList_nil ?_
      have hm8 : w.heap.size + 1 < wc.heap.size := hm0
      have d2 := Lib.hid q1
      have d4 := Lib.hid (show Blk W2 w.heap.size 23 (tcs t) from Eq.trans (q2 _ (by omega)) (b4.out.below hVB))
      have d8 := Lib.hid (show Blk W2 (w.heap.size + 1) 38 zcells from Eq.trans (q2 _ (by omega)) (b8.out.below hVB))
      have dB := Lib.hid (q3 _ w (by omega) (bB.out.trans (hVB.mono (by omega))))
      clear q1 q2 q3 c0 c1 c2 c3 c4 c5 b4 b8 bB hV hVB hm0
      generalize wc.heap.size = M at *
      obtain ⟨c0, c1, c2, c3, c4, c5⟩ := hcell.out W2 d4.out
      by_cases hk : t.kind = 2
      · have tk2 : (t.kind == 2) = true := by simpa using hk
        have hsN := Lib.hid (show sN = { new0 t seed room now with b0 := t.a, b1 := t.b, b2 := t.b, b3 := add now 0 } from by rw [hS.out, if_pos hk])
        have hnb2 := Lib.hid (hnb.out hk (hck0.out hk))
        rw [← hnr.out] at hnb2
        clear hk hS hnb hck0
        go_wp2_with fail
        refine (hnb2.out _).mono ?_
        rintro e w5 ⟨rfl, hB5⟩
        have g2 := Lib.hid (d2.out.below hB5)
        have g8 := Lib.hid (d8.out.below hB5)
        have gB := Lib.hid (dB.out.trans (hB5.mono dB.out.size))
        have hlt : M < w5.heap.size := g2.out.lt
        have f7 := g2.out.free 7
        have f8 := g2.out.free 8
        have f9 := g2.out.free 9
        have f10 := g2.out.free 10
        have d7 : w5.cell? ⟨M, 7, none⟩ = some (.int .i64 0) := (g2.out.cell 7).trans rfl
        have d8' : w5.cell? ⟨M, 8, none⟩ = some (.int .i64 0) := (g2.out.cell 8).trans rfl
        have d9 : w5.cell? ⟨M, 9, none⟩ = some (.int .i64 0) := (g2.out.cell 9).trans rfl
        have d10 : w5.cell? ⟨M, 10, none⟩ = some (.int .i64 0) := (g2.out.cell 10).trans rfl
        clear hB5 c0 c1 c2 c3 c4 c5 d2 d4 d8 dB hnb2
        dsimp only
        go_upto_region 10 with (fail)
        generalize hV : ((((w5.setCell ⟨M, 7, none⟩ (.int .i64 t.a)).setCell ⟨M, 8, none⟩ (.int .i64 t.b)).setCell ⟨M, 9, none⟩ (.int .i64 t.b)).setCell ⟨M, 10, none⟩ (.int .i64 (add now 0))).alloc (.cells #[.int .i64 t.a, .int .i64 t.b, .int .i64 t.b, .int .i64 (add now 0)] 33) = U
        obtain ⟨v2, vB, vH⟩ := fin4h g2.out gB.out (by omega) (rc_bucket _ none 0 t.a t.b t.b (add now 0)) hV
        have v8 := Lib.hid (show Blk U (w.heap.size + 1) _ _ from Eq.trans (vH _ (by omega) g8.out.lt) g8.out)
        have v2 := Lib.hid (show Blk U M 38 (rcells sN none 0) from by rw [hsN.out]; exact v2)
        have vB := Lib.hid vB
        clear hV vH d7 d8' d9 d10 f7 f8 f9 f10 g2 g8 gB hsN
        refine wp_region_lit (l := [_, _, _]) ?_
        refine lS_ 10 v2.out ?_
        refine sS_ 8 53 v8.out (fun W3 q1 q2 q3 => ?_)
        refine ls_ ?_
        refine wpList_nil ?_
        have hR := Lib.hid (And.intro q1 (q3 _ w (by omega) vB.out))
        clear q1 q2 q3
        go_wp2
        refine bodyPost_ret (back2_ hR.out.1 Tryz.results5 rfl Tryz.underlying38 rfl inf22) rfl ?_
        rw [hQ.out]
        exact ⟨fun _ => rfl, fun h => absurd hE1.out h, hR.out.2⟩
      · have tk2 : (t.kind == 2) = false := by simpa using hk
        have hsN := Lib.hid (show sN = new0 t seed room now from by rw [hS.out, if_neg hk])
        clear hk hS hnb hck0
        go_upto_region 10 with (fail)
        have v2 := Lib.hid (show Blk W2 M 38 (rcells sN none 0) from by rw [hsN.out]; exact d2.out)
        have v8 := Lib.hid d8.out
        have vB := Lib.hid dB.out
        refine wp_region_lit (l := [_, _, _]) ?_
        refine lS_ 10 v2.out ?_
        refine sS_ 8 53 v8.out (fun W3 q1 q2 q3 => ?_)
        refine ls_ ?_
        refine wpList_nil ?_
        have hR := Lib.hid (And.intro q1 (q3 _ w (by omega) vB.out))
        clear q1 q2 q3
        go_wp2
        refine bodyPost_ret (back2_ hR.out.1 Tryz.results5 rfl Tryz.underlying38 rfl inf22) rfl ?_
        rw [hQ.out]
        exact ⟨fun _ => rfl, fun h => absurd hE1.out h, hR.out.2⟩
end Go.Proofs.YtehpliclknfmoaaGreat.RefT
