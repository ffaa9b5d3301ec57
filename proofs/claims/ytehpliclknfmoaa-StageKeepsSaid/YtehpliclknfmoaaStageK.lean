/- A stage that may be (chapter 10): what each call keeps; plain. Conditions: none. -/
import Derived.Test.YtehpliclknfmoaaStageJ
import Derived.Test.YtehpliclknfmoaaCargoQ
namespace Go.Proofs.Ytehpliclknfmoaa.Stage
open Go.RowKit Mem Tick Cargo Toxic
set_option linter.unusedVariables false
set_option linter.unusedSimpArgs false
structure Ok (s : Sg) : Prop where
  good : Cargo.Good s.c
  tox : passB s.t = true ∨ chk s.t = 0
  r0 : 1 ≤ s.room
  r1 : s.room ≤ 4096
  k0 : 0 ≤ s.clock
  k1 : s.clock ≤ 1099511627776
  bk : s.t.kind = 2 → Bucket.okB s.b0 s.b1 s.b2 s.b3 = true
  p0 : 0 ≤ s.passed
theorem chk_parts {t : Tox} (h : chk t = 0) : nameB t.name = true ∧ kindB t.kind = true ∧ oftenB t.often = true ∧ numB t.kind t.a t.b = true := by
  unfold chk at h
  split at h
  · omega
  split at h
  · omega
  split at h
  · omega
  rename_i h1 h2 h3
  simp only [Bool.and_eq_false_iff, not_or, Bool.not_eq_false] at h1 h2 h3
  exact ⟨h1, h2, h3.1, h3.2⟩
theorem num_parts {k a b : Int} (h : numB k a b = true) : 0 ≤ a ∧ a ≤ 1099511627776 ∧ 0 ≤ b ∧ b ≤ 1099511627776 ∧ (k = 1 → b ≤ a) ∧ (k = 2 → 1 ≤ b ∧ b ≤ 4096) ∧ (k = 3 → 1 ≤ a ∧ a ≤ 4096) ∧ (k = 4 ∨ k = 5 → 0 < a) := by
  unfold numB rightB at h
  simp only [Bool.and_eq_true, decide_eq_true_eq] at h
  obtain ⟨⟨⟨ha, hb⟩, -⟩, hr⟩ := h
  refine ⟨ha.1, ha.2, hb.1, hb.2, fun e => ?_, fun e => ?_, fun e => ?_, fun e => ?_⟩
  · subst e; unfold ruleB at hr; rw [if_pos rfl] at hr; exact of_decide_eq_true hr
  · subst e; unfold ruleB at hr; rw [if_neg (by decide), if_pos rfl] at hr; exact of_decide_eq_true hr
  · subst e; unfold ruleB at hr; rw [if_neg (by decide), if_neg (by decide), if_pos rfl] at hr; exact of_decide_eq_true hr
  · unfold ruleB at hr; rw [if_neg (by omega), if_neg (by omega), if_neg (by omega), if_pos e] at hr; exact of_decide_eq_true hr
theorem tox_parts {t : Tox} (h : passB t = true ∨ chk t = 0) : 0 ≤ t.kind ∧ t.kind ≤ 7 ∧ 0 ≤ t.a ∧ t.a ≤ 1099511627776 ∧ 0 ≤ t.b ∧ t.b ≤ 1099511627776 ∧ (t.kind = 1 → t.b ≤ t.a) ∧ (t.kind = 2 → 1 ≤ t.b ∧ t.b ≤ 4096) ∧ (t.kind = 3 → 1 ≤ t.a ∧ t.a ≤ 4096) ∧ (t.kind = 4 ∨ t.kind = 5 → 0 < t.a) := by
  rcases h with h | h
  · rw [pass_kind h]
    unfold noTox
    exact ⟨by decide, by decide, by decide, by decide, by decide, by decide, (fun _ => by decide), (fun h => by cases h), (fun h => by cases h), (fun h => by rcases h with h | h <;> cases h)⟩
  · obtain ⟨-, hk, -, hn⟩ := chk_parts h
    unfold kindB at hk
    simp only [Bool.and_eq_true, decide_eq_true_eq] at hk
    obtain ⟨h1, h2, h3, h4, h5⟩ := num_parts hn
    exact ⟨by omega, hk.2, h1, h2, h3, h4, h5⟩
theorem Ok.fit {s : Sg} (h : Ok s) (hp : s.passed ≤ 1000000000) : Fit s := by
  obtain ⟨h1, h2, h3, h4, h5, h6, h7, h8, h9, h10⟩ := tox_parts h.tox
  exact ⟨h1, h2, h3, h4, h5, h6, h9, h.p0, hp⟩
theorem Ok.now {s : Sg} (h : Ok s) (n : Int) : Ok (nowP s n) := by
  have := nr_bd (nr n + nr 0)
  have hk0 := h.k0
  have hk1 := h.k1
  refine ⟨h.good, h.tox, h.r0, h.r1, ?_, ?_, h.bk, h.p0⟩
  · show 0 ≤ max s.clock (add n 0); unfold add; omega
  · show max s.clock (add n 0) ≤ 1099511627776; unfold add; omega
theorem Ok.look {s : Sg} (h : Ok s) (n : Int) : Ok (lookP s n) := by
  have h := h.now n
  exact ⟨h.good, h.tox, h.r0, h.r1, h.k0, h.k1, h.bk, h.p0⟩
theorem Ok.dice {s : Sg} (h : Ok s) : Ok (diceP s) := by
  unfold diceP
  split
  · exact ⟨h.good, h.tox, h.r0, h.r1, h.k0, h.k1, h.bk, h.p0⟩
  · exact h
theorem Ok.putIn {s : Sg} (h : Ok s) (t : Int) (x : ByteArray) : Ok (putIn s t x) := by
  have hg : Cargo.Good (stp s.c (0, t, 0, x)) := h.good.stp (0, t, 0, x)
  exact ⟨hg, h.tox, h.r0, h.r1, h.k0, h.k1, h.bk, h.p0⟩
theorem Ok.force {s : Sg} (h : Ok s) (n : Int) (x : ByteArray) : Ok (forceP s n x) := by
  unfold forceP
  split
  · exact h.look n
  · exact ((h.look n).dice).putIn _ _
theorem Ok.put {s : Sg} (h : Ok s) (n : Int) (x : ByteArray) : Ok (putS s n x) := by
  unfold putS
  split
  · exact h.look n
  · exact (h.look n).force n _
theorem Ok.close {s : Sg} (h : Ok s) (n : Int) : Ok (closeP s n) := by
  unfold closeP
  have h := h.now n
  split
  · exact h
  · exact ⟨h.good, h.tox, h.r0, h.r1, h.k0, h.k1, h.bk, h.p0⟩
theorem Ok.drain {s : Sg} (h : Ok s) : Ok (drainP s) :=
  ⟨h.good.stp (3, 0, 0, ⟨#[]⟩), h.tox, h.r0, h.r1, h.k0, h.k1, h.bk, h.p0⟩
theorem someS_ok {s : Sg} (n : Int) (hb : Bucket.okB s.b0 s.b1 s.b2 s.b3 = true) : Bucket.okB (someS s n).b0 (someS s n).b1 (someS s n).b2 (someS s n).b3 = true := by
  have h1 := Bucket.fill_ok (now := s.clock) hb
  have h2 := Bucket.takeK_bd (now := s.clock) (n := n) hb
  have h3 := Bucket.fillL_bd (now := s.clock) hb
  show Bucket.okB s.b0 s.b1 (Bucket.takeL s.b0 s.b1 s.b2 s.b3 s.clock n) (Bucket.takeT s.b0 s.b1 s.b2 s.b3 s.clock n) = true
  rw [show Bucket.takeL s.b0 s.b1 s.b2 s.b3 s.clock n = Bucket.fillL s.b0 s.b1 s.b2 s.b3 s.clock - Bucket.takeK s.b0 s.b1 s.b2 s.b3 s.clock n from if_pos hb, show Bucket.takeT s.b0 s.b1 s.b2 s.b3 s.clock n = Bucket.fillT s.b0 s.b1 s.b2 s.b3 s.clock from if_pos hb]
  have h4 := of_decide_eq_true h1
  unfold Bucket.okB
  unfold Bucket.Ok at h4 ⊢
  exact decide_eq_true ⟨h4.1, h4.2.1, by omega, h4.2.2.2.1, h4.2.2.2.2.1, by omega⟩
theorem Ok.way {s : Sg} (h : Ok s) (n : Int) : Ok (wayS s n) := by
  unfold wayS
  split
  · rename_i h2
    exact ⟨h.good, h.tox, h.r0, h.r1, h.k0, h.k1, fun _ => someS_ok n (h.bk h2), h.p0⟩
  · split
    · unfold sliceS
      split
      · exact h
      · exact ⟨h.good, h.tox, h.r0, h.r1, h.k0, h.k1, h.bk, h.p0⟩
    · exact h
theorem Ok.takeOut {s : Sg} (h : Ok s) (m : Int) : Ok (takeOut s m) := by
  have hw := h.way m
  have hg : Cargo.Good (stp (wayS s m).c (1, s.clock, wayN s m, ⟨#[]⟩)) := hw.good.stp _
  have hp := (wayS_c s m).2.2.1
  have hp0 := h.p0
  exact ⟨hg, hw.tox, hw.r0, hw.r1, hw.k0, hw.k1, hw.bk, by show 0 ≤ s.passed + _; omega⟩
theorem Ok.take {s : Sg} (h : Ok s) (n most : Int) : Ok (takeS s n most) := by
  unfold takeS
  split
  · exact h.look n
  · exact (h.look n).takeOut _
theorem Ok.upd {s : Sg} (h : Ok s) (t : Tox) (n : Int) : Ok (updS s t n) := by
  unfold updS
  split
  · exact h
  rename_i hc
  have hcl := (h.look n)
  have hc0 : chk t = 0 := by
    by_cases e : chk t = 0
    · exact e
    · exact absurd (.inr (.inr e)) hc
  split
  · rename_i h2
    refine ⟨hcl.good, .inr hc0, hcl.r0, hcl.r1, hcl.k0, hcl.k1, fun _ => ?_, hcl.p0⟩
    have hk : s.t.kind = 2 := by
      by_cases e : t.kind = s.t.kind
      · omega
      · exact absurd (.inl e) hc
    have hb := h.bk hk
    have h1 := of_decide_eq_true (Bucket.fill_ok (now := (lookP s n).clock) hb)
    have h3 := of_decide_eq_true (fit_bucketT hc0 h2 0 (by decide) (by decide))
    have hm : min (Bucket.fillL s.b0 s.b1 s.b2 s.b3 (lookP s n).clock) t.b = Bucket.fillL s.b0 s.b1 s.b2 s.b3 (lookP s n).clock ∨ min (Bucket.fillL s.b0 s.b1 s.b2 s.b3 (lookP s n).clock) t.b = t.b := by omega
    unfold Bucket.Ok at h1 h3
    unfold Bucket.okB Bucket.Ok
    refine decide_eq_true ⟨h3.1, h3.2.1, ?_, h1.2.2.2.1, h3.2.2.2.2.1, ?_⟩
    · have := h1.2.2.1
      have := h3.2.1
      show 0 ≤ min _ t.b ∧ min _ t.b ≤ 1099511627776
      omega
    · show min _ t.b ≤ t.b
      omega
  · rename_i h2
    exact ⟨hcl.good, .inr hc0, hcl.r0, hcl.r1, hcl.k0, hcl.k1, fun e => absurd e h2, hcl.p0⟩
theorem newE_parts {t : Tox} {room : Int} (h : newE t room = 0) : (passB t = true ∨ chk t = 0) ∧ 1 ≤ room ∧ room ≤ 4096 := by
  unfold newE at h
  split at h
  · rename_i hc; exact absurd h hc.2
  · rename_i hc
    split at h
    · omega
    · rename_i hr
      unfold roomOk at hr
      simp only [decide_eq_false_iff_not, Decidable.not_not] at hr
      refine ⟨?_, hr⟩
      cases hp : passB t with
      | true => exact .inl rfl
      | false =>
        by_cases e : chk t = 0
        · exact .inr e
        · exact absurd ⟨hp, e⟩ hc
theorem Ok.new {t : Tox} {seed room now : Int} (h : newE t room = 0) : Ok (newS t seed room now) := by
  obtain ⟨ht, h1, h2⟩ := newE_parts h
  have hn := nr_bd (nr now + nr 0)
  have hg : Cargo.Good (([], 0) : St) := Cargo.Good.nil 0
  unfold newS
  split
  · rename_i hk
    have hc : chk t = 0 := by
      rcases ht with hp | hc
      · rw [pass_kind hp] at hk; cases hk
      · exact hc
    exact ⟨hg, ht, h1, h2, hn.1, hn.2, fun _ => fit_bucket hc hk now, Int.le_refl 0⟩
  · rename_i hk
    exact ⟨hg, ht, h1, h2, hn.1, hn.2, fun e => absurd e hk, Int.le_refl 0⟩
/-! how many bytes -/
theorem tot_add (ps : List Pc) (t : Int) (x : ByteArray) : tot (addP ps t x) = tot ps + x.size := by
  rw [← cat_size, cat_add, ByteArray.size_append, cat_size]
theorem held_look (s : Sg) (n : Int) : held (lookP s n) = held s := rfl
theorem dice_c (s : Sg) : (diceP s).c = s.c := by unfold diceP; split <;> rfl
theorem cat_force (s : Sg) (n : Int) (x : ByteArray) : cat (forceP s n x).c.1 = if (lookP s n).state ≠ 0 then cat s.c.1 else cat s.c.1 ++ x := by
  unfold forceP
  by_cases h : (lookP s n).state ≠ 0
  · rw [if_pos (.inl h), if_pos h]; rfl
  · rw [if_neg h]
    by_cases hx : x.size = 0
    · rw [if_pos (.inr hx)]
      have : x = ⟨#[]⟩ := empty_of (by omega)
      rw [this, app_nil]; rfl
    · rw [if_neg (by rintro (e | e); exact h e; exact hx e)]
      show cat (addP (diceP (lookP s n)).c.1 _ x) = _
      rw [cat_add, dice_c]; rfl
theorem held_cat (s : Sg) : held s = (cat s.c.1).size := by unfold held; rw [cat_size]
theorem held_force (s : Sg) (n : Int) (x : ByteArray) : held (forceP s n x) ≤ held s + x.size := by
  rw [held_cat, held_cat, cat_force]
  split
  · omega
  · rw [ByteArray.size_append]; omega
theorem ext_size (x : ByteArray) (n : Nat) (h : n ≤ x.size) : (x.extract 0 n).size = n := by simp [ByteArray.size_extract]; omega
theorem held_put (s : Sg) (n : Int) (x : ByteArray) : held (putS s n x) ≤ held s + x.size := by
  unfold putS
  split
  · rw [held_look]; omega
  · have := held_force (lookP s n) n (x.extract 0 (roomFor (lookP s n) x))
    rw [ext_size _ _ (room_le _ _), held_look] at this
    have := room_le (lookP s n) x
    omega
theorem held_take (s : Sg) (n most : Int) : (takeB s n most).size + held (takeS s n most) = held s := by
  unfold takeB takeS
  by_cases h : (lookP s n).state ≠ 0 ∨ most < 1
  · rw [if_pos h, if_pos h, held_look]; rw [show (ByteArray.size ⟨#[]⟩) = 0 from rfl]; omega
  · rw [if_neg h, if_neg h]
    have := tot_takeP (outN (lookP s n) (readyN (lookP s n) most)) (wayS (lookP s n) (readyN (lookP s n) most)).c.1
    rw [(wayS_c _ _).1] at this
    show (takeP (outN (lookP s n) (readyN (lookP s n) most)) (wayS (lookP s n) (readyN (lookP s n) most)).c.1).1.size + tot (takeP (outN (lookP s n) (readyN (lookP s n) most)) (wayS (lookP s n) (readyN (lookP s n) most)).c.1).2 = _
    rw [(wayS_c _ _).1]
    exact this
theorem passed_take (s : Sg) (n most : Int) : (takeS s n most).passed = s.passed + (takeB s n most).size := by
  unfold takeB takeS
  by_cases h : (lookP s n).state ≠ 0 ∨ most < 1
  · rw [if_pos h, if_pos h]; show s.passed = s.passed + ((0 : Nat) : Int); omega
  · rw [if_neg h, if_neg h]; rfl
end Go.Proofs.Ytehpliclknfmoaa.Stage
