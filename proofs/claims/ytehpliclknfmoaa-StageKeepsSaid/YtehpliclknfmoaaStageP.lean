/- The law StageKeeps (chapter 10). Conditions: each text is shorter than 2^47 bytes. -/
import Derived.Test.YtehpliclknfmoaaStageO
namespace Go.Proofs.Ytehpliclknfmoaa.Stage
open Go.RowKit Mem Tick Cargo Toxic
set_option maxRecDepth 100000
set_option linter.unusedVariables false
set_option linter.unusedSimpArgs false
theorem lookS_zero {s : Sg} (h : lookS s = 0) : s.state = 0 := by
  unfold lookS at h
  by_cases e : s.state = 0
  · exact e
  · rw [if_pos e] at h; exact h
theorem look_idem (s : Sg) (n : Int) : lookP (lookP s n) n = lookP s n := by
  have h1 : nowP (lookP s n) n = lookP s n := by
    show ({ lookP s n with clock := max (max s.clock (add n 0)) (add n 0) } : Sg) = lookP s n
    rw [show max (max s.clock (add n 0)) (add n 0) = max s.clock (add n 0) by omega]
    rfl
  have h2 : lookS (lookP s n) = lookS (nowP s n) := by
    by_cases e : lookS (nowP s n) = 0
    · have hz := lookS_zero e
      have : lookP s n = nowP s n := by
        show ({ nowP s n with state := lookS (nowP s n) } : Sg) = nowP s n
        rw [e, ← hz]
      rw [this]
    · unfold lookS
      rw [if_pos (show (lookP s n).state ≠ 0 from e)]
      rfl
  show ({ nowP (lookP s n) n with state := lookS (nowP (lookP s n) n) } : Sg) = lookP s n
  rw [h1, h2]
  rfl
/-- what a call brings in. -/
def inP (s : Sg) (o : Op) : ByteArray := if o.kind = 0 then o.s.extract 0 (putN s o.now o.s) else if o.kind = 1 ∧ s.state = 0 then o.s else ⟨#[]⟩
theorem cat_put (s : Sg) (n : Int) (x : ByteArray) : cat (putS s n x).c.1 = cat s.c.1 ++ x.extract 0 (putN s n x) := by
  unfold putS putN
  by_cases h : (lookP s n).state ≠ 0 ∨ (lookP s n).closed = true
  · rw [if_pos h, if_pos h]
    have : x.extract 0 0 = ⟨#[]⟩ := by apply empty_of; simp [ByteArray.size_extract]
    rw [this, app_nil]; rfl
  · rw [if_neg h, if_neg h, cat_force, look_idem, if_neg (fun e => h (.inl e))]
    rfl
theorem cat_take_ (s : Sg) (n most : Int) : takeB s n most ++ cat (takeS s n most).c.1 = cat s.c.1 := by
  unfold takeB takeS
  by_cases h : (lookP s n).state ≠ 0 ∨ most < 1
  · rw [if_pos h, if_pos h, nil_app]; rfl
  · rw [if_neg h, if_neg h]
    have := cat_takeP (outN (lookP s n) (readyN (lookP s n) most)) (wayS (lookP s n) (readyN (lookP s n) most)).c.1
    show (takeP (outN (lookP s n) (readyN (lookP s n) most)) (wayS (lookP s n) (readyN (lookP s n) most)).c.1).1 ++ cat (takeP (outN (lookP s n) (readyN (lookP s n) most)) (wayS (lookP s n) (readyN (lookP s n) most)).c.1).2 = _
    rw [this, (wayS_c _ _).1]
    rfl
theorem upd_c (s : Sg) (t : Tox) (n : Int) : (updS s t n).c = s.c ∧ (updS s t n).passed = s.passed := by
  unfold updS
  split
  · exact ⟨rfl, rfl⟩
  split <;> exact ⟨rfl, rfl⟩
theorem keeps_step (s : Sg) (o : Op) (hs : lookP s o.now = s) : (doesA s o).2.1 ++ cat (doesS s o).c.1 = cat s.c.1 ++ inP s o := by
  unfold doesA doesS inP
  by_cases h0 : o.kind = 0
  · rw [if_pos h0, if_pos h0, if_pos h0, cat_put, nil_app]
  rw [if_neg h0, if_neg h0, if_neg h0]
  by_cases h1 : o.kind = 1
  · rw [if_pos h1, if_pos h1, cat_force, nil_app, hs]
    by_cases hz : s.state = 0
    · rw [if_neg (fun e => e hz), if_pos ⟨h1, hz⟩]
    · rw [if_pos hz, if_neg (fun e => hz e.2), app_nil]
  rw [if_neg h1, if_neg h1, if_neg (show ¬(o.kind = 1 ∧ s.state = 0) from fun e => h1 e.1), app_nil]
  by_cases h2 : o.kind = 2
  · rw [if_pos h2, if_pos h2, cat_take_]
  rw [if_neg h2, if_neg h2]
  by_cases h3 : o.kind = 3
  · rw [if_pos h3, if_pos h3, nil_app]
    unfold closeP; split <;> rfl
  rw [if_neg h3, if_neg h3]
  by_cases h4 : o.kind = 4
  · rw [if_pos h4, if_pos h4, nil_app]; rfl
  rw [if_neg h4, if_neg h4]
  by_cases h5 : o.kind = 5
  · rw [if_pos h5, if_pos h5, nil_app, (upd_c s o.t o.now).1]
  rw [if_neg h5, if_neg h5]
  by_cases h6 : o.kind = 6
  · rw [if_pos h6, if_pos h6]; exact app_nil _
  rw [if_neg h6, if_neg h6, nil_app]
theorem passed_step (s : Sg) (o : Op) : (doesS s o).passed ≤ s.passed + (doesA s o).2.1.size := by
  unfold doesA doesS
  by_cases h0 : o.kind = 0
  · rw [if_pos h0, if_pos h0]
    have : (putS s o.now o.s).passed = s.passed := by
      unfold putS
      split
      · rfl
      · unfold forceP
        split
        · rfl
        · unfold putIn diceP; split <;> rfl
    rw [this]; omega
  rw [if_neg h0, if_neg h0]
  by_cases h1 : o.kind = 1
  · rw [if_pos h1, if_pos h1]
    have : (forceP s o.now o.s).passed = s.passed := by
      unfold forceP
      split
      · rfl
      · unfold putIn diceP; split <;> rfl
    rw [this]; omega
  rw [if_neg h1, if_neg h1]
  by_cases h2 : o.kind = 2
  · rw [if_pos h2, if_pos h2, passed_take]; exact Int.le_refl _
  rw [if_neg h2, if_neg h2]
  by_cases h3 : o.kind = 3
  · rw [if_pos h3, if_pos h3]
    have : (closeP s o.now).passed = s.passed := by unfold closeP; split <;> rfl
    rw [this]; omega
  rw [if_neg h3, if_neg h3]
  by_cases h4 : o.kind = 4
  · rw [if_pos h4, if_pos h4]; show s.passed ≤ _; omega
  rw [if_neg h4, if_neg h4]
  by_cases h5 : o.kind = 5
  · rw [if_pos h5, if_pos h5, (upd_c s o.t o.now).2]; omega
  rw [if_neg h5, if_neg h5]
  by_cases h6 : o.kind = 6
  · rw [if_pos h6, if_pos h6]; show s.passed ≤ _; omega
  rw [if_neg h6, if_neg h6]; omega
theorem put_le (s : Sg) (n : Int) (x : ByteArray) : putN s n x ≤ x.size := by
  unfold putN
  split
  · omega
  · exact room_le _ _
theorem in_le (s : Sg) (o : Op) : (inP s o).size ≤ o.s.size := by
  unfold inP
  split
  · rw [ext_size _ _ (put_le _ _ _)]; exact put_le _ _ _
  split
  · omega
  · exact Nat.zero_le _
abbrev seatV (t : Tox) (seed room now : Int) : Value := .agg #[.string t.name, .int .i64 t.kind, .bool t.up, .int .i64 t.often, .int .i64 t.a, .int .i64 t.b, .int .u64 seed, .int .i64 room, .int .i64 now]
theorem keeps_none (tn : ByteArray) (tk : Int) (tu : Bool) (tf ta tb seed room now : Int) (v : Value) (l : List Op) (w : World) (hv : Script w v l) (he : newE ⟨tn, tk, tu, tf, ta, tb⟩ room ≠ 0) :
    Calls Try.prog 6 #[.agg #[.string tn, .int .i64 tk, .bool tu, .int .i64 tf, .int .i64 ta, .int .i64 tb, .int .u64 seed, .int .i64 room, .int .i64 now], v] w fun e w' => e = .returned (.bool true) ∧ Below w.heap.size w w' := by
  have hn := fun (wr : World) => live_none (wr := wr) ⟨tn, tk, tu, tf, ta, tb⟩ seed room now he
  have te : (newE ⟨tn, tk, tu, tf, ta, tb⟩ room != 0) = true := by simpa using he
  have hB0 := Lib.hid ((Below.refl w.heap.size w).alloc (Nat.le_refl _) (.cells #[.string tn, .int .i64 tk, .bool tu, .int .i64 tf, .int .i64 ta, .int .i64 tb, .int .u64 seed, .int .i64 room, .int .i64 now] 48))
  clear hv he
  generalize newE ⟨tn, tk, tu, tf, ta, tb⟩ room = E at *
  go_enter Try.func6, Try.ntmps6
  go_wp2_with fail
  refine (hn _).mono ?_
  rintro e w1 ⟨rfl, hB⟩
  have hB1 := Lib.hid (bw_below hB0.out hB)
  clear hn hB
  go_wp2_with (go_at_call 9; (with_reducible refine (alive_any _).mono ?_); rintro e w2 ⟨rfl, hB2⟩; have hB2' := Lib.hid hB2; clear hB2)
  go_ret
  exact ⟨rfl, bw_below hB1.out hB2'.out⟩
theorem keeps_long (tn : ByteArray) (tk : Int) (tu : Bool) (tf ta tb seed room now : Int) (v : Value) (l : List Op) (w : World) (hv : Script w v l) (he : newE ⟨tn, tk, tu, tf, ta, tb⟩ room = 0) (hf : fewB l = false) :
    Calls Try.prog 6 #[.agg #[.string tn, .int .i64 tk, .bool tu, .int .i64 tf, .int .i64 ta, .int .i64 tb, .int .u64 seed, .int .i64 room, .int .i64 now], v] w fun e w' => e = .returned (.bool true) ∧ Below w.heap.size w w' := by
  have hn := fun (wr : World) hB => live_new (w := w) (wr := wr) ⟨tn, tk, tu, tf, ta, tb⟩ seed room now he hB
  have hB0 := Lib.hid ((Below.refl w.heap.size w).alloc (Nat.le_refl _) (.cells #[.string tn, .int .i64 tk, .bool tu, .int .i64 tf, .int .i64 ta, .int .i64 tb, .int .u64 seed, .int .i64 room, .int .i64 now] 48))
  have hv' := Lib.hid hv
  have hf' := Lib.hid hf
  clear he hv hf
  go_enter Try.func6, Try.ntmps6
  go_wp2_with fail
  refine (hn _ hB0.out).mono ?_
  rintro e w1 ⟨b, k, rfl, hL, hB⟩
  have hB1 := Lib.hid hL.old
  clear hn hB hL
  go_wp2_with fail
  refine (few_any v l _ (hv'.out.below hB1.out)).mono ?_
  rintro e w2 ⟨rfl, hB⟩
  rw [hf'.out]
  have hB2 := Lib.hid (bw_below hB1.out hB)
  clear hB
  go_wp2_with (go_at_call 9; (with_reducible refine (alive_any _).mono ?_); rintro e w2 ⟨rfl, hB2⟩; have hB2' := Lib.hid hB2; clear hB2)
  go_ret
  exact ⟨rfl, bw_below hB2.out hB2'.out⟩
def KeepR (w : World) (b k : Nat) (i o : ByteArray) (n : Nat) (wr : World) (s : Sg) : Prop :=
  LiveS w wr b k s ∧ o ++ cat s.c.1 = i ∧ i.size ≤ n ∧ s.passed ≤ o.size
theorem keep_next {s s1 : Sg} {p : Op} {i o : ByteArray} (h1 : lookP s p.now = s1) (hio : o ++ cat s.c.1 = i) (hp : s.passed ≤ o.size) :
    (o ++ (doesA s1 p).2.1) ++ cat (doesS s1 p).c.1 = i ++ inP s1 p ∧ (doesS s1 p).passed ≤ (o ++ (doesA s1 p).2.1).size := by
  subst h1
  have h2 := keeps_step (lookP s p.now) p (look_idem s p.now)
  have h3 := passed_step (lookP s p.now) p
  constructor
  · rw [ByteArray.append_assoc, h2, ← ByteArray.append_assoc]
    show o ++ cat s.c.1 ++ _ = _
    rw [hio]
  · rw [ByteArray.size_append]
    have : (lookP s p.now).passed = s.passed := rfl
    omega
theorem keeps_yes (tn : ByteArray) (tk : Int) (tu : Bool) (tf ta tb seed room now : Int) (v : Value) (l : List Op) (w : World) (hv : Script w v l) (he : newE ⟨tn, tk, tu, tf, ta, tb⟩ room = 0) (hf : fewB l = true) :
    Calls Try.prog 6 #[.agg #[.string tn, .int .i64 tk, .bool tu, .int .i64 tf, .int .i64 ta, .int .i64 tb, .int .u64 seed, .int .i64 room, .int .i64 now], v] w fun e w' => e = .returned (.bool true) ∧ Below w.heap.size w w' := by
  have hn := fun (wr : World) hB => live_new (w := w) (wr := wr) ⟨tn, tk, tu, tf, ta, tb⟩ seed room now he hB
  have hB0 := Lib.hid ((Below.refl w.heap.size w).alloc (Nat.le_refl _) (.cells #[.string tn, .int .i64 tk, .bool tu, .int .i64 tf, .int .i64 ta, .int .i64 tb, .int .u64 seed, .int .i64 room, .int .i64 now] 48))
  have hv' := Lib.hid hv
  have hf' := Lib.hid hf
  have hn5 : bytesOf l ≤ 2000 := by simp [fewB] at hf; exact hf.2
  have hl2 : l.length ≤ 60 := by simp [fewB] at hf; exact hf.1
  obtain ⟨a, cap, rfl, hmx, -, hA⟩ := hv
  have hs0 := Lib.hid (show (newS ⟨tn, tk, tu, tf, ta, tb⟩ seed room now).c = ([], 0) ∧ (newS ⟨tn, tk, tu, tf, ta, tb⟩ seed room now).passed = 0 by unfold newS; split <;> exact ⟨rfl, rfl⟩)
  clear he hf
  generalize newS ⟨tn, tk, tu, tf, ta, tb⟩ seed room now = s0 at *
  go_enter Try.func6, Try.ntmps6
  go_wp2_with fail
  refine (hn _ hB0.out).mono ?_
  rintro e w1 ⟨b, kk, rfl, hL, hB⟩
  have H1 := Lib.hid hL
  clear hn hB hL hB0
  go_wp2_with fail
  refine (few_any _ l _ (hv'.out.below H1.out.old)).mono ?_
  rintro e w2 ⟨rfl, hB⟩
  rw [hf'.out]
  have H2 := Lib.hid (H1.out.below hB)
  clear hB H1
  go_wp2
  go_loopw [7, 8, 39] (fun nv ov iv wr => ∃ (k : Nat) (s : Sg) (i o : ByteArray), k ≤ l.length ∧ iv = .int .i64 k ∧ nv = .string i ∧ ov = .string o ∧ KeepR w b kk i o (bytesOf (l.take k)) wr s) (fun _ _ iv _ => l.length - (intOf iv).toNat)
  case atStart => exact ⟨0, s0, ⟨#[]⟩, ⟨#[]⟩, by omega, rfl, rfl, rfl, H2.out, by rw [hs0.out.1]; exact nil_app _, Nat.zero_le _, by rw [hs0.out.2]; decide⟩
  case round =>
    obtain ⟨k, s, i, o, hk, rfl, rfl, rfl, hL, hio, hin, hps⟩ := hrel
    clear H2
    have hble0 := bytesOf_le l k
    have hsz := congrArg ByteArray.size hio
    rw [ByteArray.size_append, ← held_cat] at hsz
    by_cases hlt : k < l.length
    · obtain ⟨g, oo, rfl, hc⟩ := hA (by intro h; subst h; simp at hlt)
      have hx : l[k]? = some l[k] := List.getElem?_eq_getElem hlt
      obtain ⟨d0, d1, d2, d3, d4, d5, d6, d7, d8, d9⟩ := hc k _ hx
      have hbt := bytesOf_take l k _ hx
      have hble := bytesOf_le l (k + 1)
      rw [hbt] at hble
      have hbt' := Lib.hid hbt
      clear hbt
      unfold opBytes at hble hbt'
      generalize l[k] = p at *
      obtain ⟨p0, p1, p2, p3, ⟨t0, t1, t2, t3, t4, t5⟩⟩ := p
      dsimp only at *
      have hold := hL.old
      have d0' := bcells hold d0
      have d1' := bcells hold d1
      have d2' := bcells hold d2
      have d3' := bcells hold d3
      have d4' := bcells hold d4
      have d5' := bcells hold d5
      have d6' := bcells hold d6
      have d7' := bcells hold d7
      have d8' := bcells hold d8
      have d9' := bcells hold d9
      have hL' := Lib.hid hL
      have hio' := Lib.hid hio
      have hH1 : held s ≤ 1000000000 := by omega
      have hP1 : s.passed ≤ 1000000000 := by omega
      have hH2 : held (lookP s p1) + p3.size ≤ 1000000000 := by rw [held_look]; omega
      have hP2 : (lookP s p1).passed ≤ 1000000000 := hP1
      have hszw : w.heap.size ≤ wr.heap.size := hold.size
      have hps' := Lib.hid hps
      have hsz' := Lib.hid hsz
      have hin' := Lib.hid hin
      clear hc hx hA hio hold hps d0 d1 d2 d3 d4 d5 d6 d7 d8 d9
      go_wp2_with fail
      have hBx : Below wr.heap.size wr (wr.alloc (.cells #[.int .i64 p0, .int .i64 p1, .int .i64 p2, .string p3, .string t0, .int .i64 t1, .bool t2, .int .i64 t3, .int .i64 t4, .int .i64 t5] 52)) := (Below.refl _ _).alloc (Nat.le_refl _) _
      refine (live_state (hL'.out.below hBx) p1 hH1).mono ?_
      rintro e w2 ⟨rfl, hL2, hK2⟩
      have HX2 := Lib.hid (hK2 _ _ _ (Blk.new wr 52 #[.int .i64 p0, .int .i64 p1, .int .i64 p2, .string p3, .string t0, .int .i64 t1, .bool t2, .int .i64 t3, .int .i64 t4, .int .i64 t5]) (by decide))
      have HL2 := Lib.hid hL2
      have hnx := Lib.hid (keep_next (s := s) (p := ⟨p0, p1, p2, p3, ⟨t0, t1, t2, t3, t4, t5⟩⟩) (i := i) (o := o) rfl hio'.out hps'.out)
      have hst := Lib.hid (show (doesA (lookP s p1) ⟨p0, p1, p2, p3, ⟨t0, t1, t2, t3, t4, t5⟩⟩).1 = (if p0 = 0 then ((putN (lookP s p1) p1 p3 : Nat) : Int) else (doesA (lookP s p1) ⟨p0, p1, p2, p3, ⟨t0, t1, t2, t3, t4, t5⟩⟩).1) by unfold doesA; dsimp only; split <;> rfl)
      have hinE := Lib.hid (show inP (lookP s p1) ⟨p0, p1, p2, p3, ⟨t0, t1, t2, t3, t4, t5⟩⟩ = if p0 = 0 then p3.extract 0 (putN (lookP s p1) p1 p3) else if p0 = 1 ∧ (lookP s p1).state = 0 then p3 else ⟨#[]⟩ from rfl)
      have hinL := Lib.hid (in_le (lookP s p1) ⟨p0, p1, p2, p3, ⟨t0, t1, t2, t3, t4, t5⟩⟩)
      have hpl := put_le (lookP s p1) p1 p3
      have q0 : w2.cell? ⟨wr.heap.size, 0, none⟩ = some (.int .i64 p0) := (HX2.out.cell 0).trans rfl
      have q1 : w2.cell? ⟨wr.heap.size, 1, none⟩ = some (.int .i64 p1) := (HX2.out.cell 1).trans rfl
      have q2 : w2.cell? ⟨wr.heap.size, 2, none⟩ = some (.int .i64 p2) := (HX2.out.cell 2).trans rfl
      have q3 : w2.cell? ⟨wr.heap.size, 3, none⟩ = some (.string p3) := (HX2.out.cell 3).trans rfl
      have q4 : w2.cell? ⟨wr.heap.size, 4, none⟩ = some (.string t0) := (HX2.out.cell 4).trans rfl
      have q5 : w2.cell? ⟨wr.heap.size, 5, none⟩ = some (.int .i64 t1) := (HX2.out.cell 5).trans rfl
      have q6 : w2.cell? ⟨wr.heap.size, 6, none⟩ = some (.bool t2) := (HX2.out.cell 6).trans rfl
      have q7 : w2.cell? ⟨wr.heap.size, 7, none⟩ = some (.int .i64 t3) := (HX2.out.cell 7).trans rfl
      have q8 : w2.cell? ⟨wr.heap.size, 8, none⟩ = some (.int .i64 t4) := (HX2.out.cell 8).trans rfl
      have q9 : w2.cell? ⟨wr.heap.size, 9, none⟩ = some (.int .i64 t5) := (HX2.out.cell 9).trans rfl
      clear hL2 hK2 hBx hL'
      dsimp only at hnx
      generalize lookP s p1 = s1 at *
      go_wp2_with fail
      refine (live_does HL2.out ⟨p0, p1, p2, p3, ⟨t0, t1, t2, t3, t4, t5⟩⟩ hP2 hH2).mono ?_
      rintro e w3 ⟨rfl, hL3, hK3⟩
      have HX3 := Lib.hid (hK3 _ _ _ HX2.out (by decide))
      have HL3 := Lib.hid hL3
      clear q0 q1 q2 q3 q4 q5 q6 q7 q8 q9 hL3 hK3 HX2 HL2
      have r0 : w3.cell? ⟨wr.heap.size, 0, none⟩ = some (.int .i64 p0) := (HX3.out.cell 0).trans rfl
      have r3 : w3.cell? ⟨wr.heap.size, 3, none⟩ = some (.string p3) := (HX3.out.cell 3).trans rfl
      generalize doesS s1 ⟨p0, p1, p2, p3, ⟨t0, t1, t2, t3, t4, t5⟩⟩ = s2 at *
      generalize doesA s1 ⟨p0, p1, p2, p3, ⟨t0, t1, t2, t3, t4, t5⟩⟩ = an at *
      generalize inP s1 ⟨p0, p1, p2, p3, ⟨t0, t1, t2, t3, t4, t5⟩⟩ = inx at *
      generalize putN s1 p1 p3 = N at *
      obtain ⟨a0, a1, a2⟩ := an
      dsimp only at *
      have hosz : o.size + a1.size ≤ 2000 := by
        have h1 := congrArg ByteArray.size hnx.out.1
        have h2 := hinL.out
        have h3 := hin'.out
        try dsimp only at h2
        rw [ByteArray.size_append, ByteArray.size_append, ByteArray.size_append] at h1
        omega
      have hisz : i.size + p3.size ≤ 2000 := by have h3 := hin'.out; omega
      have hwz : wr.heap.size < w3.heap.size := HX3.out.lt
      have hal := fun (cs : Array Value) => Lib.hid (HL3.out.below ((Below.refl w3.heap.size w3).alloc (Nat.le_refl _) (.cells cs 55)))
      by_cases h0 : p0 = 0
      · have e0 := hst.out
        have e1 := hinE.out
        rw [if_pos h0] at e0 e1
        subst e0
        have hd0 : (p0 == 0) = true := by simpa using h0
        have hd1 : (p0 == 1) = false := by simp [h0]
        have hnn : (0 : Int) ≤ (N : Int) := by omega
        have t1 : decide ((N : Int) < 0) = false := decide_eq_false (by omega)
        have t2 : decide (p3.size < N) = false := decide_eq_false (by omega)
        have hex : (p3.extract 0 N).size ≤ p3.size := by rw [ext_size _ _ hpl]; exact hpl
        have e1' := Lib.hid e1
        clear h0 e1
        go_wp2
        go_roundw
        case rel => exact ⟨k + 1, s2, i ++ p3.extract 0 N, o ++ a1, by omega, by go_num, rfl, rfl, (hal _).out, by have := hnx.out.1; rwa [e1'.out] at this, by rw [ByteArray.size_append, hbt'.out]; have h3 := hin'.out; omega, hnx.out.2⟩
        case measure => simp [intOf]; omega
      · have hd0 : (p0 == 0) = false := by simpa using h0
        by_cases h1 : p0 = 1
        · have hd1 : (p0 == 1) = true := by simpa using h1
          by_cases hz : s1.state = 0
          · have e1 := hinE.out
            rw [if_neg h0, if_pos ⟨h1, hz⟩] at e1
            have hz' : (s1.state == 0) = true := by simpa using hz
            have e1' := Lib.hid e1
            clear h0 h1 hz e1
            go_wp2
            go_roundw
            case rel => exact ⟨k + 1, s2, i ++ p3, o ++ a1, by omega, by go_num, rfl, rfl, (hal _).out, by have := hnx.out.1; rwa [e1'.out] at this, by rw [ByteArray.size_append, hbt'.out]; have h3 := hin'.out; omega, hnx.out.2⟩
            case measure => simp [intOf]; omega
          · have e1 := hinE.out
            rw [if_neg h0, if_neg (fun e => hz e.2)] at e1
            have hz' : (s1.state == 0) = false := by simpa using hz
            have e1' := Lib.hid e1
            clear h0 h1 hz e1
            go_wp2
            go_roundw
            case rel => exact ⟨k + 1, s2, i, o ++ a1, by omega, by go_num, rfl, rfl, (hal _).out, by have := hnx.out.1; rwa [e1'.out, app_nil] at this, by rw [hbt'.out]; have h3 := hin'.out; omega, hnx.out.2⟩
            case measure => simp [intOf]; omega
        · have hd1 : (p0 == 1) = false := by simpa using h1
          have e1 := hinE.out
          rw [if_neg h0, if_neg (fun e => h1 e.1)] at e1
          have e1' := Lib.hid e1
          clear h0 h1 e1
          go_wp2
          go_roundw
          case rel => exact ⟨k + 1, s2, i, o ++ a1, by omega, by go_num, rfl, rfl, (hal _).out, by have := hnx.out.1; rwa [e1'.out, app_nil] at this, by rw [hbt'.out]; have h3 := hin'.out; omega, hnx.out.2⟩
          case measure => simp [intOf]; omega
    · have hk2 : k = l.length := by omega
      subst hk2
      have hnl : ¬ (l.length < l.length) := by omega
      have hcm : ((o ++ cat s.c.1).toList == i.toList) = true := by rw [hio]; simp
      have hz1 : held s ≤ 1000000000 := by omega
      have hz2 : o.size + (cat s.c.1).size ≤ 9223372036854775807 := by rw [← held_cat]; omega
      have hL' := Lib.hid hL
      clear hL hio hin hsz hps hA
      go_wp2_with (first
        | (go_at_call 9; (with_reducible refine (alive_any _).mono ?_); rintro e w2 ⟨rfl, hB2⟩; have HL2 := Lib.hid (hL'.out.below hB2); have hcl := HL2.out.cell; clear hB2)
        | (go_at_call 19; (with_reducible refine (live_drain HL2.out hz1).mono ?_); rintro e w3 ⟨A3, c3, rfl, hS3, -, hL3, -⟩; have hcv := conv_bytes c3 hS3; have HL3 := Lib.hid hL3; clear hS3 hL3))
      go_ret
      exact ⟨by simp, HL3.out.old⟩
theorem keeps_any (t : Tox) (seed room now : Int) (v : Value) (l : List Op) (w : World) (hv : Script w v l) :
    Calls Try.prog 6 #[seatV t seed room now, v] w fun e w' => e = .returned (.bool true) ∧ Below w.heap.size w w' := by
  obtain ⟨tn, tk, tu, tf, ta, tb⟩ := t
  by_cases he : newE ⟨tn, tk, tu, tf, ta, tb⟩ room = 0
  · cases h : fewB l with
    | false => exact keeps_long tn tk tu tf ta tb seed room now v l w hv he h
    | true => exact keeps_yes tn tk tu tf ta tb seed room now v l w hv he h
  · exact keeps_none tn tk tu tf ta tb seed room now v l w hv he
theorem keeps_row (x : Tox × Int × Int × Int) (v0 v : Value) (l : List Op) (w : World) (h0 : v0 = .agg #[.string x.1.name, .int .i64 x.1.kind, .bool x.1.up, .int .i64 x.1.often, .int .i64 x.1.a, .int .i64 x.1.b, .int .u64 x.2.1, .int .i64 x.2.2.1, .int .i64 x.2.2.2]) (hv : Script w v l) :
    Calls Try.prog 6 #[v0, v] w fun e w' => e = .returned (.bool true) ∧ Below w.heap.size w w' := by
  subst h0
  exact keeps_any x.1 x.2.1 x.2.2.1 x.2.2.2 v l w hv
end Go.Proofs.Ytehpliclknfmoaa.Stage
