/- A stage's Take, Drain, New and Update (chapter 10). Conditions: the bytes are fewer than 2^30; the toxic is one that may be. -/
import Derived.Test.YtehpliclknfmoaaStageG
import Derived.Test.YtehpliclknfmoaaBucketC
namespace Go.Proofs.Ytehpliclknfmoaa.Stage
open Go.RowKit Mem Tick Cargo Toxic
open Go.Proofs.YtehpliclknfmoaaW.PrintLast Pu
open Go.Proofs.YtehpliclknfmoaaW.PrintWords (eqA_of eqf_cons eqf_last)
set_option maxRecDepth 100000
set_option linter.unusedVariables false
set_option linter.unusedSimpArgs false
variable {w w' : World} {F : Nat → Prop} {b k : Nat} {s : Sg}
theorem takeOutB_nil : BS w none ⟨#[]⟩ := fun h => absurd h (by decide)
theorem take_shut (h : SG w F b k s) (ht : held s ≤ 1000000000) (n most : Int) (hc : (lookP s n).state ≠ 0 ∨ most < 1) :
    Calls Try.prog 12 #[.pointer (some ⟨b, 0, none⟩), .int .i64 n, .int .i64 most] w fun e w' => e = .returned (.slice none 0 0) ∧ SG w' F b k (lookP s n) ∧ Did F w w' := by
  have HS0 := Lib.hid (state_any h (by omega) n)
  clear h ht
  go_enter Try.func12, Try.ntmps12
  go_wp2_with fail
  refine HS0.out.mono ?_
  rintro e w1 ⟨rfl, HS, HD⟩
  clear HS0
  have HS' := Lib.hid HS
  have HD' := Lib.hid HD
  clear HS HD
  by_cases hst : (lookP s n).state = 0
  · have hm : most < 1 := hc.resolve_left (fun h => h hst)
    have tm : decide (most < 1) = true := decide_eq_true hm
    rw [hst]
    clear hst hc hm
    go_wp2
    go_ret
    exact ⟨rfl, HS'.out, HD'.out⟩
  · have tn : ((lookP s n).state != 0) = true := by simpa using hst
    clear hst hc
    go_wp2
    go_ret
    exact ⟨rfl, HS'.out, HD'.out⟩
theorem take_any (h : SG w F b k s) (hg : Full s.c.1) (hf : Fit s) (ht : held s ≤ 1000000000) (n most : Int) :
    Calls Try.prog 12 #[.pointer (some ⟨b, 0, none⟩), .int .i64 n, .int .i64 most] w fun e w' => ∃ A cap, e = .returned (.slice A (takeB s n most).size cap) ∧ BS w' A (takeB s n most) ∧ SG w' F b k (takeS s n most) ∧ Did F w w' ∧ Newly w A := by
  unfold takeB takeS
  by_cases hc : (lookP s n).state ≠ 0 ∨ most < 1
  · rw [if_pos hc, if_pos hc]
    exact (take_shut h ht n most hc).mono fun e w' ⟨he, hs, hd⟩ => ⟨none, 0, he, takeOutB_nil, hs, hd, fun g o e => by cases e⟩
  · rw [if_neg hc, if_neg hc]
    refine take_open h hg hf ht n most ?_ ?_
    · by_cases h0 : (lookP s n).state = 0
      · exact h0
      · exact absurd (.inl h0) hc
    · by_cases h0 : most < 1
      · exact absurd (.inr h0) hc
      · omega
def drainP (s : Sg) : Sg := { s with c := ([], s.c.2) }
theorem drain_any (h : SG w F b k s) (ht : held s ≤ 1000000000) :
    Calls Try.prog 19 #[.pointer (some ⟨k, 0, none⟩)] w fun e w' => ∃ A cap, e = .returned (.slice A (cat s.c.1).size cap) ∧ BS w' A (cat s.c.1) ∧ Newly w A ∧ ∃ F', SG w' F' b k (drainP s) ∧ Did F w w' ∧ Stem F F' w := by
  obtain ⟨G, hB, hC, hF⟩ := h
  unfold held at ht
  have hG := hC.mine
  refine (Cargo.drain_far hC (by omega)).mono fun e w' ⟨A, cap, he, hs, hC', hd, hn⟩ => ⟨A, cap, he, hs, hn, (fun j => j = b ∨ j = k), ?_⟩
  exact SG.cargo (s' := drainP s) hB hC hF hC' hd (fun j hj => by subst hj; exact .inl hG) rfl
/-- are two toxics the same? -/
def sameT (x y : Tox) : Bool := x.name.toList == y.name.toList && (x.kind == y.kind && (x.up == y.up && (x.often == y.often && (x.a == y.a && x.b == y.b))))
def noTox : Tox := ⟨⟨#[]⟩, 0, false, 0, 0, 0⟩
def passB (x : Tox) : Bool := sameT x noTox
theorem eq_tox (d : Nat) (w : World) (s0 s1 : ByteArray) (k0 k1 : Int) (u0 u1 : Bool) (o0 o1 a0 a1 b0 b1 : Int) :
    (Op.equalIn (d + 2) 30 (.agg #[.string s0, .int .i64 k0, .bool u0, .int .i64 o0, .int .i64 a0, .int .i64 b0]) (.agg #[.string s1, .int .i64 k1, .bool u1, .int .i64 o1, .int .i64 a1, .int .i64 b1])).run Try.prog w =
      .ok (sameT ⟨s0, k0, u0, o0, a0, b0⟩ ⟨s1, k1, u1, o1, a1, b1⟩) w := by
  unfold sameT
  refine eqA_of Try.underlying30 (by kernel_rfl) ?_
  refine eqf_cons (by rfl) (by go_simp; rfl) (by go_simp; rfl) (by go_simp) ?_
  refine eqf_cons (by rfl) (by go_simp; rfl) (by go_simp; rfl) (by go_simp) ?_
  refine eqf_cons (by rfl) (by go_simp; rfl) (by go_simp; rfl) (by go_simp) ?_
  refine eqf_cons (by rfl) (by go_simp; rfl) (by go_simp; rfl) (by go_simp) ?_
  refine eqf_cons (by rfl) (by go_simp; rfl) (by go_simp; rfl) (by go_simp) ?_
  exact eqf_last (by rfl) (by go_simp; rfl) (by go_simp; rfl) (by go_simp)
theorem neq_tox (w : World) (s0 s1 : ByteArray) (k0 k1 : Int) (u0 u1 : Bool) (o0 o1 a0 a1 b0 b1 : Int) :
    (binOp .neq 30 (.agg #[.string s0, .int .i64 k0, .bool u0, .int .i64 o0, .int .i64 a0, .int .i64 b0]) (.agg #[.string s1, .int .i64 k1, .bool u1, .int .i64 o1, .int .i64 a1, .int .i64 b1])).run Try.prog w =
      .ok (.bool (!sameT ⟨s0, k0, u0, o0, a0, b0⟩ ⟨s1, k1, u1, o1, a1, b1⟩)) w := by
  rw [run_neq_struct, eq_tox 9998]
  rfl
theorem eql_tox (w : World) (s0 s1 : ByteArray) (k0 k1 : Int) (u0 u1 : Bool) (o0 o1 a0 a1 b0 b1 : Int) :
    (binOp .eql 30 (.agg #[.string s0, .int .i64 k0, .bool u0, .int .i64 o0, .int .i64 a0, .int .i64 b0]) (.agg #[.string s1, .int .i64 k1, .bool u1, .int .i64 o1, .int .i64 a1, .int .i64 b1])).run Try.prog w =
      .ok (.bool (sameT ⟨s0, k0, u0, o0, a0, b0⟩ ⟨s1, k1, u1, o1, a1, b1⟩)) w := by
  rw [run_eql_struct, eq_tox 9998]
  rfl
theorem eqguard_tox : Try.prog.eqGuardType Try.prog.depth 30 = false := by kernel_rfl
def roomOk (r : Int) : Bool := decide (1 ≤ r ∧ r ≤ 4096)
/-- why a stage may not be; 0: it may. -/
def newE (t : Tox) (room : Int) : Int := if passB t = false ∧ chk t ≠ 0 then chk t else if roomOk room = false then 1 else 0
def new0 (t : Tox) (seed room now : Int) : Sg := ⟨t, seed, 0, 0, 0, 0, ([], 0), room, add now 0, add now 0, 0, 0, false, 0, 0⟩
def newS (t : Tox) (seed room now : Int) : Sg := if t.kind = 2 then { new0 t seed room now with b0 := t.a, b1 := t.b, b2 := t.b, b3 := add now 0 } else new0 t seed room now
theorem bw_below {a w w1 : World} (h : Below a.heap.size a w) (hb : Below w.heap.size w w1) : Below a.heap.size a w1 := h.trans (hb.mono h.size)
theorem new_bad (s : ByteArray) (kd : Int) (u : Bool) (o a b' seed room now : Int) (w : World) (hp : passB ⟨s, kd, u, o, a, b'⟩ = false) (hc : chk ⟨s, kd, u, o, a, b'⟩ ≠ 0) :
    Calls Try.prog 8 #[.agg #[.string s, .int .i64 kd, .bool u, .int .i64 o, .int .i64 a, .int .i64 b'], .int .u64 seed, .int .i64 room, .int .i64 now] w fun e w' =>
      e = .returned (.tuple #[.pointer none, .int .i64 (chk ⟨s, kd, u, o, a, b'⟩)]) ∧ Below w.heap.size w w' := by
  have hq : ∀ W : World, (binOp .neq 30 (.agg #[.string s, .int .i64 kd, .bool u, .int .i64 o, .int .i64 a, .int .i64 b']) (.agg #[.string ⟨#[]⟩, .int .i64 0, .bool false, .int .i64 0, .int .i64 0, .int .i64 0])).run Try.prog W = .ok (.bool true) W := fun W => by
    rw [neq_tox]; unfold passB noTox at hp; rw [hp]; rfl
  have hguard := eqguard_tox
  have tc : (chk ⟨s, kd, u, o, a, b'⟩ != 0) = true := by simpa using hc
  have hB0 := Lib.hid ((Below.refl w.heap.size w).alloc (Nat.le_refl _) (.cells #[.string s, .int .i64 kd, .bool u, .int .i64 o, .int .i64 a, .int .i64 b'] 30))
  have hck := fun W => Lib.hid (check_any ⟨s, kd, u, o, a, b'⟩ W)
  clear hp hc
  generalize chk ⟨s, kd, u, o, a, b'⟩ = E at *
  go_enter Try.func8, Try.ntmps8
  go_wp2_with fail
  refine (hck _).out.mono ?_
  rintro e w1 ⟨rfl, hB⟩
  have HB := Lib.hid (bw_below hB0.out hB)
  clear hck hB hB0
  go_wp2
  go_ret2
  exact ⟨rfl, HB.out⟩
theorem new_room_p (s : ByteArray) (kd : Int) (u : Bool) (o a b' seed room now : Int) (w : World) (hp : passB ⟨s, kd, u, o, a, b'⟩ = true) (hr : roomOk room = false) :
    Calls Try.prog 8 #[.agg #[.string s, .int .i64 kd, .bool u, .int .i64 o, .int .i64 a, .int .i64 b'], .int .u64 seed, .int .i64 room, .int .i64 now] w fun e w' =>
      e = .returned (.tuple #[.pointer none, .int .i64 1]) ∧ Below w.heap.size w w' := by
  have hq : ∀ W : World, (binOp .neq 30 (.agg #[.string s, .int .i64 kd, .bool u, .int .i64 o, .int .i64 a, .int .i64 b']) (.agg #[.string ⟨#[]⟩, .int .i64 0, .bool false, .int .i64 0, .int .i64 0, .int .i64 0])).run Try.prog W = .ok (.bool false) W := fun W => by
    rw [neq_tox]; unfold passB noTox at hp; rw [hp]; rfl
  have hguard := eqguard_tox
  have hB0 := Lib.hid ((Below.refl w.heap.size w).alloc (Nat.le_refl _) (.cells #[.string s, .int .i64 kd, .bool u, .int .i64 o, .int .i64 a, .int .i64 b'] 30))
  have hX0 := Lib.hid (Blk.new w 30 #[.string s, .int .i64 kd, .bool u, .int .i64 o, .int .i64 a, .int .i64 b'])
  clear hp
  by_cases h1 : room < 1
  · have t1 : decide (room < 1) = true := decide_eq_true h1
    clear hr h1
    go_enter Try.func8, Try.ntmps8
    go_wp2
    go_ret2
    exact ⟨rfl, hB0.out⟩
  · have t1 : decide (room < 1) = false := decide_eq_false h1
    have t2 : decide (4096 < room) = true := decide_eq_true (by unfold roomOk at hr; have := of_decide_eq_false hr; omega)
    clear hr h1
    go_enter Try.func8, Try.ntmps8
    go_wp2
    go_ret2
    exact ⟨rfl, hB0.out⟩
theorem new_room_c (s : ByteArray) (kd : Int) (u : Bool) (o a b' seed room now : Int) (w : World) (hp : passB ⟨s, kd, u, o, a, b'⟩ = false) (hc : chk ⟨s, kd, u, o, a, b'⟩ = 0) (hr : roomOk room = false) :
    Calls Try.prog 8 #[.agg #[.string s, .int .i64 kd, .bool u, .int .i64 o, .int .i64 a, .int .i64 b'], .int .u64 seed, .int .i64 room, .int .i64 now] w fun e w' =>
      e = .returned (.tuple #[.pointer none, .int .i64 1]) ∧ Below w.heap.size w w' := by
  have hq : ∀ W : World, (binOp .neq 30 (.agg #[.string s, .int .i64 kd, .bool u, .int .i64 o, .int .i64 a, .int .i64 b']) (.agg #[.string ⟨#[]⟩, .int .i64 0, .bool false, .int .i64 0, .int .i64 0, .int .i64 0])).run Try.prog W = .ok (.bool true) W := fun W => by
    rw [neq_tox]; unfold passB noTox at hp; rw [hp]; rfl
  have hguard := eqguard_tox
  have hB0 := Lib.hid ((Below.refl w.heap.size w).alloc (Nat.le_refl _) (.cells #[.string s, .int .i64 kd, .bool u, .int .i64 o, .int .i64 a, .int .i64 b'] 30))
  have hX0 := Lib.hid (Blk.new w 30 #[.string s, .int .i64 kd, .bool u, .int .i64 o, .int .i64 a, .int .i64 b'])
  have hck := fun W => Lib.hid (check_any ⟨s, kd, u, o, a, b'⟩ W)
  have hc' := Lib.hid hc
  clear hp hc
  by_cases h1 : room < 1
  · have t1 : decide (room < 1) = true := decide_eq_true h1
    clear hr h1
    go_enter Try.func8, Try.ntmps8
    go_wp2_with fail
    refine (hck _).out.mono ?_
    rintro e w1 ⟨rfl, hB⟩
    rw [hc'.out]
    have HB := Lib.hid (bw_below hB0.out hB)
    have HX := Lib.hid (hX0.out.below hB)
    clear hck hB hB0 hX0 hc'
    go_wp2
    go_ret2
    exact ⟨rfl, HB.out⟩
  · have t1 : decide (room < 1) = false := decide_eq_false h1
    have t2 : decide (4096 < room) = true := decide_eq_true (by unfold roomOk at hr; have := of_decide_eq_false hr; omega)
    clear hr h1
    go_enter Try.func8, Try.ntmps8
    go_wp2_with fail
    refine (hck _).out.mono ?_
    rintro e w1 ⟨rfl, hB⟩
    rw [hc'.out]
    have HB := Lib.hid (bw_below hB0.out hB)
    have HX := Lib.hid (hX0.out.below hB)
    clear hck hB hB0 hX0 hc'
    go_wp2
    go_ret2
    exact ⟨rfl, HB.out⟩
theorem new_yes_p (s : ByteArray) (kd : Int) (u : Bool) (o a b' seed room now : Int) (w : World) (hp : passB ⟨s, kd, u, o, a, b'⟩ = true) (hr : roomOk room = true) (hb : kd = 2 → Bucket.okB a b' b' (add now 0) = true) :
    Calls Try.prog 8 #[.agg #[.string s, .int .i64 kd, .bool u, .int .i64 o, .int .i64 a, .int .i64 b'], .int .u64 seed, .int .i64 room, .int .i64 now] w fun e w' =>
      ∃ b k F, e = .returned (.tuple #[.pointer (some ⟨b, 0, none⟩), .int .i64 0]) ∧ SG w' F b k (newS ⟨s, kd, u, o, a, b'⟩ seed room now) ∧ (∀ j, F j → w.heap.size ≤ j) ∧ Below w.heap.size w w' := by
  have hq : ∀ W : World, (binOp .neq 30 (.agg #[.string s, .int .i64 kd, .bool u, .int .i64 o, .int .i64 a, .int .i64 b']) (.agg #[.string ⟨#[]⟩, .int .i64 0, .bool false, .int .i64 0, .int .i64 0, .int .i64 0])).run Try.prog W = .ok (.bool false) W := fun W => by
    rw [neq_tox]; unfold passB noTox at hp; rw [hp]; rfl
  have hguard := eqguard_tox
  have hB0 := Lib.hid ((Below.refl w.heap.size w).alloc (Nat.le_refl _) (.cells #[.string s, .int .i64 kd, .bool u, .int .i64 o, .int .i64 a, .int .i64 b'] 30))
  have hX0 := Lib.hid (Blk.new w 30 #[.string s, .int .i64 kd, .bool u, .int .i64 o, .int .i64 a, .int .i64 b'])
  clear hp
  have t1 : decide (room < 1) = false := decide_eq_false (by unfold roomOk at hr; have := of_decide_eq_true hr; omega)
  have t2 : decide (4096 < room) = false := decide_eq_false (by unfold roomOk at hr; have := of_decide_eq_true hr; omega)
  have hE := Lib.hid (show newS ⟨s, kd, u, o, a, b'⟩ seed room now = if kd = 2 then { new0 ⟨s, kd, u, o, a, b'⟩ seed room now with b0 := a, b1 := b', b2 := b', b3 := add now 0 } else new0 ⟨s, kd, u, o, a, b'⟩ seed room now from rfl)
  have h0E := Lib.hid (show new0 ⟨s, kd, u, o, a, b'⟩ seed room now = ⟨⟨s, kd, u, o, a, b'⟩, seed, 0, 0, 0, 0, ([], 0), room, add now 0, add now 0, 0, 0, false, 0, 0⟩ from rfl)
  clear hr
  go_enter Try.func8, Try.ntmps8
  go_wp2_with (go_at_call 23; refine (add_any now 0 _).mono ?_; rintro e w2 ⟨rfl, rfl⟩)
  generalize w.alloc (.cells #[.string s, .int .i64 kd, .bool u, .int .i64 o, .int .i64 a, .int .i64 b'] 30) = w1 at *
  have HB := hB0
  have HX := hX0
  clear hB0 hX0
  generalize add now 0 = T at *
  have x0 : w1.cell? ⟨w.heap.size, 0, none⟩ = some (.string s) := (HX.out.cell 0).trans rfl
  have x1 : w1.cell? ⟨w.heap.size, 1, none⟩ = some (.int .i64 kd) := (HX.out.cell 1).trans rfl
  have x2 : w1.cell? ⟨w.heap.size, 2, none⟩ = some (.bool u) := (HX.out.cell 2).trans rfl
  have x3 : w1.cell? ⟨w.heap.size, 3, none⟩ = some (.int .i64 o) := (HX.out.cell 3).trans rfl
  have x4 : w1.cell? ⟨w.heap.size, 4, none⟩ = some (.int .i64 a) := (HX.out.cell 4).trans rfl
  have x5 : w1.cell? ⟨w.heap.size, 5, none⟩ = some (.int .i64 b') := (HX.out.cell 5).trans rfl
  refine start_ (n := 9) (S := fun w' => w'.cell? ⟨w.heap.size, 0, none⟩ = some (.string s) ∧ w'.cell? ⟨w.heap.size, 1, none⟩ = some (.int .i64 kd) ∧ w'.cell? ⟨w.heap.size, 2, none⟩ = some (.bool u) ∧ w'.cell? ⟨w.heap.size, 3, none⟩ = some (.int .i64 o) ∧ w'.cell? ⟨w.heap.size, 4, none⟩ = some (.int .i64 a) ∧ w'.cell? ⟨w.heap.size, 5, none⟩ = some (.int .i64 b')) (ds := []) (m_ 9 0) (by kernel_rfl) rfl (by kernel_rfl) ⟨x0, x1, x2, x3, x4, x5⟩ (fun hHeld => ?_)
  refine pu_ 2 (some 30) (m_ 9 4) rfl rfl (by kernel_rfl) (fun _ _ _ h => h) (by rfl) (by intro w'; go_simp; with_reducible rfl) (by simp only [Act.put, List.setIfInBounds_toArray, List.set_cons_zero, List.set_cons_succ, i64_w, i32_w]; rfl) ?_
  refine pu_ 3 (some 31) (m_ 9 12) rfl rfl (by kernel_rfl) (fun _ _ _ h => h) (by rfl) (by intro w'; go_simp; with_reducible rfl) (by simp only [Act.put, List.setIfInBounds_toArray, List.set_cons_zero, List.set_cons_succ, i64_w, i32_w]; rfl) ?_
  refine pu_ 4 (some 32) (m_ 9 28) rfl rfl (by kernel_rfl) (fun _ _ _ h => h) (by rfl) (by intro w'; go_simp; with_reducible rfl) (by simp only [Act.put, List.setIfInBounds_toArray, List.set_cons_zero, List.set_cons_succ, i64_w, i32_w]; rfl) ?_
  refine pu_ 5 (some 33) (m_ 9 60) rfl rfl (by kernel_rfl) (fun _ _ _ h => h) (by rfl) (by intro w'; go_simp; with_reducible rfl) (by simp only [Act.put, List.setIfInBounds_toArray, List.set_cons_zero, List.set_cons_succ, i64_w, i32_w]; rfl) ?_
  refine tk_ 1 (some 29) (m_ 9 62) rfl rfl (by kernel_rfl) (fun _ _ _ h => h) (by rfl) (by rintro w' ⟨s0, s1, s2, s3, s4, s5⟩; go_simp; with_reducible rfl) hHeld (by simp only [Act.put, List.setIfInBounds_toArray, List.set_cons_zero, List.set_cons_succ, i64_w, i32_w]; rfl) ?_
  refine one_ (i := 0) (N := some 28) (m_ 9 63) rfl rfl (by kernel_rfl) (by decide) (fun K hK => ?_)
  refine goes_ Try.func24 (by kernel_rfl) rfl #[] (by rfl) rfl rfl (by simp) ?_
  with_reducible refine (Cargo.new_any w1.drew).mono ?_
  rintro e w2 ⟨k, G, rfl, hC, hG, hB⟩
  have hB1 := below_drew hB
  have HC := Lib.hid hC
  have HG := Lib.hid hG
  have HX2 := Lib.hid (HX.out.below hB1)
  have HB2 := Lib.hid (bw_below HB.out hB1)
  have y0 := bcells hB1 x0
  have y1 := bcells hB1 x1
  have y2 := bcells hB1 x2
  have y3 := bcells hB1 x3
  have y4 := bcells hB1 x4
  have y5 := bcells hB1 x5
  clear hB hB1 hC hG
  refine ⟨_, rfl, ?_⟩
  refine hK.out _ _ ⟨y0, y1, y2, y3, y4, y5⟩ (fun hHeld => ?_)
  clear hK K
  refine norm_ (a' := ?_) ?_ ?_
  rotate_left
  · show Act.put _ (some 28) _ = _
    simp only [Act.put, List.setIfInBounds_toArray, List.set_cons_zero, List.set_cons_succ, i64_w, i32_w]
    rfl
  refine pu_ 6 (some 34) (m_ 9 127) rfl rfl (by kernel_rfl) (fun _ _ _ h => h) (by rfl) (by intro w'; go_simp; with_reducible rfl) (by simp only [Act.put, List.setIfInBounds_toArray, List.set_cons_zero, List.set_cons_succ, i64_w, i32_w]; rfl) ?_
  refine one_ (i := 7) (N := some 35) (m_ 9 255) rfl rfl (by kernel_rfl) (by decide) (fun K hK => ?_)
  refine value_ (w1 := ?_) (v := ?_) (by rfl) rfl ?_ ?_
  rotate_left 2
  · go_simp
    constructor
    · rfl
    · rfl
  refine hK.out _ _ ⟨bcells ((Below.refl w2.heap.size w2).alloc (Nat.le_refl _) (.cells #[.pointer (some ⟨k, 0, none⟩), .string s, .int .i64 kd, .bool u, .int .i64 o, .int .i64 a, .int .i64 b', .int .u64 seed, .int .i64 0, .int .i64 0, .int .i64 0, .int .i64 0, .int .i64 room, .int .i64 T, .int .i64 T, .int .i64 0, .int .i64 0, .bool false, .int .i64 0, .int .i64 0] 61)) y0, bcells ((Below.refl w2.heap.size w2).alloc (Nat.le_refl _) (.cells #[.pointer (some ⟨k, 0, none⟩), .string s, .int .i64 kd, .bool u, .int .i64 o, .int .i64 a, .int .i64 b', .int .u64 seed, .int .i64 0, .int .i64 0, .int .i64 0, .int .i64 0, .int .i64 room, .int .i64 T, .int .i64 T, .int .i64 0, .int .i64 0, .bool false, .int .i64 0, .int .i64 0] 61)) y1, bcells ((Below.refl w2.heap.size w2).alloc (Nat.le_refl _) (.cells #[.pointer (some ⟨k, 0, none⟩), .string s, .int .i64 kd, .bool u, .int .i64 o, .int .i64 a, .int .i64 b', .int .u64 seed, .int .i64 0, .int .i64 0, .int .i64 0, .int .i64 0, .int .i64 room, .int .i64 T, .int .i64 T, .int .i64 0, .int .i64 0, .bool false, .int .i64 0, .int .i64 0] 61)) y2, bcells ((Below.refl w2.heap.size w2).alloc (Nat.le_refl _) (.cells #[.pointer (some ⟨k, 0, none⟩), .string s, .int .i64 kd, .bool u, .int .i64 o, .int .i64 a, .int .i64 b', .int .u64 seed, .int .i64 0, .int .i64 0, .int .i64 0, .int .i64 0, .int .i64 room, .int .i64 T, .int .i64 T, .int .i64 0, .int .i64 0, .bool false, .int .i64 0, .int .i64 0] 61)) y3, bcells ((Below.refl w2.heap.size w2).alloc (Nat.le_refl _) (.cells #[.pointer (some ⟨k, 0, none⟩), .string s, .int .i64 kd, .bool u, .int .i64 o, .int .i64 a, .int .i64 b', .int .u64 seed, .int .i64 0, .int .i64 0, .int .i64 0, .int .i64 0, .int .i64 room, .int .i64 T, .int .i64 T, .int .i64 0, .int .i64 0, .bool false, .int .i64 0, .int .i64 0] 61)) y4, bcells ((Below.refl w2.heap.size w2).alloc (Nat.le_refl _) (.cells #[.pointer (some ⟨k, 0, none⟩), .string s, .int .i64 kd, .bool u, .int .i64 o, .int .i64 a, .int .i64 b', .int .u64 seed, .int .i64 0, .int .i64 0, .int .i64 0, .int .i64 0, .int .i64 room, .int .i64 T, .int .i64 T, .int .i64 0, .int .i64 0, .bool false, .int .i64 0, .int .i64 0] 61)) y5⟩ (fun hHeld => ?_)
  clear hK K
  refine norm_ (a' := ?_) ?_ ?_
  rotate_left
  · show Act.put _ (some 35) _ = _
    simp only [Act.put, List.setIfInBounds_toArray, List.set_cons_zero, List.set_cons_succ, i64_w, i32_w]
    rfl
  refine pu_ 8 (some 11) (m_ 9 511) rfl rfl (by kernel_rfl) (fun _ _ _ h => h) (by rfl) (by intro w'; go_simp; with_reducible rfl) (by simp only [Act.put, List.setIfInBounds_toArray, List.set_cons_zero, List.set_cons_succ, i64_w, i32_w]; rfl) ?_
  refine done_ (by kernel_rfl) ?_
  clear hHeld x0 x1 x2 x3 x4 x5 y0 y1 y2 y3 y4 y5
  have hlt := HB2.out.size
  have HS := Lib.hid (show SG (w2.alloc (.cells #[.pointer (some ⟨k, 0, none⟩), .string s, .int .i64 kd, .bool u, .int .i64 o, .int .i64 a, .int .i64 b', .int .u64 seed, .int .i64 0, .int .i64 0, .int .i64 0, .int .i64 0, .int .i64 room, .int .i64 T, .int .i64 T, .int .i64 0, .int .i64 0, .bool false, .int .i64 0, .int .i64 0] 61)) (fun j => j = w2.heap.size ∨ G j) w2.heap.size k (new0 ⟨s, kd, u, o, a, b'⟩ seed room now) from ⟨G, by rw [h0E.out]; exact Blk.new w2 _ _, by rw [h0E.out]; exact HC.out.below ((Below.refl w2.heap.size w2).alloc (Nat.le_refl _) (.cells #[.pointer (some ⟨k, 0, none⟩), .string s, .int .i64 kd, .bool u, .int .i64 o, .int .i64 a, .int .i64 b', .int .u64 seed, .int .i64 0, .int .i64 0, .int .i64 0, .int .i64 0, .int .i64 room, .int .i64 T, .int .i64 T, .int .i64 0, .int .i64 0, .bool false, .int .i64 0, .int .i64 0] 61)), fun j => Iff.rfl⟩)
  have HF := Lib.hid (show ∀ j, (j = w2.heap.size ∨ G j) → w.heap.size ≤ j from fun j hj => hj.elim (fun h => by omega) fun h => Nat.le_trans HB.out.size (HG.out j h))
  have HB3 := Lib.hid (bw_below HB2.out ((Below.refl w2.heap.size w2).alloc (Nat.le_refl _) (.cells #[.pointer (some ⟨k, 0, none⟩), .string s, .int .i64 kd, .bool u, .int .i64 o, .int .i64 a, .int .i64 b', .int .u64 seed, .int .i64 0, .int .i64 0, .int .i64 0, .int .i64 0, .int .i64 room, .int .i64 T, .int .i64 T, .int .i64 0, .int .i64 0, .bool false, .int .i64 0, .int .i64 0] 61)))
  have HX3 := Lib.hid (HX2.out.below ((Below.refl w2.heap.size w2).alloc (Nat.le_refl _) (.cells #[.pointer (some ⟨k, 0, none⟩), .string s, .int .i64 kd, .bool u, .int .i64 o, .int .i64 a, .int .i64 b', .int .u64 seed, .int .i64 0, .int .i64 0, .int .i64 0, .int .i64 0, .int .i64 room, .int .i64 T, .int .i64 T, .int .i64 0, .int .i64 0, .bool false, .int .i64 0, .int .i64 0] 61)))
  clear HC HG HB HX HB2 HX2
  generalize w2.alloc (.cells #[.pointer (some ⟨k, 0, none⟩), .string s, .int .i64 kd, .bool u, .int .i64 o, .int .i64 a, .int .i64 b', .int .u64 seed, .int .i64 0, .int .i64 0, .int .i64 0, .int .i64 0, .int .i64 room, .int .i64 T, .int .i64 T, .int .i64 0, .int .i64 0, .bool false, .int .i64 0, .int .i64 0] 61) = w3 at *
  generalize w2.heap.size = bb at *
  have x1 : w3.cell? ⟨w.heap.size, 1, none⟩ = some (.int .i64 kd) := (HX3.out.cell 1).trans rfl
  have x4 : w3.cell? ⟨w.heap.size, 4, none⟩ = some (.int .i64 a) := (HX3.out.cell 4).trans rfl
  have x5 : w3.cell? ⟨w.heap.size, 5, none⟩ = some (.int .i64 b') := (HX3.out.cell 5).trans rfl
  by_cases hk2 : kd = 2
  · have hbk := Lib.hid (hb hk2)
    have t3 : (kd == 2) = true := by simpa using hk2
    have hS := Lib.hid (hE.out.trans (if_pos hk2))
    clear hk2 hb
    go_wp2_with fail
    refine (Bucket.bnew_yes a b' T _ hbk.out).mono ?_
    rintro e w4 ⟨rfl, hB4⟩
    have HS4 := Lib.hid (HS.out.below hB4)
    have HB4 := Lib.hid (bw_below HB3.out hB4)
    clear hB4 x1 x4 x5
    have hbl : bb < w4.heap.size := HS4.out.lt HS4.out.mine
    have c8 : w4.cell? ⟨bb, 8, none⟩ = some (.int .i64 0) := (HS4.out.blk.cell 8).trans (by rw [h0E.out]; rfl)
    have c9 : w4.cell? ⟨bb, 9, none⟩ = some (.int .i64 0) := (HS4.out.blk.cell 9).trans (by rw [h0E.out]; rfl)
    have c10 : w4.cell? ⟨bb, 10, none⟩ = some (.int .i64 0) := (HS4.out.blk.cell 10).trans (by rw [h0E.out]; rfl)
    have c11 : w4.cell? ⟨bb, 11, none⟩ = some (.int .i64 0) := (HS4.out.blk.cell 11).trans (by rw [h0E.out]; rfl)
    have f8 := HS4.out.blk.free 8
    have f9 := HS4.out.blk.free 9
    have f10 := HS4.out.blk.free 10
    have f11 := HS4.out.blk.free 11
    have hge := HF.out bb (.inl rfl)
    go_wp2
    go_ret2
    refine ⟨bb, k, _, rfl, ?_, HF.out, (((HB4.out.setCell (p := ⟨bb, 8, none⟩) hge _).setCell (p := ⟨bb, 9, none⟩) hge _).setCell (p := ⟨bb, 10, none⟩) hge _).setCell (p := ⟨bb, 11, none⟩) hge _⟩
    rw [hS.out]
    have h1 := (((HS4.out.set 8 (.int .i64 a) { new0 ⟨s, kd, u, o, a, b'⟩ seed room now with b0 := a } (by rw [h0E.out]; rfl) rfl).set 9 (.int .i64 b') { new0 ⟨s, kd, u, o, a, b'⟩ seed room now with b0 := a, b1 := b' } (by rw [h0E.out]; rfl) rfl).set 10 (.int .i64 b') { new0 ⟨s, kd, u, o, a, b'⟩ seed room now with b0 := a, b1 := b', b2 := b' } (by rw [h0E.out]; rfl) rfl).set 11 (.int .i64 T) { new0 ⟨s, kd, u, o, a, b'⟩ seed room now with b0 := a, b1 := b', b2 := b', b3 := T } (by rw [h0E.out]; rfl) rfl
    exact h1
  · have t3 : (kd == 2) = false := by simpa using hk2
    have hS := Lib.hid (hE.out.trans (if_neg hk2))
    clear hk2 hb
    go_wp2
    go_ret2
    refine ⟨bb, k, _, rfl, ?_, HF.out, HB3.out⟩
    rw [hS.out]
    exact HS.out
theorem new_yes_c (s : ByteArray) (kd : Int) (u : Bool) (o a b' seed room now : Int) (w : World) (hp : passB ⟨s, kd, u, o, a, b'⟩ = false) (hc : chk ⟨s, kd, u, o, a, b'⟩ = 0) (hr : roomOk room = true) (hb : kd = 2 → Bucket.okB a b' b' (add now 0) = true) :
    Calls Try.prog 8 #[.agg #[.string s, .int .i64 kd, .bool u, .int .i64 o, .int .i64 a, .int .i64 b'], .int .u64 seed, .int .i64 room, .int .i64 now] w fun e w' =>
      ∃ b k F, e = .returned (.tuple #[.pointer (some ⟨b, 0, none⟩), .int .i64 0]) ∧ SG w' F b k (newS ⟨s, kd, u, o, a, b'⟩ seed room now) ∧ (∀ j, F j → w.heap.size ≤ j) ∧ Below w.heap.size w w' := by
  have hq : ∀ W : World, (binOp .neq 30 (.agg #[.string s, .int .i64 kd, .bool u, .int .i64 o, .int .i64 a, .int .i64 b']) (.agg #[.string ⟨#[]⟩, .int .i64 0, .bool false, .int .i64 0, .int .i64 0, .int .i64 0])).run Try.prog W = .ok (.bool true) W := fun W => by
    rw [neq_tox]; unfold passB noTox at hp; rw [hp]; rfl
  have hguard := eqguard_tox
  have hB0 := Lib.hid ((Below.refl w.heap.size w).alloc (Nat.le_refl _) (.cells #[.string s, .int .i64 kd, .bool u, .int .i64 o, .int .i64 a, .int .i64 b'] 30))
  have hX0 := Lib.hid (Blk.new w 30 #[.string s, .int .i64 kd, .bool u, .int .i64 o, .int .i64 a, .int .i64 b'])
  have hck := fun W => Lib.hid (check_any ⟨s, kd, u, o, a, b'⟩ W)
  have hc' := Lib.hid hc
  clear hp hc
  have t1 : decide (room < 1) = false := decide_eq_false (by unfold roomOk at hr; have := of_decide_eq_true hr; omega)
  have t2 : decide (4096 < room) = false := decide_eq_false (by unfold roomOk at hr; have := of_decide_eq_true hr; omega)
  have hE := Lib.hid (show newS ⟨s, kd, u, o, a, b'⟩ seed room now = if kd = 2 then { new0 ⟨s, kd, u, o, a, b'⟩ seed room now with b0 := a, b1 := b', b2 := b', b3 := add now 0 } else new0 ⟨s, kd, u, o, a, b'⟩ seed room now from rfl)
  have h0E := Lib.hid (show new0 ⟨s, kd, u, o, a, b'⟩ seed room now = ⟨⟨s, kd, u, o, a, b'⟩, seed, 0, 0, 0, 0, ([], 0), room, add now 0, add now 0, 0, 0, false, 0, 0⟩ from rfl)
  clear hr
  go_enter Try.func8, Try.ntmps8
  go_wp2_with fail
  refine (hck _).out.mono ?_
  rintro e w1 ⟨rfl, hB⟩
  rw [hc'.out]
  have HB := Lib.hid (bw_below hB0.out hB)
  have HX := Lib.hid (hX0.out.below hB)
  clear hck hB hB0 hX0 hc'
  go_wp2_with (go_at_call 23; refine (add_any now 0 _).mono ?_; rintro e w2 ⟨rfl, rfl⟩)
  generalize add now 0 = T at *
  have x0 : w1.cell? ⟨w.heap.size, 0, none⟩ = some (.string s) := (HX.out.cell 0).trans rfl
  have x1 : w1.cell? ⟨w.heap.size, 1, none⟩ = some (.int .i64 kd) := (HX.out.cell 1).trans rfl
  have x2 : w1.cell? ⟨w.heap.size, 2, none⟩ = some (.bool u) := (HX.out.cell 2).trans rfl
  have x3 : w1.cell? ⟨w.heap.size, 3, none⟩ = some (.int .i64 o) := (HX.out.cell 3).trans rfl
  have x4 : w1.cell? ⟨w.heap.size, 4, none⟩ = some (.int .i64 a) := (HX.out.cell 4).trans rfl
  have x5 : w1.cell? ⟨w.heap.size, 5, none⟩ = some (.int .i64 b') := (HX.out.cell 5).trans rfl
  refine start_ (n := 9) (S := fun w' => w'.cell? ⟨w.heap.size, 0, none⟩ = some (.string s) ∧ w'.cell? ⟨w.heap.size, 1, none⟩ = some (.int .i64 kd) ∧ w'.cell? ⟨w.heap.size, 2, none⟩ = some (.bool u) ∧ w'.cell? ⟨w.heap.size, 3, none⟩ = some (.int .i64 o) ∧ w'.cell? ⟨w.heap.size, 4, none⟩ = some (.int .i64 a) ∧ w'.cell? ⟨w.heap.size, 5, none⟩ = some (.int .i64 b')) (ds := []) (m_ 9 0) (by kernel_rfl) rfl (by kernel_rfl) ⟨x0, x1, x2, x3, x4, x5⟩ (fun hHeld => ?_)
  refine pu_ 2 (some 30) (m_ 9 4) rfl rfl (by kernel_rfl) (fun _ _ _ h => h) (by rfl) (by intro w'; go_simp; with_reducible rfl) (by simp only [Act.put, List.setIfInBounds_toArray, List.set_cons_zero, List.set_cons_succ, i64_w, i32_w]; rfl) ?_
  refine pu_ 3 (some 31) (m_ 9 12) rfl rfl (by kernel_rfl) (fun _ _ _ h => h) (by rfl) (by intro w'; go_simp; with_reducible rfl) (by simp only [Act.put, List.setIfInBounds_toArray, List.set_cons_zero, List.set_cons_succ, i64_w, i32_w]; rfl) ?_
  refine pu_ 4 (some 32) (m_ 9 28) rfl rfl (by kernel_rfl) (fun _ _ _ h => h) (by rfl) (by intro w'; go_simp; with_reducible rfl) (by simp only [Act.put, List.setIfInBounds_toArray, List.set_cons_zero, List.set_cons_succ, i64_w, i32_w]; rfl) ?_
  refine pu_ 5 (some 33) (m_ 9 60) rfl rfl (by kernel_rfl) (fun _ _ _ h => h) (by rfl) (by intro w'; go_simp; with_reducible rfl) (by simp only [Act.put, List.setIfInBounds_toArray, List.set_cons_zero, List.set_cons_succ, i64_w, i32_w]; rfl) ?_
  refine tk_ 1 (some 29) (m_ 9 62) rfl rfl (by kernel_rfl) (fun _ _ _ h => h) (by rfl) (by rintro w' ⟨s0, s1, s2, s3, s4, s5⟩; go_simp; with_reducible rfl) hHeld (by simp only [Act.put, List.setIfInBounds_toArray, List.set_cons_zero, List.set_cons_succ, i64_w, i32_w]; rfl) ?_
  refine one_ (i := 0) (N := some 28) (m_ 9 63) rfl rfl (by kernel_rfl) (by decide) (fun K hK => ?_)
  refine goes_ Try.func24 (by kernel_rfl) rfl #[] (by rfl) rfl rfl (by simp) ?_
  with_reducible refine (Cargo.new_any w1.drew).mono ?_
  rintro e w2 ⟨k, G, rfl, hC, hG, hB⟩
  have hB1 := below_drew hB
  have HC := Lib.hid hC
  have HG := Lib.hid hG
  have HX2 := Lib.hid (HX.out.below hB1)
  have HB2 := Lib.hid (bw_below HB.out hB1)
  have y0 := bcells hB1 x0
  have y1 := bcells hB1 x1
  have y2 := bcells hB1 x2
  have y3 := bcells hB1 x3
  have y4 := bcells hB1 x4
  have y5 := bcells hB1 x5
  clear hB hB1 hC hG
  refine ⟨_, rfl, ?_⟩
  refine hK.out _ _ ⟨y0, y1, y2, y3, y4, y5⟩ (fun hHeld => ?_)
  clear hK K
  refine norm_ (a' := ?_) ?_ ?_
  rotate_left
  · show Act.put _ (some 28) _ = _
    simp only [Act.put, List.setIfInBounds_toArray, List.set_cons_zero, List.set_cons_succ, i64_w, i32_w]
    rfl
  refine pu_ 6 (some 34) (m_ 9 127) rfl rfl (by kernel_rfl) (fun _ _ _ h => h) (by rfl) (by intro w'; go_simp; with_reducible rfl) (by simp only [Act.put, List.setIfInBounds_toArray, List.set_cons_zero, List.set_cons_succ, i64_w, i32_w]; rfl) ?_
  refine one_ (i := 7) (N := some 35) (m_ 9 255) rfl rfl (by kernel_rfl) (by decide) (fun K hK => ?_)
  refine value_ (w1 := ?_) (v := ?_) (by rfl) rfl ?_ ?_
  rotate_left 2
  · go_simp
    constructor
    · rfl
    · rfl
  refine hK.out _ _ ⟨bcells ((Below.refl w2.heap.size w2).alloc (Nat.le_refl _) (.cells #[.pointer (some ⟨k, 0, none⟩), .string s, .int .i64 kd, .bool u, .int .i64 o, .int .i64 a, .int .i64 b', .int .u64 seed, .int .i64 0, .int .i64 0, .int .i64 0, .int .i64 0, .int .i64 room, .int .i64 T, .int .i64 T, .int .i64 0, .int .i64 0, .bool false, .int .i64 0, .int .i64 0] 61)) y0, bcells ((Below.refl w2.heap.size w2).alloc (Nat.le_refl _) (.cells #[.pointer (some ⟨k, 0, none⟩), .string s, .int .i64 kd, .bool u, .int .i64 o, .int .i64 a, .int .i64 b', .int .u64 seed, .int .i64 0, .int .i64 0, .int .i64 0, .int .i64 0, .int .i64 room, .int .i64 T, .int .i64 T, .int .i64 0, .int .i64 0, .bool false, .int .i64 0, .int .i64 0] 61)) y1, bcells ((Below.refl w2.heap.size w2).alloc (Nat.le_refl _) (.cells #[.pointer (some ⟨k, 0, none⟩), .string s, .int .i64 kd, .bool u, .int .i64 o, .int .i64 a, .int .i64 b', .int .u64 seed, .int .i64 0, .int .i64 0, .int .i64 0, .int .i64 0, .int .i64 room, .int .i64 T, .int .i64 T, .int .i64 0, .int .i64 0, .bool false, .int .i64 0, .int .i64 0] 61)) y2, bcells ((Below.refl w2.heap.size w2).alloc (Nat.le_refl _) (.cells #[.pointer (some ⟨k, 0, none⟩), .string s, .int .i64 kd, .bool u, .int .i64 o, .int .i64 a, .int .i64 b', .int .u64 seed, .int .i64 0, .int .i64 0, .int .i64 0, .int .i64 0, .int .i64 room, .int .i64 T, .int .i64 T, .int .i64 0, .int .i64 0, .bool false, .int .i64 0, .int .i64 0] 61)) y3, bcells ((Below.refl w2.heap.size w2).alloc (Nat.le_refl _) (.cells #[.pointer (some ⟨k, 0, none⟩), .string s, .int .i64 kd, .bool u, .int .i64 o, .int .i64 a, .int .i64 b', .int .u64 seed, .int .i64 0, .int .i64 0, .int .i64 0, .int .i64 0, .int .i64 room, .int .i64 T, .int .i64 T, .int .i64 0, .int .i64 0, .bool false, .int .i64 0, .int .i64 0] 61)) y4, bcells ((Below.refl w2.heap.size w2).alloc (Nat.le_refl _) (.cells #[.pointer (some ⟨k, 0, none⟩), .string s, .int .i64 kd, .bool u, .int .i64 o, .int .i64 a, .int .i64 b', .int .u64 seed, .int .i64 0, .int .i64 0, .int .i64 0, .int .i64 0, .int .i64 room, .int .i64 T, .int .i64 T, .int .i64 0, .int .i64 0, .bool false, .int .i64 0, .int .i64 0] 61)) y5⟩ (fun hHeld => ?_)
  clear hK K
  refine norm_ (a' := ?_) ?_ ?_
  rotate_left
  · show Act.put _ (some 35) _ = _
    simp only [Act.put, List.setIfInBounds_toArray, List.set_cons_zero, List.set_cons_succ, i64_w, i32_w]
    rfl
  refine pu_ 8 (some 11) (m_ 9 511) rfl rfl (by kernel_rfl) (fun _ _ _ h => h) (by rfl) (by intro w'; go_simp; with_reducible rfl) (by simp only [Act.put, List.setIfInBounds_toArray, List.set_cons_zero, List.set_cons_succ, i64_w, i32_w]; rfl) ?_
  refine done_ (by kernel_rfl) ?_
  clear hHeld x0 x1 x2 x3 x4 x5 y0 y1 y2 y3 y4 y5
  have hlt := HB2.out.size
  have HS := Lib.hid (show SG (w2.alloc (.cells #[.pointer (some ⟨k, 0, none⟩), .string s, .int .i64 kd, .bool u, .int .i64 o, .int .i64 a, .int .i64 b', .int .u64 seed, .int .i64 0, .int .i64 0, .int .i64 0, .int .i64 0, .int .i64 room, .int .i64 T, .int .i64 T, .int .i64 0, .int .i64 0, .bool false, .int .i64 0, .int .i64 0] 61)) (fun j => j = w2.heap.size ∨ G j) w2.heap.size k (new0 ⟨s, kd, u, o, a, b'⟩ seed room now) from ⟨G, by rw [h0E.out]; exact Blk.new w2 _ _, by rw [h0E.out]; exact HC.out.below ((Below.refl w2.heap.size w2).alloc (Nat.le_refl _) (.cells #[.pointer (some ⟨k, 0, none⟩), .string s, .int .i64 kd, .bool u, .int .i64 o, .int .i64 a, .int .i64 b', .int .u64 seed, .int .i64 0, .int .i64 0, .int .i64 0, .int .i64 0, .int .i64 room, .int .i64 T, .int .i64 T, .int .i64 0, .int .i64 0, .bool false, .int .i64 0, .int .i64 0] 61)), fun j => Iff.rfl⟩)
  have HF := Lib.hid (show ∀ j, (j = w2.heap.size ∨ G j) → w.heap.size ≤ j from fun j hj => hj.elim (fun h => by omega) fun h => Nat.le_trans HB.out.size (HG.out j h))
  have HB3 := Lib.hid (bw_below HB2.out ((Below.refl w2.heap.size w2).alloc (Nat.le_refl _) (.cells #[.pointer (some ⟨k, 0, none⟩), .string s, .int .i64 kd, .bool u, .int .i64 o, .int .i64 a, .int .i64 b', .int .u64 seed, .int .i64 0, .int .i64 0, .int .i64 0, .int .i64 0, .int .i64 room, .int .i64 T, .int .i64 T, .int .i64 0, .int .i64 0, .bool false, .int .i64 0, .int .i64 0] 61)))
  have HX3 := Lib.hid (HX2.out.below ((Below.refl w2.heap.size w2).alloc (Nat.le_refl _) (.cells #[.pointer (some ⟨k, 0, none⟩), .string s, .int .i64 kd, .bool u, .int .i64 o, .int .i64 a, .int .i64 b', .int .u64 seed, .int .i64 0, .int .i64 0, .int .i64 0, .int .i64 0, .int .i64 room, .int .i64 T, .int .i64 T, .int .i64 0, .int .i64 0, .bool false, .int .i64 0, .int .i64 0] 61)))
  clear HC HG HB HX HB2 HX2
  generalize w2.alloc (.cells #[.pointer (some ⟨k, 0, none⟩), .string s, .int .i64 kd, .bool u, .int .i64 o, .int .i64 a, .int .i64 b', .int .u64 seed, .int .i64 0, .int .i64 0, .int .i64 0, .int .i64 0, .int .i64 room, .int .i64 T, .int .i64 T, .int .i64 0, .int .i64 0, .bool false, .int .i64 0, .int .i64 0] 61) = w3 at *
  generalize w2.heap.size = bb at *
  have x1 : w3.cell? ⟨w.heap.size, 1, none⟩ = some (.int .i64 kd) := (HX3.out.cell 1).trans rfl
  have x4 : w3.cell? ⟨w.heap.size, 4, none⟩ = some (.int .i64 a) := (HX3.out.cell 4).trans rfl
  have x5 : w3.cell? ⟨w.heap.size, 5, none⟩ = some (.int .i64 b') := (HX3.out.cell 5).trans rfl
  by_cases hk2 : kd = 2
  · have hbk := Lib.hid (hb hk2)
    have t3 : (kd == 2) = true := by simpa using hk2
    have hS := Lib.hid (hE.out.trans (if_pos hk2))
    clear hk2 hb
    go_wp2_with fail
    refine (Bucket.bnew_yes a b' T _ hbk.out).mono ?_
    rintro e w4 ⟨rfl, hB4⟩
    have HS4 := Lib.hid (HS.out.below hB4)
    have HB4 := Lib.hid (bw_below HB3.out hB4)
    clear hB4 x1 x4 x5
    have hbl : bb < w4.heap.size := HS4.out.lt HS4.out.mine
    have c8 : w4.cell? ⟨bb, 8, none⟩ = some (.int .i64 0) := (HS4.out.blk.cell 8).trans (by rw [h0E.out]; rfl)
    have c9 : w4.cell? ⟨bb, 9, none⟩ = some (.int .i64 0) := (HS4.out.blk.cell 9).trans (by rw [h0E.out]; rfl)
    have c10 : w4.cell? ⟨bb, 10, none⟩ = some (.int .i64 0) := (HS4.out.blk.cell 10).trans (by rw [h0E.out]; rfl)
    have c11 : w4.cell? ⟨bb, 11, none⟩ = some (.int .i64 0) := (HS4.out.blk.cell 11).trans (by rw [h0E.out]; rfl)
    have f8 := HS4.out.blk.free 8
    have f9 := HS4.out.blk.free 9
    have f10 := HS4.out.blk.free 10
    have f11 := HS4.out.blk.free 11
    have hge := HF.out bb (.inl rfl)
    go_wp2
    go_ret2
    refine ⟨bb, k, _, rfl, ?_, HF.out, (((HB4.out.setCell (p := ⟨bb, 8, none⟩) hge _).setCell (p := ⟨bb, 9, none⟩) hge _).setCell (p := ⟨bb, 10, none⟩) hge _).setCell (p := ⟨bb, 11, none⟩) hge _⟩
    rw [hS.out]
    have h1 := (((HS4.out.set 8 (.int .i64 a) { new0 ⟨s, kd, u, o, a, b'⟩ seed room now with b0 := a } (by rw [h0E.out]; rfl) rfl).set 9 (.int .i64 b') { new0 ⟨s, kd, u, o, a, b'⟩ seed room now with b0 := a, b1 := b' } (by rw [h0E.out]; rfl) rfl).set 10 (.int .i64 b') { new0 ⟨s, kd, u, o, a, b'⟩ seed room now with b0 := a, b1 := b', b2 := b' } (by rw [h0E.out]; rfl) rfl).set 11 (.int .i64 T) { new0 ⟨s, kd, u, o, a, b'⟩ seed room now with b0 := a, b1 := b', b2 := b', b3 := T } (by rw [h0E.out]; rfl) rfl
    exact h1
  · have t3 : (kd == 2) = false := by simpa using hk2
    have hS := Lib.hid (hE.out.trans (if_neg hk2))
    clear hk2 hb
    go_wp2
    go_ret2
    refine ⟨bb, k, _, rfl, ?_, HF.out, HB3.out⟩
    rw [hS.out]
    exact HS.out
theorem fit_bucket {t : Tox} (hc : chk t = 0) (hk : t.kind = 2) (now : Int) : Bucket.okB t.a t.b t.b (add now 0) = true := by
  unfold chk at hc
  split at hc
  · omega
  split at hc
  · omega
  split at hc
  · omega
  rename_i h1 h2 h3
  simp only [Bool.and_eq_false_iff, not_or, Bool.not_eq_false] at h3
  have h4 := h3.2
  unfold numB ruleB rightB roomB at h4
  rw [hk, if_neg (by decide), if_pos rfl] at h4
  simp only [Bool.and_eq_true, decide_eq_true_eq] at h4
  unfold Bucket.okB Bucket.Ok
  have := nr_bd (nr now + nr 0)
  refine decide_eq_true ⟨h4.1.1.1, h4.1.1.2, h4.1.1.2, ⟨?_, ?_⟩, by omega, by omega⟩
  · exact this.1
  · exact this.2
theorem pass_kind {t : Tox} (h : passB t = true) : t = noTox := by
  obtain ⟨s, k, u, o, a, b⟩ := t
  unfold passB sameT noTox at h
  simp only [Bool.and_eq_true, beq_iff_eq] at h
  obtain ⟨h1, rfl, rfl, rfl, rfl, rfl⟩ := h
  have : s = ⟨#[]⟩ := by
    rw [ByteArray.toList_eq, ByteArray.toList_eq] at h1
    obtain ⟨⟨l⟩⟩ := s
    simp at h1
    subst h1
    rfl
  subst this
  rfl
def NewPost (w : World) (t : Tox) (seed room now : Int) (e : Ending) (w' : World) : Prop :=
  (newE t room = 0 → ∃ b k F, e = .returned (.tuple #[.pointer (some ⟨b, 0, none⟩), .int .i64 0]) ∧ SG w' F b k (newS t seed room now) ∧ (∀ j, F j → w.heap.size ≤ j) ∧ Below w.heap.size w w') ∧
  (newE t room ≠ 0 → e = .returned (.tuple #[.pointer none, .int .i64 (newE t room)]) ∧ Below w.heap.size w w')
theorem new_any (t : Tox) (seed room now : Int) (w : World) : Calls Try.prog 8 #[t.v, .int .u64 seed, .int .i64 room, .int .i64 now] w (NewPost w t seed room now) := by
  unfold NewPost newE
  obtain ⟨s, k, u, o, a, b⟩ := t
  cases hp : passB ⟨s, k, u, o, a, b⟩ with
  | true =>
    rw [if_neg (fun h => Bool.noConfusion h.1)]
    cases hr : roomOk room with
    | true =>
      rw [if_neg (by decide)]
      have hk := congrArg Tox.kind (pass_kind hp)
      exact (new_yes_p s k u o a b seed room now w hp hr (fun h => by simp only [noTox] at hk; omega)).mono fun e w' h => ⟨fun _ => h, fun h => absurd rfl h⟩
    | false =>
      rw [if_pos rfl]
      exact (new_room_p s k u o a b seed room now w hp hr).mono fun e w' h => ⟨fun h => by omega, fun _ => h⟩
  | false =>
    by_cases hc : chk ⟨s, k, u, o, a, b⟩ = 0
    · rw [if_neg (fun h => h.2 hc)]
      cases hr : roomOk room with
      | true =>
        rw [if_neg (by decide)]
        exact (new_yes_c s k u o a b seed room now w hp hc hr (fun h => fit_bucket (t := ⟨s, k, u, o, a, b⟩) hc h now)).mono fun e w' h => ⟨fun _ => h, fun h => absurd rfl h⟩
      | false =>
        rw [if_pos rfl]
        exact (new_room_c s k u o a b seed room now w hp hc hr).mono fun e w' h => ⟨fun h => by omega, fun _ => h⟩
    · rw [if_pos ⟨rfl, hc⟩]
      exact (new_bad s k u o a b seed room now w hp hc).mono fun e w' h => ⟨fun h => absurd h hc, fun _ => h⟩
end Go.Proofs.Ytehpliclknfmoaa.Stage
/- A stage's Update (chapter 10). Conditions: the bytes are fewer than 2^30; the stage is one that may be. -/
namespace Go.Proofs.Ytehpliclknfmoaa.Stage
open Go.RowKit Mem Tick Cargo Toxic
open Go.Proofs.YtehpliclknfmoaaW.PrintLast Pu
set_option maxRecDepth 100000
set_option linter.unusedVariables false
set_option linter.unusedSimpArgs false
variable {w w' : World} {F : Nat → Prop} {b k : Nat} {s : Sg}
def updE (s : Sg) (t : Tox) : Int := if t.kind ≠ s.t.kind then 91 else if t.kind = 0 then 0 else chk t
def updS (s : Sg) (t : Tox) (n : Int) : Sg :=
  if t.kind ≠ s.t.kind ∨ t.kind = 0 ∨ chk t ≠ 0 then s
  else if t.kind = 2 then { lookP s n with t := t, b0 := t.a, b1 := t.b, b2 := min (Bucket.fillL s.b0 s.b1 s.b2 s.b3 (lookP s n).clock) t.b, b3 := Bucket.fillT s.b0 s.b1 s.b2 s.b3 (lookP s n).clock }
  else { lookP s n with t := t }
theorem fit_bucketT {t : Tox} (hc : chk t = 0) (hk : t.kind = 2) (T : Int) (h0 : 0 ≤ T) (h1 : T ≤ 1099511627776) : Bucket.okB t.a t.b t.b T = true := by
  have h := fit_bucket hc hk 0
  unfold Bucket.okB Bucket.Ok at h ⊢
  have h := of_decide_eq_true h
  exact decide_eq_true ⟨h.1, h.2.1, h.2.2.1, ⟨h0, h1⟩, h.2.2.2.2.1, h.2.2.2.2.2⟩
theorem look_clock (s : Sg) (n : Int) (h0 : 0 ≤ s.clock) (h1 : s.clock ≤ 1099511627776) : 0 ≤ (lookP s n).clock ∧ (lookP s n).clock ≤ 1099511627776 := by
  have := nr_bd (nr n + nr 0)
  show 0 ≤ max s.clock (add n 0) ∧ max s.clock (add n 0) ≤ 1099511627776
  unfold add
  omega
/-- the stage's toxic is set. -/
theorem SG.tox (h : SG w F b k s) (x : ByteArray) (kd : Int) (u : Bool) (o a b' : Int) : SG ((((((w.setCell ⟨b, 1, none⟩ (.string x)).setCell ⟨b, 2, none⟩ (.int .i64 kd)).setCell ⟨b, 3, none⟩ (.bool u)).setCell ⟨b, 4, none⟩ (.int .i64 o)).setCell ⟨b, 5, none⟩ (.int .i64 a)).setCell ⟨b, 6, none⟩ (.int .i64 b')) F b k { s with t := ⟨x, kd, u, o, a, b'⟩ } :=
  (((((h.set 1 (.string x) { s with t := { s.t with name := x } } rfl rfl).set 2 (.int .i64 kd) { s with t := { s.t with name := x, kind := kd } } rfl rfl).set 3 (.bool u) { s with t := { s.t with name := x, kind := kd, up := u } } rfl rfl).set 4 (.int .i64 o) { s with t := { s.t with name := x, kind := kd, up := u, often := o } } rfl rfl).set 5 (.int .i64 a) { s with t := { s.t with name := x, kind := kd, up := u, often := o, a := a } } rfl rfl).set 6 (.int .i64 b') { s with t := ⟨x, kd, u, o, a, b'⟩ } rfl rfl
theorem Did.tox {a0 : World} (h : Did F a0 w) (hb : F b) (x : ByteArray) (kd : Int) (u : Bool) (o a b' : Int) : Did F a0 ((((((w.setCell ⟨b, 1, none⟩ (.string x)).setCell ⟨b, 2, none⟩ (.int .i64 kd)).setCell ⟨b, 3, none⟩ (.bool u)).setCell ⟨b, 4, none⟩ (.int .i64 o)).setCell ⟨b, 5, none⟩ (.int .i64 a)).setCell ⟨b, 6, none⟩ (.int .i64 b')) :=
  (((((h.setCell (p := ⟨b, 1, none⟩) (.inl hb) _).setCell (p := ⟨b, 2, none⟩) (.inl hb) _).setCell (p := ⟨b, 3, none⟩) (.inl hb) _).setCell (p := ⟨b, 4, none⟩) (.inl hb) _).setCell (p := ⟨b, 5, none⟩) (.inl hb) _).setCell (p := ⟨b, 6, none⟩) (.inl hb) _
/-- the stage's bucket is set. -/
theorem SG.bucket4 (h : SG w F b k s) (x y z u : Int) : SG ((((w.setCell ⟨b, 8, none⟩ (.int .i64 x)).setCell ⟨b, 9, none⟩ (.int .i64 y)).setCell ⟨b, 10, none⟩ (.int .i64 z)).setCell ⟨b, 11, none⟩ (.int .i64 u)) F b k { s with b0 := x, b1 := y, b2 := z, b3 := u } :=
  (((h.set 8 (.int .i64 x) { s with b0 := x } rfl rfl).set 9 (.int .i64 y) { s with b0 := x, b1 := y } rfl rfl).set 10 (.int .i64 z) { s with b0 := x, b1 := y, b2 := z } rfl rfl).set 11 (.int .i64 u) { s with b0 := x, b1 := y, b2 := z, b3 := u } rfl rfl
theorem upd_kind (h : SG w F b k s) (ht : held s ≤ 1000000000) (x : ByteArray) (kd : Int) (u : Bool) (o a b' n : Int) (hk : kd ≠ s.t.kind) :
    Calls Try.prog 38 #[.pointer (some ⟨b, 0, none⟩), .agg #[.string x, .int .i64 kd, .bool u, .int .i64 o, .int .i64 a, .int .i64 b'], .int .i64 n] w fun e w' =>
      e = .returned (.int .i64 (91)) ∧ SG w' F b k (s) ∧ Did F w w' := by
  have hB0 := (Below.refl w.heap.size w).alloc (Nat.le_refl _) (.cells #[.string x, .int .i64 kd, .bool u, .int .i64 o, .int .i64 a, .int .i64 b'] 30)
  have hX0 := Lib.hid (Blk.new w 30 #[.string x, .int .i64 kd, .bool u, .int .i64 o, .int .i64 a, .int .i64 b'])
  have HS0 := Lib.hid (h.below hB0)
  have HD0 := Lib.hid (Did.of_below (F := F) hB0)
  have hck := fun W => Lib.hid (check_any ⟨x, kd, u, o, a, b'⟩ W)
  have hne : ∀ j, F j → j ≠ w.heap.size := fun j hj e => by have := h.lt hj; omega
  have hNe := Lib.hid hne
  have tk : (kd != s.t.kind) = true := by simpa using hk
  clear hk
  generalize chk ⟨x, kd, u, o, a, b'⟩ = E at *
  clear h hB0 hne
  go_enter Try.func38, Try.ntmps38
  go_wp2_with fail
  refine (hck _).out.mono ?_
  rintro e w1 ⟨rfl, hB⟩
  have HS := Lib.hid (HS0.out.below hB)
  have HD := Lib.hid (HD0.out.trans (Stem.refl _ _) (Did.of_below hB))
  have HX := Lib.hid (hX0.out.below hB)
  clear hck hB HS0 HD0 hX0
  have x1 : w1.cell? ⟨w.heap.size, 1, none⟩ = some (.int .i64 kd) := (HX.out.cell 1).trans rfl
  have c2 : w1.cell? ⟨b, 2, none⟩ = some (.int .i64 s.t.kind) := (HS.out.blk.cell 2).trans rfl
  go_wp2
  refine start_ (n := 9) (S := fun w' => w'.cell? ⟨w.heap.size, 1, none⟩ = some (.int .i64 kd) ∧ w'.cell? ⟨b, 2, none⟩ = some (.int .i64 s.t.kind)) (ds := []) (m_ 9 0) (by kernel_rfl) rfl (by kernel_rfl) ⟨x1, c2⟩ (fun hHeld => ?_)
  refine pu_ 0 (some 11) (m_ 9 1) rfl rfl (by kernel_rfl) (fun _ _ _ h => h) (by rfl) (by intro w'; go_simp; with_reducible rfl) (by simp only [Act.put, List.setIfInBounds_toArray, List.set_cons_zero, List.set_cons_succ, i64_w, i32_w]; rfl) ?_
  refine pu_ 2 (some 13) (m_ 9 5) rfl rfl (by kernel_rfl) (fun _ _ _ h => h) (by rfl) (by intro w'; go_simp; with_reducible rfl) (by simp only [Act.put, List.setIfInBounds_toArray, List.set_cons_zero, List.set_cons_succ, i64_w, i32_w]; rfl) ?_
  refine pu_ 3 (some 14) (m_ 9 13) rfl rfl (by kernel_rfl) (fun _ _ _ h => h) (by rfl) (by intro w'; go_simp; with_reducible rfl) (by simp only [Act.put, List.setIfInBounds_toArray, List.set_cons_zero, List.set_cons_succ, i64_w, i32_w]; rfl) ?_
  refine pu_ 4 (some 15) (m_ 9 29) rfl rfl (by kernel_rfl) (fun _ _ _ h => h) (by rfl) (by intro w'; go_simp; with_reducible rfl) (by simp only [Act.put, List.setIfInBounds_toArray, List.set_cons_zero, List.set_cons_succ, i64_w, i32_w]; rfl) ?_
  refine pu_ 5 (some 16) (m_ 9 61) rfl rfl (by kernel_rfl) (fun _ _ _ h => h) (by rfl) (by intro w'; go_simp; with_reducible rfl) (by simp only [Act.put, List.setIfInBounds_toArray, List.set_cons_zero, List.set_cons_succ, i64_w, i32_w]; rfl) ?_
  refine tk_ 1 (some 12) (m_ 9 63) rfl rfl (by kernel_rfl) (fun _ _ _ h => h) (by rfl) (by rintro w' ⟨s0, s1⟩; go_simp; with_reducible rfl) hHeld (by simp only [Act.put, List.setIfInBounds_toArray, List.set_cons_zero, List.set_cons_succ, i64_w, i32_w]; rfl) ?_
  refine tk_ 6 (some 17) (m_ 9 127) rfl rfl (by kernel_rfl) (fun _ _ _ h => h) (by rfl) (by rintro w' ⟨s0, s1⟩; go_simp; with_reducible rfl) hHeld (by simp only [Act.put, List.setIfInBounds_toArray, List.set_cons_zero, List.set_cons_succ, i64_w, i32_w]; rfl) ?_
  refine pu_ 7 (some 18) (m_ 9 255) rfl rfl (by kernel_rfl) (fun _ _ _ h => h) (by rfl) (by intro w'; go_simp; with_reducible rfl) (by simp only [Act.put, List.setIfInBounds_toArray, List.set_cons_zero, List.set_cons_succ, i64_w, i32_w]; rfl) ?_
  refine pu_ 8 (some 10) (m_ 9 511) rfl rfl (by kernel_rfl) (fun _ _ _ h => h) (by rfl) (by intro w'; go_simp; with_reducible rfl) (by simp only [Act.put, List.setIfInBounds_toArray, List.set_cons_zero, List.set_cons_succ, i64_w, i32_w]; rfl) ?_
  refine done_ (by kernel_rfl) ?_
  clear hHeld c2 x1
  replace HS := Lib.hid HS.out.drew
  replace HD := Lib.hid HD.out.drew
  replace HX := Lib.hid (show Blk w1.drew w.heap.size 30 #[.string x, .int .i64 kd, .bool u, .int .i64 o, .int .i64 a, .int .i64 b'] from HX.out)
  generalize w1.drew = w2 at *
  have x1 : w2.cell? ⟨w.heap.size, 1, none⟩ = some (.int .i64 kd) := (HX.out.cell 1).trans rfl
  go_wp2
  go_ret
  exact ⟨rfl, HS.out, HD.out⟩
theorem upd_none (h : SG w F b k s) (ht : held s ≤ 1000000000) (x : ByteArray) (kd : Int) (u : Bool) (o a b' n : Int) (hk : kd = s.t.kind) (h0 : kd = 0) :
    Calls Try.prog 38 #[.pointer (some ⟨b, 0, none⟩), .agg #[.string x, .int .i64 kd, .bool u, .int .i64 o, .int .i64 a, .int .i64 b'], .int .i64 n] w fun e w' =>
      e = .returned (.int .i64 (0)) ∧ SG w' F b k (s) ∧ Did F w w' := by
  have hB0 := (Below.refl w.heap.size w).alloc (Nat.le_refl _) (.cells #[.string x, .int .i64 kd, .bool u, .int .i64 o, .int .i64 a, .int .i64 b'] 30)
  have hX0 := Lib.hid (Blk.new w 30 #[.string x, .int .i64 kd, .bool u, .int .i64 o, .int .i64 a, .int .i64 b'])
  have HS0 := Lib.hid (h.below hB0)
  have HD0 := Lib.hid (Did.of_below (F := F) hB0)
  have hck := fun W => Lib.hid (check_any ⟨x, kd, u, o, a, b'⟩ W)
  have hne : ∀ j, F j → j ≠ w.heap.size := fun j hj e => by have := h.lt hj; omega
  have hNe := Lib.hid hne
  have tk : (kd != s.t.kind) = false := by simpa using hk
  have t0 : (kd == 0) = true := by simpa using h0
  clear hk h0
  generalize chk ⟨x, kd, u, o, a, b'⟩ = E at *
  clear h hB0 hne
  go_enter Try.func38, Try.ntmps38
  go_wp2_with fail
  refine (hck _).out.mono ?_
  rintro e w1 ⟨rfl, hB⟩
  have HS := Lib.hid (HS0.out.below hB)
  have HD := Lib.hid (HD0.out.trans (Stem.refl _ _) (Did.of_below hB))
  have HX := Lib.hid (hX0.out.below hB)
  clear hck hB HS0 HD0 hX0
  have x1 : w1.cell? ⟨w.heap.size, 1, none⟩ = some (.int .i64 kd) := (HX.out.cell 1).trans rfl
  have c2 : w1.cell? ⟨b, 2, none⟩ = some (.int .i64 s.t.kind) := (HS.out.blk.cell 2).trans rfl
  go_wp2
  refine start_ (n := 9) (S := fun w' => w'.cell? ⟨w.heap.size, 1, none⟩ = some (.int .i64 kd) ∧ w'.cell? ⟨b, 2, none⟩ = some (.int .i64 s.t.kind)) (ds := []) (m_ 9 0) (by kernel_rfl) rfl (by kernel_rfl) ⟨x1, c2⟩ (fun hHeld => ?_)
  refine pu_ 0 (some 11) (m_ 9 1) rfl rfl (by kernel_rfl) (fun _ _ _ h => h) (by rfl) (by intro w'; go_simp; with_reducible rfl) (by simp only [Act.put, List.setIfInBounds_toArray, List.set_cons_zero, List.set_cons_succ, i64_w, i32_w]; rfl) ?_
  refine pu_ 2 (some 13) (m_ 9 5) rfl rfl (by kernel_rfl) (fun _ _ _ h => h) (by rfl) (by intro w'; go_simp; with_reducible rfl) (by simp only [Act.put, List.setIfInBounds_toArray, List.set_cons_zero, List.set_cons_succ, i64_w, i32_w]; rfl) ?_
  refine pu_ 3 (some 14) (m_ 9 13) rfl rfl (by kernel_rfl) (fun _ _ _ h => h) (by rfl) (by intro w'; go_simp; with_reducible rfl) (by simp only [Act.put, List.setIfInBounds_toArray, List.set_cons_zero, List.set_cons_succ, i64_w, i32_w]; rfl) ?_
  refine pu_ 4 (some 15) (m_ 9 29) rfl rfl (by kernel_rfl) (fun _ _ _ h => h) (by rfl) (by intro w'; go_simp; with_reducible rfl) (by simp only [Act.put, List.setIfInBounds_toArray, List.set_cons_zero, List.set_cons_succ, i64_w, i32_w]; rfl) ?_
  refine pu_ 5 (some 16) (m_ 9 61) rfl rfl (by kernel_rfl) (fun _ _ _ h => h) (by rfl) (by intro w'; go_simp; with_reducible rfl) (by simp only [Act.put, List.setIfInBounds_toArray, List.set_cons_zero, List.set_cons_succ, i64_w, i32_w]; rfl) ?_
  refine tk_ 1 (some 12) (m_ 9 63) rfl rfl (by kernel_rfl) (fun _ _ _ h => h) (by rfl) (by rintro w' ⟨s0, s1⟩; go_simp; with_reducible rfl) hHeld (by simp only [Act.put, List.setIfInBounds_toArray, List.set_cons_zero, List.set_cons_succ, i64_w, i32_w]; rfl) ?_
  refine tk_ 6 (some 17) (m_ 9 127) rfl rfl (by kernel_rfl) (fun _ _ _ h => h) (by rfl) (by rintro w' ⟨s0, s1⟩; go_simp; with_reducible rfl) hHeld (by simp only [Act.put, List.setIfInBounds_toArray, List.set_cons_zero, List.set_cons_succ, i64_w, i32_w]; rfl) ?_
  refine pu_ 7 (some 18) (m_ 9 255) rfl rfl (by kernel_rfl) (fun _ _ _ h => h) (by rfl) (by intro w'; go_simp; with_reducible rfl) (by simp only [Act.put, List.setIfInBounds_toArray, List.set_cons_zero, List.set_cons_succ, i64_w, i32_w]; rfl) ?_
  refine pu_ 8 (some 10) (m_ 9 511) rfl rfl (by kernel_rfl) (fun _ _ _ h => h) (by rfl) (by intro w'; go_simp; with_reducible rfl) (by simp only [Act.put, List.setIfInBounds_toArray, List.set_cons_zero, List.set_cons_succ, i64_w, i32_w]; rfl) ?_
  refine done_ (by kernel_rfl) ?_
  clear hHeld c2 x1
  replace HS := Lib.hid HS.out.drew
  replace HD := Lib.hid HD.out.drew
  replace HX := Lib.hid (show Blk w1.drew w.heap.size 30 #[.string x, .int .i64 kd, .bool u, .int .i64 o, .int .i64 a, .int .i64 b'] from HX.out)
  generalize w1.drew = w2 at *
  have x1 : w2.cell? ⟨w.heap.size, 1, none⟩ = some (.int .i64 kd) := (HX.out.cell 1).trans rfl
  go_wp2
  go_ret
  exact ⟨rfl, HS.out, HD.out⟩
theorem upd_bad (h : SG w F b k s) (ht : held s ≤ 1000000000) (x : ByteArray) (kd : Int) (u : Bool) (o a b' n : Int) (hk : kd = s.t.kind) (h0 : kd ≠ 0) (hc : chk ⟨x, kd, u, o, a, b'⟩ ≠ 0) :
    Calls Try.prog 38 #[.pointer (some ⟨b, 0, none⟩), .agg #[.string x, .int .i64 kd, .bool u, .int .i64 o, .int .i64 a, .int .i64 b'], .int .i64 n] w fun e w' =>
      e = .returned (.int .i64 (chk ⟨x, kd, u, o, a, b'⟩)) ∧ SG w' F b k (s) ∧ Did F w w' := by
  have hB0 := (Below.refl w.heap.size w).alloc (Nat.le_refl _) (.cells #[.string x, .int .i64 kd, .bool u, .int .i64 o, .int .i64 a, .int .i64 b'] 30)
  have hX0 := Lib.hid (Blk.new w 30 #[.string x, .int .i64 kd, .bool u, .int .i64 o, .int .i64 a, .int .i64 b'])
  have HS0 := Lib.hid (h.below hB0)
  have HD0 := Lib.hid (Did.of_below (F := F) hB0)
  have hck := fun W => Lib.hid (check_any ⟨x, kd, u, o, a, b'⟩ W)
  have hne : ∀ j, F j → j ≠ w.heap.size := fun j hj e => by have := h.lt hj; omega
  have hNe := Lib.hid hne
  have tk : (kd != s.t.kind) = false := by simpa using hk
  have t0 : (kd == 0) = false := by simpa using h0
  have tc : (chk ⟨x, kd, u, o, a, b'⟩ != 0) = true := by simpa using hc
  clear hk h0 hc
  generalize chk ⟨x, kd, u, o, a, b'⟩ = E at *
  clear h hB0 hne
  go_enter Try.func38, Try.ntmps38
  go_wp2_with fail
  refine (hck _).out.mono ?_
  rintro e w1 ⟨rfl, hB⟩
  have HS := Lib.hid (HS0.out.below hB)
  have HD := Lib.hid (HD0.out.trans (Stem.refl _ _) (Did.of_below hB))
  have HX := Lib.hid (hX0.out.below hB)
  clear hck hB HS0 HD0 hX0
  have x1 : w1.cell? ⟨w.heap.size, 1, none⟩ = some (.int .i64 kd) := (HX.out.cell 1).trans rfl
  have c2 : w1.cell? ⟨b, 2, none⟩ = some (.int .i64 s.t.kind) := (HS.out.blk.cell 2).trans rfl
  go_wp2
  refine start_ (n := 9) (S := fun w' => w'.cell? ⟨w.heap.size, 1, none⟩ = some (.int .i64 kd) ∧ w'.cell? ⟨b, 2, none⟩ = some (.int .i64 s.t.kind)) (ds := []) (m_ 9 0) (by kernel_rfl) rfl (by kernel_rfl) ⟨x1, c2⟩ (fun hHeld => ?_)
  refine pu_ 0 (some 11) (m_ 9 1) rfl rfl (by kernel_rfl) (fun _ _ _ h => h) (by rfl) (by intro w'; go_simp; with_reducible rfl) (by simp only [Act.put, List.setIfInBounds_toArray, List.set_cons_zero, List.set_cons_succ, i64_w, i32_w]; rfl) ?_
  refine pu_ 2 (some 13) (m_ 9 5) rfl rfl (by kernel_rfl) (fun _ _ _ h => h) (by rfl) (by intro w'; go_simp; with_reducible rfl) (by simp only [Act.put, List.setIfInBounds_toArray, List.set_cons_zero, List.set_cons_succ, i64_w, i32_w]; rfl) ?_
  refine pu_ 3 (some 14) (m_ 9 13) rfl rfl (by kernel_rfl) (fun _ _ _ h => h) (by rfl) (by intro w'; go_simp; with_reducible rfl) (by simp only [Act.put, List.setIfInBounds_toArray, List.set_cons_zero, List.set_cons_succ, i64_w, i32_w]; rfl) ?_
  refine pu_ 4 (some 15) (m_ 9 29) rfl rfl (by kernel_rfl) (fun _ _ _ h => h) (by rfl) (by intro w'; go_simp; with_reducible rfl) (by simp only [Act.put, List.setIfInBounds_toArray, List.set_cons_zero, List.set_cons_succ, i64_w, i32_w]; rfl) ?_
  refine pu_ 5 (some 16) (m_ 9 61) rfl rfl (by kernel_rfl) (fun _ _ _ h => h) (by rfl) (by intro w'; go_simp; with_reducible rfl) (by simp only [Act.put, List.setIfInBounds_toArray, List.set_cons_zero, List.set_cons_succ, i64_w, i32_w]; rfl) ?_
  refine tk_ 1 (some 12) (m_ 9 63) rfl rfl (by kernel_rfl) (fun _ _ _ h => h) (by rfl) (by rintro w' ⟨s0, s1⟩; go_simp; with_reducible rfl) hHeld (by simp only [Act.put, List.setIfInBounds_toArray, List.set_cons_zero, List.set_cons_succ, i64_w, i32_w]; rfl) ?_
  refine tk_ 6 (some 17) (m_ 9 127) rfl rfl (by kernel_rfl) (fun _ _ _ h => h) (by rfl) (by rintro w' ⟨s0, s1⟩; go_simp; with_reducible rfl) hHeld (by simp only [Act.put, List.setIfInBounds_toArray, List.set_cons_zero, List.set_cons_succ, i64_w, i32_w]; rfl) ?_
  refine pu_ 7 (some 18) (m_ 9 255) rfl rfl (by kernel_rfl) (fun _ _ _ h => h) (by rfl) (by intro w'; go_simp; with_reducible rfl) (by simp only [Act.put, List.setIfInBounds_toArray, List.set_cons_zero, List.set_cons_succ, i64_w, i32_w]; rfl) ?_
  refine pu_ 8 (some 10) (m_ 9 511) rfl rfl (by kernel_rfl) (fun _ _ _ h => h) (by rfl) (by intro w'; go_simp; with_reducible rfl) (by simp only [Act.put, List.setIfInBounds_toArray, List.set_cons_zero, List.set_cons_succ, i64_w, i32_w]; rfl) ?_
  refine done_ (by kernel_rfl) ?_
  clear hHeld c2 x1
  replace HS := Lib.hid HS.out.drew
  replace HD := Lib.hid HD.out.drew
  replace HX := Lib.hid (show Blk w1.drew w.heap.size 30 #[.string x, .int .i64 kd, .bool u, .int .i64 o, .int .i64 a, .int .i64 b'] from HX.out)
  generalize w1.drew = w2 at *
  have x1 : w2.cell? ⟨w.heap.size, 1, none⟩ = some (.int .i64 kd) := (HX.out.cell 1).trans rfl
  go_wp2
  go_ret
  exact ⟨rfl, HS.out, HD.out⟩
theorem upd_else (h : SG w F b k s) (ht : held s ≤ 1000000000) (x : ByteArray) (kd : Int) (u : Bool) (o a b' n : Int) (hk : kd = s.t.kind) (h0 : kd ≠ 0) (hc : chk ⟨x, kd, u, o, a, b'⟩ = 0) (hc0 : 0 ≤ s.clock) (hc1 : s.clock ≤ 1099511627776) (h2 : kd ≠ 2) :
    Calls Try.prog 38 #[.pointer (some ⟨b, 0, none⟩), .agg #[.string x, .int .i64 kd, .bool u, .int .i64 o, .int .i64 a, .int .i64 b'], .int .i64 n] w fun e w' =>
      e = .returned (.int .i64 (0)) ∧ SG w' F b k ({ lookP s n with t := ⟨x, kd, u, o, a, b'⟩ }) ∧ Did F w w' := by
  have hB0 := (Below.refl w.heap.size w).alloc (Nat.le_refl _) (.cells #[.string x, .int .i64 kd, .bool u, .int .i64 o, .int .i64 a, .int .i64 b'] 30)
  have hX0 := Lib.hid (Blk.new w 30 #[.string x, .int .i64 kd, .bool u, .int .i64 o, .int .i64 a, .int .i64 b'])
  have HS0 := Lib.hid (h.below hB0)
  have HD0 := Lib.hid (Did.of_below (F := F) hB0)
  have hck := fun W => Lib.hid (check_any ⟨x, kd, u, o, a, b'⟩ W)
  have hne : ∀ j, F j → j ≠ w.heap.size := fun j hj e => by have := h.lt hj; omega
  have hNe := Lib.hid hne
  have tk : (kd != s.t.kind) = false := by simpa using hk
  have t0 : (kd == 0) = false := by simpa using h0
  have tc : (chk ⟨x, kd, u, o, a, b'⟩ != 0) = false := by simpa using hc
  have t2 : (kd == 2) = false := by simpa using h2
  clear hk h0 hc h2
  generalize chk ⟨x, kd, u, o, a, b'⟩ = E at *
  clear h hB0 hne
  go_enter Try.func38, Try.ntmps38
  go_wp2_with fail
  refine (hck _).out.mono ?_
  rintro e w1 ⟨rfl, hB⟩
  have HS := Lib.hid (HS0.out.below hB)
  have HD := Lib.hid (HD0.out.trans (Stem.refl _ _) (Did.of_below hB))
  have HX := Lib.hid (hX0.out.below hB)
  clear hck hB HS0 HD0 hX0
  have x1 : w1.cell? ⟨w.heap.size, 1, none⟩ = some (.int .i64 kd) := (HX.out.cell 1).trans rfl
  have c2 : w1.cell? ⟨b, 2, none⟩ = some (.int .i64 s.t.kind) := (HS.out.blk.cell 2).trans rfl
  go_wp2
  refine start_ (n := 9) (S := fun w' => w'.cell? ⟨w.heap.size, 1, none⟩ = some (.int .i64 kd) ∧ w'.cell? ⟨b, 2, none⟩ = some (.int .i64 s.t.kind)) (ds := []) (m_ 9 0) (by kernel_rfl) rfl (by kernel_rfl) ⟨x1, c2⟩ (fun hHeld => ?_)
  refine pu_ 0 (some 11) (m_ 9 1) rfl rfl (by kernel_rfl) (fun _ _ _ h => h) (by rfl) (by intro w'; go_simp; with_reducible rfl) (by simp only [Act.put, List.setIfInBounds_toArray, List.set_cons_zero, List.set_cons_succ, i64_w, i32_w]; rfl) ?_
  refine pu_ 2 (some 13) (m_ 9 5) rfl rfl (by kernel_rfl) (fun _ _ _ h => h) (by rfl) (by intro w'; go_simp; with_reducible rfl) (by simp only [Act.put, List.setIfInBounds_toArray, List.set_cons_zero, List.set_cons_succ, i64_w, i32_w]; rfl) ?_
  refine pu_ 3 (some 14) (m_ 9 13) rfl rfl (by kernel_rfl) (fun _ _ _ h => h) (by rfl) (by intro w'; go_simp; with_reducible rfl) (by simp only [Act.put, List.setIfInBounds_toArray, List.set_cons_zero, List.set_cons_succ, i64_w, i32_w]; rfl) ?_
  refine pu_ 4 (some 15) (m_ 9 29) rfl rfl (by kernel_rfl) (fun _ _ _ h => h) (by rfl) (by intro w'; go_simp; with_reducible rfl) (by simp only [Act.put, List.setIfInBounds_toArray, List.set_cons_zero, List.set_cons_succ, i64_w, i32_w]; rfl) ?_
  refine pu_ 5 (some 16) (m_ 9 61) rfl rfl (by kernel_rfl) (fun _ _ _ h => h) (by rfl) (by intro w'; go_simp; with_reducible rfl) (by simp only [Act.put, List.setIfInBounds_toArray, List.set_cons_zero, List.set_cons_succ, i64_w, i32_w]; rfl) ?_
  refine tk_ 1 (some 12) (m_ 9 63) rfl rfl (by kernel_rfl) (fun _ _ _ h => h) (by rfl) (by rintro w' ⟨s0, s1⟩; go_simp; with_reducible rfl) hHeld (by simp only [Act.put, List.setIfInBounds_toArray, List.set_cons_zero, List.set_cons_succ, i64_w, i32_w]; rfl) ?_
  refine tk_ 6 (some 17) (m_ 9 127) rfl rfl (by kernel_rfl) (fun _ _ _ h => h) (by rfl) (by rintro w' ⟨s0, s1⟩; go_simp; with_reducible rfl) hHeld (by simp only [Act.put, List.setIfInBounds_toArray, List.set_cons_zero, List.set_cons_succ, i64_w, i32_w]; rfl) ?_
  refine pu_ 7 (some 18) (m_ 9 255) rfl rfl (by kernel_rfl) (fun _ _ _ h => h) (by rfl) (by intro w'; go_simp; with_reducible rfl) (by simp only [Act.put, List.setIfInBounds_toArray, List.set_cons_zero, List.set_cons_succ, i64_w, i32_w]; rfl) ?_
  refine pu_ 8 (some 10) (m_ 9 511) rfl rfl (by kernel_rfl) (fun _ _ _ h => h) (by rfl) (by intro w'; go_simp; with_reducible rfl) (by simp only [Act.put, List.setIfInBounds_toArray, List.set_cons_zero, List.set_cons_succ, i64_w, i32_w]; rfl) ?_
  refine done_ (by kernel_rfl) ?_
  clear hHeld c2 x1
  replace HS := Lib.hid HS.out.drew
  replace HD := Lib.hid HD.out.drew
  replace HX := Lib.hid (show Blk w1.drew w.heap.size 30 #[.string x, .int .i64 kd, .bool u, .int .i64 o, .int .i64 a, .int .i64 b'] from HX.out)
  generalize w1.drew = w2 at *
  have x1 : w2.cell? ⟨w.heap.size, 1, none⟩ = some (.int .i64 kd) := (HX.out.cell 1).trans rfl
  go_wp2_with fail
  refine (state_any HS.out (by omega) n).mono ?_
  rintro e w3 ⟨rfl, hS3, hD3⟩
  have HS3 := Lib.hid hS3
  have HD3 := Lib.hid (HD.out.trans (Stem.refl _ _) hD3)
  have HX3 := Lib.hid (HX.out.did hD3 (fun h => hNe.out _ h rfl))
  have hcl := Lib.hid (look_clock s n hc0 hc1)
  have hbb : (lookP s n).b0 = s.b0 ∧ (lookP s n).b1 = s.b1 ∧ (lookP s n).b2 = s.b2 ∧ (lookP s n).b3 = s.b3 := ⟨rfl, rfl, rfl, rfl⟩
  have hbb' := Lib.hid hbb
  clear hS3 hD3 HS HD HX x1 hc0 hc1 hbb
  generalize hs1E : lookP s n = s1 at *
  have hs1 := Lib.hid hs1E
  clear hs1E
  have hbl : b < w3.heap.size := HS3.out.lt HS3.out.mine
  have x0 : w3.cell? ⟨w.heap.size, 0, none⟩ = some (.string x) := (HX3.out.cell 0).trans rfl
  have x1 : w3.cell? ⟨w.heap.size, 1, none⟩ = some (.int .i64 kd) := (HX3.out.cell 1).trans rfl
  have x2 : w3.cell? ⟨w.heap.size, 2, none⟩ = some (.bool u) := (HX3.out.cell 2).trans rfl
  have x3 : w3.cell? ⟨w.heap.size, 3, none⟩ = some (.int .i64 o) := (HX3.out.cell 3).trans rfl
  have x4 : w3.cell? ⟨w.heap.size, 4, none⟩ = some (.int .i64 a) := (HX3.out.cell 4).trans rfl
  have x5 : w3.cell? ⟨w.heap.size, 5, none⟩ = some (.int .i64 b') := (HX3.out.cell 5).trans rfl
  have c1 : w3.cell? ⟨b, 1, none⟩ = some (.string s1.t.name) := (HS3.out.blk.cell 1).trans rfl
  have f1 := HS3.out.blk.free 1
  have c2 : w3.cell? ⟨b, 2, none⟩ = some (.int .i64 s1.t.kind) := (HS3.out.blk.cell 2).trans rfl
  have f2 := HS3.out.blk.free 2
  have c3 : w3.cell? ⟨b, 3, none⟩ = some (.bool s1.t.up) := (HS3.out.blk.cell 3).trans rfl
  have f3 := HS3.out.blk.free 3
  have c4 : w3.cell? ⟨b, 4, none⟩ = some (.int .i64 s1.t.often) := (HS3.out.blk.cell 4).trans rfl
  have f4 := HS3.out.blk.free 4
  have c5 : w3.cell? ⟨b, 5, none⟩ = some (.int .i64 s1.t.a) := (HS3.out.blk.cell 5).trans rfl
  have f5 := HS3.out.blk.free 5
  have c6 : w3.cell? ⟨b, 6, none⟩ = some (.int .i64 s1.t.b) := (HS3.out.blk.cell 6).trans rfl
  have f6 := HS3.out.blk.free 6
  go_upto_region 10 with (fail)
  have HS4 := Lib.hid (HS3.out.tox x kd u o a b')
  have HD4 := Lib.hid (Did.tox HD3.out HS3.out.mine x kd u o a b')
  have hFb := HS3.out.mine
  have hX4 := Lib.hid ((((((HX3.out.far (p := ⟨b, 1, none⟩) (fun e => hNe.out _ hFb e.symm) (.string x)).far (p := ⟨b, 2, none⟩) (fun e => hNe.out _ hFb e.symm) (.int .i64 kd)).far (p := ⟨b, 3, none⟩) (fun e => hNe.out _ hFb e.symm) (.bool u)).far (p := ⟨b, 4, none⟩) (fun e => hNe.out _ hFb e.symm) (.int .i64 o)).far (p := ⟨b, 5, none⟩) (fun e => hNe.out _ hFb e.symm) (.int .i64 a)).far (p := ⟨b, 6, none⟩) (fun e => hNe.out _ hFb e.symm) (.int .i64 b'))
  clear x0 x1 x2 x3 x4 x5 c1 c2 c3 c4 c5 c6 f1 f2 f3 f4 f5 f6 HS3 HD3 HX3 hbl
  generalize (((((w3.setCell ⟨b, 1, none⟩ (.string x)).setCell ⟨b, 2, none⟩ (.int .i64 kd)).setCell ⟨b, 3, none⟩ (.bool u)).setCell ⟨b, 4, none⟩ (.int .i64 o)).setCell ⟨b, 5, none⟩ (.int .i64 a)).setCell ⟨b, 6, none⟩ (.int .i64 b') = w4 at *
  have x1 : w4.cell? ⟨w.heap.size, 1, none⟩ = some (.int .i64 kd) := (hX4.out.cell 1).trans rfl
  go_wp2
  go_ret
  rw [hs1.out]
  exact ⟨rfl, HS4.out, HD4.out⟩
theorem upd_two (h : SG w F b k s) (ht : held s ≤ 1000000000) (x : ByteArray) (kd : Int) (u : Bool) (o a b' n : Int) (hk : kd = s.t.kind) (h0 : kd ≠ 0) (hc : chk ⟨x, kd, u, o, a, b'⟩ = 0) (hc0 : 0 ≤ s.clock) (hc1 : s.clock ≤ 1099511627776) (h2 : kd = 2) (hb : Bucket.okB s.b0 s.b1 s.b2 s.b3 = true) :
    Calls Try.prog 38 #[.pointer (some ⟨b, 0, none⟩), .agg #[.string x, .int .i64 kd, .bool u, .int .i64 o, .int .i64 a, .int .i64 b'], .int .i64 n] w fun e w' =>
      e = .returned (.int .i64 (0)) ∧ SG w' F b k ({ lookP s n with t := ⟨x, kd, u, o, a, b'⟩, b0 := a, b1 := b', b2 := min (Bucket.fillL s.b0 s.b1 s.b2 s.b3 (lookP s n).clock) b', b3 := Bucket.fillT s.b0 s.b1 s.b2 s.b3 (lookP s n).clock }) ∧ Did F w w' := by
  have hB0 := (Below.refl w.heap.size w).alloc (Nat.le_refl _) (.cells #[.string x, .int .i64 kd, .bool u, .int .i64 o, .int .i64 a, .int .i64 b'] 30)
  have hX0 := Lib.hid (Blk.new w 30 #[.string x, .int .i64 kd, .bool u, .int .i64 o, .int .i64 a, .int .i64 b'])
  have HS0 := Lib.hid (h.below hB0)
  have HD0 := Lib.hid (Did.of_below (F := F) hB0)
  have hck := fun W => Lib.hid (check_any ⟨x, kd, u, o, a, b'⟩ W)
  have hne : ∀ j, F j → j ≠ w.heap.size := fun j hj e => by have := h.lt hj; omega
  have hNe := Lib.hid hne
  have tk : (kd != s.t.kind) = false := by simpa using hk
  have t0 : (kd == 0) = false := by simpa using h0
  have tc : (chk ⟨x, kd, u, o, a, b'⟩ != 0) = false := by simpa using hc
  have t2 : (kd == 2) = true := by simpa using h2
  have hok := fun T h0 h1 => Lib.hid (fit_bucketT (t := ⟨x, kd, u, o, a, b'⟩) hc h2 T h0 h1)
  have hb' := Lib.hid hb
  clear hk h0 hc h2 hb
  generalize chk ⟨x, kd, u, o, a, b'⟩ = E at *
  clear h hB0 hne
  go_enter Try.func38, Try.ntmps38
  go_wp2_with fail
  refine (hck _).out.mono ?_
  rintro e w1 ⟨rfl, hB⟩
  have HS := Lib.hid (HS0.out.below hB)
  have HD := Lib.hid (HD0.out.trans (Stem.refl _ _) (Did.of_below hB))
  have HX := Lib.hid (hX0.out.below hB)
  clear hck hB HS0 HD0 hX0
  have x1 : w1.cell? ⟨w.heap.size, 1, none⟩ = some (.int .i64 kd) := (HX.out.cell 1).trans rfl
  have c2 : w1.cell? ⟨b, 2, none⟩ = some (.int .i64 s.t.kind) := (HS.out.blk.cell 2).trans rfl
  go_wp2
  refine start_ (n := 9) (S := fun w' => w'.cell? ⟨w.heap.size, 1, none⟩ = some (.int .i64 kd) ∧ w'.cell? ⟨b, 2, none⟩ = some (.int .i64 s.t.kind)) (ds := []) (m_ 9 0) (by kernel_rfl) rfl (by kernel_rfl) ⟨x1, c2⟩ (fun hHeld => ?_)
  refine pu_ 0 (some 11) (m_ 9 1) rfl rfl (by kernel_rfl) (fun _ _ _ h => h) (by rfl) (by intro w'; go_simp; with_reducible rfl) (by simp only [Act.put, List.setIfInBounds_toArray, List.set_cons_zero, List.set_cons_succ, i64_w, i32_w]; rfl) ?_
  refine pu_ 2 (some 13) (m_ 9 5) rfl rfl (by kernel_rfl) (fun _ _ _ h => h) (by rfl) (by intro w'; go_simp; with_reducible rfl) (by simp only [Act.put, List.setIfInBounds_toArray, List.set_cons_zero, List.set_cons_succ, i64_w, i32_w]; rfl) ?_
  refine pu_ 3 (some 14) (m_ 9 13) rfl rfl (by kernel_rfl) (fun _ _ _ h => h) (by rfl) (by intro w'; go_simp; with_reducible rfl) (by simp only [Act.put, List.setIfInBounds_toArray, List.set_cons_zero, List.set_cons_succ, i64_w, i32_w]; rfl) ?_
  refine pu_ 4 (some 15) (m_ 9 29) rfl rfl (by kernel_rfl) (fun _ _ _ h => h) (by rfl) (by intro w'; go_simp; with_reducible rfl) (by simp only [Act.put, List.setIfInBounds_toArray, List.set_cons_zero, List.set_cons_succ, i64_w, i32_w]; rfl) ?_
  refine pu_ 5 (some 16) (m_ 9 61) rfl rfl (by kernel_rfl) (fun _ _ _ h => h) (by rfl) (by intro w'; go_simp; with_reducible rfl) (by simp only [Act.put, List.setIfInBounds_toArray, List.set_cons_zero, List.set_cons_succ, i64_w, i32_w]; rfl) ?_
  refine tk_ 1 (some 12) (m_ 9 63) rfl rfl (by kernel_rfl) (fun _ _ _ h => h) (by rfl) (by rintro w' ⟨s0, s1⟩; go_simp; with_reducible rfl) hHeld (by simp only [Act.put, List.setIfInBounds_toArray, List.set_cons_zero, List.set_cons_succ, i64_w, i32_w]; rfl) ?_
  refine tk_ 6 (some 17) (m_ 9 127) rfl rfl (by kernel_rfl) (fun _ _ _ h => h) (by rfl) (by rintro w' ⟨s0, s1⟩; go_simp; with_reducible rfl) hHeld (by simp only [Act.put, List.setIfInBounds_toArray, List.set_cons_zero, List.set_cons_succ, i64_w, i32_w]; rfl) ?_
  refine pu_ 7 (some 18) (m_ 9 255) rfl rfl (by kernel_rfl) (fun _ _ _ h => h) (by rfl) (by intro w'; go_simp; with_reducible rfl) (by simp only [Act.put, List.setIfInBounds_toArray, List.set_cons_zero, List.set_cons_succ, i64_w, i32_w]; rfl) ?_
  refine pu_ 8 (some 10) (m_ 9 511) rfl rfl (by kernel_rfl) (fun _ _ _ h => h) (by rfl) (by intro w'; go_simp; with_reducible rfl) (by simp only [Act.put, List.setIfInBounds_toArray, List.set_cons_zero, List.set_cons_succ, i64_w, i32_w]; rfl) ?_
  refine done_ (by kernel_rfl) ?_
  clear hHeld c2 x1
  replace HS := Lib.hid HS.out.drew
  replace HD := Lib.hid HD.out.drew
  replace HX := Lib.hid (show Blk w1.drew w.heap.size 30 #[.string x, .int .i64 kd, .bool u, .int .i64 o, .int .i64 a, .int .i64 b'] from HX.out)
  generalize w1.drew = w2 at *
  have x1 : w2.cell? ⟨w.heap.size, 1, none⟩ = some (.int .i64 kd) := (HX.out.cell 1).trans rfl
  go_wp2_with fail
  refine (state_any HS.out (by omega) n).mono ?_
  rintro e w3 ⟨rfl, hS3, hD3⟩
  have HS3 := Lib.hid hS3
  have HD3 := Lib.hid (HD.out.trans (Stem.refl _ _) hD3)
  have HX3 := Lib.hid (HX.out.did hD3 (fun h => hNe.out _ h rfl))
  have hcl := Lib.hid (look_clock s n hc0 hc1)
  have hbb : (lookP s n).b0 = s.b0 ∧ (lookP s n).b1 = s.b1 ∧ (lookP s n).b2 = s.b2 ∧ (lookP s n).b3 = s.b3 := ⟨rfl, rfl, rfl, rfl⟩
  have hbb' := Lib.hid hbb
  clear hS3 hD3 HS HD HX x1 hc0 hc1 hbb
  generalize hs1E : lookP s n = s1 at *
  have hs1 := Lib.hid hs1E
  clear hs1E
  have hbl : b < w3.heap.size := HS3.out.lt HS3.out.mine
  have x0 : w3.cell? ⟨w.heap.size, 0, none⟩ = some (.string x) := (HX3.out.cell 0).trans rfl
  have x1 : w3.cell? ⟨w.heap.size, 1, none⟩ = some (.int .i64 kd) := (HX3.out.cell 1).trans rfl
  have x2 : w3.cell? ⟨w.heap.size, 2, none⟩ = some (.bool u) := (HX3.out.cell 2).trans rfl
  have x3 : w3.cell? ⟨w.heap.size, 3, none⟩ = some (.int .i64 o) := (HX3.out.cell 3).trans rfl
  have x4 : w3.cell? ⟨w.heap.size, 4, none⟩ = some (.int .i64 a) := (HX3.out.cell 4).trans rfl
  have x5 : w3.cell? ⟨w.heap.size, 5, none⟩ = some (.int .i64 b') := (HX3.out.cell 5).trans rfl
  have c1 : w3.cell? ⟨b, 1, none⟩ = some (.string s1.t.name) := (HS3.out.blk.cell 1).trans rfl
  have f1 := HS3.out.blk.free 1
  have c2 : w3.cell? ⟨b, 2, none⟩ = some (.int .i64 s1.t.kind) := (HS3.out.blk.cell 2).trans rfl
  have f2 := HS3.out.blk.free 2
  have c3 : w3.cell? ⟨b, 3, none⟩ = some (.bool s1.t.up) := (HS3.out.blk.cell 3).trans rfl
  have f3 := HS3.out.blk.free 3
  have c4 : w3.cell? ⟨b, 4, none⟩ = some (.int .i64 s1.t.often) := (HS3.out.blk.cell 4).trans rfl
  have f4 := HS3.out.blk.free 4
  have c5 : w3.cell? ⟨b, 5, none⟩ = some (.int .i64 s1.t.a) := (HS3.out.blk.cell 5).trans rfl
  have f5 := HS3.out.blk.free 5
  have c6 : w3.cell? ⟨b, 6, none⟩ = some (.int .i64 s1.t.b) := (HS3.out.blk.cell 6).trans rfl
  have f6 := HS3.out.blk.free 6
  go_upto_region 10 with (fail)
  have HS4 := Lib.hid (HS3.out.tox x kd u o a b')
  have HD4 := Lib.hid (Did.tox HD3.out HS3.out.mine x kd u o a b')
  have hFb := HS3.out.mine
  have hX4 := Lib.hid ((((((HX3.out.far (p := ⟨b, 1, none⟩) (fun e => hNe.out _ hFb e.symm) (.string x)).far (p := ⟨b, 2, none⟩) (fun e => hNe.out _ hFb e.symm) (.int .i64 kd)).far (p := ⟨b, 3, none⟩) (fun e => hNe.out _ hFb e.symm) (.bool u)).far (p := ⟨b, 4, none⟩) (fun e => hNe.out _ hFb e.symm) (.int .i64 o)).far (p := ⟨b, 5, none⟩) (fun e => hNe.out _ hFb e.symm) (.int .i64 a)).far (p := ⟨b, 6, none⟩) (fun e => hNe.out _ hFb e.symm) (.int .i64 b'))
  clear x0 x1 x2 x3 x4 x5 c1 c2 c3 c4 c5 c6 f1 f2 f3 f4 f5 f6 HS3 HD3 HX3 hbl
  generalize (((((w3.setCell ⟨b, 1, none⟩ (.string x)).setCell ⟨b, 2, none⟩ (.int .i64 kd)).setCell ⟨b, 3, none⟩ (.bool u)).setCell ⟨b, 4, none⟩ (.int .i64 o)).setCell ⟨b, 5, none⟩ (.int .i64 a)).setCell ⟨b, 6, none⟩ (.int .i64 b') = w4 at *
  have x1 : w4.cell? ⟨w.heap.size, 1, none⟩ = some (.int .i64 kd) := (hX4.out.cell 1).trans rfl
  go_wp2
  have c8 : w4.cell? ⟨b, 8, none⟩ = some (.int .i64 s.b0) := (HS4.out.blk.cell 8).trans (by rw [← hbb'.out.1]; rfl)
  have c9 : w4.cell? ⟨b, 9, none⟩ = some (.int .i64 s.b1) := (HS4.out.blk.cell 9).trans (by rw [← hbb'.out.2.1]; rfl)
  have c10 : w4.cell? ⟨b, 10, none⟩ = some (.int .i64 s.b2) := (HS4.out.blk.cell 10).trans (by rw [← hbb'.out.2.2.1]; rfl)
  have c11 : w4.cell? ⟨b, 11, none⟩ = some (.int .i64 s.b3) := (HS4.out.blk.cell 11).trans (by rw [← hbb'.out.2.2.2]; rfl)
  have c14 : w4.cell? ⟨b, 14, none⟩ = some (.int .i64 s1.clock) := (HS4.out.blk.cell 14).trans rfl
  have x4 : w4.cell? ⟨w.heap.size, 4, none⟩ = some (.int .i64 a) := (hX4.out.cell 4).trans rfl
  have x5 : w4.cell? ⟨w.heap.size, 5, none⟩ = some (.int .i64 b') := (hX4.out.cell 5).trans rfl
  have HF := Lib.hid (show Did F w4 w4 ∧ True from ⟨Did.refl _ _, trivial⟩)
  refine start_ (n := 20) (S := fun w' => w'.cell? ⟨b, 8, none⟩ = some (.int .i64 s.b0) ∧ w'.cell? ⟨b, 9, none⟩ = some (.int .i64 s.b1) ∧ w'.cell? ⟨b, 10, none⟩ = some (.int .i64 s.b2) ∧ w'.cell? ⟨b, 11, none⟩ = some (.int .i64 s.b3) ∧ w'.cell? ⟨b, 14, none⟩ = some (.int .i64 s1.clock) ∧ w'.cell? ⟨w.heap.size, 4, none⟩ = some (.int .i64 a) ∧ w'.cell? ⟨w.heap.size, 5, none⟩ = some (.int .i64 b')) (ds := [19]) (m_ 20 0) (by kernel_rfl) rfl (by kernel_rfl) ⟨c8, c9, c10, c11, c14, x4, x5⟩ (fun hHeld => ?_)
  refine pu_ 0 (some 38) (m_ 20 1) rfl rfl (by kernel_rfl) (fun _ _ _ h => h) (by rfl) (by intro w'; go_simp; with_reducible rfl) (by simp only [Act.put, List.setIfInBounds_toArray, List.set_cons_zero, List.set_cons_succ, i64_w, i32_w]; rfl) ?_
  refine pu_ 1 (some 39) (m_ 20 3) rfl rfl (by kernel_rfl) (fun _ _ _ h => h) (by rfl) (by intro w'; go_simp; with_reducible rfl) (by simp only [Act.put, List.setIfInBounds_toArray, List.set_cons_zero, List.set_cons_succ, i64_w, i32_w]; rfl) ?_
  refine pu_ 2 (some 40) (m_ 20 7) rfl rfl (by kernel_rfl) (fun _ _ _ h => h) (by rfl) (by intro w'; go_simp; with_reducible rfl) (by simp only [Act.put, List.setIfInBounds_toArray, List.set_cons_zero, List.set_cons_succ, i64_w, i32_w]; rfl) ?_
  refine pu_ 3 (some 41) (m_ 20 15) rfl rfl (by kernel_rfl) (fun _ _ _ h => h) (by rfl) (by intro w'; go_simp; with_reducible rfl) (by simp only [Act.put, List.setIfInBounds_toArray, List.set_cons_zero, List.set_cons_succ, i64_w, i32_w]; rfl) ?_
  refine pu_ 5 (some 43) (m_ 20 47) rfl rfl (by kernel_rfl) (fun _ _ _ h => h) (by rfl) (by intro w'; go_simp; with_reducible rfl) (by simp only [Act.put, List.setIfInBounds_toArray, List.set_cons_zero, List.set_cons_succ, i64_w, i32_w]; rfl) ?_
  refine pu_ 7 (some 45) (m_ 20 175) rfl rfl (by kernel_rfl) (fun _ _ _ h => h) (by rfl) (by intro w'; go_simp; with_reducible rfl) (by simp only [Act.put, List.setIfInBounds_toArray, List.set_cons_zero, List.set_cons_succ, i64_w, i32_w]; rfl) ?_
  refine pu_ 9 (some 47) (m_ 20 687) rfl rfl (by kernel_rfl) (fun _ _ _ h => h) (by rfl) (by intro w'; go_simp; with_reducible rfl) (by simp only [Act.put, List.setIfInBounds_toArray, List.set_cons_zero, List.set_cons_succ, i64_w, i32_w]; rfl) ?_
  refine pu_ 10 (some 48) (m_ 20 1711) rfl rfl (by kernel_rfl) (fun _ _ _ h => h) (by rfl) (by intro w'; go_simp; with_reducible rfl) (by simp only [Act.put, List.setIfInBounds_toArray, List.set_cons_zero, List.set_cons_succ, i64_w, i32_w]; rfl) ?_
  refine pu_ 11 (some 49) (m_ 20 3759) rfl rfl (by kernel_rfl) (fun _ _ _ h => h) (by rfl) (by intro w'; go_simp; with_reducible rfl) (by simp only [Act.put, List.setIfInBounds_toArray, List.set_cons_zero, List.set_cons_succ, i64_w, i32_w]; rfl) ?_
  refine tk_ 4 (some 42) (m_ 20 3775) rfl rfl (by kernel_rfl) (fun _ _ _ h => h) (by rfl) (by rintro w' ⟨s0, s1, s2, s3, s4, s5, s6⟩; go_simp; with_reducible rfl) hHeld (by simp only [Act.put, List.setIfInBounds_toArray, List.set_cons_zero, List.set_cons_succ, i64_w, i32_w]; rfl) ?_
  refine tk_ 6 (some 44) (m_ 20 3839) rfl rfl (by kernel_rfl) (fun _ _ _ h => h) (by rfl) (by rintro w' ⟨s0, s1, s2, s3, s4, s5, s6⟩; go_simp; with_reducible rfl) hHeld (by simp only [Act.put, List.setIfInBounds_toArray, List.set_cons_zero, List.set_cons_succ, i64_w, i32_w]; rfl) ?_
  refine tk_ 8 (some 46) (m_ 20 4095) rfl rfl (by kernel_rfl) (fun _ _ _ h => h) (by rfl) (by rintro w' ⟨s0, s1, s2, s3, s4, s5, s6⟩; go_simp; with_reducible rfl) hHeld (by simp only [Act.put, List.setIfInBounds_toArray, List.set_cons_zero, List.set_cons_succ, i64_w, i32_w]; rfl) ?_
  refine tk_ 12 (some 50) (m_ 20 8191) rfl rfl (by kernel_rfl) (fun _ _ _ h => h) (by rfl) (by rintro w' ⟨s0, s1, s2, s3, s4, s5, s6⟩; go_simp; with_reducible rfl) hHeld (by simp only [Act.put, List.setIfInBounds_toArray, List.set_cons_zero, List.set_cons_succ, i64_w, i32_w]; rfl) ?_
  refine one_ (i := 13) (N := some 51) (m_ 20 16383) rfl rfl (by kernel_rfl) (by decide) (fun K hK => ?_)
  refine goes_ Try.func55 (by kernel_rfl) rfl #[.agg #[.int .i64 s.b0, .int .i64 s.b1, .int .i64 s.b2, .int .i64 s.b3], .int .i64 a, .int .i64 b', .int .i64 s1.clock] (by rfl) rfl rfl (by simp only [List.map_toArray, List.map_cons, List.map_nil]; rfl) ?_
  with_reducible refine (Bucket.bchange_yes s.b0 s.b1 s.b2 s.b3 a b' s1.clock w4.drew hb'.out (hok s1.clock hcl.out.1 hcl.out.2).out).mono ?_
  rintro e w5 ⟨rfl, hB⟩
  have hB1 := below_drew hB
  have HS5 := Lib.hid (HS4.out.below hB1)
  have HD5 := Lib.hid (HD4.out.trans (Stem.refl _ _) (Did.of_below hB1))
  have d8 := bcells hB1 c8
  have d9 := bcells hB1 c9
  have d10 := bcells hB1 c10
  have d11 := bcells hB1 c11
  have d14 := bcells hB1 c14
  have y4 := bcells hB1 x4
  have y5 := bcells hB1 x5
  have hbl : b < w5.heap.size := HS5.out.lt HS5.out.mine
  have f8 := HS5.out.blk.free 8
  have f9 := HS5.out.blk.free 9
  have f10 := HS5.out.blk.free 10
  have f11 := HS5.out.blk.free 11
  clear hB hB1
  generalize hLE : Bucket.fillL s.b0 s.b1 s.b2 s.b3 s1.clock = L at *
  generalize hTE : Bucket.fillT s.b0 s.b1 s.b2 s.b3 s1.clock = T at *
  generalize hME : min L b' = M at *
  have hL := Lib.hid hLE
  have hT := Lib.hid hTE
  have hM := Lib.hid hME
  clear hLE hTE hME
  refine ⟨_, rfl, ?_⟩
  refine hK.out _ _ ⟨d8, d9, d10, d11, d14, y4, y5⟩ (fun hHeld => ?_)
  clear hK K
  refine norm_ (a' := ?_) ?_ ?_
  rotate_left
  · show Act.put _ (some 51) _ = _
    simp only [Act.put, List.setIfInBounds_toArray, List.set_cons_zero, List.set_cons_succ, i64_w, i32_w]
    rfl
  refine pu_ 14 (some 37) (m_ 20 32767) rfl rfl (by kernel_rfl) (fun _ _ _ h => h) (by rfl) (by intro w'; go_simp; with_reducible rfl) (by simp only [Act.put, List.setIfInBounds_toArray, List.set_cons_zero, List.set_cons_succ, i64_w, i32_w]; rfl) ?_
  refine pu_ 15 (some 52) (m_ 20 65535) rfl rfl (by kernel_rfl) (fun _ _ _ h => h) (by rfl) (by intro w'; go_simp; with_reducible rfl) (by simp only [Act.put, List.setIfInBounds_toArray, List.set_cons_zero, List.set_cons_succ, i64_w, i32_w]; rfl) ?_
  refine pu_ 16 (some 53) (m_ 20 131071) rfl rfl (by kernel_rfl) (fun _ _ _ h => h) (by rfl) (by intro w'; go_simp; with_reducible rfl) (by simp only [Act.put, List.setIfInBounds_toArray, List.set_cons_zero, List.set_cons_succ, i64_w, i32_w]; rfl) ?_
  refine pu_ 17 (some 54) (m_ 20 262143) rfl rfl (by kernel_rfl) (fun _ _ _ h => h) (by rfl) (by intro w'; go_simp; with_reducible rfl) (by simp only [Act.put, List.setIfInBounds_toArray, List.set_cons_zero, List.set_cons_succ, i64_w, i32_w]; rfl) ?_
  refine pu_ 18 (some 55) (m_ 20 524287) rfl rfl (by kernel_rfl) (fun _ _ _ h => h) (by rfl) (by intro w'; go_simp; with_reducible rfl) (by simp only [Act.put, List.setIfInBounds_toArray, List.set_cons_zero, List.set_cons_succ, i64_w, i32_w]; rfl) ?_
  refine last_ (i := 19) (N := none) (m_ 20 1048575) rfl rfl (by kernel_rfl) (by decide) (fun K hK => ?_)
  refine skip_ (w1 := ?_) (by rfl) rfl ?_ ?_
  rotate_left
  · go_simp
    rfl
  refine hK.out _ _ ?_
  clear hK K
  refine done_ (by kernel_rfl) ?_
  go_wp2
  go_ret
  refine ⟨rfl, ?_, (((HD5.out.setCell (p := ⟨b, 8, none⟩) (.inl HS5.out.mine) _).setCell (p := ⟨b, 9, none⟩) (.inl HS5.out.mine) _).setCell (p := ⟨b, 10, none⟩) (.inl HS5.out.mine) _).setCell (p := ⟨b, 11, none⟩) (.inl HS5.out.mine) _⟩
  rw [hs1.out, hL.out, hT.out, hM.out]
  exact HS5.out.bucket4 a b' M T
theorem update_any (h : SG w F b k s) (ht : held s ≤ 1000000000) (t : Tox) (n : Int) (hc0 : 0 ≤ s.clock) (hc1 : s.clock ≤ 1099511627776) (hb : s.t.kind = 2 → Bucket.okB s.b0 s.b1 s.b2 s.b3 = true) :
    Calls Try.prog 38 #[.pointer (some ⟨b, 0, none⟩), t.v, .int .i64 n] w fun e w' => e = .returned (.int .i64 (updE s t)) ∧ SG w' F b k (updS s t n) ∧ Did F w w' := by
  obtain ⟨x, kd, u, o, a, b'⟩ := t
  unfold updE updS
  by_cases hk : kd = s.t.kind
  · by_cases h0 : kd = 0
    · rw [if_neg (by simpa using hk), if_pos h0, if_pos (.inr (.inl h0))]
      exact upd_none h ht x kd u o a b' n hk h0
    · by_cases hc : chk ⟨x, kd, u, o, a, b'⟩ = 0
      · rw [if_neg (by simpa using hk), if_neg h0, if_neg (by rintro (h | h | h); exact h hk; exact h0 h; exact h hc), hc]
        by_cases h2 : kd = 2
        · rw [if_pos h2]
          exact upd_two h ht x kd u o a b' n hk h0 hc hc0 hc1 h2 (hb (hk ▸ h2))
        · rw [if_neg h2]
          exact upd_else h ht x kd u o a b' n hk h0 hc hc0 hc1 h2
      · rw [if_neg (by simpa using hk), if_neg h0, if_pos (.inr (.inr hc))]
        exact upd_bad h ht x kd u o a b' n hk h0 hc
  · rw [if_pos hk, if_pos (.inl hk)]
    exact upd_kind h ht x kd u o a b' n hk
end Go.Proofs.Ytehpliclknfmoaa.Stage
