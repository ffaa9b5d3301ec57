/- A stage's Take, Drain, New and Update (chapter 10). Conditions: the bytes are fewer than 2^30; the toxic is one that may be. -/
import Derived.Test.YtehpliclknfmoaaStageH
import Derived.Test.YtehpliclknfmoaaBucketC
namespace Go.Proofs.Ytehpliclknfmoaa.Stage
open Go.RowKit Mem Tick Cargo Toxic
open Go.Proofs.YtehpliclknfmoaaW.PrintLast Pu
open Go.Proofs.YtehpliclknfmoaaW.PrintWords (eqA_of eqf_cons eqf_last)
set_option maxRecDepth 100000
set_option linter.unusedVariables false
set_option linter.unusedSimpArgs false
variable {w w' : World} {F : Nat → Prop} {b k : Nat} {s : Sg}
theorem takeOutB_nil : BS w none ⟨#[]⟩ := fun h => absurd h (by decide)
theorem take_shut (h : SG w F b k s) (ht : held s ≤ 1000000000) (n most : Int) (hc : (lookP s n).state ≠ 0 ∨ most < 1) :
    Calls Try.prog 12 #[.pointer (some ⟨b, 0, none⟩), .int .i64 n, .int .i64 most] w fun e w' => e = .returned (.slice none 0 0) ∧ SG w' F b k (lookP s n) ∧ Did F w w' := by
  have HS0 := Lib.hid (state_any h (by omega) n)
  clear h ht
  go_enter Try.func12, Try.ntmps12
  go_wp2_with fail
  refine HS0.out.mono ?_
  rintro e w1 ⟨rfl, HS, HD⟩
  clear HS0
  have HS' := Lib.hid HS
  have HD' := Lib.hid HD
  clear HS HD
  by_cases hst : (lookP s n).state = 0
  · have hm : most < 1 := hc.resolve_left (fun h => h hst)
    have tm : decide (most < 1) = true := decide_eq_true hm
    rw [hst]
    clear hst hc hm
    go_wp2
    go_ret
    exact ⟨rfl, HS'.out, HD'.out⟩
  · have tn : ((lookP s n).state != 0) = true := by simpa using hst
    clear hst hc
    go_wp2
    go_ret
    exact ⟨rfl, HS'.out, HD'.out⟩
theorem take_any (h : SG w F b k s) (hg : Full s.c.1) (hf : Fit s) (ht : held s ≤ 1000000000) (n most : Int) :
    Calls Try.prog 12 #[.pointer (some ⟨b, 0, none⟩), .int .i64 n, .int .i64 most] w fun e w' => ∃ A cap, e = .returned (.slice A (takeB s n most).size cap) ∧ BS w' A (takeB s n most) ∧ SG w' F b k (takeS s n most) ∧ Did F w w' ∧ Newly w A := by
  unfold takeB takeS
  by_cases hc : (lookP s n).state ≠ 0 ∨ most < 1
  · rw [if_pos hc, if_pos hc]
    exact (take_shut h ht n most hc).mono fun e w' ⟨he, hs, hd⟩ => ⟨none, 0, he, takeOutB_nil, hs, hd, fun g o e => by cases e⟩
  · rw [if_neg hc, if_neg hc]
    refine take_open h hg hf ht n most ?_ ?_
    · by_cases h0 : (lookP s n).state = 0
      · exact h0
      · exact absurd (.inl h0) hc
    · by_cases h0 : most < 1
      · exact absurd (.inr h0) hc
      · omega
def drainP (s : Sg) : Sg := { s with c := ([], s.c.2) }
theorem drain_any (h : SG w F b k s) (ht : held s ≤ 1000000000) :
    Calls Try.prog 19 #[.pointer (some ⟨k, 0, none⟩)] w fun e w' => ∃ A cap, e = .returned (.slice A (cat s.c.1).size cap) ∧ BS w' A (cat s.c.1) ∧ Newly w A ∧ ∃ F', SG w' F' b k (drainP s) ∧ Did F w w' ∧ Stem F F' w := by
  obtain ⟨G, hB, hC, hF⟩ := h
  unfold held at ht
  have hG := hC.mine
  refine (Cargo.drain_far hC (by omega)).mono fun e w' ⟨A, cap, he, hs, hC', hd, hn⟩ => ⟨A, cap, he, hs, hn, (fun j => j = b ∨ j = k), ?_⟩
  exact SG.cargo (s' := drainP s) hB hC hF hC' hd (fun j hj => by subst hj; exact .inl hG) rfl
/-- are two toxics the same? -/
def sameT (x y : Tox) : Bool := x.name.toList == y.name.toList && (x.kind == y.kind && (x.up == y.up && (x.often == y.often && (x.a == y.a && x.b == y.b))))
def noTox : Tox := ⟨⟨#[]⟩, 0, false, 0, 0, 0⟩
def passB (x : Tox) : Bool := sameT x noTox
theorem eq_tox (d : Nat) (w : World) (s0 s1 : ByteArray) (k0 k1 : Int) (u0 u1 : Bool) (o0 o1 a0 a1 b0 b1 : Int) :
    (Op.equalIn (d + 2) 30 (.agg #[.string s0, .int .i64 k0, .bool u0, .int .i64 o0, .int .i64 a0, .int .i64 b0]) (.agg #[.string s1, .int .i64 k1, .bool u1, .int .i64 o1, .int .i64 a1, .int .i64 b1])).run Try.prog w =
      .ok (sameT ⟨s0, k0, u0, o0, a0, b0⟩ ⟨s1, k1, u1, o1, a1, b1⟩) w := by
  unfold sameT
  refine eqA_of Try.underlying30 (by kernel_rfl) ?_
  refine eqf_cons (by rfl) (by go_simp; rfl) (by go_simp; rfl) (by go_simp) ?_
  refine eqf_cons (by rfl) (by go_simp; rfl) (by go_simp; rfl) (by go_simp) ?_
  refine eqf_cons (by rfl) (by go_simp; rfl) (by go_simp; rfl) (by go_simp) ?_
  refine eqf_cons (by rfl) (by go_simp; rfl) (by go_simp; rfl) (by go_simp) ?_
  refine eqf_cons (by rfl) (by go_simp; rfl) (by go_simp; rfl) (by go_simp) ?_
  exact eqf_last (by rfl) (by go_simp; rfl) (by go_simp; rfl) (by go_simp)
theorem neq_tox (w : World) (s0 s1 : ByteArray) (k0 k1 : Int) (u0 u1 : Bool) (o0 o1 a0 a1 b0 b1 : Int) :
    (binOp .neq 30 (.agg #[.string s0, .int .i64 k0, .bool u0, .int .i64 o0, .int .i64 a0, .int .i64 b0]) (.agg #[.string s1, .int .i64 k1, .bool u1, .int .i64 o1, .int .i64 a1, .int .i64 b1])).run Try.prog w =
      .ok (.bool (!sameT ⟨s0, k0, u0, o0, a0, b0⟩ ⟨s1, k1, u1, o1, a1, b1⟩)) w := by
  rw [run_neq_struct, eq_tox 9998]
  rfl
theorem eql_tox (w : World) (s0 s1 : ByteArray) (k0 k1 : Int) (u0 u1 : Bool) (o0 o1 a0 a1 b0 b1 : Int) :
    (binOp .eql 30 (.agg #[.string s0, .int .i64 k0, .bool u0, .int .i64 o0, .int .i64 a0, .int .i64 b0]) (.agg #[.string s1, .int .i64 k1, .bool u1, .int .i64 o1, .int .i64 a1, .int .i64 b1])).run Try.prog w =
      .ok (.bool (sameT ⟨s0, k0, u0, o0, a0, b0⟩ ⟨s1, k1, u1, o1, a1, b1⟩)) w := by
  rw [run_eql_struct, eq_tox 9998]
  rfl
theorem eqguard_tox : Try.prog.eqGuardType Try.prog.depth 30 = false := by kernel_rfl
def roomOk (r : Int) : Bool := decide (1 ≤ r ∧ r ≤ 4096)
/-- why a stage may not be; 0: it may. -/
def newE (t : Tox) (room : Int) : Int := if passB t = false ∧ chk t ≠ 0 then chk t else if roomOk room = false then 1 else 0
def new0 (t : Tox) (seed room now : Int) : Sg := ⟨t, seed, 0, 0, 0, 0, ([], 0), room, add now 0, add now 0, 0, 0, false, 0, 0⟩
def newS (t : Tox) (seed room now : Int) : Sg := if t.kind = 2 then { new0 t seed room now with b0 := t.a, b1 := t.b, b2 := t.b, b3 := add now 0 } else new0 t seed room now
theorem bw_below {a w w1 : World} (h : Below a.heap.size a w) (hb : Below w.heap.size w w1) : Below a.heap.size a w1 := h.trans (hb.mono h.size)
theorem new_bad (s : ByteArray) (kd : Int) (u : Bool) (o a b' seed room now : Int) (w : World) (hp : passB ⟨s, kd, u, o, a, b'⟩ = false) (hc : chk ⟨s, kd, u, o, a, b'⟩ ≠ 0) :
    Calls Try.prog 8 #[.agg #[.string s, .int .i64 kd, .bool u, .int .i64 o, .int .i64 a, .int .i64 b'], .int .u64 seed, .int .i64 room, .int .i64 now] w fun e w' =>
      e = .returned (.tuple #[.pointer none, .int .i64 (chk ⟨s, kd, u, o, a, b'⟩)]) ∧ Below w.heap.size w w' := by
  have hq : ∀ W : World, (binOp .neq 30 (.agg #[.string s, .int .i64 kd, .bool u, .int .i64 o, .int .i64 a, .int .i64 b']) (.agg #[.string ⟨#[]⟩, .int .i64 0, .bool false, .int .i64 0, .int .i64 0, .int .i64 0])).run Try.prog W = .ok (.bool true) W := fun W => by
    rw [neq_tox]; unfold passB noTox at hp; rw [hp]; rfl
  have hguard := eqguard_tox
  have tc : (chk ⟨s, kd, u, o, a, b'⟩ != 0) = true := by simpa using hc
  have hB0 := Lib.hid ((Below.refl w.heap.size w).alloc (Nat.le_refl _) (.cells #[.string s, .int .i64 kd, .bool u, .int .i64 o, .int .i64 a, .int .i64 b'] 30))
  have hck := fun W => Lib.hid (check_any ⟨s, kd, u, o, a, b'⟩ W)
  clear hp hc
  generalize chk ⟨s, kd, u, o, a, b'⟩ = E at *
  go_enter Try.func8, Try.ntmps8
  go_wp2_with fail
  refine (hck _).out.mono ?_
  rintro e w1 ⟨rfl, hB⟩
  have HB := Lib.hid (bw_below hB0.out hB)
  clear hck hB hB0
  go_wp2
  go_ret2
  exact ⟨rfl, HB.out⟩
theorem new_room_p (s : ByteArray) (kd : Int) (u : Bool) (o a b' seed room now : Int) (w : World) (hp : passB ⟨s, kd, u, o, a, b'⟩ = true) (hr : roomOk room = false) :
    Calls Try.prog 8 #[.agg #[.string s, .int .i64 kd, .bool u, .int .i64 o, .int .i64 a, .int .i64 b'], .int .u64 seed, .int .i64 room, .int .i64 now] w fun e w' =>
      e = .returned (.tuple #[.pointer none, .int .i64 1]) ∧ Below w.heap.size w w' := by
  have hq : ∀ W : World, (binOp .neq 30 (.agg #[.string s, .int .i64 kd, .bool u, .int .i64 o, .int .i64 a, .int .i64 b']) (.agg #[.string ⟨#[]⟩, .int .i64 0, .bool false, .int .i64 0, .int .i64 0, .int .i64 0])).run Try.prog W = .ok (.bool false) W := fun W => by
    rw [neq_tox]; unfold passB noTox at hp; rw [hp]; rfl
  have hguard := eqguard_tox
  have hB0 := Lib.hid ((Below.refl w.heap.size w).alloc (Nat.le_refl _) (.cells #[.string s, .int .i64 kd, .bool u, .int .i64 o, .int .i64 a, .int .i64 b'] 30))
  have hX0 := Lib.hid (Blk.new w 30 #[.string s, .int .i64 kd, .bool u, .int .i64 o, .int .i64 a, .int .i64 b'])
  clear hp
  by_cases h1 : room < 1
  · have t1 : decide (room < 1) = true := decide_eq_true h1
    clear hr h1
    go_enter Try.func8, Try.ntmps8
    go_wp2
    go_ret2
    exact ⟨rfl, hB0.out⟩
  · have t1 : decide (room < 1) = false := decide_eq_false h1
    have t2 : decide (4096 < room) = true := decide_eq_true (by unfold roomOk at hr; have := of_decide_eq_false hr; omega)
    clear hr h1
    go_enter Try.func8, Try.ntmps8
    go_wp2
    go_ret2
    exact ⟨rfl, hB0.out⟩
theorem new_room_c (s : ByteArray) (kd : Int) (u : Bool) (o a b' seed room now : Int) (w : World) (hp : passB ⟨s, kd, u, o, a, b'⟩ = false) (hc : chk ⟨s, kd, u, o, a, b'⟩ = 0) (hr : roomOk room = false) :
    Calls Try.prog 8 #[.agg #[.string s, .int .i64 kd, .bool u, .int .i64 o, .int .i64 a, .int .i64 b'], .int .u64 seed, .int .i64 room, .int .i64 now] w fun e w' =>
      e = .returned (.tuple #[.pointer none, .int .i64 1]) ∧ Below w.heap.size w w' := by
  have hq : ∀ W : World, (binOp .neq 30 (.agg #[.string s, .int .i64 kd, .bool u, .int .i64 o, .int .i64 a, .int .i64 b']) (.agg #[.string ⟨#[]⟩, .int .i64 0, .bool false, .int .i64 0, .int .i64 0, .int .i64 0])).run Try.prog W = .ok (.bool true) W := fun W => by
    rw [neq_tox]; unfold passB noTox at hp; rw [hp]; rfl
  have hguard := eqguard_tox
  have hB0 := Lib.hid ((Below.refl w.heap.size w).alloc (Nat.le_refl _) (.cells #[.string s, .int .i64 kd, .bool u, .int .i64 o, .int .i64 a, .int .i64 b'] 30))
  have hX0 := Lib.hid (Blk.new w 30 #[.string s, .int .i64 kd, .bool u, .int .i64 o, .int .i64 a, .int .i64 b'])
  have hck := fun W => Lib.hid (check_any ⟨s, kd, u, o, a, b'⟩ W)
  have hc' := Lib.hid hc
  clear hp hc
  by_cases h1 : room < 1
  · have t1 : decide (room < 1) = true := decide_eq_true h1
    clear hr h1
    go_enter Try.func8, Try.ntmps8
    go_wp2_with fail
    refine (hck _).out.mono ?_
    rintro e w1 ⟨rfl, hB⟩
    rw [hc'.out]
    have HB := Lib.hid (bw_below hB0.out hB)
    have HX := Lib.hid (hX0.out.below hB)
    clear hck hB hB0 hX0 hc'
    go_wp2
    go_ret2
    exact ⟨rfl, HB.out⟩
  · have t1 : decide (room < 1) = false := decide_eq_false h1
    have t2 : decide (4096 < room) = true := decide_eq_true (by unfold roomOk at hr; have := of_decide_eq_false hr; omega)
    clear hr h1
    go_enter Try.func8, Try.ntmps8
    go_wp2_with fail
    refine (hck _).out.mono ?_
    rintro e w1 ⟨rfl, hB⟩
    rw [hc'.out]
    have HB := Lib.hid (bw_below hB0.out hB)
    have HX := Lib.hid (hX0.out.below hB)
    clear hck hB hB0 hX0 hc'
    go_wp2
    go_ret2
    exact ⟨rfl, HB.out⟩
theorem new_yes_p (s : ByteArray) (kd : Int) (u : Bool) (o a b' seed room now : Int) (w : World) (hp : passB ⟨s, kd, u, o, a, b'⟩ = true) (hr : roomOk room = true) (hb : kd = 2 → Bucket.okB a b' b' (add now 0) = true) :
    Calls Try.prog 8 #[.agg #[.string s, .int .i64 kd, .bool u, .int .i64 o, .int .i64 a, .int .i64 b'], .int .u64 seed, .int .i64 room, .int .i64 now] w fun e w' =>
      ∃ b k F, e = .returned (.tuple #[.pointer (some ⟨b, 0, none⟩), .int .i64 0]) ∧ SG w' F b k (newS ⟨s, kd, u, o, a, b'⟩ seed room now) ∧ (∀ j, F j → w.heap.size ≤ j) ∧ Below w.heap.size w w' := by
  have hq : ∀ W : World, (binOp .neq 30 (.agg #[.string s, .int .i64 kd, .bool u, .int .i64 o, .int .i64 a, .int .i64 b']) (.agg #[.string ⟨#[]⟩, .int .i64 0, .bool false, .int .i64 0, .int .i64 0, .int .i64 0])).run Try.prog W = .ok (.bool false) W := fun W => by
    rw [neq_tox]; unfold passB noTox at hp; rw [hp]; rfl
  have hguard := eqguard_tox
  have hB0 := Lib.hid ((Below.refl w.heap.size w).alloc (Nat.le_refl _) (.cells #[.string s, .int .i64 kd, .bool u, .int .i64 o, .int .i64 a, .int .i64 b'] 30))
  have hX0 := Lib.hid (Blk.new w 30 #[.string s, .int .i64 kd, .bool u, .int .i64 o, .int .i64 a, .int .i64 b'])
  clear hp
  have t1 : decide (room < 1) = false := decide_eq_false (by unfold roomOk at hr; have := of_decide_eq_true hr; omega)
  have t2 : decide (4096 < room) = false := decide_eq_false (by unfold roomOk at hr; have := of_decide_eq_true hr; omega)
  have hE := Lib.hid (show newS ⟨s, kd, u, o, a, b'⟩ seed room now = if kd = 2 then { new0 ⟨s, kd, u, o, a, b'⟩ seed room now with b0 := a, b1 := b', b2 := b', b3 := add now 0 } else new0 ⟨s, kd, u, o, a, b'⟩ seed room now from rfl)
  have h0E := Lib.hid (show new0 ⟨s, kd, u, o, a, b'⟩ seed room now = ⟨⟨s, kd, u, o, a, b'⟩, seed, 0, 0, 0, 0, ([], 0), room, add now 0, add now 0, 0, 0, false, 0, 0⟩ from rfl)
  clear hr
  go_enter Try.func8, Try.ntmps8
  go_wp2_with (go_at_call 23; refine (add_any now 0 _).mono ?_; rintro e w2 ⟨rfl, rfl⟩)
  generalize w.alloc (.cells #[.string s, .int .i64 kd, .bool u, .int .i64 o, .int .i64 a, .int .i64 b'] 30) = w1 at *
  have HB := hB0
  have HX := hX0
  clear hB0 hX0
  generalize add now 0 = T at *
  have x0 : w1.cell? ⟨w.heap.size, 0, none⟩ = some (.string s) := (HX.out.cell 0).trans rfl
  have x1 : w1.cell? ⟨w.heap.size, 1, none⟩ = some (.int .i64 kd) := (HX.out.cell 1).trans rfl
  have x2 : w1.cell? ⟨w.heap.size, 2, none⟩ = some (.bool u) := (HX.out.cell 2).trans rfl
  have x3 : w1.cell? ⟨w.heap.size, 3, none⟩ = some (.int .i64 o) := (HX.out.cell 3).trans rfl
  have x4 : w1.cell? ⟨w.heap.size, 4, none⟩ = some (.int .i64 a) := (HX.out.cell 4).trans rfl
  have x5 : w1.cell? ⟨w.heap.size, 5, none⟩ = some (.int .i64 b') := (HX.out.cell 5).trans rfl
  refine start_ (n := 9) (S := fun w' => w'.cell? ⟨w.heap.size, 0, none⟩ = some (.string s) ∧ w'.cell? ⟨w.heap.size, 1, none⟩ = some (.int .i64 kd) ∧ w'.cell? ⟨w.heap.size, 2, none⟩ = some (.bool u) ∧ w'.cell? ⟨w.heap.size, 3, none⟩ = some (.int .i64 o) ∧ w'.cell? ⟨w.heap.size, 4, none⟩ = some (.int .i64 a) ∧ w'.cell? ⟨w.heap.size, 5, none⟩ = some (.int .i64 b')) (ds := []) (m_ 9 0) (by kernel_rfl) rfl (by kernel_rfl) ⟨x0, x1, x2, x3, x4, x5⟩ (fun hHeld => ?_)
  refine pu_ 2 (some 30) (m_ 9 4) rfl rfl (by kernel_rfl) (fun _ _ _ h => h) (by rfl) (by intro w'; go_simp; with_reducible rfl) (by simp only [Act.put, List.setIfInBounds_toArray, List.set_cons_zero, List.set_cons_succ, i64_w, i32_w]; rfl) ?_
  refine pu_ 3 (some 31) (m_ 9 12) rfl rfl (by kernel_rfl) (fun _ _ _ h => h) (by rfl) (by intro w'; go_simp; with_reducible rfl) (by simp only [Act.put, List.setIfInBounds_toArray, List.set_cons_zero, List.set_cons_succ, i64_w, i32_w]; rfl) ?_
  refine pu_ 4 (some 32) (m_ 9 28) rfl rfl (by kernel_rfl) (fun _ _ _ h => h) (by rfl) (by intro w'; go_simp; with_reducible rfl) (by simp only [Act.put, List.setIfInBounds_toArray, List.set_cons_zero, List.set_cons_succ, i64_w, i32_w]; rfl) ?_
  refine pu_ 5 (some 33) (m_ 9 60) rfl rfl (by kernel_rfl) (fun _ _ _ h => h) (by rfl) (by intro w'; go_simp; with_reducible rfl) (by simp only [Act.put, List.setIfInBounds_toArray, List.set_cons_zero, List.set_cons_succ, i64_w, i32_w]; rfl) ?_
  refine tk_ 1 (some 29) (m_ 9 62) rfl rfl (by kernel_rfl) (fun _ _ _ h => h) (by rfl) (by rintro w' ⟨s0, s1, s2, s3, s4, s5⟩; go_simp; with_reducible rfl) hHeld (by simp only [Act.put, List.setIfInBounds_toArray, List.set_cons_zero, List.set_cons_succ, i64_w, i32_w]; rfl) ?_
  refine one_ (i := 0) (N := some 28) (m_ 9 63) rfl rfl (by kernel_rfl) (by decide) (fun K hK => ?_)
  refine goes_ Try.func24 (by kernel_rfl) rfl #[] (by rfl) rfl rfl (by simp) ?_
  with_reducible refine (Cargo.new_any w1.drew).mono ?_
  rintro e w2 ⟨k, G, rfl, hC, hG, hB⟩
  have hB1 := below_drew hB
  have HC := Lib.hid hC
  have HG := Lib.hid hG
  have HX2 := Lib.hid (HX.out.below hB1)
  have HB2 := Lib.hid (bw_below HB.out hB1)
  have y0 := bcells hB1 x0
  have y1 := bcells hB1 x1
  have y2 := bcells hB1 x2
  have y3 := bcells hB1 x3
  have y4 := bcells hB1 x4
  have y5 := bcells hB1 x5
  clear hB hB1 hC hG
  refine ⟨_, rfl, ?_⟩
  refine hK.out _ _ ⟨y0, y1, y2, y3, y4, y5⟩ (fun hHeld => ?_)
  clear hK K
  refine norm_ (a' := ?_) ?_ ?_
  rotate_left
  · show Act.put _ (some 28) _ = _
    simp only [Act.put, List.setIfInBounds_toArray, List.set_cons_zero, List.set_cons_succ, i64_w, i32_w]
    rfl
  refine pu_ 6 (some 34) (m_ 9 127) rfl rfl (by kernel_rfl) (fun _ _ _ h => h) (by rfl) (by intro w'; go_simp; with_reducible rfl) (by simp only [Act.put, List.setIfInBounds_toArray, List.set_cons_zero, List.set_cons_succ, i64_w, i32_w]; rfl) ?_
  refine one_ (i := 7) (N := some 35) (m_ 9 255) rfl rfl (by kernel_rfl) (by decide) (fun K hK => ?_)
  refine value_ (w1 := ?_) (v := ?_) (by rfl) rfl ?_ ?_
  rotate_left 2
  · go_simp
    constructor
    · rfl
    · rfl
  refine hK.out _ _ ⟨bcells ((Below.refl w2.heap.size w2).alloc (Nat.le_refl _) (.cells #[.pointer (some ⟨k, 0, none⟩), .string s, .int .i64 kd, .bool u, .int .i64 o, .int .i64 a, .int .i64 b', .int .u64 seed, .int .i64 0, .int .i64 0, .int .i64 0, .int .i64 0, .int .i64 room, .int .i64 T, .int .i64 T, .int .i64 0, .int .i64 0, .bool false, .int .i64 0, .int .i64 0] 61)) y0, bcells ((Below.refl w2.heap.size w2).alloc (Nat.le_refl _) (.cells #[.pointer (some ⟨k, 0, none⟩), .string s, .int .i64 kd, .bool u, .int .i64 o, .int .i64 a, .int .i64 b', .int .u64 seed, .int .i64 0, .int .i64 0, .int .i64 0, .int .i64 0, .int .i64 room, .int .i64 T, .int .i64 T, .int .i64 0, .int .i64 0, .bool false, .int .i64 0, .int .i64 0] 61)) y1, bcells ((Below.refl w2.heap.size w2).alloc (Nat.le_refl _) (.cells #[.pointer (some ⟨k, 0, none⟩), .string s, .int .i64 kd, .bool u, .int .i64 o, .int .i64 a, .int .i64 b', .int .u64 seed, .int .i64 0, .int .i64 0, .int .i64 0, .int .i64 0, .int .i64 room, .int .i64 T, .int .i64 T, .int .i64 0, .int .i64 0, .bool false, .int .i64 0, .int .i64 0] 61)) y2, bcells ((Below.refl w2.heap.size w2).alloc (Nat.le_refl _) (.cells #[.pointer (some ⟨k, 0, none⟩), .string s, .int .i64 kd, .bool u, .int .i64 o, .int .i64 a, .int .i64 b', .int .u64 seed, .int .i64 0, .int .i64 0, .int .i64 0, .int .i64 0, .int .i64 room, .int .i64 T, .int .i64 T, .int .i64 0, .int .i64 0, .bool false, .int .i64 0, .int .i64 0] 61)) y3, bcells ((Below.refl w2.heap.size w2).alloc (Nat.le_refl _) (.cells #[.pointer (some ⟨k, 0, none⟩), .string s, .int .i64 kd, .bool u, .int .i64 o, .int .i64 a, .int .i64 b', .int .u64 seed, .int .i64 0, .int .i64 0, .int .i64 0, .int .i64 0, .int .i64 room, .int .i64 T, .int .i64 T, .int .i64 0, .int .i64 0, .bool false, .int .i64 0, .int .i64 0] 61)) y4, bcells ((Below.refl w2.heap.size w2).alloc (Nat.le_refl _) (.cells #[.pointer (some ⟨k, 0, none⟩), .string s, .int .i64 kd, .bool u, .int .i64 o, .int .i64 a, .int .i64 b', .int .u64 seed, .int .i64 0, .int .i64 0, .int .i64 0, .int .i64 0, .int .i64 room, .int .i64 T, .int .i64 T, .int .i64 0, .int .i64 0, .bool false, .int .i64 0, .int .i64 0] 61)) y5⟩ (fun hHeld => ?_)
  clear hK K
  refine norm_ (a' := ?_) ?_ ?_
  rotate_left
  · show Act.put _ (some 35) _ = _
    simp only [Act.put, List.setIfInBounds_toArray, List.set_cons_zero, List.set_cons_succ, i64_w, i32_w]
    rfl
  refine pu_ 8 (some 11) (m_ 9 511) rfl rfl (by kernel_rfl) (fun _ _ _ h => h) (by rfl) (by intro w'; go_simp; with_reducible rfl) (by simp only [Act.put, List.setIfInBounds_toArray, List.set_cons_zero, List.set_cons_succ, i64_w, i32_w]; rfl) ?_
  refine done_ (by kernel_rfl) ?_
  clear hHeld x0 x1 x2 x3 x4 x5 y0 y1 y2 y3 y4 y5
  have hlt := HB2.out.size
  have HS := Lib.hid (show SG (w2.alloc (.cells #[.pointer (some ⟨k, 0, none⟩), .string s, .int .i64 kd, .bool u, .int .i64 o, .int .i64 a, .int .i64 b', .int .u64 seed, .int .i64 0, .int .i64 0, .int .i64 0, .int .i64 0, .int .i64 room, .int .i64 T, .int .i64 T, .int .i64 0, .int .i64 0, .bool false, .int .i64 0, .int .i64 0] 61)) (fun j => j = w2.heap.size ∨ G j) w2.heap.size k (new0 ⟨s, kd, u, o, a, b'⟩ seed room now) from ⟨G, by rw [h0E.out]; exact Blk.new w2 _ _, by rw [h0E.out]; exact HC.out.below ((Below.refl w2.heap.size w2).alloc (Nat.le_refl _) (.cells #[.pointer (some ⟨k, 0, none⟩), .string s, .int .i64 kd, .bool u, .int .i64 o, .int .i64 a, .int .i64 b', .int .u64 seed, .int .i64 0, .int .i64 0, .int .i64 0, .int .i64 0, .int .i64 room, .int .i64 T, .int .i64 T, .int .i64 0, .int .i64 0, .bool false, .int .i64 0, .int .i64 0] 61)), fun j => Iff.rfl⟩)
  have HF := Lib.hid (show ∀ j, (j = w2.heap.size ∨ G j) → w.heap.size ≤ j from fun j hj => hj.elim (fun h => by omega) fun h => Nat.le_trans HB.out.size (HG.out j h))
  have HB3 := Lib.hid (bw_below HB2.out ((Below.refl w2.heap.size w2).alloc (Nat.le_refl _) (.cells #[.pointer (some ⟨k, 0, none⟩), .string s, .int .i64 kd, .bool u, .int .i64 o, .int .i64 a, .int .i64 b', .int .u64 seed, .int .i64 0, .int .i64 0, .int .i64 0, .int .i64 0, .int .i64 room, .int .i64 T, .int .i64 T, .int .i64 0, .int .i64 0, .bool false, .int .i64 0, .int .i64 0] 61)))
  have HX3 := Lib.hid (HX2.out.below ((Below.refl w2.heap.size w2).alloc (Nat.le_refl _) (.cells #[.pointer (some ⟨k, 0, none⟩), .string s, .int .i64 kd, .bool u, .int .i64 o, .int .i64 a, .int .i64 b', .int .u64 seed, .int .i64 0, .int .i64 0, .int .i64 0, .int .i64 0, .int .i64 room, .int .i64 T, .int .i64 T, .int .i64 0, .int .i64 0, .bool false, .int .i64 0, .int .i64 0] 61)))
  clear HC HG HB HX HB2 HX2
  generalize w2.alloc (.cells #[.pointer (some ⟨k, 0, none⟩), .string s, .int .i64 kd, .bool u, .int .i64 o, .int .i64 a, .int .i64 b', .int .u64 seed, .int .i64 0, .int .i64 0, .int .i64 0, .int .i64 0, .int .i64 room, .int .i64 T, .int .i64 T, .int .i64 0, .int .i64 0, .bool false, .int .i64 0, .int .i64 0] 61) = w3 at *
  generalize w2.heap.size = bb at *
  have x1 : w3.cell? ⟨w.heap.size, 1, none⟩ = some (.int .i64 kd) := (HX3.out.cell 1).trans rfl
  have x4 : w3.cell? ⟨w.heap.size, 4, none⟩ = some (.int .i64 a) := (HX3.out.cell 4).trans rfl
  have x5 : w3.cell? ⟨w.heap.size, 5, none⟩ = some (.int .i64 b') := (HX3.out.cell 5).trans rfl
  by_cases hk2 : kd = 2
  · have hbk := Lib.hid (hb hk2)
    have t3 : (kd == 2) = true := by simpa using hk2
    have hS := Lib.hid (hE.out.trans (if_pos hk2))
    clear hk2 hb
    go_wp2_with fail
    refine (Bucket.bnew_yes a b' T _ hbk.out).mono ?_
    rintro e w4 ⟨rfl, hB4⟩
    have HS4 := Lib.hid (HS.out.below hB4)
    have HB4 := Lib.hid (bw_below HB3.out hB4)
    clear hB4 x1 x4 x5
    have hbl : bb < w4.heap.size := HS4.out.lt HS4.out.mine
    have c8 : w4.cell? ⟨bb, 8, none⟩ = some (.int .i64 0) := (HS4.out.blk.cell 8).trans (by rw [h0E.out]; rfl)
    have c9 : w4.cell? ⟨bb, 9, none⟩ = some (.int .i64 0) := (HS4.out.blk.cell 9).trans (by rw [h0E.out]; rfl)
    have c10 : w4.cell? ⟨bb, 10, none⟩ = some (.int .i64 0) := (HS4.out.blk.cell 10).trans (by rw [h0E.out]; rfl)
    have c11 : w4.cell? ⟨bb, 11, none⟩ = some (.int .i64 0) := (HS4.out.blk.cell 11).trans (by rw [h0E.out]; rfl)
    have f8 := HS4.out.blk.free 8
    have f9 := HS4.out.blk.free 9
    have f10 := HS4.out.blk.free 10
    have f11 := HS4.out.blk.free 11
    have hge := HF.out bb (.inl rfl)
    go_wp2
    go_ret2
    refine ⟨bb, k, _, rfl, ?_, HF.out, (((HB4.out.setCell (p := ⟨bb, 8, none⟩) hge _).setCell (p := ⟨bb, 9, none⟩) hge _).setCell (p := ⟨bb, 10, none⟩) hge _).setCell (p := ⟨bb, 11, none⟩) hge _⟩
    rw [hS.out]
    have h1 := (((HS4.out.set 8 (.int .i64 a) { new0 ⟨s, kd, u, o, a, b'⟩ seed room now with b0 := a } (by rw [h0E.out]; rfl) rfl).set 9 (.int .i64 b') { new0 ⟨s, kd, u, o, a, b'⟩ seed room now with b0 := a, b1 := b' } (by rw [h0E.out]; rfl) rfl).set 10 (.int .i64 b') { new0 ⟨s, kd, u, o, a, b'⟩ seed room now with b0 := a, b1 := b', b2 := b' } (by rw [h0E.out]; rfl) rfl).set 11 (.int .i64 T) { new0 ⟨s, kd, u, o, a, b'⟩ seed room now with b0 := a, b1 := b', b2 := b', b3 := T } (by rw [h0E.out]; rfl) rfl
    exact h1
  · have t3 : (kd == 2) = false := by simpa using hk2
    have hS := Lib.hid (hE.out.trans (if_neg hk2))
    clear hk2 hb
    go_wp2
    go_ret2
    refine ⟨bb, k, _, rfl, ?_, HF.out, HB3.out⟩
    rw [hS.out]
    exact HS.out
theorem new_yes_c (s : ByteArray) (kd : Int) (u : Bool) (o a b' seed room now : Int) (w : World) (hp : passB ⟨s, kd, u, o, a, b'⟩ = false) (hc : chk ⟨s, kd, u, o, a, b'⟩ = 0) (hr : roomOk room = true) (hb : kd = 2 → Bucket.okB a b' b' (add now 0) = true) :
    Calls Try.prog 8 #[.agg #[.string s, .int .i64 kd, .bool u, .int .i64 o, .int .i64 a, .int .i64 b'], .int .u64 seed, .int .i64 room, .int .i64 now] w fun e w' =>
      ∃ b k F, e = .returned (.tuple #[.pointer (some ⟨b, 0, none⟩), .int .i64 0]) ∧ SG w' F b k (newS ⟨s, kd, u, o, a, b'⟩ seed room now) ∧ (∀ j, F j → w.heap.size ≤ j) ∧ Below w.heap.size w w' := by
  have hq : ∀ W : World, (binOp .neq 30 (.agg #[.string s, .int .i64 kd, .bool u, .int .i64 o, .int .i64 a, .int .i64 b']) (.agg #[.string ⟨#[]⟩, .int .i64 0, .bool false, .int .i64 0, .int .i64 0, .int .i64 0])).run Try.prog W = .ok (.bool true) W := fun W => by
    rw [neq_tox]; unfold passB noTox at hp; rw [hp]; rfl
  have hguard := eqguard_tox
  have hB0 := Lib.hid ((Below.refl w.heap.size w).alloc (Nat.le_refl _) (.cells #[.string s, .int .i64 kd, .bool u, .int .i64 o, .int .i64 a, .int .i64 b'] 30))
  have hX0 := Lib.hid (Blk.new w 30 #[.string s, .int .i64 kd, .bool u, .int .i64 o, .int .i64 a, .int .i64 b'])
  have hck := fun W => Lib.hid (check_any ⟨s, kd, u, o, a, b'⟩ W)
  have hc' := Lib.hid hc
  clear hp hc
  have t1 : decide (room < 1) = false := decide_eq_false (by unfold roomOk at hr; have := of_decide_eq_true hr; omega)
  have t2 : decide (4096 < room) = false := decide_eq_false (by unfold roomOk at hr; have := of_decide_eq_true hr; omega)
  have hE := Lib.hid (show newS ⟨s, kd, u, o, a, b'⟩ seed room now = if kd = 2 then { new0 ⟨s, kd, u, o, a, b'⟩ seed room now with b0 := a, b1 := b', b2 := b', b3 := add now 0 } else new0 ⟨s, kd, u, o, a, b'⟩ seed room now from rfl)
  have h0E := Lib.hid (show new0 ⟨s, kd, u, o, a, b'⟩ seed room now = ⟨⟨s, kd, u, o, a, b'⟩, seed, 0, 0, 0, 0, ([], 0), room, add now 0, add now 0, 0, 0, false, 0, 0⟩ from rfl)
  clear hr
  go_enter Try.func8, Try.ntmps8
  go_wp2_with fail
  refine (hck _).out.mono ?_
  rintro e w1 ⟨rfl, hB⟩
  rw [hc'.out]
  have HB := Lib.hid (bw_below hB0.out hB)
  have HX := Lib.hid (hX0.out.below hB)
  clear hck hB hB0 hX0 hc'
  go_wp2_with (go_at_call 23; refine (add_any now 0 _).mono ?_; rintro e w2 ⟨rfl, rfl⟩)
  generalize add now 0 = T at *
  have x0 : w1.cell? ⟨w.heap.size, 0, none⟩ = some (.string s) := (HX.out.cell 0).trans rfl
  have x1 : w1.cell? ⟨w.heap.size, 1, none⟩ = some (.int .i64 kd) := (HX.out.cell 1).trans rfl
  have x2 : w1.cell? ⟨w.heap.size, 2, none⟩ = some (.bool u) := (HX.out.cell 2).trans rfl
  have x3 : w1.cell? ⟨w.heap.size, 3, none⟩ = some (.int .i64 o) := (HX.out.cell 3).trans rfl
  have x4 : w1.cell? ⟨w.heap.size, 4, none⟩ = some (.int .i64 a) := (HX.out.cell 4).trans rfl
  have x5 : w1.cell? ⟨w.heap.size, 5, none⟩ = some (.int .i64 b') := (HX.out.cell 5).trans rfl
  refine start_ (n := 9) (S := fun w' => w'.cell? ⟨w.heap.size, 0, none⟩ = some (.string s) ∧ w'.cell? ⟨w.heap.size, 1, none⟩ = some (.int .i64 kd) ∧ w'.cell? ⟨w.heap.size, 2, none⟩ = some (.bool u) ∧ w'.cell? ⟨w.heap.size, 3, none⟩ = some (.int .i64 o) ∧ w'.cell? ⟨w.heap.size, 4, none⟩ = some (.int .i64 a) ∧ w'.cell? ⟨w.heap.size, 5, none⟩ = some (.int .i64 b')) (ds := []) (m_ 9 0) (by kernel_rfl) rfl (by kernel_rfl) ⟨x0, x1, x2, x3, x4, x5⟩ (fun hHeld => ?_)
  refine pu_ 2 (some 30) (m_ 9 4) rfl rfl (by kernel_rfl) (fun _ _ _ h => h) (by rfl) (by intro w'; go_simp; with_reducible rfl) (by simp only [Act.put, List.setIfInBounds_toArray, List.set_cons_zero, List.set_cons_succ, i64_w, i32_w]; rfl) ?_
  refine pu_ 3 (some 31) (m_ 9 12) rfl rfl (by kernel_rfl) (fun _ _ _ h => h) (by rfl) (by intro w'; go_simp; with_reducible rfl) (by simp only [Act.put, List.setIfInBounds_toArray, List.set_cons_zero, List.set_cons_succ, i64_w, i32_w]; rfl) ?_
  refine pu_ 4 (some 32) (m_ 9 28) rfl rfl (by kernel_rfl) (fun _ _ _ h => h) (by rfl) (by intro w'; go_simp; with_reducible rfl) (by simp only [Act.put, List.setIfInBounds_toArray, List.set_cons_zero, List.set_cons_succ, i64_w, i32_w]; rfl) ?_
  refine pu_ 5 (some 33) (m_ 9 60) rfl rfl (by kernel_rfl) (fun _ _ _ h => h) (by rfl) (by intro w'; go_simp; with_reducible rfl) (by simp only [Act.put, List.setIfInBounds_toArray, List.set_cons_zero, List.set_cons_succ, i64_w, i32_w]; rfl) ?_
  refine tk_ 1 (some 29) (m_ 9 62) rfl rfl (by kernel_rfl) (fun _ _ _ h => h) (by rfl) (by rintro w' ⟨s0, s1, s2, s3, s4, s5⟩; go_simp; with_reducible rfl) hHeld (by simp only [Act.put, List.setIfInBounds_toArray, List.set_cons_zero, List.set_cons_succ, i64_w, i32_w]; rfl) ?_
  refine one_ (i := 0) (N := some 28) (m_ 9 63) rfl rfl (by kernel_rfl) (by decide) (fun K hK => ?_)
  refine goes_ Try.func24 (by kernel_rfl) rfl #[] (by rfl) rfl rfl (by simp) ?_
  with_reducible refine (Cargo.new_any w1.drew).mono ?_
  rintro e w2 ⟨k, G, rfl, hC, hG, hB⟩
  have hB1 := below_drew hB
  have HC := Lib.hid hC
  have HG := Lib.hid hG
  have HX2 := Lib.hid (HX.out.below hB1)
  have HB2 := Lib.hid (bw_below HB.out hB1)
  have y0 := bcells hB1 x0
  have y1 := bcells hB1 x1
  have y2 := bcells hB1 x2
  have y3 := bcells hB1 x3
  have y4 := bcells hB1 x4
  have y5 := bcells hB1 x5
  clear hB hB1 hC hG
  refine ⟨_, rfl, ?_⟩
  refine hK.out _ _ ⟨y0, y1, y2, y3, y4, y5⟩ (fun hHeld => ?_)
  clear hK K
  refine norm_ (a' := ?_) ?_ ?_
  rotate_left
  · show Act.put _ (some 28) _ = _
    simp only [Act.put, List.setIfInBounds_toArray, List.set_cons_zero, List.set_cons_succ, i64_w, i32_w]
    rfl
  refine pu_ 6 (some 34) (m_ 9 127) rfl rfl (by kernel_rfl) (fun _ _ _ h => h) (by rfl) (by intro w'; go_simp; with_reducible rfl) (by simp only [Act.put, List.setIfInBounds_toArray, List.set_cons_zero, List.set_cons_succ, i64_w, i32_w]; rfl) ?_
  refine one_ (i := 7) (N := some 35) (m_ 9 255) rfl rfl (by kernel_rfl) (by decide) (fun K hK => ?_)
  refine value_ (w1 := ?_) (v := ?_) (by rfl) rfl ?_ ?_
  rotate_left 2
  · go_simp
    constructor
    · rfl
    · rfl
  refine hK.out _ _ ⟨bcells ((Below.refl w2.heap.size w2).alloc (Nat.le_refl _) (.cells #[.pointer (some ⟨k, 0, none⟩), .string s, .int .i64 kd, .bool u, .int .i64 o, .int .i64 a, .int .i64 b', .int .u64 seed, .int .i64 0, .int .i64 0, .int .i64 0, .int .i64 0, .int .i64 room, .int .i64 T, .int .i64 T, .int .i64 0, .int .i64 0, .bool false, .int .i64 0, .int .i64 0] 61)) y0, bcells ((Below.refl w2.heap.size w2).alloc (Nat.le_refl _) (.cells #[.pointer (some ⟨k, 0, none⟩), .string s, .int .i64 kd, .bool u, .int .i64 o, .int .i64 a, .int .i64 b', .int .u64 seed, .int .i64 0, .int .i64 0, .int .i64 0, .int .i64 0, .int .i64 room, .int .i64 T, .int .i64 T, .int .i64 0, .int .i64 0, .bool false, .int .i64 0, .int .i64 0] 61)) y1, bcells ((Below.refl w2.heap.size w2).alloc (Nat.le_refl _) (.cells #[.pointer (some ⟨k, 0, none⟩), .string s, .int .i64 kd, .bool u, .int .i64 o, .int .i64 a, .int .i64 b', .int .u64 seed, .int .i64 0, .int .i64 0, .int .i64 0, .int .i64 0, .int .i64 room, .int .i64 T, .int .i64 T, .int .i64 0, .int .i64 0, .bool false, .int .i64 0, .int .i64 0] 61)) y2, bcells ((Below.refl w2.heap.size w2).alloc (Nat.le_refl _) (.cells #[.pointer (some ⟨k, 0, none⟩), .string s, .int .i64 kd, .bool u, .int .i64 o, .int .i64 a, .int .i64 b', .int .u64 seed, .int .i64 0, .int .i64 0, .int .i64 0, .int .i64 0, .int .i64 room, .int .i64 T, .int .i64 T, .int .i64 0, .int .i64 0, .bool false, .int .i64 0, .int .i64 0] 61)) y3, bcells ((Below.refl w2.heap.size w2).alloc (Nat.le_refl _) (.cells #[.pointer (some ⟨k, 0, none⟩), .string s, .int .i64 kd, .bool u, .int .i64 o, .int .i64 a, .int .i64 b', .int .u64 seed, .int .i64 0, .int .i64 0, .int .i64 0, .int .i64 0, .int .i64 room, .int .i64 T, .int .i64 T, .int .i64 0, .int .i64 0, .bool false, .int .i64 0, .int .i64 0] 61)) y4, bcells ((Below.refl w2.heap.size w2).alloc (Nat.le_refl _) (.cells #[.pointer (some ⟨k, 0, none⟩), .string s, .int .i64 kd, .bool u, .int .i64 o, .int .i64 a, .int .i64 b', .int .u64 seed, .int .i64 0, .int .i64 0, .int .i64 0, .int .i64 0, .int .i64 room, .int .i64 T, .int .i64 T, .int .i64 0, .int .i64 0, .bool false, .int .i64 0, .int .i64 0] 61)) y5⟩ (fun hHeld => ?_)
  clear hK K
  refine norm_ (a' := ?_) ?_ ?_
  rotate_left
  · show Act.put _ (some 35) _ = _
    simp only [Act.put, List.setIfInBounds_toArray, List.set_cons_zero, List.set_cons_succ, i64_w, i32_w]
    rfl
  refine pu_ 8 (some 11) (m_ 9 511) rfl rfl (by kernel_rfl) (fun _ _ _ h => h) (by rfl) (by intro w'; go_simp; with_reducible rfl) (by simp only [Act.put, List.setIfInBounds_toArray, List.set_cons_zero, List.set_cons_succ, i64_w, i32_w]; rfl) ?_
  refine done_ (by kernel_rfl) ?_
  clear hHeld x0 x1 x2 x3 x4 x5 y0 y1 y2 y3 y4 y5
  have hlt := HB2.out.size
  have HS := Lib.hid (show SG (w2.alloc (.cells #[.pointer (some ⟨k, 0, none⟩), .string s, .int .i64 kd, .bool u, .int .i64 o, .int .i64 a, .int .i64 b', .int .u64 seed, .int .i64 0, .int .i64 0, .int .i64 0, .int .i64 0, .int .i64 room, .int .i64 T, .int .i64 T, .int .i64 0, .int .i64 0, .bool false, .int .i64 0, .int .i64 0] 61)) (fun j => j = w2.heap.size ∨ G j) w2.heap.size k (new0 ⟨s, kd, u, o, a, b'⟩ seed room now) from ⟨G, by rw [h0E.out]; exact Blk.new w2 _ _, by rw [h0E.out]; exact HC.out.below ((Below.refl w2.heap.size w2).alloc (Nat.le_refl _) (.cells #[.pointer (some ⟨k, 0, none⟩), .string s, .int .i64 kd, .bool u, .int .i64 o, .int .i64 a, .int .i64 b', .int .u64 seed, .int .i64 0, .int .i64 0, .int .i64 0, .int .i64 0, .int .i64 room, .int .i64 T, .int .i64 T, .int .i64 0, .int .i64 0, .bool false, .int .i64 0, .int .i64 0] 61)), fun j => Iff.rfl⟩)
  have HF := Lib.hid (show ∀ j, (j = w2.heap.size ∨ G j) → w.heap.size ≤ j from fun j hj => hj.elim (fun h => by omega) fun h => Nat.le_trans HB.out.size (HG.out j h))
  have HB3 := Lib.hid (bw_below HB2.out ((Below.refl w2.heap.size w2).alloc (Nat.le_refl _) (.cells #[.pointer (some ⟨k, 0, none⟩), .string s, .int .i64 kd, .bool u, .int .i64 o, .int .i64 a, .int .i64 b', .int .u64 seed, .int .i64 0, .int .i64 0, .int .i64 0, .int .i64 0, .int .i64 room, .int .i64 T, .int .i64 T, .int .i64 0, .int .i64 0, .bool false, .int .i64 0, .int .i64 0] 61)))
  have HX3 := Lib.hid (HX2.out.below ((Below.refl w2.heap.size w2).alloc (Nat.le_refl _) (.cells #[.pointer (some ⟨k, 0, none⟩), .string s, .int .i64 kd, .bool u, .int .i64 o, .int .i64 a, .int .i64 b', .int .u64 seed, .int .i64 0, .int .i64 0, .int .i64 0, .int .i64 0, .int .i64 room, .int .i64 T, .int .i64 T, .int .i64 0, .int .i64 0, .bool false, .int .i64 0, .int .i64 0] 61)))
  clear HC HG HB HX HB2 HX2
  generalize w2.alloc (.cells #[.pointer (some ⟨k, 0, none⟩), .string s, .int .i64 kd, .bool u, .int .i64 o, .int .i64 a, .int .i64 b', .int .u64 seed, .int .i64 0, .int .i64 0, .int .i64 0, .int .i64 0, .int .i64 room, .int .i64 T, .int .i64 T, .int .i64 0, .int .i64 0, .bool false, .int .i64 0, .int .i64 0] 61) = w3 at *
  generalize w2.heap.size = bb at *
  have x1 : w3.cell? ⟨w.heap.size, 1, none⟩ = some (.int .i64 kd) := (HX3.out.cell 1).trans rfl
  have x4 : w3.cell? ⟨w.heap.size, 4, none⟩ = some (.int .i64 a) := (HX3.out.cell 4).trans rfl
  have x5 : w3.cell? ⟨w.heap.size, 5, none⟩ = some (.int .i64 b') := (HX3.out.cell 5).trans rfl
  by_cases hk2 : kd = 2
  · have hbk := Lib.hid (hb hk2)
    have t3 : (kd == 2) = true := by simpa using hk2
    have hS := Lib.hid (hE.out.trans (if_pos hk2))
    clear hk2 hb
    go_wp2_with fail
    refine (Bucket.bnew_yes a b' T _ hbk.out).mono ?_
    rintro e w4 ⟨rfl, hB4⟩
    have HS4 := Lib.hid (HS.out.below hB4)
    have HB4 := Lib.hid (bw_below HB3.out hB4)
    clear hB4 x1 x4 x5
    have hbl : bb < w4.heap.size := HS4.out.lt HS4.out.mine
    have c8 : w4.cell? ⟨bb, 8, none⟩ = some (.int .i64 0) := (HS4.out.blk.cell 8).trans (by rw [h0E.out]; rfl)
    have c9 : w4.cell? ⟨bb, 9, none⟩ = some (.int .i64 0) := (HS4.out.blk.cell 9).trans (by rw [h0E.out]; rfl)
    have c10 : w4.cell? ⟨bb, 10, none⟩ = some (.int .i64 0) := (HS4.out.blk.cell 10).trans (by rw [h0E.out]; rfl)
    have c11 : w4.cell? ⟨bb, 11, none⟩ = some (.int .i64 0) := (HS4.out.blk.cell 11).trans (by rw [h0E.out]; rfl)
    have f8 := HS4.out.blk.free 8
    have f9 := HS4.out.blk.free 9
    have f10 := HS4.out.blk.free 10
    have f11 := HS4.out.blk.free 11
    have hge := HF.out bb (.inl rfl)
    go_wp2
    go_ret2
    refine ⟨bb, k, _, rfl, ?_, HF.out, (((HB4.out.setCell (p := ⟨bb, 8, none⟩) hge _).setCell (p := ⟨bb, 9, none⟩) hge _).setCell (p := ⟨bb, 10, none⟩) hge _).setCell (p := ⟨bb, 11, none⟩) hge _⟩
    rw [hS.out]
    have h1 := (((HS4.out.set 8 (.int .i64 a) { new0 ⟨s, kd, u, o, a, b'⟩ seed room now with b0 := a } (by rw [h0E.out]; rfl) rfl).set 9 (.int .i64 b') { new0 ⟨s, kd, u, o, a, b'⟩ seed room now with b0 := a, b1 := b' } (by rw [h0E.out]; rfl) rfl).set 10 (.int .i64 b') { new0 ⟨s, kd, u, o, a, b'⟩ seed room now with b0 := a, b1 := b', b2 := b' } (by rw [h0E.out]; rfl) rfl).set 11 (.int .i64 T) { new0 ⟨s, kd, u, o, a, b'⟩ seed room now with b0 := a, b1 := b', b2 := b', b3 := T } (by rw [h0E.out]; rfl) rfl
    exact h1
  · have t3 : (kd == 2) = false := by simpa using hk2
    have hS := Lib.hid (hE.out.trans (if_neg hk2))
    clear hk2 hb
    go_wp2
    go_ret2
    refine ⟨bb, k, _, rfl, ?_, HF.out, HB3.out⟩
    rw [hS.out]
    exact HS.out
theorem fit_bucket {t : Tox} (hc : chk t = 0) (hk : t.kind = 2) (now : Int) : Bucket.okB t.a t.b t.b (add now 0) = true := by
  unfold chk at hc
  split at hc
  · omega
  split at hc
  · omega
  split at hc
  · omega
  rename_i h1 h2 h3
  simp only [Bool.and_eq_false_iff, not_or, Bool.not_eq_false] at h3
  have h4 := h3.2
  unfold numB ruleB rightB roomB at h4
  rw [hk, if_neg (by decide), if_pos rfl] at h4
  simp only [Bool.and_eq_true, decide_eq_true_eq] at h4
  unfold Bucket.okB Bucket.Ok
  have := nr_bd (nr now + nr 0)
  refine decide_eq_true ⟨h4.1.1.1, h4.1.1.2, h4.1.1.2, ⟨?_, ?_⟩, by omega, by omega⟩
  · exact this.1
  · exact this.2
theorem pass_kind {t : Tox} (h : passB t = true) : t = noTox := by
  obtain ⟨s, k, u, o, a, b⟩ := t
  unfold passB sameT noTox at h
  simp only [Bool.and_eq_true, beq_iff_eq] at h
  obtain ⟨h1, rfl, rfl, rfl, rfl, rfl⟩ := h
  have : s = ⟨#[]⟩ := by
    rw [ByteArray.toList_eq, ByteArray.toList_eq] at h1
    obtain ⟨⟨l⟩⟩ := s
    simp at h1
    subst h1
    rfl
  subst this
  rfl
def NewPost (w : World) (t : Tox) (seed room now : Int) (e : Ending) (w' : World) : Prop :=
  (newE t room = 0 → ∃ b k F, e = .returned (.tuple #[.pointer (some ⟨b, 0, none⟩), .int .i64 0]) ∧ SG w' F b k (newS t seed room now) ∧ (∀ j, F j → w.heap.size ≤ j) ∧ Below w.heap.size w w') ∧
  (newE t room ≠ 0 → e = .returned (.tuple #[.pointer none, .int .i64 (newE t room)]) ∧ Below w.heap.size w w')
theorem new_any (t : Tox) (seed room now : Int) (w : World) : Calls Try.prog 8 #[t.v, .int .u64 seed, .int .i64 room, .int .i64 now] w (NewPost w t seed room now) := by
  unfold NewPost newE
  obtain ⟨s, k, u, o, a, b⟩ := t
  cases hp : passB ⟨s, k, u, o, a, b⟩ with
  | true =>
    rw [if_neg (fun h => Bool.noConfusion h.1)]
    cases hr : roomOk room with
    | true =>
      rw [if_neg (by decide)]
      have hk := congrArg Tox.kind (pass_kind hp)
      exact (new_yes_p s k u o a b seed room now w hp hr (fun h => by simp only [noTox] at hk; omega)).mono fun e w' h => ⟨fun _ => h, fun h => absurd rfl h⟩
    | false =>
      rw [if_pos rfl]
      exact (new_room_p s k u o a b seed room now w hp hr).mono fun e w' h => ⟨fun h => by omega, fun _ => h⟩
  | false =>
    by_cases hc : chk ⟨s, k, u, o, a, b⟩ = 0
    · rw [if_neg (fun h => h.2 hc)]
      cases hr : roomOk room with
      | true =>
        rw [if_neg (by decide)]
        exact (new_yes_c s k u o a b seed room now w hp hc hr (fun h => fit_bucket (t := ⟨s, k, u, o, a, b⟩) hc h now)).mono fun e w' h => ⟨fun _ => h, fun h => absurd rfl h⟩
      | false =>
        rw [if_pos rfl]
        exact (new_room_c s k u o a b seed room now w hp hc hr).mono fun e w' h => ⟨fun h => by omega, fun _ => h⟩
    · rw [if_pos ⟨rfl, hc⟩]
      exact (new_bad s k u o a b seed room now w hp hc).mono fun e w' h => ⟨fun h => absurd h hc, fun _ => h⟩
end Go.Proofs.Ytehpliclknfmoaa.Stage
