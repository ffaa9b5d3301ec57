/- A stage's Take, Drain, New and Update (chapter 10). Conditions: the bytes are fewer than 2^30; the toxic is one that may be. -/
import Derived.Test.YtoiibmcbjjnpbaaE20
import Derived.Test.YtoiibmcbjjnpbaaE8
import Derived.Test.YtoiibmcbjjnpbaaE16
import Derived.Lib.SlBytesConst
namespace Go.Proofs.Ytoiibmcbjjnpbaa.Stage
open Go.RowKit Mem Tick Cargo Toxic
open Go.Proofs.YtoiibmcbjjnpbaaW.PrintLast Pu
open Go.Proofs.YtoiibmcbjjnpbaaW.PrintWords (eqA_of eqf_cons eqf_last)
set_option maxRecDepth 100000
set_option linter.unusedVariables false
set_option linter.unusedSimpArgs false
variable {w w' : World} {F : Nat → Prop} {b k : Nat} {s : Sg}
theorem takeOutB_nil : BS w none ⟨#[]⟩ := fun h => absurd h (by decide)
theorem take_shut (h : SG w F b k s) (ht : held s ≤ 1000000000) (n most : Int) (hc : (lookP s n).state ≠ 0 ∨ most < 1) :
    Calls Try.prog 46 #[.pointer (some ⟨b, 0, none⟩), .int .i64 n, .int .i64 most] w fun e w' => e = .returned (.slice none 0 0) ∧ SG w' F b k (lookP s n) ∧ Did F w w' := by
  have HS0 := Lib.hid (state_any h (by omega) n)
  clear h ht
  go_enter Try.func46, Try.ntmps46
  go_wp2_with fail
  refine HS0.out.mono ?_
  rintro e w1 ⟨rfl, HS, HD⟩
  clear HS0
  have HS' := Lib.hid HS
  have HD' := Lib.hid HD
  clear HS HD
  by_cases hst : (lookP s n).state = 0
  · have hm : most < 1 := hc.resolve_left (fun h => h hst)
    have tm : decide (most < 1) = true := decide_eq_true hm
    rw [hst]
    clear hst hc hm
    go_wp2
    go_ret
    exact ⟨rfl, HS'.out, HD'.out⟩
  · have tn : ((lookP s n).state != 0) = true := by simpa using hst
    clear hst hc
    go_wp2
    go_ret
    exact ⟨rfl, HS'.out, HD'.out⟩
theorem take_any (h : SG w F b k s) (hg : Full s.c.1) (hf : Fit s) (ht : held s ≤ 1000000000) (n most : Int) :
    Calls Try.prog 46 #[.pointer (some ⟨b, 0, none⟩), .int .i64 n, .int .i64 most] w fun e w' => ∃ A cap, e = .returned (.slice A (takeB s n most).size cap) ∧ BS w' A (takeB s n most) ∧ SG w' F b k (takeS s n most) ∧ Did F w w' ∧ Newly w A := by
  unfold takeB takeS
  by_cases hc : (lookP s n).state ≠ 0 ∨ most < 1
  · rw [if_pos hc, if_pos hc]
    exact (take_shut h ht n most hc).mono fun e w' ⟨he, hs, hd⟩ => ⟨none, 0, he, takeOutB_nil, hs, hd, fun g o e => by cases e⟩
  · rw [if_neg hc, if_neg hc]
    refine take_open h hg hf ht n most ?_ ?_
    · by_cases h0 : (lookP s n).state = 0
      · exact h0
      · exact absurd (.inl h0) hc
    · by_cases h0 : most < 1
      · exact absurd (.inr h0) hc
      · omega
def drainP (s : Sg) : Sg := { s with c := ([], s.c.2) }
def sameT (x y : Tox) : Bool := x.name.toList == y.name.toList && (x.kind == y.kind && (x.up == y.up && (x.often == y.often && (x.a == y.a && x.b == y.b))))
def noTox : Tox := ⟨⟨#[]⟩, 0, false, 0, 0, 0⟩
def passB (x : Tox) : Bool := sameT x noTox
theorem eq_tox (d : Nat) (w : World) (s0 s1 : ByteArray) (k0 k1 : Int) (u0 u1 : Bool) (o0 o1 a0 a1 b0 b1 : Int) :
    (Op.equalIn (d + 2) 29 (.agg #[.string s0, .int .i64 k0, .bool u0, .int .i64 o0, .int .i64 a0, .int .i64 b0]) (.agg #[.string s1, .int .i64 k1, .bool u1, .int .i64 o1, .int .i64 a1, .int .i64 b1])).run Try.prog w =
      .ok (sameT ⟨s0, k0, u0, o0, a0, b0⟩ ⟨s1, k1, u1, o1, a1, b1⟩) w := by
  unfold sameT
  refine eqA_of Try.underlying29 (by kernel_rfl) ?_
  refine eqf_cons (by rfl) (by go_simp; rfl) (by go_simp; rfl) (by go_simp) ?_
  refine eqf_cons (by rfl) (by go_simp; rfl) (by go_simp; rfl) (by go_simp) ?_
  refine eqf_cons (by rfl) (by go_simp; rfl) (by go_simp; rfl) (by go_simp) ?_
  refine eqf_cons (by rfl) (by go_simp; rfl) (by go_simp; rfl) (by go_simp) ?_
  refine eqf_cons (by rfl) (by go_simp; rfl) (by go_simp; rfl) (by go_simp) ?_
  exact eqf_last (by rfl) (by go_simp; rfl) (by go_simp; rfl) (by go_simp)
theorem neq_tox (w : World) (s0 s1 : ByteArray) (k0 k1 : Int) (u0 u1 : Bool) (o0 o1 a0 a1 b0 b1 : Int) :
    (binOp .neq 29 (.agg #[.string s0, .int .i64 k0, .bool u0, .int .i64 o0, .int .i64 a0, .int .i64 b0]) (.agg #[.string s1, .int .i64 k1, .bool u1, .int .i64 o1, .int .i64 a1, .int .i64 b1])).run Try.prog w =
      .ok (.bool (!sameT ⟨s0, k0, u0, o0, a0, b0⟩ ⟨s1, k1, u1, o1, a1, b1⟩)) w := by
  rw [run_neq_struct, eq_tox 9998]
  rfl
theorem eqguard_tox : Try.prog.eqGuardType Try.prog.depth 29 = false := by kernel_rfl
def roomOk (r : Int) : Bool := decide (1 ≤ r ∧ r ≤ 4096)
def newE (t : Tox) (room : Int) : Int := if passB t = false ∧ chk t ≠ 0 then chk t else if roomOk room = false then 1 else 0
def new0 (t : Tox) (seed room now : Int) : Sg := ⟨t, seed, 0, 0, 0, 0, ([], 0), room, add now 0, add now 0, 0, 0, false, 0, 0⟩
def newS (t : Tox) (seed room now : Int) : Sg := if t.kind = 2 then { new0 t seed room now with b0 := t.a, b1 := t.b, b2 := t.b, b3 := add now 0 } else new0 t seed room now
theorem bw_below {a w w1 : World} (h : Below a.heap.size a w) (hb : Below w.heap.size w w1) : Below a.heap.size a w1 := h.trans (hb.mono h.size)
theorem new_bad (s : ByteArray) (kd : Int) (u : Bool) (o a b' seed room now : Int) (w : World) (hp : passB ⟨s, kd, u, o, a, b'⟩ = false) (hc : chk ⟨s, kd, u, o, a, b'⟩ ≠ 0) :
    Calls Try.prog 29 #[.agg #[.string s, .int .i64 kd, .bool u, .int .i64 o, .int .i64 a, .int .i64 b'], .int .u64 seed, .int .i64 room, .int .i64 now] w fun e w' =>
      e = .returned (.tuple #[.pointer none, .int .i64 (chk ⟨s, kd, u, o, a, b'⟩)]) ∧ Below w.heap.size w w' := by
  have hq : ∀ W : World, (binOp .neq 29 (.agg #[.string s, .int .i64 kd, .bool u, .int .i64 o, .int .i64 a, .int .i64 b']) (.agg #[.string ⟨#[]⟩, .int .i64 0, .bool false, .int .i64 0, .int .i64 0, .int .i64 0])).run Try.prog W = .ok (.bool true) W := fun W => by
    rw [neq_tox]; unfold passB noTox at hp; rw [hp]; rfl
  have hguard := eqguard_tox
  have tc : (chk ⟨s, kd, u, o, a, b'⟩ != 0) = true := by simpa using hc
  have hB0 := Lib.hid ((Below.refl w.heap.size w).alloc (Nat.le_refl _) (.cells #[.string s, .int .i64 kd, .bool u, .int .i64 o, .int .i64 a, .int .i64 b'] 29))
  have hck := fun W => Lib.hid (check_any ⟨s, kd, u, o, a, b'⟩ W)
  clear hp hc
  generalize chk ⟨s, kd, u, o, a, b'⟩ = E at *
  go_enter Try.func29, Try.ntmps29
  go_wp2_with fail
  refine (hck _).out.mono ?_
  rintro e w1 ⟨rfl, hB⟩
  have HB := Lib.hid (bw_below hB0.out hB)
  clear hck hB hB0
  go_wp2
  go_ret2
  exact ⟨rfl, HB.out⟩
theorem new_room_p (s : ByteArray) (kd : Int) (u : Bool) (o a b' seed room now : Int) (w : World) (hp : passB ⟨s, kd, u, o, a, b'⟩ = true) (hr : roomOk room = false) :
    Calls Try.prog 29 #[.agg #[.string s, .int .i64 kd, .bool u, .int .i64 o, .int .i64 a, .int .i64 b'], .int .u64 seed, .int .i64 room, .int .i64 now] w fun e w' =>
      e = .returned (.tuple #[.pointer none, .int .i64 1]) ∧ Below w.heap.size w w' := by
  have hq : ∀ W : World, (binOp .neq 29 (.agg #[.string s, .int .i64 kd, .bool u, .int .i64 o, .int .i64 a, .int .i64 b']) (.agg #[.string ⟨#[]⟩, .int .i64 0, .bool false, .int .i64 0, .int .i64 0, .int .i64 0])).run Try.prog W = .ok (.bool false) W := fun W => by
    rw [neq_tox]; unfold passB noTox at hp; rw [hp]; rfl
  have hguard := eqguard_tox
  have hB0 := Lib.hid ((Below.refl w.heap.size w).alloc (Nat.le_refl _) (.cells #[.string s, .int .i64 kd, .bool u, .int .i64 o, .int .i64 a, .int .i64 b'] 29))
  have hX0 := Lib.hid (Blk.new w 29 #[.string s, .int .i64 kd, .bool u, .int .i64 o, .int .i64 a, .int .i64 b'])
  clear hp
  by_cases h1 : room < 1
  · have t1 : decide (room < 1) = true := decide_eq_true h1
    clear hr h1
    go_enter Try.func29, Try.ntmps29
    go_wp2
    go_ret2
    exact ⟨rfl, hB0.out⟩
  · have t1 : decide (room < 1) = false := decide_eq_false h1
    have t2 : decide (4096 < room) = true := decide_eq_true (by unfold roomOk at hr; have := of_decide_eq_false hr; omega)
    clear hr h1
    go_enter Try.func29, Try.ntmps29
    go_wp2
    go_ret2
    exact ⟨rfl, hB0.out⟩
theorem new_room_c (s : ByteArray) (kd : Int) (u : Bool) (o a b' seed room now : Int) (w : World) (hp : passB ⟨s, kd, u, o, a, b'⟩ = false) (hc : chk ⟨s, kd, u, o, a, b'⟩ = 0) (hr : roomOk room = false) :
    Calls Try.prog 29 #[.agg #[.string s, .int .i64 kd, .bool u, .int .i64 o, .int .i64 a, .int .i64 b'], .int .u64 seed, .int .i64 room, .int .i64 now] w fun e w' =>
      e = .returned (.tuple #[.pointer none, .int .i64 1]) ∧ Below w.heap.size w w' := by
  have hq : ∀ W : World, (binOp .neq 29 (.agg #[.string s, .int .i64 kd, .bool u, .int .i64 o, .int .i64 a, .int .i64 b']) (.agg #[.string ⟨#[]⟩, .int .i64 0, .bool false, .int .i64 0, .int .i64 0, .int .i64 0])).run Try.prog W = .ok (.bool true) W := fun W => by
    rw [neq_tox]; unfold passB noTox at hp; rw [hp]; rfl
  have hguard := eqguard_tox
  have hB0 := Lib.hid ((Below.refl w.heap.size w).alloc (Nat.le_refl _) (.cells #[.string s, .int .i64 kd, .bool u, .int .i64 o, .int .i64 a, .int .i64 b'] 29))
  have hX0 := Lib.hid (Blk.new w 29 #[.string s, .int .i64 kd, .bool u, .int .i64 o, .int .i64 a, .int .i64 b'])
  have hck := fun W => Lib.hid (check_any ⟨s, kd, u, o, a, b'⟩ W)
  have hc' := Lib.hid hc
  clear hp hc
  by_cases h1 : room < 1
  · have t1 : decide (room < 1) = true := decide_eq_true h1
    clear hr h1
    go_enter Try.func29, Try.ntmps29
    go_wp2_with fail
    refine (hck _).out.mono ?_
    rintro e w1 ⟨rfl, hB⟩
    rw [hc'.out]
    have HB := Lib.hid (bw_below hB0.out hB)
    have HX := Lib.hid (hX0.out.below hB)
    clear hck hB hB0 hX0 hc'
    go_wp2
    go_ret2
    exact ⟨rfl, HB.out⟩
  · have t1 : decide (room < 1) = false := decide_eq_false h1
    have t2 : decide (4096 < room) = true := decide_eq_true (by unfold roomOk at hr; have := of_decide_eq_false hr; omega)
    clear hr h1
    go_enter Try.func29, Try.ntmps29
    go_wp2_with fail
    refine (hck _).out.mono ?_
    rintro e w1 ⟨rfl, hB⟩
    rw [hc'.out]
    have HB := Lib.hid (bw_below hB0.out hB)
    have HX := Lib.hid (hX0.out.below hB)
    clear hck hB hB0 hX0 hc'
    go_wp2
    go_ret2
    exact ⟨rfl, HB.out⟩
theorem new_yes_p (s : ByteArray) (kd : Int) (u : Bool) (o a b' seed room now : Int) (w : World) (hp : passB ⟨s, kd, u, o, a, b'⟩ = true) (hr : roomOk room = true) (hb : kd = 2 → Bucket.okB a b' b' (add now 0) = true) :
    Calls Try.prog 29 #[.agg #[.string s, .int .i64 kd, .bool u, .int .i64 o, .int .i64 a, .int .i64 b'], .int .u64 seed, .int .i64 room, .int .i64 now] w fun e w' =>
      ∃ b k F, e = .returned (.tuple #[.pointer (some ⟨b, 0, none⟩), .int .i64 0]) ∧ SG w' F b k (newS ⟨s, kd, u, o, a, b'⟩ seed room now) ∧ (∀ j, F j → w.heap.size ≤ j) ∧ Below w.heap.size w w' := by
  have hq : ∀ W : World, (binOp .neq 29 (.agg #[.string s, .int .i64 kd, .bool u, .int .i64 o, .int .i64 a, .int .i64 b']) (.agg #[.string ⟨#[]⟩, .int .i64 0, .bool false, .int .i64 0, .int .i64 0, .int .i64 0])).run Try.prog W = .ok (.bool false) W := fun W => by
    rw [neq_tox]; unfold passB noTox at hp; rw [hp]; rfl
  have hguard := eqguard_tox
  have hB0 := Lib.hid ((Below.refl w.heap.size w).alloc (Nat.le_refl _) (.cells #[.string s, .int .i64 kd, .bool u, .int .i64 o, .int .i64 a, .int .i64 b'] 29))
  have hX0 := Lib.hid (Blk.new w 29 #[.string s, .int .i64 kd, .bool u, .int .i64 o, .int .i64 a, .int .i64 b'])
  clear hp
  have t1 : decide (room < 1) = false := decide_eq_false (by unfold roomOk at hr; have := of_decide_eq_true hr; omega)
  have t2 : decide (4096 < room) = false := decide_eq_false (by unfold roomOk at hr; have := of_decide_eq_true hr; omega)
  have hE := Lib.hid (show newS ⟨s, kd, u, o, a, b'⟩ seed room now = if kd = 2 then { new0 ⟨s, kd, u, o, a, b'⟩ seed room now with b0 := a, b1 := b', b2 := b', b3 := add now 0 } else new0 ⟨s, kd, u, o, a, b'⟩ seed room now from rfl)
  have h0E := Lib.hid (show new0 ⟨s, kd, u, o, a, b'⟩ seed room now = ⟨⟨s, kd, u, o, a, b'⟩, seed, 0, 0, 0, 0, ([], 0), room, add now 0, add now 0, 0, 0, false, 0, 0⟩ from rfl)
  clear hr
  go_enter Try.func29, Try.ntmps29
  go_wp2_with (go_at_call 50; refine (add_any now 0 _).mono ?_; rintro e w2 ⟨rfl, rfl⟩)
  generalize w.alloc (.cells #[.string s, .int .i64 kd, .bool u, .int .i64 o, .int .i64 a, .int .i64 b'] 29) = w1 at *
  have HB := hB0
  have HX := hX0
  clear hB0 hX0
  generalize add now 0 = T at *
  have x0 : w1.cell? ⟨w.heap.size, 0, none⟩ = some (.string s) := (HX.out.cell 0).trans rfl
  have x1 : w1.cell? ⟨w.heap.size, 1, none⟩ = some (.int .i64 kd) := (HX.out.cell 1).trans rfl
  have x2 : w1.cell? ⟨w.heap.size, 2, none⟩ = some (.bool u) := (HX.out.cell 2).trans rfl
  have x3 : w1.cell? ⟨w.heap.size, 3, none⟩ = some (.int .i64 o) := (HX.out.cell 3).trans rfl
  have x4 : w1.cell? ⟨w.heap.size, 4, none⟩ = some (.int .i64 a) := (HX.out.cell 4).trans rfl
  have x5 : w1.cell? ⟨w.heap.size, 5, none⟩ = some (.int .i64 b') := (HX.out.cell 5).trans rfl
  refine start_ (n := 9) (S := fun w' => w'.cell? ⟨w.heap.size, 0, none⟩ = some (.string s) ∧ w'.cell? ⟨w.heap.size, 1, none⟩ = some (.int .i64 kd) ∧ w'.cell? ⟨w.heap.size, 2, none⟩ = some (.bool u) ∧ w'.cell? ⟨w.heap.size, 3, none⟩ = some (.int .i64 o) ∧ w'.cell? ⟨w.heap.size, 4, none⟩ = some (.int .i64 a) ∧ w'.cell? ⟨w.heap.size, 5, none⟩ = some (.int .i64 b')) (ds := []) (m_ 9 0) (by kernel_rfl) rfl (by kernel_rfl) ⟨x0, x1, x2, x3, x4, x5⟩ (fun hHeld => ?_)
  refine pu_ 2 (some 30) (m_ 9 4) rfl rfl (by kernel_rfl) (fun _ _ _ h => h) (by rfl) (by intro w'; go_simp; with_reducible rfl) (by simp only [Act.put, List.setIfInBounds_toArray, List.set_cons_zero, List.set_cons_succ, i64_w, i32_w]; rfl) ?_
  refine pu_ 3 (some 31) (m_ 9 12) rfl rfl (by kernel_rfl) (fun _ _ _ h => h) (by rfl) (by intro w'; go_simp; with_reducible rfl) (by simp only [Act.put, List.setIfInBounds_toArray, List.set_cons_zero, List.set_cons_succ, i64_w, i32_w]; rfl) ?_
  refine pu_ 4 (some 32) (m_ 9 28) rfl rfl (by kernel_rfl) (fun _ _ _ h => h) (by rfl) (by intro w'; go_simp; with_reducible rfl) (by simp only [Act.put, List.setIfInBounds_toArray, List.set_cons_zero, List.set_cons_succ, i64_w, i32_w]; rfl) ?_
  refine pu_ 5 (some 33) (m_ 9 60) rfl rfl (by kernel_rfl) (fun _ _ _ h => h) (by rfl) (by intro w'; go_simp; with_reducible rfl) (by simp only [Act.put, List.setIfInBounds_toArray, List.set_cons_zero, List.set_cons_succ, i64_w, i32_w]; rfl) ?_
  refine tk_ 1 (some 29) (m_ 9 62) rfl rfl (by kernel_rfl) (fun _ _ _ h => h) (by rfl) (by rintro w' ⟨s0, s1, s2, s3, s4, s5⟩; go_simp; with_reducible rfl) hHeld (by simp only [Act.put, List.setIfInBounds_toArray, List.set_cons_zero, List.set_cons_succ, i64_w, i32_w]; rfl) ?_
  refine one_ (i := 0) (N := some 28) (m_ 9 63) rfl rfl (by kernel_rfl) (by decide) (fun K hK => ?_)
  refine goes_ Try.func51 (by kernel_rfl) rfl #[] (by rfl) rfl rfl (by simp) ?_
  with_reducible refine (Cargo.new_any w1.drew).mono ?_
  rintro e w2 ⟨k, G, rfl, hC, hG, hB⟩
  have hB1 := below_drew hB
  have HC := Lib.hid hC
  have HG := Lib.hid hG
  have HX2 := Lib.hid (HX.out.below hB1)
  have HB2 := Lib.hid (bw_below HB.out hB1)
  have y0 := bcells hB1 x0
  have y1 := bcells hB1 x1
  have y2 := bcells hB1 x2
  have y3 := bcells hB1 x3
  have y4 := bcells hB1 x4
  have y5 := bcells hB1 x5
  clear hB hB1 hC hG
  refine ⟨_, rfl, ?_⟩
  refine hK.out _ _ ⟨y0, y1, y2, y3, y4, y5⟩ (fun hHeld => ?_)
  clear hK K
  refine norm_ (a' := ?_) ?_ ?_
  rotate_left
  · show Act.put _ (some 28) _ = _
    simp only [Act.put, List.setIfInBounds_toArray, List.set_cons_zero, List.set_cons_succ, i64_w, i32_w]
    rfl
  refine pu_ 6 (some 34) (m_ 9 127) rfl rfl (by kernel_rfl) (fun _ _ _ h => h) (by rfl) (by intro w'; go_simp; with_reducible rfl) (by simp only [Act.put, List.setIfInBounds_toArray, List.set_cons_zero, List.set_cons_succ, i64_w, i32_w]; rfl) ?_
  refine one_ (i := 7) (N := some 35) (m_ 9 255) rfl rfl (by kernel_rfl) (by decide) (fun K hK => ?_)
  refine value_ (w1 := ?_) (v := ?_) (by rfl) rfl ?_ ?_
  rotate_left 2
  · go_simp
    constructor
    · rfl
    · rfl
  refine hK.out _ _ ⟨bcells ((Below.refl w2.heap.size w2).alloc (Nat.le_refl _) (.cells #[.pointer (some ⟨k, 0, none⟩), .string s, .int .i64 kd, .bool u, .int .i64 o, .int .i64 a, .int .i64 b', .int .u64 seed, .int .i64 0, .int .i64 0, .int .i64 0, .int .i64 0, .int .i64 room, .int .i64 T, .int .i64 T, .int .i64 0, .int .i64 0, .bool false, .int .i64 0, .int .i64 0] 93)) y0, bcells ((Below.refl w2.heap.size w2).alloc (Nat.le_refl _) (.cells #[.pointer (some ⟨k, 0, none⟩), .string s, .int .i64 kd, .bool u, .int .i64 o, .int .i64 a, .int .i64 b', .int .u64 seed, .int .i64 0, .int .i64 0, .int .i64 0, .int .i64 0, .int .i64 room, .int .i64 T, .int .i64 T, .int .i64 0, .int .i64 0, .bool false, .int .i64 0, .int .i64 0] 93)) y1, bcells ((Below.refl w2.heap.size w2).alloc (Nat.le_refl _) (.cells #[.pointer (some ⟨k, 0, none⟩), .string s, .int .i64 kd, .bool u, .int .i64 o, .int .i64 a, .int .i64 b', .int .u64 seed, .int .i64 0, .int .i64 0, .int .i64 0, .int .i64 0, .int .i64 room, .int .i64 T, .int .i64 T, .int .i64 0, .int .i64 0, .bool false, .int .i64 0, .int .i64 0] 93)) y2, bcells ((Below.refl w2.heap.size w2).alloc (Nat.le_refl _) (.cells #[.pointer (some ⟨k, 0, none⟩), .string s, .int .i64 kd, .bool u, .int .i64 o, .int .i64 a, .int .i64 b', .int .u64 seed, .int .i64 0, .int .i64 0, .int .i64 0, .int .i64 0, .int .i64 room, .int .i64 T, .int .i64 T, .int .i64 0, .int .i64 0, .bool false, .int .i64 0, .int .i64 0] 93)) y3, bcells ((Below.refl w2.heap.size w2).alloc (Nat.le_refl _) (.cells #[.pointer (some ⟨k, 0, none⟩), .string s, .int .i64 kd, .bool u, .int .i64 o, .int .i64 a, .int .i64 b', .int .u64 seed, .int .i64 0, .int .i64 0, .int .i64 0, .int .i64 0, .int .i64 room, .int .i64 T, .int .i64 T, .int .i64 0, .int .i64 0, .bool false, .int .i64 0, .int .i64 0] 93)) y4, bcells ((Below.refl w2.heap.size w2).alloc (Nat.le_refl _) (.cells #[.pointer (some ⟨k, 0, none⟩), .string s, .int .i64 kd, .bool u, .int .i64 o, .int .i64 a, .int .i64 b', .int .u64 seed, .int .i64 0, .int .i64 0, .int .i64 0, .int .i64 0, .int .i64 room, .int .i64 T, .int .i64 T, .int .i64 0, .int .i64 0, .bool false, .int .i64 0, .int .i64 0] 93)) y5⟩ (fun hHeld => ?_)
  clear hK K
  refine norm_ (a' := ?_) ?_ ?_
  rotate_left
  · show Act.put _ (some 35) _ = _
    simp only [Act.put, List.setIfInBounds_toArray, List.set_cons_zero, List.set_cons_succ, i64_w, i32_w]
    rfl
  refine pu_ 8 (some 11) (m_ 9 511) rfl rfl (by kernel_rfl) (fun _ _ _ h => h) (by rfl) (by intro w'; go_simp; with_reducible rfl) (by simp only [Act.put, List.setIfInBounds_toArray, List.set_cons_zero, List.set_cons_succ, i64_w, i32_w]; rfl) ?_
  refine done_ (by kernel_rfl) ?_
  clear hHeld x0 x1 x2 x3 x4 x5 y0 y1 y2 y3 y4 y5
  have hlt := HB2.out.size
  have HS := Lib.hid (show SG (w2.alloc (.cells #[.pointer (some ⟨k, 0, none⟩), .string s, .int .i64 kd, .bool u, .int .i64 o, .int .i64 a, .int .i64 b', .int .u64 seed, .int .i64 0, .int .i64 0, .int .i64 0, .int .i64 0, .int .i64 room, .int .i64 T, .int .i64 T, .int .i64 0, .int .i64 0, .bool false, .int .i64 0, .int .i64 0] 93)) (fun j => j = w2.heap.size ∨ G j) w2.heap.size k (new0 ⟨s, kd, u, o, a, b'⟩ seed room now) from ⟨G, by rw [h0E.out]; exact Blk.new w2 _ _, by rw [h0E.out]; exact HC.out.below ((Below.refl w2.heap.size w2).alloc (Nat.le_refl _) (.cells #[.pointer (some ⟨k, 0, none⟩), .string s, .int .i64 kd, .bool u, .int .i64 o, .int .i64 a, .int .i64 b', .int .u64 seed, .int .i64 0, .int .i64 0, .int .i64 0, .int .i64 0, .int .i64 room, .int .i64 T, .int .i64 T, .int .i64 0, .int .i64 0, .bool false, .int .i64 0, .int .i64 0] 93)), fun j => Iff.rfl⟩)
  have HF := Lib.hid (show ∀ j, (j = w2.heap.size ∨ G j) → w.heap.size ≤ j from fun j hj => hj.elim (fun h => by omega) fun h => Nat.le_trans HB.out.size (HG.out j h))
  have HB3 := Lib.hid (bw_below HB2.out ((Below.refl w2.heap.size w2).alloc (Nat.le_refl _) (.cells #[.pointer (some ⟨k, 0, none⟩), .string s, .int .i64 kd, .bool u, .int .i64 o, .int .i64 a, .int .i64 b', .int .u64 seed, .int .i64 0, .int .i64 0, .int .i64 0, .int .i64 0, .int .i64 room, .int .i64 T, .int .i64 T, .int .i64 0, .int .i64 0, .bool false, .int .i64 0, .int .i64 0] 93)))
  have HX3 := Lib.hid (HX2.out.below ((Below.refl w2.heap.size w2).alloc (Nat.le_refl _) (.cells #[.pointer (some ⟨k, 0, none⟩), .string s, .int .i64 kd, .bool u, .int .i64 o, .int .i64 a, .int .i64 b', .int .u64 seed, .int .i64 0, .int .i64 0, .int .i64 0, .int .i64 0, .int .i64 room, .int .i64 T, .int .i64 T, .int .i64 0, .int .i64 0, .bool false, .int .i64 0, .int .i64 0] 93)))
  clear HC HG HB HX HB2 HX2
  generalize w2.alloc (.cells #[.pointer (some ⟨k, 0, none⟩), .string s, .int .i64 kd, .bool u, .int .i64 o, .int .i64 a, .int .i64 b', .int .u64 seed, .int .i64 0, .int .i64 0, .int .i64 0, .int .i64 0, .int .i64 room, .int .i64 T, .int .i64 T, .int .i64 0, .int .i64 0, .bool false, .int .i64 0, .int .i64 0] 93) = w3 at *
  generalize w2.heap.size = bb at *
  have x1 : w3.cell? ⟨w.heap.size, 1, none⟩ = some (.int .i64 kd) := (HX3.out.cell 1).trans rfl
  have x4 : w3.cell? ⟨w.heap.size, 4, none⟩ = some (.int .i64 a) := (HX3.out.cell 4).trans rfl
  have x5 : w3.cell? ⟨w.heap.size, 5, none⟩ = some (.int .i64 b') := (HX3.out.cell 5).trans rfl
  by_cases hk2 : kd = 2
  · have hbk := Lib.hid (hb hk2)
    have t3 : (kd == 2) = true := by simpa using hk2
    have hS := Lib.hid (hE.out.trans (if_pos hk2))
    clear hk2 hb
    go_wp2_with fail
    refine (Bucket.bnew_yes a b' T _ hbk.out).mono ?_
    rintro e w4 ⟨rfl, hB4⟩
    have HS4 := Lib.hid (HS.out.below hB4)
    have HB4 := Lib.hid (bw_below HB3.out hB4)
    clear hB4 x1 x4 x5
    have hbl : bb < w4.heap.size := HS4.out.lt HS4.out.mine
    have c8 : w4.cell? ⟨bb, 8, none⟩ = some (.int .i64 0) := (HS4.out.blk.cell 8).trans (by rw [h0E.out]; rfl)
    have c9 : w4.cell? ⟨bb, 9, none⟩ = some (.int .i64 0) := (HS4.out.blk.cell 9).trans (by rw [h0E.out]; rfl)
    have c10 : w4.cell? ⟨bb, 10, none⟩ = some (.int .i64 0) := (HS4.out.blk.cell 10).trans (by rw [h0E.out]; rfl)
    have c11 : w4.cell? ⟨bb, 11, none⟩ = some (.int .i64 0) := (HS4.out.blk.cell 11).trans (by rw [h0E.out]; rfl)
    have f8 := HS4.out.blk.free 8
    have f9 := HS4.out.blk.free 9
    have f10 := HS4.out.blk.free 10
    have f11 := HS4.out.blk.free 11
    have hge := HF.out bb (.inl rfl)
    go_wp2
    go_ret2
    refine ⟨bb, k, _, rfl, ?_, HF.out, (((HB4.out.setCell (p := ⟨bb, 8, none⟩) hge _).setCell (p := ⟨bb, 9, none⟩) hge _).setCell (p := ⟨bb, 10, none⟩) hge _).setCell (p := ⟨bb, 11, none⟩) hge _⟩
    rw [hS.out]
    have h1 := (((HS4.out.set 8 (.int .i64 a) { new0 ⟨s, kd, u, o, a, b'⟩ seed room now with b0 := a } (by rw [h0E.out]; rfl) rfl).set 9 (.int .i64 b') { new0 ⟨s, kd, u, o, a, b'⟩ seed room now with b0 := a, b1 := b' } (by rw [h0E.out]; rfl) rfl).set 10 (.int .i64 b') { new0 ⟨s, kd, u, o, a, b'⟩ seed room now with b0 := a, b1 := b', b2 := b' } (by rw [h0E.out]; rfl) rfl).set 11 (.int .i64 T) { new0 ⟨s, kd, u, o, a, b'⟩ seed room now with b0 := a, b1 := b', b2 := b', b3 := T } (by rw [h0E.out]; rfl) rfl
    exact h1
  · have t3 : (kd == 2) = false := by simpa using hk2
    have hS := Lib.hid (hE.out.trans (if_neg hk2))
    clear hk2 hb
    go_wp2
    go_ret2
    refine ⟨bb, k, _, rfl, ?_, HF.out, HB3.out⟩
    rw [hS.out]
    exact HS.out
theorem new_yes_c (s : ByteArray) (kd : Int) (u : Bool) (o a b' seed room now : Int) (w : World) (hp : passB ⟨s, kd, u, o, a, b'⟩ = false) (hc : chk ⟨s, kd, u, o, a, b'⟩ = 0) (hr : roomOk room = true) (hb : kd = 2 → Bucket.okB a b' b' (add now 0) = true) :
    Calls Try.prog 29 #[.agg #[.string s, .int .i64 kd, .bool u, .int .i64 o, .int .i64 a, .int .i64 b'], .int .u64 seed, .int .i64 room, .int .i64 now] w fun e w' =>
      ∃ b k F, e = .returned (.tuple #[.pointer (some ⟨b, 0, none⟩), .int .i64 0]) ∧ SG w' F b k (newS ⟨s, kd, u, o, a, b'⟩ seed room now) ∧ (∀ j, F j → w.heap.size ≤ j) ∧ Below w.heap.size w w' := by
  have hq : ∀ W : World, (binOp .neq 29 (.agg #[.string s, .int .i64 kd, .bool u, .int .i64 o, .int .i64 a, .int .i64 b']) (.agg #[.string ⟨#[]⟩, .int .i64 0, .bool false, .int .i64 0, .int .i64 0, .int .i64 0])).run Try.prog W = .ok (.bool true) W := fun W => by
    rw [neq_tox]; unfold passB noTox at hp; rw [hp]; rfl
  have hguard := eqguard_tox
  have hB0 := Lib.hid ((Below.refl w.heap.size w).alloc (Nat.le_refl _) (.cells #[.string s, .int .i64 kd, .bool u, .int .i64 o, .int .i64 a, .int .i64 b'] 29))
  have hX0 := Lib.hid (Blk.new w 29 #[.string s, .int .i64 kd, .bool u, .int .i64 o, .int .i64 a, .int .i64 b'])
  have hck := fun W => Lib.hid (check_any ⟨s, kd, u, o, a, b'⟩ W)
  have hc' := Lib.hid hc
  clear hp hc
  have t1 : decide (room < 1) = false := decide_eq_false (by unfold roomOk at hr; have := of_decide_eq_true hr; omega)
  have t2 : decide (4096 < room) = false := decide_eq_false (by unfold roomOk at hr; have := of_decide_eq_true hr; omega)
  have hE := Lib.hid (show newS ⟨s, kd, u, o, a, b'⟩ seed room now = if kd = 2 then { new0 ⟨s, kd, u, o, a, b'⟩ seed room now with b0 := a, b1 := b', b2 := b', b3 := add now 0 } else new0 ⟨s, kd, u, o, a, b'⟩ seed room now from rfl)
  have h0E := Lib.hid (show new0 ⟨s, kd, u, o, a, b'⟩ seed room now = ⟨⟨s, kd, u, o, a, b'⟩, seed, 0, 0, 0, 0, ([], 0), room, add now 0, add now 0, 0, 0, false, 0, 0⟩ from rfl)
  clear hr
  go_enter Try.func29, Try.ntmps29
  go_wp2_with fail
  refine (hck _).out.mono ?_
  rintro e w1 ⟨rfl, hB⟩
  rw [hc'.out]
  have HB := Lib.hid (bw_below hB0.out hB)
  have HX := Lib.hid (hX0.out.below hB)
  clear hck hB hB0 hX0 hc'
  go_wp2_with (go_at_call 50; refine (add_any now 0 _).mono ?_; rintro e w2 ⟨rfl, rfl⟩)
  generalize add now 0 = T at *
  have x0 : w1.cell? ⟨w.heap.size, 0, none⟩ = some (.string s) := (HX.out.cell 0).trans rfl
  have x1 : w1.cell? ⟨w.heap.size, 1, none⟩ = some (.int .i64 kd) := (HX.out.cell 1).trans rfl
  have x2 : w1.cell? ⟨w.heap.size, 2, none⟩ = some (.bool u) := (HX.out.cell 2).trans rfl
  have x3 : w1.cell? ⟨w.heap.size, 3, none⟩ = some (.int .i64 o) := (HX.out.cell 3).trans rfl
  have x4 : w1.cell? ⟨w.heap.size, 4, none⟩ = some (.int .i64 a) := (HX.out.cell 4).trans rfl
  have x5 : w1.cell? ⟨w.heap.size, 5, none⟩ = some (.int .i64 b') := (HX.out.cell 5).trans rfl
  refine start_ (n := 9) (S := fun w' => w'.cell? ⟨w.heap.size, 0, none⟩ = some (.string s) ∧ w'.cell? ⟨w.heap.size, 1, none⟩ = some (.int .i64 kd) ∧ w'.cell? ⟨w.heap.size, 2, none⟩ = some (.bool u) ∧ w'.cell? ⟨w.heap.size, 3, none⟩ = some (.int .i64 o) ∧ w'.cell? ⟨w.heap.size, 4, none⟩ = some (.int .i64 a) ∧ w'.cell? ⟨w.heap.size, 5, none⟩ = some (.int .i64 b')) (ds := []) (m_ 9 0) (by kernel_rfl) rfl (by kernel_rfl) ⟨x0, x1, x2, x3, x4, x5⟩ (fun hHeld => ?_)
  refine pu_ 2 (some 30) (m_ 9 4) rfl rfl (by kernel_rfl) (fun _ _ _ h => h) (by rfl) (by intro w'; go_simp; with_reducible rfl) (by simp only [Act.put, List.setIfInBounds_toArray, List.set_cons_zero, List.set_cons_succ, i64_w, i32_w]; rfl) ?_
  refine pu_ 3 (some 31) (m_ 9 12) rfl rfl (by kernel_rfl) (fun _ _ _ h => h) (by rfl) (by intro w'; go_simp; with_reducible rfl) (by simp only [Act.put, List.setIfInBounds_toArray, List.set_cons_zero, List.set_cons_succ, i64_w, i32_w]; rfl) ?_
  refine pu_ 4 (some 32) (m_ 9 28) rfl rfl (by kernel_rfl) (fun _ _ _ h => h) (by rfl) (by intro w'; go_simp; with_reducible rfl) (by simp only [Act.put, List.setIfInBounds_toArray, List.set_cons_zero, List.set_cons_succ, i64_w, i32_w]; rfl) ?_
  refine pu_ 5 (some 33) (m_ 9 60) rfl rfl (by kernel_rfl) (fun _ _ _ h => h) (by rfl) (by intro w'; go_simp; with_reducible rfl) (by simp only [Act.put, List.setIfInBounds_toArray, List.set_cons_zero, List.set_cons_succ, i64_w, i32_w]; rfl) ?_
  refine tk_ 1 (some 29) (m_ 9 62) rfl rfl (by kernel_rfl) (fun _ _ _ h => h) (by rfl) (by rintro w' ⟨s0, s1, s2, s3, s4, s5⟩; go_simp; with_reducible rfl) hHeld (by simp only [Act.put, List.setIfInBounds_toArray, List.set_cons_zero, List.set_cons_succ, i64_w, i32_w]; rfl) ?_
  refine one_ (i := 0) (N := some 28) (m_ 9 63) rfl rfl (by kernel_rfl) (by decide) (fun K hK => ?_)
  refine goes_ Try.func51 (by kernel_rfl) rfl #[] (by rfl) rfl rfl (by simp) ?_
  with_reducible refine (Cargo.new_any w1.drew).mono ?_
  rintro e w2 ⟨k, G, rfl, hC, hG, hB⟩
  have hB1 := below_drew hB
  have HC := Lib.hid hC
  have HG := Lib.hid hG
  have HX2 := Lib.hid (HX.out.below hB1)
  have HB2 := Lib.hid (bw_below HB.out hB1)
  have y0 := bcells hB1 x0
  have y1 := bcells hB1 x1
  have y2 := bcells hB1 x2
  have y3 := bcells hB1 x3
  have y4 := bcells hB1 x4
  have y5 := bcells hB1 x5
  clear hB hB1 hC hG
  refine ⟨_, rfl, ?_⟩
  refine hK.out _ _ ⟨y0, y1, y2, y3, y4, y5⟩ (fun hHeld => ?_)
  clear hK K
  refine norm_ (a' := ?_) ?_ ?_
  rotate_left
  · show Act.put _ (some 28) _ = _
    simp only [Act.put, List.setIfInBounds_toArray, List.set_cons_zero, List.set_cons_succ, i64_w, i32_w]
    rfl
  refine pu_ 6 (some 34) (m_ 9 127) rfl rfl (by kernel_rfl) (fun _ _ _ h => h) (by rfl) (by intro w'; go_simp; with_reducible rfl) (by simp only [Act.put, List.setIfInBounds_toArray, List.set_cons_zero, List.set_cons_succ, i64_w, i32_w]; rfl) ?_
  refine one_ (i := 7) (N := some 35) (m_ 9 255) rfl rfl (by kernel_rfl) (by decide) (fun K hK => ?_)
  refine value_ (w1 := ?_) (v := ?_) (by rfl) rfl ?_ ?_
  rotate_left 2
  · go_simp
    constructor
    · rfl
    · rfl
  refine hK.out _ _ ⟨bcells ((Below.refl w2.heap.size w2).alloc (Nat.le_refl _) (.cells #[.pointer (some ⟨k, 0, none⟩), .string s, .int .i64 kd, .bool u, .int .i64 o, .int .i64 a, .int .i64 b', .int .u64 seed, .int .i64 0, .int .i64 0, .int .i64 0, .int .i64 0, .int .i64 room, .int .i64 T, .int .i64 T, .int .i64 0, .int .i64 0, .bool false, .int .i64 0, .int .i64 0] 93)) y0, bcells ((Below.refl w2.heap.size w2).alloc (Nat.le_refl _) (.cells #[.pointer (some ⟨k, 0, none⟩), .string s, .int .i64 kd, .bool u, .int .i64 o, .int .i64 a, .int .i64 b', .int .u64 seed, .int .i64 0, .int .i64 0, .int .i64 0, .int .i64 0, .int .i64 room, .int .i64 T, .int .i64 T, .int .i64 0, .int .i64 0, .bool false, .int .i64 0, .int .i64 0] 93)) y1, bcells ((Below.refl w2.heap.size w2).alloc (Nat.le_refl _) (.cells #[.pointer (some ⟨k, 0, none⟩), .string s, .int .i64 kd, .bool u, .int .i64 o, .int .i64 a, .int .i64 b', .int .u64 seed, .int .i64 0, .int .i64 0, .int .i64 0, .int .i64 0, .int .i64 room, .int .i64 T, .int .i64 T, .int .i64 0, .int .i64 0, .bool false, .int .i64 0, .int .i64 0] 93)) y2, bcells ((Below.refl w2.heap.size w2).alloc (Nat.le_refl _) (.cells #[.pointer (some ⟨k, 0, none⟩), .string s, .int .i64 kd, .bool u, .int .i64 o, .int .i64 a, .int .i64 b', .int .u64 seed, .int .i64 0, .int .i64 0, .int .i64 0, .int .i64 0, .int .i64 room, .int .i64 T, .int .i64 T, .int .i64 0, .int .i64 0, .bool false, .int .i64 0, .int .i64 0] 93)) y3, bcells ((Below.refl w2.heap.size w2).alloc (Nat.le_refl _) (.cells #[.pointer (some ⟨k, 0, none⟩), .string s, .int .i64 kd, .bool u, .int .i64 o, .int .i64 a, .int .i64 b', .int .u64 seed, .int .i64 0, .int .i64 0, .int .i64 0, .int .i64 0, .int .i64 room, .int .i64 T, .int .i64 T, .int .i64 0, .int .i64 0, .bool false, .int .i64 0, .int .i64 0] 93)) y4, bcells ((Below.refl w2.heap.size w2).alloc (Nat.le_refl _) (.cells #[.pointer (some ⟨k, 0, none⟩), .string s, .int .i64 kd, .bool u, .int .i64 o, .int .i64 a, .int .i64 b', .int .u64 seed, .int .i64 0, .int .i64 0, .int .i64 0, .int .i64 0, .int .i64 room, .int .i64 T, .int .i64 T, .int .i64 0, .int .i64 0, .bool false, .int .i64 0, .int .i64 0] 93)) y5⟩ (fun hHeld => ?_)
  clear hK K
  refine norm_ (a' := ?_) ?_ ?_
  rotate_left
  · show Act.put _ (some 35) _ = _
    simp only [Act.put, List.setIfInBounds_toArray, List.set_cons_zero, List.set_cons_succ, i64_w, i32_w]
    rfl
  refine pu_ 8 (some 11) (m_ 9 511) rfl rfl (by kernel_rfl) (fun _ _ _ h => h) (by rfl) (by intro w'; go_simp; with_reducible rfl) (by simp only [Act.put, List.setIfInBounds_toArray, List.set_cons_zero, List.set_cons_succ, i64_w, i32_w]; rfl) ?_
  refine done_ (by kernel_rfl) ?_
  clear hHeld x0 x1 x2 x3 x4 x5 y0 y1 y2 y3 y4 y5
  have hlt := HB2.out.size
  have HS := Lib.hid (show SG (w2.alloc (.cells #[.pointer (some ⟨k, 0, none⟩), .string s, .int .i64 kd, .bool u, .int .i64 o, .int .i64 a, .int .i64 b', .int .u64 seed, .int .i64 0, .int .i64 0, .int .i64 0, .int .i64 0, .int .i64 room, .int .i64 T, .int .i64 T, .int .i64 0, .int .i64 0, .bool false, .int .i64 0, .int .i64 0] 93)) (fun j => j = w2.heap.size ∨ G j) w2.heap.size k (new0 ⟨s, kd, u, o, a, b'⟩ seed room now) from ⟨G, by rw [h0E.out]; exact Blk.new w2 _ _, by rw [h0E.out]; exact HC.out.below ((Below.refl w2.heap.size w2).alloc (Nat.le_refl _) (.cells #[.pointer (some ⟨k, 0, none⟩), .string s, .int .i64 kd, .bool u, .int .i64 o, .int .i64 a, .int .i64 b', .int .u64 seed, .int .i64 0, .int .i64 0, .int .i64 0, .int .i64 0, .int .i64 room, .int .i64 T, .int .i64 T, .int .i64 0, .int .i64 0, .bool false, .int .i64 0, .int .i64 0] 93)), fun j => Iff.rfl⟩)
  have HF := Lib.hid (show ∀ j, (j = w2.heap.size ∨ G j) → w.heap.size ≤ j from fun j hj => hj.elim (fun h => by omega) fun h => Nat.le_trans HB.out.size (HG.out j h))
  have HB3 := Lib.hid (bw_below HB2.out ((Below.refl w2.heap.size w2).alloc (Nat.le_refl _) (.cells #[.pointer (some ⟨k, 0, none⟩), .string s, .int .i64 kd, .bool u, .int .i64 o, .int .i64 a, .int .i64 b', .int .u64 seed, .int .i64 0, .int .i64 0, .int .i64 0, .int .i64 0, .int .i64 room, .int .i64 T, .int .i64 T, .int .i64 0, .int .i64 0, .bool false, .int .i64 0, .int .i64 0] 93)))
  have HX3 := Lib.hid (HX2.out.below ((Below.refl w2.heap.size w2).alloc (Nat.le_refl _) (.cells #[.pointer (some ⟨k, 0, none⟩), .string s, .int .i64 kd, .bool u, .int .i64 o, .int .i64 a, .int .i64 b', .int .u64 seed, .int .i64 0, .int .i64 0, .int .i64 0, .int .i64 0, .int .i64 room, .int .i64 T, .int .i64 T, .int .i64 0, .int .i64 0, .bool false, .int .i64 0, .int .i64 0] 93)))
  clear HC HG HB HX HB2 HX2
  generalize w2.alloc (.cells #[.pointer (some ⟨k, 0, none⟩), .string s, .int .i64 kd, .bool u, .int .i64 o, .int .i64 a, .int .i64 b', .int .u64 seed, .int .i64 0, .int .i64 0, .int .i64 0, .int .i64 0, .int .i64 room, .int .i64 T, .int .i64 T, .int .i64 0, .int .i64 0, .bool false, .int .i64 0, .int .i64 0] 93) = w3 at *
  generalize w2.heap.size = bb at *
  have x1 : w3.cell? ⟨w.heap.size, 1, none⟩ = some (.int .i64 kd) := (HX3.out.cell 1).trans rfl
  have x4 : w3.cell? ⟨w.heap.size, 4, none⟩ = some (.int .i64 a) := (HX3.out.cell 4).trans rfl
  have x5 : w3.cell? ⟨w.heap.size, 5, none⟩ = some (.int .i64 b') := (HX3.out.cell 5).trans rfl
  by_cases hk2 : kd = 2
  · have hbk := Lib.hid (hb hk2)
    have t3 : (kd == 2) = true := by simpa using hk2
    have hS := Lib.hid (hE.out.trans (if_pos hk2))
    clear hk2 hb
    go_wp2_with fail
    refine (Bucket.bnew_yes a b' T _ hbk.out).mono ?_
    rintro e w4 ⟨rfl, hB4⟩
    have HS4 := Lib.hid (HS.out.below hB4)
    have HB4 := Lib.hid (bw_below HB3.out hB4)
    clear hB4 x1 x4 x5
    have hbl : bb < w4.heap.size := HS4.out.lt HS4.out.mine
    have c8 : w4.cell? ⟨bb, 8, none⟩ = some (.int .i64 0) := (HS4.out.blk.cell 8).trans (by rw [h0E.out]; rfl)
    have c9 : w4.cell? ⟨bb, 9, none⟩ = some (.int .i64 0) := (HS4.out.blk.cell 9).trans (by rw [h0E.out]; rfl)
    have c10 : w4.cell? ⟨bb, 10, none⟩ = some (.int .i64 0) := (HS4.out.blk.cell 10).trans (by rw [h0E.out]; rfl)
    have c11 : w4.cell? ⟨bb, 11, none⟩ = some (.int .i64 0) := (HS4.out.blk.cell 11).trans (by rw [h0E.out]; rfl)
    have f8 := HS4.out.blk.free 8
    have f9 := HS4.out.blk.free 9
    have f10 := HS4.out.blk.free 10
    have f11 := HS4.out.blk.free 11
    have hge := HF.out bb (.inl rfl)
    go_wp2
    go_ret2
    refine ⟨bb, k, _, rfl, ?_, HF.out, (((HB4.out.setCell (p := ⟨bb, 8, none⟩) hge _).setCell (p := ⟨bb, 9, none⟩) hge _).setCell (p := ⟨bb, 10, none⟩) hge _).setCell (p := ⟨bb, 11, none⟩) hge _⟩
    rw [hS.out]
    have h1 := (((HS4.out.set 8 (.int .i64 a) { new0 ⟨s, kd, u, o, a, b'⟩ seed room now with b0 := a } (by rw [h0E.out]; rfl) rfl).set 9 (.int .i64 b') { new0 ⟨s, kd, u, o, a, b'⟩ seed room now with b0 := a, b1 := b' } (by rw [h0E.out]; rfl) rfl).set 10 (.int .i64 b') { new0 ⟨s, kd, u, o, a, b'⟩ seed room now with b0 := a, b1 := b', b2 := b' } (by rw [h0E.out]; rfl) rfl).set 11 (.int .i64 T) { new0 ⟨s, kd, u, o, a, b'⟩ seed room now with b0 := a, b1 := b', b2 := b', b3 := T } (by rw [h0E.out]; rfl) rfl
    exact h1
  · have t3 : (kd == 2) = false := by simpa using hk2
    have hS := Lib.hid (hE.out.trans (if_neg hk2))
    clear hk2 hb
    go_wp2
    go_ret2
    refine ⟨bb, k, _, rfl, ?_, HF.out, HB3.out⟩
    rw [hS.out]
    exact HS.out
theorem fit_bucket {t : Tox} (hc : chk t = 0) (hk : t.kind = 2) (now : Int) : Bucket.okB t.a t.b t.b (add now 0) = true := by
  unfold chk at hc
  split at hc
  · omega
  split at hc
  · omega
  split at hc
  · omega
  rename_i h1 h2 h3
  simp only [Bool.and_eq_false_iff, not_or, Bool.not_eq_false] at h3
  have h4 := h3.2
  unfold numB ruleB rightB roomB at h4
  rw [hk, if_neg (by decide), if_pos rfl] at h4
  simp only [Bool.and_eq_true, decide_eq_true_eq] at h4
  unfold Bucket.okB Bucket.Ok
  have := nr_bd (nr now + nr 0)
  refine decide_eq_true ⟨h4.1.1.1, h4.1.1.2, h4.1.1.2, ⟨?_, ?_⟩, by omega, by omega⟩
  · exact this.1
  · exact this.2
theorem pass_kind {t : Tox} (h : passB t = true) : t = noTox := by
  obtain ⟨s, k, u, o, a, b⟩ := t
  unfold passB sameT noTox at h
  simp only [Bool.and_eq_true, beq_iff_eq] at h
  obtain ⟨h1, rfl, rfl, rfl, rfl, rfl⟩ := h
  have : s = ⟨#[]⟩ := by
    rw [ByteArray.toList_eq, ByteArray.toList_eq] at h1
    obtain ⟨⟨l⟩⟩ := s
    simp at h1
    subst h1
    rfl
  subst this
  rfl
def NewPost (w : World) (t : Tox) (seed room now : Int) (e : Ending) (w' : World) : Prop :=
  (newE t room = 0 → ∃ b k F, e = .returned (.tuple #[.pointer (some ⟨b, 0, none⟩), .int .i64 0]) ∧ SG w' F b k (newS t seed room now) ∧ (∀ j, F j → w.heap.size ≤ j) ∧ Below w.heap.size w w') ∧
  (newE t room ≠ 0 → e = .returned (.tuple #[.pointer none, .int .i64 (newE t room)]) ∧ Below w.heap.size w w')
theorem new_any (t : Tox) (seed room now : Int) (w : World) : Calls Try.prog 29 #[t.v, .int .u64 seed, .int .i64 room, .int .i64 now] w (NewPost w t seed room now) := by
  unfold NewPost newE
  obtain ⟨s, k, u, o, a, b⟩ := t
  cases hp : passB ⟨s, k, u, o, a, b⟩ with
  | true =>
    rw [if_neg (fun h => Bool.noConfusion h.1)]
    cases hr : roomOk room with
    | true =>
      rw [if_neg (by decide)]
      have hk := congrArg Tox.kind (pass_kind hp)
      exact (new_yes_p s k u o a b seed room now w hp hr (fun h => by simp only [noTox] at hk; omega)).mono fun e w' h => ⟨fun _ => h, fun h => absurd rfl h⟩
    | false =>
      rw [if_pos rfl]
      exact (new_room_p s k u o a b seed room now w hp hr).mono fun e w' h => ⟨fun h => by omega, fun _ => h⟩
  | false =>
    by_cases hc : chk ⟨s, k, u, o, a, b⟩ = 0
    · rw [if_neg (fun h => h.2 hc)]
      cases hr : roomOk room with
      | true =>
        rw [if_neg (by decide)]
        exact (new_yes_c s k u o a b seed room now w hp hc hr (fun h => fit_bucket (t := ⟨s, k, u, o, a, b⟩) hc h now)).mono fun e w' h => ⟨fun _ => h, fun h => absurd rfl h⟩
      | false =>
        rw [if_pos rfl]
        exact (new_room_c s k u o a b seed room now w hp hc hr).mono fun e w' h => ⟨fun h => by omega, fun _ => h⟩
    · rw [if_pos ⟨rfl, hc⟩]
      exact (new_bad s k u o a b seed room now w hp hc).mono fun e w' h => ⟨fun h => absurd h hc, fun _ => h⟩
end Go.Proofs.Ytoiibmcbjjnpbaa.Stage
/- A stage's Update (chapter 10). Conditions: the bytes are fewer than 2^30; the stage is one that may be. -/
namespace Go.Proofs.Ytoiibmcbjjnpbaa.Stage
open Go.RowKit Mem Tick Cargo Toxic
open Go.Proofs.YtoiibmcbjjnpbaaW.PrintLast Pu
set_option maxRecDepth 100000
set_option linter.unusedVariables false
set_option linter.unusedSimpArgs false
variable {w w' : World} {F : Nat → Prop} {b k : Nat} {s : Sg}
def updE (s : Sg) (t : Tox) : Int := if t.kind ≠ s.t.kind then 91 else if t.kind = 0 then 0 else chk t
def updS (s : Sg) (t : Tox) (n : Int) : Sg :=
  if t.kind ≠ s.t.kind ∨ t.kind = 0 ∨ chk t ≠ 0 then s
  else if t.kind = 2 then { lookP s n with t := t, b0 := t.a, b1 := t.b, b2 := min (Bucket.fillL s.b0 s.b1 s.b2 s.b3 (lookP s n).clock) t.b, b3 := Bucket.fillT s.b0 s.b1 s.b2 s.b3 (lookP s n).clock }
  else { lookP s n with t := t }
theorem fit_bucketT {t : Tox} (hc : chk t = 0) (hk : t.kind = 2) (T : Int) (h0 : 0 ≤ T) (h1 : T ≤ 1099511627776) : Bucket.okB t.a t.b t.b T = true := by
  have h := fit_bucket hc hk 0
  unfold Bucket.okB Bucket.Ok at h ⊢
  have h := of_decide_eq_true h
  exact decide_eq_true ⟨h.1, h.2.1, h.2.2.1, ⟨h0, h1⟩, h.2.2.2.2.1, h.2.2.2.2.2⟩
theorem SG.tox (h : SG w F b k s) (x : ByteArray) (kd : Int) (u : Bool) (o a b' : Int) : SG ((((((w.setCell ⟨b, 1, none⟩ (.string x)).setCell ⟨b, 2, none⟩ (.int .i64 kd)).setCell ⟨b, 3, none⟩ (.bool u)).setCell ⟨b, 4, none⟩ (.int .i64 o)).setCell ⟨b, 5, none⟩ (.int .i64 a)).setCell ⟨b, 6, none⟩ (.int .i64 b')) F b k { s with t := ⟨x, kd, u, o, a, b'⟩ } :=
  (((((h.set 1 (.string x) { s with t := { s.t with name := x } } rfl rfl).set 2 (.int .i64 kd) { s with t := { s.t with name := x, kind := kd } } rfl rfl).set 3 (.bool u) { s with t := { s.t with name := x, kind := kd, up := u } } rfl rfl).set 4 (.int .i64 o) { s with t := { s.t with name := x, kind := kd, up := u, often := o } } rfl rfl).set 5 (.int .i64 a) { s with t := { s.t with name := x, kind := kd, up := u, often := o, a := a } } rfl rfl).set 6 (.int .i64 b') { s with t := ⟨x, kd, u, o, a, b'⟩ } rfl rfl
theorem Did.tox {a0 : World} (h : Did F a0 w) (hb : F b) (x : ByteArray) (kd : Int) (u : Bool) (o a b' : Int) : Did F a0 ((((((w.setCell ⟨b, 1, none⟩ (.string x)).setCell ⟨b, 2, none⟩ (.int .i64 kd)).setCell ⟨b, 3, none⟩ (.bool u)).setCell ⟨b, 4, none⟩ (.int .i64 o)).setCell ⟨b, 5, none⟩ (.int .i64 a)).setCell ⟨b, 6, none⟩ (.int .i64 b')) :=
  (((((h.setCell (p := ⟨b, 1, none⟩) (.inl hb) _).setCell (p := ⟨b, 2, none⟩) (.inl hb) _).setCell (p := ⟨b, 3, none⟩) (.inl hb) _).setCell (p := ⟨b, 4, none⟩) (.inl hb) _).setCell (p := ⟨b, 5, none⟩) (.inl hb) _).setCell (p := ⟨b, 6, none⟩) (.inl hb) _
end Go.Proofs.Ytoiibmcbjjnpbaa.Stage
namespace Go.Proofs.Ytoiibmcbjjnpbaa.Stage
open Go.RowKit Mem Tick Cargo Toxic
set_option linter.unusedVariables false
set_option linter.unusedSimpArgs false
structure Ok (s : Sg) : Prop where
  good : Cargo.Good s.c
  tox : passB s.t = true ∨ chk s.t = 0
  r0 : 1 ≤ s.room
  r1 : s.room ≤ 4096
  k0 : 0 ≤ s.clock
  k1 : s.clock ≤ 1099511627776
  bk : s.t.kind = 2 → Bucket.okB s.b0 s.b1 s.b2 s.b3 = true
  p0 : 0 ≤ s.passed
theorem chk_parts {t : Tox} (h : chk t = 0) : nameB t.name = true ∧ kindB t.kind = true ∧ oftenB t.often = true ∧ numB t.kind t.a t.b = true := by
  unfold chk at h
  split at h
  · omega
  split at h
  · omega
  split at h
  · omega
  rename_i h1 h2 h3
  simp only [Bool.and_eq_false_iff, not_or, Bool.not_eq_false] at h1 h2 h3
  exact ⟨h1, h2, h3.1, h3.2⟩
theorem num_parts {k a b : Int} (h : numB k a b = true) : 0 ≤ a ∧ a ≤ 1099511627776 ∧ 0 ≤ b ∧ b ≤ 1099511627776 ∧ (k = 1 → b ≤ a) ∧ (k = 2 → 1 ≤ b ∧ b ≤ 4096) ∧ (k = 3 → 1 ≤ a ∧ a ≤ 4096) ∧ (k = 4 ∨ k = 5 → 0 < a) := by
  unfold numB rightB at h
  simp only [Bool.and_eq_true, decide_eq_true_eq] at h
  obtain ⟨⟨⟨ha, hb⟩, -⟩, hr⟩ := h
  refine ⟨ha.1, ha.2, hb.1, hb.2, fun e => ?_, fun e => ?_, fun e => ?_, fun e => ?_⟩
  · subst e; unfold ruleB at hr; rw [if_pos rfl] at hr; exact of_decide_eq_true hr
  · subst e; unfold ruleB at hr; rw [if_neg (by decide), if_pos rfl] at hr; exact of_decide_eq_true hr
  · subst e; unfold ruleB at hr; rw [if_neg (by decide), if_neg (by decide), if_pos rfl] at hr; exact of_decide_eq_true hr
  · unfold ruleB at hr; rw [if_neg (by omega), if_neg (by omega), if_neg (by omega), if_pos e] at hr; exact of_decide_eq_true hr
theorem tox_parts {t : Tox} (h : passB t = true ∨ chk t = 0) : 0 ≤ t.kind ∧ t.kind ≤ 7 ∧ 0 ≤ t.a ∧ t.a ≤ 1099511627776 ∧ 0 ≤ t.b ∧ t.b ≤ 1099511627776 ∧ (t.kind = 1 → t.b ≤ t.a) ∧ (t.kind = 2 → 1 ≤ t.b ∧ t.b ≤ 4096) ∧ (t.kind = 3 → 1 ≤ t.a ∧ t.a ≤ 4096) ∧ (t.kind = 4 ∨ t.kind = 5 → 0 < t.a) := by
  rcases h with h | h
  · rw [pass_kind h]
    unfold noTox
    exact ⟨by decide, by decide, by decide, by decide, by decide, by decide, (fun _ => by decide), (fun h => by cases h), (fun h => by cases h), (fun h => by rcases h with h | h <;> cases h)⟩
  · obtain ⟨-, hk, -, hn⟩ := chk_parts h
    unfold kindB at hk
    simp only [Bool.and_eq_true, decide_eq_true_eq] at hk
    obtain ⟨h1, h2, h3, h4, h5⟩ := num_parts hn
    exact ⟨by omega, hk.2, h1, h2, h3, h4, h5⟩
theorem Ok.fit {s : Sg} (h : Ok s) (hp : s.passed ≤ 1000000000) : Fit s := by
  obtain ⟨h1, h2, h3, h4, h5, h6, h7, h8, h9, h10⟩ := tox_parts h.tox
  exact ⟨h1, h2, h3, h4, h5, h6, h9, h.p0, hp⟩
theorem Ok.now {s : Sg} (h : Ok s) (n : Int) : Ok (nowP s n) := by
  have := nr_bd (nr n + nr 0)
  have hk0 := h.k0
  have hk1 := h.k1
  refine ⟨h.good, h.tox, h.r0, h.r1, ?_, ?_, h.bk, h.p0⟩
  · show 0 ≤ max s.clock (add n 0); unfold add; omega
  · show max s.clock (add n 0) ≤ 1099511627776; unfold add; omega
theorem Ok.look {s : Sg} (h : Ok s) (n : Int) : Ok (lookP s n) := by
  have h := h.now n
  exact ⟨h.good, h.tox, h.r0, h.r1, h.k0, h.k1, h.bk, h.p0⟩
theorem Ok.dice {s : Sg} (h : Ok s) : Ok (diceP s) := by
  unfold diceP
  split
  · exact ⟨h.good, h.tox, h.r0, h.r1, h.k0, h.k1, h.bk, h.p0⟩
  · exact h
theorem Ok.putIn {s : Sg} (h : Ok s) (t : Int) (x : ByteArray) : Ok (putIn s t x) := by
  have hg : Cargo.Good (stp s.c (0, t, 0, x)) := h.good.stp (0, t, 0, x)
  exact ⟨hg, h.tox, h.r0, h.r1, h.k0, h.k1, h.bk, h.p0⟩
theorem Ok.force {s : Sg} (h : Ok s) (n : Int) (x : ByteArray) : Ok (forceP s n x) := by
  unfold forceP
  split
  · exact h.look n
  · exact ((h.look n).dice).putIn _ _
theorem Ok.put {s : Sg} (h : Ok s) (n : Int) (x : ByteArray) : Ok (putS s n x) := by
  unfold putS
  split
  · exact h.look n
  · exact (h.look n).force n _
theorem Ok.close {s : Sg} (h : Ok s) (n : Int) : Ok (closeP s n) := by
  unfold closeP
  have h := h.now n
  split
  · exact h
  · exact ⟨h.good, h.tox, h.r0, h.r1, h.k0, h.k1, h.bk, h.p0⟩
theorem Ok.drain {s : Sg} (h : Ok s) : Ok (drainP s) :=
  ⟨h.good.stp (3, 0, 0, ⟨#[]⟩), h.tox, h.r0, h.r1, h.k0, h.k1, h.bk, h.p0⟩
theorem someS_ok {s : Sg} (n : Int) (hb : Bucket.okB s.b0 s.b1 s.b2 s.b3 = true) : Bucket.okB (someS s n).b0 (someS s n).b1 (someS s n).b2 (someS s n).b3 = true := by
  have h1 := Bucket.fill_ok (now := s.clock) hb
  have h2 := Bucket.takeK_bd (now := s.clock) (n := n) hb
  have h3 := Bucket.fillL_bd (now := s.clock) hb
  show Bucket.okB s.b0 s.b1 (Bucket.takeL s.b0 s.b1 s.b2 s.b3 s.clock n) (Bucket.takeT s.b0 s.b1 s.b2 s.b3 s.clock n) = true
  rw [show Bucket.takeL s.b0 s.b1 s.b2 s.b3 s.clock n = Bucket.fillL s.b0 s.b1 s.b2 s.b3 s.clock - Bucket.takeK s.b0 s.b1 s.b2 s.b3 s.clock n from if_pos hb, show Bucket.takeT s.b0 s.b1 s.b2 s.b3 s.clock n = Bucket.fillT s.b0 s.b1 s.b2 s.b3 s.clock from if_pos hb]
  have h4 := of_decide_eq_true h1
  unfold Bucket.okB
  unfold Bucket.Ok at h4 ⊢
  exact decide_eq_true ⟨h4.1, h4.2.1, by omega, h4.2.2.2.1, h4.2.2.2.2.1, by omega⟩
theorem Ok.way {s : Sg} (h : Ok s) (n : Int) : Ok (wayS s n) := by
  unfold wayS
  split
  · rename_i h2
    exact ⟨h.good, h.tox, h.r0, h.r1, h.k0, h.k1, fun _ => someS_ok n (h.bk h2), h.p0⟩
  · split
    · unfold sliceS
      split
      · exact h
      · exact ⟨h.good, h.tox, h.r0, h.r1, h.k0, h.k1, h.bk, h.p0⟩
    · exact h
theorem Ok.takeOut {s : Sg} (h : Ok s) (m : Int) : Ok (takeOut s m) := by
  have hw := h.way m
  have hg : Cargo.Good (stp (wayS s m).c (1, s.clock, wayN s m, ⟨#[]⟩)) := hw.good.stp _
  have hp := (wayS_c s m).2.2.1
  have hp0 := h.p0
  exact ⟨hg, hw.tox, hw.r0, hw.r1, hw.k0, hw.k1, hw.bk, by show 0 ≤ s.passed + _; omega⟩
theorem Ok.take {s : Sg} (h : Ok s) (n most : Int) : Ok (takeS s n most) := by
  unfold takeS
  split
  · exact h.look n
  · exact (h.look n).takeOut _
theorem Ok.upd {s : Sg} (h : Ok s) (t : Tox) (n : Int) : Ok (updS s t n) := by
  unfold updS
  split
  · exact h
  rename_i hc
  have hcl := (h.look n)
  have hc0 : chk t = 0 := by
    by_cases e : chk t = 0
    · exact e
    · exact absurd (.inr (.inr e)) hc
  split
  · rename_i h2
    refine ⟨hcl.good, .inr hc0, hcl.r0, hcl.r1, hcl.k0, hcl.k1, fun _ => ?_, hcl.p0⟩
    have hk : s.t.kind = 2 := by
      by_cases e : t.kind = s.t.kind
      · omega
      · exact absurd (.inl e) hc
    have hb := h.bk hk
    have h1 := of_decide_eq_true (Bucket.fill_ok (now := (lookP s n).clock) hb)
    have h3 := of_decide_eq_true (fit_bucketT hc0 h2 0 (by decide) (by decide))
    have hm : min (Bucket.fillL s.b0 s.b1 s.b2 s.b3 (lookP s n).clock) t.b = Bucket.fillL s.b0 s.b1 s.b2 s.b3 (lookP s n).clock ∨ min (Bucket.fillL s.b0 s.b1 s.b2 s.b3 (lookP s n).clock) t.b = t.b := by omega
    unfold Bucket.Ok at h1 h3
    unfold Bucket.okB Bucket.Ok
    refine decide_eq_true ⟨h3.1, h3.2.1, ?_, h1.2.2.2.1, h3.2.2.2.2.1, ?_⟩
    · have := h1.2.2.1
      have := h3.2.1
      show 0 ≤ min _ t.b ∧ min _ t.b ≤ 1099511627776
      omega
    · show min _ t.b ≤ t.b
      omega
  · rename_i h2
    exact ⟨hcl.good, .inr hc0, hcl.r0, hcl.r1, hcl.k0, hcl.k1, fun e => absurd e h2, hcl.p0⟩
theorem newE_parts {t : Tox} {room : Int} (h : newE t room = 0) : (passB t = true ∨ chk t = 0) ∧ 1 ≤ room ∧ room ≤ 4096 := by
  unfold newE at h
  split at h
  · rename_i hc; exact absurd h hc.2
  · rename_i hc
    split at h
    · omega
    · rename_i hr
      unfold roomOk at hr
      simp only [decide_eq_false_iff_not, Decidable.not_not] at hr
      refine ⟨?_, hr⟩
      cases hp : passB t with
      | true => exact .inl rfl
      | false =>
        by_cases e : chk t = 0
        · exact .inr e
        · exact absurd ⟨hp, e⟩ hc
theorem Ok.new {t : Tox} {seed room now : Int} (h : newE t room = 0) : Ok (newS t seed room now) := by
  obtain ⟨ht, h1, h2⟩ := newE_parts h
  have hn := nr_bd (nr now + nr 0)
  have hg : Cargo.Good (([], 0) : St) := Cargo.Good.nil 0
  unfold newS
  split
  · rename_i hk
    have hc : chk t = 0 := by
      rcases ht with hp | hc
      · rw [pass_kind hp] at hk; cases hk
      · exact hc
    exact ⟨hg, ht, h1, h2, hn.1, hn.2, fun _ => fit_bucket hc hk now, Int.le_refl 0⟩
  · rename_i hk
    exact ⟨hg, ht, h1, h2, hn.1, hn.2, fun e => absurd e hk, Int.le_refl 0⟩
/-! how many bytes -/
theorem tot_add (ps : List Pc) (t : Int) (x : ByteArray) : tot (addP ps t x) = tot ps + x.size := by
  rw [← cat_size, cat_add, ByteArray.size_append, cat_size]
theorem held_look (s : Sg) (n : Int) : held (lookP s n) = held s := rfl
theorem dice_c (s : Sg) : (diceP s).c = s.c := by unfold diceP; split <;> rfl
theorem cat_force (s : Sg) (n : Int) (x : ByteArray) : cat (forceP s n x).c.1 = if (lookP s n).state ≠ 0 then cat s.c.1 else cat s.c.1 ++ x := by
  unfold forceP
  by_cases h : (lookP s n).state ≠ 0
  · rw [if_pos (.inl h), if_pos h]; rfl
  · rw [if_neg h]
    by_cases hx : x.size = 0
    · rw [if_pos (.inr hx)]
      have : x = ⟨#[]⟩ := empty_of (by omega)
      rw [this, app_nil]; rfl
    · rw [if_neg (by rintro (e | e); exact h e; exact hx e)]
      show cat (addP (diceP (lookP s n)).c.1 _ x) = _
      rw [cat_add, dice_c]; rfl
theorem held_cat (s : Sg) : held s = (cat s.c.1).size := by unfold held; rw [cat_size]
theorem ext_size (x : ByteArray) (n : Nat) (h : n ≤ x.size) : (x.extract 0 n).size = n := by simp [ByteArray.size_extract]; omega
theorem held_take (s : Sg) (n most : Int) : (takeB s n most).size + held (takeS s n most) = held s := by
  unfold takeB takeS
  by_cases h : (lookP s n).state ≠ 0 ∨ most < 1
  · rw [if_pos h, if_pos h, held_look]; rw [show (ByteArray.size ⟨#[]⟩) = 0 from rfl]; omega
  · rw [if_neg h, if_neg h]
    have := tot_takeP (outN (lookP s n) (readyN (lookP s n) most)) (wayS (lookP s n) (readyN (lookP s n) most)).c.1
    rw [(wayS_c _ _).1] at this
    show (takeP (outN (lookP s n) (readyN (lookP s n) most)) (wayS (lookP s n) (readyN (lookP s n) most)).c.1).1.size + tot (takeP (outN (lookP s n) (readyN (lookP s n) most)) (wayS (lookP s n) (readyN (lookP s n) most)).c.1).2 = _
    rw [(wayS_c _ _).1]
    exact this
theorem passed_take (s : Sg) (n most : Int) : (takeS s n most).passed = s.passed + (takeB s n most).size := by
  unfold takeB takeS
  by_cases h : (lookP s n).state ≠ 0 ∨ most < 1
  · rw [if_pos h, if_pos h]; show s.passed = s.passed + ((0 : Nat) : Int); omega
  · rw [if_neg h, if_neg h]; rfl
end Go.Proofs.Ytoiibmcbjjnpbaa.Stage
/- A script of a stage's calls (chapter 10): how it lies in memory, and whether it is short. Conditions: each text is shorter than 2^47 bytes. -/
namespace Go.Proofs.Ytoiibmcbjjnpbaa.Stage
open Go.RowKit Mem Tick Cargo Toxic
set_option maxRecDepth 100000
set_option linter.unusedVariables false
set_option linter.unusedSimpArgs false
end Go.Proofs.Ytoiibmcbjjnpbaa.Stage
/- A stage's calls, as the laws do them (does), and a stage of the call's own (chapter 10). Conditions: the bytes are fewer than 2^29. -/
namespace Go.Proofs.Ytoiibmcbjjnpbaa.Stage
open Go.RowKit Mem Tick Cargo Toxic
set_option maxRecDepth 100000
set_option linter.unusedVariables false
set_option linter.unusedSimpArgs false
variable {w w' : World} {F : Nat → Prop} {b k : Nat} {s : Sg}
theorem SG.off (h : SG w F b k s) {g : Nat} {t : TypeId} {cs : Array Value} (hb : Blk w g t cs) (ht : t ∉ [93, 116, 126]) : ¬ F g := h.typed.out hb ht
end Go.Proofs.Ytoiibmcbjjnpbaa.Stage
/- A stage of the call's own (chapter 10): each function's contract, told of what lives. Conditions: the bytes are fewer than 2^29. -/
namespace Go.Proofs.Ytoiibmcbjjnpbaa.Stage
open Go.RowKit Mem Tick Cargo Toxic
set_option linter.unusedVariables false
set_option linter.unusedSimpArgs false
def KeepS (wr w2 : World) : Prop := ∀ g t cs, Blk wr g t cs → t ∉ [93, 116, 126] → Blk w2 g t cs
variable {w wr w1 w2 : World} {F F' : Nat → Prop} {b k : Nat} {s s' : Sg}
theorem SG.keep (h : SG wr F b k s) (hd : Did F wr w2) : KeepS wr w2 := fun g t cs hb ht => hb.did hd (h.off hb ht)
theorem live_none (t : Tox) (seed room now : Int) (h : newE t room ≠ 0) :
    Calls Try.prog 29 #[t.v, .int .u64 seed, .int .i64 room, .int .i64 now] wr fun e w2 => e = .returned (.tuple #[.pointer none, .int .i64 (newE t room)]) ∧ Below wr.heap.size wr w2 :=
  (new_any t seed room now wr).mono fun e w2 ⟨_, h2⟩ => h2 h
end Go.Proofs.Ytoiibmcbjjnpbaa.Stage
/- alive (chapter 10). Conditions: none. -/
namespace Go.Proofs.Ytoiibmcbjjnpbaa.Stage
open Go.RowKit Mem Tick Cargo Toxic
set_option maxRecDepth 100000
set_option linter.unusedVariables false
set_option linter.unusedSimpArgs false
theorem held_close (s : Sg) (n : Int) : held (closeP s n) = held s := by unfold closeP; split <;> rfl
end Go.Proofs.Ytoiibmcbjjnpbaa.Stage
namespace Go.Proofs.Ytoiibmcbjjnpbaa.Stage
open Go.RowKit Mem Tick Cargo Toxic
set_option maxRecDepth 100000
set_option linter.unusedVariables false
set_option linter.unusedSimpArgs false
theorem lookS_zero {s : Sg} (h : lookS s = 0) : s.state = 0 := by
  unfold lookS at h
  by_cases e : s.state = 0
  · exact e
  · rw [if_pos e] at h; exact h
theorem look_idem (s : Sg) (n : Int) : lookP (lookP s n) n = lookP s n := by
  have h1 : nowP (lookP s n) n = lookP s n := by
    show ({ lookP s n with clock := max (max s.clock (add n 0)) (add n 0) } : Sg) = lookP s n
    rw [show max (max s.clock (add n 0)) (add n 0) = max s.clock (add n 0) by omega]
    rfl
  have h2 : lookS (lookP s n) = lookS (nowP s n) := by
    by_cases e : lookS (nowP s n) = 0
    · have hz := lookS_zero e
      have : lookP s n = nowP s n := by
        show ({ nowP s n with state := lookS (nowP s n) } : Sg) = nowP s n
        rw [e, ← hz]
      rw [this]
    · unfold lookS
      rw [if_pos (show (lookP s n).state ≠ 0 from e)]
      rfl
  show ({ nowP (lookP s n) n with state := lookS (nowP (lookP s n) n) } : Sg) = lookP s n
  rw [h1, h2]
  rfl
theorem cat_put (s : Sg) (n : Int) (x : ByteArray) : cat (putS s n x).c.1 = cat s.c.1 ++ x.extract 0 (putN s n x) := by
  unfold putS putN
  by_cases h : (lookP s n).state ≠ 0 ∨ (lookP s n).closed = true
  · rw [if_pos h, if_pos h]
    have : x.extract 0 0 = ⟨#[]⟩ := by apply empty_of; simp [ByteArray.size_extract]
    rw [this, app_nil]; rfl
  · rw [if_neg h, if_neg h, cat_force, look_idem, if_neg (fun e => h (.inl e))]
    rfl
theorem cat_take_ (s : Sg) (n most : Int) : takeB s n most ++ cat (takeS s n most).c.1 = cat s.c.1 := by
  unfold takeB takeS
  by_cases h : (lookP s n).state ≠ 0 ∨ most < 1
  · rw [if_pos h, if_pos h, nil_app]; rfl
  · rw [if_neg h, if_neg h]
    have := cat_takeP (outN (lookP s n) (readyN (lookP s n) most)) (wayS (lookP s n) (readyN (lookP s n) most)).c.1
    show (takeP (outN (lookP s n) (readyN (lookP s n) most)) (wayS (lookP s n) (readyN (lookP s n) most)).c.1).1 ++ cat (takeP (outN (lookP s n) (readyN (lookP s n) most)) (wayS (lookP s n) (readyN (lookP s n) most)).c.1).2 = _
    rw [this, (wayS_c _ _).1]
    rfl
theorem upd_c (s : Sg) (t : Tox) (n : Int) : (updS s t n).c = s.c ∧ (updS s t n).passed = s.passed := by
  unfold updS
  split
  · exact ⟨rfl, rfl⟩
  split <;> exact ⟨rfl, rfl⟩
theorem put_le (s : Sg) (n : Int) (x : ByteArray) : putN s n x ≤ x.size := by
  unfold putN
  split
  · omega
  · exact room_le _ _
end Go.Proofs.Ytoiibmcbjjnpbaa.Stage
namespace Go.Proofs.Ytoiibmcbjjnpbaa.Chain
open Go.RowKit Mem Tick Cargo Toxic Stage
set_option linter.unusedVariables false
set_option linter.unusedSimpArgs false
structure Pa where
  s : Sg
  cl : Bool
structure Ch where
  l : List Pa
  room : Int
  lost : Int
  shut : Bool
  state : Int
def heldL : List Pa → Nat
  | [] => 0
  | a :: r => held a.s + heldL r
def lineL : List Pa → ByteArray
  | [] => ⟨#[]⟩
  | a :: r => lineL r ++ cat a.s.c.1
theorem heldL_append (a b : List Pa) : heldL (a ++ b) = heldL a + heldL b := by induction a with | nil => simp [heldL] | cons p r ih => simp [heldL, ih]; omega
theorem lineL_append (a b : List Pa) : lineL (a ++ b) = lineL b ++ lineL a := by
  induction a with
  | nil => simp [lineL, app_nil]
  | cons p r ih => simp [lineL, ih, ByteArray.append_assoc]
theorem lineL_size (l : List Pa) : (lineL l).size = heldL l := by
  induction l with
  | nil => rfl
  | cons a r ih => simp only [lineL, heldL, ByteArray.size_append, ih, ← held_cat]; omega
def endA (now : Int) (a : Pa) : Pa := ⟨closeP a.s now, true⟩
def drainA (a : Pa) : Pa := ⟨drainP a.s, a.cl⟩
def lookA (now : Int) (a : Pa) : Pa := ⟨lookP a.s now, a.cl⟩
theorem endA_c (now : Int) (a : Pa) : (endA now a).s.c = a.s.c := by unfold endA closeP; split <;> rfl
def loseL (n : Nat) (l : List Pa) : List Pa := (l.take n).map drainA ++ l.drop n
def loseC (n : Nat) (x : Ch) : Ch := { x with l := loseL n x.l, lost := x.lost + heldL (x.l.take n), shut := true }
def breakC (x : Ch) : Ch := if x.state = 1 then x else { loseC x.l.length x with state := 2 }
def moveAt (now : Int) (j : Nat) (l : List Pa) : List Pa :=
  match l[j]?, l[j + 1]? with
  | some a, some b =>
    if (lookP b.s now).state = 0 then (l.set j ⟨takeS a.s now (free (lookP b.s now)), a.cl⟩).set (j + 1) ⟨forceP (lookP b.s now) now (takeB a.s now (free (lookP b.s now))), b.cl⟩
    else l.set (j + 1) (lookA now b)
  | _, _ => l
def moves (now : Int) : Nat → List Pa → List Pa
  | 0, l => l
  | m + 1, l => moveAt now m (moves now m l)
def shutAt (now : Int) (j : Nat) (x : Ch) : Ch :=
  match x.l[j]?, x.l[j + 1]? with
  | some a, some b =>
    if (lookP a.s now).state = 1 then { loseC (j + 1) { x with l := x.l.set j (lookA now a) } with l := (loseL (j + 1) (x.l.set j (lookA now a))).set (j + 1) (endA now b) }
    else { x with l := x.l.set j (lookA now a) }
  | _, _ => x
def shuts (now : Int) : Nat → Ch → Ch
  | 0, x => x
  | m + 1, x => shutAt now m (shuts now m x)
def brokenB (l : List Pa) : Bool := l.any fun a => a.s.state == 2
def lastC (now : Int) (x : Ch) : Ch :=
  match x.l[x.l.length - 1]? with
  | some a => { x with l := x.l.set (x.l.length - 1) (lookA now a), state := (lookP a.s now).state }
  | none => x
def stepC (now : Int) (x : Ch) : Ch :=
  if x.state ≠ 0 then x
  else if brokenB (x.l.map (lookA now)) = true then breakC { x with l := x.l.map (lookA now) }
  else lastC now (shuts now (x.l.length - 1) { x with l := moves now (x.l.length - 1) (x.l.map (lookA now)) })
def putC (x : Ch) (now : Int) (b : ByteArray) : Ch :=
  if x.shut = true ∨ x.state ≠ 0 then x else match x.l[0]? with
    | some a => { x with l := x.l.set 0 ⟨putS a.s now b, a.cl⟩ }
    | none => x
def putCN (x : Ch) (now : Int) (b : ByteArray) : Nat :=
  if x.shut = true ∨ x.state ≠ 0 then 0 else match x.l[0]? with
    | some a => putN a.s now b
    | none => 0
def closeC (x : Ch) (now : Int) : Ch :=
  if x.state = 0 then match x.l[0]? with
    | some a => { x with l := x.l.set 0 (endA now a), shut := true }
    | none => x
  else x
def takeC (x : Ch) (now most : Int) : Ch :=
  if x.state = 2 then x else match x.l[x.l.length - 1]? with
    | some a => { x with l := x.l.set (x.l.length - 1) ⟨takeS a.s now most, a.cl⟩ }
    | none => x
def takeCB (x : Ch) (now most : Int) : ByteArray :=
  if x.state = 2 then ⟨#[]⟩ else match x.l[x.l.length - 1]? with
    | some a => takeB a.s now most
    | none => ⟨#[]⟩
def noPlace (x : Ch) (at_ : Int) : Bool := decide (at_ < 0) || decide ((x.l.length : Int) - 2 < at_) || decide (8 ≤ (x.l.length : Int) - 2)
def insE (x : Ch) (at_ : Int) (t : Tox) : Int := if noPlace x at_ = true then 110 else newE t x.room
def insC (x : Ch) (at_ : Int) (t : Tox) (seed now : Int) : Ch :=
  if insE x at_ t ≠ 0 then x else
  match x.l[at_.toNat + 1]? with
  | some b => { x with l := x.l.take (at_.toNat + 1) ++ (if b.cl = true then endA now ⟨newS t seed x.room now, false⟩ else ⟨newS t seed x.room now, false⟩) :: x.l.drop (at_.toNat + 1) }
  | none => x
def isB (x : Ch) (at_ : Int) : Bool := decide (0 ≤ at_) && decide (at_ < (x.l.length : Int) - 2)
def remAt (x : Ch) (i : Nat) (now : Int) : Ch :=
  match x.l[i]?, x.l[i + 1]? with
  | some p, some q =>
    let q1 : Pa := ⟨forceP q.s now (cat p.s.c.1), q.cl⟩
    let l1 := (x.l.set i (drainA p)).set (i + 1) q1
    let gone : Int := (held p.s : Int) - ((held q1.s : Int) - held q.s)
    let l2 := if 0 < gone then loseL i l1 else l1
    let q2 := if p.cl = true then endA now q1 else q1
    { x with l := (l2.set (i + 1) q2).eraseIdx i, lost := if 0 < gone then x.lost + gone + heldL (l1.take i) else x.lost, shut := if 0 < gone then true else x.shut }
  | _, _ => x
def remC (x : Ch) (at_ now : Int) : Ch := if isB x at_ = true then remAt x (at_.toNat + 1) now else x
def remE (x : Ch) (at_ : Int) : Int := if isB x at_ = true then 0 else 110
def updC (x : Ch) (at_ : Int) (t : Tox) (now : Int) : Ch :=
  if isB x at_ = true then match x.l[at_.toNat + 1]? with
    | some a => { x with l := x.l.set (at_.toNat + 1) ⟨updS a.s t now, a.cl⟩ }
    | none => x
  else x
def updCE (x : Ch) (at_ : Int) (t : Tox) : Int :=
  if isB x at_ = true then match x.l[at_.toNat + 1]? with
    | some a => updE a.s t
    | none => 110
  else 110
/-! where the bytes are -/
theorem split_at {l : List Pa} {i : Nat} {a : Pa} (h : l[i]? = some a) : l = l.take i ++ a :: l.drop (i + 1) := by
  obtain ⟨hi, he⟩ := List.getElem?_eq_some_iff.1 h
  rw [← he, List.getElem_cons_drop, List.take_append_drop]
theorem set_at {l : List Pa} {i : Nat} {a : Pa} (h : l[i]? = some a) (b : Pa) : l.set i b = l.take i ++ b :: l.drop (i + 1) := by
  have hi := (List.getElem?_eq_some_iff.1 h).1
  rw [List.set_eq_take_append_cons_drop, if_pos hi]
theorem heldL_set {l : List Pa} {i : Nat} {a : Pa} (h : l[i]? = some a) (b : Pa) : heldL (l.set i b) + held a.s = heldL l + held b.s := by
  have h1 := congrArg heldL (split_at h)
  rw [set_at h b]
  rw [h1]
  simp only [heldL_append, heldL]
  omega
theorem lineL_set_same {l : List Pa} {i : Nat} {a : Pa} (h : l[i]? = some a) (b : Pa) (hc : cat b.s.c.1 = cat a.s.c.1) : lineL (l.set i b) = lineL l := by
  have h1 := congrArg lineL (split_at h)
  rw [set_at h b]
  rw [h1]
  simp only [lineL_append, lineL, hc]
theorem split_two {l : List Pa} {i : Nat} {a b : Pa} (h : l[i]? = some a) (h2 : l[i + 1]? = some b) : l = l.take i ++ a :: b :: l.drop (i + 2) := by
  have e := split_at h
  have h3 : (l.drop (i + 1))[0]? = some b := by rw [List.getElem?_drop]; exact h2
  have e2 : l.drop (i + 1) = b :: l.drop (i + 2) := by
    have := split_at h2
    obtain ⟨hi, he⟩ := List.getElem?_eq_some_iff.1 h2
    rw [← he, List.getElem_cons_drop]
  rw [e2] at e
  exact e
theorem set_two {l : List Pa} {i : Nat} {a b : Pa} (h : l[i]? = some a) (h2 : l[i + 1]? = some b) (a' b' : Pa) : (l.set i a').set (i + 1) b' = l.take i ++ a' :: b' :: l.drop (i + 2) := by
  have hi := (List.getElem?_eq_some_iff.1 h2).1
  have h3 : (l.set i a')[i + 1]? = some b := by rw [List.getElem?_set_ne (by omega)]; exact h2
  rw [set_at h3 b', set_at h a']
  have hl : (l.take i).length = i := by simp; omega
  rw [List.take_append, hl, show i + 1 - i = 1 by omega, List.take_of_length_le (by omega : (l.take i).length ≤ i + 1), List.drop_append, hl, List.drop_of_length_le (by omega : (l.take i).length ≤ i + 1 + 1), show i + 1 + 1 - i = 2 by omega]
  simp only [List.take_succ_cons, List.take_zero, List.drop_succ_cons, List.drop_zero, List.nil_append, List.append_assoc, List.cons_append, List.drop_drop, List.drop_zero]
theorem lineL_two {l : List Pa} {i : Nat} {a b : Pa} (h : l[i]? = some a) (h2 : l[i + 1]? = some b) (a' b' : Pa) (hc : cat b'.s.c.1 ++ cat a'.s.c.1 = cat b.s.c.1 ++ cat a.s.c.1) : lineL ((l.set i a').set (i + 1) b') = lineL l := by
  have h1 := congrArg lineL (split_two h h2)
  rw [set_two h h2]
  rw [h1]
  simp only [lineL_append, lineL]
  rw [ByteArray.append_assoc (a := lineL (List.drop (i + 2) l)), hc, ← ByteArray.append_assoc (a := lineL (List.drop (i + 2) l))]
theorem drain_nil : ∀ (l : List Pa), lineL (l.map drainA) = ⟨#[]⟩
  | [] => rfl
  | a :: r => by
    simp only [List.map_cons, lineL, drain_nil r]
    rfl
theorem lineL_lose (n : Nat) (l : List Pa) : lineL (loseL n l) ++ lineL (l.take n) = lineL l := by
  unfold loseL
  rw [lineL_append, drain_nil, app_nil, ← lineL_append, List.take_append_drop]
theorem loseL_length (n : Nat) (l : List Pa) : (loseL n l).length = l.length := by
  unfold loseL
  rw [List.length_append, List.length_map, ← List.length_append, List.take_append_drop]
def Flow (x : Ch) (i : ByteArray) (o : ByteArray) (y : Ch) : Prop := ∃ L : ByteArray, lineL x.l ++ i = o ++ lineL y.l ++ L ∧ y.lost = x.lost + L.size ∧ (0 < L.size → y.shut = true) ∧ (x.shut = true → y.shut = true)
theorem Flow.same {x y : Ch} (h : lineL y.l = lineL x.l) (h1 : y.lost = x.lost) (h2 : x.shut = true → y.shut = true) : Flow x ⟨#[]⟩ ⟨#[]⟩ y :=
  ⟨⟨#[]⟩, by rw [h, app_nil, nil_app, app_nil], by rw [h1]; exact (Int.add_zero _).symm, fun e => absurd e (by decide), h2⟩
theorem Flow.trans {x y z : Ch} (h : Flow x ⟨#[]⟩ ⟨#[]⟩ y) (k : Flow y ⟨#[]⟩ ⟨#[]⟩ z) : Flow x ⟨#[]⟩ ⟨#[]⟩ z := by
  obtain ⟨L, h1, h2, h3, h4⟩ := h
  obtain ⟨M, k1, k2, k3, k4⟩ := k
  rw [app_nil, nil_app] at h1 k1
  refine ⟨M ++ L, ?_, ?_, ?_, fun e => k4 (h4 e)⟩
  · rw [app_nil, nil_app, h1, k1, ByteArray.append_assoc]
  · rw [k2, h2, ByteArray.size_append]; omega
  · intro e
    rw [ByteArray.size_append] at e
    by_cases z : 0 < M.size
    · exact k3 z
    · exact k4 (h3 (by omega))
theorem flow_lose (n : Nat) (x : Ch) : Flow x ⟨#[]⟩ ⟨#[]⟩ (loseC n x) :=
  ⟨lineL (x.l.take n), by rw [app_nil, nil_app]; exact (lineL_lose n x.l).symm, by rw [lineL_size]; rfl, fun _ => rfl, fun _ => rfl⟩
theorem flow_break (x : Ch) : Flow x ⟨#[]⟩ ⟨#[]⟩ (breakC x) := by
  unfold breakC
  split
  · exact Flow.same rfl rfl id
  · obtain ⟨L, h1, h2, h3, h4⟩ := flow_lose x.l.length x
    exact ⟨L, h1, h2, h3, h4⟩
theorem move_line (now : Int) (j : Nat) (l : List Pa) : lineL (moveAt now j l) = lineL l ∧ (moveAt now j l).length = l.length := by
  unfold moveAt
  split
  · rename_i a b ha hb
    split
    · rename_i hz
      refine ⟨lineL_two ha hb _ _ ?_, by simp⟩
      show cat (forceP (lookP b.s now) now _).c.1 ++ cat (takeS a.s now _).c.1 = _
      rw [cat_force, look_idem, if_neg (fun e => e hz), ByteArray.append_assoc, cat_take_]
      rfl
    · exact ⟨lineL_set_same hb _ rfl, by simp⟩
  · exact ⟨rfl, rfl⟩
theorem moves_line (now : Int) : ∀ (m : Nat) (l : List Pa), lineL (moves now m l) = lineL l ∧ (moves now m l).length = l.length
  | 0, l => ⟨rfl, rfl⟩
  | m + 1, l => by
    have h1 := moves_line now m l
    have h2 := move_line now m (moves now m l)
    exact ⟨h2.1.trans h1.1, h2.2.trans h1.2⟩
theorem flow_set (x : Ch) {i : Nat} {a : Pa} (h : x.l[i]? = some a) (b : Pa) (hc : cat b.s.c.1 = cat a.s.c.1) : Flow x ⟨#[]⟩ ⟨#[]⟩ { x with l := x.l.set i b } :=
  Flow.same (lineL_set_same h b hc) rfl id
theorem lose_get {l : List Pa} {n i : Nat} (h : n ≤ i) : (loseL n l)[i]? = l[i]? := by
  unfold loseL
  by_cases hn : n ≤ l.length
  · rw [List.getElem?_append_right (by simp; omega), List.getElem?_drop]
    congr 1
    simp; omega
  · rw [List.getElem?_eq_none (by simp; omega), List.getElem?_eq_none (by omega)]
theorem flow_shut (now : Int) (j : Nat) (x : Ch) : Flow x ⟨#[]⟩ ⟨#[]⟩ (shutAt now j x) ∧ (shutAt now j x).l.length = x.l.length := by
  unfold shutAt
  split
  · rename_i a b ha hb
    split
    · have h1 := flow_set x ha (lookA now a) rfl
      have h2 := flow_lose (j + 1) { x with l := x.l.set j (lookA now a) }
      have hb2 : (loseL (j + 1) (x.l.set j (lookA now a)))[j + 1]? = some b := by
        rw [lose_get (Nat.le_refl _), List.getElem?_set_ne (by omega)]; exact hb
      have h3 := flow_set (loseC (j + 1) { x with l := x.l.set j (lookA now a) }) hb2 (endA now b) (by rw [endA_c])
      exact ⟨(h1.trans h2).trans h3, by simp [loseC, loseL_length]⟩
    · exact ⟨flow_set x ha (lookA now a) rfl, by simp⟩
  · exact ⟨Flow.same rfl rfl id, rfl⟩
theorem flow_shuts (now : Int) : ∀ (m : Nat) (x : Ch), Flow x ⟨#[]⟩ ⟨#[]⟩ (shuts now m x) ∧ (shuts now m x).l.length = x.l.length
  | 0, x => ⟨Flow.same rfl rfl id, rfl⟩
  | m + 1, x => by
    have h1 := flow_shuts now m x
    have h2 := flow_shut now m (shuts now m x)
    exact ⟨h1.1.trans h2.1, h2.2.trans h1.2⟩
theorem look_map (now : Int) : ∀ (l : List Pa), lineL (l.map (lookA now)) = lineL l
  | [] => rfl
  | a :: r => by simp only [List.map_cons, lineL, look_map now r]; rfl
theorem flow_last (now : Int) (x : Ch) : Flow x ⟨#[]⟩ ⟨#[]⟩ (lastC now x) ∧ (lastC now x).l.length = x.l.length := by
  unfold lastC
  split
  · rename_i a ha
    obtain ⟨L, h1, h2, h3, h4⟩ := flow_set x ha (lookA now a) rfl
    exact ⟨⟨L, h1, h2, h3, h4⟩, by simp⟩
  · exact ⟨Flow.same rfl rfl id, rfl⟩
theorem flow_step (now : Int) (x : Ch) : Flow x ⟨#[]⟩ ⟨#[]⟩ (stepC now x) := by
  unfold stepC
  split
  · exact Flow.same rfl rfl id
  split
  · exact (Flow.same (y := { x with l := x.l.map (lookA now) }) (look_map now x.l) rfl id).trans (flow_break _)
  · refine (Flow.same (x := x) (y := { x with l := moves now (x.l.length - 1) (x.l.map (lookA now)) }) ?_ rfl id).trans ((flow_shuts now _ _).1.trans (flow_last now _).1)
    exact (moves_line now _ _).1.trans (look_map now x.l)
theorem flow_close (x : Ch) (now : Int) : Flow x ⟨#[]⟩ ⟨#[]⟩ (closeC x now) := by
  unfold closeC
  split
  · split
    · rename_i a ha
      exact Flow.same (lineL_set_same ha _ (by rw [endA_c])) rfl (fun _ => rfl)
    · exact Flow.same rfl rfl id
  · exact Flow.same rfl rfl id
theorem flow_put (x : Ch) (now : Int) (b : ByteArray) : Flow x (b.extract 0 (putCN x now b)) ⟨#[]⟩ (putC x now b) := by
  unfold putC putCN
  have h0 : b.extract 0 0 = ⟨#[]⟩ := by apply empty_of; simp [ByteArray.size_extract]
  by_cases hc : x.shut = true ∨ x.state ≠ 0
  · rw [if_pos hc, if_pos hc, h0]
    exact Flow.same rfl rfl id
  · rw [if_neg hc, if_neg hc]
    split
    · rename_i a ha
      refine ⟨⟨#[]⟩, ?_, (Int.add_zero _).symm, fun e => absurd e (by decide), id⟩
      rw [nil_app, app_nil]
      have h1 := congrArg lineL (split_at ha)
      rw [set_at ha, h1]
      simp only [List.take_zero, List.nil_append, lineL, cat_put, ByteArray.append_assoc]
    · rw [h0]
      exact Flow.same rfl rfl id
theorem flow_take (x : Ch) (now most : Int) : Flow x ⟨#[]⟩ (takeCB x now most) (takeC x now most) := by
  unfold takeC takeCB
  by_cases hc : x.state = 2
  · rw [if_pos hc, if_pos hc]
    exact Flow.same rfl rfl id
  · rw [if_neg hc, if_neg hc]
    split
    · rename_i a ha
      refine ⟨⟨#[]⟩, ?_, (Int.add_zero _).symm, fun e => absurd e (by decide), id⟩
      rw [app_nil, app_nil]
      have hd : x.l.drop (x.l.length - 1 + 1) = [] := List.drop_of_length_le (by omega)
      have h1 := congrArg lineL (split_at ha)
      rw [set_at ha, h1, hd]
      simp only [lineL_append, lineL, nil_app]
      rw [← ByteArray.append_assoc, cat_take_]
    · exact Flow.same rfl rfl id
theorem flow_ins (x : Ch) (at_ : Int) (t : Tox) (seed now : Int) : Flow x ⟨#[]⟩ ⟨#[]⟩ (insC x at_ t seed now) := by
  unfold insC
  split
  · exact Flow.same rfl rfl id
  split
  · refine Flow.same ?_ rfl id
    rename_i b hb
    have hn : (newS t seed x.room now).c = ([], 0) := by unfold newS; split <;> rfl
    have e : ∀ y : Pa, cat y.s.c.1 = ⟨#[]⟩ → lineL (x.l.take (at_.toNat + 1) ++ y :: x.l.drop (at_.toNat + 1)) = lineL x.l := by
      intro y hy
      rw [lineL_append]
      simp only [lineL, hy, app_nil]
      rw [← lineL_append, List.take_append_drop]
    apply e
    split
    · rw [endA_c]; show cat (newS t seed x.room now).c.1 = _; rw [hn]; rfl
    · show cat (newS t seed x.room now).c.1 = _; rw [hn]; rfl
  · exact Flow.same rfl rfl id
theorem flow_upd (x : Ch) (at_ : Int) (t : Tox) (now : Int) : Flow x ⟨#[]⟩ ⟨#[]⟩ (updC x at_ t now) := by
  unfold updC
  split
  · split
    · rename_i a ha
      exact flow_set x ha _ (by rw [show (Pa.s ⟨updS a.s t now, a.cl⟩) = updS a.s t now from rfl, (upd_c a.s t now).1])
    · exact Flow.same rfl rfl id
  · exact Flow.same rfl rfl id
theorem flow_rem (x : Ch) (i : Nat) (now : Int) : Flow x ⟨#[]⟩ ⟨#[]⟩ (remAt x i now) := by
  unfold remAt
  split
  · rename_i p q hp hq
    dsimp only
    have hcf := cat_force q.s now (cat p.s.c.1)
    have hhq : held (forceP q.s now (cat p.s.c.1)) = (cat (forceP q.s now (cat p.s.c.1)).c.1).size := held_cat _
    have hq0 : held q.s = (cat q.s.c.1).size := held_cat _
    have hp0 : held p.s = (cat p.s.c.1).size := held_cat _
    have hi := (List.getElem?_eq_some_iff.1 hq).1
    have hlen : (x.l.take i).length = i := by simp; omega
    -- what the row is behind it, for any first part
    have hrow : ∀ (A : List Pa) (p' q' q2 : Pa), A.length = i → ((A ++ p' :: q' :: x.l.drop (i + 2)).set (i + 1) q2).eraseIdx i = A ++ q2 :: x.l.drop (i + 2) := by
      intro A p' q' q2 hA
      rw [List.set_append, if_neg (by omega), show i + 1 - A.length = 1 by omega]
      simp only [List.set_cons_succ, List.set_cons_zero]
      rw [List.eraseIdx_append_of_length_le (by omega), show i - A.length = 0 by omega]
      simp
    have hl1 : (x.l.set i (drainA p)).set (i + 1) ⟨forceP q.s now (cat p.s.c.1), q.cl⟩ = x.l.take i ++ drainA p :: ⟨forceP q.s now (cat p.s.c.1), q.cl⟩ :: x.l.drop (i + 2) := set_two hp hq _ _
    have hline : lineL x.l = lineL (x.l.drop (i + 2)) ++ cat q.s.c.1 ++ cat p.s.c.1 ++ lineL (x.l.take i) := by
      have h1 := congrArg lineL (split_two hp hq)
      rw [h1]
      simp only [lineL_append, lineL]
    have hend : ∀ (c : Bool) (a : Pa), cat (if c = true then endA now a else a).s.c.1 = cat a.s.c.1 := by
      intro c a
      split
      · rw [endA_c]
      · rfl
    rw [hl1]
    by_cases hg : (0 : Int) < (held p.s : Int) - ((held (forceP q.s now (cat p.s.c.1)) : Int) - held q.s)
    · rw [if_pos hg, if_pos hg, if_pos hg]
      have hst : (lookP q.s now).state ≠ 0 := by
        intro e
        rw [if_neg (fun h => h e)] at hcf
        rw [hcf, ByteArray.size_append] at hhq
        omega
      rw [if_pos hst] at hcf
      have hlose : loseL i (x.l.take i ++ drainA p :: ⟨forceP q.s now (cat p.s.c.1), q.cl⟩ :: x.l.drop (i + 2)) = (x.l.take i).map drainA ++ drainA p :: ⟨forceP q.s now (cat p.s.c.1), q.cl⟩ :: x.l.drop (i + 2) := by
        unfold loseL
        rw [List.take_append_of_le_length (by omega), List.drop_append_of_le_length (by omega), List.take_of_length_le (by omega), List.drop_of_length_le (by omega), List.nil_append]
      rw [hlose, hrow _ _ _ _ (by simp; omega)]
      refine ⟨cat p.s.c.1 ++ lineL (x.l.take i), ?_, ?_, fun _ => rfl, fun _ => rfl⟩
      · rw [app_nil, nil_app]
        show lineL x.l = lineL ((x.l.take i).map drainA ++ _ :: x.l.drop (i + 2)) ++ _
        rw [lineL_append, drain_nil, app_nil]
        simp only [lineL]
        rw [hend, show cat (Pa.s ⟨forceP q.s now (cat p.s.c.1), q.cl⟩).c.1 = cat q.s.c.1 from hcf, hline]
        simp only [ByteArray.append_assoc]
      · show x.lost + ((held p.s : Int) - ((held (forceP q.s now (cat p.s.c.1)) : Int) - held q.s)) + (heldL ((x.l.take i ++ drainA p :: ⟨forceP q.s now (cat p.s.c.1), q.cl⟩ :: x.l.drop (i + 2)).take i) : Int) = _
        rw [List.take_append_of_le_length (by omega), List.take_of_length_le (by omega : (x.l.take i).length ≤ i), ByteArray.size_append, lineL_size]
        rw [hcf] at hhq
        omega
    · rw [if_neg hg, if_neg hg, if_neg hg]
      rw [hrow _ _ _ _ hlen]
      refine Flow.same ?_ rfl id
      show lineL (x.l.take i ++ _ :: x.l.drop (i + 2)) = lineL x.l
      rw [lineL_append]
      simp only [lineL]
      rw [hend, hline]
      have : cat (Pa.s ⟨forceP q.s now (cat p.s.c.1), q.cl⟩).c.1 = cat q.s.c.1 ++ cat p.s.c.1 := by
        show cat (forceP q.s now (cat p.s.c.1)).c.1 = _
        by_cases hst : (lookP q.s now).state ≠ 0
        · rw [if_pos hst] at hcf
          rw [hcf] at hhq ⊢
          have : cat p.s.c.1 = ⟨#[]⟩ := empty_of (by omega)
          rw [this, app_nil]
        · rw [if_neg hst] at hcf; exact hcf
      rw [this]
      simp only [ByteArray.append_assoc]
  · exact Flow.same rfl rfl id
theorem flow_remC (x : Ch) (at_ now : Int) : Flow x ⟨#[]⟩ ⟨#[]⟩ (remC x at_ now) := by
  unfold remC
  split
  · exact flow_rem x _ now
  · exact Flow.same rfl rfl id
end Go.Proofs.Ytoiibmcbjjnpbaa.Chain
namespace Go.Proofs.Ytoiibmcbjjnpbaa.Chain
open Go.RowKit Mem Tick Cargo Toxic Stage
set_option maxRecDepth 100000
set_option linter.unusedVariables false
set_option linter.unusedSimpArgs false
structure Pt where
  p : Nat
  b : Nat
  k : Nat
structure Lay where
  r : Nat
  cap : Nat
  ps : List Pt
abbrev ptr (b : Nat) : Value := .pointer (some ⟨b, 0, none⟩)
def PG (w : World) (H : Nat → Prop) (t : Pt) (a : Pa) : Prop :=
  ∃ G, Blk w t.p 68 #[ptr t.b, .bool a.cl] ∧ SG w G t.b t.k a.s ∧ ∀ j, H j ↔ (j = t.p ∨ G j)
abbrev pts : List TypeId := [68, 93, 116, 126]
abbrev cts : List TypeId := [73, 64, 68, 93, 116, 126]
variable {w w' : World} {F H : Nat → Prop} {t : Pt} {a : Pa} {c : Nat} {D : Lay} {x : Ch}
theorem PG.typed (h : PG w H t a) : Typed w H pts := by
  obtain ⟨G, hb, hs, hH⟩ := h
  intro j hj
  rcases (hH j).1 hj with rfl | hg
  · exact ⟨_, by simp, _, hb⟩
  · obtain ⟨t, ht, cs, hb⟩ := hs.typed j hg
    exact ⟨t, List.mem_cons_of_mem _ ht, cs, hb⟩
theorem PG.kept (h : PG w H t a) (hk : ∀ j, H j → w'.heap[j]? = w.heap[j]?) : PG w' H t a := by
  obtain ⟨G, hb, hs, hH⟩ := h
  exact ⟨G, (hk _ ((hH _).2 (.inl rfl))).trans hb, hs.kept fun j hj => hk j ((hH j).2 (.inr hj)), hH⟩
theorem PG.blk (h : PG w H t a) : Blk w t.p 68 #[ptr t.b, .bool a.cl] := by obtain ⟨G, hb, _⟩ := h; exact hb
theorem PG.step (h : PG w H t a) : ∃ G, SG w G t.b t.k a.s ∧ (∀ j, G j → H j) ∧ ∀ (w' : World) (G' : Nat → Prop) (s' : Sg), SG w' G' t.b t.k s' → Did G w w' → Stem G G' w → ∃ H', PG w' H' t ⟨s', a.cl⟩ ∧ Did H w w' ∧ Stem H H' w ∧ ∀ j, H' j → H j ∨ G' j := by
  obtain ⟨G, hb, hs, hH⟩ := h
  refine ⟨G, hs, fun j hj => (hH j).2 (.inr hj), fun w' G' s' hs' hd hst => ⟨fun j => j = t.p ∨ G' j, ⟨G', hb.did hd (hs.typed.out hb (by decide)), hs', fun j => Iff.rfl⟩, hd.more fun j hj => .inl ((hH j).2 (.inr hj)), (fun j hj => ?_), fun j hj => hj.imp (fun e => (hH j).2 (.inl e)) id⟩⟩
  rcases hj with rfl | hj
  · exact .inl ((hH _).2 (.inl rfl))
  · exact (hst j hj).imp (fun h => (hH j).2 (.inr h)) id
theorem PG.shut (h : PG w H t a) (v : Bool) : PG (w.setCell ⟨t.p, 1, none⟩ (.bool v)) H t ⟨a.s, v⟩ ∧ H t.p := by
  obtain ⟨G, hb, hs, hH⟩ := h
  refine ⟨⟨G, hb.set_ 1 (.bool v), hs.kept fun j hj => Below.heap_setCell _ _ _ j ?_, hH⟩, (hH _).2 (.inl rfl)⟩
  rintro rfl
  exact hs.typed.out hb (by decide) hj
def ccells (D : Lay) (x : Ch) : Array Value := #[.slice (some ⟨D.r, 0, none⟩) x.l.length D.cap, .int .i64 x.room, .int .i64 x.lost, .bool x.shut, .int .i64 x.state]
def Rw (w : World) (D : Lay) : Prop := ∃ cs, Blk w D.r 64 cs ∧ cs.size = D.cap ∧ ∀ (i : Nat) (t : Pt), D.ps[i]? = some t → cs[i]? = some (ptr t.p)
structure CHG (w : World) (F : Nat → Prop) (c : Nat) (D : Lay) (x : Ch) (H : Nat → Nat → Prop) : Prop where
  blk : Blk w c 73 (ccells D x)
  row : Rw w D
  len : D.ps.length = x.l.length
  part : ∀ (i : Nat) (t : Pt) (a : Pa), D.ps[i]? = some t → x.l[i]? = some a → PG w (H i) t a
  apart : ∀ (i j : Nat), i < x.l.length → j < x.l.length → i ≠ j → ∀ y, H i y → ¬ H j y
  own : ∀ j, F j ↔ (j = c ∨ j = D.r ∨ ∃ i, i < x.l.length ∧ H i j)
def CH (w : World) (F : Nat → Prop) (c : Nat) (D : Lay) (x : Ch) : Prop := ∃ H, CHG w F c D x H
theorem CHG.at_ {H : Nat → Nat → Prop} (h : CHG w F c D x H) {i : Nat} (hi : i < x.l.length) : ∃ t a, D.ps[i]? = some t ∧ x.l[i]? = some a ∧ PG w (H i) t a := by
  have h1 : i < D.ps.length := by rw [h.len]; exact hi
  exact ⟨_, _, List.getElem?_eq_getElem h1, List.getElem?_eq_getElem hi, h.part i _ _ (List.getElem?_eq_getElem h1) (List.getElem?_eq_getElem hi)⟩
theorem CH.typed (h : CH w F c D x) : Typed w F cts := by
  obtain ⟨H, h⟩ := h
  intro j hj
  rcases (h.own j).1 hj with rfl | rfl | ⟨i, hi, hg⟩
  · exact ⟨_, by simp, _, h.blk⟩
  · obtain ⟨cs, hb, _⟩ := h.row
    exact ⟨_, by simp, _, hb⟩
  · obtain ⟨t, a, _, _, hp⟩ := h.at_ hi
    obtain ⟨ty, ht, cs, hb⟩ := hp.typed j hg
    exact ⟨ty, List.mem_cons_of_mem _ (List.mem_cons_of_mem _ ht), cs, hb⟩
theorem CH.lt (h : CH w F c D x) {j : Nat} (hj : F j) : j < w.heap.size := h.typed.lt hj
theorem CH.mine (h : CH w F c D x) : F c := by obtain ⟨H, h⟩ := h; exact (h.own c).2 (.inl rfl)
theorem CH.kept (h : CH w F c D x) (hk : ∀ j, F j → w'.heap[j]? = w.heap[j]?) : CH w' F c D x := by
  obtain ⟨H, h⟩ := h
  obtain ⟨cs, hb, hr⟩ := h.row
  refine ⟨H, (hk _ ((h.own _).2 (.inl rfl))).trans h.blk, ⟨cs, (hk _ ((h.own _).2 (.inr (.inl rfl)))).trans hb, hr⟩, h.len, fun i t a ht ha => (h.part i t a ht ha).kept fun j hj => hk j ((h.own j).2 (.inr (.inr ⟨i, ?_, hj⟩))), h.apart, h.own⟩
  exact (List.getElem?_eq_some_iff.1 ha).1
theorem CH.below (h : CH w F c D x) (hb : Below w.heap.size w w') : CH w' F c D x := h.kept fun j hj => hb.block j (h.lt hj)
theorem CH.drew (h : CH w F c D x) : CH w.drew F c D x := h.kept fun _ _ => rfl
theorem CH.blk (h : CH w F c D x) : Blk w c 73 (ccells D x) := by obtain ⟨H, h⟩ := h; exact h.blk
theorem CH.pt (h : CH w F c D x) {i : Nat} {a : Pa} (hi : x.l[i]? = some a) : ∃ t, D.ps[i]? = some t := by
  obtain ⟨H, h⟩ := h
  obtain ⟨t, _, ht, _⟩ := h.at_ (List.getElem?_eq_some_iff.1 hi).1
  exact ⟨t, ht⟩
theorem CH.len (h : CH w F c D x) : D.ps.length = x.l.length := by obtain ⟨H, h⟩ := h; exact h.len
theorem CH.cap (h : CH w F c D x) : x.l.length ≤ D.cap := by
  obtain ⟨H, h⟩ := h
  obtain ⟨cs, hb, hc, hr⟩ := h.row
  by_cases hz : x.l.length = 0
  · omega
  · have hi : x.l.length - 1 < D.ps.length := by rw [h.len]; omega
    have := hr _ _ (List.getElem?_eq_getElem hi)
    have := (Array.getElem?_eq_some_iff.1 this).1
    omega
theorem CH.rcell (h : CH w F c D x) {i : Nat} {t : Pt} (ht : D.ps[i]? = some t) : w.cell? ⟨D.r, i, none⟩ = some (ptr t.p) := by
  obtain ⟨H, h⟩ := h
  obtain ⟨cs, hb, hc, hr⟩ := h.row
  exact (hb.cell i).trans (hr i t ht)
theorem CH.pcell (h : CH w F c D x) {i : Nat} {t : Pt} {a : Pa} (ht : D.ps[i]? = some t) (hi : x.l[i]? = some a) : w.cell? ⟨t.p, 0, none⟩ = some (ptr t.b) ∧ w.cell? ⟨t.p, 1, none⟩ = some (.bool a.cl) := by
  obtain ⟨H, h⟩ := h
  have hb := (h.part i t a ht hi).blk
  exact ⟨hb.cell 0, hb.cell 1⟩
theorem CH.scell (h : CH w F c D x) {i : Nat} {t : Pt} {a : Pa} (ht : D.ps[i]? = some t) (hi : x.l[i]? = some a) : w.cell? ⟨t.b, 0, none⟩ = some (ptr t.k) := by
  obtain ⟨H, h⟩ := h
  obtain ⟨G, _, hs, _⟩ := h.part i t a ht hi
  exact (hs.blk.cell 0).trans rfl
theorem CH.step (h : CH w F c D x) {i : Nat} {t : Pt} {a : Pa} (ht : D.ps[i]? = some t) (hi : x.l[i]? = some a) :
    ∃ Hi, PG w Hi t a ∧ (∀ j, Hi j → F j) ∧ ∀ (w' : World) (H' : Nat → Prop) (a' : Pa), PG w' H' t a' → Did Hi w w' → Stem Hi H' w → ∃ F', CH w' F' c D { x with l := x.l.set i a' } ∧ Did F w w' ∧ Stem F F' w ∧ ∀ j, F' j → F j ∨ H' j := by
  have hty := h.typed
  obtain ⟨H, h⟩ := h
  have hlt := (List.getElem?_eq_some_iff.1 hi).1
  have hF : ∀ j, H i j → F j := fun j hj => (h.own j).2 (.inr (.inr ⟨i, hlt, hj⟩))
  have hP := h.part i t a ht hi
  refine ⟨H i, hP, hF, fun w' H' a' hP' hd hst => ?_⟩
  obtain ⟨cs, hb, hr⟩ := h.row
  refine ⟨fun j => j = c ∨ j = D.r ∨ ∃ m, m < x.l.length ∧ (if m = i then H' j else H m j), ⟨fun m j => if m = i then H' j else H m j, ⟨?_, ⟨cs, hb.did hd (hP.typed.out hb (by decide)), hr⟩, by rw [List.length_set]; exact h.len, ?_, ?_, ?_⟩⟩, hd.more fun j hj => .inl (hF j hj), ?_, ?_⟩
  · have e : ccells D { x with l := x.l.set i a' } = ccells D x := by simp [ccells]
    rw [e]
    exact h.blk.did hd (hP.typed.out h.blk (by decide))
  · intro m t' b ht' hm
    by_cases e : m = i
    · subst e
      have e1 : t' = t := Option.some.inj (ht'.symm.trans ht)
      have e2 : a' = b := by
        have : (x.l.set m a')[m]? = some a' := by rw [List.getElem?_set_self hlt]
        exact Option.some.inj (this.symm.trans hm)
      subst e1 e2
      simpa using hP'
    · have hm' : x.l[m]? = some b := by rw [← hm]; exact (List.getElem?_set_ne (fun q => e q.symm)).symm
      have hml := (List.getElem?_eq_some_iff.1 hm').1
      have hp := h.part m t' b ht' hm'
      simp only [e, if_false]
      exact hp.kept fun j hj => hd.block j (hp.typed.lt hj) (h.apart m i hml hlt e j hj)
  · intro m m' hm hm' hne y hy
    rw [List.length_set] at hm hm'
    by_cases e : m = i
    · subst e
      rw [if_pos rfl] at hy
      rw [if_neg (fun q => hne q.symm)]
      intro hy'
      rcases hst y hy with q | q
      · exact h.apart m m' hm hm' hne y q hy'
      · obtain ⟨t2, b2, _, _, hp2⟩ := h.at_ hm'
        have := hp2.typed.lt hy'
        omega
    · rw [if_neg e] at hy
      by_cases e2 : m' = i
      · subst e2
        rw [if_pos rfl]
        intro hy'
        rcases hst y hy' with q | q
        · exact h.apart m m' hm hm' hne y hy q
        · obtain ⟨t2, b2, _, _, hp2⟩ := h.at_ hm
          have := hp2.typed.lt hy
          omega
      · rw [if_neg e2]
        exact h.apart m m' hm hm' hne y hy
  · intro j
    rw [List.length_set]
  · intro j hj
    rcases hj with rfl | rfl | ⟨m, hm, hj⟩
    · exact .inl ((h.own _).2 (.inl rfl))
    · exact .inl ((h.own _).2 (.inr (.inl rfl)))
    · by_cases e : m = i
      · rw [if_pos e] at hj
        exact (hst j hj).imp (hF j) id
      · rw [if_neg e] at hj
        exact .inl ((h.own j).2 (.inr (.inr ⟨m, hm, hj⟩)))
  · intro j hj
    rcases hj with rfl | rfl | ⟨m, hm, hj⟩
    · exact .inl ((h.own _).2 (.inl rfl))
    · exact .inl ((h.own _).2 (.inr (.inl rfl)))
    · by_cases e : m = i
      · rw [if_pos e] at hj
        exact .inr hj
      · rw [if_neg e] at hj
        exact .inl ((h.own j).2 (.inr (.inr ⟨m, hm, hj⟩)))
theorem CH.set (h : CH w F c D x) (i : Nat) (u : Value) (x' : Ch) (hs : (ccells D x).setIfInBounds i u = ccells D x') (hl : x'.l = x.l) : CH (w.setCell ⟨c, i, none⟩ u) F c D x' ∧ F c := by
  have hm := h.mine
  obtain ⟨H, h⟩ := h
  have hb2 := h.blk.set_ i u
  rw [hs] at hb2
  obtain ⟨cs, hb, hr⟩ := h.row
  have hcr : D.r ≠ c := hb.ne h.blk (by decide)
  refine ⟨⟨H, hb2, ⟨cs, hb.far (by exact hcr) u, hr⟩, by rw [hl]; exact h.len, fun m t a ht ha => ?_, by rw [hl]; exact h.apart, fun j => by rw [hl]; exact h.own j⟩, hm⟩
  rw [hl] at ha
  have hp := h.part m t a ht ha
  refine hp.kept fun j hj => Below.heap_setCell _ _ _ j ?_
  rintro rfl
  exact hp.typed.out h.blk (by decide) hj
def Tu (w : World) (F : Nat → Prop) (w' : World) (c : Nat) (D : Lay) (y : Ch) : Prop := ∃ F', CH w' F' c D y ∧ Did F w w' ∧ Stem F F' w
def TuS (w : World) (F : Nat → Prop) (w' : World) (c : Nat) (D : Lay) (y : Ch) : Prop := ∃ F', CH w' F' c D y ∧ Did F w w' ∧ Stem F F' w ∧ ∀ j, F' j → F j
theorem TuS.off {w w' : World} {F : Nat → Prop} {y : Ch} (hC : CH w F c D x) (h : TuS w F w' c D y) {A : Option Addr} (hn : Newly w A) : ∃ F', CH w' F' c D y ∧ Did F w w' ∧ Stem F F' w ∧ BS.Off A F' := by
  obtain ⟨F', a, b, d, e⟩ := h
  refine ⟨F', a, b, d, fun g o hA hg => ?_⟩
  have h1 := hn g o hA
  have h2 := hC.lt (e g hg)
  omega
theorem CH.stageX (h : CH w F c D x) {i : Nat} {t : Pt} {a : Pa} (ht : D.ps[i]? = some t) (hi : x.l[i]? = some a) :
    ∃ G, SG w G t.b t.k a.s ∧ (∀ j, G j → F j) ∧ ∀ (w' : World) (G' : Nat → Prop) (s' : Sg), SG w' G' t.b t.k s' → Did G w w' → Stem G G' w → Tu w F w' c D { x with l := x.l.set i ⟨s', a.cl⟩ } ∧ ((∀ j, G' j → G j) → TuS w F w' c D { x with l := x.l.set i ⟨s', a.cl⟩ }) := by
  obtain ⟨Hi, hP, hF, hK⟩ := h.step ht hi
  obtain ⟨G, hs, hG, hK2⟩ := hP.step
  refine ⟨G, hs, fun j hj => hF j (hG j hj), fun w' G' s' hs' hd hst => ?_⟩
  obtain ⟨H', hP', hd', hst', hsub⟩ := hK2 w' G' s' hs' hd hst
  obtain ⟨F', h1, h2, h3, h4⟩ := hK w' H' _ hP' hd' hst'
  exact ⟨⟨F', h1, h2, h3⟩, fun hg => ⟨F', h1, h2, h3, fun j hj => (h4 j hj).elim id fun e => (hsub j e).elim (hF j) fun e => hF j (hG j (hg j e))⟩⟩
theorem CH.stage (h : CH w F c D x) {i : Nat} {t : Pt} {a : Pa} (ht : D.ps[i]? = some t) (hi : x.l[i]? = some a) :
    ∃ G, SG w G t.b t.k a.s ∧ (∀ j, G j → F j) ∧ ∀ (w' : World) (G' : Nat → Prop) (s' : Sg), SG w' G' t.b t.k s' → Did G w w' → Stem G G' w → Tu w F w' c D { x with l := x.l.set i ⟨s', a.cl⟩ } := by
  obtain ⟨G, h1, h2, h3⟩ := h.stageX ht hi
  exact ⟨G, h1, h2, fun w' G' s' a b d => (h3 w' G' s' a b d).1⟩
theorem drainS_any {b k : Nat} {s : Sg} (h : SG w F b k s) (ht : held s ≤ 1000000000) :
    Calls Try.prog 71 #[.pointer (some ⟨k, 0, none⟩)] w fun e w' => ∃ A cap, e = .returned (.slice A (cat s.c.1).size cap) ∧ BS w' A (cat s.c.1) ∧ Newly w A ∧ ∃ F', SG w' F' b k (drainP s) ∧ Did F w w' ∧ Stem F F' w ∧ ∀ j, F' j → F j := by
  have hm := h.mine
  obtain ⟨G, hB, hC, hF⟩ := h
  unfold held at ht
  have hG := hC.mine
  refine (Cargo.drain_far hC (by omega)).mono fun e w' ⟨A, cap, he, hs, hC', hd, hn⟩ => ⟨A, cap, he, hs, hn, (fun j => j = b ∨ j = k), ?_⟩
  have h1 := SG.cargo (s' := drainP s) hB hC hF hC' hd (fun j hj => by subst hj; exact .inl hG) rfl
  refine ⟨h1.1, h1.2.1, h1.2.2, fun j hj => ?_⟩
  rcases hj with rfl | rfl
  · exact hm
  · exact (hF _).2 (.inr hG)
theorem Tu.below (h : CH w F c D x) (hb : Below w.heap.size w w') : Tu w F w' c D x := ⟨F, h.below hb, Did.of_below hb, Stem.refl _ _⟩
theorem Tu.next {w1 w2 : World} {F1 : Nat → Prop} {z : Ch} (hD : Did F w w1) (hS : Stem F F1 w) (k : Tu w1 F1 w2 c D z) : Tu w F w2 c D z := by
  obtain ⟨F'', hC2, hd2, hs2⟩ := k
  exact ⟨F'', hC2, hD.trans hS hd2, hS.trans hD.size hs2⟩
theorem Tu.set {w1 : World} {y : Ch} (h : Tu w F w1 c D y) (i : Nat) (u : Value) (y' : Ch) (hs : (ccells D y).setIfInBounds i u = ccells D y') (hl : y'.l = y.l) : Tu w F (w1.setCell ⟨c, i, none⟩ u) c D y' := by
  obtain ⟨F1, hC, hD, hS⟩ := h
  obtain ⟨h1, h2⟩ := hC.set i u y' hs hl
  exact Tu.next hD hS ⟨F1, h1, (Did.refl F1 w1).setCell (p := ⟨c, i, none⟩) (.inl h2) u, Stem.refl _ _⟩
theorem Tu.start (h : CH w F c D x) : Tu w F w c D x := ⟨F, h, Did.refl _ _, Stem.refl _ _⟩
/-! calls on one stage -/
theorem cs_state (h : CH w F c D x) {i : Nat} (ht : D.ps[i]? = some t) (hi : x.l[i]? = some a) (hq : held a.s ≤ 1000000000) (n : Int) :
    Calls Try.prog 44 #[ptr t.b, .int .i64 n] w fun e w' => e = .returned (.int .i64 (lookP a.s n).state) ∧ Tu w F w' c D { x with l := x.l.set i (lookA n a) } := by
  obtain ⟨G, hs, hF, hK⟩ := h.stage ht hi
  exact (state_any hs (by omega) n).mono fun e w' ⟨he, hs', hd⟩ => ⟨he, hK w' G _ hs' hd (Stem.refl _ _)⟩
theorem cs_held (h : CH w F c D x) {i : Nat} (ht : D.ps[i]? = some t) (hi : x.l[i]? = some a) (hq : held a.s ≤ 1000000000) :
    Calls Try.prog 49 #[ptr t.b] w fun e w' => e = .returned (.int .i64 (held a.s)) ∧ Below w.heap.size w w' := by
  obtain ⟨G, hs, hF, hK⟩ := h.stage ht hi
  exact held_any hs (by omega)
theorem cs_free (h : CH w F c D x) {i : Nat} (ht : D.ps[i]? = some t) (hi : x.l[i]? = some a) (hq : held a.s ≤ 1000000000) (ho : Ok a.s) :
    Calls Try.prog 47 #[ptr t.b] w fun e w' => e = .returned (.int .i64 (free a.s)) ∧ Below w.heap.size w w' := by
  obtain ⟨G, hs, hF, hK⟩ := h.stage ht hi
  have := ho.r0
  have := ho.r1
  exact free_any hs (by omega) (by omega) (by omega)
theorem cs_take (h : CH w F c D x) {i : Nat} (ht : D.ps[i]? = some t) (hi : x.l[i]? = some a) (hq : held a.s ≤ 1000000000) (ho : Ok a.s) (hp : a.s.passed ≤ 1000000000) (n most : Int) :
    Calls Try.prog 46 #[ptr t.b, .int .i64 n, .int .i64 most] w fun e w' => ∃ A cap, e = .returned (.slice A (takeB a.s n most).size cap) ∧ BS w' A (takeB a.s n most) ∧ Newly w A ∧ TuS w F w' c D { x with l := x.l.set i ⟨takeS a.s n most, a.cl⟩ } := by
  obtain ⟨G, hs, hF, hK⟩ := h.stageX ht hi
  exact (take_any hs ho.good.1 (ho.fit hp) hq n most).mono fun e w' ⟨A, cap, he, hb, hs', hd, hN⟩ => ⟨A, cap, he, hb, hN, (hK w' G _ hs' hd (Stem.refl _ _)).2 fun _ h => h⟩
theorem cs_force (h : CH w F c D x) {i : Nat} (ht : D.ps[i]? = some t) (hi : x.l[i]? = some a) (ho : Ok a.s) (n : Int) (A : Option Addr) (cap : Nat) (b : ByteArray) (hb : BS w A b) (hoff : BS.Off A F) (hq : held a.s + b.size ≤ 1000000000) :
    Calls Try.prog 45 #[ptr t.b, .int .i64 n, .slice A b.size cap] w fun e w' => e = .returned (.tuple #[]) ∧ Tu w F w' c D { x with l := x.l.set i ⟨forceP a.s n b, a.cl⟩ } := by
  obtain ⟨G, hs, hF, hK⟩ := h.stage ht hi
  exact (force_any hs ho.good.1 n A cap b hb (fun g o e hg => hoff g o e (hF g hg)) hq).mono fun e w' ⟨he, G', hs', hd, hst⟩ => ⟨he, hK w' G' _ hs' hd hst⟩
theorem cs_put (h : CH w F c D x) {i : Nat} (ht : D.ps[i]? = some t) (hi : x.l[i]? = some a) (ho : Ok a.s) (n : Int) (A : Option Addr) (cap : Nat) (b : ByteArray) (hc : b.size ≤ cap) (hb : BS w A b) (hoff : BS.Off A F) (hq : held a.s + b.size ≤ 1000000000) :
    Calls Try.prog 39 #[ptr t.b, .int .i64 n, .slice A b.size cap] w fun e w' => e = .returned (.int .i64 (putN a.s n b)) ∧ Tu w F w' c D { x with l := x.l.set i ⟨putS a.s n b, a.cl⟩ } := by
  obtain ⟨G, hs, hF, hK⟩ := h.stage ht hi
  have := ho.r0
  have := ho.r1
  exact (put_any hs ho.good.1 n A cap b hc hb (fun g o e hg => hoff g o e (hF g hg)) hq (by omega) (by omega)).mono fun e w' ⟨he, G', hs', hd, hst⟩ => ⟨he, hK w' G' _ hs' hd hst⟩
theorem cs_drain (h : CH w F c D x) {i : Nat} (ht : D.ps[i]? = some t) (hi : x.l[i]? = some a) (hq : held a.s ≤ 1000000000) :
    Calls Try.prog 71 #[ptr t.k] w fun e w' => ∃ A cap, e = .returned (.slice A (cat a.s.c.1).size cap) ∧ BS w' A (cat a.s.c.1) ∧ Newly w A ∧ TuS w F w' c D { x with l := x.l.set i (drainA a) } := by
  obtain ⟨G, hs, hF, hK⟩ := h.stageX ht hi
  exact (drainS_any hs hq).mono fun e w' ⟨A, cap, he, hb, hN, G', hs', hd, hst, hsub⟩ => ⟨A, cap, he, hb, hN, (hK w' G' _ hs' hd hst).2 hsub⟩
end Go.Proofs.Ytoiibmcbjjnpbaa.Chain
namespace Go.Proofs.Ytoiibmcbjjnpbaa.Chain
open Go.RowKit Mem Tick Cargo Toxic Stage
open Go.Proofs.YtoiibmcbjjnpbaaW.PrintLast Pu
set_option maxRecDepth 100000
set_option linter.unusedVariables false
set_option linter.unusedSimpArgs false
variable {w w' : World} {F H : Nat → Prop} {t : Pt} {a : Pa} {c : Nat} {D : Lay} {x : Ch}
structure OkC (x : Ch) (M Q : Int) : Prop where
  two : 2 ≤ x.l.length
  ten : x.l.length ≤ 10
  r0 : 1 ≤ x.room
  r1 : x.room ≤ 4096
  held : (heldL x.l : Int) ≤ M
  lost0 : 0 ≤ x.lost
  lost : x.lost + heldL x.l ≤ M
  ok : ∀ a ∈ x.l, Ok a.s ∧ a.s.passed ≤ Q
def mapK (f : Pa → Pa) (k : Nat) (l : List Pa) : List Pa := (l.take k).map f ++ l.drop k
theorem mapK_get {f : Pa → Pa} {k i : Nat} {l : List Pa} (h : k ≤ i) : (mapK f k l)[i]? = l[i]? := by
  unfold mapK
  by_cases hn : k ≤ l.length
  · rw [List.getElem?_append_right (by simp; omega), List.getElem?_drop]
    congr 1
    simp; omega
  · rw [List.getElem?_eq_none (by simp; omega), List.getElem?_eq_none (by omega)]
theorem mapK_len (f : Pa → Pa) (k : Nat) (l : List Pa) : (mapK f k l).length = l.length := by
  unfold mapK
  rw [List.length_append, List.length_map, ← List.length_append, List.take_append_drop]
theorem take_succ_ {l : List Pa} {k : Nat} {a : Pa} (h : l[k]? = some a) : l.take (k + 1) = l.take k ++ [a] := by
  rw [List.take_add_one, h]; rfl
theorem mapK_set {f : Pa → Pa} {k : Nat} {l : List Pa} {a : Pa} (h : l[k]? = some a) : (mapK f k l).set k (f a) = mapK f (k + 1) l := by
  have hk := (List.getElem?_eq_some_iff.1 h).1
  have hl : ((l.take k).map f).length = k := by simp; omega
  unfold mapK
  rw [List.set_append_right _ _ (by omega), hl, Nat.sub_self, take_succ_ h, List.map_append, List.append_assoc]
  have e : l.drop k = a :: l.drop (k + 1) := by
    obtain ⟨hi, he⟩ := List.getElem?_eq_some_iff.1 h
    rw [← he, List.getElem_cons_drop]
  rw [e]
  rfl
theorem mapK_zero (f : Pa → Pa) (l : List Pa) : mapK f 0 l = l := rfl
theorem mapK_all (f : Pa → Pa) (l : List Pa) : mapK f l.length l = l.map f := by
  unfold mapK
  rw [List.take_length, List.drop_length, List.append_nil]
theorem heldL_succ {l : List Pa} {k : Nat} {a : Pa} (h : l[k]? = some a) : heldL (l.take (k + 1)) = heldL (l.take k) + held a.s := by
  rw [take_succ_ h, heldL_append]; simp [heldL]
theorem heldL_take_le (l : List Pa) (k : Nat) : heldL (l.take k) ≤ heldL l := by
  have := congrArg heldL (List.take_append_drop k l)
  rw [heldL_append] at this
  omega
theorem held_le {l : List Pa} {k : Nat} {a : Pa} (h : l[k]? = some a) : held a.s ≤ heldL l := by
  have h1 := heldL_succ h
  have h2 := heldL_take_le l (k + 1)
  omega
theorem wr_add (p : Int) (n : Nat) (h0 : 0 ≤ p) (h1 : p + n ≤ 1000000000) : wrap64 (p + (n : Int)) = p + (n : Int) := by unfold wrap64; omega
theorem wr_addN (p n : Nat) (h1 : p + n ≤ 1000000000) : wrap64 ((p : Int) + (n : Int)) = ((p + n : Nat) : Int) := by unfold wrap64; omega
theorem end_any (h : PG w H t a) (now : Int) :
    Calls Try.prog 40 #[ptr t.p, .int .i64 now] w fun e w' => e = .returned (.tuple #[]) ∧ ∃ H', PG w' H' t (endA now a) ∧ Did H w w' ∧ Stem H H' w := by
  have h1 := h.shut true
  have c1 : w.cell? ⟨t.p, 1, none⟩ = some (.bool a.cl) := h.blk.cell 1
  have f1 := h.blk.free 1
  have c0 : (w.setCell ⟨t.p, 1, none⟩ (.bool true)).cell? ⟨t.p, 0, none⟩ = some (ptr t.b) := h1.1.blk.cell 0
  have hd1 := Lib.hid ((Did.refl H w).setCell (p := ⟨t.p, 1, none⟩) (.inl h1.2) (.bool true))
  obtain ⟨G, hs, hG, hK⟩ := h1.1.step
  have hK' := Lib.hid hK
  have hs' := Lib.hid hs
  clear h h1 hK hs
  go_enter Try.func40, Try.ntmps40
  go_wp2_with (go_at_call 62; (with_reducible refine (close_any hs'.out now).mono ?_); rintro e w2 ⟨rfl, hS2, hD2⟩; obtain ⟨H', hP, hD3, hS3, _⟩ := hK'.out _ _ _ hS2 hD2 (Stem.refl _ _); have hr := Lib.hid (show PG w2 H' t (endA now a) ∧ Did H w w2 ∧ Stem H H' w from ⟨hP, hd1.out.trans (Stem.refl _ _) hD3, (Stem.refl H w).trans hd1.out.size hS3⟩); clear hS2 hD2 hP hD3 hS3)
  go_end0
  exact ⟨rfl, H', hr.out⟩
theorem cs_end (h : CH w F c D x) {i : Nat} (ht : D.ps[i]? = some t) (hi : x.l[i]? = some a) (n : Int) :
    Calls Try.prog 40 #[ptr t.p, .int .i64 n] w fun e w' => e = .returned (.tuple #[]) ∧ Tu w F w' c D { x with l := x.l.set i (endA n a) } := by
  obtain ⟨Hi, hP, hF, hK⟩ := h.step ht hi
  refine (end_any hP n).mono fun e w' ⟨he, H', hP', hd, hst⟩ => ⟨he, ?_⟩
  obtain ⟨F', h1, h2, h3, _⟩ := hK w' H' _ hP' hd hst
  exact ⟨F', h1, h2, h3⟩
theorem cLost_any (h : CH w F c D x) :
    Calls Try.prog 28 #[ptr c] w fun e w' => e = .returned (.int .i64 x.lost) ∧ w = w' := by
  have c2 : w.cell? ⟨c, 2, none⟩ = some (.int .i64 x.lost) := (h.blk.cell 2).trans rfl
  clear h
  go_enter Try.func28, Try.ntmps28
  go_wp2
  go_ret
  exact ⟨rfl, rfl⟩
theorem cHeld_any (h : CH w F c D x) (hm : heldL x.l ≤ 1000000000) (hmx : x.l.length ≤ 10) :
    Calls Try.prog 27 #[ptr c] w fun e w' => e = .returned (.int .i64 (heldL x.l)) ∧ Below w.heap.size w w' := by
  have c0 : w.cell? ⟨c, 0, none⟩ = some (.slice (some ⟨D.r, 0, none⟩) x.l.length D.cap) := (h.blk.cell 0).trans rfl
  have hcap := h.cap
  have H := Lib.hid h
  clear h
  go_enter Try.func27, Try.ntmps27
  go_wp2
  go_loopw [3, 11] (fun nv iv wr => ∃ k : Nat, k ≤ x.l.length ∧ iv = .int .i64 k ∧ nv = .int .i64 (heldL (x.l.take k)) ∧ Below w.heap.size w wr) (fun _ iv _ => x.l.length - (intOf iv).toNat)
  case atStart => exact ⟨0, by omega, rfl, rfl, Below.refl _ _⟩
  case round =>
    obtain ⟨k, hk, rfl, rfl, hB⟩ := hrel
    by_cases hlt : k < x.l.length
    · have hx : x.l[k]? = some x.l[k] := List.getElem?_eq_getElem hlt
      generalize x.l[k] = p at *
      have hsum := Lib.hid (heldL_succ hx)
      have hle := heldL_take_le x.l (k + 1)
      rw [hsum.out] at hle
      have hwr := wr_addN (heldL (x.l.take k)) (held p.s) (by omega)
      have H2 := H.out.below hB
      obtain ⟨t, ht⟩ := H2.pt hx
      have d0 := H2.rcell ht
      have d1 := (H2.pcell ht hx).1
      have hh := Lib.hid (fun hq => cs_held H2 ht hx hq)
      have hpl : held p.s ≤ 1000000000 := by omega
      have hB' := Lib.hid hB
      have hx' := Lib.hid hx
      clear H2 hx ht hB
      generalize hn : x.l.length = n at *
      go_wp2_with (go_at_call 49; (with_reducible refine (hh.out hpl).mono ?_); rintro e w2 ⟨rfl, hB2⟩; have hB2' := Lib.hid (hB'.out.trans (hB2.mono hB'.out.size)); clear hB2)
      go_roundw
      case rel => exact ⟨k + 1, by omega, by go_num, by rw [hsum.out]; rfl, hB2'.out⟩
      case measure => simp [intOf]; omega
    · have hk2 : k = x.l.length := by omega
      subst hk2
      have hnl : ¬ (x.l.length < x.l.length) := by omega
      rw [List.take_length]
      go_wp2
      go_ret
      exact ⟨rfl, hB⟩
theorem wr_less (n : Nat) (h0 : 2 ≤ n) (h1 : n ≤ 10) : wrap64 ((n : Int) - 1) = (n : Int) - 1 := by unfold wrap64; omega
theorem inner_any (h : CH w F c D x) (h2 : 2 ≤ x.l.length) (h10 : x.l.length ≤ 10) :
    Calls Try.prog 25 #[ptr c] w fun e w' => e = .returned (.slice (some ⟨D.r, 1, none⟩) (x.l.length - 2) (D.cap - 1)) ∧ Below w.heap.size w w' := by
  have c0 : w.cell? ⟨c, 0, none⟩ = some (.slice (some ⟨D.r, 0, none⟩) x.l.length D.cap) := (h.blk.cell 0).trans rfl
  have hcap := h.cap
  have hwl := wr_less x.l.length h2 h10
  clear h
  generalize x.l.length = n at *
  have hc1 : ¬ D.cap = 1 := by omega
  have hn1 : (1 : Int) ≤ (n : Int) - 1 := by omega
  have hn2 : (n : Int) - 1 ≤ (D.cap : Int) := by omega
  have hn3 : ((n : Int) - 1).toNat = n - 1 := by omega
  go_enter Try.func25, Try.ntmps25
  go_wp2
  refine start_ (n := 12) (S := fun w' => w'.cell? ⟨c, 0, none⟩ = some (.slice (some ⟨D.r, 0, none⟩) n D.cap)) (ds := []) (m_ 12 0) (by kernel_rfl) rfl (by kernel_rfl) (c0) (fun hHeld => ?_)
  refine pu_ 0 (some 3) (m_ 12 1) rfl rfl (by kernel_rfl) (fun _ _ _ h => h) (by rfl) (by intro w'; go_simp; with_reducible rfl) (by simp only [Act.put, List.setIfInBounds_toArray, List.set_cons_zero, List.set_cons_succ, i64_w, i32_w]; rfl) ?_
  refine pu_ 1 (some 4) (m_ 12 3) rfl rfl (by kernel_rfl) (fun _ _ _ h => h) (by rfl) (by intro w'; go_simp; with_reducible rfl) (by simp only [Act.put, List.setIfInBounds_toArray, List.set_cons_zero, List.set_cons_succ, i64_w, i32_w]; rfl) ?_
  refine pu_ 2 (some 5) (m_ 12 7) rfl rfl (by kernel_rfl) (fun _ _ _ h => h) (by rfl) (by intro w'; go_simp; with_reducible rfl) (by simp only [Act.put, List.setIfInBounds_toArray, List.set_cons_zero, List.set_cons_succ, i64_w, i32_w]; rfl) ?_
  refine pu_ 4 (some 7) (m_ 12 23) rfl rfl (by kernel_rfl) (fun _ _ _ h => h) (by rfl) (by intro w'; go_simp; with_reducible rfl) (by simp only [Act.put, List.setIfInBounds_toArray, List.set_cons_zero, List.set_cons_succ, i64_w, i32_w]; rfl) ?_
  refine pu_ 5 (some 8) (m_ 12 55) rfl rfl (by kernel_rfl) (fun _ _ _ h => h) (by rfl) (by intro w'; go_simp; with_reducible rfl) (by simp only [Act.put, List.setIfInBounds_toArray, List.set_cons_zero, List.set_cons_succ, i64_w, i32_w]; rfl) ?_
  refine pu_ 6 (some 9) (m_ 12 119) rfl rfl (by kernel_rfl) (fun _ _ _ h => h) (by rfl) (by intro w'; go_simp; with_reducible rfl) (by simp only [Act.put, List.setIfInBounds_toArray, List.set_cons_zero, List.set_cons_succ, i64_w, i32_w]; rfl) ?_
  refine tk_ 3 (some 6) (m_ 12 127) rfl rfl (by kernel_rfl) (fun _ _ _ h => h) (by rfl) (by intro w' s0; go_simp; with_reducible rfl) hHeld (by simp only [Act.put, List.setIfInBounds_toArray, List.set_cons_zero, List.set_cons_succ, i64_w, i32_w]; rfl) ?_
  refine tk_ 7 (some 10) (m_ 12 255) rfl rfl (by kernel_rfl) (fun _ _ _ h => h) (by rfl) (by intro w' s0; go_simp; with_reducible rfl) hHeld (by simp only [Act.put, List.setIfInBounds_toArray, List.set_cons_zero, List.set_cons_succ, i64_w, i32_w]; rfl) ?_
  refine pu_ 8 (some 11) (m_ 12 511) rfl rfl (by kernel_rfl) (fun _ _ _ h => h) (by rfl) (by intro w'; go_simp; with_reducible rfl) (by simp only [Act.put, List.setIfInBounds_toArray, List.set_cons_zero, List.set_cons_succ, i64_w, i32_w]; rfl) ?_
  refine pu_ 9 (some 12) (m_ 12 1023) rfl rfl (by kernel_rfl) (fun _ _ _ h => h) (by rfl) (by intro w'; go_simp; with_reducible rfl) (by simp only [Act.put, List.setIfInBounds_toArray, List.set_cons_zero, List.set_cons_succ, i64_w, i32_w]; rfl) ?_
  refine pu_ 10 (some 13) (m_ 12 2047) rfl rfl (by kernel_rfl) (fun _ _ _ h => h) (by rfl) (by intro w'; go_simp; with_reducible rfl) (by simp only [Act.put, List.setIfInBounds_toArray, List.set_cons_zero, List.set_cons_succ, i64_w, i32_w]; rfl) ?_
  refine pu_ 11 (some 2) (m_ 12 4095) rfl rfl (by kernel_rfl) (fun _ _ _ h => h) (by rfl) (by intro w'; go_simp; with_reducible rfl) (by simp only [Act.put, List.setIfInBounds_toArray, List.set_cons_zero, List.set_cons_succ, i64_w, i32_w]; rfl) ?_
  refine done_ (by kernel_rfl) ?_
  go_wp2
  go_ret
  exact ⟨rfl, (Below.refl _ _).drew⟩
theorem mem_ok {Q : Int} {l : List Pa} {i : Nat} {a : Pa} (h : ∀ a ∈ l, Ok a.s ∧ a.s.passed ≤ Q) (hi : l[i]? = some a) : Ok a.s ∧ a.s.passed ≤ Q := h a (List.mem_of_getElem? hi)
theorem broken_succ {now : Int} {l : List Pa} {k : Nat} {a : Pa} (h : l[k]? = some a) : brokenB ((l.take (k + 1)).map (lookA now)) = (((lookP a.s now).state == 2) || brokenB ((l.take k).map (lookA now))) := by
  rw [take_succ_ h]
  unfold brokenB
  rw [List.map_append, List.any_append, Bool.or_comm]
  simp [lookA]
theorem cbroken_any (h : CH w F c D x) (now : Int) (hm : heldL x.l ≤ 1000000000) (h10 : x.l.length ≤ 10) :
    Calls Try.prog 41 #[ptr c, .int .i64 now] w fun e w' => e = .returned (.bool (brokenB (x.l.map (lookA now)))) ∧ Tu w F w' c D { x with l := x.l.map (lookA now) } := by
  have c0 : w.cell? ⟨c, 0, none⟩ = some (.slice (some ⟨D.r, 0, none⟩) x.l.length D.cap) := (h.blk.cell 0).trans rfl
  have hcap := h.cap
  have H0 := Lib.hid (show Tu w F w c D { x with l := mapK (lookA now) 0 x.l } from ⟨F, h, Did.refl _ _, Stem.refl _ _⟩)
  clear h
  go_enter Try.func41, Try.ntmps41
  go_wp2
  go_loopw [5, 13] (fun bv iv wr => ∃ k : Nat, k ≤ x.l.length ∧ iv = .int .i64 k ∧ bv = .bool (brokenB ((x.l.take k).map (lookA now))) ∧ Tu w F wr c D { x with l := mapK (lookA now) k x.l }) (fun _ iv _ => x.l.length - (intOf iv).toNat)
  case atStart => exact ⟨0, by omega, rfl, rfl, H0.out⟩
  case round =>
    obtain ⟨k, hk, rfl, rfl, F1, hC, hD, hS⟩ := hrel
    clear H0
    by_cases hlt : k < x.l.length
    · have hx : x.l[k]? = some x.l[k] := List.getElem?_eq_getElem hlt
      generalize x.l[k] = p at *
      have hx1 : (mapK (lookA now) k x.l)[k]? = some p := (mapK_get (Nat.le_refl _)).trans hx
      have hle := held_le hx
      obtain ⟨t, ht⟩ := hC.pt (a := p) hx1
      have d0 := hC.rcell ht
      have d1 := (hC.pcell ht hx1).1
      have hh := Lib.hid (cs_state hC ht hx1 (by omega) now)
      have hset := Lib.hid (mapK_set (f := lookA now) hx)
      have hbs := Lib.hid (broken_succ (now := now) hx)
      have hT := Lib.hid (And.intro hD hS)
      clear hx hx1 ht hC hD hS
      generalize hn : x.l.length = n at *
      generalize brokenB ((x.l.take k).map (lookA now)) = B at *
      go_wp2_with fail
      refine hh.out.mono ?_
      rintro e w2 ⟨rfl, hT2⟩
      have hT3 := Lib.hid (show Tu w F w2 c D { x with l := mapK (lookA now) (k + 1) x.l } from by rw [← hset.out]; exact Tu.next hT.out.1 hT.out.2 hT2)
      clear hT2 hh hT
      by_cases he : (lookP p.s now).state = 2
      · have te : ((lookP p.s now).state == 2) = true := by simpa using he
        have hb : brokenB ((x.l.take (k + 1)).map (lookA now)) = true := by rw [hbs.out, te]; rfl
        have hb' := Lib.hid hb
        clear hb hbs he
        go_wp2
        go_roundw
        case rel => exact ⟨k + 1, by omega, by go_num, by rw [hb'.out], hT3.out⟩
        case measure => simp [intOf]; omega
      · have te : ((lookP p.s now).state == 2) = false := by simpa using he
        have hb : brokenB ((x.l.take (k + 1)).map (lookA now)) = B := by rw [hbs.out, te]; rfl
        have hb' := Lib.hid hb
        clear hb hbs he
        go_wp2
        go_roundw
        case rel => exact ⟨k + 1, by omega, by go_num, by rw [hb'.out], hT3.out⟩
        case measure => simp [intOf]; omega
    · have hk2 : k = x.l.length := by omega
      subst hk2
      have hnl : ¬ (x.l.length < x.l.length) := by omega
      rw [List.take_length]
      rw [mapK_all] at hC
      have hT := Lib.hid (show Tu w F wr c D { x with l := x.l.map (lookA now) } from ⟨F1, hC, hD, hS⟩)
      clear hC hD hS
      go_wp2
      go_ret
      exact ⟨rfl, hT.out⟩
theorem lose_any (h : CH w F c D x) (n : Nat) (hn : n ≤ x.l.length) (cp : Nat) (hnc : n ≤ cp) (h10 : x.l.length ≤ 10) (h0 : 0 ≤ x.lost) (hm : x.lost + heldL x.l ≤ 1000000000) :
    Calls Try.prog 48 #[ptr c, .slice (some ⟨D.r, 0, none⟩) n cp] w fun e w' => e = .returned (.tuple #[]) ∧ Tu w F w' c D (loseC n x) := by
  have H0 := Lib.hid (show Tu w F w c D { x with l := mapK drainA 0 x.l, lost := x.lost + heldL (x.l.take 0) } from ⟨F, by rw [mapK_zero, show x.lost + (heldL (x.l.take 0) : Nat) = x.lost from Int.add_zero _]; exact h, Did.refl _ _, Stem.refl _ _⟩)
  clear h
  go_enter Try.func48, Try.ntmps48
  go_wp2
  go_loopw [8] (fun iv wr => ∃ k : Nat, k ≤ n ∧ iv = .int .i64 k ∧ Tu w F wr c D { x with l := mapK drainA k x.l, lost := x.lost + heldL (x.l.take k) }) (fun iv _ => n - (intOf iv).toNat)
  case atStart => exact ⟨0, by omega, rfl, H0.out⟩
  case round =>
    obtain ⟨k, hk, rfl, F1, hC, hD, hS⟩ := hrel
    clear H0
    by_cases hlt : k < n
    · have hx : x.l[k]? = some x.l[k] := List.getElem?_eq_getElem (by omega)
      generalize x.l[k] = p at *
      have hx1 : (mapK drainA k x.l)[k]? = some p := (mapK_get (Nat.le_refl _)).trans hx
      have hsum := Lib.hid (heldL_succ hx)
      have hle := heldL_take_le x.l (k + 1)
      rw [hsum.out] at hle
      have hcat := held_cat p.s
      have hwr := wr_add (x.lost + heldL (x.l.take k)) (cat p.s.c.1).size (by omega) (by omega)
      obtain ⟨t, ht⟩ := hC.pt (a := p) hx1
      have d0 := hC.rcell ht
      have d1 := (hC.pcell ht hx1).1
      have d2 := hC.scell ht hx1
      have c2 : wr.cell? ⟨c, 2, none⟩ = some (.int .i64 (x.lost + heldL (x.l.take k))) := (hC.blk.cell 2).trans rfl
      have hh := Lib.hid (cs_drain hC.drew ht hx1 (by omega))
      have hset := Lib.hid (mapK_set (f := drainA) hx)
      have hlt2 : k < (mapK drainA k x.l).length := by rw [mapK_len]; omega
      have hx3 : ((mapK drainA k x.l).set k (drainA p))[k]? = some (drainA p) := by rw [List.getElem?_set_self hlt2]
      have hl2 : x.lost + heldL (x.l.take k) + (cat p.s.c.1).size = x.lost + heldL (x.l.take (k + 1)) := by rw [hsum.out, ← hcat]; omega
      have hl2' := Lib.hid hl2
      have hT := Lib.hid (And.intro hD.drew hS)
      have ht' := Lib.hid ht
      have hx3' := Lib.hid hx3
      clear hx hx1 ht hC hD hS hx3 hl2 hsum hcat hlt2
      generalize hLL : x.lost + (heldL (x.l.take k) : Int) = L at *
      go_wp2
      refine start_ (n := 17) (S := fun w' => w'.cell? ⟨c, 2, none⟩ = some (.int .i64 L) ∧ w'.cell? ⟨t.p, 0, none⟩ = some (ptr t.b) ∧ w'.cell? ⟨t.b, 0, none⟩ = some (ptr t.k)) (ds := [16]) (m_ 17 0) (by kernel_rfl) rfl (by kernel_rfl) ⟨c2, d1, d2⟩ (fun hHeld => ?_)
      refine pu_ 0 (some 12) (m_ 17 1) rfl rfl (by kernel_rfl) (fun _ _ _ h => h) (by rfl) (by intro w'; go_simp; with_reducible rfl) (by simp only [Act.put, List.setIfInBounds_toArray, List.set_cons_zero, List.set_cons_succ, i64_w, i32_w]; rfl) ?_
      refine pu_ 1 (some 13) (m_ 17 3) rfl rfl (by kernel_rfl) (fun _ _ _ h => h) (by rfl) (by intro w'; go_simp; with_reducible rfl) (by simp only [Act.put, List.setIfInBounds_toArray, List.set_cons_zero, List.set_cons_succ, i64_w, i32_w]; rfl) ?_
      refine pu_ 2 (some 14) (m_ 17 7) rfl rfl (by kernel_rfl) (fun _ _ _ h => h) (by rfl) (by intro w'; go_simp; with_reducible rfl) (by simp only [Act.put, List.setIfInBounds_toArray, List.set_cons_zero, List.set_cons_succ, i64_w, i32_w]; rfl) ?_
      refine pu_ 4 (some 16) (m_ 17 23) rfl rfl (by kernel_rfl) (fun _ _ _ h => h) (by rfl) (by intro w'; go_simp; with_reducible rfl) (by simp only [Act.put, List.setIfInBounds_toArray, List.set_cons_zero, List.set_cons_succ, i64_w, i32_w]; rfl) ?_
      refine pu_ 5 (some 17) (m_ 17 55) rfl rfl (by kernel_rfl) (fun _ _ _ h => h) (by rfl) (by intro w'; go_simp; with_reducible rfl) (by simp only [Act.put, List.setIfInBounds_toArray, List.set_cons_zero, List.set_cons_succ, i64_w, i32_w]; rfl) ?_
      refine pu_ 6 (some 18) (m_ 17 119) rfl rfl (by kernel_rfl) (fun _ _ _ h => h) (by rfl) (by intro w'; go_simp; with_reducible rfl) (by simp only [Act.put, List.setIfInBounds_toArray, List.set_cons_zero, List.set_cons_succ, i64_w, i32_w]; rfl) ?_
      refine tk_ 3 (some 15) (m_ 17 127) rfl rfl (by kernel_rfl) (fun _ _ _ h => h) (by rfl) (by rintro w' ⟨s0, s1, s2⟩; go_simp; with_reducible rfl) hHeld (by simp only [Act.put, List.setIfInBounds_toArray, List.set_cons_zero, List.set_cons_succ, i64_w, i32_w]; rfl) ?_
      refine tk_ 7 (some 19) (m_ 17 255) rfl rfl (by kernel_rfl) (fun _ _ _ h => h) (by rfl) (by rintro w' ⟨s0, s1, s2⟩; go_simp; with_reducible rfl) hHeld (by simp only [Act.put, List.setIfInBounds_toArray, List.set_cons_zero, List.set_cons_succ, i64_w, i32_w]; rfl) ?_
      refine pu_ 8 (some 20) (m_ 17 511) rfl rfl (by kernel_rfl) (fun _ _ _ h => h) (by rfl) (by intro w'; go_simp; with_reducible rfl) (by simp only [Act.put, List.setIfInBounds_toArray, List.set_cons_zero, List.set_cons_succ, i64_w, i32_w]; rfl) ?_
      refine pu_ 9 (some 21) (m_ 17 1023) rfl rfl (by kernel_rfl) (fun _ _ _ h => h) (by rfl) (by intro w'; go_simp; with_reducible rfl) (by simp only [Act.put, List.setIfInBounds_toArray, List.set_cons_zero, List.set_cons_succ, i64_w, i32_w]; rfl) ?_
      refine tk_ 10 (some 22) (m_ 17 2047) rfl rfl (by kernel_rfl) (fun _ _ _ h => h) (by rfl) (by rintro w' ⟨s0, s1, s2⟩; go_simp; with_reducible rfl) hHeld (by simp only [Act.put, List.setIfInBounds_toArray, List.set_cons_zero, List.set_cons_succ, i64_w, i32_w]; rfl) ?_
      refine one_ (i := 11) (N := some 23) (m_ 17 4095) rfl rfl (by kernel_rfl) (by decide) (fun K hK => ?_)
      refine goes_ Try.func71 (by kernel_rfl) rfl #[ptr t.k] (by rfl) rfl rfl (by simp only [List.map_toArray, List.map_cons, List.map_nil]; rfl) ?_
      with_reducible refine (hh.out).mono ?_
      rintro e w3 ⟨A3, cp3, rfl, hb3, hn3, F3, hC3, hD3, hS3, hF3⟩
      have e2 : w3.cell? ⟨c, 2, none⟩ = some (.int .i64 L) := (hC3.blk.cell 2).trans rfl
      have f2 := hC3.blk.free 2
      have e1 := (hC3.pcell ht'.out hx3'.out).1
      have e3 := hC3.scell ht'.out hx3'.out
      have hb3s : True := trivial
      have hT3 := Lib.hid (Tu.next hT.out.1 hT.out.2 ⟨F3, hC3, hD3, hS3⟩)
      clear hb3 hn3 hC3 hD3 hS3 hF3
      refine ⟨_, rfl, ?_⟩
      refine hK.out _ _ ⟨e2, e1, e3⟩ (fun hHeld => ?_)
      clear hK K
      refine norm_ (a' := ?_) ?_ ?_
      rotate_left
      · show Act.put _ (some 23) _ = _
        simp only [Act.put, List.setIfInBounds_toArray, List.set_cons_zero, List.set_cons_succ, i64_w, i32_w]
        rfl
      refine pu_ 12 (some 24) (m_ 17 8191) rfl rfl (by kernel_rfl) (fun _ _ _ h => h) (by rfl) (by intro w'; go_simp; with_reducible rfl) (by simp only [Act.put, List.setIfInBounds_toArray, List.set_cons_zero, List.set_cons_succ, i64_w, i32_w]; rfl) ?_
      refine pu_ 13 (some 25) (m_ 17 16383) rfl rfl (by kernel_rfl) (fun _ _ _ h => h) (by rfl) (by intro w'; go_simp; with_reducible rfl) (by simp only [Act.put, List.setIfInBounds_toArray, List.set_cons_zero, List.set_cons_succ, i64_w, i32_w]; rfl) ?_
      refine pu_ 14 (some 26) (m_ 17 32767) rfl rfl (by kernel_rfl) (fun _ _ _ h => h) (by rfl) (by intro w'; go_simp; with_reducible rfl) (by simp only [Act.put, List.setIfInBounds_toArray, List.set_cons_zero, List.set_cons_succ, i64_w, i32_w]; rfl) ?_
      refine pu_ 15 (some 27) (m_ 17 65535) rfl rfl (by kernel_rfl) (fun _ _ _ h => h) (by rfl) (by intro w'; go_simp; with_reducible rfl) (by simp only [Act.put, List.setIfInBounds_toArray, List.set_cons_zero, List.set_cons_succ, i64_w, i32_w]; rfl) ?_
      refine last_ (i := 16) (N := none) (m_ 17 131071) rfl rfl (by kernel_rfl) (by decide) (fun K hK => ?_)
      refine skip_ (w1 := ?_) (by rfl) rfl ?_ ?_
      rotate_left
      · go_simp
        rfl
      refine hK.out _ _ ?_
      clear hK K
      refine done_ (by kernel_rfl) ?_
      clear hHeld
      have hT4 := Lib.hid (hT3.out.set 2 (.int .i64 (L + ((cat p.s.c.1).size : Int))) { x with l := mapK drainA (k + 1) x.l, lost := x.lost + heldL (x.l.take (k + 1)) } (by rw [hset.out, hl2'.out]; rfl) (by rw [hset.out]))
      clear hT3 hset hl2' hh hT ht' hx3' c2 d0 d1 d2 e1 e2 e3 f2 hb3s
      go_wp2
      go_roundw
      case rel => exact ⟨k + 1, by omega, by go_num, hT4.out⟩
      case measure => simp [intOf]; omega
    · have hk2 : k = n := by omega
      subst hk2
      have hnl : ¬ (k < k) := by omega
      have c3 : wr.cell? ⟨c, 3, none⟩ = some (.bool x.shut) := (hC.blk.cell 3).trans rfl
      have f3 := hC.blk.free 3
      have hset := Lib.hid (hC.set 3 (.bool true) (loseC k x) rfl rfl)
      have hT := Lib.hid (And.intro hD hS)
      clear hC hD hS
      go_wp2
      go_end0
      exact ⟨rfl, Tu.next hT.out.1 hT.out.2 ⟨F1, hset.out.1, (Did.refl F1 wr).setCell (p := ⟨c, 3, none⟩) (.inl hset.out.2) _, Stem.refl _ _⟩⟩
theorem cBreak_any (h : CH w F c D x) (now : Int) (h10 : x.l.length ≤ 10) (h0 : 0 ≤ x.lost) (hm : x.lost + heldL x.l ≤ 1000000000) :
    Calls Try.prog 42 #[ptr c, .int .i64 now] w fun e w' => e = .returned (.tuple #[]) ∧ Tu w F w' c D (breakC x) := by
  have c0 : w.cell? ⟨c, 0, none⟩ = some (.slice (some ⟨D.r, 0, none⟩) x.l.length D.cap) := (h.blk.cell 0).trans rfl
  have c4 : w.cell? ⟨c, 4, none⟩ = some (.int .i64 x.state) := (h.blk.cell 4).trans rfl
  have hl := Lib.hid (lose_any h x.l.length (Nat.le_refl _) D.cap h.cap h10 h0 hm)
  have hS := Lib.hid (Tu.start h)
  clear h
  unfold breakC
  by_cases h1 : x.state = 1
  · rw [if_pos h1]
    have t1 : (x.state != 1) = false := by simpa using h1
    clear h1
    go_enter Try.func42, Try.ntmps42
    go_wp2
    go_end0
    exact ⟨rfl, hS.out⟩
  · rw [if_neg h1]
    have t1 : (x.state != 1) = true := by simpa using h1
    clear h1
    go_enter Try.func42, Try.ntmps42
    go_wp2_with fail
    refine hl.out.mono ?_
    rintro e w1 ⟨rfl, hT⟩
    have hT4 := Lib.hid (hT.set 4 (.int .i64 2) { loseC x.l.length x with state := 2 } rfl rfl)
    obtain ⟨F1, hC, hD, hS1⟩ := hT
    have d4 : w1.cell? ⟨c, 4, none⟩ = some (.int .i64 x.state) := (hC.blk.cell 4).trans rfl
    have f4 := hC.blk.free 4
    clear hC hD hS1 hl
    go_wp2
    go_end0
    exact ⟨rfl, hT4.out⟩
theorem cClose_any (h : CH w F c D x) (h2 : 2 ≤ x.l.length) (h10 : x.l.length ≤ 10) (now : Int) :
    Calls Try.prog 21 #[ptr c, .int .i64 now] w fun e w' => e = .returned (.tuple #[]) ∧ Tu w F w' c D (closeC x now) := by
  have c3 : w.cell? ⟨c, 3, none⟩ = some (.bool x.shut) := (h.blk.cell 3).trans rfl
  have c4 : w.cell? ⟨c, 4, none⟩ = some (.int .i64 x.state) := (h.blk.cell 4).trans rfl
  have f3 := h.blk.free 3
  have hcap := h.cap
  have hS := Lib.hid (Tu.start h)
  have hx : x.l[0]? = some x.l[0] := List.getElem?_eq_getElem (by omega)
  unfold closeC
  rw [hx]
  generalize x.l[0] = p at *
  by_cases h1 : x.state = 0
  · rw [if_pos h1]
    have hT := hS.out.set 3 (.bool true) { x with shut := true } rfl rfl
    obtain ⟨F1, hC, hD, hS1⟩ := hT
    obtain ⟨t, ht⟩ := hC.pt (a := p) hx
    have d0 := hC.rcell ht
    have e0 : (w.setCell ⟨c, 3, none⟩ (.bool true)).cell? ⟨c, 0, none⟩ = some (.slice (some ⟨D.r, 0, none⟩) x.l.length D.cap) := (hC.blk.cell 0).trans rfl
    have hh := Lib.hid (cs_end hC ht hx now)
    have hq := Lib.hid (And.intro hD hS1)
    rw [h1] at c4
    clear h1 h hx hC hD hS1 ht hS
    generalize hn : x.l.length = n at *
    go_enter Try.func21, Try.ntmps21
    go_wp2_with fail
    refine hh.out.mono ?_
    rintro e w1 ⟨rfl, hT⟩
    have hT' := Lib.hid (Tu.next hq.out.1 hq.out.2 hT)
    clear hT hh hq
    go_wp2
    go_end0
    exact ⟨rfl, hT'.out⟩
  · rw [if_neg h1]
    have t1 : (x.state == 0) = false := by simpa using h1
    clear h1 h hx
    go_enter Try.func21, Try.ntmps21
    go_wp2
    go_end0
    exact ⟨rfl, hS.out⟩
theorem cPut_any (h : CH w F c D x) {M Q : Int} (ho : OkC x M Q) (now : Int) (A : Option Addr) (cap : Nat) (b : ByteArray) (hc : b.size ≤ cap) (hb : BS w A b) (hoff : BS.Off A F) (hM : M + b.size ≤ 1000000000) :
    Calls Try.prog 20 #[ptr c, .int .i64 now, .slice A b.size cap] w fun e w' => e = .returned (.int .i64 (putCN x now b)) ∧ Tu w F w' c D (putC x now b) := by
  have c0 : w.cell? ⟨c, 0, none⟩ = some (.slice (some ⟨D.r, 0, none⟩) x.l.length D.cap) := (h.blk.cell 0).trans rfl
  have c3 : w.cell? ⟨c, 3, none⟩ = some (.bool x.shut) := (h.blk.cell 3).trans rfl
  have c4 : w.cell? ⟨c, 4, none⟩ = some (.int .i64 x.state) := (h.blk.cell 4).trans rfl
  have hS := Lib.hid (Tu.start h)
  have h2 := ho.two
  have h10 := ho.ten
  have hm := ho.held
  have hcap := h.cap
  have hx : x.l[0]? = some x.l[0] := List.getElem?_eq_getElem (by omega)
  unfold putC putCN
  rw [hx]
  generalize x.l[0] = p at *
  have hok := (mem_ok ho.ok hx).1
  have hle := held_le hx
  obtain ⟨t, ht⟩ := h.pt hx
  have d0 := h.rcell ht
  have d1 := (h.pcell ht hx).1
  have hh := Lib.hid (cs_put h ht hx hok now A cap b hc hb hoff (by omega))
  clear h ho hx ht hok hb hoff hm hle hM
  rcases (by cases x.shut <;> simp : x.shut = true ∨ x.shut = false) with hsh | hsh
  · rw [if_pos (.inl hsh), if_pos (.inl hsh)]
    rw [hsh] at c3
    clear hsh
    go_enter Try.func20, Try.ntmps20
    go_wp2
    go_ret
    exact ⟨rfl, hS.out⟩
  · rw [hsh] at c3
    by_cases h1 : x.state = 0
    · rw [if_neg (by rintro (e | e); rw [hsh] at e; cases e; exact e h1), if_neg (by rintro (e | e); rw [hsh] at e; cases e; exact e h1)]
      rw [h1] at c4
      clear h1 hS hsh
      generalize hn : x.l.length = n at *
      go_enter Try.func20, Try.ntmps20
      go_wp2_with fail
      refine hh.out.mono ?_
      rintro e w1 ⟨rfl, hT⟩
      have hT' := Lib.hid hT
      clear hT hh
      go_wp2
      go_ret
      exact ⟨rfl, hT'.out⟩
    · rw [if_pos (.inr h1), if_pos (.inr h1)]
      have t1 : (x.state != 0) = true := by simpa using h1
      clear h1 hsh
      go_enter Try.func20, Try.ntmps20
      go_wp2
      go_ret
      exact ⟨rfl, hS.out⟩
theorem cTake_any (h : CH w F c D x) {M Q : Int} (ho : OkC x M Q) (now most : Int) (hM : M ≤ 1000000000) (hQ : Q ≤ 1000000000) :
    Calls Try.prog 23 #[ptr c, .int .i64 now, .int .i64 most] w fun e w' => ∃ A cap, e = .returned (.slice A (takeCB x now most).size cap) ∧ BS w' A (takeCB x now most) ∧ Newly w A ∧ TuS w F w' c D (takeC x now most) := by
  have c0 : w.cell? ⟨c, 0, none⟩ = some (.slice (some ⟨D.r, 0, none⟩) x.l.length D.cap) := (h.blk.cell 0).trans rfl
  have c4 : w.cell? ⟨c, 4, none⟩ = some (.int .i64 x.state) := (h.blk.cell 4).trans rfl
  have hS := Lib.hid (show TuS w F w c D x from ⟨F, h, Did.refl _ _, Stem.refl _ _, fun _ h => h⟩)
  have h2 := ho.two
  have h10 := ho.ten
  have hm := ho.held
  have hcap := h.cap
  have hx : x.l[x.l.length - 1]? = some x.l[x.l.length - 1] := List.getElem?_eq_getElem (by omega)
  unfold takeC takeCB
  rw [hx]
  generalize x.l[x.l.length - 1] = p at *
  have hok := mem_ok ho.ok hx
  have hle := held_le hx
  obtain ⟨t, ht⟩ := h.pt hx
  have d0 := h.rcell ht
  have d1 := (h.pcell ht hx).1
  have hD := Lib.hid (Did.refl F w)
  by_cases h1 : x.state = 2
  · rw [if_pos h1, if_pos h1]
    rw [h1] at c4
    clear h ho hx ht hok h1
    go_enter Try.func23, Try.ntmps23
    go_wp2
    go_ret
    exact ⟨none, 0, rfl, takeOutB_nil, (fun g o e => by cases e), hS.out⟩
  · rw [if_neg h1, if_neg h1]
    have t1 : (x.state == 2) = false := by simpa using h1
    have hh := Lib.hid (cs_take h.drew ht hx (by omega) hok.1 (by omega) now most)
    have hwl := wr_less x.l.length h2 h10
    have ht' := Lib.hid ht
    have hx' := Lib.hid hx
    clear h ho ht hok h1 hS hm hle hM hQ hx
    generalize hn : x.l.length = n at *
    have hn1 : (0 : Int) ≤ (n : Int) - 1 := by omega
    have hn2 : (n : Int) - 1 < (n : Int) := by omega
    have hn4 : (1 : Int) ≤ (n : Int) := by omega
    have hn3 : ((n : Int) - 1).toNat = n - 1 := by omega
    go_enter Try.func23, Try.ntmps23
    go_wp2
    refine start_ (n := 19) (S := fun w' => w'.cell? ⟨c, 0, none⟩ = some (.slice (some ⟨D.r, 0, none⟩) n D.cap) ∧ w'.cell? ⟨D.r, n - 1, none⟩ = some (ptr t.p) ∧ w'.cell? ⟨t.p, 0, none⟩ = some (ptr t.b)) (ds := []) (m_ 19 0) (by kernel_rfl) rfl (by kernel_rfl) ⟨c0, d0, d1⟩ (fun hHeld => ?_)
    refine pu_ 0 (some 12) (m_ 19 1) rfl rfl (by kernel_rfl) (fun _ _ _ h => h) (by rfl) (by intro w'; go_simp; with_reducible rfl) (by simp only [Act.put, List.setIfInBounds_toArray, List.set_cons_zero, List.set_cons_succ, i64_w, i32_w]; rfl) ?_
    refine pu_ 1 (some 13) (m_ 19 3) rfl rfl (by kernel_rfl) (fun _ _ _ h => h) (by rfl) (by intro w'; go_simp; with_reducible rfl) (by simp only [Act.put, List.setIfInBounds_toArray, List.set_cons_zero, List.set_cons_succ, i64_w, i32_w]; rfl) ?_
    refine pu_ 2 (some 14) (m_ 19 7) rfl rfl (by kernel_rfl) (fun _ _ _ h => h) (by rfl) (by intro w'; go_simp; with_reducible rfl) (by simp only [Act.put, List.setIfInBounds_toArray, List.set_cons_zero, List.set_cons_succ, i64_w, i32_w]; rfl) ?_
    refine pu_ 4 (some 16) (m_ 19 23) rfl rfl (by kernel_rfl) (fun _ _ _ h => h) (by rfl) (by intro w'; go_simp; with_reducible rfl) (by simp only [Act.put, List.setIfInBounds_toArray, List.set_cons_zero, List.set_cons_succ, i64_w, i32_w]; rfl) ?_
    refine pu_ 5 (some 17) (m_ 19 55) rfl rfl (by kernel_rfl) (fun _ _ _ h => h) (by rfl) (by intro w'; go_simp; with_reducible rfl) (by simp only [Act.put, List.setIfInBounds_toArray, List.set_cons_zero, List.set_cons_succ, i64_w, i32_w]; rfl) ?_
    refine pu_ 6 (some 18) (m_ 19 119) rfl rfl (by kernel_rfl) (fun _ _ _ h => h) (by rfl) (by intro w'; go_simp; with_reducible rfl) (by simp only [Act.put, List.setIfInBounds_toArray, List.set_cons_zero, List.set_cons_succ, i64_w, i32_w]; rfl) ?_
    refine pu_ 15 (some 27) (m_ 19 32887) rfl rfl (by kernel_rfl) (fun _ _ _ h => h) (by rfl) (by intro w'; go_simp; with_reducible rfl) (by simp only [Act.put, List.setIfInBounds_toArray, List.set_cons_zero, List.set_cons_succ, i64_w, i32_w]; rfl) ?_
    refine pu_ 16 (some 28) (m_ 19 98423) rfl rfl (by kernel_rfl) (fun _ _ _ h => h) (by rfl) (by intro w'; go_simp; with_reducible rfl) (by simp only [Act.put, List.setIfInBounds_toArray, List.set_cons_zero, List.set_cons_succ, i64_w, i32_w]; rfl) ?_
    refine tk_ 3 (some 15) (m_ 19 98431) rfl rfl (by kernel_rfl) (fun _ _ _ h => h) (by rfl) (by rintro w' ⟨s0, s1, s2⟩; go_simp; with_reducible rfl) hHeld (by simp only [Act.put, List.setIfInBounds_toArray, List.set_cons_zero, List.set_cons_succ, i64_w, i32_w]; rfl) ?_
    refine tk_ 7 (some 19) (m_ 19 98559) rfl rfl (by kernel_rfl) (fun _ _ _ h => h) (by rfl) (by rintro w' ⟨s0, s1, s2⟩; go_simp; with_reducible rfl) hHeld (by simp only [Act.put, List.setIfInBounds_toArray, List.set_cons_zero, List.set_cons_succ, i64_w, i32_w]; rfl) ?_
    refine pu_ 8 (some 20) (m_ 19 98815) rfl rfl (by kernel_rfl) (fun _ _ _ h => h) (by rfl) (by intro w'; go_simp; with_reducible rfl) (by simp only [Act.put, List.setIfInBounds_toArray, List.set_cons_zero, List.set_cons_succ, i64_w, i32_w]; rfl) ?_
    refine pu_ 9 (some 21) (m_ 19 99327) rfl rfl (by kernel_rfl) (fun _ _ _ h => h) (by rfl) (by intro w'; go_simp; with_reducible rfl) (by simp only [Act.put, List.setIfInBounds_toArray, List.set_cons_zero, List.set_cons_succ, i64_w, i32_w]; rfl) ?_
    refine pu_ 10 (some 22) (m_ 19 100351) rfl rfl (by kernel_rfl) (fun _ _ _ h => h) (by rfl) (by intro w'; go_simp; with_reducible rfl) (by simp only [Act.put, List.setIfInBounds_toArray, List.set_cons_zero, List.set_cons_succ, i64_w, i32_w]; rfl) ?_
    refine tk_ 11 (some 23) (m_ 19 102399) rfl rfl (by kernel_rfl) (fun _ _ _ h => h) (by rfl) (by rintro w' ⟨s0, s1, s2⟩; go_simp; with_reducible rfl) hHeld (by simp only [Act.put, List.setIfInBounds_toArray, List.set_cons_zero, List.set_cons_succ, i64_w, i32_w]; rfl) ?_
    refine pu_ 12 (some 24) (m_ 19 106495) rfl rfl (by kernel_rfl) (fun _ _ _ h => h) (by rfl) (by intro w'; go_simp; with_reducible rfl) (by simp only [Act.put, List.setIfInBounds_toArray, List.set_cons_zero, List.set_cons_succ, i64_w, i32_w]; rfl) ?_
    refine pu_ 13 (some 25) (m_ 19 114687) rfl rfl (by kernel_rfl) (fun _ _ _ h => h) (by rfl) (by intro w'; go_simp; with_reducible rfl) (by simp only [Act.put, List.setIfInBounds_toArray, List.set_cons_zero, List.set_cons_succ, i64_w, i32_w]; rfl) ?_
    refine tk_ 14 (some 26) (m_ 19 131071) rfl rfl (by kernel_rfl) (fun _ _ _ h => h) (by rfl) (by rintro w' ⟨s0, s1, s2⟩; go_simp; with_reducible rfl) hHeld (by simp only [Act.put, List.setIfInBounds_toArray, List.set_cons_zero, List.set_cons_succ, i64_w, i32_w]; rfl) ?_
    refine one_ (i := 17) (N := some 29) (m_ 19 262143) rfl rfl (by kernel_rfl) (by decide) (fun K hK => ?_)
    refine goes_ Try.func46 (by kernel_rfl) rfl #[ptr t.b, .int .i64 now, .int .i64 most] (by rfl) rfl rfl (by simp only [List.map_toArray, List.map_cons, List.map_nil]; rfl) ?_
    with_reducible refine (hh.out).mono ?_
    rintro e w3 ⟨A3, cp3, rfl, hb3, hn3, F3, hC3, hD3, hS3, hF3⟩
    have e0 : w3.cell? ⟨c, 0, none⟩ = some (.slice (some ⟨D.r, 0, none⟩) n D.cap) := (hC3.blk.cell 0).trans (by simp [ccells, hn])
    have e1 := hC3.rcell ht'.out
    have e2 := (hC3.pcell (a := ⟨takeS p.s now most, p.cl⟩) ht'.out (by show (x.l.set (n - 1) _)[n - 1]? = _; rw [List.getElem?_set_self (by omega)])).1
    have hT3 := Lib.hid (show TuS w F w3 c D _ from ⟨F3, hC3, hD.out.drew.trans (Stem.refl _ _) hD3, (Stem.refl F w).trans (Nat.le_refl _) hS3, hF3⟩)
    have hB3 := Lib.hid (And.intro hb3 hn3)
    clear hb3 hn3 hC3 hD3 hS3 hF3
    refine ⟨_, rfl, ?_⟩
    refine hK.out _ _ ⟨e0, e1, e2⟩ (fun hHeld => ?_)
    clear hK K
    refine norm_ (a' := ?_) ?_ ?_
    rotate_left
    · show Act.put _ (some 29) _ = _
      simp only [Act.put, List.setIfInBounds_toArray, List.set_cons_zero, List.set_cons_succ, i64_w, i32_w]
      rfl
    refine pu_ 18 (some 6) (m_ 19 524287) rfl rfl (by kernel_rfl) (fun _ _ _ h => h) (by rfl) (by intro w'; go_simp; with_reducible rfl) (by simp only [Act.put, List.setIfInBounds_toArray, List.set_cons_zero, List.set_cons_succ, i64_w, i32_w]; rfl) ?_
    refine done_ (by kernel_rfl) ?_
    clear hHeld
    go_wp2
    go_ret
    exact ⟨A3, cp3, rfl, hB3.out.1, hB3.out.2, hT3.out⟩
theorem wr_at (k : Nat) (h : k < 10) : wrap64 ((k : Int) + 1) = (k : Int) + 1 := by unfold wrap64; omega
end Go.Proofs.Ytoiibmcbjjnpbaa.Chain
namespace Go.Proofs.Ytoiibmcbjjnpbaa.Chain
open Go.RowKit Mem Tick Cargo Toxic Stage
set_option linter.unusedVariables false
set_option linter.unusedSimpArgs false
variable {x : Ch} {M Q : Int}
def OkL (l : List Pa) (Q : Int) : Prop := ∀ a ∈ l, Ok a.s ∧ a.s.passed ≤ Q
theorem OkL.more {l : List Pa} {Q Q' : Int} (h : OkL l Q) (hq : Q ≤ Q') : OkL l Q' := fun a ha => ⟨(h a ha).1, Int.le_trans (h a ha).2 hq⟩
theorem OkL.set {l : List Pa} (h : OkL l Q) (i : Nat) {b : Pa} (hb : Ok b.s ∧ b.s.passed ≤ Q) : OkL (l.set i b) Q := by
  intro a ha
  rcases List.mem_or_eq_of_mem_set ha with h1 | h1
  · exact h a h1
  · subst h1; exact hb
theorem OkL.at_ {l : List Pa} (h : OkL l Q) {i : Nat} {a : Pa} (hi : l[i]? = some a) : Ok a.s ∧ a.s.passed ≤ Q := h a (List.mem_of_getElem? hi)
theorem OkC.okL (h : OkC x M Q) : OkL x.l Q := h.ok
theorem OkC.list (ho : OkC x M Q) {l : List Pa} (hl : l.length = x.l.length) (hh : heldL l = heldL x.l) {Q' : Int} (hok : OkL l Q') : OkC { x with l := l } M Q' :=
  ⟨by rw [hl]; exact ho.two, by rw [hl]; exact ho.ten, ho.r0, ho.r1, by rw [hh]; exact ho.held, ho.lost0, by rw [hh]; exact ho.lost, hok⟩
theorem heldL_of_line {l l' : List Pa} (h : lineL l = lineL l') : heldL l = heldL l' := by rw [← lineL_size, ← lineL_size, h]
theorem OkL.look {l : List Pa} (h : OkL l Q) (now : Int) : OkL (l.map (lookA now)) Q := by
  intro a ha
  obtain ⟨b, hb, rfl⟩ := List.mem_map.1 ha
  exact ⟨(h b hb).1.look now, (h b hb).2⟩
theorem passed_force (s : Sg) (n : Int) (b : ByteArray) : (forceP s n b).passed = s.passed := by
  unfold forceP
  split
  · rfl
  · unfold putIn diceP; split <;> rfl
theorem passed_end (now : Int) (a : Pa) : (endA now a).s.passed = a.s.passed := by unfold endA closeP; split <;> rfl
theorem ok_end (now : Int) {a : Pa} (h : Ok a.s ∧ a.s.passed ≤ Q) : Ok (endA now a).s ∧ (endA now a).s.passed ≤ Q := ⟨h.1.close now, by rw [passed_end]; exact h.2⟩
theorem ok_look (now : Int) {a : Pa} (h : Ok a.s ∧ a.s.passed ≤ Q) : Ok (lookA now a).s ∧ (lookA now a).s.passed ≤ Q := ⟨h.1.look now, h.2⟩
theorem ok_drain {a : Pa} (h : Ok a.s ∧ a.s.passed ≤ Q) : Ok (drainA a).s ∧ (drainA a).s.passed ≤ Q := ⟨h.1.drain, h.2⟩
theorem takeB_le (s : Sg) (n most : Int) : (takeB s n most).size ≤ held s := by
  have h := congrArg ByteArray.size (cat_take_ s n most)
  rw [ByteArray.size_append] at h
  have := held_cat s
  omega
theorem move_ok {l : List Pa} (h : OkL l Q) (hm : (heldL l : Int) ≤ M) (hM : 0 ≤ M) (now : Int) (j : Nat) : OkL (moveAt now j l) (Q + M) := by
  unfold moveAt
  split
  · rename_i a b ha hb
    have ka := h.at_ ha
    have kb := h.at_ hb
    split
    · refine OkL.set (OkL.set (h.more (by omega)) _ ⟨ka.1.take _ _, ?_⟩) _ ⟨(kb.1.look now).force _ _, ?_⟩
      · show (takeS a.s now _).passed ≤ _
        rw [passed_take]
        have h1 := takeB_le a.s now (free (lookP b.s now))
        have h2 := held_le ha
        have h3 := ka.2
        omega
      · show (forceP _ _ _).passed ≤ _
        rw [passed_force]
        show b.s.passed ≤ _
        have := kb.2
        omega
    · exact OkL.set (h.more (by omega)) _ ⟨kb.1.look now, by show b.s.passed ≤ _; have := kb.2; omega⟩
  · exact h.more (by omega)
def mfold (now : Int) (pre : List Nat) (l : List Pa) : List Pa := pre.foldl (fun l k => moveAt now k l) l
def sfold (now : Int) (pre : List Nat) (x : Ch) : Ch := pre.foldl (fun x k => shutAt now k x) x
theorem mfold_snoc (now : Int) (pre : List Nat) (k : Nat) (l : List Pa) : mfold now (pre ++ [k]) l = moveAt now k (mfold now pre l) := by unfold mfold; rw [List.foldl_append]; rfl
theorem sfold_snoc (now : Int) (pre : List Nat) (k : Nat) (x : Ch) : sfold now (pre ++ [k]) x = shutAt now k (sfold now pre x) := by unfold sfold; rw [List.foldl_append]; rfl
theorem mfold_range (now : Int) (l : List Pa) : ∀ m, mfold now (List.range m) l = moves now m l
  | 0 => rfl
  | m + 1 => by rw [List.range_succ, mfold_snoc, mfold_range now l m]; rfl
theorem sfold_range (now : Int) (x : Ch) : ∀ m, sfold now (List.range m) x = shuts now m x
  | 0 => rfl
  | m + 1 => by rw [List.range_succ, sfold_snoc, sfold_range now x m]; rfl
theorem mfold_ok (ho : OkC x M Q) (now : Int) (pre : List Nat) : OkC { x with l := mfold now pre x.l } M (Q + pre.length * M) ∧ (mfold now pre x.l).length = x.l.length := by
  have hM : 0 ≤ M := by have := ho.held; omega
  have h0 := ho.okL
  suffices h : ∀ (pre : List Nat) (l : List Pa) (Q' : Int), OkL l Q' → l.length = x.l.length → heldL l = heldL x.l → OkL (mfold now pre l) (Q' + pre.length * M) ∧ (mfold now pre l).length = x.l.length ∧ heldL (mfold now pre l) = heldL x.l by
    obtain ⟨h1, h2, h3⟩ := h pre x.l Q h0 rfl rfl
    exact ⟨ho.list h2 h3 h1, h2⟩
  intro pre
  induction pre with
  | nil => intro l Q' h hl hh; exact ⟨by simpa [mfold] using h, hl, hh⟩
  | cons k r ih =>
    intro l Q' h hl hh
    have hm := move_ok (M := M) h (by rw [hh]; exact ho.held) hM now k
    have hln := move_line now k l
    obtain ⟨h1, h2, h3⟩ := ih (moveAt now k l) (Q' + M) hm (hln.2.trans hl) ((heldL_of_line hln.1).trans hh)
    have e : Q' + M + (r.length : Int) * M = Q' + ((k :: r).length : Int) * M := by
      rw [List.length_cons, Int.natCast_add, Int.add_mul]
      simp
      omega
    rw [e] at h1
    exact ⟨h1, h2, h3⟩
theorem flow_mass {x y : Ch} (h : Flow x ⟨#[]⟩ ⟨#[]⟩ y) : y.lost + heldL y.l = x.lost + heldL x.l ∧ x.lost ≤ y.lost ∧ heldL y.l ≤ heldL x.l := by
  obtain ⟨L, h1, h2, _, _⟩ := h
  have h3 := congrArg ByteArray.size h1
  simp only [ByteArray.size_append, lineL_size] at h3
  have e : ByteArray.size ⟨#[]⟩ = 0 := rfl
  rw [e] at h3
  refine ⟨?_, ?_, ?_⟩ <;> omega
theorem mapK_ok {l : List Pa} (h : OkL l Q) (n : Nat) : OkL (loseL n l) Q := by
  intro a ha
  unfold loseL at ha
  rcases List.mem_append.1 ha with h1 | h1
  · obtain ⟨b, hb, rfl⟩ := List.mem_map.1 h1
    exact ok_drain (h b (List.mem_of_mem_take hb))
  · exact h a (List.mem_of_mem_drop h1)
theorem OkC.flow {y : Ch} (ho : OkC x M Q) (h : Flow x ⟨#[]⟩ ⟨#[]⟩ y) (hl : y.l.length = x.l.length) (hr : y.room = x.room) {Q' : Int} (hok : OkL y.l Q') : OkC y M Q' := by
  obtain ⟨h1, h2, h3⟩ := flow_mass h
  have a := ho.held
  have b := ho.lost0
  have c := ho.lost
  exact ⟨by rw [hl]; exact ho.two, by rw [hl]; exact ho.ten, by rw [hr]; exact ho.r0, by rw [hr]; exact ho.r1, by omega, by omega, by omega, hok⟩
theorem shut_okL (now : Int) (j : Nat) (x : Ch) (h : OkL x.l Q) : OkL (shutAt now j x).l Q := by
  unfold shutAt
  split
  · rename_i a b ha hb
    have ka := h.at_ ha
    have kb := h.at_ hb
    split
    · exact OkL.set (mapK_ok (OkL.set h _ (ok_look now ka)) _) _ (ok_end now kb)
    · exact OkL.set h _ (ok_look now ka)
  · exact h
theorem shut_room (now : Int) (j : Nat) (x : Ch) : (shutAt now j x).room = x.room := by
  unfold shutAt
  split
  · split <;> rfl
  · rfl
theorem shut_ok (ho : OkC x M Q) (now : Int) (j : Nat) : OkC (shutAt now j x) M Q :=
  ho.flow (flow_shut now j x).1 (flow_shut now j x).2 (shut_room now j x) (shut_okL now j x ho.okL)
theorem sfold_ok (now : Int) : ∀ (pre : List Nat) (x : Ch), OkC x M Q → OkC (sfold now pre x) M Q ∧ (sfold now pre x).l.length = x.l.length
  | [], x, h => ⟨h, rfl⟩
  | k :: r, x, h => by
    have h1 := sfold_ok now r (shutAt now k x) (shut_ok h now k)
    exact ⟨h1.1, h1.2.trans (flow_shut now k x).2⟩
theorem set_three {l : List Pa} (k : Nat) (a b b' : Pa) : ((l.set (k + 1) b).set k a).set (k + 1) b' = (l.set k a).set (k + 1) b' := by
  rw [List.set_comm _ _ (by omega : k + 1 ≠ k), List.set_set]
end Go.Proofs.Ytoiibmcbjjnpbaa.Chain
