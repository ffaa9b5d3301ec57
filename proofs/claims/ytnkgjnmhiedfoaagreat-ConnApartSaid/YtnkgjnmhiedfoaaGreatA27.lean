/- A script of a connection's calls, and what each does (chapter 13). Conditions: each text is shorter than 2^47 bytes. -/
import Derived.Test.YtnkgjnmhiedfoaaGreatA26
import Derived.Test.YtnkgjnmhiedfoaaGreatA17
import Derived.Lib.SlBytesConst
import Derived.Test.YtnkgjnmhiedfoaaGreatA25
import Derived.Deep.DeepCutAuto
namespace Go.Proofs.YtnkgjnmhiedfoaaGreat.Conn
open Go.RowKit Mem Tick Cargo Toxic Stage Chain
open Link
set_option maxRecDepth 100000
set_option linter.unusedVariables false
set_option linter.unusedSimpArgs false
def opBytes (x : Op) : Nat := x.s.size + x.t.name.size
def Script (w : World) (v : Value) (l : List Op) : Prop :=
  ∃ a cap, v = .slice a l.length cap ∧ l.length ≤ 9223372036854775807 ∧ (∀ x ∈ l, x.s.size ≤ 140737488351232 ∧ x.t.name.size ≤ 140737488351232) ∧
    (l ≠ [] → ∃ b o, a = some ⟨b, o, none⟩ ∧ ∀ j x, l[j]? = some x → w.cell? ⟨b, o + j * 12, none⟩ = some (.int .i64 x.kind) ∧ w.cell? ⟨b, o + j * 12 + 1, none⟩ = some (.int .i64 x.way) ∧ w.cell? ⟨b, o + j * 12 + 2, none⟩ = some (.int .i64 x.now) ∧ w.cell? ⟨b, o + j * 12 + 3, none⟩ = some (.int .i64 x.m0) ∧ w.cell? ⟨b, o + j * 12 + 4, none⟩ = some (.int .i64 x.m1) ∧ w.cell? ⟨b, o + j * 12 + 5, none⟩ = some (.string x.s) ∧ w.cell? ⟨b, o + j * 12 + 6, none⟩ = some (.string x.t.name) ∧ w.cell? ⟨b, o + j * 12 + 7, none⟩ = some (.int .i64 x.t.kind) ∧ w.cell? ⟨b, o + j * 12 + 8, none⟩ = some (.bool x.t.up) ∧ w.cell? ⟨b, o + j * 12 + 9, none⟩ = some (.int .i64 x.t.often) ∧ w.cell? ⟨b, o + j * 12 + 10, none⟩ = some (.int .i64 x.t.a) ∧ w.cell? ⟨b, o + j * 12 + 11, none⟩ = some (.int .i64 x.t.b))
theorem Script.below {w w' : World} {v : Value} {l : List Op} (h : Script w v l) (hb : Below w.heap.size w w') : Script w' v l := by
  obtain ⟨a, cap, h1, h2, h3, h4⟩ := h
  refine ⟨a, cap, h1, h2, h3, fun hn => ?_⟩
  obtain ⟨b, o, e, hc⟩ := h4 hn
  refine ⟨b, o, e, fun j x hx => ?_⟩
  obtain ⟨c0, c1, c2, c3, c4, c5, c6, c7, c8, c9, c10, c11⟩ := hc j x hx
  exact ⟨bcells hb c0, bcells hb c1, bcells hb c2, bcells hb c3, bcells hb c4, bcells hb c5, bcells hb c6, bcells hb c7, bcells hb c8, bcells hb c9, bcells hb c10, bcells hb c11⟩
def bytesOf : List Op → Nat
  | [] => 0
  | x :: r => opBytes x + bytesOf r
theorem bytesOf_append (a b : List Op) : bytesOf (a ++ b) = bytesOf a + bytesOf b := by induction a with | nil => simp [bytesOf] | cons p r ih => simp [bytesOf, ih]; omega
theorem bytesOf_take (l : List Op) (k : Nat) (x : Op) (h : l[k]? = some x) : bytesOf (l.take (k + 1)) = bytesOf (l.take k) + opBytes x := by
  rw [List.take_add_one, h, bytesOf_append]; simp [bytesOf]
theorem bytesOf_le (l : List Op) (k : Nat) : bytesOf (l.take k) ≤ bytesOf l := by
  have := bytesOf_append (l.take k) (l.drop k)
  rw [List.take_append_drop] at this; omega
theorem bytesOf_max (l : List Op) (h : ∀ x ∈ l, x.s.size ≤ 140737488351232 ∧ x.t.name.size ≤ 140737488351232) : bytesOf l ≤ l.length * 281474976702464 := by
  induction l with
  | nil => simp [bytesOf]
  | cons x r ih =>
    have h1 := h x (List.mem_cons_self ..)
    have h2 := ih fun y hy => h y (List.mem_cons_of_mem _ hy)
    simp only [bytesOf, List.length_cons, opBytes]; omega
theorem bytes_s (l : List Op) (k : Nat) (p : Op) (h : l[k]? = some p) : bytesOf (l.take (k + 1)) = bytesOf (l.take k) + (p.s.size + p.t.name.size) := bytesOf_take l k p h
def fewK (n : Nat) (l : List Op) : Bool := decide (n ≤ 12) && (decide (l.length ≤ 60) && decide (bytesOf l ≤ 2000))
theorem few_short (sa : Option Addr) (sn sc : Nat) (seed room now : Int) (v : Value) (l : List Op) (w : World) (hsn : sn ≤ 9223372036854775807) (hv : Script w v l) (hsmall : l.length ≤ 60) :
    Calls Tryz.prog 8 #[.agg #[.slice sa sn sc, .int .u64 seed, .int .i64 room, .int .i64 now], v] w fun e w' => e = .returned (.bool (fewK sn l)) ∧ Below w.heap.size w w' := by
  obtain ⟨a, cap, rfl, hm, hs, hA⟩ := hv
  have hmx := bytesOf_max l hs
  have hd : decide ((l.length : Int) ≤ 60) = true := decide_eq_true (by omega)
  have hB0 := Lib.hid ((Below.refl w.heap.size w).alloc (Nat.le_refl _) (.cells #[.slice sa sn sc, .int .u64 seed, .int .i64 room, .int .i64 now] 25))
  have hX0 := Lib.hid (Blk.new w 25 #[.slice sa sn sc, .int .u64 seed, .int .i64 room, .int .i64 now])
  clear hs
  go_enter Tryz.func8, Tryz.ntmps8
  go_wp2
  go_loopw [5, 10] (fun nv iv wr => ∃ k : Nat, k ≤ l.length ∧ iv = .int .i64 k ∧ nv = .int .i64 (bytesOf (l.take k)) ∧ Below w.heap.size w wr ∧ Blk wr w.heap.size 25 #[.slice sa sn sc, .int .u64 seed, .int .i64 room, .int .i64 now]) (fun _ iv _ => l.length - (intOf iv).toNat)
  case atStart => exact ⟨0, by omega, rfl, by simp [bytesOf], hB0.out, hX0.out⟩
  case round =>
    obtain ⟨k, hk, rfl, rfl, hB, hX⟩ := hrel
    by_cases hlt : k < l.length
    · obtain ⟨g, o, rfl, hc⟩ := hA (by intro h; subst h; simp at hlt)
      have hx : l[k]? = some l[k] := List.getElem?_eq_getElem hlt
      obtain ⟨d0, d1, d2, d3, d4, d5, d6, d7, d8, d9, d10, d11⟩ := hc k _ hx
      have hs := Lib.hid (bytes_s l k _ hx)
      have hle := bytesOf_le l (k + 1)
      rw [hs.out] at hle
      generalize l[k] = p at *
      obtain ⟨p0, p1, p2, p3, p4, p5, ⟨t0, t1, t2, t3, t4, t5⟩⟩ := p
      dsimp only at *
      have d0' := bcells hB d0
      have d1' := bcells hB d1
      have d2' := bcells hB d2
      have d3' := bcells hB d3
      have d4' := bcells hB d4
      have d5' := bcells hB d5
      have d6' := bcells hB d6
      have d7' := bcells hB d7
      have d8' := bcells hB d8
      have d9' := bcells hB d9
      have d10' := bcells hB d10
      have d11' := bcells hB d11
      generalize hs1 : bytesOf (l.take (k + 1)) = s1 at *
      have hs1' := Lib.hid hs1
      generalize bytesOf (l.take k) = s0 at *
      have hsz := hB.size
      have hX' := Lib.hid hX
      clear hc hx hA d0 d1 d2 d3 d4 d5 d6 d7 d8 d9 d10 d11 hs1 hX
      go_wp2
      go_roundw
      case rel => exact ⟨k + 1, by omega, by go_num, by rw [hs1'.out, hs.out]; go_num, hB.alloc hB.size _, hX'.out.below ((Below.refl _ _).alloc (Nat.le_refl _) _)⟩
      case measure => simp [intOf]; omega
    · have hk2 : k = l.length := by omega
      subst hk2
      have hnl : ¬ (l.length < l.length) := by omega
      rw [List.take_length]
      have c0 : wr.cell? ⟨w.heap.size, 0, none⟩ = some (.slice sa sn sc) := (hX.cell 0).trans rfl
      clear hA hX
      by_cases h12 : sn ≤ 12
      · have t12 : decide ((sn : Int) ≤ 12) = true := decide_eq_true (by omega)
        have e1 : fewK sn l = decide (bytesOf l ≤ 2000) := by unfold fewK; rw [decide_eq_true h12, decide_eq_true hsmall]; simp
        have e1' := Lib.hid e1
        clear e1
        go_wp2
        go_ret
        exact ⟨by rw [e1'.out]; simp; omega, hB⟩
      · have t12 : decide ((sn : Int) ≤ 12) = false := decide_eq_false (by omega)
        have e1 : fewK sn l = false := by unfold fewK; rw [decide_eq_false h12]; rfl
        have e1' := Lib.hid e1
        clear e1
        go_wp2
        go_ret
        exact ⟨by rw [e1'.out]; rfl, hB⟩
theorem few_long (sa : Option Addr) (sn sc : Nat) (seed room now : Int) (v : Value) (l : List Op) (w : World) (hsn : sn ≤ 9223372036854775807) (hv : Script w v l) (hbig : 60 < l.length) :
    Calls Tryz.prog 8 #[.agg #[.slice sa sn sc, .int .u64 seed, .int .i64 room, .int .i64 now], v] w fun e w' => e = .returned (.bool false) ∧ Below w.heap.size w w' := by
  obtain ⟨a, cap, rfl, hm, hs, hA⟩ := hv
  have hd : decide ((l.length : Int) ≤ 60) = false := decide_eq_false (by omega)
  have hB0 := Lib.hid ((Below.refl w.heap.size w).alloc (Nat.le_refl _) (.cells #[.slice sa sn sc, .int .u64 seed, .int .i64 room, .int .i64 now] 25))
  have hX0 := Lib.hid (Blk.new w 25 #[.slice sa sn sc, .int .u64 seed, .int .i64 room, .int .i64 now])
  clear hs
  go_enter Tryz.func8, Tryz.ntmps8
  go_wp2
  go_loopw [5, 10] (fun nv iv wr => ∃ (k : Nat) (y : Int), k ≤ l.length ∧ iv = .int .i64 k ∧ nv = .int .i64 y ∧ Below w.heap.size w wr ∧ Blk wr w.heap.size 25 #[.slice sa sn sc, .int .u64 seed, .int .i64 room, .int .i64 now]) (fun _ iv _ => l.length - (intOf iv).toNat)
  case atStart => exact ⟨0, 0, by omega, rfl, rfl, hB0.out, hX0.out⟩
  case round =>
    obtain ⟨k, y, hk, rfl, rfl, hB, hX⟩ := hrel
    by_cases hlt : k < l.length
    · obtain ⟨g, o, rfl, hc⟩ := hA (by intro h; subst h; simp at hlt)
      have hx : l[k]? = some l[k] := List.getElem?_eq_getElem hlt
      obtain ⟨d0, d1, d2, d3, d4, d5, d6, d7, d8, d9, d10, d11⟩ := hc k _ hx
      generalize l[k] = p at *
      obtain ⟨p0, p1, p2, p3, p4, p5, ⟨t0, t1, t2, t3, t4, t5⟩⟩ := p
      dsimp only at *
      have d0' := bcells hB d0
      have d1' := bcells hB d1
      have d2' := bcells hB d2
      have d3' := bcells hB d3
      have d4' := bcells hB d4
      have d5' := bcells hB d5
      have d6' := bcells hB d6
      have d7' := bcells hB d7
      have d8' := bcells hB d8
      have d9' := bcells hB d9
      have d10' := bcells hB d10
      have d11' := bcells hB d11
      have hsz := hB.size
      have hX' := Lib.hid hX
      clear hc hx hA d0 d1 d2 d3 d4 d5 d6 d7 d8 d9 d10 d11 hX
      go_wp2
      go_roundw
      case rel => exact ⟨k + 1, _, by omega, by go_num, rfl, hB.alloc hB.size _, hX'.out.below ((Below.refl _ _).alloc (Nat.le_refl _) _)⟩
      case measure => simp [intOf]; omega
    · have hk2 : k = l.length := by omega
      subst hk2
      have hnl : ¬ (l.length < l.length) := by omega
      have c0 : wr.cell? ⟨w.heap.size, 0, none⟩ = some (.slice sa sn sc) := (hX.cell 0).trans rfl
      clear hA hX
      by_cases h12 : sn ≤ 12
      · have t12 : decide ((sn : Int) ≤ 12) = true := decide_eq_true (by omega)
        go_wp2
        go_ret
        exact ⟨rfl, hB⟩
      · have t12 : decide ((sn : Int) ≤ 12) = false := decide_eq_false (by omega)
        go_wp2
        go_ret
        exact ⟨rfl, hB⟩
theorem few_any (sa : Option Addr) (sn sc : Nat) (seed room now : Int) (v : Value) (l : List Op) (w : World) (hsn : sn ≤ 9223372036854775807) (hv : Script w v l) :
    Calls Tryz.prog 8 #[.agg #[.slice sa sn sc, .int .u64 seed, .int .i64 room, .int .i64 now], v] w fun e w' => e = .returned (.bool (fewK sn l)) ∧ Below w.heap.size w w' := by
  by_cases h : l.length ≤ 60
  · exact few_short sa sn sc seed room now v l w hsn hv h
  · have e : fewK sn l = false := by unfold fewK; rw [decide_eq_false h]; simp
    rw [e]
    exact few_long sa sn sc seed room now v l w hsn hv (by omega)
variable {w w' : World} {F : Nat → Prop} {b : Nat} {x : Cn}
def An.v (a : An) : Value := .agg #[.int .i64 a.n, .string a.s0, .int .i64 a.e0, .string a.s1, .int .i64 a.e1, .int .i64 a.e]
def DoesQ (F : Nat → Prop) (b : Nat) (w : World) (y : Cn) (a : An) (e : Ending) (w' : World) : Prop := e = .returned (An.v a) ∧ CTu w F w' b y
theorem does_0 (h : CN w F b x) (wy nw m0 m1 : Int) (z tn : ByteArray) (tk : Int) (tu : Bool) (tf ta tb : Int) {M Q : Int} (ho : OkN x M Q) (hM : M + z.size ≤ 1000000000) (hs : (lk x wy).sent + z.size ≤ 1000000000) :
    Calls Tryz.prog 13 #[ptr b, .agg #[.int .i64 0, .int .i64 wy, .int .i64 nw, .int .i64 m0, .int .i64 m1, .string z, .string tn, .int .i64 tk, .bool tu, .int .i64 tf, .int .i64 ta, .int .i64 tb]] w (DoesQ F b w (sendN x wy nw z) (⟨sendA x wy nw z, ⟨#[]⟩, 0, ⟨#[]⟩, 0, 0⟩)) := by
  have hcv := conv_str z
  have hB := (((Below.refl w.heap.size w).alloc (Nat.le_refl _) (.cells #[.int .i64 0, .int .i64 wy, .int .i64 nw, .int .i64 m0, .int .i64 m1, .string z, .string tn, .int .i64 tk, .bool tu, .int .i64 tf, .int .i64 ta, .int .i64 tb] 43)).alloc (by simp) (.cells #[.int .i64 0, .string ⟨#[]⟩, .int .i64 0, .string ⟨#[]⟩, .int .i64 0, .int .i64 0] 48)).alloc (by simp; omega) (.cells #[.int .i64 0, .string ⟨#[]⟩, .int .i64 0, .string ⟨#[]⟩, .int .i64 0, .int .i64 0] 48)
  have hR := Lib.hid ((Blk.new (w.alloc (.cells #[.int .i64 0, .int .i64 wy, .int .i64 nw, .int .i64 m0, .int .i64 m1, .string z, .string tn, .int .i64 tk, .bool tu, .int .i64 tf, .int .i64 ta, .int .i64 tb] 43)) 48 #[.int .i64 0, .string ⟨#[]⟩, .int .i64 0, .string ⟨#[]⟩, .int .i64 0, .int .i64 0]).below ((Below.refl _ _).alloc (Nat.le_refl _) (.cells #[.int .i64 0, .string ⟨#[]⟩, .int .i64 0, .string ⟨#[]⟩, .int .i64 0, .int .i64 0] 48)))
  have hA := Lib.hid (Blk.new ((w.alloc (.cells #[.int .i64 0, .int .i64 wy, .int .i64 nw, .int .i64 m0, .int .i64 m1, .string z, .string tn, .int .i64 tk, .bool tu, .int .i64 tf, .int .i64 ta, .int .i64 tb] 43)).alloc (.cells #[.int .i64 0, .string ⟨#[]⟩, .int .i64 0, .string ⟨#[]⟩, .int .i64 0, .int .i64 0] 48)) 48 #[.int .i64 0, .string ⟨#[]⟩, .int .i64 0, .string ⟨#[]⟩, .int .i64 0, .int .i64 0])
  have H := Lib.hid (h.below hB)
  have HB := Lib.hid hB
  have hlt := fun j (hj : F j) => Lib.hid (h.lt hj)
  have hBy := Lib.hid (bytes_below (((w.alloc (.cells #[.int .i64 0, .int .i64 wy, .int .i64 nw, .int .i64 m0, .int .i64 m1, .string z, .string tn, .int .i64 tk, .bool tu, .int .i64 tf, .int .i64 ta, .int .i64 tb] 43)).alloc (.cells #[.int .i64 0, .string ⟨#[]⟩, .int .i64 0, .string ⟨#[]⟩, .int .i64 0, .int .i64 0] 48)).alloc (.cells #[.int .i64 0, .string ⟨#[]⟩, .int .i64 0, .string ⟨#[]⟩, .int .i64 0, .int .i64 0] 48)) z)
  have hBS := Lib.hid (bytes_new (((w.alloc (.cells #[.int .i64 0, .int .i64 wy, .int .i64 nw, .int .i64 m0, .int .i64 m1, .string z, .string tn, .int .i64 tk, .bool tu, .int .i64 tf, .int .i64 ta, .int .i64 tb] 43)).alloc (.cells #[.int .i64 0, .string ⟨#[]⟩, .int .i64 0, .string ⟨#[]⟩, .int .i64 0, .int .i64 0] 48)).alloc (.cells #[.int .i64 0, .string ⟨#[]⟩, .int .i64 0, .string ⟨#[]⟩, .int .i64 0, .int .i64 0] 48)) z)
  have hcap3 := fun (W : World) => grownCap_ge W z.size 0 5
  have hlt3 : (((w.alloc (.cells #[.int .i64 0, .int .i64 wy, .int .i64 nw, .int .i64 m0, .int .i64 m1, .string z, .string tn, .int .i64 tk, .bool tu, .int .i64 tf, .int .i64 ta, .int .i64 tb] 43)).alloc (.cells #[.int .i64 0, .string ⟨#[]⟩, .int .i64 0, .string ⟨#[]⟩, .int .i64 0, .int .i64 0] 48)).alloc (.cells #[.int .i64 0, .string ⟨#[]⟩, .int .i64 0, .string ⟨#[]⟩, .int .i64 0, .int .i64 0] 48)).heap.size = w.heap.size + 3 := by simp
  clear h hB
  go_enter Tryz.func13, Tryz.ntmps13
  go_wp2_with fail
  refine (cSend_any (H.out.below hBy.out) ho wy nw _ _ z (hcap3 _) (by simpa using hBS.out) (fun g o e hF => by have := (hlt g hF).out; injection e with e; injection e with e; subst e; (try simp at this); omega) hM hs).mono ?_
  rintro e w1 ⟨rfl, hTD⟩
  obtain ⟨F', hC, hD, hS⟩ := hTD
  have hdB := Lib.hid ((Did.of_below (F := F) hBy.out).trans (Stem.refl _ _) hD)
  have qT := Lib.hid (show Stem F F' w from (Stem.refl F w).trans (Nat.le_trans HB.out.size hBy.out.size) hS)
  have qS := Lib.hid hC
  have qD := Lib.hid (show Did F w w1 from (Did.of_below HB.out).trans (Stem.refl _ _) hdB.out)
  have qA := Lib.hid (hA.out.did hdB.out (fun c => by have := (hlt _ c).out; simp at this; omega))
  have qR := Lib.hid (hR.out.did hdB.out (fun c => by have := (hlt _ c).out; simp at this; omega))
  rw [World.size_alloc, World.size_alloc] at qA
  rw [World.size_alloc] at qR
  clear hA hR H HB hlt hC hD hS hBy hBS hcap3 hcv hdB hlt3
  have a0 : w1.cell? ⟨w.heap.size + 2, 0, none⟩ = some (.int .i64 0) := (qA.out.cell 0).trans rfl
  have a1 : w1.cell? ⟨w.heap.size + 2, 1, none⟩ = some (.string ⟨#[]⟩) := (qA.out.cell 1).trans rfl
  have a2 : w1.cell? ⟨w.heap.size + 2, 2, none⟩ = some (.int .i64 0) := (qA.out.cell 2).trans rfl
  have a3 : w1.cell? ⟨w.heap.size + 2, 3, none⟩ = some (.string ⟨#[]⟩) := (qA.out.cell 3).trans rfl
  have a4 : w1.cell? ⟨w.heap.size + 2, 4, none⟩ = some (.int .i64 0) := (qA.out.cell 4).trans rfl
  have a5 : w1.cell? ⟨w.heap.size + 2, 5, none⟩ = some (.int .i64 0) := (qA.out.cell 5).trans rfl
  have r0 : w1.cell? ⟨w.heap.size + 1, 0, none⟩ = some (.int .i64 0) := (qR.out.cell 0).trans rfl
  have r1 : w1.cell? ⟨w.heap.size + 1, 1, none⟩ = some (.string ⟨#[]⟩) := (qR.out.cell 1).trans rfl
  have r2 : w1.cell? ⟨w.heap.size + 1, 2, none⟩ = some (.int .i64 0) := (qR.out.cell 2).trans rfl
  have r3 : w1.cell? ⟨w.heap.size + 1, 3, none⟩ = some (.string ⟨#[]⟩) := (qR.out.cell 3).trans rfl
  have r4 : w1.cell? ⟨w.heap.size + 1, 4, none⟩ = some (.int .i64 0) := (qR.out.cell 4).trans rfl
  have r5 : w1.cell? ⟨w.heap.size + 1, 5, none⟩ = some (.int .i64 0) := (qR.out.cell 5).trans rfl
  have fa0 := qA.out.free 0
  have fr0 := qR.out.free 0
  have fa1 := qA.out.free 1
  have fr1 := qR.out.free 1
  have fa2 := qA.out.free 2
  have fr2 := qR.out.free 2
  have fa3 := qA.out.free 3
  have fr3 := qR.out.free 3
  have fa4 := qA.out.free 4
  have fr4 := qR.out.free 4
  have fa5 := qA.out.free 5
  have fr5 := qR.out.free 5
  have la : w.heap.size + 2 < w1.heap.size := qA.out.lt
  have lr : w.heap.size + 1 < w1.heap.size := qR.out.lt
  go_wp2
  refine bodyPost_ret (v := (.agg #[.int .i64 (sendA x wy nw z), .string ⟨#[]⟩, .int .i64 0, .string ⟨#[]⟩, .int .i64 0, .int .i64 0])) (results_cell_row Tryz.results13 _ _ (w.heap.size + 1) 48 _ (0, 0) _ rfl (((((((qR.out.far (p := ⟨w.heap.size + 2, 0, none⟩) (by show w.heap.size + 1 ≠ w.heap.size + 2; omega) (.int .i64 (sendA x wy nw z))).set_ 0 (.int .i64 (sendA x wy nw z))).set_ 1 (.string ⟨#[]⟩)).set_ 2 (.int .i64 0)).set_ 3 (.string ⟨#[]⟩)).set_ 4 (.int .i64 0)).set_ 5 (.int .i64 0)) Tryz.underlying48 rfl (by kernel_rfl)) rfl ⟨rfl, F', ?_, ?_, qT.out⟩
  · have s0 := (qS.out.far qA.out (by decide) 0 (.int .i64 (sendA x wy nw z)))
    have b0 := (qR.out.far (p := ⟨w.heap.size + 2, 0, none⟩) (by show w.heap.size + 1 ≠ w.heap.size + 2; omega) (.int .i64 (sendA x wy nw z)))
    have s1 := s0.far b0 (by decide) 0 (.int .i64 (sendA x wy nw z))
    have b1 := b0.set_ 0 (.int .i64 (sendA x wy nw z))
    have s2 := s1.far b1 (by decide) 1 (.string ⟨#[]⟩)
    have b2 := b1.set_ 1 (.string ⟨#[]⟩)
    have s3 := s2.far b2 (by decide) 2 (.int .i64 0)
    have b3 := b2.set_ 2 (.int .i64 0)
    have s4 := s3.far b3 (by decide) 3 (.string ⟨#[]⟩)
    have b4 := b3.set_ 3 (.string ⟨#[]⟩)
    have s5 := s4.far b4 (by decide) 4 (.int .i64 0)
    have b5 := b4.set_ 4 (.int .i64 0)
    exact s5.far b5 (by decide) 5 (.int .i64 0)
  · exact (((((((qD.out.setCell (p := ⟨w.heap.size + 2, 0, none⟩) (.inr (by show w.heap.size ≤ w.heap.size + 2; omega)) (.int .i64 (sendA x wy nw z))).setCell (p := ⟨w.heap.size + 1, 0, none⟩) (.inr (by show w.heap.size ≤ w.heap.size + 1; omega)) _).setCell (p := ⟨w.heap.size + 1, 1, none⟩) (.inr (by show w.heap.size ≤ w.heap.size + 1; omega)) _).setCell (p := ⟨w.heap.size + 1, 2, none⟩) (.inr (by show w.heap.size ≤ w.heap.size + 1; omega)) _).setCell (p := ⟨w.heap.size + 1, 3, none⟩) (.inr (by show w.heap.size ≤ w.heap.size + 1; omega)) _).setCell (p := ⟨w.heap.size + 1, 4, none⟩) (.inr (by show w.heap.size ≤ w.heap.size + 1; omega)) _).setCell (p := ⟨w.heap.size + 1, 5, none⟩) (.inr (by show w.heap.size ≤ w.heap.size + 1; omega)) _)
theorem does_1 (h : CN w F b x) (wy nw m0 m1 : Int) (z tn : ByteArray) (tk : Int) (tu : Bool) (tf ta tb : Int) {M Q : Int} (ho : OkN x M Q) :
    Calls Tryz.prog 13 #[ptr b, .agg #[.int .i64 1, .int .i64 wy, .int .i64 nw, .int .i64 m0, .int .i64 m1, .string z, .string tn, .int .i64 tk, .bool tu, .int .i64 tf, .int .i64 ta, .int .i64 tb]] w (DoesQ F b w (finN x wy nw) (⟨0, ⟨#[]⟩, 0, ⟨#[]⟩, 0, 0⟩)) := by
  have hB := (((Below.refl w.heap.size w).alloc (Nat.le_refl _) (.cells #[.int .i64 1, .int .i64 wy, .int .i64 nw, .int .i64 m0, .int .i64 m1, .string z, .string tn, .int .i64 tk, .bool tu, .int .i64 tf, .int .i64 ta, .int .i64 tb] 43)).alloc (by simp) (.cells #[.int .i64 0, .string ⟨#[]⟩, .int .i64 0, .string ⟨#[]⟩, .int .i64 0, .int .i64 0] 48)).alloc (by simp; omega) (.cells #[.int .i64 0, .string ⟨#[]⟩, .int .i64 0, .string ⟨#[]⟩, .int .i64 0, .int .i64 0] 48)
  have hR := Lib.hid ((Blk.new (w.alloc (.cells #[.int .i64 1, .int .i64 wy, .int .i64 nw, .int .i64 m0, .int .i64 m1, .string z, .string tn, .int .i64 tk, .bool tu, .int .i64 tf, .int .i64 ta, .int .i64 tb] 43)) 48 #[.int .i64 0, .string ⟨#[]⟩, .int .i64 0, .string ⟨#[]⟩, .int .i64 0, .int .i64 0]).below ((Below.refl _ _).alloc (Nat.le_refl _) (.cells #[.int .i64 0, .string ⟨#[]⟩, .int .i64 0, .string ⟨#[]⟩, .int .i64 0, .int .i64 0] 48)))
  have hA := Lib.hid (Blk.new ((w.alloc (.cells #[.int .i64 1, .int .i64 wy, .int .i64 nw, .int .i64 m0, .int .i64 m1, .string z, .string tn, .int .i64 tk, .bool tu, .int .i64 tf, .int .i64 ta, .int .i64 tb] 43)).alloc (.cells #[.int .i64 0, .string ⟨#[]⟩, .int .i64 0, .string ⟨#[]⟩, .int .i64 0, .int .i64 0] 48)) 48 #[.int .i64 0, .string ⟨#[]⟩, .int .i64 0, .string ⟨#[]⟩, .int .i64 0, .int .i64 0])
  have H := Lib.hid (h.below hB)
  have HB := Lib.hid hB
  have hlt := fun j (hj : F j) => Lib.hid (h.lt hj)
  clear h hB
  go_enter Tryz.func13, Tryz.ntmps13
  go_wp2_with fail
  refine (cFinish_any H.out ho wy nw).mono ?_
  rintro e w1 ⟨rfl, hTD⟩
  obtain ⟨F', hC, hD, hS⟩ := hTD
  have qT := Lib.hid ((Stem.refl F w).trans HB.out.size hS)
  have qS := Lib.hid hC
  have qD := Lib.hid (show Did F w w1 from (Did.of_below HB.out).trans (Stem.refl _ _) hD)
  have qA := Lib.hid (hA.out.did hD (fun c => by have := (hlt _ c).out; simp at this; omega))
  have qR := Lib.hid (hR.out.did hD (fun c => by have := (hlt _ c).out; simp at this; omega))
  rw [World.size_alloc, World.size_alloc] at qA
  rw [World.size_alloc] at qR
  clear hA hR H HB hlt hC hD hS
  have a0 : w1.cell? ⟨w.heap.size + 2, 0, none⟩ = some (.int .i64 0) := (qA.out.cell 0).trans rfl
  have a1 : w1.cell? ⟨w.heap.size + 2, 1, none⟩ = some (.string ⟨#[]⟩) := (qA.out.cell 1).trans rfl
  have a2 : w1.cell? ⟨w.heap.size + 2, 2, none⟩ = some (.int .i64 0) := (qA.out.cell 2).trans rfl
  have a3 : w1.cell? ⟨w.heap.size + 2, 3, none⟩ = some (.string ⟨#[]⟩) := (qA.out.cell 3).trans rfl
  have a4 : w1.cell? ⟨w.heap.size + 2, 4, none⟩ = some (.int .i64 0) := (qA.out.cell 4).trans rfl
  have a5 : w1.cell? ⟨w.heap.size + 2, 5, none⟩ = some (.int .i64 0) := (qA.out.cell 5).trans rfl
  have r0 : w1.cell? ⟨w.heap.size + 1, 0, none⟩ = some (.int .i64 0) := (qR.out.cell 0).trans rfl
  have r1 : w1.cell? ⟨w.heap.size + 1, 1, none⟩ = some (.string ⟨#[]⟩) := (qR.out.cell 1).trans rfl
  have r2 : w1.cell? ⟨w.heap.size + 1, 2, none⟩ = some (.int .i64 0) := (qR.out.cell 2).trans rfl
  have r3 : w1.cell? ⟨w.heap.size + 1, 3, none⟩ = some (.string ⟨#[]⟩) := (qR.out.cell 3).trans rfl
  have r4 : w1.cell? ⟨w.heap.size + 1, 4, none⟩ = some (.int .i64 0) := (qR.out.cell 4).trans rfl
  have r5 : w1.cell? ⟨w.heap.size + 1, 5, none⟩ = some (.int .i64 0) := (qR.out.cell 5).trans rfl
  have fa0 := qA.out.free 0
  have fr0 := qR.out.free 0
  have fa1 := qA.out.free 1
  have fr1 := qR.out.free 1
  have fa2 := qA.out.free 2
  have fr2 := qR.out.free 2
  have fa3 := qA.out.free 3
  have fr3 := qR.out.free 3
  have fa4 := qA.out.free 4
  have fr4 := qR.out.free 4
  have fa5 := qA.out.free 5
  have fr5 := qR.out.free 5
  have la : w.heap.size + 2 < w1.heap.size := qA.out.lt
  have lr : w.heap.size + 1 < w1.heap.size := qR.out.lt
  go_wp2
  refine bodyPost_ret (v := (.agg #[.int .i64 0, .string ⟨#[]⟩, .int .i64 0, .string ⟨#[]⟩, .int .i64 0, .int .i64 0])) (results_cell_row Tryz.results13 _ _ (w.heap.size + 1) 48 _ (0, 0) _ rfl ((((((qR.out.set_ 0 (.int .i64 0)).set_ 1 (.string ⟨#[]⟩)).set_ 2 (.int .i64 0)).set_ 3 (.string ⟨#[]⟩)).set_ 4 (.int .i64 0)).set_ 5 (.int .i64 0)) Tryz.underlying48 rfl (by kernel_rfl)) rfl ⟨rfl, F', ?_, ?_, qT.out⟩
  · have s0 := qS.out
    have b0 := qR.out
    have s1 := s0.far b0 (by decide) 0 (.int .i64 0)
    have b1 := b0.set_ 0 (.int .i64 0)
    have s2 := s1.far b1 (by decide) 1 (.string ⟨#[]⟩)
    have b2 := b1.set_ 1 (.string ⟨#[]⟩)
    have s3 := s2.far b2 (by decide) 2 (.int .i64 0)
    have b3 := b2.set_ 2 (.int .i64 0)
    have s4 := s3.far b3 (by decide) 3 (.string ⟨#[]⟩)
    have b4 := b3.set_ 3 (.string ⟨#[]⟩)
    have s5 := s4.far b4 (by decide) 4 (.int .i64 0)
    have b5 := b4.set_ 4 (.int .i64 0)
    exact s5.far b5 (by decide) 5 (.int .i64 0)
  · exact ((((((qD.out.setCell (p := ⟨w.heap.size + 1, 0, none⟩) (.inr (by show w.heap.size ≤ w.heap.size + 1; omega)) _).setCell (p := ⟨w.heap.size + 1, 1, none⟩) (.inr (by show w.heap.size ≤ w.heap.size + 1; omega)) _).setCell (p := ⟨w.heap.size + 1, 2, none⟩) (.inr (by show w.heap.size ≤ w.heap.size + 1; omega)) _).setCell (p := ⟨w.heap.size + 1, 3, none⟩) (.inr (by show w.heap.size ≤ w.heap.size + 1; omega)) _).setCell (p := ⟨w.heap.size + 1, 4, none⟩) (.inr (by show w.heap.size ≤ w.heap.size + 1; omega)) _).setCell (p := ⟨w.heap.size + 1, 5, none⟩) (.inr (by show w.heap.size ≤ w.heap.size + 1; omega)) _)
theorem does_2 (h : CN w F b x) (wy nw m0 m1 : Int) (z tn : ByteArray) (tk : Int) (tu : Bool) (tf ta tb : Int) {M Q : Int} (ho : OkN x M Q) (hM : M ≤ 1000000000) (hQ : 0 ≤ Q) {d : Int} (hd : Dr x d) (hn : d + 1 ≤ 1000000000) :
    Calls Tryz.prog 13 #[ptr b, .agg #[.int .i64 2, .int .i64 wy, .int .i64 nw, .int .i64 m0, .int .i64 m1, .string z, .string tn, .int .i64 tk, .bool tu, .int .i64 tf, .int .i64 ta, .int .i64 tb]] w (DoesQ F b w (cutN x) (⟨0, ⟨#[]⟩, 0, ⟨#[]⟩, 0, 0⟩)) := by
  have hB := (((Below.refl w.heap.size w).alloc (Nat.le_refl _) (.cells #[.int .i64 2, .int .i64 wy, .int .i64 nw, .int .i64 m0, .int .i64 m1, .string z, .string tn, .int .i64 tk, .bool tu, .int .i64 tf, .int .i64 ta, .int .i64 tb] 43)).alloc (by simp) (.cells #[.int .i64 0, .string ⟨#[]⟩, .int .i64 0, .string ⟨#[]⟩, .int .i64 0, .int .i64 0] 48)).alloc (by simp; omega) (.cells #[.int .i64 0, .string ⟨#[]⟩, .int .i64 0, .string ⟨#[]⟩, .int .i64 0, .int .i64 0] 48)
  have hR := Lib.hid ((Blk.new (w.alloc (.cells #[.int .i64 2, .int .i64 wy, .int .i64 nw, .int .i64 m0, .int .i64 m1, .string z, .string tn, .int .i64 tk, .bool tu, .int .i64 tf, .int .i64 ta, .int .i64 tb] 43)) 48 #[.int .i64 0, .string ⟨#[]⟩, .int .i64 0, .string ⟨#[]⟩, .int .i64 0, .int .i64 0]).below ((Below.refl _ _).alloc (Nat.le_refl _) (.cells #[.int .i64 0, .string ⟨#[]⟩, .int .i64 0, .string ⟨#[]⟩, .int .i64 0, .int .i64 0] 48)))
  have hA := Lib.hid (Blk.new ((w.alloc (.cells #[.int .i64 2, .int .i64 wy, .int .i64 nw, .int .i64 m0, .int .i64 m1, .string z, .string tn, .int .i64 tk, .bool tu, .int .i64 tf, .int .i64 ta, .int .i64 tb] 43)).alloc (.cells #[.int .i64 0, .string ⟨#[]⟩, .int .i64 0, .string ⟨#[]⟩, .int .i64 0, .int .i64 0] 48)) 48 #[.int .i64 0, .string ⟨#[]⟩, .int .i64 0, .string ⟨#[]⟩, .int .i64 0, .int .i64 0])
  have H := Lib.hid (h.below hB)
  have HB := Lib.hid hB
  have hlt := fun j (hj : F j) => Lib.hid (h.lt hj)
  clear h hB
  go_enter Tryz.func13, Tryz.ntmps13
  go_wp2_with fail
  refine (cCut_any H.out ho hM hQ hd hn nw).mono ?_
  rintro e w1 ⟨rfl, hTD⟩
  obtain ⟨F', hC, hD, hS⟩ := hTD
  have qT := Lib.hid ((Stem.refl F w).trans HB.out.size hS)
  have qS := Lib.hid hC
  have qD := Lib.hid (show Did F w w1 from (Did.of_below HB.out).trans (Stem.refl _ _) hD)
  have qA := Lib.hid (hA.out.did hD (fun c => by have := (hlt _ c).out; simp at this; omega))
  have qR := Lib.hid (hR.out.did hD (fun c => by have := (hlt _ c).out; simp at this; omega))
  rw [World.size_alloc, World.size_alloc] at qA
  rw [World.size_alloc] at qR
  clear hA hR H HB hlt hC hD hS
  have a0 : w1.cell? ⟨w.heap.size + 2, 0, none⟩ = some (.int .i64 0) := (qA.out.cell 0).trans rfl
  have a1 : w1.cell? ⟨w.heap.size + 2, 1, none⟩ = some (.string ⟨#[]⟩) := (qA.out.cell 1).trans rfl
  have a2 : w1.cell? ⟨w.heap.size + 2, 2, none⟩ = some (.int .i64 0) := (qA.out.cell 2).trans rfl
  have a3 : w1.cell? ⟨w.heap.size + 2, 3, none⟩ = some (.string ⟨#[]⟩) := (qA.out.cell 3).trans rfl
  have a4 : w1.cell? ⟨w.heap.size + 2, 4, none⟩ = some (.int .i64 0) := (qA.out.cell 4).trans rfl
  have a5 : w1.cell? ⟨w.heap.size + 2, 5, none⟩ = some (.int .i64 0) := (qA.out.cell 5).trans rfl
  have r0 : w1.cell? ⟨w.heap.size + 1, 0, none⟩ = some (.int .i64 0) := (qR.out.cell 0).trans rfl
  have r1 : w1.cell? ⟨w.heap.size + 1, 1, none⟩ = some (.string ⟨#[]⟩) := (qR.out.cell 1).trans rfl
  have r2 : w1.cell? ⟨w.heap.size + 1, 2, none⟩ = some (.int .i64 0) := (qR.out.cell 2).trans rfl
  have r3 : w1.cell? ⟨w.heap.size + 1, 3, none⟩ = some (.string ⟨#[]⟩) := (qR.out.cell 3).trans rfl
  have r4 : w1.cell? ⟨w.heap.size + 1, 4, none⟩ = some (.int .i64 0) := (qR.out.cell 4).trans rfl
  have r5 : w1.cell? ⟨w.heap.size + 1, 5, none⟩ = some (.int .i64 0) := (qR.out.cell 5).trans rfl
  have fa0 := qA.out.free 0
  have fr0 := qR.out.free 0
  have fa1 := qA.out.free 1
  have fr1 := qR.out.free 1
  have fa2 := qA.out.free 2
  have fr2 := qR.out.free 2
  have fa3 := qA.out.free 3
  have fr3 := qR.out.free 3
  have fa4 := qA.out.free 4
  have fr4 := qR.out.free 4
  have fa5 := qA.out.free 5
  have fr5 := qR.out.free 5
  have la : w.heap.size + 2 < w1.heap.size := qA.out.lt
  have lr : w.heap.size + 1 < w1.heap.size := qR.out.lt
  go_wp2
  refine bodyPost_ret (v := (.agg #[.int .i64 0, .string ⟨#[]⟩, .int .i64 0, .string ⟨#[]⟩, .int .i64 0, .int .i64 0])) (results_cell_row Tryz.results13 _ _ (w.heap.size + 1) 48 _ (0, 0) _ rfl ((((((qR.out.set_ 0 (.int .i64 0)).set_ 1 (.string ⟨#[]⟩)).set_ 2 (.int .i64 0)).set_ 3 (.string ⟨#[]⟩)).set_ 4 (.int .i64 0)).set_ 5 (.int .i64 0)) Tryz.underlying48 rfl (by kernel_rfl)) rfl ⟨rfl, F', ?_, ?_, qT.out⟩
  · have s0 := qS.out
    have b0 := qR.out
    have s1 := s0.far b0 (by decide) 0 (.int .i64 0)
    have b1 := b0.set_ 0 (.int .i64 0)
    have s2 := s1.far b1 (by decide) 1 (.string ⟨#[]⟩)
    have b2 := b1.set_ 1 (.string ⟨#[]⟩)
    have s3 := s2.far b2 (by decide) 2 (.int .i64 0)
    have b3 := b2.set_ 2 (.int .i64 0)
    have s4 := s3.far b3 (by decide) 3 (.string ⟨#[]⟩)
    have b4 := b3.set_ 3 (.string ⟨#[]⟩)
    have s5 := s4.far b4 (by decide) 4 (.int .i64 0)
    have b5 := b4.set_ 4 (.int .i64 0)
    exact s5.far b5 (by decide) 5 (.int .i64 0)
  · exact ((((((qD.out.setCell (p := ⟨w.heap.size + 1, 0, none⟩) (.inr (by show w.heap.size ≤ w.heap.size + 1; omega)) _).setCell (p := ⟨w.heap.size + 1, 1, none⟩) (.inr (by show w.heap.size ≤ w.heap.size + 1; omega)) _).setCell (p := ⟨w.heap.size + 1, 2, none⟩) (.inr (by show w.heap.size ≤ w.heap.size + 1; omega)) _).setCell (p := ⟨w.heap.size + 1, 3, none⟩) (.inr (by show w.heap.size ≤ w.heap.size + 1; omega)) _).setCell (p := ⟨w.heap.size + 1, 4, none⟩) (.inr (by show w.heap.size ≤ w.heap.size + 1; omega)) _).setCell (p := ⟨w.heap.size + 1, 5, none⟩) (.inr (by show w.heap.size ≤ w.heap.size + 1; omega)) _)
def acells (u0 u1 : ByteArray) (v0 v1 : Int) (k : Nat) : Array Value := if k = 0 then #[.int .i64 0, .string ⟨#[]⟩, .int .i64 0, .string ⟨#[]⟩, .int .i64 0, .int .i64 0] else if k = 1 then #[.int .i64 0, .string u0, .int .i64 v0, .string ⟨#[]⟩, .int .i64 0, .int .i64 0] else #[.int .i64 0, .string u0, .int .i64 v0, .string u1, .int .i64 v1, .int .i64 0]
theorem idx_out (u0 u1 : ByteArray) (v0 v1 : Int) (W : World) : (Instr.index 64 (.agg #[.string u0, .int .i64 v0, .string u1, .int .i64 v1]) (.int .i64 0)).run Tryz.prog W = .ok (.agg #[.string u0, .int .i64 v0]) W ∧ (Instr.index 64 (.agg #[.string u0, .int .i64 v0, .string u1, .int .i64 v1]) (.int .i64 1)).run Tryz.prog W = .ok (.agg #[.string u1, .int .i64 v1]) W := by
  constructor <;> rfl
structure TInv (w wr : World) (F F' : Nat → Prop) (b : Nat) (y : Cn) (u0 u1 : ByteArray) (v0 v1 : Int) (k : Nat) : Prop where
  S : CN wr F' b y
  D : Did F w wr
  A : Blk wr (w.heap.size + 2) 48 (acells u0 u1 v0 v1 k)
  R : Blk wr (w.heap.size + 1) 48 #[.int .i64 0, .string ⟨#[]⟩, .int .i64 0, .string ⟨#[]⟩, .int .i64 0, .int .i64 0]
theorem TInv.set2 {w wr : World} {F F' : Nat → Prop} {b : Nat} {y : Cn} {u0 u1 : ByteArray} {v0 v1 : Int} {k : Nat} (h : TInv w wr F F' b y u0 u1 v0 v1 k) (o : Obj) (i j : Nat) (p q : Value) (k' : Nat) (e : ((acells u0 u1 v0 v1 k).setIfInBounds i p).setIfInBounds j q = acells u0 u1 v0 v1 k') :
    TInv w (((wr.setCell ⟨w.heap.size + 2, i, none⟩ p).setCell ⟨w.heap.size + 2, j, none⟩ q).alloc o) F F' b y u0 u1 v0 v1 k' := by
  have hA1 := h.A.set_ i p
  have hA2 := hA1.set_ j q
  rw [e] at hA2
  have hS2 := (h.S.far h.A (by decide) i p).far hA1 (by decide) j q
  have hR2 := (h.R.far (p := ⟨w.heap.size + 2, i, none⟩) (by show w.heap.size + 1 ≠ w.heap.size + 2; omega) p).far (p := ⟨w.heap.size + 2, j, none⟩) (by show w.heap.size + 1 ≠ w.heap.size + 2; omega) q
  have hD2 := (h.D.setCell (p := ⟨w.heap.size + 2, i, none⟩) (.inr (by show w.heap.size ≤ w.heap.size + 2; omega)) p).setCell (p := ⟨w.heap.size + 2, j, none⟩) (.inr (by show w.heap.size ≤ w.heap.size + 2; omega)) q
  generalize ((wr.setCell ⟨w.heap.size + 2, i, none⟩ p).setCell ⟨w.heap.size + 2, j, none⟩ q) = W at *
  have hb := (Below.refl W.heap.size W).alloc (Nat.le_refl _) o
  exact ⟨hS2.below hb, hD2.trans (Stem.refl _ _) (Did.of_below (F := F) hb), hA2.below hb, hR2.below hb⟩
set_option maxHeartbeats 2000000 in
theorem does_3 (h : CN w F b x) (wy nw m0 m1 : Int) (z tn : ByteArray) (tk : Int) (tu : Bool) (tf ta tb : Int) {M Q : Int} (ho : OkN x M Q) (hM : M ≤ 1000000) (hQ : Q + 200 * M ≤ 100000000) {g : Int} (hg : Go x g) (hgM : g + 5 * M ≤ 1000000000) (hQ0 : 0 ≤ Q) {d : Int} (hd : Dr x d) (hn : d + 1 ≤ 1000000000) :
    Calls Tryz.prog 13 #[ptr b, .agg #[.int .i64 3, .int .i64 wy, .int .i64 nw, .int .i64 m0, .int .i64 m1, .string z, .string tn, .int .i64 tk, .bool tu, .int .i64 tf, .int .i64 ta, .int .i64 tb]] w (DoesQ F b w (stepN x nw m0 m1) (⟨0, (outA x nw m0 m1).1, (outA x nw m0 m1).2, (outB x nw m0 m1).1, (outB x nw m0 m1).2, 0⟩)) := by
  have hB := (((Below.refl w.heap.size w).alloc (Nat.le_refl _) (.cells #[.int .i64 3, .int .i64 wy, .int .i64 nw, .int .i64 m0, .int .i64 m1, .string z, .string tn, .int .i64 tk, .bool tu, .int .i64 tf, .int .i64 ta, .int .i64 tb] 43)).alloc (by simp) (.cells #[.int .i64 0, .string ⟨#[]⟩, .int .i64 0, .string ⟨#[]⟩, .int .i64 0, .int .i64 0] 48)).alloc (by simp; omega) (.cells #[.int .i64 0, .string ⟨#[]⟩, .int .i64 0, .string ⟨#[]⟩, .int .i64 0, .int .i64 0] 48)
  have hR := Lib.hid ((Blk.new (w.alloc (.cells #[.int .i64 3, .int .i64 wy, .int .i64 nw, .int .i64 m0, .int .i64 m1, .string z, .string tn, .int .i64 tk, .bool tu, .int .i64 tf, .int .i64 ta, .int .i64 tb] 43)) 48 #[.int .i64 0, .string ⟨#[]⟩, .int .i64 0, .string ⟨#[]⟩, .int .i64 0, .int .i64 0]).below ((Below.refl _ _).alloc (Nat.le_refl _) (.cells #[.int .i64 0, .string ⟨#[]⟩, .int .i64 0, .string ⟨#[]⟩, .int .i64 0, .int .i64 0] 48)))
  have hA := Lib.hid (Blk.new ((w.alloc (.cells #[.int .i64 3, .int .i64 wy, .int .i64 nw, .int .i64 m0, .int .i64 m1, .string z, .string tn, .int .i64 tk, .bool tu, .int .i64 tf, .int .i64 ta, .int .i64 tb] 43)).alloc (.cells #[.int .i64 0, .string ⟨#[]⟩, .int .i64 0, .string ⟨#[]⟩, .int .i64 0, .int .i64 0] 48)) 48 #[.int .i64 0, .string ⟨#[]⟩, .int .i64 0, .string ⟨#[]⟩, .int .i64 0, .int .i64 0])
  have H := Lib.hid (h.below hB)
  have HB := Lib.hid hB
  have hlt := fun j (hj : F j) => Lib.hid (h.lt hj)
  clear h hB
  go_enter Tryz.func13, Tryz.ntmps13
  go_wp2_with fail
  refine (cStep_any H.out ho hM hQ hg hgM hQ0 hd hn nw m0 m1).mono ?_
  rintro e w1 ⟨rfl, hTD⟩
  obtain ⟨F', hC, hD, hS⟩ := hTD
  have qT := Lib.hid ((Stem.refl F w).trans HB.out.size hS)
  have qS := Lib.hid hC
  have qD := Lib.hid (show Did F w w1 from (Did.of_below HB.out).trans (Stem.refl _ _) hD)
  have qA := Lib.hid (hA.out.did hD (fun c => by have := (hlt _ c).out; simp at this; omega))
  have qR := Lib.hid (hR.out.did hD (fun c => by have := (hlt _ c).out; simp at this; omega))
  rw [World.size_alloc, World.size_alloc] at qA
  rw [World.size_alloc] at qR
  clear hA hR H HB hlt hC hD hS
  generalize (outA x nw m0 m1).1 = u0 at *
  generalize (outA x nw m0 m1).2 = v0 at *
  generalize (outB x nw m0 m1).1 = u1 at *
  generalize (outB x nw m0 m1).2 = v1 at *
  generalize stepN x nw m0 m1 = y at *
  have hI0 := Lib.hid (show TInv w w1 F F' b y u0 u1 v0 v1 0 from ⟨qS.out, qD.out, qA.out, qR.out⟩)
  clear qS qD qA qR hg hgM hd hM hQ hQ0 ho hn
  go_wp2
  go_loopw [44] (fun p wr => ∃ k : Nat, k ≤ 2 ∧ p = .int .i64 k ∧ TInv w wr F F' b y u0 u1 v0 v1 k) (fun p wr => 2 - (intOf p).toNat)
  case atStart => exact ⟨0, by omega, rfl, hI0.out⟩
  case round =>
    obtain ⟨k, hk, rfl, hI⟩ := hrel
    have hII := Lib.hid hI
    clear hI0 hI
    have h3 : k = 0 ∨ k = 1 ∨ k = 2 := by omega
    rcases h3 with rfl | rfl | rfl
    · have hix := (idx_out u0 u1 v0 v1 wr).1
      have hn := Lib.hid (hII.out.set2 (.cells #[.string u0, .int .i64 v0] 63) 1 2 (.string u0) (.int .i64 v0) 1 rfl)
      have fa := hII.out.A.free 1
      have fb := hII.out.A.free 2
      have ca : wr.cell? ⟨w.heap.size + 2, 1, none⟩ = some (.string ⟨#[]⟩) := (hII.out.A.cell 1).trans rfl
      have cb : wr.cell? ⟨w.heap.size + 2, 2, none⟩ = some (.int .i64 0) := (hII.out.A.cell 2).trans rfl
      have la : w.heap.size + 2 < wr.heap.size := hII.out.A.lt
      clear hII
      go_wp2
      go_roundw
      case rel => exact ⟨0 + 1, by omega, by go_num, hn.out⟩
      case measure => simp [intOf]
    · have hix := (idx_out u0 u1 v0 v1 wr).2
      have hn := Lib.hid (hII.out.set2 (.cells #[.string u1, .int .i64 v1] 63) 3 4 (.string u1) (.int .i64 v1) 2 rfl)
      have fa := hII.out.A.free 3
      have fb := hII.out.A.free 4
      have ca : wr.cell? ⟨w.heap.size + 2, 3, none⟩ = some (.string ⟨#[]⟩) := (hII.out.A.cell 3).trans rfl
      have cb : wr.cell? ⟨w.heap.size + 2, 4, none⟩ = some (.int .i64 0) := (hII.out.A.cell 4).trans rfl
      have la : w.heap.size + 2 < wr.heap.size := hII.out.A.lt
      clear hII
      go_wp2
      go_roundw
      case rel => exact ⟨1 + 1, by omega, by go_num, hn.out⟩
      case measure => simp [intOf]
    · rw [show ((2 : Nat) : Int) = 2 from rfl]
      have qS := Lib.hid hII.out.S
      have qD := Lib.hid hII.out.D
      have qA := Lib.hid hII.out.A
      have qR := Lib.hid hII.out.R
      unfold acells at qA
      simp only [show (2 : Nat) ≠ 0 from by decide, show (2 : Nat) ≠ 1 from by decide, if_false] at qA
      clear hII
      have a0 : wr.cell? ⟨w.heap.size + 2, 0, none⟩ = some (.int .i64 0) := (qA.out.cell 0).trans rfl
      have a1 : wr.cell? ⟨w.heap.size + 2, 1, none⟩ = some (.string u0) := (qA.out.cell 1).trans rfl
      have a2 : wr.cell? ⟨w.heap.size + 2, 2, none⟩ = some (.int .i64 v0) := (qA.out.cell 2).trans rfl
      have a3 : wr.cell? ⟨w.heap.size + 2, 3, none⟩ = some (.string u1) := (qA.out.cell 3).trans rfl
      have a4 : wr.cell? ⟨w.heap.size + 2, 4, none⟩ = some (.int .i64 v1) := (qA.out.cell 4).trans rfl
      have a5 : wr.cell? ⟨w.heap.size + 2, 5, none⟩ = some (.int .i64 0) := (qA.out.cell 5).trans rfl
      have r0 : wr.cell? ⟨w.heap.size + 1, 0, none⟩ = some (.int .i64 0) := (qR.out.cell 0).trans rfl
      have r1 : wr.cell? ⟨w.heap.size + 1, 1, none⟩ = some (.string ⟨#[]⟩) := (qR.out.cell 1).trans rfl
      have r2 : wr.cell? ⟨w.heap.size + 1, 2, none⟩ = some (.int .i64 0) := (qR.out.cell 2).trans rfl
      have r3 : wr.cell? ⟨w.heap.size + 1, 3, none⟩ = some (.string ⟨#[]⟩) := (qR.out.cell 3).trans rfl
      have r4 : wr.cell? ⟨w.heap.size + 1, 4, none⟩ = some (.int .i64 0) := (qR.out.cell 4).trans rfl
      have r5 : wr.cell? ⟨w.heap.size + 1, 5, none⟩ = some (.int .i64 0) := (qR.out.cell 5).trans rfl
      have fa0 := qA.out.free 0
      have fr0 := qR.out.free 0
      have fa1 := qA.out.free 1
      have fr1 := qR.out.free 1
      have fa2 := qA.out.free 2
      have fr2 := qR.out.free 2
      have fa3 := qA.out.free 3
      have fr3 := qR.out.free 3
      have fa4 := qA.out.free 4
      have fr4 := qR.out.free 4
      have fa5 := qA.out.free 5
      have fr5 := qR.out.free 5
      have la : w.heap.size + 2 < wr.heap.size := qA.out.lt
      have lr : w.heap.size + 1 < wr.heap.size := qR.out.lt
      go_wp2
      refine bodyPost_ret (v := (.agg #[.int .i64 0, .string u0, .int .i64 v0, .string u1, .int .i64 v1, .int .i64 0])) (results_cell_row Tryz.results13 _ _ (w.heap.size + 1) 48 _ (0, 0) _ rfl ((((((qR.out.set_ 0 (.int .i64 0)).set_ 1 (.string u0)).set_ 2 (.int .i64 v0)).set_ 3 (.string u1)).set_ 4 (.int .i64 v1)).set_ 5 (.int .i64 0)) Tryz.underlying48 rfl (by kernel_rfl)) rfl ⟨rfl, F', ?_, ?_, qT.out⟩
      · have s0 := qS.out
        have b0 := qR.out
        have s1 := s0.far b0 (by decide) 0 (.int .i64 0)
        have b1 := b0.set_ 0 (.int .i64 0)
        have s2 := s1.far b1 (by decide) 1 (.string u0)
        have b2 := b1.set_ 1 (.string u0)
        have s3 := s2.far b2 (by decide) 2 (.int .i64 v0)
        have b3 := b2.set_ 2 (.int .i64 v0)
        have s4 := s3.far b3 (by decide) 3 (.string u1)
        have b4 := b3.set_ 3 (.string u1)
        have s5 := s4.far b4 (by decide) 4 (.int .i64 v1)
        have b5 := b4.set_ 4 (.int .i64 v1)
        exact s5.far b5 (by decide) 5 (.int .i64 0)
      · exact ((((((qD.out.setCell (p := ⟨w.heap.size + 1, 0, none⟩) (.inr (by show w.heap.size ≤ w.heap.size + 1; omega)) _).setCell (p := ⟨w.heap.size + 1, 1, none⟩) (.inr (by show w.heap.size ≤ w.heap.size + 1; omega)) _).setCell (p := ⟨w.heap.size + 1, 2, none⟩) (.inr (by show w.heap.size ≤ w.heap.size + 1; omega)) _).setCell (p := ⟨w.heap.size + 1, 3, none⟩) (.inr (by show w.heap.size ≤ w.heap.size + 1; omega)) _).setCell (p := ⟨w.heap.size + 1, 4, none⟩) (.inr (by show w.heap.size ≤ w.heap.size + 1; omega)) _).setCell (p := ⟨w.heap.size + 1, 5, none⟩) (.inr (by show w.heap.size ≤ w.heap.size + 1; omega)) _)
theorem does_4 (h : CN w F b x) (wy nw m0 m1 : Int) (z tn : ByteArray) (tk : Int) (tu : Bool) (tf ta tb : Int) {M Q : Int} (ho : OkN x M Q) (hn16 : x.names.length ≤ 100) :
    Calls Tryz.prog 13 #[ptr b, .agg #[.int .i64 4, .int .i64 wy, .int .i64 nw, .int .i64 m0, .int .i64 m1, .string z, .string tn, .int .i64 tk, .bool tu, .int .i64 tf, .int .i64 ta, .int .i64 tb]] w (DoesQ F b w (addN x ⟨tn, tk, tu, tf, ta, tb⟩ nw) (⟨0, ⟨#[]⟩, 0, ⟨#[]⟩, 0, addNE x ⟨tn, tk, tu, tf, ta, tb⟩⟩)) := by
  have hB := (((Below.refl w.heap.size w).alloc (Nat.le_refl _) (.cells #[.int .i64 4, .int .i64 wy, .int .i64 nw, .int .i64 m0, .int .i64 m1, .string z, .string tn, .int .i64 tk, .bool tu, .int .i64 tf, .int .i64 ta, .int .i64 tb] 43)).alloc (by simp) (.cells #[.int .i64 0, .string ⟨#[]⟩, .int .i64 0, .string ⟨#[]⟩, .int .i64 0, .int .i64 0] 48)).alloc (by simp; omega) (.cells #[.int .i64 0, .string ⟨#[]⟩, .int .i64 0, .string ⟨#[]⟩, .int .i64 0, .int .i64 0] 48)
  have hR := Lib.hid ((Blk.new (w.alloc (.cells #[.int .i64 4, .int .i64 wy, .int .i64 nw, .int .i64 m0, .int .i64 m1, .string z, .string tn, .int .i64 tk, .bool tu, .int .i64 tf, .int .i64 ta, .int .i64 tb] 43)) 48 #[.int .i64 0, .string ⟨#[]⟩, .int .i64 0, .string ⟨#[]⟩, .int .i64 0, .int .i64 0]).below ((Below.refl _ _).alloc (Nat.le_refl _) (.cells #[.int .i64 0, .string ⟨#[]⟩, .int .i64 0, .string ⟨#[]⟩, .int .i64 0, .int .i64 0] 48)))
  have hA := Lib.hid (Blk.new ((w.alloc (.cells #[.int .i64 4, .int .i64 wy, .int .i64 nw, .int .i64 m0, .int .i64 m1, .string z, .string tn, .int .i64 tk, .bool tu, .int .i64 tf, .int .i64 ta, .int .i64 tb] 43)).alloc (.cells #[.int .i64 0, .string ⟨#[]⟩, .int .i64 0, .string ⟨#[]⟩, .int .i64 0, .int .i64 0] 48)) 48 #[.int .i64 0, .string ⟨#[]⟩, .int .i64 0, .string ⟨#[]⟩, .int .i64 0, .int .i64 0])
  have H := Lib.hid (h.below hB)
  have HB := Lib.hid hB
  have hlt := fun j (hj : F j) => Lib.hid (h.lt hj)
  clear h hB
  go_enter Tryz.func13, Tryz.ntmps13
  go_wp2_with fail
  refine (cAdd_any H.out ho hn16 ⟨tn, tk, tu, tf, ta, tb⟩ nw).mono ?_
  rintro e w1 ⟨rfl, hTD⟩
  obtain ⟨F', hC, hD, hS⟩ := hTD
  have qT := Lib.hid ((Stem.refl F w).trans HB.out.size hS)
  have qS := Lib.hid hC
  have qD := Lib.hid (show Did F w w1 from (Did.of_below HB.out).trans (Stem.refl _ _) hD)
  have qA := Lib.hid (hA.out.did hD (fun c => by have := (hlt _ c).out; simp at this; omega))
  have qR := Lib.hid (hR.out.did hD (fun c => by have := (hlt _ c).out; simp at this; omega))
  rw [World.size_alloc, World.size_alloc] at qA
  rw [World.size_alloc] at qR
  clear hA hR H HB hlt hC hD hS
  have a0 : w1.cell? ⟨w.heap.size + 2, 0, none⟩ = some (.int .i64 0) := (qA.out.cell 0).trans rfl
  have a1 : w1.cell? ⟨w.heap.size + 2, 1, none⟩ = some (.string ⟨#[]⟩) := (qA.out.cell 1).trans rfl
  have a2 : w1.cell? ⟨w.heap.size + 2, 2, none⟩ = some (.int .i64 0) := (qA.out.cell 2).trans rfl
  have a3 : w1.cell? ⟨w.heap.size + 2, 3, none⟩ = some (.string ⟨#[]⟩) := (qA.out.cell 3).trans rfl
  have a4 : w1.cell? ⟨w.heap.size + 2, 4, none⟩ = some (.int .i64 0) := (qA.out.cell 4).trans rfl
  have a5 : w1.cell? ⟨w.heap.size + 2, 5, none⟩ = some (.int .i64 0) := (qA.out.cell 5).trans rfl
  have r0 : w1.cell? ⟨w.heap.size + 1, 0, none⟩ = some (.int .i64 0) := (qR.out.cell 0).trans rfl
  have r1 : w1.cell? ⟨w.heap.size + 1, 1, none⟩ = some (.string ⟨#[]⟩) := (qR.out.cell 1).trans rfl
  have r2 : w1.cell? ⟨w.heap.size + 1, 2, none⟩ = some (.int .i64 0) := (qR.out.cell 2).trans rfl
  have r3 : w1.cell? ⟨w.heap.size + 1, 3, none⟩ = some (.string ⟨#[]⟩) := (qR.out.cell 3).trans rfl
  have r4 : w1.cell? ⟨w.heap.size + 1, 4, none⟩ = some (.int .i64 0) := (qR.out.cell 4).trans rfl
  have r5 : w1.cell? ⟨w.heap.size + 1, 5, none⟩ = some (.int .i64 0) := (qR.out.cell 5).trans rfl
  have fa0 := qA.out.free 0
  have fr0 := qR.out.free 0
  have fa1 := qA.out.free 1
  have fr1 := qR.out.free 1
  have fa2 := qA.out.free 2
  have fr2 := qR.out.free 2
  have fa3 := qA.out.free 3
  have fr3 := qR.out.free 3
  have fa4 := qA.out.free 4
  have fr4 := qR.out.free 4
  have fa5 := qA.out.free 5
  have fr5 := qR.out.free 5
  have la : w.heap.size + 2 < w1.heap.size := qA.out.lt
  have lr : w.heap.size + 1 < w1.heap.size := qR.out.lt
  go_wp2
  refine bodyPost_ret (v := (.agg #[.int .i64 0, .string ⟨#[]⟩, .int .i64 0, .string ⟨#[]⟩, .int .i64 0, .int .i64 (addNE x ⟨tn, tk, tu, tf, ta, tb⟩)])) (results_cell_row Tryz.results13 _ _ (w.heap.size + 1) 48 _ (0, 0) _ rfl (((((((qR.out.far (p := ⟨w.heap.size + 2, 5, none⟩) (by show w.heap.size + 1 ≠ w.heap.size + 2; omega) (.int .i64 (addNE x ⟨tn, tk, tu, tf, ta, tb⟩))).set_ 0 (.int .i64 0)).set_ 1 (.string ⟨#[]⟩)).set_ 2 (.int .i64 0)).set_ 3 (.string ⟨#[]⟩)).set_ 4 (.int .i64 0)).set_ 5 (.int .i64 (addNE x ⟨tn, tk, tu, tf, ta, tb⟩))) Tryz.underlying48 rfl (by kernel_rfl)) rfl ⟨rfl, F', ?_, ?_, qT.out⟩
  · have s0 := (qS.out.far qA.out (by decide) 5 (.int .i64 (addNE x ⟨tn, tk, tu, tf, ta, tb⟩)))
    have b0 := (qR.out.far (p := ⟨w.heap.size + 2, 5, none⟩) (by show w.heap.size + 1 ≠ w.heap.size + 2; omega) (.int .i64 (addNE x ⟨tn, tk, tu, tf, ta, tb⟩)))
    have s1 := s0.far b0 (by decide) 0 (.int .i64 0)
    have b1 := b0.set_ 0 (.int .i64 0)
    have s2 := s1.far b1 (by decide) 1 (.string ⟨#[]⟩)
    have b2 := b1.set_ 1 (.string ⟨#[]⟩)
    have s3 := s2.far b2 (by decide) 2 (.int .i64 0)
    have b3 := b2.set_ 2 (.int .i64 0)
    have s4 := s3.far b3 (by decide) 3 (.string ⟨#[]⟩)
    have b4 := b3.set_ 3 (.string ⟨#[]⟩)
    have s5 := s4.far b4 (by decide) 4 (.int .i64 0)
    have b5 := b4.set_ 4 (.int .i64 0)
    exact s5.far b5 (by decide) 5 (.int .i64 (addNE x ⟨tn, tk, tu, tf, ta, tb⟩))
  · exact (((((((qD.out.setCell (p := ⟨w.heap.size + 2, 5, none⟩) (.inr (by show w.heap.size ≤ w.heap.size + 2; omega)) (.int .i64 (addNE x ⟨tn, tk, tu, tf, ta, tb⟩))).setCell (p := ⟨w.heap.size + 1, 0, none⟩) (.inr (by show w.heap.size ≤ w.heap.size + 1; omega)) _).setCell (p := ⟨w.heap.size + 1, 1, none⟩) (.inr (by show w.heap.size ≤ w.heap.size + 1; omega)) _).setCell (p := ⟨w.heap.size + 1, 2, none⟩) (.inr (by show w.heap.size ≤ w.heap.size + 1; omega)) _).setCell (p := ⟨w.heap.size + 1, 3, none⟩) (.inr (by show w.heap.size ≤ w.heap.size + 1; omega)) _).setCell (p := ⟨w.heap.size + 1, 4, none⟩) (.inr (by show w.heap.size ≤ w.heap.size + 1; omega)) _).setCell (p := ⟨w.heap.size + 1, 5, none⟩) (.inr (by show w.heap.size ≤ w.heap.size + 1; omega)) _)
theorem does_5 (h : CN w F b x) (wy nw m0 m1 : Int) (z tn : ByteArray) (tk : Int) (tu : Bool) (tf ta tb : Int) {M Q : Int} (ho : OkN x M Q) (hM : M ≤ 1000000000) (hn16 : x.names.length ≤ 40) (hsub : SubN x) :
    Calls Tryz.prog 13 #[ptr b, .agg #[.int .i64 5, .int .i64 wy, .int .i64 nw, .int .i64 m0, .int .i64 m1, .string z, .string tn, .int .i64 tk, .bool tu, .int .i64 tf, .int .i64 ta, .int .i64 tb]] w (DoesQ F b w (dropN x z nw) (⟨0, ⟨#[]⟩, 0, ⟨#[]⟩, 0, dropNE x z⟩)) := by
  have hB := (((Below.refl w.heap.size w).alloc (Nat.le_refl _) (.cells #[.int .i64 5, .int .i64 wy, .int .i64 nw, .int .i64 m0, .int .i64 m1, .string z, .string tn, .int .i64 tk, .bool tu, .int .i64 tf, .int .i64 ta, .int .i64 tb] 43)).alloc (by simp) (.cells #[.int .i64 0, .string ⟨#[]⟩, .int .i64 0, .string ⟨#[]⟩, .int .i64 0, .int .i64 0] 48)).alloc (by simp; omega) (.cells #[.int .i64 0, .string ⟨#[]⟩, .int .i64 0, .string ⟨#[]⟩, .int .i64 0, .int .i64 0] 48)
  have hR := Lib.hid ((Blk.new (w.alloc (.cells #[.int .i64 5, .int .i64 wy, .int .i64 nw, .int .i64 m0, .int .i64 m1, .string z, .string tn, .int .i64 tk, .bool tu, .int .i64 tf, .int .i64 ta, .int .i64 tb] 43)) 48 #[.int .i64 0, .string ⟨#[]⟩, .int .i64 0, .string ⟨#[]⟩, .int .i64 0, .int .i64 0]).below ((Below.refl _ _).alloc (Nat.le_refl _) (.cells #[.int .i64 0, .string ⟨#[]⟩, .int .i64 0, .string ⟨#[]⟩, .int .i64 0, .int .i64 0] 48)))
  have hA := Lib.hid (Blk.new ((w.alloc (.cells #[.int .i64 5, .int .i64 wy, .int .i64 nw, .int .i64 m0, .int .i64 m1, .string z, .string tn, .int .i64 tk, .bool tu, .int .i64 tf, .int .i64 ta, .int .i64 tb] 43)).alloc (.cells #[.int .i64 0, .string ⟨#[]⟩, .int .i64 0, .string ⟨#[]⟩, .int .i64 0, .int .i64 0] 48)) 48 #[.int .i64 0, .string ⟨#[]⟩, .int .i64 0, .string ⟨#[]⟩, .int .i64 0, .int .i64 0])
  have H := Lib.hid (h.below hB)
  have HB := Lib.hid hB
  have hlt := fun j (hj : F j) => Lib.hid (h.lt hj)
  clear h hB
  go_enter Tryz.func13, Tryz.ntmps13
  go_wp2_with fail
  refine (cDrop_any H.out ho hM hn16 hsub z nw).mono ?_
  rintro e w1 ⟨rfl, hTD⟩
  obtain ⟨F', hC, hD, hS⟩ := hTD
  have qT := Lib.hid ((Stem.refl F w).trans HB.out.size hS)
  have qS := Lib.hid hC
  have qD := Lib.hid (show Did F w w1 from (Did.of_below HB.out).trans (Stem.refl _ _) hD)
  have qA := Lib.hid (hA.out.did hD (fun c => by have := (hlt _ c).out; simp at this; omega))
  have qR := Lib.hid (hR.out.did hD (fun c => by have := (hlt _ c).out; simp at this; omega))
  rw [World.size_alloc, World.size_alloc] at qA
  rw [World.size_alloc] at qR
  clear hA hR H HB hlt hC hD hS
  have a0 : w1.cell? ⟨w.heap.size + 2, 0, none⟩ = some (.int .i64 0) := (qA.out.cell 0).trans rfl
  have a1 : w1.cell? ⟨w.heap.size + 2, 1, none⟩ = some (.string ⟨#[]⟩) := (qA.out.cell 1).trans rfl
  have a2 : w1.cell? ⟨w.heap.size + 2, 2, none⟩ = some (.int .i64 0) := (qA.out.cell 2).trans rfl
  have a3 : w1.cell? ⟨w.heap.size + 2, 3, none⟩ = some (.string ⟨#[]⟩) := (qA.out.cell 3).trans rfl
  have a4 : w1.cell? ⟨w.heap.size + 2, 4, none⟩ = some (.int .i64 0) := (qA.out.cell 4).trans rfl
  have a5 : w1.cell? ⟨w.heap.size + 2, 5, none⟩ = some (.int .i64 0) := (qA.out.cell 5).trans rfl
  have r0 : w1.cell? ⟨w.heap.size + 1, 0, none⟩ = some (.int .i64 0) := (qR.out.cell 0).trans rfl
  have r1 : w1.cell? ⟨w.heap.size + 1, 1, none⟩ = some (.string ⟨#[]⟩) := (qR.out.cell 1).trans rfl
  have r2 : w1.cell? ⟨w.heap.size + 1, 2, none⟩ = some (.int .i64 0) := (qR.out.cell 2).trans rfl
  have r3 : w1.cell? ⟨w.heap.size + 1, 3, none⟩ = some (.string ⟨#[]⟩) := (qR.out.cell 3).trans rfl
  have r4 : w1.cell? ⟨w.heap.size + 1, 4, none⟩ = some (.int .i64 0) := (qR.out.cell 4).trans rfl
  have r5 : w1.cell? ⟨w.heap.size + 1, 5, none⟩ = some (.int .i64 0) := (qR.out.cell 5).trans rfl
  have fa0 := qA.out.free 0
  have fr0 := qR.out.free 0
  have fa1 := qA.out.free 1
  have fr1 := qR.out.free 1
  have fa2 := qA.out.free 2
  have fr2 := qR.out.free 2
  have fa3 := qA.out.free 3
  have fr3 := qR.out.free 3
  have fa4 := qA.out.free 4
  have fr4 := qR.out.free 4
  have fa5 := qA.out.free 5
  have fr5 := qR.out.free 5
  have la : w.heap.size + 2 < w1.heap.size := qA.out.lt
  have lr : w.heap.size + 1 < w1.heap.size := qR.out.lt
  go_wp2
  refine bodyPost_ret (v := (.agg #[.int .i64 0, .string ⟨#[]⟩, .int .i64 0, .string ⟨#[]⟩, .int .i64 0, .int .i64 (dropNE x z)])) (results_cell_row Tryz.results13 _ _ (w.heap.size + 1) 48 _ (0, 0) _ rfl (((((((qR.out.far (p := ⟨w.heap.size + 2, 5, none⟩) (by show w.heap.size + 1 ≠ w.heap.size + 2; omega) (.int .i64 (dropNE x z))).set_ 0 (.int .i64 0)).set_ 1 (.string ⟨#[]⟩)).set_ 2 (.int .i64 0)).set_ 3 (.string ⟨#[]⟩)).set_ 4 (.int .i64 0)).set_ 5 (.int .i64 (dropNE x z))) Tryz.underlying48 rfl (by kernel_rfl)) rfl ⟨rfl, F', ?_, ?_, qT.out⟩
  · have s0 := (qS.out.far qA.out (by decide) 5 (.int .i64 (dropNE x z)))
    have b0 := (qR.out.far (p := ⟨w.heap.size + 2, 5, none⟩) (by show w.heap.size + 1 ≠ w.heap.size + 2; omega) (.int .i64 (dropNE x z)))
    have s1 := s0.far b0 (by decide) 0 (.int .i64 0)
    have b1 := b0.set_ 0 (.int .i64 0)
    have s2 := s1.far b1 (by decide) 1 (.string ⟨#[]⟩)
    have b2 := b1.set_ 1 (.string ⟨#[]⟩)
    have s3 := s2.far b2 (by decide) 2 (.int .i64 0)
    have b3 := b2.set_ 2 (.int .i64 0)
    have s4 := s3.far b3 (by decide) 3 (.string ⟨#[]⟩)
    have b4 := b3.set_ 3 (.string ⟨#[]⟩)
    have s5 := s4.far b4 (by decide) 4 (.int .i64 0)
    have b5 := b4.set_ 4 (.int .i64 0)
    exact s5.far b5 (by decide) 5 (.int .i64 (dropNE x z))
  · exact (((((((qD.out.setCell (p := ⟨w.heap.size + 2, 5, none⟩) (.inr (by show w.heap.size ≤ w.heap.size + 2; omega)) (.int .i64 (dropNE x z))).setCell (p := ⟨w.heap.size + 1, 0, none⟩) (.inr (by show w.heap.size ≤ w.heap.size + 1; omega)) _).setCell (p := ⟨w.heap.size + 1, 1, none⟩) (.inr (by show w.heap.size ≤ w.heap.size + 1; omega)) _).setCell (p := ⟨w.heap.size + 1, 2, none⟩) (.inr (by show w.heap.size ≤ w.heap.size + 1; omega)) _).setCell (p := ⟨w.heap.size + 1, 3, none⟩) (.inr (by show w.heap.size ≤ w.heap.size + 1; omega)) _).setCell (p := ⟨w.heap.size + 1, 4, none⟩) (.inr (by show w.heap.size ≤ w.heap.size + 1; omega)) _).setCell (p := ⟨w.heap.size + 1, 5, none⟩) (.inr (by show w.heap.size ≤ w.heap.size + 1; omega)) _)
theorem does_6 (h : CN w F b x) (wy nw m0 m1 : Int) (z tn : ByteArray) (tk : Int) (tu : Bool) (tf ta tb : Int) {M Q : Int} (ho : OkN x M Q) (hM : M ≤ 1000000000) :
    Calls Tryz.prog 13 #[ptr b, .agg #[.int .i64 6, .int .i64 wy, .int .i64 nw, .int .i64 m0, .int .i64 m1, .string z, .string tn, .int .i64 tk, .bool tu, .int .i64 tf, .int .i64 ta, .int .i64 tb]] w (DoesQ F b w (chgN x ⟨tn, tk, tu, tf, ta, tb⟩ nw) (⟨0, ⟨#[]⟩, 0, ⟨#[]⟩, 0, chgE (lk x (wayT ⟨tn, tk, tu, tf, ta, tb⟩)) ⟨tn, tk, tu, tf, ta, tb⟩⟩)) := by
  have hB := (((Below.refl w.heap.size w).alloc (Nat.le_refl _) (.cells #[.int .i64 6, .int .i64 wy, .int .i64 nw, .int .i64 m0, .int .i64 m1, .string z, .string tn, .int .i64 tk, .bool tu, .int .i64 tf, .int .i64 ta, .int .i64 tb] 43)).alloc (by simp) (.cells #[.int .i64 0, .string ⟨#[]⟩, .int .i64 0, .string ⟨#[]⟩, .int .i64 0, .int .i64 0] 48)).alloc (by simp; omega) (.cells #[.int .i64 0, .string ⟨#[]⟩, .int .i64 0, .string ⟨#[]⟩, .int .i64 0, .int .i64 0] 48)
  have hR := Lib.hid ((Blk.new (w.alloc (.cells #[.int .i64 6, .int .i64 wy, .int .i64 nw, .int .i64 m0, .int .i64 m1, .string z, .string tn, .int .i64 tk, .bool tu, .int .i64 tf, .int .i64 ta, .int .i64 tb] 43)) 48 #[.int .i64 0, .string ⟨#[]⟩, .int .i64 0, .string ⟨#[]⟩, .int .i64 0, .int .i64 0]).below ((Below.refl _ _).alloc (Nat.le_refl _) (.cells #[.int .i64 0, .string ⟨#[]⟩, .int .i64 0, .string ⟨#[]⟩, .int .i64 0, .int .i64 0] 48)))
  have hA := Lib.hid (Blk.new ((w.alloc (.cells #[.int .i64 6, .int .i64 wy, .int .i64 nw, .int .i64 m0, .int .i64 m1, .string z, .string tn, .int .i64 tk, .bool tu, .int .i64 tf, .int .i64 ta, .int .i64 tb] 43)).alloc (.cells #[.int .i64 0, .string ⟨#[]⟩, .int .i64 0, .string ⟨#[]⟩, .int .i64 0, .int .i64 0] 48)) 48 #[.int .i64 0, .string ⟨#[]⟩, .int .i64 0, .string ⟨#[]⟩, .int .i64 0, .int .i64 0])
  have H := Lib.hid (h.below hB)
  have HB := Lib.hid hB
  have hlt := fun j (hj : F j) => Lib.hid (h.lt hj)
  clear h hB
  go_enter Tryz.func13, Tryz.ntmps13
  go_wp2_with fail
  refine (cChange_any H.out ho hM ⟨tn, tk, tu, tf, ta, tb⟩ nw).mono ?_
  rintro e w1 ⟨rfl, hTD⟩
  obtain ⟨F', hC, hD, hS⟩ := hTD
  have qT := Lib.hid ((Stem.refl F w).trans HB.out.size hS)
  have qS := Lib.hid hC
  have qD := Lib.hid (show Did F w w1 from (Did.of_below HB.out).trans (Stem.refl _ _) hD)
  have qA := Lib.hid (hA.out.did hD (fun c => by have := (hlt _ c).out; simp at this; omega))
  have qR := Lib.hid (hR.out.did hD (fun c => by have := (hlt _ c).out; simp at this; omega))
  rw [World.size_alloc, World.size_alloc] at qA
  rw [World.size_alloc] at qR
  clear hA hR H HB hlt hC hD hS
  have a0 : w1.cell? ⟨w.heap.size + 2, 0, none⟩ = some (.int .i64 0) := (qA.out.cell 0).trans rfl
  have a1 : w1.cell? ⟨w.heap.size + 2, 1, none⟩ = some (.string ⟨#[]⟩) := (qA.out.cell 1).trans rfl
  have a2 : w1.cell? ⟨w.heap.size + 2, 2, none⟩ = some (.int .i64 0) := (qA.out.cell 2).trans rfl
  have a3 : w1.cell? ⟨w.heap.size + 2, 3, none⟩ = some (.string ⟨#[]⟩) := (qA.out.cell 3).trans rfl
  have a4 : w1.cell? ⟨w.heap.size + 2, 4, none⟩ = some (.int .i64 0) := (qA.out.cell 4).trans rfl
  have a5 : w1.cell? ⟨w.heap.size + 2, 5, none⟩ = some (.int .i64 0) := (qA.out.cell 5).trans rfl
  have r0 : w1.cell? ⟨w.heap.size + 1, 0, none⟩ = some (.int .i64 0) := (qR.out.cell 0).trans rfl
  have r1 : w1.cell? ⟨w.heap.size + 1, 1, none⟩ = some (.string ⟨#[]⟩) := (qR.out.cell 1).trans rfl
  have r2 : w1.cell? ⟨w.heap.size + 1, 2, none⟩ = some (.int .i64 0) := (qR.out.cell 2).trans rfl
  have r3 : w1.cell? ⟨w.heap.size + 1, 3, none⟩ = some (.string ⟨#[]⟩) := (qR.out.cell 3).trans rfl
  have r4 : w1.cell? ⟨w.heap.size + 1, 4, none⟩ = some (.int .i64 0) := (qR.out.cell 4).trans rfl
  have r5 : w1.cell? ⟨w.heap.size + 1, 5, none⟩ = some (.int .i64 0) := (qR.out.cell 5).trans rfl
  have fa0 := qA.out.free 0
  have fr0 := qR.out.free 0
  have fa1 := qA.out.free 1
  have fr1 := qR.out.free 1
  have fa2 := qA.out.free 2
  have fr2 := qR.out.free 2
  have fa3 := qA.out.free 3
  have fr3 := qR.out.free 3
  have fa4 := qA.out.free 4
  have fr4 := qR.out.free 4
  have fa5 := qA.out.free 5
  have fr5 := qR.out.free 5
  have la : w.heap.size + 2 < w1.heap.size := qA.out.lt
  have lr : w.heap.size + 1 < w1.heap.size := qR.out.lt
  go_wp2
  refine bodyPost_ret (v := (.agg #[.int .i64 0, .string ⟨#[]⟩, .int .i64 0, .string ⟨#[]⟩, .int .i64 0, .int .i64 (chgE (lk x (wayT ⟨tn, tk, tu, tf, ta, tb⟩)) ⟨tn, tk, tu, tf, ta, tb⟩)])) (results_cell_row Tryz.results13 _ _ (w.heap.size + 1) 48 _ (0, 0) _ rfl (((((((qR.out.far (p := ⟨w.heap.size + 2, 5, none⟩) (by show w.heap.size + 1 ≠ w.heap.size + 2; omega) (.int .i64 (chgE (lk x (wayT ⟨tn, tk, tu, tf, ta, tb⟩)) ⟨tn, tk, tu, tf, ta, tb⟩))).set_ 0 (.int .i64 0)).set_ 1 (.string ⟨#[]⟩)).set_ 2 (.int .i64 0)).set_ 3 (.string ⟨#[]⟩)).set_ 4 (.int .i64 0)).set_ 5 (.int .i64 (chgE (lk x (wayT ⟨tn, tk, tu, tf, ta, tb⟩)) ⟨tn, tk, tu, tf, ta, tb⟩))) Tryz.underlying48 rfl (by kernel_rfl)) rfl ⟨rfl, F', ?_, ?_, qT.out⟩
  · have s0 := (qS.out.far qA.out (by decide) 5 (.int .i64 (chgE (lk x (wayT ⟨tn, tk, tu, tf, ta, tb⟩)) ⟨tn, tk, tu, tf, ta, tb⟩)))
    have b0 := (qR.out.far (p := ⟨w.heap.size + 2, 5, none⟩) (by show w.heap.size + 1 ≠ w.heap.size + 2; omega) (.int .i64 (chgE (lk x (wayT ⟨tn, tk, tu, tf, ta, tb⟩)) ⟨tn, tk, tu, tf, ta, tb⟩)))
    have s1 := s0.far b0 (by decide) 0 (.int .i64 0)
    have b1 := b0.set_ 0 (.int .i64 0)
    have s2 := s1.far b1 (by decide) 1 (.string ⟨#[]⟩)
    have b2 := b1.set_ 1 (.string ⟨#[]⟩)
    have s3 := s2.far b2 (by decide) 2 (.int .i64 0)
    have b3 := b2.set_ 2 (.int .i64 0)
    have s4 := s3.far b3 (by decide) 3 (.string ⟨#[]⟩)
    have b4 := b3.set_ 3 (.string ⟨#[]⟩)
    have s5 := s4.far b4 (by decide) 4 (.int .i64 0)
    have b5 := b4.set_ 4 (.int .i64 0)
    exact s5.far b5 (by decide) 5 (.int .i64 (chgE (lk x (wayT ⟨tn, tk, tu, tf, ta, tb⟩)) ⟨tn, tk, tu, tf, ta, tb⟩))
  · exact (((((((qD.out.setCell (p := ⟨w.heap.size + 2, 5, none⟩) (.inr (by show w.heap.size ≤ w.heap.size + 2; omega)) (.int .i64 (chgE (lk x (wayT ⟨tn, tk, tu, tf, ta, tb⟩)) ⟨tn, tk, tu, tf, ta, tb⟩))).setCell (p := ⟨w.heap.size + 1, 0, none⟩) (.inr (by show w.heap.size ≤ w.heap.size + 1; omega)) _).setCell (p := ⟨w.heap.size + 1, 1, none⟩) (.inr (by show w.heap.size ≤ w.heap.size + 1; omega)) _).setCell (p := ⟨w.heap.size + 1, 2, none⟩) (.inr (by show w.heap.size ≤ w.heap.size + 1; omega)) _).setCell (p := ⟨w.heap.size + 1, 3, none⟩) (.inr (by show w.heap.size ≤ w.heap.size + 1; omega)) _).setCell (p := ⟨w.heap.size + 1, 4, none⟩) (.inr (by show w.heap.size ≤ w.heap.size + 1; omega)) _).setCell (p := ⟨w.heap.size + 1, 5, none⟩) (.inr (by show w.heap.size ≤ w.heap.size + 1; omega)) _)
theorem does_else (h : CN w F b x) (kd : Int) (wy nw m0 m1 : Int) (z tn : ByteArray) (tk : Int) (tu : Bool) (tf ta tb : Int) (h0 : kd ≠ 0) (h1 : kd ≠ 1) (h2 : kd ≠ 2) (h3 : kd ≠ 3) (h4 : kd ≠ 4) (h5 : kd ≠ 5) (h6 : kd ≠ 6) :
    Calls Tryz.prog 13 #[ptr b, .agg #[.int .i64 kd, .int .i64 wy, .int .i64 nw, .int .i64 m0, .int .i64 m1, .string z, .string tn, .int .i64 tk, .bool tu, .int .i64 tf, .int .i64 ta, .int .i64 tb]] w (DoesQ F b w (x) (⟨0, ⟨#[]⟩, 0, ⟨#[]⟩, 0, 0⟩)) := by
  have d0 : (kd == 0) = false := by simpa using h0
  have d1 : (kd == 1) = false := by simpa using h1
  have d2 : (kd == 2) = false := by simpa using h2
  have d3 : (kd == 3) = false := by simpa using h3
  have d4 : (kd == 4) = false := by simpa using h4
  have d5 : (kd == 5) = false := by simpa using h5
  have d6 : (kd == 6) = false := by simpa using h6
  clear h0 h1 h2 h3 h4 h5 h6
  have hB := (((Below.refl w.heap.size w).alloc (Nat.le_refl _) (.cells #[.int .i64 kd, .int .i64 wy, .int .i64 nw, .int .i64 m0, .int .i64 m1, .string z, .string tn, .int .i64 tk, .bool tu, .int .i64 tf, .int .i64 ta, .int .i64 tb] 43)).alloc (by simp) (.cells #[.int .i64 0, .string ⟨#[]⟩, .int .i64 0, .string ⟨#[]⟩, .int .i64 0, .int .i64 0] 48)).alloc (by simp; omega) (.cells #[.int .i64 0, .string ⟨#[]⟩, .int .i64 0, .string ⟨#[]⟩, .int .i64 0, .int .i64 0] 48)
  have hR := Lib.hid ((Blk.new (w.alloc (.cells #[.int .i64 kd, .int .i64 wy, .int .i64 nw, .int .i64 m0, .int .i64 m1, .string z, .string tn, .int .i64 tk, .bool tu, .int .i64 tf, .int .i64 ta, .int .i64 tb] 43)) 48 #[.int .i64 0, .string ⟨#[]⟩, .int .i64 0, .string ⟨#[]⟩, .int .i64 0, .int .i64 0]).below ((Below.refl _ _).alloc (Nat.le_refl _) (.cells #[.int .i64 0, .string ⟨#[]⟩, .int .i64 0, .string ⟨#[]⟩, .int .i64 0, .int .i64 0] 48)))
  have hA := Lib.hid (Blk.new ((w.alloc (.cells #[.int .i64 kd, .int .i64 wy, .int .i64 nw, .int .i64 m0, .int .i64 m1, .string z, .string tn, .int .i64 tk, .bool tu, .int .i64 tf, .int .i64 ta, .int .i64 tb] 43)).alloc (.cells #[.int .i64 0, .string ⟨#[]⟩, .int .i64 0, .string ⟨#[]⟩, .int .i64 0, .int .i64 0] 48)) 48 #[.int .i64 0, .string ⟨#[]⟩, .int .i64 0, .string ⟨#[]⟩, .int .i64 0, .int .i64 0])
  have H := Lib.hid (h.below hB)
  have HB := Lib.hid hB
  have hlt := fun j (hj : F j) => Lib.hid (h.lt hj)
  clear h hB
  go_enter Tryz.func13, Tryz.ntmps13
  have hF1 := H.out
  have hT := Stem.refl F w
  have qS := Lib.hid hF1
  have qT := Lib.hid hT
  have qD := Lib.hid (Did.of_below (F := F) HB.out)
  have qA := Lib.hid hA.out
  have qR := Lib.hid hR.out
  rw [World.size_alloc, World.size_alloc] at qA
  rw [World.size_alloc] at qR
  clear hA hR H HB hlt hF1 hT
  go_wp2
  exact bodyPost_ret (v := .agg #[.int .i64 0, .string ⟨#[]⟩, .int .i64 0, .string ⟨#[]⟩, .int .i64 0, .int .i64 0]) (by simp [results, Tryz.results13, go_sem]) rfl ⟨rfl, F, qS.out, qD.out, qT.out⟩
end Go.Proofs.YtnkgjnmhiedfoaaGreat.Conn
namespace Go.Proofs.YtnkgjnmhiedfoaaGreat.Conn
open Go.RowKit Mem Tick Cargo Toxic Stage Chain
open Link
set_option linter.unusedVariables false
set_option linter.unusedSimpArgs false
variable {x y : Cn} {M Q : Int}
def noT : Tox := ⟨⟨#[]⟩, 0, false, 0, 0, 0⟩
abbrev lop (kind now n : Int) (s : ByteArray) (t : Tox) : Link.Op := ⟨kind, now, n, s, t⟩
def wayO (x : Cn) (o : Op) (way : Int) : List Link.Op :=
  if o.kind = 0 then (if isW o.way = true ∧ (o.way = 0 ↔ way = 0) then [lop 0 o.now 0 o.s noT] else [])
  else if o.kind = 1 then (if isW o.way = true ∧ (o.way = 0 ↔ way = 0) then [lop 1 o.now 0 ⟨#[]⟩ noT] else [])
  else if o.kind = 2 then [lop 2 o.now 0 ⟨#[]⟩ noT]
  else if o.kind = 3 then
    (if brkB x o.now o.m0 o.m1 = true ∧ (stepK (lk x way) o.now (if way = 0 then o.m0 else o.m1)).done = false
      then [lop 3 o.now (if way = 0 then o.m0 else o.m1) ⟨#[]⟩ noT, lop 2 o.now 0 ⟨#[]⟩ noT, lop 3 o.now 0 ⟨#[]⟩ noT]
      else [lop 3 o.now (if way = 0 then o.m0 else o.m1) ⟨#[]⟩ noT])
  else if o.kind = 4 then (if chk o.t ≠ 0 ∨ (idxN x.names o.t.name).isSome = true then [] else if wayT o.t = 0 ↔ way = 0 then [lop 4 o.now 0 ⟨#[]⟩ o.t] else [])
  else if o.kind = 5 then (match dropW x o.s with | some w => if w = 0 ↔ way = 0 then [lop 5 o.now 0 o.s noT] else [] | none => [])
  else if o.kind = 6 then (if wayT o.t = 0 ↔ way = 0 then [lop 6 o.now 0 ⟨#[]⟩ o.t] else [])
  else []
theorem lk_onW (x : Cn) (w : Int) (k : Lk) (way : Int) : lk (onW x w k) way = if w = 0 ↔ way = 0 then k else lk x way := by
  unfold lk onW
  by_cases h : w = 0
  · by_cases h2 : way = 0 <;> simp [h, h2]
  · by_cases h2 : way = 0 <;> simp [h, h2]
theorem lk_same {w way : Int} (x : Cn) (h : w = 0 ↔ way = 0) : lk x w = lk x way := by
  unfold lk
  by_cases h1 : w = 0
  · rw [if_pos h1, if_pos (h.1 h1)]
  · rw [if_neg h1, if_neg (fun e => h1 (h.2 e))]
theorem lk_names (x : Cn) (l : List ByteArray) (way : Int) : lk { x with names := l } way = lk x way := rfl
theorem endK_fold (bk : Bool) (k : Lk) (now m : Int) :
    endK bk (stepK k now m) now = (if bk = true ∧ (stepK k now m).done = false then [lop 3 now m ⟨#[]⟩ noT, lop 2 now 0 ⟨#[]⟩ noT, lop 3 now 0 ⟨#[]⟩ noT] else [lop 3 now m ⟨#[]⟩ noT]).foldl doesK k := by
  unfold endK
  split
  · rfl
  · rfl
theorem lk_does (x : Cn) (o : Op) (way : Int) : lk (doesN x o) way = (wayO x o way).foldl doesK (lk x way) := by
  unfold doesN wayO
  by_cases k0 : o.kind = 0
  · simp only [if_pos k0]
    unfold sendN
    by_cases hw : isW o.way = true
    · rw [if_pos hw, lk_onW]
      by_cases hs : o.way = 0 ↔ way = 0
      · rw [if_pos hs, if_pos ⟨hw, hs⟩, lk_same x hs]; rfl
      · rw [if_neg hs, if_neg (fun e => hs e.2)]; rfl
    · rw [if_neg hw, if_neg (fun e => hw e.1)]; rfl
  simp only [if_neg k0]
  by_cases k1 : o.kind = 1
  · simp only [if_pos k1]
    unfold finN
    by_cases hw : isW o.way = true
    · rw [if_pos hw, lk_onW]
      by_cases hs : o.way = 0 ↔ way = 0
      · rw [if_pos hs, if_pos ⟨hw, hs⟩, lk_same x hs]; rfl
      · rw [if_neg hs, if_neg (fun e => hs e.2)]; rfl
    · rw [if_neg hw, if_neg (fun e => hw e.1)]; rfl
  simp only [if_neg k1]
  by_cases k2 : o.kind = 2
  · simp only [if_pos k2]
    unfold cutN lk
    by_cases hs : way = 0
    · simp only [if_pos hs]; rfl
    · simp only [if_neg hs]; rfl
  simp only [if_neg k2]
  by_cases k3 : o.kind = 3
  · simp only [if_pos k3]
    unfold stepN
    by_cases hs : way = 0
    · simp only [if_pos hs]
      have e : lk x way = x.a := by unfold lk; rw [if_pos hs]
      rw [e, ← endK_fold]
      unfold lk; rw [if_pos hs]
    · simp only [if_neg hs]
      have e : lk x way = x.b := by unfold lk; rw [if_neg hs]
      rw [e, ← endK_fold]
      unfold lk; rw [if_neg hs]
  simp only [if_neg k3]
  by_cases k4 : o.kind = 4
  · simp only [if_pos k4]
    unfold addN
    by_cases hc : chk o.t ≠ 0 ∨ (idxN x.names o.t.name).isSome = true
    · rw [if_pos hc, if_pos hc]; rfl
    · rw [if_neg hc, if_neg hc, lk_names, lk_onW]
      by_cases hs : wayT o.t = 0 ↔ way = 0
      · rw [if_pos hs, if_pos hs, lk_same x hs]; rfl
      · rw [if_neg hs, if_neg hs]; rfl
  simp only [if_neg k4]
  by_cases k5 : o.kind = 5
  · simp only [if_pos k5]
    unfold dropN
    cases hd : dropW x o.s with
    | none => rfl
    | some w =>
      dsimp only
      rw [lk_names, lk_onW]
      by_cases hs : w = 0 ↔ way = 0
      · rw [if_pos hs, if_pos hs, lk_same x hs]; rfl
      · rw [if_neg hs, if_neg hs]; rfl
  simp only [if_neg k5]
  by_cases k6 : o.kind = 6
  · simp only [if_pos k6]
    unfold chgN
    rw [lk_onW]
    by_cases hs : wayT o.t = 0 ↔ way = 0
    · rw [if_pos hs, if_pos hs, lk_same x hs]; rfl
    · rw [if_neg hs, if_neg hs]; rfl
  simp only [if_neg k6]
  rfl
def Shp (os : List Link.Op) (n : Nat) : Prop := os = [] ∨ (∃ p, os = [p] ∧ p.s.size ≤ n) ∨ (∃ p q r, os = [p, q, r] ∧ p.s.size ≤ n ∧ q.s.size = 0 ∧ r.s.size = 0)
theorem wayO_shp (x : Cn) (o : Op) (way : Int) : Shp (wayO x o way) o.s.size := by
  unfold wayO
  repeat' split
  all_goals first
    | exact .inl rfl
    | exact .inr (.inl ⟨_, rfl, Nat.zero_le _⟩)
    | exact .inr (.inl ⟨_, rfl, Nat.le_refl _⟩)
    | exact .inr (.inr ⟨_, _, _, rfl, Nat.zero_le _, rfl, rfl⟩)
theorem ok_fold {k : Lk} {os : List Link.Op} {n : Nat} (h : OkK k M Q) (hs : Shp os n) (hQ : 0 ≤ Q) (hd : k.drawn + 3 ≤ 1000000000) :
    OkK (os.foldl doesK k) (M + n) (Q + 90 * (M + n)) ∧ (os.foldl doesK k).drawn ≤ k.drawn + 3 := by
  have hM : 0 ≤ M := by have := h.c.held; omega
  rcases hs with rfl | ⟨p, rfl, hp⟩ | ⟨p, q, r, rfl, hp, hq, hr⟩
  · exact ⟨h.more (by omega) (by omega), by show k.drawn ≤ _; omega⟩
  · exact ⟨(h.does hQ (by omega) p).more (by omega) (by omega), by have := (drawn_does k p).1; show (doesK k p).drawn ≤ _; omega⟩
  · have d1 := (drawn_does k p).1
    have d2 := (drawn_does (doesK k p) q).1
    have d3 := (drawn_does (doesK (doesK k p) q) r).1
    have h1 := h.does hQ (by omega) p
    have h2 := h1.does (by omega) (by omega) q
    have h3 := h2.does (by omega) (by omega) r
    exact ⟨h3.more (by omega) (by omega), by show (doesK (doesK (doesK k p) q) r).drawn ≤ _; omega⟩
structure OkT (x : Cn) (l : List Op) (k : Nat) : Prop where
  ok : OkN x (bytesOf (l.take k)) (200000 * k)
  nm : Nm x
  up : Ups x
  dr : Dr x (8 + 3 * k)
theorem OkT.next {l : List Op} {k : Nat} {p : Op} (h : OkT x l k) (hx : l[k]? = some p) (hb : bytesOf l ≤ 2000) (hl : l.length ≤ 60) : OkT (doesN x p) l (k + 1) := by
  have h1 := bytes_s l k p hx
  have h2 := bytesOf_le l (k + 1)
  have hk : k < l.length := (List.getElem?_eq_some_iff.1 hx).1
  obtain ⟨hd0, hd1⟩ := h.dr
  have fa := ok_fold h.ok.a (wayO_shp x p 0) (by omega) (by omega)
  have fb := ok_fold h.ok.b (wayO_shp x p 1) (by omega) (by omega)
  have ea : (wayO x p 0).foldl doesK x.a = (doesN x p).a := (lk_does x p 0).symm
  have eb : (wayO x p 1).foldl doesK x.b = (doesN x p).b := (lk_does x p 1).symm
  rw [ea] at fa
  rw [eb] at fb
  refine ⟨⟨fa.1.more (by omega) (by omega), fb.1.more (by omega) (by omega)⟩, (h.nm.does h.up p).1, (h.nm.does h.up p).2, ?_, ?_⟩
  · have := fa.2; omega
  · have := fb.2; omega
theorem Nm.len16 {x : Cn} (h : Nm x) (ho : OkN x M Q) : x.names.length ≤ 16 := by
  have h1 := h.len
  have ha := ho.a.n
  have hb := ho.b.n
  have ta := ho.a.c.ten
  have tb := ho.b.c.ten
  omega
/-! bytes -/
theorem takeB_no (s : Sg) (n : Int) : takeB s n 0 = ⟨#[]⟩ := by unfold takeB; rw [if_pos (.inr (by omega))]
theorem stepB_no (k : Lk) (now : Int) : stepB k now 0 = ⟨#[]⟩ := by
  unfold stepB takeCB
  split
  · rfl
  split
  · exact takeB_no _ _
  · rfl
def inN (x : Cn) (o : Op) (way : Int) : ByteArray := if o.kind = 0 ∧ isW o.way = true ∧ (o.way = 0 ↔ way = 0) then o.s.extract 0 (putCN (lk x way).c o.now o.s) else ⟨#[]⟩
def outN (x : Cn) (o : Op) (way : Int) : ByteArray := if o.kind = 3 then stepB (lk x way) o.now (if way = 0 then o.m0 else o.m1) else ⟨#[]⟩
def inF : Lk → List Link.Op → ByteArray
  | _, [] => ⟨#[]⟩
  | k, p :: r => inK k p ++ inF (doesK k p) r
def outF : Lk → List Link.Op → ByteArray
  | _, [] => ⟨#[]⟩
  | k, p :: r => outK k p ++ outF (doesK k p) r
theorem kk_foldF : ∀ (os : List Link.Op) {k : Lk} {i o : ByteArray}, KK k i o → KK (os.foldl doesK k) (i ++ inF k os) (o ++ outF k os)
  | [], k, i, o, h => by simpa [inF, outF, app_nil] using h
  | p :: r, k, i, o, h => by
    have := kk_foldF r (h.does p)
    unfold inF outF
    rw [← ByteArray.append_assoc, ← ByteArray.append_assoc]
    exact this
theorem inF_way (x : Cn) (o : Op) (way : Int) : inF (lk x way) (wayO x o way) = inN x o way ∧ outF (lk x way) (wayO x o way) = outN x o way := by
  have e0 : ∀ (k : Lk) (p : Link.Op), inF k [p] = inK k p := fun k p => app_nil _
  have f0 : ∀ (k : Lk) (p : Link.Op), outF k [p] = outK k p := fun k p => app_nil _
  unfold wayO inN outN
  by_cases k0 : o.kind = 0
  · simp only [if_pos k0]
    by_cases hw : isW o.way = true ∧ (o.way = 0 ↔ way = 0)
    · rw [if_pos hw, if_pos ⟨k0, hw⟩, e0, f0, if_neg (by omega)]
      exact ⟨rfl, rfl⟩
    · rw [if_neg hw, if_neg (fun e => hw e.2), if_neg (by omega)]
      exact ⟨rfl, rfl⟩
  simp only [if_neg k0]
  have hz : (if o.kind = 0 ∧ isW o.way = true ∧ (o.way = 0 ↔ way = 0) then o.s.extract 0 (putCN (lk x way).c o.now o.s) else (⟨#[]⟩ : ByteArray)) = ⟨#[]⟩ := if_neg fun e => k0 e.1
  rw [hz]
  by_cases k3 : o.kind = 3
  · have k1 : o.kind ≠ 1 := by omega
    have k2 : o.kind ≠ 2 := by omega
    simp only [if_neg k1, if_neg k2, if_pos k3]
    generalize (if way = 0 then o.m0 else o.m1) = m
    split
    · refine ⟨rfl, ?_⟩
      show stepB _ _ _ ++ ((⟨#[]⟩ : ByteArray) ++ (stepB _ o.now 0 ++ (⟨#[]⟩ : ByteArray))) = _
      rw [stepB_no]
      exact app_nil _
    · rw [e0, f0]; exact ⟨rfl, rfl⟩
  simp only [if_neg k3]
  repeat' split
  all_goals first
    | exact ⟨rfl, rfl⟩
    | (rw [e0, f0]; exact ⟨rfl, rfl⟩)
theorem outN_ans (x : Cn) (o : Op) : outN x o 0 = (doesA x o).s0 ∧ outN x o 1 = (doesA x o).s1 := by
  unfold outN doesA
  by_cases k3 : o.kind = 3
  · have k0 : o.kind ≠ 0 := by omega
    simp only [if_neg k0, if_pos k3]
    exact ⟨rfl, rfl⟩
  · simp only [if_neg k3]
    repeat' split
    all_goals exact ⟨rfl, rfl⟩
structure KKN (x : Cn) (i0 i1 o0 o1 : ByteArray) : Prop where
  a : KK x.a i0 o0
  b : KK x.b i1 o1
theorem KKN.does {i0 i1 o0 o1 : ByteArray} (h : KKN x i0 i1 o0 o1) (p : Op) : KKN (doesN x p) (i0 ++ inN x p 0) (i1 ++ inN x p 1) (o0 ++ (doesA x p).s0) (o1 ++ (doesA x p).s1) := by
  have ha := kk_foldF (wayO x p 0) h.a
  have hb := kk_foldF (wayO x p 1) h.b
  have ea : (wayO x p 0).foldl doesK x.a = (doesN x p).a := (lk_does x p 0).symm
  have eb : (wayO x p 1).foldl doesK x.b = (doesN x p).b := (lk_does x p 1).symm
  have ia := inF_way x p 0
  have ib := inF_way x p 1
  rw [show lk x 0 = x.a from rfl] at ia
  rw [show lk x 1 = x.b from rfl] at ib
  rw [ea, ia.1, ia.2, (outN_ans x p).1] at ha
  rw [eb, ib.1, ib.2, (outN_ans x p).2] at hb
  exact ⟨ha, hb⟩
end Go.Proofs.YtnkgjnmhiedfoaaGreat.Conn
namespace Go.Proofs.YtnkgjnmhiedfoaaGreat.Conn
open Go.RowKit Mem Tick Cargo Toxic Stage Chain
open Link
set_option maxRecDepth 100000
set_option linter.unusedVariables false
set_option linter.unusedSimpArgs false
variable {w wr w2 w1 : World} {F : Nat → Prop} {b : Nat} {x y : Cn} {M Q : Int}
theorem Nm.subN {x : Cn} (h : Nm x) : SubN x := fun way m hm => h.sub way m hm
theorem does_any (h : CN w F b x) (ho : OkN x M Q) (hnm : Nm x) (o : Op) (hM : M + o.s.size ≤ 1000000) (hQ : Q + 200 * M ≤ 100000000) (hQ0 : 0 ≤ Q) {g : Int} (hg : Go x g) (hgM : g ≤ 1000000) {d : Int} (hd : Dr x d) (hn : d + 1 ≤ 1000000000) (hs : x.a.sent ≤ 1000000 ∧ x.b.sent ≤ 1000000) :
    Calls Tryz.prog 13 #[ptr b, .agg #[.int .i64 o.kind, .int .i64 o.way, .int .i64 o.now, .int .i64 o.m0, .int .i64 o.m1, .string o.s, .string o.t.name, .int .i64 o.t.kind, .bool o.t.up, .int .i64 o.t.often, .int .i64 o.t.a, .int .i64 o.t.b]] w (DoesQ F b w (doesN x o) (doesA x o)) := by
  have hM0 : 0 ≤ M := by have := ho.a.c.held; omega
  have h16 := hnm.len16 ho
  have hlk : (lk x o.way).sent ≤ 1000000 := by unfold lk; split; exact hs.1; exact hs.2
  obtain ⟨kd, wy, nw, m0, m1, z, ⟨tn, tk, tu, tf, ta, tb⟩⟩ := o
  unfold doesN doesA
  dsimp only at hM hlk ⊢
  have hM1 : M + z.size ≤ 1000000000 := by omega
  have hM2 : M ≤ 1000000000 := by omega
  have hM3 : M ≤ 1000000 := by omega
  by_cases h0 : kd = 0
  · subst h0; simp only [if_pos]; exact does_0 h wy nw m0 m1 z tn tk tu tf ta tb ho hM1 (by omega)
  by_cases h1 : kd = 1
  · subst h1; exact does_1 h wy nw m0 m1 z tn tk tu tf ta tb ho
  by_cases h2 : kd = 2
  · subst h2; exact does_2 h wy nw m0 m1 z tn tk tu tf ta tb ho hM2 hQ0 hd hn
  by_cases h3 : kd = 3
  · subst h3; exact does_3 h wy nw m0 m1 z tn tk tu tf ta tb ho hM3 hQ hg (by omega) hQ0 hd hn
  by_cases h4 : kd = 4
  · subst h4; exact does_4 h wy nw m0 m1 z tn tk tu tf ta tb ho (by omega)
  by_cases h5 : kd = 5
  · subst h5; exact does_5 h wy nw m0 m1 z tn tk tu tf ta tb ho hM2 (by omega) hnm.subN
  by_cases h6 : kd = 6
  · subst h6; exact does_6 h wy nw m0 m1 z tn tk tu tf ta tb ho hM2
  simp only [if_neg h0, if_neg h1, if_neg h2, if_neg h3, if_neg h4, if_neg h5, if_neg h6]
  exact does_else h kd wy nw m0 m1 z tn tk tu tf ta tb h0 h1 h2 h3 h4 h5 h6
theorem live_over (h : LiveN w wr b x) : Calls Tryz.prog 14 #[ptr b] wr fun e w2 => e = .returned (.bool (overB x)) ∧ LiveN w w2 b x ∧ Below wr.heap.size wr w2 := by
  have h' := h
  obtain ⟨F, hC, _⟩ := h
  exact (cOver_any hC).mono fun e w2 ⟨he, hb⟩ => ⟨he, h'.below hb, hb⟩
theorem live_counts (h : LiveN w wr b x) (ho : OkN x M Q) (hM : M ≤ 1000000000) (way : Int) : Calls Tryz.prog 15 #[ptr b, .int .i64 way] wr fun e w2 => e = .returned (countsN x way) ∧ LiveN w w2 b x ∧ Below wr.heap.size wr w2 := by
  have h' := h
  obtain ⟨F, hC, _⟩ := h
  exact (cCounts_any hC ho hM way).mono fun e w2 ⟨he, hb⟩ => ⟨he, h'.below hb, hb⟩
theorem live_names (h : LiveN w wr b x) (hn : x.names.length ≤ 1000) : Calls Tryz.prog 10 #[ptr b] wr fun e w2 => ∃ A c, e = .returned (.slice A x.names.length c) ∧ NV w2 (.slice A x.names.length c) x.names ∧ LiveN w w2 b x ∧ Below wr.heap.size wr w2 := by
  have h' := h
  obtain ⟨F, hC, _⟩ := h
  refine (cnames_any hC hn).mono ?_
  rintro e w2 ⟨v, rfl, hN, hf, hb⟩
  obtain ⟨A, c, rfl, _⟩ := hN.sr
  exact ⟨A, c, rfl, hN, h'.below hb, hb⟩
/-! how it begins -/
theorem ways_perm : ∀ (L : List Tox), (ky (L.map fun t => t.name)).Perm (ky ((ofWay L true).map fun t => t.name) ++ ky ((ofWay L false).map fun t => t.name))
  | [] => .nil
  | t :: r => by
    have ih := ways_perm r
    have e : ky ((t :: r).map fun t => t.name) = t.name.toList :: ky (r.map fun t => t.name) := rfl
    rw [e]
    cases hu : t.up with
    | true =>
      have e1 : ofWay (t :: r) true = t :: ofWay r true := by unfold ofWay; rw [List.filter_cons, hu]; rfl
      have e2 : ofWay (t :: r) false = ofWay r false := by unfold ofWay; rw [List.filter_cons, hu]; rfl
      rw [e1, e2]
      exact ih.cons _
    | false =>
      have e1 : ofWay (t :: r) true = ofWay r true := by unfold ofWay; rw [List.filter_cons, hu]; rfl
      have e2 : ofWay (t :: r) false = t :: ofWay r false := by unfold ofWay; rw [List.filter_cons, hu]; rfl
      rw [e1, e2]
      exact (ih.cons _).trans List.perm_middle.symm
theorem hasB_mem {l : List Tox} {n : ByteArray} : n.toList ∈ ky (l.map fun t => t.name) → hasB l n = true := by
  intro h
  unfold ky at h
  rw [List.map_map, List.mem_map] at h
  obtain ⟨t, ht, e⟩ := h
  unfold hasB
  rw [List.any_eq_true]
  exact ⟨t, ht, by simpa using e⟩
theorem names_nodup {L : List Tox} (h : dblB L = false) : ∀ k, k ≤ L.length → (ky ((L.take k).map fun t => t.name)).Nodup
  | 0, _ => .nil
  | k + 1, hk => by
    have hx : L[k]? = some L[k] := List.getElem?_eq_getElem (by omega)
    have hn := dbl_none h hx
    rw [List.take_add_one, hx, List.map_append, ky_append, List.nodup_append]
    refine ⟨names_nodup h k (by omega), by simp [ky], fun a ha b hb => ?_⟩
    have hb' : b = L[k].name.toList := by simpa [ky] using hb
    rintro rfl
    rw [hb'] at ha
    rw [hasB_mem ha] at hn
    cases hn
variable {L : List Tox} {sa sb room now : Int}
theorem nm_conn0 (h : linkE L room = 0) : Nm (conn0 L sa sb room now) ∧ Ups (conn0 L sa sb room now) := by
  have ha := newI_linkN L true sa room now h
  have hb := newI_linkN L false sb room now h
  refine ⟨⟨?_, ?_⟩, ⟨ha.up_, hb.up_⟩⟩
  · have := names_nodup (linkE_0 h).2.2.2 L.length (Nat.le_refl _)
    rwa [List.take_length] at this
  · show (ky (L.map fun t => t.name)).Perm (ky (linkN L true sa room now).names ++ ky (linkN L false sb room now).names)
    rw [ha.names, hb.names]
    exact ways_perm L
theorem okT_conn0 (h : linkE L room = 0) (a0 : 0 ≤ sa) (a1 : sa < 18446744073709551616) (b0 : 0 ≤ sb) (b1 : sb < 18446744073709551616) (l : List Op) : OkT (conn0 L sa sb room now) l 0 := by
  have hl := linkE_0 h
  have ha := ok_linkN L true sa room now hl.1 a0 a1 hl.2.1
  have hb := ok_linkN L false sb room now hl.1 b0 b1 hl.2.1
  exact ⟨⟨ha.1.more (by simp [bytesOf]) (by omega), hb.1.more (by simp [bytesOf]) (by omega)⟩, (nm_conn0 h).1, (nm_conn0 h).2, by have := ha.2; show (linkN L true sa room now).drawn ≤ _; omega, by have := hb.2; show (linkN L false sb room now).drawn ≤ _; omega⟩
theorem kkn_conn0 (L : List Tox) (sa sb room now : Int) : KKN (conn0 L sa sb room now) ⟨#[]⟩ ⟨#[]⟩ ⟨#[]⟩ ⟨#[]⟩ := ⟨kk_linkN L true sa room now, kk_linkN L false sb room now⟩
def Seats (w : World) (v : Value) (L : List Tox) (seed room now : Int) : Prop :=
  ∃ sa sc, v = .agg #[.slice sa L.length sc, .int .u64 seed, .int .i64 room, .int .i64 now] ∧ Toxs w (.slice sa L.length sc) L ∧ 0 ≤ seed ∧ seed < 18446744073709551616
/-! alive -/
def tR : Tox := ⟨⟨#[97]⟩, 5, true, 100, 3, 0⟩
def N0 : Cn := conn0 [tR] (seedW 7 0) (seedW 7 1) 9 0
def N1 : Cn := sendN N0 1 0 sAB
def N2 : Cn := stepN N1 3 9 9
theorem al0 : linkE [tR] 9 = 0 := by kernel_rfl
theorem al1 : sendA N0 1 0 sAB = 2 := by kernel_rfl
theorem al2 : outA N1 3 9 9 = (⟨#[]⟩, 2) ∧ outB N1 3 9 9 = (⟨#[97, 98]⟩, 2) := by constructor <;> kernel_rfl
theorem al3 : overB N2 = true ∧ N2.names.length = 1 ∧ N2.b.sent = 2 ∧ N2.b.got = 2 ∧ heldL N2.b.c.l = 0 ∧ N2.b.c.lost = 0 := by refine ⟨?_, ?_, ?_, ?_, ?_, ?_⟩ <;> kernel_rfl
theorem ok0 : OkN N0 0 0 := (okT_conn0 al0 (seedW_bd 7 0).1 (seedW_bd 7 0).2 (seedW_bd 7 1).1 (seedW_bd 7 1).2 []).ok
theorem ok1 : OkN N1 2 180 := by
  have fa := ok_fold ok0.a (wayO_shp N0 ⟨0, 1, 0, 0, 0, sAB, noT⟩ 0) (by decide) (by have : N0.a.drawn = 1 := by kernel_rfl
                                                                                     omega)
  have fb := ok_fold ok0.b (wayO_shp N0 ⟨0, 1, 0, 0, 0, sAB, noT⟩ 1) (by decide) (by have : N0.b.drawn = 0 := by kernel_rfl
                                                                                     omega)
  exact ⟨fa.1.more (by decide) (by decide), fb.1.more (by decide) (by decide)⟩
theorem ok2 : OkN N2 2 1000 := by
  have fa := ok_fold ok1.a (wayO_shp N1 ⟨3, 1, 3, 9, 9, ⟨#[]⟩, noT⟩ 0) (by decide) (by have : N1.a.drawn = 1 := by kernel_rfl
                                                                                       omega)
  have fb := ok_fold ok1.b (wayO_shp N1 ⟨3, 1, 3, 9, 9, ⟨#[]⟩, noT⟩ 1) (by decide) (by have : N1.b.drawn = 0 := by kernel_rfl
                                                                                       omega)
  have ea : (wayO N1 ⟨3, 1, 3, 9, 9, ⟨#[]⟩, noT⟩ 0).foldl doesK N1.a = N2.a := (lk_does N1 _ 0).symm
  have eb : (wayO N1 ⟨3, 1, 3, 9, 9, ⟨#[]⟩, noT⟩ 1).foldl doesK N1.b = N2.b := (lk_does N1 _ 1).symm
  rw [ea] at fa
  rw [eb] at fb
  exact ⟨fa.1.more (by decide) (by decide), fb.1.more (by decide) (by decide)⟩
theorem al4 : countsN N2 1 = .agg #[.int .i64 2, .int .i64 2, .int .i64 0, .int .i64 0] := by
  have e : countsN N2 1 = countsV N2.b := rfl
  rw [e]
  unfold countsV
  rw [al3.2.2.1, al3.2.2.2.1, al3.2.2.2.2.1, al3.2.2.2.2.2]
  rfl
theorem go1 : Go N1 0 ∧ Dr N1 1 ∧ N0.b.sent = 0 := by
  refine ⟨⟨?_, ?_⟩, ⟨?_, ?_⟩, ?_⟩
  · exact Int.le_of_eq (by kernel_rfl)
  · exact Int.le_of_eq (by kernel_rfl)
  · exact Int.le_of_eq (by kernel_rfl)
  · have : N1.b.drawn = 0 := by kernel_rfl
    omega
  · kernel_rfl
theorem toxs_one (w : World) : Toxs (w.alloc (.cells #[.string ⟨#[97]⟩, .int .i64 5, .bool true, .int .i64 100, .int .i64 3, .int .i64 0] 27)) (.slice (some ⟨w.heap.size, 0, none⟩) 1 1) [tR] := by
  refine ⟨_, 1, rfl, by decide, Nat.le_refl _, fun _ => ⟨_, 0, rfl, fun j t ht => ?_⟩⟩
  have h := Blk.new w 27 #[.string ⟨#[97]⟩, .int .i64 5, .bool true, .int .i64 100, .int .i64 3, .int .i64 0]
  cases j with
  | zero =>
    injection ht with ht
    subst ht
    exact ⟨(h.cell 0).trans rfl, (h.cell 1).trans rfl, (h.cell 2).trans rfl, (h.cell 3).trans rfl, (h.cell 4).trans rfl, (h.cell 5).trans rfl⟩
  | succ j => simp at ht
set_option maxHeartbeats 1000000 in
theorem alive_any (w : World) : Calls Tryz.prog 9 #[] w fun e w' => e = .returned (.bool true) ∧ Below w.heap.size w w' := by
  have hB0 := Lib.hid ((Below.refl w.heap.size w).alloc (Nat.le_refl _) (.cells #[.string ⟨#[97]⟩, .int .i64 5, .bool true, .int .i64 100, .int .i64 3, .int .i64 0] 27))
  have hn := Lib.hid (cNew_ok (some ⟨w.heap.size, 0, none⟩) 1 [tR] 7 9 0 _ (toxs_one w) (by decide) (by decide) al0)
  go_enter Tryz.func9, Tryz.ntmps9
  go_wp2_with fail
  refine hn.out.mono ?_
  rintro e w0 ⟨b, rfl, F0, hL, hF, hB⟩
  have HL := Lib.hid (show CN w0 F0 b N0 from hL)
  have HF := Lib.hid (And.intro (fun j hj => Nat.le_trans hB0.out.size (hF j hj)) (bw_below hB0.out hB))
  clear hn hL hF hB
  have k1 := Lib.run_convert_bytes_const (P := Tryz.prog) w0 62 5 #[.int .u8 97, .int .u8 98] 2 2 Tryz.underlying62 Tryz.underlying5
  go_wp2_with fail
  refine (cSend_any (HL.out.below ((Below.refl w0.heap.size w0).alloc (Nat.le_refl _) _)) ok0 1 0 _ 2 sAB (by decide) (sAB_of w0) (fun g o e hg => by injection e with e; injection e with e; have := HL.out.lt hg; omega) (by decide) (by show N0.b.sent + _ ≤ _; rw [go1.2.2]; decide)).mono ?_
  rintro e w1 ⟨rfl, F1, hL1, hD1, hS1⟩
  rw [al1]
  have HL1 := Lib.hid (show CN w1 F1 b N1 from hL1)
  have hD1' := Lib.hid (show Did F0 w0 w1 from ((Did.refl F0 w0).alloc _).trans (Stem.refl _ _) hD1)
  have hS1' := Lib.hid (show Stem F0 F1 w0 from fun j hj => (hS1 j hj).imp id (fun e => by have := (Below.heap_alloc w0); simp at e; omega))
  clear k1 hL1 hD1 hS1 HL
  go_wp2_with fail
  refine (cStep_any HL1.out ok1 (by decide) (by decide) go1.1 (by decide) (by decide) go1.2.1 (by decide) 3 9 9).mono ?_
  rintro e w2 ⟨rfl, F2, hL2, hD2, hS2⟩
  rw [al2.1, al2.2]
  have HL2 := Lib.hid (show LiveN w w2 b N2 from ⟨F2, hL2, fun j hj => (hS1'.out.trans hD1'.out.size hS2 j hj).elim (HF.out.1 j) (fun e => Nat.le_trans HF.out.2.size e), HF.out.2.trans ((hD1'.out.trans hS1'.out hD2).below HF.out.2.size HF.out.1)⟩)
  clear hL2 hD2 hS2 HL1 hD1' hS1' HF
  have heq : ∀ (W : World), (binOp .eql 64 (.agg #[.string ⟨#[]⟩, .int .i64 2, .string ⟨#[97, 98]⟩, .int .i64 2]) (.agg #[.string ⟨#[]⟩, .int .i64 2, .string ⟨#[97, 98]⟩, .int .i64 2])).run Tryz.prog W = .ok (.bool true) W := fun W => by kernel_rfl
  have hgd : Tryz.prog.eqGuardType Tryz.prog.depth 64 = false := by kernel_rfl
  have hfd : ∀ (W : World), (Instr.field 52 (.agg #[.int .i64 2, .int .i64 2, .int .i64 0, .int .i64 0]) 1).run Tryz.prog W = .ok (.int .i64 2) W := fun W => by kernel_rfl
  have l1 := al3.1
  have l2 := al3.2.1
  have l4 := al4
  have HL3 := Lib.hid (HL2.out.below ((Below.refl w2.heap.size w2).alloc (Nat.le_refl _) (.cells #[.string ⟨#[]⟩, .int .i64 2, .string ⟨#[97, 98]⟩, .int .i64 2] 64)))
  clear HL2
  go_wp2_with (first
    | (go_at_call 14; (with_reducible refine (live_over HL3.out).mono ?_); rintro e w5 ⟨rfl, hL, hb5⟩; rw [l1]; have H5 := Lib.hid hL; clear hL hb5)
    | (go_at_call 10; (with_reducible refine (live_names H5.out (by rw [l2]; decide)).mono ?_); rintro e w6 ⟨A, c, rfl, -, hL, -⟩; rw [l2]; have H6 := Lib.hid hL; clear hL)
    | (go_at_call 15; (with_reducible refine (live_counts H6.out ok2 (by decide) 1).mono ?_); rintro e w7 ⟨rfl, hL, -⟩; rw [l4]; have H7 := Lib.hid hL; clear hL))
  go_ret
  exact ⟨by simp, H7.out.old⟩
end Go.Proofs.YtnkgjnmhiedfoaaGreat.Conn
namespace Go.Proofs.YtnkgjnmhiedfoaaGreat.Conn
open Go.RowKit Mem Tick Cargo Toxic Stage Chain
open Link
set_option linter.unusedVariables false
set_option linter.unusedSimpArgs false
def Nb (a : Pa) : Prop := a.s.t.kind ≠ 5 ∧ a.s.state ≠ 2
theorem nb_look {a : Pa} (h : Nb a) (n : Int) : (lookP a.s n).state ≠ 2 := by
  rcases look_cases a.s n with e | ⟨_, e | ⟨_, e⟩ | ⟨e, _⟩⟩
  · rw [e]; exact h.2
  · rw [e]; decide
  · exact absurd e h.1
  · rw [e]; decide
theorem nb_of {a a' : Pa} (h : Nb a) (n : Int) (ht : a'.s.t.kind = a.s.t.kind) (hs : a'.s.state = a.s.state ∨ a'.s.state = (lookP a.s n).state) : Nb a' := by
  refine ⟨by rw [ht]; exact h.1, ?_⟩
  rcases hs with e | e
  · rw [e]; exact h.2
  · rw [e]; exact nb_look h n
theorem loc_nb : Chain.Loc Nb where
  look := fun a n h => nb_of h n rfl (.inr rfl)
  put := fun a n b h => nb_of h n (congrArg Tox.kind (put_st _ _ _).1) (.inr (put_st _ _ _).2.2.1)
  force := fun a n b h => nb_of h n (congrArg Tox.kind (force_st _ _ _).1) (.inr (force_st _ _ _).2.2.1)
  take := fun a n m h => nb_of h n (congrArg Tox.kind (take_st _ _ _).1) (.inr (take_st _ _ _).2.2.1)
  fin := fun a n h => nb_of h n (congrArg Tox.kind (close_st _ _).1) (.inl (close_st _ _).2.2.1)
  drain := fun a h => ⟨h.1, h.2⟩
  upd := fun a t n h => nb_of h n (upd_st _ _ _).1 (upd_st _ _ _).2.2.1
structure NoB (x : Ch) : Prop where
  l : AllL Nb x.l
  st : x.state ≠ 2
theorem shutAt_state (now : Int) (j : Nat) (x : Ch) : (shutAt now j x).state = x.state := by
  unfold shutAt
  split
  · split <;> rfl
  · rfl
theorem shuts_state (now : Int) : ∀ (m : Nat) (x : Ch), (shuts now m x).state = x.state
  | 0, x => rfl
  | m + 1, x => (shutAt_state now m _).trans (shuts_state now m x)
theorem NoB.step {x : Ch} (h : NoB x) (now : Int) : NoB (stepC now x) := by
  refine ⟨AllL.step loc_nb h.l now, ?_⟩
  unfold stepC
  split
  · exact h.st
  have hb : brokenB (x.l.map (lookA now)) = false := by
    unfold brokenB
    rw [List.any_map, List.any_eq_false]
    intro a ha
    have := nb_look (h.l a ha) now
    show ¬ ((lookP a.s now).state == 2) = true
    simpa using this
  rw [hb, if_neg (by decide)]
  have hl := AllL.shuts loc_nb (x := { x with l := Chain.moves now (x.l.length - 1) (x.l.map (lookA now)) }) ((h.l.map fun a => loc_nb.look a now).moves loc_nb now _) now (x.l.length - 1)
  have hs := shuts_state now (x.l.length - 1) { x with l := Chain.moves now (x.l.length - 1) (x.l.map (lookA now)) }
  unfold lastC
  split
  · rename_i a ha
    exact nb_look (hl.at_ ha) now
  · rw [hs]; exact h.st
theorem NoB.put {x : Ch} (h : NoB x) (now : Int) (b : ByteArray) : NoB (putC x now b) :=
  ⟨loc_does (x := x) loc_nb ⟨0, now, 0, b, noT, 0⟩ (fun e => by cases e) h.l, by rw [Link.put_state]; exact h.st⟩
theorem NoB.close {x : Ch} (h : NoB x) (now : Int) : NoB (closeC x now) :=
  ⟨loc_does (x := x) loc_nb ⟨1, now, 0, ⟨#[]⟩, noT, 0⟩ (fun e => by cases e) h.l, by rw [Link.close_state]; exact h.st⟩
theorem NoB.take {x : Ch} (h : NoB x) (now m : Int) : NoB (takeC x now m) :=
  ⟨loc_does (x := x) loc_nb ⟨4, now, m, ⟨#[]⟩, noT, 0⟩ (fun e => by cases e) h.l, by rw [Link.take_state]; exact h.st⟩
theorem nb_new (t : Tox) (seed room now : Int) (h : t.kind ≠ 5) : Nb ⟨newS t seed room now, false⟩ := by
  have e : (newS t seed room now).t = t ∧ (newS t seed room now).closed = false ∧ (newS t seed room now).state = 0 := by unfold newS; split <;> exact ⟨rfl, rfl, rfl⟩
  exact ⟨by show (newS t seed room now).t.kind ≠ 5; rw [e.1]; exact h, by show (newS t seed room now).state ≠ 2; rw [e.2.2]; decide⟩
theorem NoB.ins {x : Ch} (h : NoB x) (at_ : Int) (t : Tox) (seed now : Int) (ht : t.kind ≠ 5) : NoB (insC x at_ t seed now) :=
  ⟨loc_does (x := x) loc_nb ⟨5, now, at_, ⟨#[]⟩, t, seed⟩ (fun _ _ => nb_new t seed x.room now ht) h.l, by rw [ins_state]; exact h.st⟩
theorem nob_link (now : Int) : ∀ (l : List Tox) (k : Lk), (∀ t ∈ l, t.kind ≠ 5) → NoB k.c → NoB (l.foldl (fun x t => addK x t now) k).c
  | [], _, _, h => h
  | t :: l, k, ht, h => nob_link now l _ (fun u hu => ht u (List.mem_cons_of_mem _ hu)) (by
      show NoB (addK k t now).c
      unfold addK
      split
      · refine h.ins _ _ _ _ ?_
        unfold drawK
        split
        · exact ht t (List.mem_cons_self ..)
        · exact (by decide : (0 : Int) ≠ 5)
      · exact h)
theorem nob_new (room now : Int) : NoB (newC room now) := by
  have hall : ∀ a ∈ (newC room now).l, a = ⟨newS noTox 0 room now, false⟩ := by
    intro a ha
    rcases List.mem_cons.1 ha with h | h
    · exact h
    · exact List.mem_singleton.1 h
  refine ⟨fun a ha => ?_, by show (0 : Int) ≠ 2; decide⟩
  rw [hall a ha]
  exact nb_new noTox 0 room now (by decide)
theorem nob_linkN (L : List Tox) (up : Bool) (seed room now : Int) (h : ∀ t ∈ L, t.kind ≠ 5) : NoB (linkN L up seed room now).c := nob_link now L _ h (nob_new room now)
theorem nob_stepK {k : Lk} (h : NoB k.c) (now win : Int) : NoB (stepK k now win).c := ((h.step now).take now win).step now
theorem nob_stepE {k : Lk} (h : NoB k.c) (now win : Int) : stepE k now win ≠ 2 := by
  unfold stepE
  split
  · exact (nob_stepK h now win).st
  · decide
structure ApI (x z : Cn) : Prop where
  xa : NoB x.a.c
  xb : NoB x.b.c
  za : NoB z.a.c
  zb : NoB z.b.c
  eq : x.a = z.a
theorem no_brk {x : Cn} (ha : NoB x.a.c) (hb : NoB x.b.c) (now m0 m1 : Int) : brkB x now m0 m1 = false := by
  unfold brkB
  rw [Bool.or_eq_false_iff]
  exact ⟨by simpa using nob_stepE ha now m0, by simpa using nob_stepE hb now m1⟩
theorem stepN_no {x : Cn} (ha : NoB x.a.c) (hb : NoB x.b.c) (now m0 m1 : Int) : stepN x now m0 m1 = { x with a := stepK x.a now m0, b := stepK x.b now m1 } := by
  unfold stepN endK
  rw [no_brk ha hb, if_neg (fun e => by cases e.1), if_neg (fun e => by cases e.1)]
theorem send_on (x : Cn) (now : Int) (s : ByteArray) (way : Int) : sendN x way now s = if way = 0 then { x with a := sendK x.a now s } else if way = 1 then { x with b := sendK x.b now s } else x := by
  unfold sendN onW lk
  by_cases h0 : way = 0
  · subst h0; rfl
  · by_cases h1 : way = 1
    · subst h1; rfl
    · have : isW way = false := by unfold isW; simp [h0, h1]
      rw [this, if_neg (by simp), if_neg h0, if_neg h1]
theorem fin_on (x : Cn) (now : Int) (way : Int) : finN x way now = if way = 0 then { x with a := finishK x.a now } else if way = 1 then { x with b := finishK x.b now } else x := by
  unfold finN onW lk
  by_cases h0 : way = 0
  · subst h0; rfl
  · by_cases h1 : way = 1
    · subst h1; rfl
    · have : isW way = false := by unfold isW; simp [h0, h1]
      rw [this, if_neg (by simp), if_neg h0, if_neg h1]
theorem ap_skip {x z : Cn} (h : ApI x z) {p : Op} (hk : p.kind = 0 ∨ p.kind = 1) (hw : p.way ≠ 0) : ApI (doesN x p) z := by
  rcases hk with e | e
  · have : doesN x p = if p.way = 0 then { x with a := sendK x.a p.now p.s } else if p.way = 1 then { x with b := sendK x.b p.now p.s } else x := by unfold doesN; rw [if_pos e, send_on]
    rw [this, if_neg hw]
    split
    · exact ⟨h.xa, h.xb.put _ _, h.za, h.zb, h.eq⟩
    · exact h
  · have : doesN x p = if p.way = 0 then { x with a := finishK x.a p.now } else if p.way = 1 then { x with b := finishK x.b p.now } else x := by unfold doesN; rw [if_neg (by omega), if_pos e, fin_on]
    rw [this, if_neg hw]
    split
    · exact ⟨h.xa, h.xb.close _, h.za, h.zb, h.eq⟩
    · exact h
theorem ap_both {x z : Cn} (h : ApI x z) {p : Op} (hk : ((p.kind = 0 ∨ p.kind = 1) ∧ p.way = 0) ∨ p.kind = 3) : ApI (doesN x p) (doesN z p) ∧ (doesA x p).n = (doesA z p).n ∧ (doesA x p).s0 = (doesA z p).s0 ∧ (doesA x p).e0 = (doesA z p).e0 := by
  rcases hk with ⟨e | e, hw⟩ | e
  · have f : ∀ y : Cn, doesN y p = { y with a := sendK y.a p.now p.s } := fun y => by unfold doesN; rw [if_pos e, send_on, if_pos hw]
    have g : ∀ y : Cn, doesA y p = ⟨(putCN y.a.c p.now p.s : Int), ⟨#[]⟩, 0, ⟨#[]⟩, 0, 0⟩ := fun y => by unfold doesA sendA; rw [if_pos e, hw]; rfl
    rw [f, f, g, g]
    exact ⟨⟨h.xa.put _ _, h.xb, h.za.put _ _, h.zb, by show sendK x.a _ _ = sendK z.a _ _; rw [h.eq]⟩, by rw [h.eq], rfl, rfl⟩
  · have f : ∀ y : Cn, doesN y p = { y with a := finishK y.a p.now } := fun y => by unfold doesN; rw [if_neg (by omega), if_pos e, fin_on, if_pos hw]
    have g : ∀ y : Cn, doesA y p = ⟨0, ⟨#[]⟩, 0, ⟨#[]⟩, 0, 0⟩ := fun y => by unfold doesA; rw [if_neg (by omega), if_neg (by omega), if_neg (by omega), if_neg (by omega), if_neg (by omega)]
    rw [f, f, g, g]
    exact ⟨⟨h.xa.close _, h.xb, h.za.close _, h.zb, by show finishK x.a _ = finishK z.a _; rw [h.eq]⟩, rfl, rfl, rfl⟩
  · have f : ∀ y : Cn, NoB y.a.c → NoB y.b.c → doesN y p = { y with a := stepK y.a p.now p.m0, b := stepK y.b p.now p.m1 } := fun y ha hb => by unfold doesN; rw [if_neg (by omega), if_neg (by omega), if_neg (by omega), if_pos e, stepN_no ha hb]
    have g : ∀ y : Cn, doesA y p = ⟨0, (outA y p.now p.m0 p.m1).1, (outA y p.now p.m0 p.m1).2, (outB y p.now p.m0 p.m1).1, (outB y p.now p.m0 p.m1).2, 0⟩ := fun y => by unfold doesA; rw [if_neg (by omega), if_pos e]
    rw [f x h.xa h.xb, f z h.za h.zb, g, g]
    refine ⟨⟨nob_stepK h.xa _ _, nob_stepK h.xb _ _, nob_stepK h.za _ _, nob_stepK h.zb _ _, by show stepK x.a _ _ = stepK z.a _ _; rw [h.eq]⟩, rfl, ?_, ?_⟩
    · show stepB x.a _ _ = stepB z.a _ _
      rw [h.eq]
    · show endE (brkB x _ _ _) _ _ (stepE x.a _ _) = endE (brkB z _ _ _) _ _ (stepE z.a _ _)
      rw [no_brk h.xa h.xb, no_brk h.za h.zb]
      unfold endE
      rw [if_neg (fun e => by cases e.1), if_neg (fun e => by cases e.1), h.eq]
theorem ap_start (L : List Tox) (sa sb room now : Int) (h : ∀ t ∈ L, t.kind ≠ 5) : ApI (conn0 L sa sb room now) (conn0 L sa sb room now) :=
  ⟨nob_linkN L true sa room now h, nob_linkN L false sb room now h, nob_linkN L true sa room now h, nob_linkN L false sb room now h, rfl⟩
end Go.Proofs.YtnkgjnmhiedfoaaGreat.Conn
namespace Go.Proofs.YtnkgjnmhiedfoaaGreat.Conn
open Go.RowKit Mem Tick Cargo Toxic Stage Chain
open Link
open Go.Proofs.YtnkgjnmhiedfoaaGreatW.PrintLast Pu
open Go.Proofs.YtnkgjnmhiedfoaaGreatW.PrintWords (eqA_of eqf_cons eqf_last)
set_option maxRecDepth 100000
set_option linter.unusedVariables false
set_option linter.unusedSimpArgs false
/-! two connections of the call's own -/
structure TwoG (w0 wr : World) (ca cb : Nat) (x z : Cn) (Fa Fb : Nat → Prop) : Prop where
  A : CN wr Fa ca x
  B : CN wr Fb cb z
  d : ∀ j, Fa j → ¬ Fb j
  ga : ∀ j, Fa j → w0.heap.size ≤ j
  gb : ∀ j, Fb j → w0.heap.size ≤ j
  old : Below w0.heap.size w0 wr
def TwoN (w0 wr : World) (ca cb : Nat) (x z : Cn) : Prop := ∃ Fa Fb, TwoG w0 wr ca cb x z Fa Fb
variable {w0 wr w2 : World} {ca cb : Nat} {x z y : Cn} {M Q : Int}
theorem TwoN.old (h : TwoN w0 wr ca cb x z) : Below w0.heap.size w0 wr := by obtain ⟨_, _, h⟩ := h; exact h.old
theorem TwoN.swap (h : TwoN w0 wr ca cb x z) : TwoN w0 wr cb ca z x := by
  obtain ⟨Fa, Fb, h⟩ := h
  exact ⟨Fb, Fa, h.B, h.A, fun j h1 h2 => h.d j h2 h1, h.gb, h.ga, h.old⟩
theorem TwoN.below (h : TwoN w0 wr ca cb x z) (hb : Below wr.heap.size wr w2) : TwoN w0 w2 ca cb x z := by
  obtain ⟨Fa, Fb, h⟩ := h
  exact ⟨Fa, Fb, h.A.below hb, h.B.below hb, h.d, h.ga, h.gb, h.old.trans (hb.mono h.old.size)⟩
theorem TwoN.live (h : TwoN w0 wr ca cb x z) : LiveN w0 wr ca x := by
  obtain ⟨Fa, Fb, h⟩ := h
  exact ⟨Fa, h.A, h.ga, h.old⟩
theorem TwoN.turn {Fa Fb : Nat → Prop} (h : TwoG w0 wr ca cb x z Fa Fb) (hT : CTu wr Fa w2 ca y) : TwoN w0 w2 ca cb y z ∧ KeepN wr w2 := by
  obtain ⟨F', hC, hd, hs⟩ := hT
  have hB := h.old.trans (hd.below h.old.size h.ga)
  refine ⟨⟨F', Fb, hC, h.B.kept fun j hj => hd.block j (h.B.lt hj) (fun q => h.d j q hj), fun j h1 h2 => ?_, fun j hj => ?_, h.gb, hB⟩, fun g t cs hb ht => hb.did hd (h.A.off hb ht)⟩
  · rcases hs j h1 with q | q
    · exact h.d j q h2
    · have := h.B.lt h2; omega
  · exact (hs j hj).elim (h.ga j) (fun q => Nat.le_trans h.old.size q)
theorem two_of (hA : LiveN w0 wr ca x) (hB : LiveN wr w2 cb z) : TwoN w0 w2 ca cb x z := by
  obtain ⟨Fa, hCa, hFa, hOa⟩ := hA
  obtain ⟨Fb, hCb, hFb, hOb⟩ := hB
  exact ⟨Fa, Fb, hCa.below hOb, hCb, fun j h1 h2 => by have := hCa.lt h1; have := hFb j h2; omega, hFa, fun j hj => Nat.le_trans hOa.size (hFb j hj), hOa.trans (hOb.mono hOa.size)⟩
def Kb (x : Cn) (l : List Op) (k : Nat) : Prop := ∃ i0 i1 o0 o1, KKN x i0 i1 o0 o1 ∧ i0.size ≤ bytesOf (l.take k) ∧ i1.size ≤ bytesOf (l.take k)
theorem inN_lt (x : Cn) (p : Op) (way : Int) : (inN x p way).size ≤ p.s.size := by
  unfold inN
  split
  · rw [putN_size]; exact putCN_le _ _ _
  · exact Nat.zero_le _
theorem Kb.next {l : List Op} {k : Nat} {p : Op} (h : Kb x l k) (hx : l[k]? = some p) : Kb (doesN x p) l (k + 1) := by
  obtain ⟨i0, i1, o0, o1, hkk, hz0, hz1⟩ := h
  have h1 := bytes_s l k p hx
  exact ⟨_, _, _, _, hkk.does p, by have := inN_lt x p 0; rw [ByteArray.size_append]; omega, by have := inN_lt x p 1; rw [ByteArray.size_append]; omega⟩
theorem Kb.skip {l : List Op} {k : Nat} {p : Op} (h : Kb x l k) (hx : l[k]? = some p) : Kb x l (k + 1) := by
  obtain ⟨i0, i1, o0, o1, hkk, hz0, hz1⟩ := h
  have h1 := bytes_s l k p hx
  exact ⟨_, _, _, _, hkk, by omega, by omega⟩
theorem OkT.skip {l : List Op} {k : Nat} {p : Op} (h : OkT x l k) (hx : l[k]? = some p) : OkT x l (k + 1) := by
  have h1 := bytes_s l k p hx
  exact ⟨⟨h.ok.a.more (by omega) (by omega), h.ok.b.more (by omega) (by omega)⟩, h.nm, h.up, by have := h.dr.1; show x.a.drawn ≤ _; omega, by have := h.dr.2; show x.b.drawn ≤ _; omega⟩
theorem two_does (h : TwoN w0 wr ca cb x z) {l : List Op} {k : Nat} (ho : OkT x l k) (hb : bytesOf l ≤ 2000) (hl : l.length ≤ 60) (hkk : Kb x l k) (o : Op) (hx : l[k]? = some o) :
    Calls Tryz.prog 13 #[ptr ca, .agg #[.int .i64 o.kind, .int .i64 o.way, .int .i64 o.now, .int .i64 o.m0, .int .i64 o.m1, .string o.s, .string o.t.name, .int .i64 o.t.kind, .bool o.t.up, .int .i64 o.t.often, .int .i64 o.t.a, .int .i64 o.t.b]] wr fun e w2 => e = .returned (An.v (doesA x o)) ∧ TwoN w0 w2 ca cb (doesN x o) z ∧ KeepN wr w2 := by
  obtain ⟨Fa, Fb, h⟩ := h
  obtain ⟨i0, i1, o0, o1, hkk, hi0, hi1⟩ := hkk
  have hk : k < l.length := (List.getElem?_eq_some_iff.1 hx).1
  have h1 := bytes_s l k o hx
  have h2 := bytesOf_le l (k + 1)
  have h3 := bytesOf_le l k
  have ga := keep_pre hkk.a.km.1
  have gb := keep_pre hkk.b.km.1
  have ea := hkk.a.got
  have eb := hkk.b.got
  have sa := hkk.a.sent
  have sb := hkk.b.sent
  exact (does_any h.A ho.ok ho.nm o (by omega) (by omega) (by omega) (g := 2000) ⟨by have := ga.1; omega, by have := gb.1; omega⟩ (by omega) ho.dr (by omega) ⟨by omega, by omega⟩).mono fun e w2 ⟨he, hT⟩ => ⟨he, TwoN.turn h hT⟩
structure AInv (w0 wr : World) (ca cb : Nat) (x z : Cn) (l : List Op) (k : Nat) : Prop where
  T : TwoN w0 wr ca cb x z
  oa : OkT x l k
  ob : OkT z l k
  ka : Kb x l k
  kb : Kb z l k
  ap : ApI x z
theorem AInv.skip {l : List Op} {k : Nat} {p : Op} (h : AInv w0 wr ca cb x z l k) (hx : l[k]? = some p) (hT : TwoN w0 w2 ca cb x z) : AInv w0 w2 ca cb x z l (k + 1) := ⟨hT, h.oa.skip hx, h.ob.skip hx, h.ka.skip hx, h.kb.skip hx, h.ap⟩
theorem AInv.one {l : List Op} {k : Nat} {p : Op} (h : AInv w0 wr ca cb x z l k) (hx : l[k]? = some p) (hb : bytesOf l ≤ 2000) (hl : l.length ≤ 60) (hk : p.kind = 0 ∨ p.kind = 1) (hw : p.way ≠ 0) (hT : TwoN w0 w2 ca cb (doesN x p) z) : AInv w0 w2 ca cb (doesN x p) z l (k + 1) := ⟨hT, h.oa.next hx hb hl, h.ob.skip hx, h.ka.next hx, h.kb.skip hx, ap_skip h.ap hk hw⟩
theorem AInv.both {l : List Op} {k : Nat} {p : Op} (h : AInv w0 wr ca cb x z l k) (hx : l[k]? = some p) (hb : bytesOf l ≤ 2000) (hl : l.length ≤ 60) (hk : ((p.kind = 0 ∨ p.kind = 1) ∧ p.way = 0) ∨ p.kind = 3) (hT : TwoN w0 w2 ca cb (doesN x p) (doesN z p)) : AInv w0 w2 ca cb (doesN x p) (doesN z p) l (k + 1) := ⟨hT, h.oa.next hx hb hl, h.ob.next hx hb hl, h.ka.next hx, h.kb.next hx, (ap_both h.ap hk).1⟩
theorem eql_counts (W : World) (a b c d : Int) : (binOp .eql 52 (.agg #[.int .i64 a, .int .i64 b, .int .i64 c, .int .i64 d]) (.agg #[.int .i64 a, .int .i64 b, .int .i64 c, .int .i64 d])).run Tryz.prog W = .ok (.bool true) W := by
  rw [run_eql_struct]
  have : (Op.equalIn (9998 + 2) 52 (.agg #[.int .i64 a, .int .i64 b, .int .i64 c, .int .i64 d]) (.agg #[.int .i64 a, .int .i64 b, .int .i64 c, .int .i64 d])).run Tryz.prog W = .ok ((a == a) && ((b == b) && ((c == c) && (d == d)))) W := by
    refine eqA_of Tryz.underlying52 (by kernel_rfl) ?_
    refine eqf_cons (by rfl) (by go_simp; rfl) (by go_simp; rfl) (by go_simp) ?_
    refine eqf_cons (by rfl) (by go_simp; rfl) (by go_simp; rfl) (by go_simp) ?_
    refine eqf_cons (by rfl) (by go_simp; rfl) (by go_simp; rfl) (by go_simp) ?_
    exact eqf_last (by rfl) (by go_simp; rfl) (by go_simp; rfl) (by go_simp)
  rw [this]
  simp [Result.andThen]
theorem neq_out2 (W : World) (a : ByteArray) (b : Int) : (binOp .neq 45 (.agg #[.string a, .int .i64 b]) (.agg #[.string a, .int .i64 b])).run Tryz.prog W = .ok (.bool false) W := by
  rw [run_neq_struct]
  have : (Op.equalIn (9998 + 2) 45 (.agg #[.string a, .int .i64 b]) (.agg #[.string a, .int .i64 b])).run Tryz.prog W = .ok ((a.toList == a.toList) && (b == b)) W := by
    refine eqA_of Tryz.underlying45 (by kernel_rfl) ?_
    refine eqf_cons (by rfl) (by go_simp; rfl) (by go_simp; rfl) (by go_simp) ?_
    exact eqf_last (by rfl) (by go_simp; rfl) (by go_simp; rfl) (by go_simp)
  rw [this]
  simp [Result.andThen]
theorem ConnApart_none (sa : Option Addr) (sc : Nat) (L : List Tox) (seed room now : Int) (v : Value) (l : List Op) (w : World) (hs : Toxs w (.slice sa L.length sc) L) (h0 : 0 ≤ seed) (h1 : seed < 18446744073709551616) (hv : Script w v l) (hr : linkE L room ≠ 0) :
    Calls Tryz.prog 6 #[.agg #[.slice sa L.length sc, .int .u64 seed, .int .i64 room, .int .i64 now], v] w fun e w' => e = .returned (.bool true) ∧ Below w.heap.size w w' := by
  obtain ⟨w0, e0, B0, X0⟩ : ∃ w0, Hid (w.alloc (.cells #[.slice sa L.length sc, .int .u64 seed, .int .i64 room, .int .i64 now] 25) = w0) ∧ Hid (Below w.heap.size w w0) ∧ Hid (Blk w0 w.heap.size 25 #[.slice sa L.length sc, .int .u64 seed, .int .i64 room, .int .i64 now]) := ⟨_, Lib.hid rfl, Lib.hid ((Below.refl _ _).alloc (Nat.le_refl _) _), Lib.hid (Blk.new w _ _)⟩
  have hn := Lib.hid (cNew_bad sa sc L seed room now w0 (hs.below B0.out) h0 h1 hr)
  have hn2 := Lib.hid (fun (wy : World) (hb : Below w0.heap.size w0 wy) => cNew_bad sa sc L seed room now wy ((hs.below B0.out).below hb) h0 h1 hr)
  have te : (linkE L room != 0) = true := by simpa using hr
  clear hs hr
  go_enter Tryz.func6, Tryz.ntmps6
  go_wp2_with fail
  rw [e0.out]
  refine hn.out.mono ?_
  rintro e w1 ⟨rfl, hB⟩
  have hB1 := Lib.hid hB
  have x0 := (X0.out.below hB).cell 0
  have x1 := (X0.out.below hB).cell 1
  have x2 := (X0.out.below hB).cell 2
  have x3 := (X0.out.below hB).cell 3
  clear hn hB
  go_wp2_with fail
  refine (hn2.out _ hB1.out).mono ?_
  rintro e w2 ⟨rfl, hB⟩
  have hB2 := Lib.hid (bw_below hB1.out hB)
  clear hn2 hB x0 x1 x2 x3
  go_wp2_with (go_at_call 9; (with_reducible refine (alive_any _).mono ?_); rintro e w9 ⟨rfl, hB9⟩; have hB9' := Lib.hid hB9; clear hB9)
  go_ret
  exact ⟨rfl, bw_below B0.out (bw_below hB2.out hB9'.out)⟩
theorem ConnApart_long (sa : Option Addr) (sc : Nat) (L : List Tox) (seed room now : Int) (v : Value) (l : List Op) (w : World) (hs : Toxs w (.slice sa L.length sc) L) (h0 : 0 ≤ seed) (h1 : seed < 18446744073709551616) (hv : Script w v l) (hr : linkE L room = 0) (hf : fewK L.length l = false) :
    Calls Tryz.prog 6 #[.agg #[.slice sa L.length sc, .int .u64 seed, .int .i64 room, .int .i64 now], v] w fun e w' => e = .returned (.bool true) ∧ Below w.heap.size w w' := by
  obtain ⟨w0, e0, B0, X0⟩ : ∃ w0, Hid (w.alloc (.cells #[.slice sa L.length sc, .int .u64 seed, .int .i64 room, .int .i64 now] 25) = w0) ∧ Hid (Below w.heap.size w w0) ∧ Hid (Blk w0 w.heap.size 25 #[.slice sa L.length sc, .int .u64 seed, .int .i64 room, .int .i64 now]) := ⟨_, Lib.hid rfl, Lib.hid ((Below.refl _ _).alloc (Nat.le_refl _) _), Lib.hid (Blk.new w _ _)⟩
  have hl8 : L.length ≤ 8 := (linkE_0 hr).2.1
  have hn := Lib.hid (cNew_ok sa sc L seed room now w0 (hs.below B0.out) h0 h1 hr)
  have hn2 := Lib.hid (fun (wy : World) (hb : Below w0.heap.size w0 wy) => cNew_ok sa sc L seed room now wy ((hs.below B0.out).below hb) h0 h1 hr)
  have hmx : L.length ≤ 9223372036854775807 := by omega
  have hv' := Lib.hid (hv.below B0.out)
  have hf' := Lib.hid hf
  clear hr hs hl8 hv hf
  go_enter Tryz.func6, Tryz.ntmps6
  go_wp2_with fail
  rw [e0.out]
  refine hn.out.mono ?_
  rintro e w1 ⟨ca, rfl, hL⟩
  have H1 := Lib.hid hL
  have x0 := (X0.out.below hL.old).cell 0
  have x1 := (X0.out.below hL.old).cell 1
  have x2 := (X0.out.below hL.old).cell 2
  have x3 := (X0.out.below hL.old).cell 3
  clear hn hL
  go_wp2_with fail
  refine (hn2.out _ H1.out.old).mono ?_
  rintro e w2 ⟨cb, rfl, hL⟩
  have H2 := Lib.hid (two_of H1.out hL)
  clear hn2 hL H1 x0 x1 x2 x3
  have x0 := (X0.out.below H2.out.old).cell 0
  have x1 := (X0.out.below H2.out.old).cell 1
  have x2 := (X0.out.below H2.out.old).cell 2
  have x3 := (X0.out.below H2.out.old).cell 3
  have xb := (X0.out.below H2.out.old).lt
  go_wp2_with fail
  refine (few_any sa L.length sc seed room now _ l _ hmx (hv'.out.below H2.out.old)).mono ?_
  rintro e w3 ⟨rfl, hB⟩
  rw [hf'.out]
  have H3 := Lib.hid (H2.out.below hB)
  clear hB x0 x1 x2 x3 H2 xb
  go_wp2_with (go_at_call 9; (with_reducible refine (alive_any _).mono ?_); rintro e w9 ⟨rfl, hB9⟩; have hB9' := Lib.hid hB9; clear hB9)
  go_ret
  exact ⟨rfl, bw_below B0.out (bw_below H3.out.old hB9'.out)⟩
set_option maxHeartbeats 4000000 in
theorem ConnApart_yes (sa : Option Addr) (sc : Nat) (L : List Tox) (seed room now : Int) (v : Value) (l : List Op) (w : World) (hs : Toxs w (.slice sa L.length sc) L) (h0 : 0 ≤ seed) (h1 : seed < 18446744073709551616) (hv : Script w v l) (hr : linkE L room = 0) (hf : fewK L.length l = true) :
    Calls Tryz.prog 6 #[.agg #[.slice sa L.length sc, .int .u64 seed, .int .i64 room, .int .i64 now], v] w fun e w' => e = .returned (.bool true) ∧ Below w.heap.size w w' := by
  obtain ⟨w0, e0, B0, X0⟩ : ∃ w0, Hid (w.alloc (.cells #[.slice sa L.length sc, .int .u64 seed, .int .i64 room, .int .i64 now] 25) = w0) ∧ Hid (Below w.heap.size w w0) ∧ Hid (Blk w0 w.heap.size 25 #[.slice sa L.length sc, .int .u64 seed, .int .i64 room, .int .i64 now]) := ⟨_, Lib.hid rfl, Lib.hid ((Below.refl _ _).alloc (Nat.le_refl _) _), Lib.hid (Blk.new w _ _)⟩
  have hl8 : L.length ≤ 8 := (linkE_0 hr).2.1
  have hn := Lib.hid (cNew_ok sa sc L seed room now w0 (hs.below B0.out) h0 h1 hr)
  have hn2 := Lib.hid (fun (wy : World) (hb : Below w0.heap.size w0 wy) => cNew_ok sa sc L seed room now wy ((hs.below B0.out).below hb) h0 h1 hr)
  have hmx : L.length ≤ 9223372036854775807 := by omega
  have hv' := Lib.hid (hv.below B0.out)
  have hf' := Lib.hid hf
  have hok0 := Lib.hid (okT_conn0 (now := now) hr (seedW_bd seed 0).1 (seedW_bd seed 0).2 (seedW_bd seed 1).1 (seedW_bd seed 1).2 l)
  have hkk0 := Lib.hid (kkn_conn0 L (seedW seed 0) (seedW seed 1) room now)
  obtain ⟨a, cap, rfl, hm, hsz, hA⟩ := hv
  obtain ⟨hn5, hl2⟩ : bytesOf l ≤ 2000 ∧ l.length ≤ 60 := by
    unfold fewK at hf
    simp only [Bool.and_eq_true, decide_eq_true_eq] at hf
    exact ⟨hf.2.2, hf.2.1⟩
  have hap := Lib.hid (fun h5 => ap_start L (seedW seed 0) (seedW seed 1) room now h5)
  have hsT := Lib.hid (hs.below B0.out)
  generalize conn0 L (seedW seed 0) (seedW seed 1) room now = N0 at *
  obtain ⟨aa, cc, he, hmL, hcp, hT⟩ := hsT.out
  injection he with e1 e2 e3
  subst e1 e3
  clear hr hs hl8 hf hsT e2
  go_enter Tryz.func6, Tryz.ntmps6
  go_wp2_with fail
  rw [e0.out]
  refine hn.out.mono ?_
  rintro e w1 ⟨ca, rfl, hL⟩
  have H1 := Lib.hid hL
  have x0 := (X0.out.below hL.old).cell 0
  have x1 := (X0.out.below hL.old).cell 1
  have x2 := (X0.out.below hL.old).cell 2
  have x3 := (X0.out.below hL.old).cell 3
  clear hn hL
  go_wp2_with fail
  refine (hn2.out _ H1.out.old).mono ?_
  rintro e w2 ⟨cb, rfl, hL⟩
  have H2 := Lib.hid (two_of H1.out hL)
  clear hn2 hL H1 x0 x1 x2 x3
  have x0 := (X0.out.below H2.out.old).cell 0
  have x1 := (X0.out.below H2.out.old).cell 1
  have x2 := (X0.out.below H2.out.old).cell 2
  have x3 := (X0.out.below H2.out.old).cell 3
  have xb := (X0.out.below H2.out.old).lt
  go_wp2_with fail
  refine (few_any sa L.length sc seed room now _ l _ hmx (hv'.out.below H2.out.old)).mono ?_
  rintro e w3 ⟨rfl, hB⟩
  rw [hf'.out]
  have H3 := Lib.hid (H2.out.below hB)
  clear hB x0 x1 x2 x3 H2 xb
  have x0 : w3.cell? ⟨w.heap.size, 0, none⟩ = some (.slice sa L.length sc) := ((X0.out.below H3.out.old).cell 0).trans rfl
  have xb := (X0.out.below H3.out.old).lt
  go_wp2
  go_loopw [63] (fun iv wr => ∃ k : Nat, k ≤ L.length ∧ iv = .int .i64 k ∧ TwoN w0 wr ca cb N0 N0 ∧ ∀ t ∈ L.take k, t.kind ≠ 5) (fun iv _ => L.length - (intOf iv).toNat)
  case atStart => exact ⟨0, by omega, rfl, H3.out, fun t ht => by simp at ht⟩
  case round =>
    obtain ⟨k, hk, rfl, hTw, hno⟩ := hrel
    clear H3 x0 xb
    by_cases hlt : k < L.length
    · obtain ⟨g, oo, rfl, hc⟩ := hT (by intro h; subst h; simp at hlt)
      have hx : L[k]? = some L[k] := List.getElem?_eq_getElem hlt
      obtain ⟨d0, d1, d2, d3, d4, d5⟩ := hc k _ hx
      have hnext := Lib.hid (fun (h5 : L[k].kind ≠ 5) => show ∀ t ∈ L.take (k + 1), t.kind ≠ 5 from fun t ht => by
        rw [List.take_add_one, hx] at ht
        rcases List.mem_append.1 ht with e | e
        · exact hno t e
        · rw [List.mem_singleton.1 e]; exact h5)
      generalize L[k] = p at *
      obtain ⟨t0, t1, t2, t3, t4, t5⟩ := p
      dsimp only at *
      have hold := hTw.old
      have e0 := bcells hold d0
      have e1 := bcells hold d1
      have e2 := bcells hold d2
      have e3 := bcells hold d3
      have e4 := bcells hold d4
      have e5 := bcells hold d5
      have HT := Lib.hid (hTw.below ((Below.refl wr.heap.size wr).alloc (Nat.le_refl _) (.cells #[.string t0, .int .i64 t1, .bool t2, .int .i64 t3, .int .i64 t4, .int .i64 t5] 27)))
      clear hc hx hT d0 d1 d2 d3 d4 d5 hold hTw hno
      by_cases k5 : t1 = 5
      · have t5_ : (t1 == 5) = true := by simpa using k5
        clear hnext k5
        go_wp2_with (go_at_call 9; (with_reducible refine (alive_any _).mono ?_); rintro e w9 ⟨rfl, hB9⟩; have hB9' := Lib.hid hB9; clear hB9)
        go_ret
        exact ⟨rfl, bw_below B0.out (bw_below HT.out.old hB9'.out)⟩
      · have t5_ : (t1 == 5) = false := by simpa using k5
        have hn := Lib.hid (hnext.out k5)
        clear hnext k5
        go_wp2
        go_roundw
        case rel => exact ⟨k + 1, by omega, by go_num, HT.out, hn.out⟩
        case measure => simp [intOf]; omega
    · have hk2 : k = L.length := by omega
      subst hk2
      have hnl : ¬ (L.length < L.length) := by omega
      rw [List.take_length] at hno
      have hS0 := Lib.hid (show AInv w0 wr ca cb N0 N0 l 0 from ⟨hTw, hok0.out, hok0.out, ⟨_, _, _, _, hkk0.out, Nat.zero_le _, Nat.zero_le _⟩, ⟨_, _, _, _, hkk0.out, Nat.zero_le _, Nat.zero_le _⟩, hap.out hno⟩)
      clear hTw hno hT hok0 hkk0 hap
      go_wp2
      go_loopw [74] (fun iv wq => ∃ (k : Nat) (x z : Cn), k ≤ l.length ∧ iv = .int .i64 k ∧ AInv w0 wq ca cb x z l k) (fun iv _ => l.length - (intOf iv).toNat)
      case atStart => exact ⟨0, N0, N0, by omega, rfl, hS0.out⟩
      case round =>
        obtain ⟨k, x, z, hk, rfl, hI⟩ := hrel
        clear hS0
        by_cases hlt : k < l.length
        · obtain ⟨g, oo, rfl, hc⟩ := hA (by intro h; subst h; simp at hlt)
          have hx : l[k]? = some l[k] := List.getElem?_eq_getElem hlt
          obtain ⟨d0, d1, d2, d3, d4, d5, d6, d7, d8, d9, d10, d11⟩ := hc k _ hx
          generalize l[k] = p at *
          have hskip := Lib.hid (fun (wy : World) (hT : TwoN w0 wy ca cb x z) => hI.skip hx hT)
          have hone := Lib.hid (fun (wy : World) hk hw (hT : TwoN w0 wy ca cb (doesN x p) z) => hI.one hx hn5 hl2 hk hw hT)
          have hboth := Lib.hid (fun (wy : World) hk (hT : TwoN w0 wy ca cb (doesN x p) (doesN z p)) => hI.both hx hn5 hl2 hk hT)
          have hsame := Lib.hid (fun hk => (ap_both hI.ap (p := p) hk).2)
          have hdoa := Lib.hid (fun (wy : World) (hT : TwoN w0 wy ca cb x z) => two_does hT hI.oa hn5 hl2 hI.ka p hx)
          have hdob := Lib.hid (fun (wy : World) (hT : TwoN w0 wy cb ca z (doesN x p)) => two_does hT hI.ob hn5 hl2 hI.kb p hx)
          have HT := Lib.hid hI.T
          have hold := hI.T.old
          clear hx hc hA hI
          obtain ⟨p0, p1, p2, p3, p4, p5, ⟨t0, t1, t2, t3, t4, t5⟩⟩ := p
          dsimp only at *
          have e0 := bcells (bw_below B0.out hold) d0
          have e1 := bcells (bw_below B0.out hold) d1
          have e2 := bcells (bw_below B0.out hold) d2
          have e3 := bcells (bw_below B0.out hold) d3
          have e4 := bcells (bw_below B0.out hold) d4
          have e5 := bcells (bw_below B0.out hold) d5
          have e6 := bcells (bw_below B0.out hold) d6
          have e7 := bcells (bw_below B0.out hold) d7
          have e8 := bcells (bw_below B0.out hold) d8
          have e9 := bcells (bw_below B0.out hold) d9
          have e10 := bcells (bw_below B0.out hold) d10
          have e11 := bcells (bw_below B0.out hold) d11
          have hszw : w.heap.size ≤ wr.heap.size := Nat.le_trans B0.out.size hold.size
          have HTx := Lib.hid (HT.out.below ((Below.refl wr.heap.size wr).alloc (Nat.le_refl _) (.cells #[.int .i64 p0, .int .i64 p1, .int .i64 p2, .int .i64 p3, .int .i64 p4, .string p5, .string t0, .int .i64 t1, .bool t2, .int .i64 t3, .int .i64 t4, .int .i64 t5] 43)))
          clear d0 d1 d2 d3 d4 d5 d6 d7 d8 d9 d10 d11 hold
          by_cases k0 : p0 < 0
          · have t0_ : decide (p0 < 0) = true := decide_eq_true k0
            have hr := Lib.hid (hskip.out _ HTx.out)
            clear k0 hskip hone hboth hsame hdoa hdob HT HTx
            go_wp2
            go_roundw
            case rel => exact ⟨k + 1, x, z, by omega, by go_num, hr.out⟩
            case measure => simp [intOf]; omega
          have t0_ : decide (p0 < 0) = false := decide_eq_false k0
          by_cases k2 : p0 = 2
          · have t2_ : (p0 == 2) = true := by simpa using k2
            have hr := Lib.hid (hskip.out _ HTx.out)
            clear k0 k2 hskip hone hboth hsame hdoa hdob HT HTx
            go_wp2
            go_roundw
            case rel => exact ⟨k + 1, x, z, by omega, by go_num, hr.out⟩
            case measure => simp [intOf]; omega
          have t2_ : (p0 == 2) = false := by simpa using k2
          by_cases k3 : 3 < p0
          · have t3_ : decide (3 < p0) = true := decide_eq_true k3
            have hr := Lib.hid (hskip.out _ HTx.out)
            clear k0 k2 k3 hskip hone hboth hsame hdoa hdob HT HTx
            go_wp2
            go_roundw
            case rel => exact ⟨k + 1, x, z, by omega, by go_num, hr.out⟩
            case measure => simp [intOf]; omega
          have t3_ : decide (3 < p0) = false := decide_eq_false k3
          have hkinds := Lib.hid (show p0 = 0 ∨ p0 = 1 ∨ p0 = 3 by omega)
          clear k0 k2 k3 hskip
          go_wp2_with fail
          refine (hdoa.out _ HTx.out).mono ?_
          rintro e w4 ⟨rfl, hT4, hK4⟩
          have HX4 := Lib.hid (hK4 _ _ _ (Blk.new wr 43 #[.int .i64 p0, .int .i64 p1, .int .i64 p2, .int .i64 p3, .int .i64 p4, .string p5, .string t0, .int .i64 t1, .bool t2, .int .i64 t3, .int .i64 t4, .int .i64 t5]) (by decide))
          have HT4 := Lib.hid hT4
          clear hT4 hK4 hdoa HT HTx e0 e1 e2 e3 e4 e5 e6 e7 e8 e9 e10 e11
          generalize hX : doesN x ⟨p0, p1, p2, p3, p4, p5, ⟨t0, t1, t2, t3, t4, t5⟩⟩ = X at *
          generalize hAN : doesA x ⟨p0, p1, p2, p3, p4, p5, ⟨t0, t1, t2, t3, t4, t5⟩⟩ = an at *
          obtain ⟨aN, s0, v0, s1, v1, eE⟩ := an
          dsimp only at *
          unfold An.v
          dsimp only
          clear hX hAN
          have HA := Lib.hid (show Blk (w4.alloc (.cells #[.int .i64 aN, .string s0, .int .i64 v0, .string s1, .int .i64 v1, .int .i64 eE] 48)) w4.heap.size 48 #[.int .i64 aN, .string s0, .int .i64 v0, .string s1, .int .i64 v1, .int .i64 eE] from Blk.new w4 _ _)
          have hBa := (Below.refl w4.heap.size w4).alloc (Nat.le_refl _) (.cells #[.int .i64 aN, .string s0, .int .i64 v0, .string s1, .int .i64 v1, .int .i64 eE] 48)
          have HTA := Lib.hid (HT4.out.below hBa)
          have HXA := Lib.hid (HX4.out.below hBa)
          have hlt3 : wr.heap.size < w4.heap.size := HX4.out.lt
          go_upto_region 16 with (fail)
          clear HX4 HT4 hBa
          generalize w4.alloc (.cells #[.int .i64 aN, .string s0, .int .i64 v0, .string s1, .int .i64 v1, .int .i64 eE] 48) = w5 at *
          generalize w4.heap.size = ma at *
          generalize wr.heap.size = mo at *
          have xb := HXA.out.lt
          have c0 : w5.cell? ⟨mo, 0, none⟩ = some (.int .i64 p0) := (HXA.out.cell 0).trans rfl
          have c1 : w5.cell? ⟨mo, 1, none⟩ = some (.int .i64 p1) := (HXA.out.cell 1).trans rfl
          have c2 : w5.cell? ⟨mo, 2, none⟩ = some (.int .i64 p2) := (HXA.out.cell 2).trans rfl
          have c3 : w5.cell? ⟨mo, 3, none⟩ = some (.int .i64 p3) := (HXA.out.cell 3).trans rfl
          have c4 : w5.cell? ⟨mo, 4, none⟩ = some (.int .i64 p4) := (HXA.out.cell 4).trans rfl
          have c5 : w5.cell? ⟨mo, 5, none⟩ = some (.string p5) := (HXA.out.cell 5).trans rfl
          have c6 : w5.cell? ⟨mo, 6, none⟩ = some (.string t0) := (HXA.out.cell 6).trans rfl
          have c7 : w5.cell? ⟨mo, 7, none⟩ = some (.int .i64 t1) := (HXA.out.cell 7).trans rfl
          have c8 : w5.cell? ⟨mo, 8, none⟩ = some (.bool t2) := (HXA.out.cell 8).trans rfl
          have c9 : w5.cell? ⟨mo, 9, none⟩ = some (.int .i64 t3) := (HXA.out.cell 9).trans rfl
          have c10 : w5.cell? ⟨mo, 10, none⟩ = some (.int .i64 t4) := (HXA.out.cell 10).trans rfl
          have c11 : w5.cell? ⟨mo, 11, none⟩ = some (.int .i64 t5) := (HXA.out.cell 11).trans rfl
          obtain ⟨B, hB⟩ : ∃ B, Hid (B = decide ((p0 = 0 ∨ p0 = 1) ∧ p1 ≠ 0)) := ⟨_, Lib.hid rfl⟩
          go_cut [74, 101] (fun v74 v101 wx => v74 = .int .i64 k ∧ v101 = .bool B ∧ wx = w5)
          case first =>
            have hq := hkinds.out
            clear hone hboth hsame hdob HTA HA HXA hkinds
            by_cases kw : p0 < 2
            · have tw : decide (p0 < 2) = true := decide_eq_true kw
              by_cases k1 : p1 = 0
              · have t1_ : (p1 != 0) = false := by simpa using k1
                have hb := Lib.hid (show decide ((p0 = 0 ∨ p0 = 1) ∧ p1 ≠ 0) = false from by simp [k1])
                clear kw k1 hq
                go_wp2
                go_meet
                exact ⟨rfl, by rw [hB.out, hb.out], rfl⟩
              · have t1_ : (p1 != 0) = true := by simpa using k1
                have hb := Lib.hid (show decide ((p0 = 0 ∨ p0 = 1) ∧ p1 ≠ 0) = true from decide_eq_true ⟨by omega, k1⟩)
                clear kw k1 hq
                go_wp2
                go_meet
                exact ⟨rfl, by rw [hB.out, hb.out], rfl⟩
            · have tw : decide (p0 < 2) = false := decide_eq_false kw
              have hb := Lib.hid (show decide ((p0 = 0 ∨ p0 = 1) ∧ p1 ≠ 0) = false from decide_eq_false (by omega))
              clear kw hq
              go_wp2
              go_meet
              exact ⟨rfl, by rw [hB.out, hb.out], rfl⟩
          case rest =>
          obtain ⟨rfl, rfl, rfl⟩ := hcut
          cases B with
          | true =>
            have hw := of_decide_eq_true hB.out.symm
            have hr := Lib.hid (hone.out _ hw.1 hw.2 HTA.out)
            clear hw hB hone hboth hsame hdob HTA HA HXA c0 c1 c2 c3 c4 c5 c6 c7 c8 c9 c10 c11
            go_wp2
            go_roundw
            case rel => exact ⟨k + 1, _, z, by omega, by go_num, hr.out⟩
            case measure => simp [intOf]; omega
          | false =>
            have hw := of_decide_eq_false hB.out.symm
            have hkk : Hid (((p0 = 0 ∨ p0 = 1) ∧ p1 = 0) ∨ p0 = 3) := Lib.hid (by
              have := hkinds.out
              rcases this with e | e | e
              · exact .inl ⟨.inl e, Decidable.byContradiction fun q => hw ⟨.inl e, q⟩⟩
              · exact .inl ⟨.inr e, Decidable.byContradiction fun q => hw ⟨.inr e, q⟩⟩
              · exact .inr e)
            have hsm := Lib.hid (hsame.out hkk.out)
            clear hw hB hone hsame hkinds
            go_wp2_with fail
            refine (hdob.out _ HTA.out.swap).mono ?_
            rintro e w6 ⟨rfl, hT6, hK6⟩
            have HT6 := Lib.hid hT6.swap
            have HA6 := Lib.hid (hK6 _ _ _ HA.out (by decide))
            clear hT6 hK6 hdob HTA HA HXA c0 c1 c2 c3 c4 c5 c6 c7 c8 c9 c10 c11
            generalize doesN z ⟨p0, p1, p2, p3, p4, p5, ⟨t0, t1, t2, t3, t4, t5⟩⟩ = Z at *
            generalize doesA z ⟨p0, p1, p2, p3, p4, p5, ⟨t0, t1, t2, t3, t4, t5⟩⟩ = bn at *
            obtain ⟨bN, r0, y0, r1, y1, fE⟩ := bn
            dsimp only at *
            unfold An.v
            dsimp only
            obtain ⟨q1, q2, q3⟩ := hsm.out
            subst q1 q2 q3
            have hr := Lib.hid (hboth.out _ hkk.out (HT6.out.below ((Below.refl w6.heap.size w6).alloc (Nat.le_refl _) (.cells #[.int .i64 aN, .string s0, .int .i64 v0, .string r1, .int .i64 y1, .int .i64 fE] 48))))
            have hneq := fun (W : World) => neq_out2 W s0 v0
            have hgd : Tryz.prog.eqGuardType Tryz.prog.depth 45 = false := by kernel_rfl
            have g0 : w6.cell? ⟨ma, 0, none⟩ = some (.int .i64 aN) := (HA6.out.cell 0).trans rfl
            have g1 : w6.cell? ⟨ma, 1, none⟩ = some (.string s0) := (HA6.out.cell 1).trans rfl
            have g2 : w6.cell? ⟨ma, 2, none⟩ = some (.int .i64 v0) := (HA6.out.cell 2).trans rfl
            have gb := HA6.out.lt
            clear hsm hboth hkk HT6 HA6
            go_wp2
            go_roundw
            case rel => exact ⟨k + 1, _, Z, by omega, by go_num, hr.out⟩
            case measure => simp [intOf]; omega
        · have hk2 : k = l.length := by omega
          subst hk2
          have hnl : ¬ (l.length < l.length) := by omega
          have HI := Lib.hid hI
          have hcc := Lib.hid (show countsN x 0 = countsN z 0 from by
            show countsV x.a = countsV z.a
            rw [hI.ap.eq])
          have hM1 := Lib.hid (show ((bytesOf (l.take l.length) : Nat) : Int) ≤ 1000000000 by rw [List.take_length]; omega)
          obtain ⟨n0, n1, n2, n3, hcv⟩ : ∃ n0 n1 n2 n3 : Int, Hid (countsN z 0 = .agg #[.int .i64 n0, .int .i64 n1, .int .i64 n2, .int .i64 n3]) := ⟨_, _, _, _, Lib.hid rfl⟩
          have heq := fun (W : World) => eql_counts W n0 n1 n2 n3
          have hgd : Tryz.prog.eqGuardType Tryz.prog.depth 52 = false := by kernel_rfl
          clear hI hA
          go_wp2_with (first
            | (go_at_call 9; (with_reducible refine (alive_any _).mono ?_); rintro e w9 ⟨rfl, hB9⟩; have H9 := Lib.hid (HI.out.T.below hB9); clear hB9)
            | (go_at_call 15; (with_reducible refine (live_counts H9.out.live HI.out.oa.ok hM1.out 0).mono ?_); rintro e wA ⟨rfl, hL, hB⟩; rw [hcc.out, hcv.out]; have HA := Lib.hid (H9.out.below hB); clear hL hB)
            | (go_at_call 15; (with_reducible refine (live_counts HA.out.swap.live HI.out.ob.ok hM1.out 0).mono ?_); rintro e wB ⟨rfl, hL, hB⟩; rw [hcv.out]; have HB := Lib.hid (HA.out.below hB); clear hL hB))
          go_ret
          exact ⟨by simp, bw_below B0.out HB.out.old⟩
theorem ConnApart_any (sv : Value) (L : List Tox) (seed room now : Int) (v : Value) (l : List Op) (w : World) (hs : Seats w sv L seed room now) (hv : Script w v l) :
    Calls Tryz.prog 6 #[sv, v] w fun e w' => e = .returned (.bool true) ∧ Below w.heap.size w w' := by
  obtain ⟨sa, sc, rfl, hs, h0, h1⟩ := hs
  by_cases hr : linkE L room = 0
  · cases h : fewK L.length l with
    | false => exact ConnApart_long sa sc L seed room now v l w hs h0 h1 hv hr h
    | true => exact ConnApart_yes sa sc L seed room now v l w hs h0 h1 hv hr h
  · exact ConnApart_none sa sc L seed room now v l w hs h0 h1 hv hr
end Go.Proofs.YtnkgjnmhiedfoaaGreat.Conn
