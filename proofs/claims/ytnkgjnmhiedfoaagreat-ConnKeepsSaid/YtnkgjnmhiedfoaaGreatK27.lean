/- A script of a connection's calls, and what each does (chapter 13). Conditions: each text is shorter than 2^47 bytes. -/
import Derived.Test.YtnkgjnmhiedfoaaGreatK26
import Derived.Test.YtnkgjnmhiedfoaaGreatK17
import Derived.Lib.SlBytesConst
import Derived.Deep.DeepCutAuto
import Derived.BigQuiet
namespace Go.Proofs.YtnkgjnmhiedfoaaGreat.Conn
open Go.RowKit Mem Tick Cargo Toxic Stage Chain
open Link
set_option maxRecDepth 100000
set_option linter.unusedVariables false
set_option linter.unusedSimpArgs false
def opBytes (x : Op) : Nat := x.s.size + x.t.name.size
def Script (w : World) (v : Value) (l : List Op) : Prop :=
  ∃ a cap, v = .slice a l.length cap ∧ l.length ≤ 9223372036854775807 ∧ (∀ x ∈ l, x.s.size ≤ 140737488351232 ∧ x.t.name.size ≤ 140737488351232) ∧
    (l ≠ [] → ∃ b o, a = some ⟨b, o, none⟩ ∧ ∀ j x, l[j]? = some x → w.cell? ⟨b, o + j * 12, none⟩ = some (.int .i64 x.kind) ∧ w.cell? ⟨b, o + j * 12 + 1, none⟩ = some (.int .i64 x.way) ∧ w.cell? ⟨b, o + j * 12 + 2, none⟩ = some (.int .i64 x.now) ∧ w.cell? ⟨b, o + j * 12 + 3, none⟩ = some (.int .i64 x.m0) ∧ w.cell? ⟨b, o + j * 12 + 4, none⟩ = some (.int .i64 x.m1) ∧ w.cell? ⟨b, o + j * 12 + 5, none⟩ = some (.string x.s) ∧ w.cell? ⟨b, o + j * 12 + 6, none⟩ = some (.string x.t.name) ∧ w.cell? ⟨b, o + j * 12 + 7, none⟩ = some (.int .i64 x.t.kind) ∧ w.cell? ⟨b, o + j * 12 + 8, none⟩ = some (.bool x.t.up) ∧ w.cell? ⟨b, o + j * 12 + 9, none⟩ = some (.int .i64 x.t.often) ∧ w.cell? ⟨b, o + j * 12 + 10, none⟩ = some (.int .i64 x.t.a) ∧ w.cell? ⟨b, o + j * 12 + 11, none⟩ = some (.int .i64 x.t.b))
theorem Script.below {w w' : World} {v : Value} {l : List Op} (h : Script w v l) (hb : Below w.heap.size w w') : Script w' v l := by
  obtain ⟨a, cap, h1, h2, h3, h4⟩ := h
  refine ⟨a, cap, h1, h2, h3, fun hn => ?_⟩
  obtain ⟨b, o, e, hc⟩ := h4 hn
  refine ⟨b, o, e, fun j x hx => ?_⟩
  obtain ⟨c0, c1, c2, c3, c4, c5, c6, c7, c8, c9, c10, c11⟩ := hc j x hx
  exact ⟨bcells hb c0, bcells hb c1, bcells hb c2, bcells hb c3, bcells hb c4, bcells hb c5, bcells hb c6, bcells hb c7, bcells hb c8, bcells hb c9, bcells hb c10, bcells hb c11⟩
def bytesOf : List Op → Nat
  | [] => 0
  | x :: r => opBytes x + bytesOf r
theorem bytesOf_append (a b : List Op) : bytesOf (a ++ b) = bytesOf a + bytesOf b := by induction a with | nil => simp [bytesOf] | cons p r ih => simp [bytesOf, ih]; omega
theorem bytesOf_take (l : List Op) (k : Nat) (x : Op) (h : l[k]? = some x) : bytesOf (l.take (k + 1)) = bytesOf (l.take k) + opBytes x := by
  rw [List.take_add_one, h, bytesOf_append]; simp [bytesOf]
theorem bytesOf_le (l : List Op) (k : Nat) : bytesOf (l.take k) ≤ bytesOf l := by
  have := bytesOf_append (l.take k) (l.drop k)
  rw [List.take_append_drop] at this; omega
theorem bytesOf_max (l : List Op) (h : ∀ x ∈ l, x.s.size ≤ 140737488351232 ∧ x.t.name.size ≤ 140737488351232) : bytesOf l ≤ l.length * 281474976702464 := by
  induction l with
  | nil => simp [bytesOf]
  | cons x r ih =>
    have h1 := h x (List.mem_cons_self ..)
    have h2 := ih fun y hy => h y (List.mem_cons_of_mem _ hy)
    simp only [bytesOf, List.length_cons, opBytes]; omega
theorem bytes_s (l : List Op) (k : Nat) (p : Op) (h : l[k]? = some p) : bytesOf (l.take (k + 1)) = bytesOf (l.take k) + (p.s.size + p.t.name.size) := bytesOf_take l k p h
def fewK (n : Nat) (l : List Op) : Bool := decide (n ≤ 12) && (decide (l.length ≤ 60) && decide (bytesOf l ≤ 2000))
theorem few_short (sa : Option Addr) (sn sc : Nat) (seed room now : Int) (v : Value) (l : List Op) (w : World) (hsn : sn ≤ 9223372036854775807) (hv : Script w v l) (hsmall : l.length ≤ 60) :
    Calls Tryz.prog 8 #[.agg #[.slice sa sn sc, .int .u64 seed, .int .i64 room, .int .i64 now], v] w fun e w' => e = .returned (.bool (fewK sn l)) ∧ Below w.heap.size w w' := by
  obtain ⟨a, cap, rfl, hm, hs, hA⟩ := hv
  have hmx := bytesOf_max l hs
  have hd : decide ((l.length : Int) ≤ 60) = true := decide_eq_true (by omega)
  have hB0 := Lib.hid ((Below.refl w.heap.size w).alloc (Nat.le_refl _) (.cells #[.slice sa sn sc, .int .u64 seed, .int .i64 room, .int .i64 now] 25))
  have hX0 := Lib.hid (Blk.new w 25 #[.slice sa sn sc, .int .u64 seed, .int .i64 room, .int .i64 now])
  clear hs
  go_enter Tryz.func8, Tryz.ntmps8
  go_wp2
  go_loopw [5, 10] (fun nv iv wr => ∃ k : Nat, k ≤ l.length ∧ iv = .int .i64 k ∧ nv = .int .i64 (bytesOf (l.take k)) ∧ Below w.heap.size w wr ∧ Blk wr w.heap.size 25 #[.slice sa sn sc, .int .u64 seed, .int .i64 room, .int .i64 now]) (fun _ iv _ => l.length - (intOf iv).toNat)
  case atStart => exact ⟨0, by omega, rfl, by simp [bytesOf], hB0.out, hX0.out⟩
  case round =>
    obtain ⟨k, hk, rfl, rfl, hB, hX⟩ := hrel
    by_cases hlt : k < l.length
    · obtain ⟨g, o, rfl, hc⟩ := hA (by intro h; subst h; simp at hlt)
      have hx : l[k]? = some l[k] := List.getElem?_eq_getElem hlt
      obtain ⟨d0, d1, d2, d3, d4, d5, d6, d7, d8, d9, d10, d11⟩ := hc k _ hx
      have hs := Lib.hid (bytes_s l k _ hx)
      have hle := bytesOf_le l (k + 1)
      rw [hs.out] at hle
      generalize l[k] = p at *
      obtain ⟨p0, p1, p2, p3, p4, p5, ⟨t0, t1, t2, t3, t4, t5⟩⟩ := p
      dsimp only at *
      have d0' := bcells hB d0
      have d1' := bcells hB d1
      have d2' := bcells hB d2
      have d3' := bcells hB d3
      have d4' := bcells hB d4
      have d5' := bcells hB d5
      have d6' := bcells hB d6
      have d7' := bcells hB d7
      have d8' := bcells hB d8
      have d9' := bcells hB d9
      have d10' := bcells hB d10
      have d11' := bcells hB d11
      generalize hs1 : bytesOf (l.take (k + 1)) = s1 at *
      have hs1' := Lib.hid hs1
      generalize bytesOf (l.take k) = s0 at *
      have hsz := hB.size
      have hX' := Lib.hid hX
      clear hc hx hA d0 d1 d2 d3 d4 d5 d6 d7 d8 d9 d10 d11 hs1 hX
      go_wp2
      go_roundw
      case rel => exact ⟨k + 1, by omega, by go_num, by rw [hs1'.out, hs.out]; go_num, hB.alloc hB.size _, hX'.out.below ((Below.refl _ _).alloc (Nat.le_refl _) _)⟩
      case measure => simp [intOf]; omega
    · have hk2 : k = l.length := by omega
      subst hk2
      have hnl : ¬ (l.length < l.length) := by omega
      rw [List.take_length]
      have c0 : wr.cell? ⟨w.heap.size, 0, none⟩ = some (.slice sa sn sc) := (hX.cell 0).trans rfl
      clear hA hX
      by_cases h12 : sn ≤ 12
      · have t12 : decide ((sn : Int) ≤ 12) = true := decide_eq_true (by omega)
        have e1 : fewK sn l = decide (bytesOf l ≤ 2000) := by unfold fewK; rw [decide_eq_true h12, decide_eq_true hsmall]; simp
        have e1' := Lib.hid e1
        clear e1
        go_wp2
        go_ret
        exact ⟨by rw [e1'.out]; simp; omega, hB⟩
      · have t12 : decide ((sn : Int) ≤ 12) = false := decide_eq_false (by omega)
        have e1 : fewK sn l = false := by unfold fewK; rw [decide_eq_false h12]; rfl
        have e1' := Lib.hid e1
        clear e1
        go_wp2
        go_ret
        exact ⟨by rw [e1'.out]; rfl, hB⟩
theorem few_long (sa : Option Addr) (sn sc : Nat) (seed room now : Int) (v : Value) (l : List Op) (w : World) (hsn : sn ≤ 9223372036854775807) (hv : Script w v l) (hbig : 60 < l.length) :
    Calls Tryz.prog 8 #[.agg #[.slice sa sn sc, .int .u64 seed, .int .i64 room, .int .i64 now], v] w fun e w' => e = .returned (.bool false) ∧ Below w.heap.size w w' := by
  obtain ⟨a, cap, rfl, hm, hs, hA⟩ := hv
  have hd : decide ((l.length : Int) ≤ 60) = false := decide_eq_false (by omega)
  have hB0 := Lib.hid ((Below.refl w.heap.size w).alloc (Nat.le_refl _) (.cells #[.slice sa sn sc, .int .u64 seed, .int .i64 room, .int .i64 now] 25))
  have hX0 := Lib.hid (Blk.new w 25 #[.slice sa sn sc, .int .u64 seed, .int .i64 room, .int .i64 now])
  clear hs
  go_enter Tryz.func8, Tryz.ntmps8
  go_wp2
  go_loopw [5, 10] (fun nv iv wr => ∃ (k : Nat) (y : Int), k ≤ l.length ∧ iv = .int .i64 k ∧ nv = .int .i64 y ∧ Below w.heap.size w wr ∧ Blk wr w.heap.size 25 #[.slice sa sn sc, .int .u64 seed, .int .i64 room, .int .i64 now]) (fun _ iv _ => l.length - (intOf iv).toNat)
  case atStart => exact ⟨0, 0, by omega, rfl, rfl, hB0.out, hX0.out⟩
  case round =>
    obtain ⟨k, y, hk, rfl, rfl, hB, hX⟩ := hrel
    by_cases hlt : k < l.length
    · obtain ⟨g, o, rfl, hc⟩ := hA (by intro h; subst h; simp at hlt)
      have hx : l[k]? = some l[k] := List.getElem?_eq_getElem hlt
      obtain ⟨d0, d1, d2, d3, d4, d5, d6, d7, d8, d9, d10, d11⟩ := hc k _ hx
      generalize l[k] = p at *
      obtain ⟨p0, p1, p2, p3, p4, p5, ⟨t0, t1, t2, t3, t4, t5⟩⟩ := p
      dsimp only at *
      have d0' := bcells hB d0
      have d1' := bcells hB d1
      have d2' := bcells hB d2
      have d3' := bcells hB d3
      have d4' := bcells hB d4
      have d5' := bcells hB d5
      have d6' := bcells hB d6
      have d7' := bcells hB d7
      have d8' := bcells hB d8
      have d9' := bcells hB d9
      have d10' := bcells hB d10
      have d11' := bcells hB d11
      have hsz := hB.size
      have hX' := Lib.hid hX
      clear hc hx hA d0 d1 d2 d3 d4 d5 d6 d7 d8 d9 d10 d11 hX
      go_wp2
      go_roundw
      case rel => exact ⟨k + 1, _, by omega, by go_num, rfl, hB.alloc hB.size _, hX'.out.below ((Below.refl _ _).alloc (Nat.le_refl _) _)⟩
      case measure => simp [intOf]; omega
    · have hk2 : k = l.length := by omega
      subst hk2
      have hnl : ¬ (l.length < l.length) := by omega
      have c0 : wr.cell? ⟨w.heap.size, 0, none⟩ = some (.slice sa sn sc) := (hX.cell 0).trans rfl
      clear hA hX
      by_cases h12 : sn ≤ 12
      · have t12 : decide ((sn : Int) ≤ 12) = true := decide_eq_true (by omega)
        go_wp2
        go_ret
        exact ⟨rfl, hB⟩
      · have t12 : decide ((sn : Int) ≤ 12) = false := decide_eq_false (by omega)
        go_wp2
        go_ret
        exact ⟨rfl, hB⟩
theorem few_any (sa : Option Addr) (sn sc : Nat) (seed room now : Int) (v : Value) (l : List Op) (w : World) (hsn : sn ≤ 9223372036854775807) (hv : Script w v l) :
    Calls Tryz.prog 8 #[.agg #[.slice sa sn sc, .int .u64 seed, .int .i64 room, .int .i64 now], v] w fun e w' => e = .returned (.bool (fewK sn l)) ∧ Below w.heap.size w w' := by
  by_cases h : l.length ≤ 60
  · exact few_short sa sn sc seed room now v l w hsn hv h
  · have e : fewK sn l = false := by unfold fewK; rw [decide_eq_false h]; simp
    rw [e]
    exact few_long sa sn sc seed room now v l w hsn hv (by omega)
variable {w w' : World} {F : Nat → Prop} {b : Nat} {x : Cn}
def An.v (a : An) : Value := .agg #[.int .i64 a.n, .string a.s0, .int .i64 a.e0, .string a.s1, .int .i64 a.e1, .int .i64 a.e]
def DoesQ (F : Nat → Prop) (b : Nat) (w : World) (y : Cn) (a : An) (e : Ending) (w' : World) : Prop := e = .returned (An.v a) ∧ CTu w F w' b y
theorem does_0 (h : CN w F b x) (wy nw m0 m1 : Int) (z tn : ByteArray) (tk : Int) (tu : Bool) (tf ta tb : Int) {M Q : Int} (ho : OkN x M Q) (hM : M + z.size ≤ 1000000000) (hs : (lk x wy).sent + z.size ≤ 1000000000) :
    Calls Tryz.prog 13 #[ptr b, .agg #[.int .i64 0, .int .i64 wy, .int .i64 nw, .int .i64 m0, .int .i64 m1, .string z, .string tn, .int .i64 tk, .bool tu, .int .i64 tf, .int .i64 ta, .int .i64 tb]] w (DoesQ F b w (sendN x wy nw z) (⟨sendA x wy nw z, ⟨#[]⟩, 0, ⟨#[]⟩, 0, 0⟩)) := by
  have hcv := conv_str z
  have hB := (((Below.refl w.heap.size w).alloc (Nat.le_refl _) (.cells #[.int .i64 0, .int .i64 wy, .int .i64 nw, .int .i64 m0, .int .i64 m1, .string z, .string tn, .int .i64 tk, .bool tu, .int .i64 tf, .int .i64 ta, .int .i64 tb] 43)).alloc (by simp) (.cells #[.int .i64 0, .string ⟨#[]⟩, .int .i64 0, .string ⟨#[]⟩, .int .i64 0, .int .i64 0] 48)).alloc (by simp; omega) (.cells #[.int .i64 0, .string ⟨#[]⟩, .int .i64 0, .string ⟨#[]⟩, .int .i64 0, .int .i64 0] 48)
  have hR := Lib.hid ((Blk.new (w.alloc (.cells #[.int .i64 0, .int .i64 wy, .int .i64 nw, .int .i64 m0, .int .i64 m1, .string z, .string tn, .int .i64 tk, .bool tu, .int .i64 tf, .int .i64 ta, .int .i64 tb] 43)) 48 #[.int .i64 0, .string ⟨#[]⟩, .int .i64 0, .string ⟨#[]⟩, .int .i64 0, .int .i64 0]).below ((Below.refl _ _).alloc (Nat.le_refl _) (.cells #[.int .i64 0, .string ⟨#[]⟩, .int .i64 0, .string ⟨#[]⟩, .int .i64 0, .int .i64 0] 48)))
  have hA := Lib.hid (Blk.new ((w.alloc (.cells #[.int .i64 0, .int .i64 wy, .int .i64 nw, .int .i64 m0, .int .i64 m1, .string z, .string tn, .int .i64 tk, .bool tu, .int .i64 tf, .int .i64 ta, .int .i64 tb] 43)).alloc (.cells #[.int .i64 0, .string ⟨#[]⟩, .int .i64 0, .string ⟨#[]⟩, .int .i64 0, .int .i64 0] 48)) 48 #[.int .i64 0, .string ⟨#[]⟩, .int .i64 0, .string ⟨#[]⟩, .int .i64 0, .int .i64 0])
  have H := Lib.hid (h.below hB)
  have HB := Lib.hid hB
  have hlt := fun j (hj : F j) => Lib.hid (h.lt hj)
  have hBy := Lib.hid (bytes_below (((w.alloc (.cells #[.int .i64 0, .int .i64 wy, .int .i64 nw, .int .i64 m0, .int .i64 m1, .string z, .string tn, .int .i64 tk, .bool tu, .int .i64 tf, .int .i64 ta, .int .i64 tb] 43)).alloc (.cells #[.int .i64 0, .string ⟨#[]⟩, .int .i64 0, .string ⟨#[]⟩, .int .i64 0, .int .i64 0] 48)).alloc (.cells #[.int .i64 0, .string ⟨#[]⟩, .int .i64 0, .string ⟨#[]⟩, .int .i64 0, .int .i64 0] 48)) z)
  have hBS := Lib.hid (bytes_new (((w.alloc (.cells #[.int .i64 0, .int .i64 wy, .int .i64 nw, .int .i64 m0, .int .i64 m1, .string z, .string tn, .int .i64 tk, .bool tu, .int .i64 tf, .int .i64 ta, .int .i64 tb] 43)).alloc (.cells #[.int .i64 0, .string ⟨#[]⟩, .int .i64 0, .string ⟨#[]⟩, .int .i64 0, .int .i64 0] 48)).alloc (.cells #[.int .i64 0, .string ⟨#[]⟩, .int .i64 0, .string ⟨#[]⟩, .int .i64 0, .int .i64 0] 48)) z)
  have hcap3 := fun (W : World) => grownCap_ge W z.size 0 5
  have hlt3 : (((w.alloc (.cells #[.int .i64 0, .int .i64 wy, .int .i64 nw, .int .i64 m0, .int .i64 m1, .string z, .string tn, .int .i64 tk, .bool tu, .int .i64 tf, .int .i64 ta, .int .i64 tb] 43)).alloc (.cells #[.int .i64 0, .string ⟨#[]⟩, .int .i64 0, .string ⟨#[]⟩, .int .i64 0, .int .i64 0] 48)).alloc (.cells #[.int .i64 0, .string ⟨#[]⟩, .int .i64 0, .string ⟨#[]⟩, .int .i64 0, .int .i64 0] 48)).heap.size = w.heap.size + 3 := by simp
  clear h hB
  go_enter Tryz.func13, Tryz.ntmps13
  go_wp2_with fail
  refine (cSend_any (H.out.below hBy.out) ho wy nw _ _ z (hcap3 _) (by simpa using hBS.out) (fun g o e hF => by have := (hlt g hF).out; injection e with e; injection e with e; subst e; (try simp at this); omega) hM hs).mono ?_
  rintro e w1 ⟨rfl, hTD⟩
  obtain ⟨F', hC, hD, hS⟩ := hTD
  have hdB := Lib.hid ((Did.of_below (F := F) hBy.out).trans (Stem.refl _ _) hD)
  have qT := Lib.hid (show Stem F F' w from (Stem.refl F w).trans (Nat.le_trans HB.out.size hBy.out.size) hS)
  have qS := Lib.hid hC
  have qD := Lib.hid (show Did F w w1 from (Did.of_below HB.out).trans (Stem.refl _ _) hdB.out)
  have qA := Lib.hid (hA.out.did hdB.out (fun c => by have := (hlt _ c).out; simp at this; omega))
  have qR := Lib.hid (hR.out.did hdB.out (fun c => by have := (hlt _ c).out; simp at this; omega))
  rw [World.size_alloc, World.size_alloc] at qA
  rw [World.size_alloc] at qR
  clear hA hR H HB hlt hC hD hS hBy hBS hcap3 hcv hdB hlt3
  have a0 : w1.cell? ⟨w.heap.size + 2, 0, none⟩ = some (.int .i64 0) := (qA.out.cell 0).trans rfl
  have a1 : w1.cell? ⟨w.heap.size + 2, 1, none⟩ = some (.string ⟨#[]⟩) := (qA.out.cell 1).trans rfl
  have a2 : w1.cell? ⟨w.heap.size + 2, 2, none⟩ = some (.int .i64 0) := (qA.out.cell 2).trans rfl
  have a3 : w1.cell? ⟨w.heap.size + 2, 3, none⟩ = some (.string ⟨#[]⟩) := (qA.out.cell 3).trans rfl
  have a4 : w1.cell? ⟨w.heap.size + 2, 4, none⟩ = some (.int .i64 0) := (qA.out.cell 4).trans rfl
  have a5 : w1.cell? ⟨w.heap.size + 2, 5, none⟩ = some (.int .i64 0) := (qA.out.cell 5).trans rfl
  have r0 : w1.cell? ⟨w.heap.size + 1, 0, none⟩ = some (.int .i64 0) := (qR.out.cell 0).trans rfl
  have r1 : w1.cell? ⟨w.heap.size + 1, 1, none⟩ = some (.string ⟨#[]⟩) := (qR.out.cell 1).trans rfl
  have r2 : w1.cell? ⟨w.heap.size + 1, 2, none⟩ = some (.int .i64 0) := (qR.out.cell 2).trans rfl
  have r3 : w1.cell? ⟨w.heap.size + 1, 3, none⟩ = some (.string ⟨#[]⟩) := (qR.out.cell 3).trans rfl
  have r4 : w1.cell? ⟨w.heap.size + 1, 4, none⟩ = some (.int .i64 0) := (qR.out.cell 4).trans rfl
  have r5 : w1.cell? ⟨w.heap.size + 1, 5, none⟩ = some (.int .i64 0) := (qR.out.cell 5).trans rfl
  have fa0 := qA.out.free 0
  have fr0 := qR.out.free 0
  have fa1 := qA.out.free 1
  have fr1 := qR.out.free 1
  have fa2 := qA.out.free 2
  have fr2 := qR.out.free 2
  have fa3 := qA.out.free 3
  have fr3 := qR.out.free 3
  have fa4 := qA.out.free 4
  have fr4 := qR.out.free 4
  have fa5 := qA.out.free 5
  have fr5 := qR.out.free 5
  have la : w.heap.size + 2 < w1.heap.size := qA.out.lt
  have lr : w.heap.size + 1 < w1.heap.size := qR.out.lt
  go_wp2
  refine bodyPost_ret (v := (.agg #[.int .i64 (sendA x wy nw z), .string ⟨#[]⟩, .int .i64 0, .string ⟨#[]⟩, .int .i64 0, .int .i64 0])) (results_cell_row Tryz.results13 _ _ (w.heap.size + 1) 48 _ (0, 0) _ rfl (((((((qR.out.far (p := ⟨w.heap.size + 2, 0, none⟩) (by show w.heap.size + 1 ≠ w.heap.size + 2; omega) (.int .i64 (sendA x wy nw z))).set_ 0 (.int .i64 (sendA x wy nw z))).set_ 1 (.string ⟨#[]⟩)).set_ 2 (.int .i64 0)).set_ 3 (.string ⟨#[]⟩)).set_ 4 (.int .i64 0)).set_ 5 (.int .i64 0)) Tryz.underlying48 rfl (by kernel_rfl)) rfl ⟨rfl, F', ?_, ?_, qT.out⟩
  · have s0 := (qS.out.far qA.out (by decide) 0 (.int .i64 (sendA x wy nw z)))
    have b0 := (qR.out.far (p := ⟨w.heap.size + 2, 0, none⟩) (by show w.heap.size + 1 ≠ w.heap.size + 2; omega) (.int .i64 (sendA x wy nw z)))
    have s1 := s0.far b0 (by decide) 0 (.int .i64 (sendA x wy nw z))
    have b1 := b0.set_ 0 (.int .i64 (sendA x wy nw z))
    have s2 := s1.far b1 (by decide) 1 (.string ⟨#[]⟩)
    have b2 := b1.set_ 1 (.string ⟨#[]⟩)
    have s3 := s2.far b2 (by decide) 2 (.int .i64 0)
    have b3 := b2.set_ 2 (.int .i64 0)
    have s4 := s3.far b3 (by decide) 3 (.string ⟨#[]⟩)
    have b4 := b3.set_ 3 (.string ⟨#[]⟩)
    have s5 := s4.far b4 (by decide) 4 (.int .i64 0)
    have b5 := b4.set_ 4 (.int .i64 0)
    exact s5.far b5 (by decide) 5 (.int .i64 0)
  · exact (((((((qD.out.setCell (p := ⟨w.heap.size + 2, 0, none⟩) (.inr (by show w.heap.size ≤ w.heap.size + 2; omega)) (.int .i64 (sendA x wy nw z))).setCell (p := ⟨w.heap.size + 1, 0, none⟩) (.inr (by show w.heap.size ≤ w.heap.size + 1; omega)) _).setCell (p := ⟨w.heap.size + 1, 1, none⟩) (.inr (by show w.heap.size ≤ w.heap.size + 1; omega)) _).setCell (p := ⟨w.heap.size + 1, 2, none⟩) (.inr (by show w.heap.size ≤ w.heap.size + 1; omega)) _).setCell (p := ⟨w.heap.size + 1, 3, none⟩) (.inr (by show w.heap.size ≤ w.heap.size + 1; omega)) _).setCell (p := ⟨w.heap.size + 1, 4, none⟩) (.inr (by show w.heap.size ≤ w.heap.size + 1; omega)) _).setCell (p := ⟨w.heap.size + 1, 5, none⟩) (.inr (by show w.heap.size ≤ w.heap.size + 1; omega)) _)
theorem does_1 (h : CN w F b x) (wy nw m0 m1 : Int) (z tn : ByteArray) (tk : Int) (tu : Bool) (tf ta tb : Int) {M Q : Int} (ho : OkN x M Q) :
    Calls Tryz.prog 13 #[ptr b, .agg #[.int .i64 1, .int .i64 wy, .int .i64 nw, .int .i64 m0, .int .i64 m1, .string z, .string tn, .int .i64 tk, .bool tu, .int .i64 tf, .int .i64 ta, .int .i64 tb]] w (DoesQ F b w (finN x wy nw) (⟨0, ⟨#[]⟩, 0, ⟨#[]⟩, 0, 0⟩)) := by
  have hB := (((Below.refl w.heap.size w).alloc (Nat.le_refl _) (.cells #[.int .i64 1, .int .i64 wy, .int .i64 nw, .int .i64 m0, .int .i64 m1, .string z, .string tn, .int .i64 tk, .bool tu, .int .i64 tf, .int .i64 ta, .int .i64 tb] 43)).alloc (by simp) (.cells #[.int .i64 0, .string ⟨#[]⟩, .int .i64 0, .string ⟨#[]⟩, .int .i64 0, .int .i64 0] 48)).alloc (by simp; omega) (.cells #[.int .i64 0, .string ⟨#[]⟩, .int .i64 0, .string ⟨#[]⟩, .int .i64 0, .int .i64 0] 48)
  have hR := Lib.hid ((Blk.new (w.alloc (.cells #[.int .i64 1, .int .i64 wy, .int .i64 nw, .int .i64 m0, .int .i64 m1, .string z, .string tn, .int .i64 tk, .bool tu, .int .i64 tf, .int .i64 ta, .int .i64 tb] 43)) 48 #[.int .i64 0, .string ⟨#[]⟩, .int .i64 0, .string ⟨#[]⟩, .int .i64 0, .int .i64 0]).below ((Below.refl _ _).alloc (Nat.le_refl _) (.cells #[.int .i64 0, .string ⟨#[]⟩, .int .i64 0, .string ⟨#[]⟩, .int .i64 0, .int .i64 0] 48)))
  have hA := Lib.hid (Blk.new ((w.alloc (.cells #[.int .i64 1, .int .i64 wy, .int .i64 nw, .int .i64 m0, .int .i64 m1, .string z, .string tn, .int .i64 tk, .bool tu, .int .i64 tf, .int .i64 ta, .int .i64 tb] 43)).alloc (.cells #[.int .i64 0, .string ⟨#[]⟩, .int .i64 0, .string ⟨#[]⟩, .int .i64 0, .int .i64 0] 48)) 48 #[.int .i64 0, .string ⟨#[]⟩, .int .i64 0, .string ⟨#[]⟩, .int .i64 0, .int .i64 0])
  have H := Lib.hid (h.below hB)
  have HB := Lib.hid hB
  have hlt := fun j (hj : F j) => Lib.hid (h.lt hj)
  clear h hB
  go_enter Tryz.func13, Tryz.ntmps13
  go_wp2_with fail
  refine (cFinish_any H.out ho wy nw).mono ?_
  rintro e w1 ⟨rfl, hTD⟩
  obtain ⟨F', hC, hD, hS⟩ := hTD
  have qT := Lib.hid ((Stem.refl F w).trans HB.out.size hS)
  have qS := Lib.hid hC
  have qD := Lib.hid (show Did F w w1 from (Did.of_below HB.out).trans (Stem.refl _ _) hD)
  have qA := Lib.hid (hA.out.did hD (fun c => by have := (hlt _ c).out; simp at this; omega))
  have qR := Lib.hid (hR.out.did hD (fun c => by have := (hlt _ c).out; simp at this; omega))
  rw [World.size_alloc, World.size_alloc] at qA
  rw [World.size_alloc] at qR
  clear hA hR H HB hlt hC hD hS
  have a0 : w1.cell? ⟨w.heap.size + 2, 0, none⟩ = some (.int .i64 0) := (qA.out.cell 0).trans rfl
  have a1 : w1.cell? ⟨w.heap.size + 2, 1, none⟩ = some (.string ⟨#[]⟩) := (qA.out.cell 1).trans rfl
  have a2 : w1.cell? ⟨w.heap.size + 2, 2, none⟩ = some (.int .i64 0) := (qA.out.cell 2).trans rfl
  have a3 : w1.cell? ⟨w.heap.size + 2, 3, none⟩ = some (.string ⟨#[]⟩) := (qA.out.cell 3).trans rfl
  have a4 : w1.cell? ⟨w.heap.size + 2, 4, none⟩ = some (.int .i64 0) := (qA.out.cell 4).trans rfl
  have a5 : w1.cell? ⟨w.heap.size + 2, 5, none⟩ = some (.int .i64 0) := (qA.out.cell 5).trans rfl
  have r0 : w1.cell? ⟨w.heap.size + 1, 0, none⟩ = some (.int .i64 0) := (qR.out.cell 0).trans rfl
  have r1 : w1.cell? ⟨w.heap.size + 1, 1, none⟩ = some (.string ⟨#[]⟩) := (qR.out.cell 1).trans rfl
  have r2 : w1.cell? ⟨w.heap.size + 1, 2, none⟩ = some (.int .i64 0) := (qR.out.cell 2).trans rfl
  have r3 : w1.cell? ⟨w.heap.size + 1, 3, none⟩ = some (.string ⟨#[]⟩) := (qR.out.cell 3).trans rfl
  have r4 : w1.cell? ⟨w.heap.size + 1, 4, none⟩ = some (.int .i64 0) := (qR.out.cell 4).trans rfl
  have r5 : w1.cell? ⟨w.heap.size + 1, 5, none⟩ = some (.int .i64 0) := (qR.out.cell 5).trans rfl
  have fa0 := qA.out.free 0
  have fr0 := qR.out.free 0
  have fa1 := qA.out.free 1
  have fr1 := qR.out.free 1
  have fa2 := qA.out.free 2
  have fr2 := qR.out.free 2
  have fa3 := qA.out.free 3
  have fr3 := qR.out.free 3
  have fa4 := qA.out.free 4
  have fr4 := qR.out.free 4
  have fa5 := qA.out.free 5
  have fr5 := qR.out.free 5
  have la : w.heap.size + 2 < w1.heap.size := qA.out.lt
  have lr : w.heap.size + 1 < w1.heap.size := qR.out.lt
  go_wp2
  refine bodyPost_ret (v := (.agg #[.int .i64 0, .string ⟨#[]⟩, .int .i64 0, .string ⟨#[]⟩, .int .i64 0, .int .i64 0])) (results_cell_row Tryz.results13 _ _ (w.heap.size + 1) 48 _ (0, 0) _ rfl ((((((qR.out.set_ 0 (.int .i64 0)).set_ 1 (.string ⟨#[]⟩)).set_ 2 (.int .i64 0)).set_ 3 (.string ⟨#[]⟩)).set_ 4 (.int .i64 0)).set_ 5 (.int .i64 0)) Tryz.underlying48 rfl (by kernel_rfl)) rfl ⟨rfl, F', ?_, ?_, qT.out⟩
  · have s0 := qS.out
    have b0 := qR.out
    have s1 := s0.far b0 (by decide) 0 (.int .i64 0)
    have b1 := b0.set_ 0 (.int .i64 0)
    have s2 := s1.far b1 (by decide) 1 (.string ⟨#[]⟩)
    have b2 := b1.set_ 1 (.string ⟨#[]⟩)
    have s3 := s2.far b2 (by decide) 2 (.int .i64 0)
    have b3 := b2.set_ 2 (.int .i64 0)
    have s4 := s3.far b3 (by decide) 3 (.string ⟨#[]⟩)
    have b4 := b3.set_ 3 (.string ⟨#[]⟩)
    have s5 := s4.far b4 (by decide) 4 (.int .i64 0)
    have b5 := b4.set_ 4 (.int .i64 0)
    exact s5.far b5 (by decide) 5 (.int .i64 0)
  · exact ((((((qD.out.setCell (p := ⟨w.heap.size + 1, 0, none⟩) (.inr (by show w.heap.size ≤ w.heap.size + 1; omega)) _).setCell (p := ⟨w.heap.size + 1, 1, none⟩) (.inr (by show w.heap.size ≤ w.heap.size + 1; omega)) _).setCell (p := ⟨w.heap.size + 1, 2, none⟩) (.inr (by show w.heap.size ≤ w.heap.size + 1; omega)) _).setCell (p := ⟨w.heap.size + 1, 3, none⟩) (.inr (by show w.heap.size ≤ w.heap.size + 1; omega)) _).setCell (p := ⟨w.heap.size + 1, 4, none⟩) (.inr (by show w.heap.size ≤ w.heap.size + 1; omega)) _).setCell (p := ⟨w.heap.size + 1, 5, none⟩) (.inr (by show w.heap.size ≤ w.heap.size + 1; omega)) _)
theorem does_2 (h : CN w F b x) (wy nw m0 m1 : Int) (z tn : ByteArray) (tk : Int) (tu : Bool) (tf ta tb : Int) {M Q : Int} (ho : OkN x M Q) (hM : M ≤ 1000000000) (hQ : 0 ≤ Q) {d : Int} (hd : Dr x d) (hn : d + 1 ≤ 1000000000) :
    Calls Tryz.prog 13 #[ptr b, .agg #[.int .i64 2, .int .i64 wy, .int .i64 nw, .int .i64 m0, .int .i64 m1, .string z, .string tn, .int .i64 tk, .bool tu, .int .i64 tf, .int .i64 ta, .int .i64 tb]] w (DoesQ F b w (cutN x) (⟨0, ⟨#[]⟩, 0, ⟨#[]⟩, 0, 0⟩)) := by
  have hB := (((Below.refl w.heap.size w).alloc (Nat.le_refl _) (.cells #[.int .i64 2, .int .i64 wy, .int .i64 nw, .int .i64 m0, .int .i64 m1, .string z, .string tn, .int .i64 tk, .bool tu, .int .i64 tf, .int .i64 ta, .int .i64 tb] 43)).alloc (by simp) (.cells #[.int .i64 0, .string ⟨#[]⟩, .int .i64 0, .string ⟨#[]⟩, .int .i64 0, .int .i64 0] 48)).alloc (by simp; omega) (.cells #[.int .i64 0, .string ⟨#[]⟩, .int .i64 0, .string ⟨#[]⟩, .int .i64 0, .int .i64 0] 48)
  have hR := Lib.hid ((Blk.new (w.alloc (.cells #[.int .i64 2, .int .i64 wy, .int .i64 nw, .int .i64 m0, .int .i64 m1, .string z, .string tn, .int .i64 tk, .bool tu, .int .i64 tf, .int .i64 ta, .int .i64 tb] 43)) 48 #[.int .i64 0, .string ⟨#[]⟩, .int .i64 0, .string ⟨#[]⟩, .int .i64 0, .int .i64 0]).below ((Below.refl _ _).alloc (Nat.le_refl _) (.cells #[.int .i64 0, .string ⟨#[]⟩, .int .i64 0, .string ⟨#[]⟩, .int .i64 0, .int .i64 0] 48)))
  have hA := Lib.hid (Blk.new ((w.alloc (.cells #[.int .i64 2, .int .i64 wy, .int .i64 nw, .int .i64 m0, .int .i64 m1, .string z, .string tn, .int .i64 tk, .bool tu, .int .i64 tf, .int .i64 ta, .int .i64 tb] 43)).alloc (.cells #[.int .i64 0, .string ⟨#[]⟩, .int .i64 0, .string ⟨#[]⟩, .int .i64 0, .int .i64 0] 48)) 48 #[.int .i64 0, .string ⟨#[]⟩, .int .i64 0, .string ⟨#[]⟩, .int .i64 0, .int .i64 0])
  have H := Lib.hid (h.below hB)
  have HB := Lib.hid hB
  have hlt := fun j (hj : F j) => Lib.hid (h.lt hj)
  clear h hB
  go_enter Tryz.func13, Tryz.ntmps13
  go_wp2_with fail
  refine (cCut_any H.out ho hM hQ hd hn nw).mono ?_
  rintro e w1 ⟨rfl, hTD⟩
  obtain ⟨F', hC, hD, hS⟩ := hTD
  have qT := Lib.hid ((Stem.refl F w).trans HB.out.size hS)
  have qS := Lib.hid hC
  have qD := Lib.hid (show Did F w w1 from (Did.of_below HB.out).trans (Stem.refl _ _) hD)
  have qA := Lib.hid (hA.out.did hD (fun c => by have := (hlt _ c).out; simp at this; omega))
  have qR := Lib.hid (hR.out.did hD (fun c => by have := (hlt _ c).out; simp at this; omega))
  rw [World.size_alloc, World.size_alloc] at qA
  rw [World.size_alloc] at qR
  clear hA hR H HB hlt hC hD hS
  have a0 : w1.cell? ⟨w.heap.size + 2, 0, none⟩ = some (.int .i64 0) := (qA.out.cell 0).trans rfl
  have a1 : w1.cell? ⟨w.heap.size + 2, 1, none⟩ = some (.string ⟨#[]⟩) := (qA.out.cell 1).trans rfl
  have a2 : w1.cell? ⟨w.heap.size + 2, 2, none⟩ = some (.int .i64 0) := (qA.out.cell 2).trans rfl
  have a3 : w1.cell? ⟨w.heap.size + 2, 3, none⟩ = some (.string ⟨#[]⟩) := (qA.out.cell 3).trans rfl
  have a4 : w1.cell? ⟨w.heap.size + 2, 4, none⟩ = some (.int .i64 0) := (qA.out.cell 4).trans rfl
  have a5 : w1.cell? ⟨w.heap.size + 2, 5, none⟩ = some (.int .i64 0) := (qA.out.cell 5).trans rfl
  have r0 : w1.cell? ⟨w.heap.size + 1, 0, none⟩ = some (.int .i64 0) := (qR.out.cell 0).trans rfl
  have r1 : w1.cell? ⟨w.heap.size + 1, 1, none⟩ = some (.string ⟨#[]⟩) := (qR.out.cell 1).trans rfl
  have r2 : w1.cell? ⟨w.heap.size + 1, 2, none⟩ = some (.int .i64 0) := (qR.out.cell 2).trans rfl
  have r3 : w1.cell? ⟨w.heap.size + 1, 3, none⟩ = some (.string ⟨#[]⟩) := (qR.out.cell 3).trans rfl
  have r4 : w1.cell? ⟨w.heap.size + 1, 4, none⟩ = some (.int .i64 0) := (qR.out.cell 4).trans rfl
  have r5 : w1.cell? ⟨w.heap.size + 1, 5, none⟩ = some (.int .i64 0) := (qR.out.cell 5).trans rfl
  have fa0 := qA.out.free 0
  have fr0 := qR.out.free 0
  have fa1 := qA.out.free 1
  have fr1 := qR.out.free 1
  have fa2 := qA.out.free 2
  have fr2 := qR.out.free 2
  have fa3 := qA.out.free 3
  have fr3 := qR.out.free 3
  have fa4 := qA.out.free 4
  have fr4 := qR.out.free 4
  have fa5 := qA.out.free 5
  have fr5 := qR.out.free 5
  have la : w.heap.size + 2 < w1.heap.size := qA.out.lt
  have lr : w.heap.size + 1 < w1.heap.size := qR.out.lt
  go_wp2
  refine bodyPost_ret (v := (.agg #[.int .i64 0, .string ⟨#[]⟩, .int .i64 0, .string ⟨#[]⟩, .int .i64 0, .int .i64 0])) (results_cell_row Tryz.results13 _ _ (w.heap.size + 1) 48 _ (0, 0) _ rfl ((((((qR.out.set_ 0 (.int .i64 0)).set_ 1 (.string ⟨#[]⟩)).set_ 2 (.int .i64 0)).set_ 3 (.string ⟨#[]⟩)).set_ 4 (.int .i64 0)).set_ 5 (.int .i64 0)) Tryz.underlying48 rfl (by kernel_rfl)) rfl ⟨rfl, F', ?_, ?_, qT.out⟩
  · have s0 := qS.out
    have b0 := qR.out
    have s1 := s0.far b0 (by decide) 0 (.int .i64 0)
    have b1 := b0.set_ 0 (.int .i64 0)
    have s2 := s1.far b1 (by decide) 1 (.string ⟨#[]⟩)
    have b2 := b1.set_ 1 (.string ⟨#[]⟩)
    have s3 := s2.far b2 (by decide) 2 (.int .i64 0)
    have b3 := b2.set_ 2 (.int .i64 0)
    have s4 := s3.far b3 (by decide) 3 (.string ⟨#[]⟩)
    have b4 := b3.set_ 3 (.string ⟨#[]⟩)
    have s5 := s4.far b4 (by decide) 4 (.int .i64 0)
    have b5 := b4.set_ 4 (.int .i64 0)
    exact s5.far b5 (by decide) 5 (.int .i64 0)
  · exact ((((((qD.out.setCell (p := ⟨w.heap.size + 1, 0, none⟩) (.inr (by show w.heap.size ≤ w.heap.size + 1; omega)) _).setCell (p := ⟨w.heap.size + 1, 1, none⟩) (.inr (by show w.heap.size ≤ w.heap.size + 1; omega)) _).setCell (p := ⟨w.heap.size + 1, 2, none⟩) (.inr (by show w.heap.size ≤ w.heap.size + 1; omega)) _).setCell (p := ⟨w.heap.size + 1, 3, none⟩) (.inr (by show w.heap.size ≤ w.heap.size + 1; omega)) _).setCell (p := ⟨w.heap.size + 1, 4, none⟩) (.inr (by show w.heap.size ≤ w.heap.size + 1; omega)) _).setCell (p := ⟨w.heap.size + 1, 5, none⟩) (.inr (by show w.heap.size ≤ w.heap.size + 1; omega)) _)
def acells (u0 u1 : ByteArray) (v0 v1 : Int) (k : Nat) : Array Value := if k = 0 then #[.int .i64 0, .string ⟨#[]⟩, .int .i64 0, .string ⟨#[]⟩, .int .i64 0, .int .i64 0] else if k = 1 then #[.int .i64 0, .string u0, .int .i64 v0, .string ⟨#[]⟩, .int .i64 0, .int .i64 0] else #[.int .i64 0, .string u0, .int .i64 v0, .string u1, .int .i64 v1, .int .i64 0]
theorem idx_out (u0 u1 : ByteArray) (v0 v1 : Int) (W : World) : (Instr.index 64 (.agg #[.string u0, .int .i64 v0, .string u1, .int .i64 v1]) (.int .i64 0)).run Tryz.prog W = .ok (.agg #[.string u0, .int .i64 v0]) W ∧ (Instr.index 64 (.agg #[.string u0, .int .i64 v0, .string u1, .int .i64 v1]) (.int .i64 1)).run Tryz.prog W = .ok (.agg #[.string u1, .int .i64 v1]) W := by
  constructor <;> rfl
structure TInv (w wr : World) (F F' : Nat → Prop) (b : Nat) (y : Cn) (u0 u1 : ByteArray) (v0 v1 : Int) (k : Nat) : Prop where
  S : CN wr F' b y
  D : Did F w wr
  A : Blk wr (w.heap.size + 2) 48 (acells u0 u1 v0 v1 k)
  R : Blk wr (w.heap.size + 1) 48 #[.int .i64 0, .string ⟨#[]⟩, .int .i64 0, .string ⟨#[]⟩, .int .i64 0, .int .i64 0]
theorem TInv.set2 {w wr : World} {F F' : Nat → Prop} {b : Nat} {y : Cn} {u0 u1 : ByteArray} {v0 v1 : Int} {k : Nat} (h : TInv w wr F F' b y u0 u1 v0 v1 k) (o : Obj) (i j : Nat) (p q : Value) (k' : Nat) (e : ((acells u0 u1 v0 v1 k).setIfInBounds i p).setIfInBounds j q = acells u0 u1 v0 v1 k') :
    TInv w (((wr.setCell ⟨w.heap.size + 2, i, none⟩ p).setCell ⟨w.heap.size + 2, j, none⟩ q).alloc o) F F' b y u0 u1 v0 v1 k' := by
  have hA1 := h.A.set_ i p
  have hA2 := hA1.set_ j q
  rw [e] at hA2
  have hS2 := (h.S.far h.A (by decide) i p).far hA1 (by decide) j q
  have hR2 := (h.R.far (p := ⟨w.heap.size + 2, i, none⟩) (by show w.heap.size + 1 ≠ w.heap.size + 2; omega) p).far (p := ⟨w.heap.size + 2, j, none⟩) (by show w.heap.size + 1 ≠ w.heap.size + 2; omega) q
  have hD2 := (h.D.setCell (p := ⟨w.heap.size + 2, i, none⟩) (.inr (by show w.heap.size ≤ w.heap.size + 2; omega)) p).setCell (p := ⟨w.heap.size + 2, j, none⟩) (.inr (by show w.heap.size ≤ w.heap.size + 2; omega)) q
  generalize ((wr.setCell ⟨w.heap.size + 2, i, none⟩ p).setCell ⟨w.heap.size + 2, j, none⟩ q) = W at *
  have hb := (Below.refl W.heap.size W).alloc (Nat.le_refl _) o
  exact ⟨hS2.below hb, hD2.trans (Stem.refl _ _) (Did.of_below (F := F) hb), hA2.below hb, hR2.below hb⟩
set_option maxHeartbeats 2000000 in
theorem does_3 (h : CN w F b x) (wy nw m0 m1 : Int) (z tn : ByteArray) (tk : Int) (tu : Bool) (tf ta tb : Int) {M Q : Int} (ho : OkN x M Q) (hM : M ≤ 1000000) (hQ : Q + 200 * M ≤ 100000000) {g : Int} (hg : Go x g) (hgM : g + 5 * M ≤ 1000000000) (hQ0 : 0 ≤ Q) {d : Int} (hd : Dr x d) (hn : d + 1 ≤ 1000000000) :
    Calls Tryz.prog 13 #[ptr b, .agg #[.int .i64 3, .int .i64 wy, .int .i64 nw, .int .i64 m0, .int .i64 m1, .string z, .string tn, .int .i64 tk, .bool tu, .int .i64 tf, .int .i64 ta, .int .i64 tb]] w (DoesQ F b w (stepN x nw m0 m1) (⟨0, (outA x nw m0 m1).1, (outA x nw m0 m1).2, (outB x nw m0 m1).1, (outB x nw m0 m1).2, 0⟩)) := by
  have hB := (((Below.refl w.heap.size w).alloc (Nat.le_refl _) (.cells #[.int .i64 3, .int .i64 wy, .int .i64 nw, .int .i64 m0, .int .i64 m1, .string z, .string tn, .int .i64 tk, .bool tu, .int .i64 tf, .int .i64 ta, .int .i64 tb] 43)).alloc (by simp) (.cells #[.int .i64 0, .string ⟨#[]⟩, .int .i64 0, .string ⟨#[]⟩, .int .i64 0, .int .i64 0] 48)).alloc (by simp; omega) (.cells #[.int .i64 0, .string ⟨#[]⟩, .int .i64 0, .string ⟨#[]⟩, .int .i64 0, .int .i64 0] 48)
  have hR := Lib.hid ((Blk.new (w.alloc (.cells #[.int .i64 3, .int .i64 wy, .int .i64 nw, .int .i64 m0, .int .i64 m1, .string z, .string tn, .int .i64 tk, .bool tu, .int .i64 tf, .int .i64 ta, .int .i64 tb] 43)) 48 #[.int .i64 0, .string ⟨#[]⟩, .int .i64 0, .string ⟨#[]⟩, .int .i64 0, .int .i64 0]).below ((Below.refl _ _).alloc (Nat.le_refl _) (.cells #[.int .i64 0, .string ⟨#[]⟩, .int .i64 0, .string ⟨#[]⟩, .int .i64 0, .int .i64 0] 48)))
  have hA := Lib.hid (Blk.new ((w.alloc (.cells #[.int .i64 3, .int .i64 wy, .int .i64 nw, .int .i64 m0, .int .i64 m1, .string z, .string tn, .int .i64 tk, .bool tu, .int .i64 tf, .int .i64 ta, .int .i64 tb] 43)).alloc (.cells #[.int .i64 0, .string ⟨#[]⟩, .int .i64 0, .string ⟨#[]⟩, .int .i64 0, .int .i64 0] 48)) 48 #[.int .i64 0, .string ⟨#[]⟩, .int .i64 0, .string ⟨#[]⟩, .int .i64 0, .int .i64 0])
  have H := Lib.hid (h.below hB)
  have HB := Lib.hid hB
  have hlt := fun j (hj : F j) => Lib.hid (h.lt hj)
  clear h hB
  go_enter Tryz.func13, Tryz.ntmps13
  go_wp2_with fail
  refine (cStep_any H.out ho hM hQ hg hgM hQ0 hd hn nw m0 m1).mono ?_
  rintro e w1 ⟨rfl, hTD⟩
  obtain ⟨F', hC, hD, hS⟩ := hTD
  have qT := Lib.hid ((Stem.refl F w).trans HB.out.size hS)
  have qS := Lib.hid hC
  have qD := Lib.hid (show Did F w w1 from (Did.of_below HB.out).trans (Stem.refl _ _) hD)
  have qA := Lib.hid (hA.out.did hD (fun c => by have := (hlt _ c).out; simp at this; omega))
  have qR := Lib.hid (hR.out.did hD (fun c => by have := (hlt _ c).out; simp at this; omega))
  rw [World.size_alloc, World.size_alloc] at qA
  rw [World.size_alloc] at qR
  clear hA hR H HB hlt hC hD hS
  generalize (outA x nw m0 m1).1 = u0 at *
  generalize (outA x nw m0 m1).2 = v0 at *
  generalize (outB x nw m0 m1).1 = u1 at *
  generalize (outB x nw m0 m1).2 = v1 at *
  generalize stepN x nw m0 m1 = y at *
  have hI0 := Lib.hid (show TInv w w1 F F' b y u0 u1 v0 v1 0 from ⟨qS.out, qD.out, qA.out, qR.out⟩)
  clear qS qD qA qR hg hgM hd hM hQ hQ0 ho hn
  go_wp2
  go_loopw [44] (fun p wr => ∃ k : Nat, k ≤ 2 ∧ p = .int .i64 k ∧ TInv w wr F F' b y u0 u1 v0 v1 k) (fun p wr => 2 - (intOf p).toNat)
  case atStart => exact ⟨0, by omega, rfl, hI0.out⟩
  case round =>
    obtain ⟨k, hk, rfl, hI⟩ := hrel
    have hII := Lib.hid hI
    clear hI0 hI
    have h3 : k = 0 ∨ k = 1 ∨ k = 2 := by omega
    rcases h3 with rfl | rfl | rfl
    · have hix := (idx_out u0 u1 v0 v1 wr).1
      have hn := Lib.hid (hII.out.set2 (.cells #[.string u0, .int .i64 v0] 63) 1 2 (.string u0) (.int .i64 v0) 1 rfl)
      have fa := hII.out.A.free 1
      have fb := hII.out.A.free 2
      have ca : wr.cell? ⟨w.heap.size + 2, 1, none⟩ = some (.string ⟨#[]⟩) := (hII.out.A.cell 1).trans rfl
      have cb : wr.cell? ⟨w.heap.size + 2, 2, none⟩ = some (.int .i64 0) := (hII.out.A.cell 2).trans rfl
      have la : w.heap.size + 2 < wr.heap.size := hII.out.A.lt
      clear hII
      go_wp2
      go_roundw
      case rel => exact ⟨0 + 1, by omega, by go_num, hn.out⟩
      case measure => simp [intOf]
    · have hix := (idx_out u0 u1 v0 v1 wr).2
      have hn := Lib.hid (hII.out.set2 (.cells #[.string u1, .int .i64 v1] 63) 3 4 (.string u1) (.int .i64 v1) 2 rfl)
      have fa := hII.out.A.free 3
      have fb := hII.out.A.free 4
      have ca : wr.cell? ⟨w.heap.size + 2, 3, none⟩ = some (.string ⟨#[]⟩) := (hII.out.A.cell 3).trans rfl
      have cb : wr.cell? ⟨w.heap.size + 2, 4, none⟩ = some (.int .i64 0) := (hII.out.A.cell 4).trans rfl
      have la : w.heap.size + 2 < wr.heap.size := hII.out.A.lt
      clear hII
      go_wp2
      go_roundw
      case rel => exact ⟨1 + 1, by omega, by go_num, hn.out⟩
      case measure => simp [intOf]
    · rw [show ((2 : Nat) : Int) = 2 from rfl]
      have qS := Lib.hid hII.out.S
      have qD := Lib.hid hII.out.D
      have qA := Lib.hid hII.out.A
      have qR := Lib.hid hII.out.R
      unfold acells at qA
      simp only [show (2 : Nat) ≠ 0 from by decide, show (2 : Nat) ≠ 1 from by decide, if_false] at qA
      clear hII
      have a0 : wr.cell? ⟨w.heap.size + 2, 0, none⟩ = some (.int .i64 0) := (qA.out.cell 0).trans rfl
      have a1 : wr.cell? ⟨w.heap.size + 2, 1, none⟩ = some (.string u0) := (qA.out.cell 1).trans rfl
      have a2 : wr.cell? ⟨w.heap.size + 2, 2, none⟩ = some (.int .i64 v0) := (qA.out.cell 2).trans rfl
      have a3 : wr.cell? ⟨w.heap.size + 2, 3, none⟩ = some (.string u1) := (qA.out.cell 3).trans rfl
      have a4 : wr.cell? ⟨w.heap.size + 2, 4, none⟩ = some (.int .i64 v1) := (qA.out.cell 4).trans rfl
      have a5 : wr.cell? ⟨w.heap.size + 2, 5, none⟩ = some (.int .i64 0) := (qA.out.cell 5).trans rfl
      have r0 : wr.cell? ⟨w.heap.size + 1, 0, none⟩ = some (.int .i64 0) := (qR.out.cell 0).trans rfl
      have r1 : wr.cell? ⟨w.heap.size + 1, 1, none⟩ = some (.string ⟨#[]⟩) := (qR.out.cell 1).trans rfl
      have r2 : wr.cell? ⟨w.heap.size + 1, 2, none⟩ = some (.int .i64 0) := (qR.out.cell 2).trans rfl
      have r3 : wr.cell? ⟨w.heap.size + 1, 3, none⟩ = some (.string ⟨#[]⟩) := (qR.out.cell 3).trans rfl
      have r4 : wr.cell? ⟨w.heap.size + 1, 4, none⟩ = some (.int .i64 0) := (qR.out.cell 4).trans rfl
      have r5 : wr.cell? ⟨w.heap.size + 1, 5, none⟩ = some (.int .i64 0) := (qR.out.cell 5).trans rfl
      have fa0 := qA.out.free 0
      have fr0 := qR.out.free 0
      have fa1 := qA.out.free 1
      have fr1 := qR.out.free 1
      have fa2 := qA.out.free 2
      have fr2 := qR.out.free 2
      have fa3 := qA.out.free 3
      have fr3 := qR.out.free 3
      have fa4 := qA.out.free 4
      have fr4 := qR.out.free 4
      have fa5 := qA.out.free 5
      have fr5 := qR.out.free 5
      have la : w.heap.size + 2 < wr.heap.size := qA.out.lt
      have lr : w.heap.size + 1 < wr.heap.size := qR.out.lt
      go_wp2
      refine bodyPost_ret (v := (.agg #[.int .i64 0, .string u0, .int .i64 v0, .string u1, .int .i64 v1, .int .i64 0])) (results_cell_row Tryz.results13 _ _ (w.heap.size + 1) 48 _ (0, 0) _ rfl ((((((qR.out.set_ 0 (.int .i64 0)).set_ 1 (.string u0)).set_ 2 (.int .i64 v0)).set_ 3 (.string u1)).set_ 4 (.int .i64 v1)).set_ 5 (.int .i64 0)) Tryz.underlying48 rfl (by kernel_rfl)) rfl ⟨rfl, F', ?_, ?_, qT.out⟩
      · have s0 := qS.out
        have b0 := qR.out
        have s1 := s0.far b0 (by decide) 0 (.int .i64 0)
        have b1 := b0.set_ 0 (.int .i64 0)
        have s2 := s1.far b1 (by decide) 1 (.string u0)
        have b2 := b1.set_ 1 (.string u0)
        have s3 := s2.far b2 (by decide) 2 (.int .i64 v0)
        have b3 := b2.set_ 2 (.int .i64 v0)
        have s4 := s3.far b3 (by decide) 3 (.string u1)
        have b4 := b3.set_ 3 (.string u1)
        have s5 := s4.far b4 (by decide) 4 (.int .i64 v1)
        have b5 := b4.set_ 4 (.int .i64 v1)
        exact s5.far b5 (by decide) 5 (.int .i64 0)
      · exact ((((((qD.out.setCell (p := ⟨w.heap.size + 1, 0, none⟩) (.inr (by show w.heap.size ≤ w.heap.size + 1; omega)) _).setCell (p := ⟨w.heap.size + 1, 1, none⟩) (.inr (by show w.heap.size ≤ w.heap.size + 1; omega)) _).setCell (p := ⟨w.heap.size + 1, 2, none⟩) (.inr (by show w.heap.size ≤ w.heap.size + 1; omega)) _).setCell (p := ⟨w.heap.size + 1, 3, none⟩) (.inr (by show w.heap.size ≤ w.heap.size + 1; omega)) _).setCell (p := ⟨w.heap.size + 1, 4, none⟩) (.inr (by show w.heap.size ≤ w.heap.size + 1; omega)) _).setCell (p := ⟨w.heap.size + 1, 5, none⟩) (.inr (by show w.heap.size ≤ w.heap.size + 1; omega)) _)
theorem does_4 (h : CN w F b x) (wy nw m0 m1 : Int) (z tn : ByteArray) (tk : Int) (tu : Bool) (tf ta tb : Int) {M Q : Int} (ho : OkN x M Q) (hn16 : x.names.length ≤ 100) :
    Calls Tryz.prog 13 #[ptr b, .agg #[.int .i64 4, .int .i64 wy, .int .i64 nw, .int .i64 m0, .int .i64 m1, .string z, .string tn, .int .i64 tk, .bool tu, .int .i64 tf, .int .i64 ta, .int .i64 tb]] w (DoesQ F b w (addN x ⟨tn, tk, tu, tf, ta, tb⟩ nw) (⟨0, ⟨#[]⟩, 0, ⟨#[]⟩, 0, addNE x ⟨tn, tk, tu, tf, ta, tb⟩⟩)) := by
  have hB := (((Below.refl w.heap.size w).alloc (Nat.le_refl _) (.cells #[.int .i64 4, .int .i64 wy, .int .i64 nw, .int .i64 m0, .int .i64 m1, .string z, .string tn, .int .i64 tk, .bool tu, .int .i64 tf, .int .i64 ta, .int .i64 tb] 43)).alloc (by simp) (.cells #[.int .i64 0, .string ⟨#[]⟩, .int .i64 0, .string ⟨#[]⟩, .int .i64 0, .int .i64 0] 48)).alloc (by simp; omega) (.cells #[.int .i64 0, .string ⟨#[]⟩, .int .i64 0, .string ⟨#[]⟩, .int .i64 0, .int .i64 0] 48)
  have hR := Lib.hid ((Blk.new (w.alloc (.cells #[.int .i64 4, .int .i64 wy, .int .i64 nw, .int .i64 m0, .int .i64 m1, .string z, .string tn, .int .i64 tk, .bool tu, .int .i64 tf, .int .i64 ta, .int .i64 tb] 43)) 48 #[.int .i64 0, .string ⟨#[]⟩, .int .i64 0, .string ⟨#[]⟩, .int .i64 0, .int .i64 0]).below ((Below.refl _ _).alloc (Nat.le_refl _) (.cells #[.int .i64 0, .string ⟨#[]⟩, .int .i64 0, .string ⟨#[]⟩, .int .i64 0, .int .i64 0] 48)))
  have hA := Lib.hid (Blk.new ((w.alloc (.cells #[.int .i64 4, .int .i64 wy, .int .i64 nw, .int .i64 m0, .int .i64 m1, .string z, .string tn, .int .i64 tk, .bool tu, .int .i64 tf, .int .i64 ta, .int .i64 tb] 43)).alloc (.cells #[.int .i64 0, .string ⟨#[]⟩, .int .i64 0, .string ⟨#[]⟩, .int .i64 0, .int .i64 0] 48)) 48 #[.int .i64 0, .string ⟨#[]⟩, .int .i64 0, .string ⟨#[]⟩, .int .i64 0, .int .i64 0])
  have H := Lib.hid (h.below hB)
  have HB := Lib.hid hB
  have hlt := fun j (hj : F j) => Lib.hid (h.lt hj)
  clear h hB
  go_enter Tryz.func13, Tryz.ntmps13
  go_wp2_with fail
  refine (cAdd_any H.out ho hn16 ⟨tn, tk, tu, tf, ta, tb⟩ nw).mono ?_
  rintro e w1 ⟨rfl, hTD⟩
  obtain ⟨F', hC, hD, hS⟩ := hTD
  have qT := Lib.hid ((Stem.refl F w).trans HB.out.size hS)
  have qS := Lib.hid hC
  have qD := Lib.hid (show Did F w w1 from (Did.of_below HB.out).trans (Stem.refl _ _) hD)
  have qA := Lib.hid (hA.out.did hD (fun c => by have := (hlt _ c).out; simp at this; omega))
  have qR := Lib.hid (hR.out.did hD (fun c => by have := (hlt _ c).out; simp at this; omega))
  rw [World.size_alloc, World.size_alloc] at qA
  rw [World.size_alloc] at qR
  clear hA hR H HB hlt hC hD hS
  have a0 : w1.cell? ⟨w.heap.size + 2, 0, none⟩ = some (.int .i64 0) := (qA.out.cell 0).trans rfl
  have a1 : w1.cell? ⟨w.heap.size + 2, 1, none⟩ = some (.string ⟨#[]⟩) := (qA.out.cell 1).trans rfl
  have a2 : w1.cell? ⟨w.heap.size + 2, 2, none⟩ = some (.int .i64 0) := (qA.out.cell 2).trans rfl
  have a3 : w1.cell? ⟨w.heap.size + 2, 3, none⟩ = some (.string ⟨#[]⟩) := (qA.out.cell 3).trans rfl
  have a4 : w1.cell? ⟨w.heap.size + 2, 4, none⟩ = some (.int .i64 0) := (qA.out.cell 4).trans rfl
  have a5 : w1.cell? ⟨w.heap.size + 2, 5, none⟩ = some (.int .i64 0) := (qA.out.cell 5).trans rfl
  have r0 : w1.cell? ⟨w.heap.size + 1, 0, none⟩ = some (.int .i64 0) := (qR.out.cell 0).trans rfl
  have r1 : w1.cell? ⟨w.heap.size + 1, 1, none⟩ = some (.string ⟨#[]⟩) := (qR.out.cell 1).trans rfl
  have r2 : w1.cell? ⟨w.heap.size + 1, 2, none⟩ = some (.int .i64 0) := (qR.out.cell 2).trans rfl
  have r3 : w1.cell? ⟨w.heap.size + 1, 3, none⟩ = some (.string ⟨#[]⟩) := (qR.out.cell 3).trans rfl
  have r4 : w1.cell? ⟨w.heap.size + 1, 4, none⟩ = some (.int .i64 0) := (qR.out.cell 4).trans rfl
  have r5 : w1.cell? ⟨w.heap.size + 1, 5, none⟩ = some (.int .i64 0) := (qR.out.cell 5).trans rfl
  have fa0 := qA.out.free 0
  have fr0 := qR.out.free 0
  have fa1 := qA.out.free 1
  have fr1 := qR.out.free 1
  have fa2 := qA.out.free 2
  have fr2 := qR.out.free 2
  have fa3 := qA.out.free 3
  have fr3 := qR.out.free 3
  have fa4 := qA.out.free 4
  have fr4 := qR.out.free 4
  have fa5 := qA.out.free 5
  have fr5 := qR.out.free 5
  have la : w.heap.size + 2 < w1.heap.size := qA.out.lt
  have lr : w.heap.size + 1 < w1.heap.size := qR.out.lt
  go_wp2
  refine bodyPost_ret (v := (.agg #[.int .i64 0, .string ⟨#[]⟩, .int .i64 0, .string ⟨#[]⟩, .int .i64 0, .int .i64 (addNE x ⟨tn, tk, tu, tf, ta, tb⟩)])) (results_cell_row Tryz.results13 _ _ (w.heap.size + 1) 48 _ (0, 0) _ rfl (((((((qR.out.far (p := ⟨w.heap.size + 2, 5, none⟩) (by show w.heap.size + 1 ≠ w.heap.size + 2; omega) (.int .i64 (addNE x ⟨tn, tk, tu, tf, ta, tb⟩))).set_ 0 (.int .i64 0)).set_ 1 (.string ⟨#[]⟩)).set_ 2 (.int .i64 0)).set_ 3 (.string ⟨#[]⟩)).set_ 4 (.int .i64 0)).set_ 5 (.int .i64 (addNE x ⟨tn, tk, tu, tf, ta, tb⟩))) Tryz.underlying48 rfl (by kernel_rfl)) rfl ⟨rfl, F', ?_, ?_, qT.out⟩
  · have s0 := (qS.out.far qA.out (by decide) 5 (.int .i64 (addNE x ⟨tn, tk, tu, tf, ta, tb⟩)))
    have b0 := (qR.out.far (p := ⟨w.heap.size + 2, 5, none⟩) (by show w.heap.size + 1 ≠ w.heap.size + 2; omega) (.int .i64 (addNE x ⟨tn, tk, tu, tf, ta, tb⟩)))
    have s1 := s0.far b0 (by decide) 0 (.int .i64 0)
    have b1 := b0.set_ 0 (.int .i64 0)
    have s2 := s1.far b1 (by decide) 1 (.string ⟨#[]⟩)
    have b2 := b1.set_ 1 (.string ⟨#[]⟩)
    have s3 := s2.far b2 (by decide) 2 (.int .i64 0)
    have b3 := b2.set_ 2 (.int .i64 0)
    have s4 := s3.far b3 (by decide) 3 (.string ⟨#[]⟩)
    have b4 := b3.set_ 3 (.string ⟨#[]⟩)
    have s5 := s4.far b4 (by decide) 4 (.int .i64 0)
    have b5 := b4.set_ 4 (.int .i64 0)
    exact s5.far b5 (by decide) 5 (.int .i64 (addNE x ⟨tn, tk, tu, tf, ta, tb⟩))
  · exact (((((((qD.out.setCell (p := ⟨w.heap.size + 2, 5, none⟩) (.inr (by show w.heap.size ≤ w.heap.size + 2; omega)) (.int .i64 (addNE x ⟨tn, tk, tu, tf, ta, tb⟩))).setCell (p := ⟨w.heap.size + 1, 0, none⟩) (.inr (by show w.heap.size ≤ w.heap.size + 1; omega)) _).setCell (p := ⟨w.heap.size + 1, 1, none⟩) (.inr (by show w.heap.size ≤ w.heap.size + 1; omega)) _).setCell (p := ⟨w.heap.size + 1, 2, none⟩) (.inr (by show w.heap.size ≤ w.heap.size + 1; omega)) _).setCell (p := ⟨w.heap.size + 1, 3, none⟩) (.inr (by show w.heap.size ≤ w.heap.size + 1; omega)) _).setCell (p := ⟨w.heap.size + 1, 4, none⟩) (.inr (by show w.heap.size ≤ w.heap.size + 1; omega)) _).setCell (p := ⟨w.heap.size + 1, 5, none⟩) (.inr (by show w.heap.size ≤ w.heap.size + 1; omega)) _)
theorem does_5 (h : CN w F b x) (wy nw m0 m1 : Int) (z tn : ByteArray) (tk : Int) (tu : Bool) (tf ta tb : Int) {M Q : Int} (ho : OkN x M Q) (hM : M ≤ 1000000000) (hn16 : x.names.length ≤ 40) (hsub : SubN x) :
    Calls Tryz.prog 13 #[ptr b, .agg #[.int .i64 5, .int .i64 wy, .int .i64 nw, .int .i64 m0, .int .i64 m1, .string z, .string tn, .int .i64 tk, .bool tu, .int .i64 tf, .int .i64 ta, .int .i64 tb]] w (DoesQ F b w (dropN x z nw) (⟨0, ⟨#[]⟩, 0, ⟨#[]⟩, 0, dropNE x z⟩)) := by
  have hB := (((Below.refl w.heap.size w).alloc (Nat.le_refl _) (.cells #[.int .i64 5, .int .i64 wy, .int .i64 nw, .int .i64 m0, .int .i64 m1, .string z, .string tn, .int .i64 tk, .bool tu, .int .i64 tf, .int .i64 ta, .int .i64 tb] 43)).alloc (by simp) (.cells #[.int .i64 0, .string ⟨#[]⟩, .int .i64 0, .string ⟨#[]⟩, .int .i64 0, .int .i64 0] 48)).alloc (by simp; omega) (.cells #[.int .i64 0, .string ⟨#[]⟩, .int .i64 0, .string ⟨#[]⟩, .int .i64 0, .int .i64 0] 48)
  have hR := Lib.hid ((Blk.new (w.alloc (.cells #[.int .i64 5, .int .i64 wy, .int .i64 nw, .int .i64 m0, .int .i64 m1, .string z, .string tn, .int .i64 tk, .bool tu, .int .i64 tf, .int .i64 ta, .int .i64 tb] 43)) 48 #[.int .i64 0, .string ⟨#[]⟩, .int .i64 0, .string ⟨#[]⟩, .int .i64 0, .int .i64 0]).below ((Below.refl _ _).alloc (Nat.le_refl _) (.cells #[.int .i64 0, .string ⟨#[]⟩, .int .i64 0, .string ⟨#[]⟩, .int .i64 0, .int .i64 0] 48)))
  have hA := Lib.hid (Blk.new ((w.alloc (.cells #[.int .i64 5, .int .i64 wy, .int .i64 nw, .int .i64 m0, .int .i64 m1, .string z, .string tn, .int .i64 tk, .bool tu, .int .i64 tf, .int .i64 ta, .int .i64 tb] 43)).alloc (.cells #[.int .i64 0, .string ⟨#[]⟩, .int .i64 0, .string ⟨#[]⟩, .int .i64 0, .int .i64 0] 48)) 48 #[.int .i64 0, .string ⟨#[]⟩, .int .i64 0, .string ⟨#[]⟩, .int .i64 0, .int .i64 0])
  have H := Lib.hid (h.below hB)
  have HB := Lib.hid hB
  have hlt := fun j (hj : F j) => Lib.hid (h.lt hj)
  clear h hB
  go_enter Tryz.func13, Tryz.ntmps13
  go_wp2_with fail
  refine (cDrop_any H.out ho hM hn16 hsub z nw).mono ?_
  rintro e w1 ⟨rfl, hTD⟩
  obtain ⟨F', hC, hD, hS⟩ := hTD
  have qT := Lib.hid ((Stem.refl F w).trans HB.out.size hS)
  have qS := Lib.hid hC
  have qD := Lib.hid (show Did F w w1 from (Did.of_below HB.out).trans (Stem.refl _ _) hD)
  have qA := Lib.hid (hA.out.did hD (fun c => by have := (hlt _ c).out; simp at this; omega))
  have qR := Lib.hid (hR.out.did hD (fun c => by have := (hlt _ c).out; simp at this; omega))
  rw [World.size_alloc, World.size_alloc] at qA
  rw [World.size_alloc] at qR
  clear hA hR H HB hlt hC hD hS
  have a0 : w1.cell? ⟨w.heap.size + 2, 0, none⟩ = some (.int .i64 0) := (qA.out.cell 0).trans rfl
  have a1 : w1.cell? ⟨w.heap.size + 2, 1, none⟩ = some (.string ⟨#[]⟩) := (qA.out.cell 1).trans rfl
  have a2 : w1.cell? ⟨w.heap.size + 2, 2, none⟩ = some (.int .i64 0) := (qA.out.cell 2).trans rfl
  have a3 : w1.cell? ⟨w.heap.size + 2, 3, none⟩ = some (.string ⟨#[]⟩) := (qA.out.cell 3).trans rfl
  have a4 : w1.cell? ⟨w.heap.size + 2, 4, none⟩ = some (.int .i64 0) := (qA.out.cell 4).trans rfl
  have a5 : w1.cell? ⟨w.heap.size + 2, 5, none⟩ = some (.int .i64 0) := (qA.out.cell 5).trans rfl
  have r0 : w1.cell? ⟨w.heap.size + 1, 0, none⟩ = some (.int .i64 0) := (qR.out.cell 0).trans rfl
  have r1 : w1.cell? ⟨w.heap.size + 1, 1, none⟩ = some (.string ⟨#[]⟩) := (qR.out.cell 1).trans rfl
  have r2 : w1.cell? ⟨w.heap.size + 1, 2, none⟩ = some (.int .i64 0) := (qR.out.cell 2).trans rfl
  have r3 : w1.cell? ⟨w.heap.size + 1, 3, none⟩ = some (.string ⟨#[]⟩) := (qR.out.cell 3).trans rfl
  have r4 : w1.cell? ⟨w.heap.size + 1, 4, none⟩ = some (.int .i64 0) := (qR.out.cell 4).trans rfl
  have r5 : w1.cell? ⟨w.heap.size + 1, 5, none⟩ = some (.int .i64 0) := (qR.out.cell 5).trans rfl
  have fa0 := qA.out.free 0
  have fr0 := qR.out.free 0
  have fa1 := qA.out.free 1
  have fr1 := qR.out.free 1
  have fa2 := qA.out.free 2
  have fr2 := qR.out.free 2
  have fa3 := qA.out.free 3
  have fr3 := qR.out.free 3
  have fa4 := qA.out.free 4
  have fr4 := qR.out.free 4
  have fa5 := qA.out.free 5
  have fr5 := qR.out.free 5
  have la : w.heap.size + 2 < w1.heap.size := qA.out.lt
  have lr : w.heap.size + 1 < w1.heap.size := qR.out.lt
  go_wp2
  refine bodyPost_ret (v := (.agg #[.int .i64 0, .string ⟨#[]⟩, .int .i64 0, .string ⟨#[]⟩, .int .i64 0, .int .i64 (dropNE x z)])) (results_cell_row Tryz.results13 _ _ (w.heap.size + 1) 48 _ (0, 0) _ rfl (((((((qR.out.far (p := ⟨w.heap.size + 2, 5, none⟩) (by show w.heap.size + 1 ≠ w.heap.size + 2; omega) (.int .i64 (dropNE x z))).set_ 0 (.int .i64 0)).set_ 1 (.string ⟨#[]⟩)).set_ 2 (.int .i64 0)).set_ 3 (.string ⟨#[]⟩)).set_ 4 (.int .i64 0)).set_ 5 (.int .i64 (dropNE x z))) Tryz.underlying48 rfl (by kernel_rfl)) rfl ⟨rfl, F', ?_, ?_, qT.out⟩
  · have s0 := (qS.out.far qA.out (by decide) 5 (.int .i64 (dropNE x z)))
    have b0 := (qR.out.far (p := ⟨w.heap.size + 2, 5, none⟩) (by show w.heap.size + 1 ≠ w.heap.size + 2; omega) (.int .i64 (dropNE x z)))
    have s1 := s0.far b0 (by decide) 0 (.int .i64 0)
    have b1 := b0.set_ 0 (.int .i64 0)
    have s2 := s1.far b1 (by decide) 1 (.string ⟨#[]⟩)
    have b2 := b1.set_ 1 (.string ⟨#[]⟩)
    have s3 := s2.far b2 (by decide) 2 (.int .i64 0)
    have b3 := b2.set_ 2 (.int .i64 0)
    have s4 := s3.far b3 (by decide) 3 (.string ⟨#[]⟩)
    have b4 := b3.set_ 3 (.string ⟨#[]⟩)
    have s5 := s4.far b4 (by decide) 4 (.int .i64 0)
    have b5 := b4.set_ 4 (.int .i64 0)
    exact s5.far b5 (by decide) 5 (.int .i64 (dropNE x z))
  · exact (((((((qD.out.setCell (p := ⟨w.heap.size + 2, 5, none⟩) (.inr (by show w.heap.size ≤ w.heap.size + 2; omega)) (.int .i64 (dropNE x z))).setCell (p := ⟨w.heap.size + 1, 0, none⟩) (.inr (by show w.heap.size ≤ w.heap.size + 1; omega)) _).setCell (p := ⟨w.heap.size + 1, 1, none⟩) (.inr (by show w.heap.size ≤ w.heap.size + 1; omega)) _).setCell (p := ⟨w.heap.size + 1, 2, none⟩) (.inr (by show w.heap.size ≤ w.heap.size + 1; omega)) _).setCell (p := ⟨w.heap.size + 1, 3, none⟩) (.inr (by show w.heap.size ≤ w.heap.size + 1; omega)) _).setCell (p := ⟨w.heap.size + 1, 4, none⟩) (.inr (by show w.heap.size ≤ w.heap.size + 1; omega)) _).setCell (p := ⟨w.heap.size + 1, 5, none⟩) (.inr (by show w.heap.size ≤ w.heap.size + 1; omega)) _)
theorem does_6 (h : CN w F b x) (wy nw m0 m1 : Int) (z tn : ByteArray) (tk : Int) (tu : Bool) (tf ta tb : Int) {M Q : Int} (ho : OkN x M Q) (hM : M ≤ 1000000000) :
    Calls Tryz.prog 13 #[ptr b, .agg #[.int .i64 6, .int .i64 wy, .int .i64 nw, .int .i64 m0, .int .i64 m1, .string z, .string tn, .int .i64 tk, .bool tu, .int .i64 tf, .int .i64 ta, .int .i64 tb]] w (DoesQ F b w (chgN x ⟨tn, tk, tu, tf, ta, tb⟩ nw) (⟨0, ⟨#[]⟩, 0, ⟨#[]⟩, 0, chgE (lk x (wayT ⟨tn, tk, tu, tf, ta, tb⟩)) ⟨tn, tk, tu, tf, ta, tb⟩⟩)) := by
  have hB := (((Below.refl w.heap.size w).alloc (Nat.le_refl _) (.cells #[.int .i64 6, .int .i64 wy, .int .i64 nw, .int .i64 m0, .int .i64 m1, .string z, .string tn, .int .i64 tk, .bool tu, .int .i64 tf, .int .i64 ta, .int .i64 tb] 43)).alloc (by simp) (.cells #[.int .i64 0, .string ⟨#[]⟩, .int .i64 0, .string ⟨#[]⟩, .int .i64 0, .int .i64 0] 48)).alloc (by simp; omega) (.cells #[.int .i64 0, .string ⟨#[]⟩, .int .i64 0, .string ⟨#[]⟩, .int .i64 0, .int .i64 0] 48)
  have hR := Lib.hid ((Blk.new (w.alloc (.cells #[.int .i64 6, .int .i64 wy, .int .i64 nw, .int .i64 m0, .int .i64 m1, .string z, .string tn, .int .i64 tk, .bool tu, .int .i64 tf, .int .i64 ta, .int .i64 tb] 43)) 48 #[.int .i64 0, .string ⟨#[]⟩, .int .i64 0, .string ⟨#[]⟩, .int .i64 0, .int .i64 0]).below ((Below.refl _ _).alloc (Nat.le_refl _) (.cells #[.int .i64 0, .string ⟨#[]⟩, .int .i64 0, .string ⟨#[]⟩, .int .i64 0, .int .i64 0] 48)))
  have hA := Lib.hid (Blk.new ((w.alloc (.cells #[.int .i64 6, .int .i64 wy, .int .i64 nw, .int .i64 m0, .int .i64 m1, .string z, .string tn, .int .i64 tk, .bool tu, .int .i64 tf, .int .i64 ta, .int .i64 tb] 43)).alloc (.cells #[.int .i64 0, .string ⟨#[]⟩, .int .i64 0, .string ⟨#[]⟩, .int .i64 0, .int .i64 0] 48)) 48 #[.int .i64 0, .string ⟨#[]⟩, .int .i64 0, .string ⟨#[]⟩, .int .i64 0, .int .i64 0])
  have H := Lib.hid (h.below hB)
  have HB := Lib.hid hB
  have hlt := fun j (hj : F j) => Lib.hid (h.lt hj)
  clear h hB
  go_enter Tryz.func13, Tryz.ntmps13
  go_wp2_with fail
  refine (cChange_any H.out ho hM ⟨tn, tk, tu, tf, ta, tb⟩ nw).mono ?_
  rintro e w1 ⟨rfl, hTD⟩
  obtain ⟨F', hC, hD, hS⟩ := hTD
  have qT := Lib.hid ((Stem.refl F w).trans HB.out.size hS)
  have qS := Lib.hid hC
  have qD := Lib.hid (show Did F w w1 from (Did.of_below HB.out).trans (Stem.refl _ _) hD)
  have qA := Lib.hid (hA.out.did hD (fun c => by have := (hlt _ c).out; simp at this; omega))
  have qR := Lib.hid (hR.out.did hD (fun c => by have := (hlt _ c).out; simp at this; omega))
  rw [World.size_alloc, World.size_alloc] at qA
  rw [World.size_alloc] at qR
  clear hA hR H HB hlt hC hD hS
  have a0 : w1.cell? ⟨w.heap.size + 2, 0, none⟩ = some (.int .i64 0) := (qA.out.cell 0).trans rfl
  have a1 : w1.cell? ⟨w.heap.size + 2, 1, none⟩ = some (.string ⟨#[]⟩) := (qA.out.cell 1).trans rfl
  have a2 : w1.cell? ⟨w.heap.size + 2, 2, none⟩ = some (.int .i64 0) := (qA.out.cell 2).trans rfl
  have a3 : w1.cell? ⟨w.heap.size + 2, 3, none⟩ = some (.string ⟨#[]⟩) := (qA.out.cell 3).trans rfl
  have a4 : w1.cell? ⟨w.heap.size + 2, 4, none⟩ = some (.int .i64 0) := (qA.out.cell 4).trans rfl
  have a5 : w1.cell? ⟨w.heap.size + 2, 5, none⟩ = some (.int .i64 0) := (qA.out.cell 5).trans rfl
  have r0 : w1.cell? ⟨w.heap.size + 1, 0, none⟩ = some (.int .i64 0) := (qR.out.cell 0).trans rfl
  have r1 : w1.cell? ⟨w.heap.size + 1, 1, none⟩ = some (.string ⟨#[]⟩) := (qR.out.cell 1).trans rfl
  have r2 : w1.cell? ⟨w.heap.size + 1, 2, none⟩ = some (.int .i64 0) := (qR.out.cell 2).trans rfl
  have r3 : w1.cell? ⟨w.heap.size + 1, 3, none⟩ = some (.string ⟨#[]⟩) := (qR.out.cell 3).trans rfl
  have r4 : w1.cell? ⟨w.heap.size + 1, 4, none⟩ = some (.int .i64 0) := (qR.out.cell 4).trans rfl
  have r5 : w1.cell? ⟨w.heap.size + 1, 5, none⟩ = some (.int .i64 0) := (qR.out.cell 5).trans rfl
  have fa0 := qA.out.free 0
  have fr0 := qR.out.free 0
  have fa1 := qA.out.free 1
  have fr1 := qR.out.free 1
  have fa2 := qA.out.free 2
  have fr2 := qR.out.free 2
  have fa3 := qA.out.free 3
  have fr3 := qR.out.free 3
  have fa4 := qA.out.free 4
  have fr4 := qR.out.free 4
  have fa5 := qA.out.free 5
  have fr5 := qR.out.free 5
  have la : w.heap.size + 2 < w1.heap.size := qA.out.lt
  have lr : w.heap.size + 1 < w1.heap.size := qR.out.lt
  go_wp2
  refine bodyPost_ret (v := (.agg #[.int .i64 0, .string ⟨#[]⟩, .int .i64 0, .string ⟨#[]⟩, .int .i64 0, .int .i64 (chgE (lk x (wayT ⟨tn, tk, tu, tf, ta, tb⟩)) ⟨tn, tk, tu, tf, ta, tb⟩)])) (results_cell_row Tryz.results13 _ _ (w.heap.size + 1) 48 _ (0, 0) _ rfl (((((((qR.out.far (p := ⟨w.heap.size + 2, 5, none⟩) (by show w.heap.size + 1 ≠ w.heap.size + 2; omega) (.int .i64 (chgE (lk x (wayT ⟨tn, tk, tu, tf, ta, tb⟩)) ⟨tn, tk, tu, tf, ta, tb⟩))).set_ 0 (.int .i64 0)).set_ 1 (.string ⟨#[]⟩)).set_ 2 (.int .i64 0)).set_ 3 (.string ⟨#[]⟩)).set_ 4 (.int .i64 0)).set_ 5 (.int .i64 (chgE (lk x (wayT ⟨tn, tk, tu, tf, ta, tb⟩)) ⟨tn, tk, tu, tf, ta, tb⟩))) Tryz.underlying48 rfl (by kernel_rfl)) rfl ⟨rfl, F', ?_, ?_, qT.out⟩
  · have s0 := (qS.out.far qA.out (by decide) 5 (.int .i64 (chgE (lk x (wayT ⟨tn, tk, tu, tf, ta, tb⟩)) ⟨tn, tk, tu, tf, ta, tb⟩)))
    have b0 := (qR.out.far (p := ⟨w.heap.size + 2, 5, none⟩) (by show w.heap.size + 1 ≠ w.heap.size + 2; omega) (.int .i64 (chgE (lk x (wayT ⟨tn, tk, tu, tf, ta, tb⟩)) ⟨tn, tk, tu, tf, ta, tb⟩)))
    have s1 := s0.far b0 (by decide) 0 (.int .i64 0)
    have b1 := b0.set_ 0 (.int .i64 0)
    have s2 := s1.far b1 (by decide) 1 (.string ⟨#[]⟩)
    have b2 := b1.set_ 1 (.string ⟨#[]⟩)
    have s3 := s2.far b2 (by decide) 2 (.int .i64 0)
    have b3 := b2.set_ 2 (.int .i64 0)
    have s4 := s3.far b3 (by decide) 3 (.string ⟨#[]⟩)
    have b4 := b3.set_ 3 (.string ⟨#[]⟩)
    have s5 := s4.far b4 (by decide) 4 (.int .i64 0)
    have b5 := b4.set_ 4 (.int .i64 0)
    exact s5.far b5 (by decide) 5 (.int .i64 (chgE (lk x (wayT ⟨tn, tk, tu, tf, ta, tb⟩)) ⟨tn, tk, tu, tf, ta, tb⟩))
  · exact (((((((qD.out.setCell (p := ⟨w.heap.size + 2, 5, none⟩) (.inr (by show w.heap.size ≤ w.heap.size + 2; omega)) (.int .i64 (chgE (lk x (wayT ⟨tn, tk, tu, tf, ta, tb⟩)) ⟨tn, tk, tu, tf, ta, tb⟩))).setCell (p := ⟨w.heap.size + 1, 0, none⟩) (.inr (by show w.heap.size ≤ w.heap.size + 1; omega)) _).setCell (p := ⟨w.heap.size + 1, 1, none⟩) (.inr (by show w.heap.size ≤ w.heap.size + 1; omega)) _).setCell (p := ⟨w.heap.size + 1, 2, none⟩) (.inr (by show w.heap.size ≤ w.heap.size + 1; omega)) _).setCell (p := ⟨w.heap.size + 1, 3, none⟩) (.inr (by show w.heap.size ≤ w.heap.size + 1; omega)) _).setCell (p := ⟨w.heap.size + 1, 4, none⟩) (.inr (by show w.heap.size ≤ w.heap.size + 1; omega)) _).setCell (p := ⟨w.heap.size + 1, 5, none⟩) (.inr (by show w.heap.size ≤ w.heap.size + 1; omega)) _)
theorem does_else (h : CN w F b x) (kd : Int) (wy nw m0 m1 : Int) (z tn : ByteArray) (tk : Int) (tu : Bool) (tf ta tb : Int) (h0 : kd ≠ 0) (h1 : kd ≠ 1) (h2 : kd ≠ 2) (h3 : kd ≠ 3) (h4 : kd ≠ 4) (h5 : kd ≠ 5) (h6 : kd ≠ 6) :
    Calls Tryz.prog 13 #[ptr b, .agg #[.int .i64 kd, .int .i64 wy, .int .i64 nw, .int .i64 m0, .int .i64 m1, .string z, .string tn, .int .i64 tk, .bool tu, .int .i64 tf, .int .i64 ta, .int .i64 tb]] w (DoesQ F b w (x) (⟨0, ⟨#[]⟩, 0, ⟨#[]⟩, 0, 0⟩)) := by
  have d0 : (kd == 0) = false := by simpa using h0
  have d1 : (kd == 1) = false := by simpa using h1
  have d2 : (kd == 2) = false := by simpa using h2
  have d3 : (kd == 3) = false := by simpa using h3
  have d4 : (kd == 4) = false := by simpa using h4
  have d5 : (kd == 5) = false := by simpa using h5
  have d6 : (kd == 6) = false := by simpa using h6
  clear h0 h1 h2 h3 h4 h5 h6
  have hB := (((Below.refl w.heap.size w).alloc (Nat.le_refl _) (.cells #[.int .i64 kd, .int .i64 wy, .int .i64 nw, .int .i64 m0, .int .i64 m1, .string z, .string tn, .int .i64 tk, .bool tu, .int .i64 tf, .int .i64 ta, .int .i64 tb] 43)).alloc (by simp) (.cells #[.int .i64 0, .string ⟨#[]⟩, .int .i64 0, .string ⟨#[]⟩, .int .i64 0, .int .i64 0] 48)).alloc (by simp; omega) (.cells #[.int .i64 0, .string ⟨#[]⟩, .int .i64 0, .string ⟨#[]⟩, .int .i64 0, .int .i64 0] 48)
  have hR := Lib.hid ((Blk.new (w.alloc (.cells #[.int .i64 kd, .int .i64 wy, .int .i64 nw, .int .i64 m0, .int .i64 m1, .string z, .string tn, .int .i64 tk, .bool tu, .int .i64 tf, .int .i64 ta, .int .i64 tb] 43)) 48 #[.int .i64 0, .string ⟨#[]⟩, .int .i64 0, .string ⟨#[]⟩, .int .i64 0, .int .i64 0]).below ((Below.refl _ _).alloc (Nat.le_refl _) (.cells #[.int .i64 0, .string ⟨#[]⟩, .int .i64 0, .string ⟨#[]⟩, .int .i64 0, .int .i64 0] 48)))
  have hA := Lib.hid (Blk.new ((w.alloc (.cells #[.int .i64 kd, .int .i64 wy, .int .i64 nw, .int .i64 m0, .int .i64 m1, .string z, .string tn, .int .i64 tk, .bool tu, .int .i64 tf, .int .i64 ta, .int .i64 tb] 43)).alloc (.cells #[.int .i64 0, .string ⟨#[]⟩, .int .i64 0, .string ⟨#[]⟩, .int .i64 0, .int .i64 0] 48)) 48 #[.int .i64 0, .string ⟨#[]⟩, .int .i64 0, .string ⟨#[]⟩, .int .i64 0, .int .i64 0])
  have H := Lib.hid (h.below hB)
  have HB := Lib.hid hB
  have hlt := fun j (hj : F j) => Lib.hid (h.lt hj)
  clear h hB
  go_enter Tryz.func13, Tryz.ntmps13
  have hF1 := H.out
  have hT := Stem.refl F w
  have qS := Lib.hid hF1
  have qT := Lib.hid hT
  have qD := Lib.hid (Did.of_below (F := F) HB.out)
  have qA := Lib.hid hA.out
  have qR := Lib.hid hR.out
  rw [World.size_alloc, World.size_alloc] at qA
  rw [World.size_alloc] at qR
  clear hA hR H HB hlt hF1 hT
  go_wp2
  exact bodyPost_ret (v := .agg #[.int .i64 0, .string ⟨#[]⟩, .int .i64 0, .string ⟨#[]⟩, .int .i64 0, .int .i64 0]) (by simp [results, Tryz.results13, go_sem]) rfl ⟨rfl, F, qS.out, qD.out, qT.out⟩
end Go.Proofs.YtnkgjnmhiedfoaaGreat.Conn
namespace Go.Proofs.YtnkgjnmhiedfoaaGreat.Conn
open Go.RowKit Mem Tick Cargo Toxic Stage Chain
open Link
set_option linter.unusedVariables false
set_option linter.unusedSimpArgs false
variable {x y : Cn} {M Q : Int}
def noT : Tox := ⟨⟨#[]⟩, 0, false, 0, 0, 0⟩
abbrev lop (kind now n : Int) (s : ByteArray) (t : Tox) : Link.Op := ⟨kind, now, n, s, t⟩
def wayO (x : Cn) (o : Op) (way : Int) : List Link.Op :=
  if o.kind = 0 then (if isW o.way = true ∧ (o.way = 0 ↔ way = 0) then [lop 0 o.now 0 o.s noT] else [])
  else if o.kind = 1 then (if isW o.way = true ∧ (o.way = 0 ↔ way = 0) then [lop 1 o.now 0 ⟨#[]⟩ noT] else [])
  else if o.kind = 2 then [lop 2 o.now 0 ⟨#[]⟩ noT]
  else if o.kind = 3 then
    (if brkB x o.now o.m0 o.m1 = true ∧ (stepK (lk x way) o.now (if way = 0 then o.m0 else o.m1)).done = false
      then [lop 3 o.now (if way = 0 then o.m0 else o.m1) ⟨#[]⟩ noT, lop 2 o.now 0 ⟨#[]⟩ noT, lop 3 o.now 0 ⟨#[]⟩ noT]
      else [lop 3 o.now (if way = 0 then o.m0 else o.m1) ⟨#[]⟩ noT])
  else if o.kind = 4 then (if chk o.t ≠ 0 ∨ (idxN x.names o.t.name).isSome = true then [] else if wayT o.t = 0 ↔ way = 0 then [lop 4 o.now 0 ⟨#[]⟩ o.t] else [])
  else if o.kind = 5 then (match dropW x o.s with | some w => if w = 0 ↔ way = 0 then [lop 5 o.now 0 o.s noT] else [] | none => [])
  else if o.kind = 6 then (if wayT o.t = 0 ↔ way = 0 then [lop 6 o.now 0 ⟨#[]⟩ o.t] else [])
  else []
theorem lk_onW (x : Cn) (w : Int) (k : Lk) (way : Int) : lk (onW x w k) way = if w = 0 ↔ way = 0 then k else lk x way := by
  unfold lk onW
  by_cases h : w = 0
  · by_cases h2 : way = 0 <;> simp [h, h2]
  · by_cases h2 : way = 0 <;> simp [h, h2]
theorem lk_same {w way : Int} (x : Cn) (h : w = 0 ↔ way = 0) : lk x w = lk x way := by
  unfold lk
  by_cases h1 : w = 0
  · rw [if_pos h1, if_pos (h.1 h1)]
  · rw [if_neg h1, if_neg (fun e => h1 (h.2 e))]
theorem lk_names (x : Cn) (l : List ByteArray) (way : Int) : lk { x with names := l } way = lk x way := rfl
theorem endK_fold (bk : Bool) (k : Lk) (now m : Int) :
    endK bk (stepK k now m) now = (if bk = true ∧ (stepK k now m).done = false then [lop 3 now m ⟨#[]⟩ noT, lop 2 now 0 ⟨#[]⟩ noT, lop 3 now 0 ⟨#[]⟩ noT] else [lop 3 now m ⟨#[]⟩ noT]).foldl doesK k := by
  unfold endK
  split
  · rfl
  · rfl
theorem lk_does (x : Cn) (o : Op) (way : Int) : lk (doesN x o) way = (wayO x o way).foldl doesK (lk x way) := by
  unfold doesN wayO
  by_cases k0 : o.kind = 0
  · simp only [if_pos k0]
    unfold sendN
    by_cases hw : isW o.way = true
    · rw [if_pos hw, lk_onW]
      by_cases hs : o.way = 0 ↔ way = 0
      · rw [if_pos hs, if_pos ⟨hw, hs⟩, lk_same x hs]; rfl
      · rw [if_neg hs, if_neg (fun e => hs e.2)]; rfl
    · rw [if_neg hw, if_neg (fun e => hw e.1)]; rfl
  simp only [if_neg k0]
  by_cases k1 : o.kind = 1
  · simp only [if_pos k1]
    unfold finN
    by_cases hw : isW o.way = true
    · rw [if_pos hw, lk_onW]
      by_cases hs : o.way = 0 ↔ way = 0
      · rw [if_pos hs, if_pos ⟨hw, hs⟩, lk_same x hs]; rfl
      · rw [if_neg hs, if_neg (fun e => hs e.2)]; rfl
    · rw [if_neg hw, if_neg (fun e => hw e.1)]; rfl
  simp only [if_neg k1]
  by_cases k2 : o.kind = 2
  · simp only [if_pos k2]
    unfold cutN lk
    by_cases hs : way = 0
    · simp only [if_pos hs]; rfl
    · simp only [if_neg hs]; rfl
  simp only [if_neg k2]
  by_cases k3 : o.kind = 3
  · simp only [if_pos k3]
    unfold stepN
    by_cases hs : way = 0
    · simp only [if_pos hs]
      have e : lk x way = x.a := by unfold lk; rw [if_pos hs]
      rw [e, ← endK_fold]
      unfold lk; rw [if_pos hs]
    · simp only [if_neg hs]
      have e : lk x way = x.b := by unfold lk; rw [if_neg hs]
      rw [e, ← endK_fold]
      unfold lk; rw [if_neg hs]
  simp only [if_neg k3]
  by_cases k4 : o.kind = 4
  · simp only [if_pos k4]
    unfold addN
    by_cases hc : chk o.t ≠ 0 ∨ (idxN x.names o.t.name).isSome = true
    · rw [if_pos hc, if_pos hc]; rfl
    · rw [if_neg hc, if_neg hc, lk_names, lk_onW]
      by_cases hs : wayT o.t = 0 ↔ way = 0
      · rw [if_pos hs, if_pos hs, lk_same x hs]; rfl
      · rw [if_neg hs, if_neg hs]; rfl
  simp only [if_neg k4]
  by_cases k5 : o.kind = 5
  · simp only [if_pos k5]
    unfold dropN
    cases hd : dropW x o.s with
    | none => rfl
    | some w =>
      dsimp only
      rw [lk_names, lk_onW]
      by_cases hs : w = 0 ↔ way = 0
      · rw [if_pos hs, if_pos hs, lk_same x hs]; rfl
      · rw [if_neg hs, if_neg hs]; rfl
  simp only [if_neg k5]
  by_cases k6 : o.kind = 6
  · simp only [if_pos k6]
    unfold chgN
    rw [lk_onW]
    by_cases hs : wayT o.t = 0 ↔ way = 0
    · rw [if_pos hs, if_pos hs, lk_same x hs]; rfl
    · rw [if_neg hs, if_neg hs]; rfl
  simp only [if_neg k6]
  rfl
def Shp (os : List Link.Op) (n : Nat) : Prop := os = [] ∨ (∃ p, os = [p] ∧ p.s.size ≤ n) ∨ (∃ p q r, os = [p, q, r] ∧ p.s.size ≤ n ∧ q.s.size = 0 ∧ r.s.size = 0)
theorem wayO_shp (x : Cn) (o : Op) (way : Int) : Shp (wayO x o way) o.s.size := by
  unfold wayO
  repeat' split
  all_goals first
    | exact .inl rfl
    | exact .inr (.inl ⟨_, rfl, Nat.zero_le _⟩)
    | exact .inr (.inl ⟨_, rfl, Nat.le_refl _⟩)
    | exact .inr (.inr ⟨_, _, _, rfl, Nat.zero_le _, rfl, rfl⟩)
theorem ok_fold {k : Lk} {os : List Link.Op} {n : Nat} (h : OkK k M Q) (hs : Shp os n) (hQ : 0 ≤ Q) (hd : k.drawn + 3 ≤ 1000000000) :
    OkK (os.foldl doesK k) (M + n) (Q + 90 * (M + n)) ∧ (os.foldl doesK k).drawn ≤ k.drawn + 3 := by
  have hM : 0 ≤ M := by have := h.c.held; omega
  rcases hs with rfl | ⟨p, rfl, hp⟩ | ⟨p, q, r, rfl, hp, hq, hr⟩
  · exact ⟨h.more (by omega) (by omega), by show k.drawn ≤ _; omega⟩
  · exact ⟨(h.does hQ (by omega) p).more (by omega) (by omega), by have := (drawn_does k p).1; show (doesK k p).drawn ≤ _; omega⟩
  · have d1 := (drawn_does k p).1
    have d2 := (drawn_does (doesK k p) q).1
    have d3 := (drawn_does (doesK (doesK k p) q) r).1
    have h1 := h.does hQ (by omega) p
    have h2 := h1.does (by omega) (by omega) q
    have h3 := h2.does (by omega) (by omega) r
    exact ⟨h3.more (by omega) (by omega), by show (doesK (doesK (doesK k p) q) r).drawn ≤ _; omega⟩
structure OkT (x : Cn) (l : List Op) (k : Nat) : Prop where
  ok : OkN x (bytesOf (l.take k)) (200000 * k)
  nm : Nm x
  up : Ups x
  dr : Dr x (8 + 3 * k)
theorem OkT.next {l : List Op} {k : Nat} {p : Op} (h : OkT x l k) (hx : l[k]? = some p) (hb : bytesOf l ≤ 2000) (hl : l.length ≤ 60) : OkT (doesN x p) l (k + 1) := by
  have h1 := bytes_s l k p hx
  have h2 := bytesOf_le l (k + 1)
  have hk : k < l.length := (List.getElem?_eq_some_iff.1 hx).1
  obtain ⟨hd0, hd1⟩ := h.dr
  have fa := ok_fold h.ok.a (wayO_shp x p 0) (by omega) (by omega)
  have fb := ok_fold h.ok.b (wayO_shp x p 1) (by omega) (by omega)
  have ea : (wayO x p 0).foldl doesK x.a = (doesN x p).a := (lk_does x p 0).symm
  have eb : (wayO x p 1).foldl doesK x.b = (doesN x p).b := (lk_does x p 1).symm
  rw [ea] at fa
  rw [eb] at fb
  refine ⟨⟨fa.1.more (by omega) (by omega), fb.1.more (by omega) (by omega)⟩, (h.nm.does h.up p).1, (h.nm.does h.up p).2, ?_, ?_⟩
  · have := fa.2; omega
  · have := fb.2; omega
theorem Nm.len16 {x : Cn} (h : Nm x) (ho : OkN x M Q) : x.names.length ≤ 16 := by
  have h1 := h.len
  have ha := ho.a.n
  have hb := ho.b.n
  have ta := ho.a.c.ten
  have tb := ho.b.c.ten
  omega
/-! bytes -/
theorem takeB_no (s : Sg) (n : Int) : takeB s n 0 = ⟨#[]⟩ := by unfold takeB; rw [if_pos (.inr (by omega))]
theorem stepB_no (k : Lk) (now : Int) : stepB k now 0 = ⟨#[]⟩ := by
  unfold stepB takeCB
  split
  · rfl
  split
  · exact takeB_no _ _
  · rfl
def inN (x : Cn) (o : Op) (way : Int) : ByteArray := if o.kind = 0 ∧ isW o.way = true ∧ (o.way = 0 ↔ way = 0) then o.s.extract 0 (putCN (lk x way).c o.now o.s) else ⟨#[]⟩
def outN (x : Cn) (o : Op) (way : Int) : ByteArray := if o.kind = 3 then stepB (lk x way) o.now (if way = 0 then o.m0 else o.m1) else ⟨#[]⟩
def inF : Lk → List Link.Op → ByteArray
  | _, [] => ⟨#[]⟩
  | k, p :: r => inK k p ++ inF (doesK k p) r
def outF : Lk → List Link.Op → ByteArray
  | _, [] => ⟨#[]⟩
  | k, p :: r => outK k p ++ outF (doesK k p) r
theorem kk_foldF : ∀ (os : List Link.Op) {k : Lk} {i o : ByteArray}, KK k i o → KK (os.foldl doesK k) (i ++ inF k os) (o ++ outF k os)
  | [], k, i, o, h => by simpa [inF, outF, app_nil] using h
  | p :: r, k, i, o, h => by
    have := kk_foldF r (h.does p)
    unfold inF outF
    rw [← ByteArray.append_assoc, ← ByteArray.append_assoc]
    exact this
theorem inF_way (x : Cn) (o : Op) (way : Int) : inF (lk x way) (wayO x o way) = inN x o way ∧ outF (lk x way) (wayO x o way) = outN x o way := by
  have e0 : ∀ (k : Lk) (p : Link.Op), inF k [p] = inK k p := fun k p => app_nil _
  have f0 : ∀ (k : Lk) (p : Link.Op), outF k [p] = outK k p := fun k p => app_nil _
  unfold wayO inN outN
  by_cases k0 : o.kind = 0
  · simp only [if_pos k0]
    by_cases hw : isW o.way = true ∧ (o.way = 0 ↔ way = 0)
    · rw [if_pos hw, if_pos ⟨k0, hw⟩, e0, f0, if_neg (by omega)]
      exact ⟨rfl, rfl⟩
    · rw [if_neg hw, if_neg (fun e => hw e.2), if_neg (by omega)]
      exact ⟨rfl, rfl⟩
  simp only [if_neg k0]
  have hz : (if o.kind = 0 ∧ isW o.way = true ∧ (o.way = 0 ↔ way = 0) then o.s.extract 0 (putCN (lk x way).c o.now o.s) else (⟨#[]⟩ : ByteArray)) = ⟨#[]⟩ := if_neg fun e => k0 e.1
  rw [hz]
  by_cases k3 : o.kind = 3
  · have k1 : o.kind ≠ 1 := by omega
    have k2 : o.kind ≠ 2 := by omega
    simp only [if_neg k1, if_neg k2, if_pos k3]
    generalize (if way = 0 then o.m0 else o.m1) = m
    split
    · refine ⟨rfl, ?_⟩
      show stepB _ _ _ ++ ((⟨#[]⟩ : ByteArray) ++ (stepB _ o.now 0 ++ (⟨#[]⟩ : ByteArray))) = _
      rw [stepB_no]
      exact app_nil _
    · rw [e0, f0]; exact ⟨rfl, rfl⟩
  simp only [if_neg k3]
  repeat' split
  all_goals first
    | exact ⟨rfl, rfl⟩
    | (rw [e0, f0]; exact ⟨rfl, rfl⟩)
theorem outN_ans (x : Cn) (o : Op) : outN x o 0 = (doesA x o).s0 ∧ outN x o 1 = (doesA x o).s1 := by
  unfold outN doesA
  by_cases k3 : o.kind = 3
  · have k0 : o.kind ≠ 0 := by omega
    simp only [if_neg k0, if_pos k3]
    exact ⟨rfl, rfl⟩
  · simp only [if_neg k3]
    repeat' split
    all_goals exact ⟨rfl, rfl⟩
structure KKN (x : Cn) (i0 i1 o0 o1 : ByteArray) : Prop where
  a : KK x.a i0 o0
  b : KK x.b i1 o1
theorem KKN.does {i0 i1 o0 o1 : ByteArray} (h : KKN x i0 i1 o0 o1) (p : Op) : KKN (doesN x p) (i0 ++ inN x p 0) (i1 ++ inN x p 1) (o0 ++ (doesA x p).s0) (o1 ++ (doesA x p).s1) := by
  have ha := kk_foldF (wayO x p 0) h.a
  have hb := kk_foldF (wayO x p 1) h.b
  have ea : (wayO x p 0).foldl doesK x.a = (doesN x p).a := (lk_does x p 0).symm
  have eb : (wayO x p 1).foldl doesK x.b = (doesN x p).b := (lk_does x p 1).symm
  have ia := inF_way x p 0
  have ib := inF_way x p 1
  rw [show lk x 0 = x.a from rfl] at ia
  rw [show lk x 1 = x.b from rfl] at ib
  rw [ea, ia.1, ia.2, (outN_ans x p).1] at ha
  rw [eb, ib.1, ib.2, (outN_ans x p).2] at hb
  exact ⟨ha, hb⟩
end Go.Proofs.YtnkgjnmhiedfoaaGreat.Conn
namespace Go.Proofs.YtnkgjnmhiedfoaaGreat.Conn
open Go.RowKit Mem Tick Cargo Toxic Stage Chain
open Link
set_option maxRecDepth 100000
set_option linter.unusedVariables false
set_option linter.unusedSimpArgs false
variable {w wr w2 w1 : World} {F : Nat → Prop} {b : Nat} {x y : Cn} {M Q : Int}
theorem Nm.subN {x : Cn} (h : Nm x) : SubN x := fun way m hm => h.sub way m hm
theorem does_any (h : CN w F b x) (ho : OkN x M Q) (hnm : Nm x) (o : Op) (hM : M + o.s.size ≤ 1000000) (hQ : Q + 200 * M ≤ 100000000) (hQ0 : 0 ≤ Q) {g : Int} (hg : Go x g) (hgM : g ≤ 1000000) {d : Int} (hd : Dr x d) (hn : d + 1 ≤ 1000000000) (hs : x.a.sent ≤ 1000000 ∧ x.b.sent ≤ 1000000) :
    Calls Tryz.prog 13 #[ptr b, .agg #[.int .i64 o.kind, .int .i64 o.way, .int .i64 o.now, .int .i64 o.m0, .int .i64 o.m1, .string o.s, .string o.t.name, .int .i64 o.t.kind, .bool o.t.up, .int .i64 o.t.often, .int .i64 o.t.a, .int .i64 o.t.b]] w (DoesQ F b w (doesN x o) (doesA x o)) := by
  have hM0 : 0 ≤ M := by have := ho.a.c.held; omega
  have h16 := hnm.len16 ho
  have hlk : (lk x o.way).sent ≤ 1000000 := by unfold lk; split; exact hs.1; exact hs.2
  obtain ⟨kd, wy, nw, m0, m1, z, ⟨tn, tk, tu, tf, ta, tb⟩⟩ := o
  unfold doesN doesA
  dsimp only at hM hlk ⊢
  have hM1 : M + z.size ≤ 1000000000 := by omega
  have hM2 : M ≤ 1000000000 := by omega
  have hM3 : M ≤ 1000000 := by omega
  by_cases h0 : kd = 0
  · subst h0; simp only [if_pos]; exact does_0 h wy nw m0 m1 z tn tk tu tf ta tb ho hM1 (by omega)
  by_cases h1 : kd = 1
  · subst h1; exact does_1 h wy nw m0 m1 z tn tk tu tf ta tb ho
  by_cases h2 : kd = 2
  · subst h2; exact does_2 h wy nw m0 m1 z tn tk tu tf ta tb ho hM2 hQ0 hd hn
  by_cases h3 : kd = 3
  · subst h3; exact does_3 h wy nw m0 m1 z tn tk tu tf ta tb ho hM3 hQ hg (by omega) hQ0 hd hn
  by_cases h4 : kd = 4
  · subst h4; exact does_4 h wy nw m0 m1 z tn tk tu tf ta tb ho (by omega)
  by_cases h5 : kd = 5
  · subst h5; exact does_5 h wy nw m0 m1 z tn tk tu tf ta tb ho hM2 (by omega) hnm.subN
  by_cases h6 : kd = 6
  · subst h6; exact does_6 h wy nw m0 m1 z tn tk tu tf ta tb ho hM2
  simp only [if_neg h0, if_neg h1, if_neg h2, if_neg h3, if_neg h4, if_neg h5, if_neg h6]
  exact does_else h kd wy nw m0 m1 z tn tk tu tf ta tb h0 h1 h2 h3 h4 h5 h6
theorem live_does (h : LiveN w wr b x) {l : List Op} {k : Nat} (ho : OkT x l k) (hb : bytesOf l ≤ 2000) (hl : l.length ≤ 60) {i0 i1 o0 o1 : ByteArray} (hkk : KKN x i0 i1 o0 o1) (hi0 : i0.size ≤ 2000) (hi1 : i1.size ≤ 2000) (o : Op) (hx : l[k]? = some o) :
    Calls Tryz.prog 13 #[ptr b, .agg #[.int .i64 o.kind, .int .i64 o.way, .int .i64 o.now, .int .i64 o.m0, .int .i64 o.m1, .string o.s, .string o.t.name, .int .i64 o.t.kind, .bool o.t.up, .int .i64 o.t.often, .int .i64 o.t.a, .int .i64 o.t.b]] wr fun e w2 => e = .returned (An.v (doesA x o)) ∧ LiveN w w2 b (doesN x o) ∧ KeepN wr w2 := by
  obtain ⟨F, hC, hF, hB⟩ := h
  have hk : k < l.length := (List.getElem?_eq_some_iff.1 hx).1
  have h1 := bytes_s l k o hx
  have h2 := bytesOf_le l (k + 1)
  have ga := keep_pre hkk.a.km.1
  have gb := keep_pre hkk.b.km.1
  have ea := hkk.a.got
  have eb := hkk.b.got
  have sa := hkk.a.sent
  have sb := hkk.b.sent
  refine (does_any hC ho.ok ho.nm o (by omega) (by omega) (by omega) (g := 2000) ⟨by have := ga.1; omega, by have := gb.1; omega⟩ (by omega) ho.dr (by omega) ⟨by omega, by omega⟩).mono fun e w2 ⟨he, hT⟩ => ⟨he, LiveN.turn hC hF hB hT⟩
theorem live_over (h : LiveN w wr b x) : Calls Tryz.prog 14 #[ptr b] wr fun e w2 => e = .returned (.bool (overB x)) ∧ LiveN w w2 b x ∧ Below wr.heap.size wr w2 := by
  have h' := h
  obtain ⟨F, hC, _⟩ := h
  exact (cOver_any hC).mono fun e w2 ⟨he, hb⟩ => ⟨he, h'.below hb, hb⟩
theorem live_counts (h : LiveN w wr b x) (ho : OkN x M Q) (hM : M ≤ 1000000000) (way : Int) : Calls Tryz.prog 15 #[ptr b, .int .i64 way] wr fun e w2 => e = .returned (countsN x way) ∧ LiveN w w2 b x ∧ Below wr.heap.size wr w2 := by
  have h' := h
  obtain ⟨F, hC, _⟩ := h
  exact (cCounts_any hC ho hM way).mono fun e w2 ⟨he, hb⟩ => ⟨he, h'.below hb, hb⟩
theorem live_names (h : LiveN w wr b x) (hn : x.names.length ≤ 1000) : Calls Tryz.prog 10 #[ptr b] wr fun e w2 => ∃ A c, e = .returned (.slice A x.names.length c) ∧ NV w2 (.slice A x.names.length c) x.names ∧ LiveN w w2 b x ∧ Below wr.heap.size wr w2 := by
  have h' := h
  obtain ⟨F, hC, _⟩ := h
  refine (cnames_any hC hn).mono ?_
  rintro e w2 ⟨v, rfl, hN, hf, hb⟩
  obtain ⟨A, c, rfl, _⟩ := hN.sr
  exact ⟨A, c, rfl, hN, h'.below hb, hb⟩
/-! how it begins -/
theorem ways_perm : ∀ (L : List Tox), (ky (L.map fun t => t.name)).Perm (ky ((ofWay L true).map fun t => t.name) ++ ky ((ofWay L false).map fun t => t.name))
  | [] => .nil
  | t :: r => by
    have ih := ways_perm r
    have e : ky ((t :: r).map fun t => t.name) = t.name.toList :: ky (r.map fun t => t.name) := rfl
    rw [e]
    cases hu : t.up with
    | true =>
      have e1 : ofWay (t :: r) true = t :: ofWay r true := by unfold ofWay; rw [List.filter_cons, hu]; rfl
      have e2 : ofWay (t :: r) false = ofWay r false := by unfold ofWay; rw [List.filter_cons, hu]; rfl
      rw [e1, e2]
      exact ih.cons _
    | false =>
      have e1 : ofWay (t :: r) true = ofWay r true := by unfold ofWay; rw [List.filter_cons, hu]; rfl
      have e2 : ofWay (t :: r) false = t :: ofWay r false := by unfold ofWay; rw [List.filter_cons, hu]; rfl
      rw [e1, e2]
      exact (ih.cons _).trans List.perm_middle.symm
theorem hasB_mem {l : List Tox} {n : ByteArray} : n.toList ∈ ky (l.map fun t => t.name) → hasB l n = true := by
  intro h
  unfold ky at h
  rw [List.map_map, List.mem_map] at h
  obtain ⟨t, ht, e⟩ := h
  unfold hasB
  rw [List.any_eq_true]
  exact ⟨t, ht, by simpa using e⟩
theorem names_nodup {L : List Tox} (h : dblB L = false) : ∀ k, k ≤ L.length → (ky ((L.take k).map fun t => t.name)).Nodup
  | 0, _ => .nil
  | k + 1, hk => by
    have hx : L[k]? = some L[k] := List.getElem?_eq_getElem (by omega)
    have hn := dbl_none h hx
    rw [List.take_add_one, hx, List.map_append, ky_append, List.nodup_append]
    refine ⟨names_nodup h k (by omega), by simp [ky], fun a ha b hb => ?_⟩
    have hb' : b = L[k].name.toList := by simpa [ky] using hb
    rintro rfl
    rw [hb'] at ha
    rw [hasB_mem ha] at hn
    cases hn
variable {L : List Tox} {sa sb room now : Int}
theorem nm_conn0 (h : linkE L room = 0) : Nm (conn0 L sa sb room now) ∧ Ups (conn0 L sa sb room now) := by
  have ha := newI_linkN L true sa room now h
  have hb := newI_linkN L false sb room now h
  refine ⟨⟨?_, ?_⟩, ⟨ha.up_, hb.up_⟩⟩
  · have := names_nodup (linkE_0 h).2.2.2 L.length (Nat.le_refl _)
    rwa [List.take_length] at this
  · show (ky (L.map fun t => t.name)).Perm (ky (linkN L true sa room now).names ++ ky (linkN L false sb room now).names)
    rw [ha.names, hb.names]
    exact ways_perm L
theorem okT_conn0 (h : linkE L room = 0) (a0 : 0 ≤ sa) (a1 : sa < 18446744073709551616) (b0 : 0 ≤ sb) (b1 : sb < 18446744073709551616) (l : List Op) : OkT (conn0 L sa sb room now) l 0 := by
  have hl := linkE_0 h
  have ha := ok_linkN L true sa room now hl.1 a0 a1 hl.2.1
  have hb := ok_linkN L false sb room now hl.1 b0 b1 hl.2.1
  exact ⟨⟨ha.1.more (by simp [bytesOf]) (by omega), hb.1.more (by simp [bytesOf]) (by omega)⟩, (nm_conn0 h).1, (nm_conn0 h).2, by have := ha.2; show (linkN L true sa room now).drawn ≤ _; omega, by have := hb.2; show (linkN L false sb room now).drawn ≤ _; omega⟩
theorem kkn_conn0 (L : List Tox) (sa sb room now : Int) : KKN (conn0 L sa sb room now) ⟨#[]⟩ ⟨#[]⟩ ⟨#[]⟩ ⟨#[]⟩ := ⟨kk_linkN L true sa room now, kk_linkN L false sb room now⟩
def Seats (w : World) (v : Value) (L : List Tox) (seed room now : Int) : Prop :=
  ∃ sa sc, v = .agg #[.slice sa L.length sc, .int .u64 seed, .int .i64 room, .int .i64 now] ∧ Toxs w (.slice sa L.length sc) L ∧ 0 ≤ seed ∧ seed < 18446744073709551616
/-! alive -/
def tR : Tox := ⟨⟨#[97]⟩, 5, true, 100, 3, 0⟩
def N0 : Cn := conn0 [tR] (seedW 7 0) (seedW 7 1) 9 0
def N1 : Cn := sendN N0 1 0 sAB
def N2 : Cn := stepN N1 3 9 9
theorem al0 : linkE [tR] 9 = 0 := by kernel_rfl
theorem al1 : sendA N0 1 0 sAB = 2 := by kernel_rfl
theorem al2 : outA N1 3 9 9 = (⟨#[]⟩, 2) ∧ outB N1 3 9 9 = (⟨#[97, 98]⟩, 2) := by constructor <;> kernel_rfl
theorem al3 : overB N2 = true ∧ N2.names.length = 1 ∧ N2.b.sent = 2 ∧ N2.b.got = 2 ∧ heldL N2.b.c.l = 0 ∧ N2.b.c.lost = 0 := by refine ⟨?_, ?_, ?_, ?_, ?_, ?_⟩ <;> kernel_rfl
theorem ok0 : OkN N0 0 0 := (okT_conn0 al0 (seedW_bd 7 0).1 (seedW_bd 7 0).2 (seedW_bd 7 1).1 (seedW_bd 7 1).2 []).ok
theorem ok1 : OkN N1 2 180 := by
  have fa := ok_fold ok0.a (wayO_shp N0 ⟨0, 1, 0, 0, 0, sAB, noT⟩ 0) (by decide) (by have : N0.a.drawn = 1 := by kernel_rfl
                                                                                     omega)
  have fb := ok_fold ok0.b (wayO_shp N0 ⟨0, 1, 0, 0, 0, sAB, noT⟩ 1) (by decide) (by have : N0.b.drawn = 0 := by kernel_rfl
                                                                                     omega)
  exact ⟨fa.1.more (by decide) (by decide), fb.1.more (by decide) (by decide)⟩
theorem ok2 : OkN N2 2 1000 := by
  have fa := ok_fold ok1.a (wayO_shp N1 ⟨3, 1, 3, 9, 9, ⟨#[]⟩, noT⟩ 0) (by decide) (by have : N1.a.drawn = 1 := by kernel_rfl
                                                                                       omega)
  have fb := ok_fold ok1.b (wayO_shp N1 ⟨3, 1, 3, 9, 9, ⟨#[]⟩, noT⟩ 1) (by decide) (by have : N1.b.drawn = 0 := by kernel_rfl
                                                                                       omega)
  have ea : (wayO N1 ⟨3, 1, 3, 9, 9, ⟨#[]⟩, noT⟩ 0).foldl doesK N1.a = N2.a := (lk_does N1 _ 0).symm
  have eb : (wayO N1 ⟨3, 1, 3, 9, 9, ⟨#[]⟩, noT⟩ 1).foldl doesK N1.b = N2.b := (lk_does N1 _ 1).symm
  rw [ea] at fa
  rw [eb] at fb
  exact ⟨fa.1.more (by decide) (by decide), fb.1.more (by decide) (by decide)⟩
theorem al4 : countsN N2 1 = .agg #[.int .i64 2, .int .i64 2, .int .i64 0, .int .i64 0] := by
  have e : countsN N2 1 = countsV N2.b := rfl
  rw [e]
  unfold countsV
  rw [al3.2.2.1, al3.2.2.2.1, al3.2.2.2.2.1, al3.2.2.2.2.2]
  rfl
theorem go1 : Go N1 0 ∧ Dr N1 1 ∧ N0.b.sent = 0 := by
  refine ⟨⟨?_, ?_⟩, ⟨?_, ?_⟩, ?_⟩
  · exact Int.le_of_eq (by kernel_rfl)
  · exact Int.le_of_eq (by kernel_rfl)
  · exact Int.le_of_eq (by kernel_rfl)
  · have : N1.b.drawn = 0 := by kernel_rfl
    omega
  · kernel_rfl
theorem toxs_one (w : World) : Toxs (w.alloc (.cells #[.string ⟨#[97]⟩, .int .i64 5, .bool true, .int .i64 100, .int .i64 3, .int .i64 0] 27)) (.slice (some ⟨w.heap.size, 0, none⟩) 1 1) [tR] := by
  refine ⟨_, 1, rfl, by decide, Nat.le_refl _, fun _ => ⟨_, 0, rfl, fun j t ht => ?_⟩⟩
  have h := Blk.new w 27 #[.string ⟨#[97]⟩, .int .i64 5, .bool true, .int .i64 100, .int .i64 3, .int .i64 0]
  cases j with
  | zero =>
    injection ht with ht
    subst ht
    exact ⟨(h.cell 0).trans rfl, (h.cell 1).trans rfl, (h.cell 2).trans rfl, (h.cell 3).trans rfl, (h.cell 4).trans rfl, (h.cell 5).trans rfl⟩
  | succ j => simp at ht
set_option maxHeartbeats 1000000 in
theorem alive_any (w : World) : Calls Tryz.prog 9 #[] w fun e w' => e = .returned (.bool true) ∧ Below w.heap.size w w' := by
  have hB0 := Lib.hid ((Below.refl w.heap.size w).alloc (Nat.le_refl _) (.cells #[.string ⟨#[97]⟩, .int .i64 5, .bool true, .int .i64 100, .int .i64 3, .int .i64 0] 27))
  have hn := Lib.hid (cNew_ok (some ⟨w.heap.size, 0, none⟩) 1 [tR] 7 9 0 _ (toxs_one w) (by decide) (by decide) al0)
  go_enter Tryz.func9, Tryz.ntmps9
  go_wp2_with fail
  refine hn.out.mono ?_
  rintro e w0 ⟨b, rfl, F0, hL, hF, hB⟩
  have HL := Lib.hid (show CN w0 F0 b N0 from hL)
  have HF := Lib.hid (And.intro (fun j hj => Nat.le_trans hB0.out.size (hF j hj)) (bw_below hB0.out hB))
  clear hn hL hF hB
  have k1 := Lib.run_convert_bytes_const (P := Tryz.prog) w0 62 5 #[.int .u8 97, .int .u8 98] 2 2 Tryz.underlying62 Tryz.underlying5
  go_wp2_with fail
  refine (cSend_any (HL.out.below ((Below.refl w0.heap.size w0).alloc (Nat.le_refl _) _)) ok0 1 0 _ 2 sAB (by decide) (sAB_of w0) (fun g o e hg => by injection e with e; injection e with e; have := HL.out.lt hg; omega) (by decide) (by show N0.b.sent + _ ≤ _; rw [go1.2.2]; decide)).mono ?_
  rintro e w1 ⟨rfl, F1, hL1, hD1, hS1⟩
  rw [al1]
  have HL1 := Lib.hid (show CN w1 F1 b N1 from hL1)
  have hD1' := Lib.hid (show Did F0 w0 w1 from ((Did.refl F0 w0).alloc _).trans (Stem.refl _ _) hD1)
  have hS1' := Lib.hid (show Stem F0 F1 w0 from fun j hj => (hS1 j hj).imp id (fun e => by have := (Below.heap_alloc w0); simp at e; omega))
  clear k1 hL1 hD1 hS1 HL
  go_wp2_with fail
  refine (cStep_any HL1.out ok1 (by decide) (by decide) go1.1 (by decide) (by decide) go1.2.1 (by decide) 3 9 9).mono ?_
  rintro e w2 ⟨rfl, F2, hL2, hD2, hS2⟩
  rw [al2.1, al2.2]
  have HL2 := Lib.hid (show LiveN w w2 b N2 from ⟨F2, hL2, fun j hj => (hS1'.out.trans hD1'.out.size hS2 j hj).elim (HF.out.1 j) (fun e => Nat.le_trans HF.out.2.size e), HF.out.2.trans ((hD1'.out.trans hS1'.out hD2).below HF.out.2.size HF.out.1)⟩)
  clear hL2 hD2 hS2 HL1 hD1' hS1' HF
  have heq : ∀ (W : World), (binOp .eql 64 (.agg #[.string ⟨#[]⟩, .int .i64 2, .string ⟨#[97, 98]⟩, .int .i64 2]) (.agg #[.string ⟨#[]⟩, .int .i64 2, .string ⟨#[97, 98]⟩, .int .i64 2])).run Tryz.prog W = .ok (.bool true) W := fun W => by kernel_rfl
  have hgd : Tryz.prog.eqGuardType Tryz.prog.depth 64 = false := by kernel_rfl
  have hfd : ∀ (W : World), (Instr.field 52 (.agg #[.int .i64 2, .int .i64 2, .int .i64 0, .int .i64 0]) 1).run Tryz.prog W = .ok (.int .i64 2) W := fun W => by kernel_rfl
  have l1 := al3.1
  have l2 := al3.2.1
  have l4 := al4
  have HL3 := Lib.hid (HL2.out.below ((Below.refl w2.heap.size w2).alloc (Nat.le_refl _) (.cells #[.string ⟨#[]⟩, .int .i64 2, .string ⟨#[97, 98]⟩, .int .i64 2] 64)))
  clear HL2
  go_wp2_with (first
    | (go_at_call 14; (with_reducible refine (live_over HL3.out).mono ?_); rintro e w5 ⟨rfl, hL, hb5⟩; rw [l1]; have H5 := Lib.hid hL; clear hL hb5)
    | (go_at_call 10; (with_reducible refine (live_names H5.out (by rw [l2]; decide)).mono ?_); rintro e w6 ⟨A, c, rfl, -, hL, -⟩; rw [l2]; have H6 := Lib.hid hL; clear hL)
    | (go_at_call 15; (with_reducible refine (live_counts H6.out ok2 (by decide) 1).mono ?_); rintro e w7 ⟨rfl, hL, -⟩; rw [l4]; have H7 := Lib.hid hL; clear hL))
  go_ret
  exact ⟨by simp, H7.out.old⟩
end Go.Proofs.YtnkgjnmhiedfoaaGreat.Conn
namespace Go.Proofs.YtnkgjnmhiedfoaaGreat.Conn
open Go.RowKit Mem Tick Cargo Toxic Stage Chain
open Link
open Go.Proofs.YtnkgjnmhiedfoaaGreatW.PrintLast Pu
set_option maxRecDepth 100000
set_option linter.unusedVariables false
set_option linter.unusedSimpArgs false
theorem kk_say {x : Lk} {M Q : Int} {i o : ByteArray} (h : KK x i o) (ho : OkK x M Q) (hM : M ≤ 2000) : ∃ lo : Nat, countsV x = .agg #[.int .i64 (i.size : Int), .int .i64 (o.size : Int), .int .i64 ((heldL x.c.l : Nat) : Int), .int .i64 (lo : Int)] ∧ i.size = o.size + heldL x.c.l + lo ∧ o.size ≤ i.size ∧ i.extract 0 o.size = o := by
  have h0 := ho.c.lost0
  have h2 := ho.c.held
  have h4 := h.km.2
  have h5 := keep_pre h.km.1
  refine ⟨x.c.lost.toNat, ?_, by omega, h5.1, h5.2⟩
  unfold countsV
  rw [h.sent, h.got, show ((x.c.lost.toNat : Nat) : Int) = x.c.lost by omega]
theorem inN_le (x : Cn) (p : Op) (way : Int) : (inN x p way).size ≤ p.s.size := by
  unfold inN
  split
  · rw [putN_size]; exact putCN_le _ _ _
  · exact Nat.zero_le _
theorem inN_case (x : Cn) (p : Op) : (p.kind = 0 ∧ p.way = 0 ∧ ∃ N : Nat, N ≤ p.s.size ∧ (doesA x p).n = (N : Int) ∧ inN x p 0 = p.s.extract 0 N ∧ inN x p 1 = ⟨#[]⟩)
    ∨ (p.kind = 0 ∧ p.way = 1 ∧ ∃ N : Nat, N ≤ p.s.size ∧ (doesA x p).n = (N : Int) ∧ inN x p 1 = p.s.extract 0 N ∧ inN x p 0 = ⟨#[]⟩)
    ∨ ((p.kind ≠ 0 ∨ (p.way ≠ 0 ∧ p.way ≠ 1)) ∧ inN x p 0 = ⟨#[]⟩ ∧ inN x p 1 = ⟨#[]⟩) := by
  unfold inN
  by_cases k0 : p.kind = 0
  · have en : (doesA x p).n = sendA x p.way p.now p.s := by unfold doesA; rw [if_pos k0]
    by_cases w0 : p.way = 0
    · left
      refine ⟨k0, w0, putCN (lk x 0).c p.now p.s, putCN_le _ _ _, ?_, ?_, ?_⟩
      · rw [en, w0]; rfl
      · rw [w0, if_pos ⟨k0, rfl, by simp⟩]
      · rw [if_neg (fun e => by have := e.2.2.1 w0; omega)]
    · by_cases w1 : p.way = 1
      · right; left
        refine ⟨k0, w1, putCN (lk x 1).c p.now p.s, putCN_le _ _ _, ?_, ?_, ?_⟩
        · rw [en, w1]; rfl
        · rw [w1, if_pos ⟨k0, rfl, by simp⟩]
        · rw [if_neg (fun e => by have := e.2.2.2 rfl; omega)]
      · right; right
        have hw : isW p.way = false := by unfold isW; simp [w0, w1]
        refine ⟨.inr ⟨w0, w1⟩, ?_, ?_⟩ <;> rw [if_neg (fun e => by rw [hw] at e; cases e.2.1)]
  · right; right
    refine ⟨.inl k0, ?_, ?_⟩ <;> rw [if_neg (fun e => k0 e.1)]
theorem LiveN.far {w wr : World} {b : Nat} {x : Cn} (h : LiveN w wr b x) {g : Nat} {t : TypeId} {cs : Array Value} (hb : Blk wr g t cs) (ht : t ∉ nts) (hg : w.heap.size ≤ g) (i : Nat) (u : Value) : LiveN w (wr.setCell ⟨g, i, none⟩ u) b x := by
  obtain ⟨F, hC, hF, hB⟩ := h
  exact ⟨F, hC.far hb ht i u, hF, hB.setCell hg u⟩
theorem blkd {w : World} {k : Nat} {t : TypeId} {cs : Array Value} (h : Blk w k t cs) : Blk w.drew k t cs := h
theorem LiveN.drew {w wr : World} {b : Nat} {x : Cn} (h : LiveN w wr b x) : LiveN w wr.drew b x := h.below (Below.refl _ _).drew
def ocells (o0 o1 s0 s1 : ByteArray) (q : Nat) : Array Value := if q = 0 then #[.string o0, .string o1] else if q = 1 then #[.string (o0 ++ s0), .string o1] else #[.string (o0 ++ s0), .string (o1 ++ s1)]
structure QInv (w0 wq : World) (c m ma : Nat) (y : Cn) (I0 I1 o0 o1 s0 s1 : ByteArray) (ac : Array Value) (q : Nat) : Prop where
  L : LiveN w0 wq c y
  I : Blk wq m 50 #[.string I0, .string I1]
  O : Blk wq (m + 1) 50 (ocells o0 o1 s0 s1 q)
  A : Blk wq ma 48 ac
theorem belowN (w : World) (n : Nat) : Below w.heap.size w (w.drewN n) := by
  induction n with
  | zero => exact Below.refl _ _
  | succ n ih => exact ih.drew
theorem QInv.drewN {w0 wq : World} {c m ma : Nat} {y : Cn} {I0 I1 o0 o1 s0 s1 : ByteArray} {ac : Array Value} {q : Nat} (h : QInv w0 wq c m ma y I0 I1 o0 o1 s0 s1 ac q) (n : Nat) : QInv w0 (wq.drewN n) c m ma y I0 I1 o0 o1 s0 s1 ac q :=
  ⟨h.L.below (belowN wq n), h.I.below (belowN wq n), h.O.below (belowN wq n), h.A.below (belowN wq n)⟩
structure KInv (w0 wr : World) (c m : Nat) (x : Cn) (l : List Op) (k : Nat) (i0 i1 o0 o1 : ByteArray) : Prop where
  L : LiveN w0 wr c x
  ok : OkT x l k
  kk : KKN x i0 i1 o0 o1
  z0 : i0.size ≤ bytesOf (l.take k)
  z1 : i1.size ≤ bytesOf (l.take k)
  I : Blk wr m 50 #[.string i0, .string i1]
  O : Blk wr (m + 1) 50 #[.string o0, .string o1]
theorem KInv.start {w0 w2 : World} {c : Nat} {x : Cn} {l : List Op} (h : LiveN w0 w2 c x) (ho : OkT x l 0) (hk : KKN x ⟨#[]⟩ ⟨#[]⟩ ⟨#[]⟩ ⟨#[]⟩) : KInv w0 ((w2.alloc (.cells #[.string ⟨#[]⟩, .string ⟨#[]⟩] 50)).alloc (.cells #[.string ⟨#[]⟩, .string ⟨#[]⟩] 50)) c w2.heap.size x l 0 ⟨#[]⟩ ⟨#[]⟩ ⟨#[]⟩ ⟨#[]⟩ := by
  have hb := (Below.refl w2.heap.size w2).alloc (Nat.le_refl _) (.cells #[.string ⟨#[]⟩, .string ⟨#[]⟩] 50)
  have hb2 := (Below.refl (w2.alloc (.cells #[.string ⟨#[]⟩, .string ⟨#[]⟩] 50)).heap.size (w2.alloc (.cells #[.string ⟨#[]⟩, .string ⟨#[]⟩] 50))).alloc (Nat.le_refl _) (.cells #[.string ⟨#[]⟩, .string ⟨#[]⟩] 50)
  refine ⟨(h.below hb).below hb2, ho, hk, Nat.zero_le _, Nat.zero_le _, (Blk.new w2 _ _).below hb2, ?_⟩
  have := Blk.new (w2.alloc (.cells #[.string ⟨#[]⟩, .string ⟨#[]⟩] 50)) 50 #[.string ⟨#[]⟩, .string ⟨#[]⟩]
  simpa using this
theorem ConnKeeps_none (sa : Option Addr) (sc : Nat) (L : List Tox) (seed room now : Int) (v : Value) (l : List Op) (w : World) (hs : Toxs w (.slice sa L.length sc) L) (h0 : 0 ≤ seed) (h1 : seed < 18446744073709551616) (hv : Script w v l) (hr : linkE L room ≠ 0) :
    Calls Tryz.prog 5 #[.agg #[.slice sa L.length sc, .int .u64 seed, .int .i64 room, .int .i64 now], v] w fun e w' => e = .returned (.bool true) ∧ Below w.heap.size w w' := by
  obtain ⟨w0, e0, B0, X0⟩ : ∃ w0, Hid (w.alloc (.cells #[.slice sa L.length sc, .int .u64 seed, .int .i64 room, .int .i64 now] 25) = w0) ∧ Hid (Below w.heap.size w w0) ∧ Hid (Blk w0 w.heap.size 25 #[.slice sa L.length sc, .int .u64 seed, .int .i64 room, .int .i64 now]) := ⟨_, Lib.hid rfl, Lib.hid ((Below.refl _ _).alloc (Nat.le_refl _) _), Lib.hid (Blk.new w _ _)⟩
  have hn := Lib.hid (cNew_bad sa sc L seed room now w0 (hs.below B0.out) h0 h1 hr)
  have te : (linkE L room != 0) = true := by simpa using hr
  clear hs hr
  go_enter Tryz.func5, Tryz.ntmps5
  go_wp2_with fail
  rw [e0.out]
  refine hn.out.mono ?_
  rintro e w1 ⟨rfl, hB⟩
  have hB1 := Lib.hid (bw_below B0.out hB)
  clear hn hB
  go_wp2_with (go_at_call 9; (with_reducible refine (alive_any _).mono ?_); rintro e w9 ⟨rfl, hB9⟩; have hB9' := Lib.hid hB9; clear hB9)
  go_ret
  exact ⟨rfl, bw_below hB1.out hB9'.out⟩
theorem ConnKeeps_long (sa : Option Addr) (sc : Nat) (L : List Tox) (seed room now : Int) (v : Value) (l : List Op) (w : World) (hs : Toxs w (.slice sa L.length sc) L) (h0 : 0 ≤ seed) (h1 : seed < 18446744073709551616) (hv : Script w v l) (hr : linkE L room = 0) (hf : fewK L.length l = false) :
    Calls Tryz.prog 5 #[.agg #[.slice sa L.length sc, .int .u64 seed, .int .i64 room, .int .i64 now], v] w fun e w' => e = .returned (.bool true) ∧ Below w.heap.size w w' := by
  obtain ⟨w0, e0, B0, X0⟩ : ∃ w0, Hid (w.alloc (.cells #[.slice sa L.length sc, .int .u64 seed, .int .i64 room, .int .i64 now] 25) = w0) ∧ Hid (Below w.heap.size w w0) ∧ Hid (Blk w0 w.heap.size 25 #[.slice sa L.length sc, .int .u64 seed, .int .i64 room, .int .i64 now]) := ⟨_, Lib.hid rfl, Lib.hid ((Below.refl _ _).alloc (Nat.le_refl _) _), Lib.hid (Blk.new w _ _)⟩
  have hl8 : L.length ≤ 8 := (linkE_0 hr).2.1
  have hn := Lib.hid (cNew_ok sa sc L seed room now w0 (hs.below B0.out) h0 h1 hr)
  have hmx : L.length ≤ 9223372036854775807 := by omega
  have hv' := Lib.hid (hv.below B0.out)
  have hf' := Lib.hid hf
  clear hr hs hl8 hv hf
  go_enter Tryz.func5, Tryz.ntmps5
  go_wp2_with fail
  rw [e0.out]
  refine hn.out.mono ?_
  rintro e w1 ⟨c, rfl, hL⟩
  have H1 := Lib.hid hL
  have x0 := (X0.out.below hL.old).cell 0
  have x1 := (X0.out.below hL.old).cell 1
  have x2 := (X0.out.below hL.old).cell 2
  have x3 := (X0.out.below hL.old).cell 3
  have xb := (X0.out.below hL.old).lt
  clear hn hL
  go_wp2_with fail
  refine (few_any sa L.length sc seed room now _ l _ hmx (hv'.out.below H1.out.old)).mono ?_
  rintro e w2 ⟨rfl, hB⟩
  rw [hf'.out]
  have H2 := Lib.hid (H1.out.below hB)
  clear hB x0 x1 x2 x3 H1
  go_wp2_with (go_at_call 9; (with_reducible refine (alive_any _).mono ?_); rintro e w9 ⟨rfl, hB9⟩; have hB9' := Lib.hid hB9; clear hB9)
  go_ret
  exact ⟨rfl, bw_below B0.out (bw_below H2.out.old hB9'.out)⟩
set_option maxHeartbeats 4000000 in
theorem ConnKeeps_yes (sa : Option Addr) (sc : Nat) (L : List Tox) (seed room now : Int) (v : Value) (l : List Op) (w : World) (hs : Toxs w (.slice sa L.length sc) L) (h0 : 0 ≤ seed) (h1 : seed < 18446744073709551616) (hv : Script w v l) (hr : linkE L room = 0) (hf : fewK L.length l = true) :
    Calls Tryz.prog 5 #[.agg #[.slice sa L.length sc, .int .u64 seed, .int .i64 room, .int .i64 now], v] w fun e w' => e = .returned (.bool true) ∧ Below w.heap.size w w' := by
  obtain ⟨w0, e0, B0, X0⟩ : ∃ w0, Hid (w.alloc (.cells #[.slice sa L.length sc, .int .u64 seed, .int .i64 room, .int .i64 now] 25) = w0) ∧ Hid (Below w.heap.size w w0) ∧ Hid (Blk w0 w.heap.size 25 #[.slice sa L.length sc, .int .u64 seed, .int .i64 room, .int .i64 now]) := ⟨_, Lib.hid rfl, Lib.hid ((Below.refl _ _).alloc (Nat.le_refl _) _), Lib.hid (Blk.new w _ _)⟩
  have hl8 : L.length ≤ 8 := (linkE_0 hr).2.1
  have hn := Lib.hid (cNew_ok sa sc L seed room now w0 (hs.below B0.out) h0 h1 hr)
  have hmx : L.length ≤ 9223372036854775807 := by omega
  have hv' := Lib.hid (hv.below B0.out)
  have hf' := Lib.hid hf
  have hok0 := Lib.hid (okT_conn0 (now := now) hr (seedW_bd seed 0).1 (seedW_bd seed 0).2 (seedW_bd seed 1).1 (seedW_bd seed 1).2 l)
  have hkk0 := Lib.hid (kkn_conn0 L (seedW seed 0) (seedW seed 1) room now)
  obtain ⟨a, cap, rfl, hm, hsz, hA⟩ := hv
  obtain ⟨hn5, hl2⟩ : bytesOf l ≤ 2000 ∧ l.length ≤ 60 := by
    unfold fewK at hf
    simp only [Bool.and_eq_true, decide_eq_true_eq] at hf
    exact ⟨hf.2.2, hf.2.1⟩
  generalize conn0 L (seedW seed 0) (seedW seed 1) room now = N0 at *
  clear hr hs hl8 hf
  go_enter Tryz.func5, Tryz.ntmps5
  go_wp2_with fail
  rw [e0.out]
  refine hn.out.mono ?_
  rintro e w1 ⟨c, rfl, hL⟩
  have H1 := Lib.hid hL
  have x0 := (X0.out.below hL.old).cell 0
  have x1 := (X0.out.below hL.old).cell 1
  have x2 := (X0.out.below hL.old).cell 2
  have x3 := (X0.out.below hL.old).cell 3
  have xb := (X0.out.below hL.old).lt
  clear hn hL
  go_wp2_with fail
  refine (few_any sa L.length sc seed room now _ l _ hmx (hv'.out.below H1.out.old)).mono ?_
  rintro e w2 ⟨rfl, hB⟩
  rw [hf'.out]
  have H2 := Lib.hid (H1.out.below hB)
  clear hB x0 x1 x2 x3 H1
  go_wp2
  have hS0 := Lib.hid (KInv.start H2.out hok0.out hkk0.out)
  have hm2 := H2.out.old.size
  clear hok0 hkk0 H2
  generalize hW2 : (w2.alloc (.cells #[.string ⟨#[]⟩, .string ⟨#[]⟩] 50)).alloc (.cells #[.string ⟨#[]⟩, .string ⟨#[]⟩] 50) = W2 at *
  generalize w2.heap.size = m2 at *
  clear hW2
  go_loopw [43] (fun iv wr => ∃ (k : Nat) (x : Cn) (i0 i1 o0 o1 : ByteArray), k ≤ l.length ∧ iv = .int .i64 k ∧ KInv w0 wr c m2 x l k i0 i1 o0 o1) (fun iv _ => l.length - (intOf iv).toNat)
  case atStart => exact ⟨0, N0, ⟨#[]⟩, ⟨#[]⟩, ⟨#[]⟩, ⟨#[]⟩, by omega, rfl, hS0.out⟩
  case round =>
    obtain ⟨k, x, i0, i1, o0, o1, hk, rfl, hI⟩ := hrel
    clear hS0
    by_cases hlt : k < l.length
    · obtain ⟨g, oo, rfl, hc⟩ := hA (by intro h; subst h; simp at hlt)
      have hx : l[k]? = some l[k] := List.getElem?_eq_getElem hlt
      obtain ⟨d0, d1, d2, d3, d4, d5, d6, d7, d8, d9, d10, d11⟩ := hc k _ hx
      have hbt := bytes_s l k _ hx
      have hble := bytesOf_le l (k + 1)
      rw [hbt] at hble
      have hbt' := Lib.hid hbt
      generalize l[k] = p at *
      have hnext := Lib.hid (hI.ok.next hx hn5 hl2)
      have hkn := Lib.hid (hI.kk.does p)
      have hil0 := inN_le x p 0
      have hil1 := inN_le x p 1
      have hcase := Lib.hid (inN_case x p)
      have hx' := Lib.hid hx
      clear hbt hx hc hA
      obtain ⟨p0, p1, p2, p3, p4, p5, ⟨t0, t1, t2, t3, t4, t5⟩⟩ := p
      dsimp only at *
      have hold := hI.L.old
      have e0 := bcells (bw_below B0.out hold) d0
      have e1 := bcells (bw_below B0.out hold) d1
      have e2 := bcells (bw_below B0.out hold) d2
      have e3 := bcells (bw_below B0.out hold) d3
      have e4 := bcells (bw_below B0.out hold) d4
      have e5 := bcells (bw_below B0.out hold) d5
      have e6 := bcells (bw_below B0.out hold) d6
      have e7 := bcells (bw_below B0.out hold) d7
      have e8 := bcells (bw_below B0.out hold) d8
      have e9 := bcells (bw_below B0.out hold) d9
      have e10 := bcells (bw_below B0.out hold) d10
      have e11 := bcells (bw_below B0.out hold) d11
      have hII := Lib.hid hI
      have hszw : w.heap.size ≤ wr.heap.size := Nat.le_trans B0.out.size hold.size
      clear d0 d1 d2 d3 d4 d5 d6 d7 d8 d9 d10 d11 hI hold
      go_wp2_with fail
      have hBx : Below wr.heap.size wr (wr.alloc (.cells #[.int .i64 p0, .int .i64 p1, .int .i64 p2, .int .i64 p3, .int .i64 p4, .string p5, .string t0, .int .i64 t1, .bool t2, .int .i64 t3, .int .i64 t4, .int .i64 t5] 43)) := (Below.refl _ _).alloc (Nat.le_refl _) _
      refine (live_does (hII.out.L.below hBx) hII.out.ok hn5 hl2 hII.out.kk (by have := hII.out.z0; have := bytesOf_le l k; omega) (by have := hII.out.z1; have := bytesOf_le l k; omega) ⟨p0, p1, p2, p3, p4, p5, ⟨t0, t1, t2, t3, t4, t5⟩⟩ hx'.out).mono ?_
      rintro e w3 ⟨rfl, hL3, hK3⟩
      have HX3 := Lib.hid (hK3 _ _ _ (Blk.new wr 43 #[.int .i64 p0, .int .i64 p1, .int .i64 p2, .int .i64 p3, .int .i64 p4, .string p5, .string t0, .int .i64 t1, .bool t2, .int .i64 t3, .int .i64 t4, .int .i64 t5]) (by decide))
      have HI3 := Lib.hid (hK3 _ _ _ (hII.out.I.below hBx) (by decide))
      have HO3 := Lib.hid (hK3 _ _ _ (hII.out.O.below hBx) (by decide))
      have HL3 := Lib.hid hL3
      have hz0 := hII.out.z0
      have hz1 := hII.out.z1
      clear hL3 hK3 hBx hII e0 e1 e2 e3 e4 e5 e6 e7 e8 e9 e10 e11 hx'
      generalize doesN x ⟨p0, p1, p2, p3, p4, p5, ⟨t0, t1, t2, t3, t4, t5⟩⟩ = y at *
      generalize doesA x ⟨p0, p1, p2, p3, p4, p5, ⟨t0, t1, t2, t3, t4, t5⟩⟩ = an at *
      generalize hi0 : inN x ⟨p0, p1, p2, p3, p4, p5, ⟨t0, t1, t2, t3, t4, t5⟩⟩ 0 = j0 at *
      generalize hi1 : inN x ⟨p0, p1, p2, p3, p4, p5, ⟨t0, t1, t2, t3, t4, t5⟩⟩ 1 = j1 at *
      clear hi0 hi1
      obtain ⟨aN, s0, v0, s1, v1, eE⟩ := an
      dsimp only at *
      unfold An.v
      dsimp only
      have HA := Lib.hid (show Blk (w3.alloc (.cells #[.int .i64 aN, .string s0, .int .i64 v0, .string s1, .int .i64 v1, .int .i64 eE] 48)) w3.heap.size 48 #[.int .i64 aN, .string s0, .int .i64 v0, .string s1, .int .i64 v1, .int .i64 eE] from Blk.new w3 _ _)
      have hBa := (Below.refl w3.heap.size w3).alloc (Nat.le_refl _) (.cells #[.int .i64 aN, .string s0, .int .i64 v0, .string s1, .int .i64 v1, .int .i64 eE] 48)
      have HLA := Lib.hid (HL3.out.below hBa)
      have HXA := Lib.hid (HX3.out.below hBa)
      have HIA := Lib.hid (HI3.out.below hBa)
      have HOA := Lib.hid (HO3.out.below hBa)
      have hlt3 : wr.heap.size < w3.heap.size := HX3.out.lt
      have hlm3 : m2 + 1 < w3.heap.size := HO3.out.lt
      go_upto_region 9 with (fail)
      clear HX3 HI3 HO3 HL3 hBa
      generalize w3.alloc (.cells #[.int .i64 aN, .string s0, .int .i64 v0, .string s1, .int .i64 v1, .int .i64 eE] 48) = w4 at *
      generalize w3.heap.size = ma at *
      generalize wr.heap.size = mo at *
      have q0 : w4.cell? ⟨mo, 0, none⟩ = some (.int .i64 p0) := (HXA.out.cell 0).trans rfl
      have q1 : w4.cell? ⟨mo, 1, none⟩ = some (.int .i64 p1) := (HXA.out.cell 1).trans rfl
      have q5 : w4.cell? ⟨mo, 5, none⟩ = some (.string p5) := (HXA.out.cell 5).trans rfl
      have qa : w4.cell? ⟨ma, 0, none⟩ = some (.int .i64 aN) := (HA.out.cell 0).trans rfl
      obtain ⟨B, hB⟩ : ∃ B, Hid (B = decide (p0 = 0 ∧ (p1 = 0 ∨ p1 = 1))) := ⟨_, Lib.hid rfl⟩
      go_cut [43, 75] (fun v v75 wx => v = .int .i64 k ∧ v75 = .bool B ∧ wx = w4)
      case first =>
        clear HLA HIA HOA HA HXA hkn hnext
        rcases hcase.out with ⟨h1, h2, NN, hle, h3, h4, h5⟩ | ⟨h1, h2, NN, hle, h3, h4, h5⟩ | ⟨h1, h2, h3⟩
        · subst h1
          subst h2
          subst h3
          subst h4
          subst h5
          have tg : decide ((0 : Int) ≤ (NN : Int)) = true := decide_eq_true (by omega)
          have tl : decide ((NN : Int) ≤ (p5.size : Int)) = true := decide_eq_true (by omega)
          clear hcase
          go_wp2
          go_meet
          exact ⟨rfl, by rw [hB.out]; rfl, rfl⟩
        · subst h1
          subst h2
          subst h3
          subst h4
          subst h5
          have tg : decide ((0 : Int) ≤ (NN : Int)) = true := decide_eq_true (by omega)
          have tl : decide ((NN : Int) ≤ (p5.size : Int)) = true := decide_eq_true (by omega)
          clear hcase
          go_wp2
          go_meet
          exact ⟨rfl, by rw [hB.out]; rfl, rfl⟩
        · clear h2 h3 hcase
          by_cases k0 : p0 = 0
          · have hw2 : p1 ≠ 0 ∧ p1 ≠ 1 := by
              rcases h1 with e | e
              · exact absurd k0 e
              · exact e
            have t1_ : (p0 == 0) = true := by simpa using k0
            have hd := Lib.hid (show decide (p0 = 0 ∧ (p1 = 0 ∨ p1 = 1)) = false from by simp; omega)
            clear k0 h1
            by_cases g0 : 0 ≤ p1
            · have t2_ : decide (0 ≤ p1) = true := decide_eq_true g0
              have t3_ : decide (p1 ≤ 1) = false := decide_eq_false (by omega)
              clear hw2 g0
              go_wp2
              go_meet
              exact ⟨rfl, by rw [hB.out, hd.out], rfl⟩
            · have t2_ : decide (0 ≤ p1) = false := decide_eq_false g0
              clear hw2 g0
              go_wp2
              go_meet
              exact ⟨rfl, by rw [hB.out, hd.out], rfl⟩
          · have t1_ : (p0 == 0) = false := by simpa using k0
            have hd := Lib.hid (show decide (p0 = 0 ∧ (p1 = 0 ∨ p1 = 1)) = false from by simp; omega)
            clear k0 h1
            go_wp2
            go_meet
            exact ⟨rfl, by rw [hB.out, hd.out], rfl⟩
      case rest =>
      obtain ⟨rfl, rfl, rfl⟩ := hcut
      go_upto_if 75 with fail
      go_cut [43] (fun v wx => v = .int .i64 k ∧ LiveN w0 wx c y ∧ Blk wx m2 50 #[.string (i0 ++ j0), .string (i1 ++ j1)] ∧ Blk wx (m2 + 1) 50 #[.string o0, .string o1] ∧ Blk wx ma 48 #[.int .i64 aN, .string s0, .int .i64 v0, .string s1, .int .i64 v1, .int .i64 eE])
      case first =>
        have qi0 : wc.cell? ⟨m2, 0, none⟩ = some (.string i0) := (HIA.out.cell 0).trans rfl
        have qi1 : wc.cell? ⟨m2, 1, none⟩ = some (.string i1) := (HIA.out.cell 1).trans rfl
        have f0 := (blkd HIA.out).free 0
        have f1 := (blkd HIA.out).free 1
        have hge : w0.heap.size ≤ m2 := hm2
        rcases hcase.out with ⟨h1, h2, NN, hle, h3, h4, h5⟩ | ⟨h1, h2, NN, hle, h3, h4, h5⟩ | ⟨h1, h2, h3⟩
        · subst h1
          subst h2
          subst h3
          subst h4
          subst h5
          have hBt : B = true := by rw [hB.out]; rfl
          subst hBt
          have HM := Lib.hid (show LiveN w0 (wc.drew.setCell ⟨m2, 0, none⟩ (.string (i0 ++ p5.extract 0 NN))) c y ∧ Blk (wc.drew.setCell ⟨m2, 0, none⟩ (.string (i0 ++ p5.extract 0 NN))) m2 50 #[.string (i0 ++ p5.extract 0 NN), .string (i1 ++ (⟨#[]⟩ : ByteArray))] ∧ Blk (wc.drew.setCell ⟨m2, 0, none⟩ (.string (i0 ++ p5.extract 0 NN))) (m2 + 1) 50 #[.string o0, .string o1] ∧ Blk (wc.drew.setCell ⟨m2, 0, none⟩ (.string (i0 ++ p5.extract 0 NN))) ma 48 #[.int .i64 (NN : Int), .string s0, .int .i64 v0, .string s1, .int .i64 v1, .int .i64 eE] from by
            rw [app_nil]
            exact ⟨(HLA.out.drew).far (blkd HIA.out) (by decide) hge 0 _, (blkd HIA.out).set_ 0 _, (blkd HOA.out).far (p := ⟨m2, 0, none⟩) (by show m2 + 1 ≠ m2; omega) _, (blkd HA.out).far (p := ⟨m2, 0, none⟩) (by show ma ≠ m2; omega) _⟩)
          have tl2 : decide (p5.size < NN) = false := decide_eq_false (by omega)
          have hnn : (0 : Int) ≤ (NN : Int) := by omega
          have hns : ¬ (9223372036854775807 < i0.size + NN) := by omega
          clear HLA HIA HOA HA HXA hcase hB
          go_wp2_with fail
          refine start_ (n := 12) (S := fun w' => w'.cell? ⟨mo, 1, none⟩ = some (.int .i64 0) ∧ w'.cell? ⟨m2, 0, none⟩ = some (.string i0) ∧ w'.cell? ⟨mo, 5, none⟩ = some (.string p5) ∧ w'.cell? ⟨ma, 0, none⟩ = some (.int .i64 (NN : Int))) (ds := [11]) (m_ 12 0) (by kernel_rfl) rfl (by kernel_rfl) ⟨q1, qi0, q5, qa⟩ (fun hHeld => ?_)
          refine pq_ 0 76 12 1 ?_
          refine pq_ 4 80 12 17 ?_
          refine pq_ 6 82 12 81 ?_
          refine tq_ 1 77 12 83 hHeld ?_
          refine pq_ 2 78 12 87 ?_
          refine tq_ 3 79 12 95 hHeld ?_
          refine tq_ 5 81 12 127 hHeld ?_
          refine tq_ 7 83 12 255 hHeld ?_
          refine pq_ 8 84 12 511 ?_
          refine pq_ 9 85 12 1023 ?_
          refine pq_ 10 86 12 2047 ?_
          refine last_ (i := 11) (N := none) (m_ 12 4095) rfl rfl (by kernel_rfl) (by decide) (fun K hK => ?_)
          refine skip_ (w1 := ?_) (by rfl) rfl ?_ ?_
          rotate_left
          · go_simp
            rfl
          refine hK.out _ _ ?_
          clear hK K
          refine done_ (by kernel_rfl) ?_
          go_wp2
          go_meet
          exact ⟨rfl, HM.out⟩
        · subst h1
          subst h2
          subst h3
          subst h4
          subst h5
          have hBt : B = true := by rw [hB.out]; rfl
          subst hBt
          have HM := Lib.hid (show LiveN w0 (wc.drew.setCell ⟨m2, 1, none⟩ (.string (i1 ++ p5.extract 0 NN))) c y ∧ Blk (wc.drew.setCell ⟨m2, 1, none⟩ (.string (i1 ++ p5.extract 0 NN))) m2 50 #[.string (i0 ++ (⟨#[]⟩ : ByteArray)), .string (i1 ++ p5.extract 0 NN)] ∧ Blk (wc.drew.setCell ⟨m2, 1, none⟩ (.string (i1 ++ p5.extract 0 NN))) (m2 + 1) 50 #[.string o0, .string o1] ∧ Blk (wc.drew.setCell ⟨m2, 1, none⟩ (.string (i1 ++ p5.extract 0 NN))) ma 48 #[.int .i64 (NN : Int), .string s0, .int .i64 v0, .string s1, .int .i64 v1, .int .i64 eE] from by
            rw [app_nil]
            exact ⟨(HLA.out.drew).far (blkd HIA.out) (by decide) hge 1 _, (blkd HIA.out).set_ 1 _, (blkd HOA.out).far (p := ⟨m2, 1, none⟩) (by show m2 + 1 ≠ m2; omega) _, (blkd HA.out).far (p := ⟨m2, 1, none⟩) (by show ma ≠ m2; omega) _⟩)
          have tl2 : decide (p5.size < NN) = false := decide_eq_false (by omega)
          have hnn : (0 : Int) ≤ (NN : Int) := by omega
          have hns : ¬ (9223372036854775807 < i1.size + NN) := by omega
          clear HLA HIA HOA HA HXA hcase hB
          go_wp2_with fail
          refine start_ (n := 12) (S := fun w' => w'.cell? ⟨mo, 1, none⟩ = some (.int .i64 1) ∧ w'.cell? ⟨m2, 1, none⟩ = some (.string i1) ∧ w'.cell? ⟨mo, 5, none⟩ = some (.string p5) ∧ w'.cell? ⟨ma, 0, none⟩ = some (.int .i64 (NN : Int))) (ds := [11]) (m_ 12 0) (by kernel_rfl) rfl (by kernel_rfl) ⟨q1, qi1, q5, qa⟩ (fun hHeld => ?_)
          refine pq_ 0 76 12 1 ?_
          refine pq_ 4 80 12 17 ?_
          refine pq_ 6 82 12 81 ?_
          refine tq_ 1 77 12 83 hHeld ?_
          refine pq_ 2 78 12 87 ?_
          refine tq_ 3 79 12 95 hHeld ?_
          refine tq_ 5 81 12 127 hHeld ?_
          refine tq_ 7 83 12 255 hHeld ?_
          refine pq_ 8 84 12 511 ?_
          refine pq_ 9 85 12 1023 ?_
          refine pq_ 10 86 12 2047 ?_
          refine last_ (i := 11) (N := none) (m_ 12 4095) rfl rfl (by kernel_rfl) (by decide) (fun K hK => ?_)
          refine skip_ (w1 := ?_) (by rfl) rfl ?_ ?_
          rotate_left
          · go_simp
            rfl
          refine hK.out _ _ ?_
          clear hK K
          refine done_ (by kernel_rfl) ?_
          go_wp2
          go_meet
          exact ⟨rfl, HM.out⟩
        · have hBf : B = false := by rw [hB.out]; simp; omega
          subst hBf
          have HM := Lib.hid (show LiveN w0 wc c y ∧ Blk wc m2 50 #[.string (i0 ++ j0), .string (i1 ++ j1)] ∧ Blk wc (m2 + 1) 50 #[.string o0, .string o1] ∧ Blk wc ma 48 #[.int .i64 aN, .string s0, .int .i64 v0, .string s1, .int .i64 v1, .int .i64 eE] from by
            rw [h2, h3, app_nil, app_nil]
            exact ⟨HLA.out, HIA.out, HOA.out, HA.out⟩)
          clear h1 h2 h3 HLA HIA HOA HA HXA hcase
          go_wp2
          go_meet
          exact ⟨rfl, HM.out⟩
      case rest =>
        obtain ⟨rfl, hL5, hI5, hO5, hA5⟩ := hcut
        clear q0 q1 q5 qa hB
        have hQ0 := Lib.hid (show QInv w0 wc c m2 ma y (i0 ++ j0) (i1 ++ j1) o0 o1 s0 s1 #[.int .i64 aN, .string s0, .int .i64 v0, .string s1, .int .i64 v1, .int .i64 eE] 0 from ⟨hL5, hI5, hO5, hA5⟩)
        have hbnd := Lib.hid (show (i0 ++ j0).size ≤ bytesOf (l.take (k + 1)) ∧ (i1 ++ j1).size ≤ bytesOf (l.take (k + 1)) from by rw [hbt'.out, ByteArray.size_append, ByteArray.size_append]; omega)
        have hfin := Lib.hid (bytesOf_le l (k + 1))
        clear hL5 hI5 hO5 hA5 HLA HIA HOA HA HXA hcase hz0 hz1 hil0 hil1 hbt' hble
        generalize i0 ++ j0 = I0 at *
        generalize i1 ++ j1 = I1 at *
        generalize wc = w5 at *
        go_wp2
        go_loopw [87] (fun p wq => ∃ q : Nat, q ≤ 2 ∧ p = .int .i64 q ∧ QInv w0 wq c m2 ma y I0 I1 o0 o1 s0 s1 #[.int .i64 aN, .string s0, .int .i64 v0, .string s1, .int .i64 v1, .int .i64 eE] q) (fun p _ => 2 - (intOf p).toNat)
        case atStart => exact ⟨0, by omega, rfl, hQ0.out⟩
        case round =>
          obtain ⟨q, hq, rfl, hQ⟩ := hrel
          have HQ := Lib.hid hQ
          clear hQ0 hQ
          have h3 : q = 0 ∨ q = 1 ∨ q = 2 := by omega
          rcases h3 with rfl | rfl | rfl
          · have v0 : wr.cell? ⟨m2 + 1, 0, none⟩ = some (.string o0) := (HQ.out.O.cell 0).trans rfl
            have v1_ : wr.cell? ⟨ma, 1, none⟩ = some (.string s0) := (HQ.out.A.cell 1).trans rfl
            have f0 := (blkd HQ.out.O).free 0
            have hge : w0.heap.size ≤ m2 + 1 := Nat.le_succ_of_le hm2
            have HL6 := Lib.hid ((HQ.out.L.drew).far (blkd HQ.out.O) (by decide) hge 0 (.string (o0 ++ s0)))
            have HO6 := Lib.hid (show Blk (wr.drew.setCell ⟨m2 + 1, 0, none⟩ (.string (o0 ++ s0))) (m2 + 1) 50 (ocells o0 o1 s0 s1 1) from (blkd HQ.out.O).set_ 0 (.string (o0 ++ s0)))
            have HI6 := Lib.hid ((blkd HQ.out.I).far (p := ⟨m2 + 1, 0, none⟩) (by show m2 ≠ m2 + 1; omega) (.string (o0 ++ s0)))
            have HA6 := Lib.hid ((blkd HQ.out.A).far (p := ⟨m2 + 1, 0, none⟩) (by show ma ≠ m2 + 1; omega) (.string (o0 ++ s0)))
            obtain ⟨lo, hcv, kh, kle, kex⟩ := kk_say hkn.out.a hnext.out.ok.a (by have := hfin.out; omega)
            have hcn : Hid (countsN y 0 = .agg #[.int .i64 (I0.size : Int), .int .i64 ((o0 ++ s0).size : Int), .int .i64 ((heldL y.a.c.l : Nat) : Int), .int .i64 (lo : Int)]) := Lib.hid hcv
            have hww := Lib.hid (cnt_w (o0 ++ s0).size (heldL y.a.c.l) lo I0.size kh (by have := hbnd.out; have := hfin.out; omega))
            have tgt : decide ((I0.size : Int) < ((o0 ++ s0).size : Int)) = false := decide_eq_false (by omega)
            have tz0 : (0 : Int) ≤ ((o0 ++ s0).size : Int) := by omega
            have tz1 : ((o0 ++ s0).size : Int) ≤ (I0.size : Int) := by omega
            have tle2 : decide (I0.size < (o0 ++ s0).size) = false := decide_eq_false (by omega)
            have tne : ((o0 ++ s0).toList == (I0.extract 0 (o0 ++ s0).size).toList) = true := by rw [kex]; simp
            have hM1 := Lib.hid (show ((bytesOf (l.take (k + 1)) : Nat) : Int) ≤ 1000000000 by have := hfin.out; omega)
            have hns : ¬ (9223372036854775807 < o0.size + s0.size) := by have h9 := hbnd.out; have := hfin.out; rw [ByteArray.size_append] at kle; omega
            clear HQ hcv kh kle kex
            generalize heldL y.a.c.l = hd at *
            go_wp2_with fail
            refine start_ (n := 11) (S := fun w' => w'.cell? ⟨m2 + 1, 0, none⟩ = some (.string o0) ∧ w'.cell? ⟨ma, 1, none⟩ = some (.string s0)) (ds := [10]) (m_ 11 0) (by kernel_rfl) rfl (by kernel_rfl) ⟨v0, v1_⟩ (fun hHeld => ?_)
            refine pq_ 0 90 11 1 ?_
            refine pq_ 1 91 11 3 ?_
            refine pq_ 3 93 11 11 ?_
            refine pq_ 4 94 11 27 ?_
            refine pq_ 5 95 11 59 ?_
            refine pq_ 6 96 11 123 ?_
            refine tq_ 2 92 11 127 hHeld ?_
            refine tq_ 7 97 11 255 hHeld ?_
            refine pq_ 8 98 11 511 ?_
            refine pq_ 9 99 11 1023 ?_
            refine last_ (i := 10) (N := none) (m_ 11 2047) rfl rfl (by kernel_rfl) (by decide) (fun K hK => ?_)
            refine skip_ (w1 := ?_) (by rfl) rfl ?_ ?_
            rotate_left
            · go_simp
              rfl
            refine hK.out _ _ ?_
            clear hK K
            refine done_ (by kernel_rfl) ?_
            clear hHeld v0 v1_
            generalize hO : o0 ++ s0 = OO at *
            have hO' := Lib.hid hO
            clear hO
            go_wp2_with fail
            refine (live_counts HL6.out hnext.out.ok hM1.out 0).mono ?_
            rintro e w7 ⟨rfl, hL7, hB7⟩
            rw [hcn.out]
            have HC := Lib.hid (Blk.new w7 52 #[.int .i64 (I0.size : Int), .int .i64 (OO.size : Int), .int .i64 (hd : Int), .int .i64 (lo : Int)])
            have hB8 := (Below.refl w7.heap.size w7).alloc (Nat.le_refl _) (.cells #[.int .i64 (I0.size : Int), .int .i64 (OO.size : Int), .int .i64 (hd : Int), .int .i64 (lo : Int)] 52)
            have hn := Lib.hid (show QInv w0 (w7.alloc (.cells #[.int .i64 (I0.size : Int), .int .i64 (OO.size : Int), .int .i64 (hd : Int), .int .i64 (lo : Int)] 52)) c m2 ma y I0 I1 o0 o1 s0 s1 #[.int .i64 aN, .string s0, .int .i64 v0, .string s1, .int .i64 v1, .int .i64 eE] 1 from ⟨hL7.below hB8, (HI6.out.below hB7).below hB8, (HO6.out.below hB7).below hB8, (HA6.out.below hB7).below hB8⟩)
            clear hL7 hB7 hB8 HL6 HO6 HI6 HA6
            go_upto_region 16 with (fail)
            generalize w7.heap.size = mc at *
            generalize w7.alloc (.cells #[.int .i64 (I0.size : Int), .int .i64 (OO.size : Int), .int .i64 (hd : Int), .int .i64 (lo : Int)] 52) = w8 at *
            have c0 : w8.cell? ⟨m2 + 1, 0, none⟩ = some (.string OO) := by rw [← hO'.out]; exact (hn.out.O.cell 0).trans rfl
            have c1 : w8.cell? ⟨m2, 0, none⟩ = some (.string I0) := (hn.out.I.cell 0).trans rfl
            have c2 : w8.cell? ⟨mc, 0, none⟩ = some (.int .i64 (I0.size : Int)) := (HC.out.cell 0).trans rfl
            have c3 : w8.cell? ⟨mc, 1, none⟩ = some (.int .i64 (OO.size : Int)) := (HC.out.cell 1).trans rfl
            have c4 : w8.cell? ⟨mc, 2, none⟩ = some (.int .i64 (hd : Int)) := (HC.out.cell 2).trans rfl
            have c5 : w8.cell? ⟨mc, 3, none⟩ = some (.int .i64 (lo : Int)) := (HC.out.cell 3).trans rfl
            have hwx := hww.out
            obtain ⟨hw1, hw2⟩ := hwx
            clear hkn hnext hbnd hfin hcn
            go_quiet (fail)
            clear c0 c1 c2 c3 c4 c5 hw1 hw2 hww tgt tz0 tz1 tle2 tne
            go_wp2
            go_roundw
            case rel => exact ⟨0 + 1, by omega, by go_num, hn.out.drewN nq⟩
            case measure => simp [intOf]
          · have v0 : wr.cell? ⟨m2 + 1, 1, none⟩ = some (.string o1) := (HQ.out.O.cell 1).trans rfl
            have v1_ : wr.cell? ⟨ma, 3, none⟩ = some (.string s1) := (HQ.out.A.cell 3).trans rfl
            have f0 := (blkd HQ.out.O).free 1
            have hge : w0.heap.size ≤ m2 + 1 := Nat.le_succ_of_le hm2
            have HL6 := Lib.hid ((HQ.out.L.drew).far (blkd HQ.out.O) (by decide) hge 1 (.string (o1 ++ s1)))
            have HO6 := Lib.hid (show Blk (wr.drew.setCell ⟨m2 + 1, 1, none⟩ (.string (o1 ++ s1))) (m2 + 1) 50 (ocells o0 o1 s0 s1 2) from (blkd HQ.out.O).set_ 1 (.string (o1 ++ s1)))
            have HI6 := Lib.hid ((blkd HQ.out.I).far (p := ⟨m2 + 1, 1, none⟩) (by show m2 ≠ m2 + 1; omega) (.string (o1 ++ s1)))
            have HA6 := Lib.hid ((blkd HQ.out.A).far (p := ⟨m2 + 1, 1, none⟩) (by show ma ≠ m2 + 1; omega) (.string (o1 ++ s1)))
            obtain ⟨lo, hcv, kh, kle, kex⟩ := kk_say hkn.out.b hnext.out.ok.b (by have := hfin.out; omega)
            have hcn : Hid (countsN y 1 = .agg #[.int .i64 (I1.size : Int), .int .i64 ((o1 ++ s1).size : Int), .int .i64 ((heldL y.b.c.l : Nat) : Int), .int .i64 (lo : Int)]) := Lib.hid hcv
            have hww := Lib.hid (cnt_w (o1 ++ s1).size (heldL y.b.c.l) lo I1.size kh (by have := hbnd.out; have := hfin.out; omega))
            have tgt : decide ((I1.size : Int) < ((o1 ++ s1).size : Int)) = false := decide_eq_false (by omega)
            have tz0 : (0 : Int) ≤ ((o1 ++ s1).size : Int) := by omega
            have tz1 : ((o1 ++ s1).size : Int) ≤ (I1.size : Int) := by omega
            have tle2 : decide (I1.size < (o1 ++ s1).size) = false := decide_eq_false (by omega)
            have tne : ((o1 ++ s1).toList == (I1.extract 0 (o1 ++ s1).size).toList) = true := by rw [kex]; simp
            have hM1 := Lib.hid (show ((bytesOf (l.take (k + 1)) : Nat) : Int) ≤ 1000000000 by have := hfin.out; omega)
            have hns : ¬ (9223372036854775807 < o1.size + s1.size) := by have h9 := hbnd.out; have := hfin.out; rw [ByteArray.size_append] at kle; omega
            clear HQ hcv kh kle kex
            generalize heldL y.b.c.l = hd at *
            go_wp2_with fail
            refine start_ (n := 11) (S := fun w' => w'.cell? ⟨m2 + 1, 1, none⟩ = some (.string o1) ∧ w'.cell? ⟨ma, 3, none⟩ = some (.string s1)) (ds := [10]) (m_ 11 0) (by kernel_rfl) rfl (by kernel_rfl) ⟨v0, v1_⟩ (fun hHeld => ?_)
            refine pq_ 0 90 11 1 ?_
            refine pq_ 1 91 11 3 ?_
            refine pq_ 3 93 11 11 ?_
            refine pq_ 4 94 11 27 ?_
            refine pq_ 5 95 11 59 ?_
            refine pq_ 6 96 11 123 ?_
            refine tq_ 2 92 11 127 hHeld ?_
            refine tq_ 7 97 11 255 hHeld ?_
            refine pq_ 8 98 11 511 ?_
            refine pq_ 9 99 11 1023 ?_
            refine last_ (i := 10) (N := none) (m_ 11 2047) rfl rfl (by kernel_rfl) (by decide) (fun K hK => ?_)
            refine skip_ (w1 := ?_) (by rfl) rfl ?_ ?_
            rotate_left
            · go_simp
              rfl
            refine hK.out _ _ ?_
            clear hK K
            refine done_ (by kernel_rfl) ?_
            clear hHeld v0 v1_
            generalize hO : o1 ++ s1 = OO at *
            have hO' := Lib.hid hO
            clear hO
            go_wp2_with fail
            refine (live_counts HL6.out hnext.out.ok hM1.out 1).mono ?_
            rintro e w7 ⟨rfl, hL7, hB7⟩
            rw [hcn.out]
            have HC := Lib.hid (Blk.new w7 52 #[.int .i64 (I1.size : Int), .int .i64 (OO.size : Int), .int .i64 (hd : Int), .int .i64 (lo : Int)])
            have hB8 := (Below.refl w7.heap.size w7).alloc (Nat.le_refl _) (.cells #[.int .i64 (I1.size : Int), .int .i64 (OO.size : Int), .int .i64 (hd : Int), .int .i64 (lo : Int)] 52)
            have hn := Lib.hid (show QInv w0 (w7.alloc (.cells #[.int .i64 (I1.size : Int), .int .i64 (OO.size : Int), .int .i64 (hd : Int), .int .i64 (lo : Int)] 52)) c m2 ma y I0 I1 o0 o1 s0 s1 #[.int .i64 aN, .string s0, .int .i64 v0, .string s1, .int .i64 v1, .int .i64 eE] 2 from ⟨hL7.below hB8, (HI6.out.below hB7).below hB8, (HO6.out.below hB7).below hB8, (HA6.out.below hB7).below hB8⟩)
            clear hL7 hB7 hB8 HL6 HO6 HI6 HA6
            go_upto_region 16 with (fail)
            generalize w7.heap.size = mc at *
            generalize w7.alloc (.cells #[.int .i64 (I1.size : Int), .int .i64 (OO.size : Int), .int .i64 (hd : Int), .int .i64 (lo : Int)] 52) = w8 at *
            have c0 : w8.cell? ⟨m2 + 1, 1, none⟩ = some (.string OO) := by rw [← hO'.out]; exact (hn.out.O.cell 1).trans rfl
            have c1 : w8.cell? ⟨m2, 1, none⟩ = some (.string I1) := (hn.out.I.cell 1).trans rfl
            have c2 : w8.cell? ⟨mc, 0, none⟩ = some (.int .i64 (I1.size : Int)) := (HC.out.cell 0).trans rfl
            have c3 : w8.cell? ⟨mc, 1, none⟩ = some (.int .i64 (OO.size : Int)) := (HC.out.cell 1).trans rfl
            have c4 : w8.cell? ⟨mc, 2, none⟩ = some (.int .i64 (hd : Int)) := (HC.out.cell 2).trans rfl
            have c5 : w8.cell? ⟨mc, 3, none⟩ = some (.int .i64 (lo : Int)) := (HC.out.cell 3).trans rfl
            have hwx := hww.out
            obtain ⟨hw1, hw2⟩ := hwx
            clear hkn hnext hbnd hfin hcn
            go_quiet (fail)
            clear c0 c1 c2 c3 c4 c5 hw1 hw2 hww tgt tz0 tz1 tle2 tne
            go_wp2
            go_roundw
            case rel => exact ⟨1 + 1, by omega, by go_num, hn.out.drewN nq⟩
            case measure => simp [intOf]
          · rw [show ((2 : Nat) : Int) = 2 from rfl]
            have HI6 := HQ.out.I
            have HO6 := HQ.out.O
            have HL6 := Lib.hid HQ.out.L
            have hrl := Lib.hid (show KInv w0 wr c m2 y l (k + 1) I0 I1 (o0 ++ s0) (o1 ++ s1) from ⟨HQ.out.L, hnext.out, hkn.out, hbnd.out.1, hbnd.out.2, HQ.out.I, HQ.out.O⟩)
            clear HI6 HO6 HL6 HQ
            go_wp2
            go_roundw
            case rel => exact ⟨k + 1, y, _, _, _, _, by omega, by go_num, hrl.out⟩
            case measure => simp [intOf]; omega
    · have hk2 : k = l.length := by omega
      subst hk2
      have hnl : ¬ (l.length < l.length) := by omega
      have hL' := Lib.hid hI.L
      clear hI hA
      go_wp2_with (go_at_call 9; (with_reducible refine (alive_any _).mono ?_); rintro e w9 ⟨rfl, hB9⟩; have HL2 := Lib.hid (hL'.out.below hB9); clear hB9)
      go_ret
      exact ⟨by simp, bw_below B0.out HL2.out.old⟩
theorem ConnKeeps_any (sv : Value) (L : List Tox) (seed room now : Int) (v : Value) (l : List Op) (w : World) (hs : Seats w sv L seed room now) (hv : Script w v l) :
    Calls Tryz.prog 5 #[sv, v] w fun e w' => e = .returned (.bool true) ∧ Below w.heap.size w w' := by
  obtain ⟨sa, sc, rfl, hs, h0, h1⟩ := hs
  by_cases hr : linkE L room = 0
  · cases h : fewK L.length l with
    | false => exact ConnKeeps_long sa sc L seed room now v l w hs h0 h1 hv hr h
    | true => exact ConnKeeps_yes sa sc L seed room now v l w hs h0 h1 hv hr h
  · exact ConnKeeps_none sa sc L seed room now v l w hs h0 h1 hv hr
end Go.Proofs.YtnkgjnmhiedfoaaGreat.Conn
