/- math/bits.Len64, LeadingZeros64 and Div64 with a high word. Conditions: the numbers are of their kinds. -/
import Derived.Test.YtpmjjnnjkaennaaTickB
import Derived.Laws.BitsLemmas
namespace Go.Proofs.Ytpmjjnnjkaennaa.Div
open Go.RowKit Tick
set_option maxRecDepth 100000
set_option linter.unusedVariables false
set_option linter.unusedSimpArgs false

def tab : ByteArray := ⟨#[0, 1, 2, 2, 3, 3, 3, 3, 4, 4, 4, 4, 4, 4, 4, 4, 5, 5, 5, 5, 5, 5, 5, 5, 5, 5, 5, 5, 5, 5, 5, 5, 6, 6, 6, 6, 6, 6, 6, 6, 6, 6, 6, 6, 6, 6, 6, 6, 6, 6, 6, 6, 6, 6, 6, 6, 6, 6, 6, 6, 6, 6, 6, 6, 7, 7, 7, 7, 7, 7, 7, 7, 7, 7, 7, 7, 7, 7, 7, 7, 7, 7, 7, 7, 7, 7, 7, 7, 7, 7, 7, 7, 7, 7, 7, 7, 7, 7, 7, 7, 7, 7, 7, 7, 7, 7, 7, 7, 7, 7, 7, 7, 7, 7, 7, 7, 7, 7, 7, 7, 7, 7, 7, 7, 7, 7, 7, 7, 8, 8, 8, 8, 8, 8, 8, 8, 8, 8, 8, 8, 8, 8, 8, 8, 8, 8, 8, 8, 8, 8, 8, 8, 8, 8, 8, 8, 8, 8, 8, 8, 8, 8, 8, 8, 8, 8, 8, 8, 8, 8, 8, 8, 8, 8, 8, 8, 8, 8, 8, 8, 8, 8, 8, 8, 8, 8, 8, 8, 8, 8, 8, 8, 8, 8, 8, 8, 8, 8, 8, 8, 8, 8, 8, 8, 8, 8, 8, 8, 8, 8, 8, 8, 8, 8, 8, 8, 8, 8, 8, 8, 8, 8, 8, 8, 8, 8, 8, 8, 8, 8, 8, 8, 8, 8, 8, 8, 8, 8, 8, 8, 8, 8, 8, 8, 8, 8, 8, 8, 8, 8, 8, 8, 8, 8, 8, 8]⟩
theorem tab_size : tab.size = 256 := rfl
theorem tab_ok : ∀ m : Fin 256, (tab.get m.1 (by rw [tab_size]; exact m.2)).toNat ≤ 8 ∧ (m.1 ≠ 0 → 1 ≤ (tab.get m.1 (by rw [tab_size]; exact m.2)).toNat ∧ 2 ^ ((tab.get m.1 (by rw [tab_size]; exact m.2)).toNat - 1) ≤ m.1) ∧ m.1 < 2 ^ (tab.get m.1 (by rw [tab_size]; exact m.2)).toNat := by decide +kernel
def IsLen (n : Int) (L : Nat) : Prop := 1 ≤ L ∧ L ≤ 48 ∧ (2 : Int) ^ (L - 1) ≤ n ∧ n < 2 ^ L
theorem isLen {n x : Int} {k t : Nat} (hx : x = n / 2 ^ k) (h1 : 1 ≤ x) (hk : k ≤ 40) (ht : t ≤ 8) (ht1 : 1 ≤ t) (h2 : (2 : Int) ^ (t - 1) ≤ x) (h3 : x < 2 ^ t) : IsLen n (k + t) := by
  have hp : (0 : Int) < 2 ^ k := Int.pow_pos (by decide)
  subst hx
  refine ⟨by omega, by omega, ?_, ?_⟩
  · have := (Int.le_ediv_iff_mul_le hp).1 h2
    rw [← Int.pow_add] at this
    rw [show k + t - 1 = t - 1 + k by omega]
    exact this
  · have := (Int.ediv_lt_iff_lt_mul hp).1 h3
    rw [← Int.pow_add] at this
    rw [Nat.add_comm]
    exact this
theorem tabI {x : Int} (h1 : 1 ≤ x) (h2 : x < 256) (hs : x.toNat < tab.size) : 1 ≤ (tab.get x.toNat hs).toNat ∧ (tab.get x.toNat hs).toNat ≤ 8 ∧ (2 : Int) ^ ((tab.get x.toNat hs).toNat - 1) ≤ x ∧ x < 2 ^ (tab.get x.toNat hs).toNat := by
  obtain ⟨m, rfl⟩ := Int.eq_ofNat_of_zero_le (show 0 ≤ x by omega)
  have h := tab_ok ⟨m, by omega⟩
  simp only [Int.toNat_natCast] at *
  obtain ⟨a, b, c⟩ := h
  have b' := b (by omega)
  exact ⟨b'.1, a, by exact_mod_cast b'.2, by exact_mod_cast c⟩

theorem lenA (n : Int) (w : World) (h0 : 1 ≤ n) (h1 : n < 256) :
    Calls Try.prog 37 #[.int .u64 n] w fun e w' => (∃ L : Nat, e = .returned (.int .i64 L) ∧ IsLen n L) ∧ w = w' := by
  have b1 : 1 ≤ n := by omega
  have b2 : n < 256 := by omega
  have bs : n.toNat < tab.size := by rw [tab_size]; omega
  have ht := tabI b1 b2 bs
  have hl := isLen (n := n) (x := n) (k := 0) (t := (tab.get n.toNat bs).toNat) (by omega) b1 (by decide) ht.2.1 ht.1 ht.2.2.1 ht.2.2.2
  have h8 := ht.2.1
  have hl' := Lib.hid hl
  clear hl ht
  have x1 : 1 ≤ n / 4294967296 ∨ n / 4294967296 = 0 := by omega
  go_enter Try.func37, Try.ntmps37
  go_wp2
  go_ret
  refine ⟨⟨0 + (tab.get n.toNat bs).toNat, ?_, hl'.out⟩, rfl⟩
  have hw : wrap64 (wrap64 (((tab.get n.toNat bs).toNat : Nat) : Int)) = ((0 + (tab.get n.toNat bs).toNat : Nat) : Int) := by simp only [wrap64]; omega
  rw [← hw]
  rfl

theorem lenB (n : Int) (w : World) (h0 : 256 ≤ n) (h1 : n < 65536) :
    Calls Try.prog 37 #[.int .u64 n] w fun e w' => (∃ L : Nat, e = .returned (.int .i64 L) ∧ IsLen n L) ∧ w = w' := by
  have b1 : 1 ≤ (n / 256) := by omega
  have b2 : (n / 256) < 256 := by omega
  have bs : (n / 256).toNat < tab.size := by rw [tab_size]; omega
  have ht := tabI b1 b2 bs
  have hl := isLen (n := n) (x := (n / 256)) (k := 8) (t := (tab.get (n / 256).toNat bs).toNat) (by omega) b1 (by decide) ht.2.1 ht.1 ht.2.2.1 ht.2.2.2
  have h8 := ht.2.1
  have hl' := Lib.hid hl
  clear hl ht
  have x1 : 1 ≤ n / 4294967296 ∨ n / 4294967296 = 0 := by omega
  go_enter Try.func37, Try.ntmps37
  go_wp2
  go_ret
  refine ⟨⟨8 + (tab.get (n / 256).toNat bs).toNat, ?_, hl'.out⟩, rfl⟩
  have hw : wrap64 (8 + wrap64 (((tab.get (n / 256).toNat bs).toNat : Nat) : Int)) = ((8 + (tab.get (n / 256).toNat bs).toNat : Nat) : Int) := by simp only [wrap64]; omega
  rw [← hw]
  rfl

theorem lenC (n : Int) (w : World) (h0 : 65536 ≤ n) (h1 : n < 16777216) :
    Calls Try.prog 37 #[.int .u64 n] w fun e w' => (∃ L : Nat, e = .returned (.int .i64 L) ∧ IsLen n L) ∧ w = w' := by
  have b1 : 1 ≤ (n / 65536) := by omega
  have b2 : (n / 65536) < 256 := by omega
  have bs : (n / 65536).toNat < tab.size := by rw [tab_size]; omega
  have ht := tabI b1 b2 bs
  have hl := isLen (n := n) (x := (n / 65536)) (k := 16) (t := (tab.get (n / 65536).toNat bs).toNat) (by omega) b1 (by decide) ht.2.1 ht.1 ht.2.2.1 ht.2.2.2
  have h8 := ht.2.1
  have hl' := Lib.hid hl
  clear hl ht
  have x1 : 1 ≤ n / 4294967296 ∨ n / 4294967296 = 0 := by omega
  go_enter Try.func37, Try.ntmps37
  go_wp2
  go_ret
  refine ⟨⟨16 + (tab.get (n / 65536).toNat bs).toNat, ?_, hl'.out⟩, rfl⟩
  have hw : wrap64 (16 + wrap64 (((tab.get (n / 65536).toNat bs).toNat : Nat) : Int)) = ((16 + (tab.get (n / 65536).toNat bs).toNat : Nat) : Int) := by simp only [wrap64]; omega
  rw [← hw]
  rfl

theorem lenD (n : Int) (w : World) (h0 : 16777216 ≤ n) (h1 : n < 4294967296) :
    Calls Try.prog 37 #[.int .u64 n] w fun e w' => (∃ L : Nat, e = .returned (.int .i64 L) ∧ IsLen n L) ∧ w = w' := by
  have b1 : 1 ≤ (n / 65536 / 256) := by omega
  have b2 : (n / 65536 / 256) < 256 := by omega
  have bs : (n / 65536 / 256).toNat < tab.size := by rw [tab_size]; omega
  have ht := tabI b1 b2 bs
  have hl := isLen (n := n) (x := (n / 65536 / 256)) (k := 24) (t := (tab.get (n / 65536 / 256).toNat bs).toNat) (by omega) b1 (by decide) ht.2.1 ht.1 ht.2.2.1 ht.2.2.2
  have h8 := ht.2.1
  have hl' := Lib.hid hl
  clear hl ht
  have x1 : 1 ≤ n / 4294967296 ∨ n / 4294967296 = 0 := by omega
  go_enter Try.func37, Try.ntmps37
  go_wp2
  go_ret
  refine ⟨⟨24 + (tab.get (n / 65536 / 256).toNat bs).toNat, ?_, hl'.out⟩, rfl⟩
  have hw : wrap64 (24 + wrap64 (((tab.get (n / 65536 / 256).toNat bs).toNat : Nat) : Int)) = ((24 + (tab.get (n / 65536 / 256).toNat bs).toNat : Nat) : Int) := by simp only [wrap64]; omega
  rw [← hw]
  rfl

theorem lenE (n : Int) (w : World) (h0 : 4294967296 ≤ n) (h1 : n < 1099511627776) :
    Calls Try.prog 37 #[.int .u64 n] w fun e w' => (∃ L : Nat, e = .returned (.int .i64 L) ∧ IsLen n L) ∧ w = w' := by
  have b1 : 1 ≤ (n / 4294967296) := by omega
  have b2 : (n / 4294967296) < 256 := by omega
  have bs : (n / 4294967296).toNat < tab.size := by rw [tab_size]; omega
  have ht := tabI b1 b2 bs
  have hl := isLen (n := n) (x := (n / 4294967296)) (k := 32) (t := (tab.get (n / 4294967296).toNat bs).toNat) (by omega) b1 (by decide) ht.2.1 ht.1 ht.2.2.1 ht.2.2.2
  have h8 := ht.2.1
  have hl' := Lib.hid hl
  clear hl ht
  have x1 : 1 ≤ n / 4294967296 ∨ n / 4294967296 = 0 := by omega
  go_enter Try.func37, Try.ntmps37
  go_wp2
  go_ret
  refine ⟨⟨32 + (tab.get (n / 4294967296).toNat bs).toNat, ?_, hl'.out⟩, rfl⟩
  have hw : wrap64 (32 + wrap64 (((tab.get (n / 4294967296).toNat bs).toNat : Nat) : Int)) = ((32 + (tab.get (n / 4294967296).toNat bs).toNat : Nat) : Int) := by simp only [wrap64]; omega
  rw [← hw]
  rfl

theorem lenF (n : Int) (w : World) (h0 : 1099511627776 ≤ n) (h1 : n < 281474976710656) :
    Calls Try.prog 37 #[.int .u64 n] w fun e w' => (∃ L : Nat, e = .returned (.int .i64 L) ∧ IsLen n L) ∧ w = w' := by
  have b1 : 1 ≤ (n / 4294967296 / 256) := by omega
  have b2 : (n / 4294967296 / 256) < 256 := by omega
  have bs : (n / 4294967296 / 256).toNat < tab.size := by rw [tab_size]; omega
  have ht := tabI b1 b2 bs
  have hl := isLen (n := n) (x := (n / 4294967296 / 256)) (k := 40) (t := (tab.get (n / 4294967296 / 256).toNat bs).toNat) (by omega) b1 (by decide) ht.2.1 ht.1 ht.2.2.1 ht.2.2.2
  have h8 := ht.2.1
  have hl' := Lib.hid hl
  clear hl ht
  have x1 : 1 ≤ n / 4294967296 ∨ n / 4294967296 = 0 := by omega
  go_enter Try.func37, Try.ntmps37
  go_wp2
  go_ret
  refine ⟨⟨40 + (tab.get (n / 4294967296 / 256).toNat bs).toNat, ?_, hl'.out⟩, rfl⟩
  have hw : wrap64 (40 + wrap64 (((tab.get (n / 4294967296 / 256).toNat bs).toNat : Nat) : Int)) = ((40 + (tab.get (n / 4294967296 / 256).toNat bs).toNat : Nat) : Int) := by simp only [wrap64]; omega
  rw [← hw]
  rfl

theorem len_any (n : Int) (w : World) (h0 : 1 ≤ n) (h1 : n < 281474976710656) :
    Calls Try.prog 37 #[.int .u64 n] w fun e w' => (∃ L : Nat, e = .returned (.int .i64 L) ∧ IsLen n L) ∧ w = w' := by
  by_cases a : n < 256
  · exact lenA n w h0 a
  by_cases b : n < 65536
  · exact lenB n w (by omega) b
  by_cases c : n < 16777216
  · exact lenC n w (by omega) c
  by_cases d : n < 4294967296
  · exact lenD n w (by omega) d
  by_cases e : n < 1099511627776
  · exact lenE n w (by omega) e
  · exact lenF n w (by omega) h1
/-- by so much a number may be shifted up. -/
def Lead (n : Int) (s : Nat) : Prop := 16 ≤ s ∧ s ≤ 63 ∧ (9223372036854775808 : Int) ≤ n * 2 ^ s ∧ n * 2 ^ s < 18446744073709551616
theorem lead_of {n : Int} {L : Nat} (h : IsLen n L) : Lead n (64 - L) := by
  obtain ⟨h1, h2, h3, h4⟩ := h
  have hp : (0 : Int) < 2 ^ (64 - L) := Int.pow_pos (by decide)
  refine ⟨by omega, by omega, ?_, ?_⟩
  · have := Int.mul_le_mul_of_nonneg_right h3 (Int.le_of_lt hp)
    rw [← Int.pow_add, show L - 1 + (64 - L) = 63 by omega] at this
    exact this
  · have := Int.mul_lt_mul_of_pos_right h4 hp
    rw [← Int.pow_add, show L + (64 - L) = 64 by omega] at this
    exact this
theorem lead_any (n : Int) (w : World) (h0 : 1 ≤ n) (h1 : n < 281474976710656) :
    Calls Try.prog 36 #[.int .u64 n] w fun e w' => (∃ s : Nat, e = .returned (.int .i64 s) ∧ Lead n s) ∧ w = w' := by
  go_enter Try.func36, Try.ntmps36
  go_wp2_with fail
  refine (len_any n _ h0 h1).mono ?_
  rintro e w' ⟨⟨L, rfl, hL⟩, rfl⟩
  have hs := Lib.hid (lead_of hL)
  have h2 : L ≤ 48 := hL.2.1
  go_wp2
  go_ret
  refine ⟨⟨64 - L, ?_, hs.out⟩, rfl⟩
  have hw : ((64 - L : Nat) : Int) = 64 - (L : Int) := by omega
  rw [hw]
  rfl

theorem wraps_u64 (n : Int) (h₀ : 0 ≤ n) (h₁ : n < 2 ^ 64) : IntKind.u64.wrap n = n := by rw [IntKind.wrap_u64]; exact Int.emod_eq_of_lt h₀ h₁
theorem low32 {x : Int} (h0 : 0 ≤ x) (h1 : x < 18446744073709551616) : bits .and .u64 x 4294967295 = x % 4294967296 :=
  bits_mask .u64 64 (by decide) wraps_u64 32 (by decide) x h0 h1

/-- one digit of Knuth's division: D = y1 * 2^32 + y0, N = U * 2^32 + u. -/
structure Dig (y1 y0 U u : Int) : Prop where
  a : 2147483648 ≤ y1 ∧ y1 < 4294967296
  b : 0 ≤ y0 ∧ y0 < 4294967296
  c : 0 ≤ U ∧ U < y1 * 4294967296 + y0
  d : 0 ≤ u ∧ u < 4294967296
def tq (y1 y0 U u : Int) : Int := (U * 4294967296 + u) / (y1 * 4294967296 + y0)
theorem tq_le {y1 y0 U u Q : Int} (h : Dig y1 y0 U u) : Q ≤ tq y1 y0 U u ↔ Q * (y1 * 4294967296 + y0) ≤ U * 4294967296 + u :=
  Int.le_ediv_iff_mul_le (by have := h.a; have := h.b; omega)
theorem dist (Q y1 y0 : Int) : Q * (y1 * 4294967296 + y0) = Q * y1 * 4294967296 + Q * y0 := by rw [Int.mul_add, Int.mul_assoc]
theorem tq_bd {y1 y0 U u : Int} (h : Dig y1 y0 U u) : 0 ≤ tq y1 y0 U u ∧ tq y1 y0 U u ≤ 4294967295 := by
  have ha := h.a; have hb := h.b; have hc := h.c; have hd := h.d
  refine ⟨(tq_le h).2 (by omega), ?_⟩
  rcases Int.lt_or_le (tq y1 y0 U u) 4294967296 with q | q
  · omega
  · have := (tq_le h).1 q
    omega
/-- a guess, and what it leaves. -/
structure Guess (y1 y0 U u Q R : Int) : Prop where
  r : R = U - Q * y1
  lo : 0 ≤ R ∧ R < 4294967296
  q : tq y1 y0 U u ≤ Q ∧ Q ≤ 4294967297
theorem guess_first {y1 y0 U u : Int} (h : Dig y1 y0 U u) : Guess y1 y0 U u (U / y1) (U % y1) := by
  have ha := h.a; have hb := h.b; have hc := h.c; have hd := h.d
  have h1 := Int.emod_nonneg U (show y1 ≠ 0 by omega)
  have h2 := Int.emod_lt_of_pos U (show 0 < y1 by omega)
  have h3 : U % y1 = U - y1 * (U / y1) := Int.emod_def U y1
  refine ⟨by rw [h3, Int.mul_comm], by omega, ?_, ?_⟩
  · rcases Int.lt_or_le (U / y1) (tq y1 y0 U u) with q | q
    · have h4 := (tq_le h).1 (show U / y1 + 1 ≤ tq y1 y0 U u by omega)
      rw [dist] at h4
      have h5 : (U / y1 + 1) * y1 = y1 * (U / y1) + y1 := by rw [Int.add_mul, Int.one_mul, Int.mul_comm]
      have h6 : 0 ≤ (U / y1 + 1) * y0 := Int.mul_nonneg (by have := Int.ediv_nonneg hc.1 (show 0 ≤ y1 by omega); omega) hb.1
      rw [h5] at h4
      omega
    · exact q
  · have : U / y1 < 4294967298 := (Int.ediv_lt_iff_lt_mul (by omega)).2 (by omega)
    omega
theorem guess_more {y1 y0 U u Q R : Int} (h : Dig y1 y0 U u) (g : Guess y1 y0 U u Q R) (ht : 4294967296 ≤ Q ∨ 4294967296 * R + u < Q * y0) : 1 ≤ Q ∧ tq y1 y0 U u ≤ Q - 1 := by
  have ha := h.a; have hb := h.b; have hc := h.c; have hd := h.d
  have hr := g.r; have hl := g.lo; have hq := g.q; have ht0 := tq_bd h
  rcases ht with ht | ht
  · omega
  · have h1 : ¬ Q ≤ tq y1 y0 U u := fun hle => by
      have := (tq_le h).1 hle
      rw [dist] at this
      omega
    omega
theorem guess_next {y1 y0 U u Q R : Int} (h : Dig y1 y0 U u) (g : Guess y1 y0 U u Q R) (ht : 4294967296 ≤ Q ∨ 4294967296 * R + u < Q * y0) (hR : R + y1 < 4294967296) : Guess y1 y0 U u (Q - 1) (R + y1) := by
  have hm := guess_more h g ht
  have ha := h.a; have hq := g.q; have hl := g.lo
  refine ⟨?_, by omega, by omega⟩
  rw [g.r, Int.sub_mul, Int.one_mul]; omega
theorem guess_stop {y1 y0 U u Q R : Int} (h : Dig y1 y0 U u) (g : Guess y1 y0 U u Q R) (ht : 4294967296 ≤ Q ∨ 4294967296 * R + u < Q * y0) (hR : 4294967296 ≤ R + y1) : Q - 1 = tq y1 y0 U u := by
  have hm := guess_more h g ht
  have ha := h.a; have hb := h.b; have hc := h.c; have hd := h.d
  have hq := g.q
  have h1 : Q - 1 ≤ tq y1 y0 U u := (tq_le h).2 (by
    rw [dist, Int.sub_mul Q 1 y1, Int.one_mul]
    have hr := g.r
    have h2 : (Q - 1) * y0 ≤ 4294967296 * 4294967295 := Int.mul_le_mul (by omega) (by omega) hb.1 (by decide)
    omega)
  omega
theorem guess_end {y1 y0 U u Q R : Int} (h : Dig y1 y0 U u) (g : Guess y1 y0 U u Q R) (h1 : ¬ 4294967296 * R + u < Q * y0) : Q = tq y1 y0 U u := by
  have hq := g.q
  have h2 : Q ≤ tq y1 y0 U u := (tq_le h).2 (by
    rw [dist]
    have hr := g.r
    omega)
  omega
/-- what the digit leaves. -/
theorem rest_bd {y1 y0 U u : Int} (h : Dig y1 y0 U u) : U * 4294967296 + u - tq y1 y0 U u * (y1 * 4294967296 + y0) = (U * 4294967296 + u) % (y1 * 4294967296 + y0) := by
  unfold tq
  rw [Int.emod_def, Int.mul_comm (_ / _)]


theorem two_digits {D U u1 u0 T : Int} (hD : 0 < D) : (U * 18446744073709551616 + (u1 * 4294967296 + u0)) / D = T * 4294967296 + ((U * 4294967296 + u1 - T * D) * 4294967296 + u0) / D := by
  have e : U * 18446744073709551616 + (u1 * 4294967296 + u0) = ((U * 4294967296 + u1 - T * D) * 4294967296 + u0) + (T * 4294967296) * D := by
    rw [Int.mul_right_comm T 4294967296 D]
    generalize T * D = z
    omega
  rw [e, Int.add_mul_ediv_right _ _ (by omega)]
  omega

/-- what is shifted up so that the divisor's first bit stands. -/
theorem shifted {hi lo y : Int} {s : Nat} (h0 : 1 ≤ hi) (h1 : hi < y) (h3 : 0 ≤ lo) (h4 : lo < 18446744073709551616) (hs : s ≤ 64) (hD : y * 2 ^ s < 18446744073709551616) :
    IntKind.u64.wrap (hi * 2 ^ s) = hi * 2 ^ s ∧ bits .or .u64 (hi * 2 ^ s) (lo / 2 ^ (64 - s)) = hi * 2 ^ s + lo / 2 ^ (64 - s) ∧
    (0 ≤ hi * 2 ^ s + lo / 2 ^ (64 - s) ∧ hi * 2 ^ s + lo / 2 ^ (64 - s) < y * 2 ^ s) ∧ (0 ≤ lo * 2 ^ s % 18446744073709551616 ∧ lo * 2 ^ s % 18446744073709551616 < 18446744073709551616) ∧
    (hi * 18446744073709551616 + lo) / y = ((hi * 2 ^ s + lo / 2 ^ (64 - s)) * 18446744073709551616 + lo * 2 ^ s % 18446744073709551616) / (y * 2 ^ s) := by
  have hp : (0 : Int) < 2 ^ s := Int.pow_pos (by decide)
  have hq : (0 : Int) < 2 ^ (64 - s) := Int.pow_pos (by decide)
  have hpq : (2 : Int) ^ s * 2 ^ (64 - s) = 18446744073709551616 := by rw [← Int.pow_add, show s + (64 - s) = 64 by omega]; rfl
  have hy : hi * 2 ^ s + 2 ^ s ≤ y * 2 ^ s := by
    have := Int.mul_le_mul_of_nonneg_right (show hi + 1 ≤ y by omega) (Int.le_of_lt hp)
    rwa [Int.add_mul, Int.one_mul] at this
  have hh : 0 ≤ hi * 2 ^ s := Int.mul_nonneg (by omega) (Int.le_of_lt hp)
  have hl0 : 0 ≤ lo / 2 ^ (64 - s) := Int.ediv_nonneg h3 (Int.le_of_lt hq)
  have hl1 : lo / 2 ^ (64 - s) < 2 ^ s := (Int.ediv_lt_iff_lt_mul hq).2 (by rw [hpq]; exact h4)
  have hm : lo * 2 ^ s / 18446744073709551616 = lo / 2 ^ (64 - s) := by
    rw [← hpq, Int.mul_comm (2 ^ s) (2 ^ (64 - s))]
    exact Int.mul_ediv_mul_of_pos_left _ _ hp
  have hmod := Int.emod_def (lo * 2 ^ s) 18446744073709551616
  rw [hm] at hmod
  refine ⟨wraps_u64 _ hh (by omega), bits_join .u64 64 (by decide) wraps_u64 s _ _ hh (Int.mul_emod_left _ _) (by omega) hl0 hl1 (by omega), ⟨by omega, by omega⟩, ⟨Int.emod_nonneg _ (by decide), Int.emod_lt_of_pos _ (by decide)⟩, ?_⟩
  have he : (hi * 2 ^ s + lo / 2 ^ (64 - s)) * 18446744073709551616 + lo * 2 ^ s % 18446744073709551616 = (hi * 18446744073709551616 + lo) * 2 ^ s := by
    rw [hmod, Int.add_mul, Int.add_mul, Int.mul_right_comm hi]
    omega
  rw [he]
  exact (Int.mul_ediv_mul_of_pos_left _ _ hp).symm
set_option maxHeartbeats 2000000 in
theorem div64_any (hi lo y : Int) (w : World) (h0 : 1 ≤ hi) (h1 : hi < y) (h2 : y ≤ 1099511627776) (h3 : 0 ≤ lo) (h4 : lo < 18446744073709551616) :
    Calls Try.prog 35 #[.int .u64 hi, .int .u64 lo, .int .u64 y] w fun e w' => (∃ rem, e = .returned (.tuple #[.int .u64 ((hi * 18446744073709551616 + lo) / y), .int .u64 rem])) ∧ ∃ n, w' = w.drewN n := by
  have e1 : (y == 0) = false := by simp; omega
  have e2 : decide (y ≤ hi) = false := decide_eq_false (by omega)
  have e3 : (hi == 0) = false := by simp; omega
  go_enter Try.func35, Try.ntmps35
  go_wp2_with fail
  refine (lead_any y _ (by omega) (by omega)).mono ?_
  rintro e w' ⟨⟨s, rfl, hs⟩, rfl⟩
  obtain ⟨s1, s2, s3, s4⟩ := hs
  have hsh := shifted (s := s) h0 h1 h3 h4 (by omega) s4
  obtain ⟨k1, k2, k3, k4, k5⟩ := hsh
  have hL := Lib.hid (IntKind.wrap_u64 (lo * 2 ^ s))
  have a1 := Lib.hid (low32 (x := y * 2 ^ s) (by omega) s4)
  have a2 := Lib.hid (low32 (x := lo * 2 ^ s % 18446744073709551616) (by omega) (by omega))
  have k1' := Lib.hid k1
  have k2' := Lib.hid k2
  have k5' := Lib.hid k5
  clear k1 k2 k5
  go_wp2
  simp only [k1'.out, k2'.out, hL.out, a1.out, a2.out]
  clear k1' k2' hL a1 a2
  generalize hi * 2 ^ s + lo / 2 ^ (64 - s) = U at *
  generalize lo * 2 ^ s % 18446744073709551616 = L at *
  generalize y * 2 ^ s = D at *
  have hD : D = D / 4294967296 * 4294967296 + D % 4294967296 := by omega
  have dg : Dig (D / 4294967296) (D % 4294967296) U (L / 4294967296) := ⟨by omega, by omega, by omega, by omega⟩
  have gf := guess_first dg
  have g1 := Lib.hid (show IntKind.u64.wrap (U.tdiv (D / 4294967296)) = U / (D / 4294967296) by
    rw [Int.tdiv_eq_ediv_of_nonneg k3.1]
    exact wraps_u64 _ (by have := gf.q; have := tq_bd dg; omega) (by have := gf.q; omega))
  have g2 := Lib.hid (show IntKind.u64.wrap (U - IntKind.u64.wrap (U / (D / 4294967296) * (D / 4294967296))) = U % (D / 4294967296) by
    have q1 := gf.q
    have q2 := tq_bd dg
    have q3 := gf.r
    have q4 := gf.lo
    have q5 : 0 ≤ U / (D / 4294967296) * (D / 4294967296) := Int.mul_nonneg (by omega) (by omega)
    rw [wraps_u64 _ q5 (by omega), ← q3]
    exact wraps_u64 _ q4.1 (by omega))
  simp only [g1.out, g2.out]
  clear g1 g2
  have hu : L = L / 4294967296 * 4294967296 + L % 4294967296 := by omega
  have hu0 : 0 ≤ L % 4294967296 ∧ L % 4294967296 < 4294967296 := by omega
  generalize D / 4294967296 = y1 at *
  generalize D % 4294967296 = y0 at *
  generalize L / 4294967296 = u1 at *
  generalize L % 4294967296 = u0 at *
  have ht := tq_bd dg
  have hrest := rest_bd dg
  rw [← hD] at hrest
  have hVb := Int.emod_nonneg (U * 4294967296 + u1) (show D ≠ 0 by omega)
  have hVb2 := Int.emod_lt_of_pos (U * 4294967296 + u1) (show 0 < D by omega)
  rw [← hrest] at hVb hVb2
  clear hrest
  have hd := Lib.hid hD
  clear hD
  have ba := dg.a; have bb := dg.b; have bc := dg.c; have bd := dg.d
  generalize hT : tq y1 y0 U u1 = T at *
  have hT' := Lib.hid hT
  clear hT
  have f1 := Lib.hid (show IntKind.u64.wrap (IntKind.u64.wrap (IntKind.u64.wrap (U * 4294967296) + u1) - IntKind.u64.wrap (T * D)) = U * 4294967296 + u1 - T * D by
    simp only [IntKind.wrap_u64]
    have e1 : D < 18446744073709551616 := s4
    generalize T * D = z at *
    omega)
  have kf := Lib.hid (two_digits (D := D) (by omega) (U := U) (u1 := u1) (u0 := u0) (T := T))
  generalize hV : U * 4294967296 + u1 - T * D = V at *
  have hV' := Lib.hid hV
  clear hV
  have dg2 : Dig y1 y0 V u0 := ⟨ba, bb, ⟨hVb, by rw [← hd.out]; exact hVb2⟩, hu0⟩
  have gf2 := guess_first dg2
  have ht2 := tq_bd dg2
  have f2 := Lib.hid (show IntKind.u64.wrap (V.tdiv y1) = V / y1 by
    rw [Int.tdiv_eq_ediv_of_nonneg hVb]
    exact wraps_u64 _ (by have := gf2.q; omega) (by have := gf2.q; omega))
  have f3 := Lib.hid (show IntKind.u64.wrap (V - IntKind.u64.wrap (V / y1 * y1)) = V % y1 by
    have q1 := gf2.q
    have q3 := gf2.r
    have q4 := gf2.lo
    have q5 : 0 ≤ V / y1 * y1 := Int.mul_nonneg (by omega) (by omega)
    have q6 : V < 18446744073709551616 := by omega
    rw [wraps_u64 _ q5 (by omega), ← q3]
    exact wraps_u64 _ q4.1 (by omega))
  have kt := Lib.hid (show (V * 4294967296 + u0) / D = tq y1 y0 V u0 by unfold tq; rw [← hd.out])
  generalize hT2 : tq y1 y0 V u0 = T2 at *
  have hT2' := Lib.hid hT2
  clear hT2
  have kq := Lib.hid (show (hi * 18446744073709551616 + lo) / y = T * 4294967296 + T2 by
    rw [k5'.out, hu, kf.out, kt.out])
  clear kf kt k5' hd hVb hVb2 s4 s3
  go_loop [15, 16] (fun q r => ∃ Q R, q = .int .u64 Q ∧ r = .int .u64 R ∧ Guess y1 y0 U u1 Q R) (fun q _ => (intOf q).toNat)
  case atStart => exact ⟨_, _, rfl, rfl, gf⟩
  case round =>
    clear gf
    obtain ⟨Q, R, rfl, rfl, g⟩ := hrel
    have gl := g.lo
    have gq := g.q
    rw [hT'.out] at gq
    by_cases c1 : 4294967296 ≤ Q
    · have d1 : decide (4294967296 ≤ Q) = true := decide_eq_true c1
      have gm := guess_more dg g (.inl c1)
      have hn := guess_next dg g (.inl c1)
      have hst := guess_stop dg g (.inl c1)
      rw [hT'.out] at gm hst
      have hq1 : 1 ≤ Q := gm.1
      by_cases c3 : 4294967296 ≤ R + y1
      · have d3 : decide (4294967296 ≤ R + y1) = true := decide_eq_true c3
        have hq := hst c3
        subst hq
        clear hn hst g gm dg
        go_wp2
        simp only [f1.out, f2.out, f3.out]
        clear f1 f2 f3
        go_loop [16, 18] (fun r q => ∃ Q0 R0, q = .int .u64 Q0 ∧ r = .int .u64 R0 ∧ Guess y1 y0 V u0 Q0 R0) (fun _ q => (intOf q).toNat)
        case atStart => exact ⟨_, _, rfl, rfl, gf2⟩
        case round =>
          clear gf2
          obtain ⟨Q0, R0, rfl, rfl, g2⟩ := hrel
          have gl2 := g2.lo
          have gq2 := g2.q
          rw [hT2'.out] at gq2
          by_cases b1 : 4294967296 ≤ Q0
          · have d4 : decide (4294967296 ≤ Q0) = true := decide_eq_true b1
            have gm := guess_more dg2 g2 (.inl b1)
            have hn := guess_next dg2 g2 (.inl b1)
            have hst := guess_stop dg2 g2 (.inl b1)
            rw [hT2'.out] at gm hst
            have hq2 : 1 ≤ Q0 := gm.1
            by_cases b3 : 4294967296 ≤ R0 + y1
            · have d6 : decide (4294967296 ≤ R0 + y1) = true := decide_eq_true b3
              have hqq := hst b3
              subst hqq
              clear hn hst g2 gm dg2
              go_wp2
              go_ret2
              exact ⟨⟨_, by rw [kq.out]; rfl⟩, 0, rfl⟩
            · have d6 : decide (4294967296 ≤ R0 + y1) = false := decide_eq_false b3
              have hg := hn (by omega)
              clear hn hst
              go_wp2
              go_round
              case rel => exact ⟨Q0 - 1, R0 + y1, rfl, rfl, hg⟩
              case measure => simp [intOf]; omega
          · have d4 : decide (4294967296 ≤ Q0) = false := decide_eq_false b1
            have m3 : 0 ≤ Q0 * y0 := Int.mul_nonneg (by omega) bb.1
            have m4 : Q0 * y0 ≤ 4294967295 * 4294967295 := Int.mul_le_mul (by omega) (by omega) bb.1 (by decide)
            by_cases b2 : 4294967296 * R0 + u0 < Q0 * y0
            · have d5 : decide (4294967296 * R0 + u0 < Q0 * y0) = true := decide_eq_true b2
              have gm := guess_more dg2 g2 (.inr b2)
              have hn := guess_next dg2 g2 (.inr b2)
              have hst := guess_stop dg2 g2 (.inr b2)
              rw [hT2'.out] at gm hst
              have hq2 : 1 ≤ Q0 := gm.1
              by_cases b3 : 4294967296 ≤ R0 + y1
              · have d6 : decide (4294967296 ≤ R0 + y1) = true := decide_eq_true b3
                have hqq := hst b3
                subst hqq
                clear hn hst g2 gm dg2
                go_wp2
                go_ret2
                exact ⟨⟨_, by rw [kq.out]; rfl⟩, 0, rfl⟩
              · have d6 : decide (4294967296 ≤ R0 + y1) = false := decide_eq_false b3
                have hg := hn (by omega)
                clear hn hst
                go_wp2
                go_round
                case rel => exact ⟨Q0 - 1, R0 + y1, rfl, rfl, hg⟩
                case measure => simp [intOf]; omega
            · have d5 : decide (4294967296 * R0 + u0 < Q0 * y0) = false := decide_eq_false b2
              have hqq := guess_end dg2 g2 b2
              rw [hT2'.out] at hqq
              subst hqq
              clear g2 gq2 dg2
              go_wp2
              go_ret2
              exact ⟨⟨_, by rw [kq.out]; rfl⟩, 0, rfl⟩
      · have d3 : decide (4294967296 ≤ R + y1) = false := decide_eq_false c3
        have hg := hn (by omega)
        clear hn hst
        go_wp2
        go_round
        case rel => exact ⟨Q - 1, R + y1, rfl, rfl, hg⟩
        case measure => simp [intOf]; omega
    · have d1 : decide (4294967296 ≤ Q) = false := decide_eq_false c1
      have m1 : 0 ≤ Q * y0 := Int.mul_nonneg (by omega) bb.1
      have m2 : Q * y0 ≤ 4294967295 * 4294967295 := Int.mul_le_mul (by omega) (by omega) bb.1 (by decide)
      by_cases c2 : 4294967296 * R + u1 < Q * y0
      · have d2 : decide (4294967296 * R + u1 < Q * y0) = true := decide_eq_true c2
        have gm := guess_more dg g (.inr c2)
        have hn := guess_next dg g (.inr c2)
        have hst := guess_stop dg g (.inr c2)
        rw [hT'.out] at gm hst
        have hq1 : 1 ≤ Q := gm.1
        by_cases c3 : 4294967296 ≤ R + y1
        · have d3 : decide (4294967296 ≤ R + y1) = true := decide_eq_true c3
          have hq := hst c3
          subst hq
          clear hn hst g gm dg
          go_wp2
          simp only [f1.out, f2.out, f3.out]
          clear f1 f2 f3
          go_loop [16, 18] (fun r q => ∃ Q0 R0, q = .int .u64 Q0 ∧ r = .int .u64 R0 ∧ Guess y1 y0 V u0 Q0 R0) (fun _ q => (intOf q).toNat)
          case atStart => exact ⟨_, _, rfl, rfl, gf2⟩
          case round =>
            clear gf2
            obtain ⟨Q0, R0, rfl, rfl, g2⟩ := hrel
            have gl2 := g2.lo
            have gq2 := g2.q
            rw [hT2'.out] at gq2
            by_cases b1 : 4294967296 ≤ Q0
            · have d4 : decide (4294967296 ≤ Q0) = true := decide_eq_true b1
              have gm := guess_more dg2 g2 (.inl b1)
              have hn := guess_next dg2 g2 (.inl b1)
              have hst := guess_stop dg2 g2 (.inl b1)
              rw [hT2'.out] at gm hst
              have hq2 : 1 ≤ Q0 := gm.1
              by_cases b3 : 4294967296 ≤ R0 + y1
              · have d6 : decide (4294967296 ≤ R0 + y1) = true := decide_eq_true b3
                have hqq := hst b3
                subst hqq
                clear hn hst g2 gm dg2
                go_wp2
                go_ret2
                exact ⟨⟨_, by rw [kq.out]; rfl⟩, 0, rfl⟩
              · have d6 : decide (4294967296 ≤ R0 + y1) = false := decide_eq_false b3
                have hg := hn (by omega)
                clear hn hst
                go_wp2
                go_round
                case rel => exact ⟨Q0 - 1, R0 + y1, rfl, rfl, hg⟩
                case measure => simp [intOf]; omega
            · have d4 : decide (4294967296 ≤ Q0) = false := decide_eq_false b1
              have m3 : 0 ≤ Q0 * y0 := Int.mul_nonneg (by omega) bb.1
              have m4 : Q0 * y0 ≤ 4294967295 * 4294967295 := Int.mul_le_mul (by omega) (by omega) bb.1 (by decide)
              by_cases b2 : 4294967296 * R0 + u0 < Q0 * y0
              · have d5 : decide (4294967296 * R0 + u0 < Q0 * y0) = true := decide_eq_true b2
                have gm := guess_more dg2 g2 (.inr b2)
                have hn := guess_next dg2 g2 (.inr b2)
                have hst := guess_stop dg2 g2 (.inr b2)
                rw [hT2'.out] at gm hst
                have hq2 : 1 ≤ Q0 := gm.1
                by_cases b3 : 4294967296 ≤ R0 + y1
                · have d6 : decide (4294967296 ≤ R0 + y1) = true := decide_eq_true b3
                  have hqq := hst b3
                  subst hqq
                  clear hn hst g2 gm dg2
                  go_wp2
                  go_ret2
                  exact ⟨⟨_, by rw [kq.out]; rfl⟩, 0, rfl⟩
                · have d6 : decide (4294967296 ≤ R0 + y1) = false := decide_eq_false b3
                  have hg := hn (by omega)
                  clear hn hst
                  go_wp2
                  go_round
                  case rel => exact ⟨Q0 - 1, R0 + y1, rfl, rfl, hg⟩
                  case measure => simp [intOf]; omega
              · have d5 : decide (4294967296 * R0 + u0 < Q0 * y0) = false := decide_eq_false b2
                have hqq := guess_end dg2 g2 b2
                rw [hT2'.out] at hqq
                subst hqq
                clear g2 gq2 dg2
                go_wp2
                go_ret2
                exact ⟨⟨_, by rw [kq.out]; rfl⟩, 0, rfl⟩
        · have d3 : decide (4294967296 ≤ R + y1) = false := decide_eq_false c3
          have hg := hn (by omega)
          clear hn hst
          go_wp2
          go_round
          case rel => exact ⟨Q - 1, R + y1, rfl, rfl, hg⟩
          case measure => simp [intOf]; omega
      · have d2 : decide (4294967296 * R + u1 < Q * y0) = false := decide_eq_false c2
        have hq := guess_end dg g c2
        rw [hT'.out] at hq
        subst hq
        clear g gq dg
        go_wp2
        clear d1 d2 c1 c2 m1 m2
        simp only [f1.out, f2.out, f3.out]
        clear f1 f2 f3
        go_loop [16, 18] (fun r q => ∃ Q0 R0, q = .int .u64 Q0 ∧ r = .int .u64 R0 ∧ Guess y1 y0 V u0 Q0 R0) (fun _ q => (intOf q).toNat)
        case atStart => exact ⟨_, _, rfl, rfl, gf2⟩
        case round =>
          clear gf2
          obtain ⟨Q0, R0, rfl, rfl, g2⟩ := hrel
          have gl2 := g2.lo
          have gq2 := g2.q
          rw [hT2'.out] at gq2
          by_cases b1 : 4294967296 ≤ Q0
          · have d4 : decide (4294967296 ≤ Q0) = true := decide_eq_true b1
            have gm := guess_more dg2 g2 (.inl b1)
            have hn := guess_next dg2 g2 (.inl b1)
            have hst := guess_stop dg2 g2 (.inl b1)
            rw [hT2'.out] at gm hst
            have hq2 : 1 ≤ Q0 := gm.1
            by_cases b3 : 4294967296 ≤ R0 + y1
            · have d6 : decide (4294967296 ≤ R0 + y1) = true := decide_eq_true b3
              have hqq := hst b3
              subst hqq
              clear hn hst g2 gm dg2
              go_wp2
              go_ret2
              exact ⟨⟨_, by rw [kq.out]; rfl⟩, 0, rfl⟩
            · have d6 : decide (4294967296 ≤ R0 + y1) = false := decide_eq_false b3
              have hg := hn (by omega)
              clear hn hst
              go_wp2
              go_round
              case rel => exact ⟨Q0 - 1, R0 + y1, rfl, rfl, hg⟩
              case measure => simp [intOf]; omega
          · have d4 : decide (4294967296 ≤ Q0) = false := decide_eq_false b1
            have m3 : 0 ≤ Q0 * y0 := Int.mul_nonneg (by omega) bb.1
            have m4 : Q0 * y0 ≤ 4294967295 * 4294967295 := Int.mul_le_mul (by omega) (by omega) bb.1 (by decide)
            by_cases b2 : 4294967296 * R0 + u0 < Q0 * y0
            · have d5 : decide (4294967296 * R0 + u0 < Q0 * y0) = true := decide_eq_true b2
              have gm := guess_more dg2 g2 (.inr b2)
              have hn := guess_next dg2 g2 (.inr b2)
              have hst := guess_stop dg2 g2 (.inr b2)
              rw [hT2'.out] at gm hst
              have hq2 : 1 ≤ Q0 := gm.1
              by_cases b3 : 4294967296 ≤ R0 + y1
              · have d6 : decide (4294967296 ≤ R0 + y1) = true := decide_eq_true b3
                have hqq := hst b3
                subst hqq
                clear hn hst g2 gm dg2
                go_wp2
                go_ret2
                exact ⟨⟨_, by rw [kq.out]; rfl⟩, 0, rfl⟩
              · have d6 : decide (4294967296 ≤ R0 + y1) = false := decide_eq_false b3
                have hg := hn (by omega)
                clear hn hst
                go_wp2
                go_round
                case rel => exact ⟨Q0 - 1, R0 + y1, rfl, rfl, hg⟩
                case measure => simp [intOf]; omega
            · have d5 : decide (4294967296 * R0 + u0 < Q0 * y0) = false := decide_eq_false b2
              have hqq := guess_end dg2 g2 b2
              rw [hT2'.out] at hqq
              subst hqq
              clear g2 gq2 dg2
              go_wp2
              go_ret2
              exact ⟨⟨_, by rw [kq.out]; rfl⟩, 0, rfl⟩
end Go.Proofs.Ytpmjjnnjkaennaa.Div
