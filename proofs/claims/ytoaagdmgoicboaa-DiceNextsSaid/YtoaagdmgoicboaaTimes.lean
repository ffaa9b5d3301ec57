/- The reference's product of two 64-bit numbers, digit by digit: it is the product's lower and upper half. Conditions: both are 64-bit numbers. -/
import Derived.Test.YtoaagdmgoicboaaProg
import Derived.WalkKit
import Derived.KernelRfl
import Derived.RowKit3
import Derived.Deep.Draws
import Derived.Deep.QuietTactic
import Derived.BigQuiet
import Derived.Deep.LoopGhost
import Derived.Lib.Hide
import Derived.Test.YtoaagdmgoicboaaCls
namespace Go.Proofs.Ytoaagdmgoicboaa.Times
open Go.RowKit
set_option maxRecDepth 100000
set_option linter.unusedVariables false
set_option linter.unusedSimpArgs false

def dig (a : Int) : Nat → Int
  | 0 => a % 65536
  | 1 => a / 65536 % 65536
  | 2 => a / 4294967296 % 65536
  | 3 => a / 281474976710656
  | _ => 0
theorem dig_bd (a : Int) (h0 : 0 ≤ a) (h1 : a < 18446744073709551616) (j : Nat) : 0 ≤ dig a j ∧ dig a j < 65536 := by
  unfold dig; split <;> omega
theorem dig_sum (a : Int) (h0 : 0 ≤ a) (h1 : a < 18446744073709551616) : dig a 0 + dig a 1 * 65536 + dig a 2 * 4294967296 + dig a 3 * 281474976710656 = a := by
  simp only [dig]; omega

def Word (x : Nat → Int) : Value := .agg #[.int .u64 (x 0), .int .u64 (x 1), .int .u64 (x 2), .int .u64 (x 3)]
theorem of_any (n : Int) (w : World) (h0 : 0 ≤ n) (h1 : n < 18446744073709551616) :
    Calls Try.prog 30 #[.int .u64 n] w fun e w' => e = .returned (.agg #[.int .u64 (dig n 0), .int .u64 (dig n 1), .int .u64 (dig n 2), .int .u64 (dig n 3)]) ∧ w' = w.alloc (.cells #[.int .u64 (dig n 0), .int .u64 (dig n 1), .int .u64 (dig n 2), .int .u64 (dig n 3)] 50) := by
  go_enter Try.func30, Try.ntmps30
  go_wp2
  refine bodyPost_ret (v := .agg #[.int .u64 (n % 65536), .int .u64 (n / 65536 % 65536), .int .u64 (n / 4294967296 % 65536), .int .u64 (n / 281474976710656)]) (by simp [results, Try.results30, go_sem]) rfl ⟨rfl, rfl⟩
theorem to_any (a b c d : Int) (w : World) (h0 : 0 ≤ a) (h1 : a < 65536) (h2 : 0 ≤ b) (h3 : b < 65536) (h4 : 0 ≤ c) (h5 : c < 65536) (h6 : 0 ≤ d) (h7 : d < 65536) :
    Calls Try.prog 31 #[.agg #[.int .u64 a, .int .u64 b, .int .u64 c, .int .u64 d]] w fun e w' => e = .returned (.int .u64 (a + b * 65536 + c * 4294967296 + d * 281474976710656)) ∧ Below w.heap.size w w' := by
  go_enter Try.func31, Try.ntmps31
  go_wp2
  go_ret
  exact ⟨rfl, (Below.refl _ _).alloc (Nat.le_refl _) _⟩

theorem set_own (W : World) (cs : Array Value) (t : TypeId) (n j : Nat) (v : Value) : ((W.alloc (.cells cs t)).drewN n).setCell ⟨W.heap.size, j, none⟩ v = (W.alloc (.cells (cs.setIfInBounds j v) t)).drewN n := by
  simp only [World.setCell, World.alloc, World.drewN]
  congr 1
  apply Array.ext
  · simp
  · intro i h1 h2
    simp only [Array.getElem_modify, Array.getElem_push]
    by_cases e : W.heap.size = i
    · subst e; simp
    · have : i < W.heap.size := by simp at h2; omega
      simp [e, this]
theorem below_drewN' {B : Nat} {a w : World} (h : Below B a w) (n : Nat) : Below B a (w.drewN n) := ⟨h.os, h.tape, h.output, h.size, h.block⟩
def V (d : Nat → Int) : Int := d 0 + d 1 * 65536 + d 2 * 4294967296 + d 3 * 281474976710656 + d 4 * 18446744073709551616 + d 5 * 1208925819614629174706176 + d 6 * 79228162514264337593543950336 + d 7 * 5192296858534827628530496329220096 + d 8 * 340282366920938463463374607431768211456
def p16 : Nat → Int
  | 0 => 1 | 1 => 65536 | 2 => 4294967296 | 3 => 281474976710656 | 4 => 18446744073709551616 | 5 => 1208925819614629174706176 | 6 => 79228162514264337593543950336 | 7 => 5192296858534827628530496329220096 | _ => 340282366920938463463374607431768211456
/-- the first n products of digits, row by row. -/
def T (x y : Nat → Int) : Nat → Int
  | 0 => 0
  | n + 1 => T x y n + x (n / 4) * y (n % 4) * p16 (n / 4 + n % 4)
def S (x y : Nat → Int) (i k : Nat) : Int := T x y (4 * i + k)
structure DInv (x y : Nat → Int) (i : Nat) (d : Nat → Int) : Prop where
  b : ∀ j, 0 ≤ d j ∧ d j < 65536
  v : V d = S x y i 0
  z : ∀ j, i + 4 ≤ j → d j = 0
structure RInv (x y : Nat → Int) (i k : Nat) (d : Nat → Int) (over : Int) : Prop where
  b : ∀ j, 0 ≤ d j ∧ d j < 65536
  o : 0 ≤ over ∧ over < 65536
  v : V d + over * p16 (i + k) = S x y i k
  z : ∀ j, i + 4 ≤ j → d j = 0
theorem DInv.start (x y : Nat → Int) : DInv x y 0 (fun _ => 0) := ⟨by simp, by simp [V, S, T], by simp⟩
theorem DInv.row {x y d : Nat → Int} {i : Nat} (h : DInv x y i d) : RInv x y i 0 d 0 := ⟨h.b, by omega, by rw [h.v]; omega, h.z⟩
theorem mul_bd (x y : Int) (a : 0 ≤ x ∧ x < 65536) (b : 0 ≤ y ∧ y < 65536) : 0 ≤ x * y ∧ x * y ≤ 4294836225 := by
  refine ⟨Int.mul_nonneg a.1 b.1, ?_⟩
  have : x * y ≤ 65535 * 65535 := Int.mul_le_mul (by omega) (by omega) b.1 (by decide)
  omega

theorem RInv.step00 {x y d : Nat → Int} {over : Int} (h : RInv x y 0 0 d over) (hx : ∀ j, 0 ≤ x j ∧ x j < 65536) (hy : ∀ j, 0 ≤ y j ∧ y j < 65536) : RInv x y 0 1 (fun j => if j = 0 then (d 0 + x 0 * y 0 + over) % 65536 else d j) ((d 0 + x 0 * y 0 + over) / 65536) := by
  have hb := h.b; have ho := h.o; have hv := h.v; have hz := h.z
  have hm := mul_bd (x 0) (y 0) (hx 0) (hy 0)
  have h0 := hb 0
  have hS : S x y 0 1 = S x y 0 0 + x 0 * y 0 * p16 0 := rfl
  generalize x 0 * y 0 = p at *
  refine ⟨fun j => ?_, by omega, ?_, fun j hj => ?_⟩
  · have := hb j; split <;> omega
  · rw [hS, ← hv]; simp only [V, p16]; simp; omega
  · have := hz j hj; rw [if_neg (by omega)]; exact this

theorem RInv.step01 {x y d : Nat → Int} {over : Int} (h : RInv x y 0 1 d over) (hx : ∀ j, 0 ≤ x j ∧ x j < 65536) (hy : ∀ j, 0 ≤ y j ∧ y j < 65536) : RInv x y 0 2 (fun j => if j = 1 then (d 1 + x 0 * y 1 + over) % 65536 else d j) ((d 1 + x 0 * y 1 + over) / 65536) := by
  have hb := h.b; have ho := h.o; have hv := h.v; have hz := h.z
  have hm := mul_bd (x 0) (y 1) (hx 0) (hy 1)
  have h0 := hb 1
  have hS : S x y 0 2 = S x y 0 1 + x 0 * y 1 * p16 1 := rfl
  generalize x 0 * y 1 = p at *
  refine ⟨fun j => ?_, by omega, ?_, fun j hj => ?_⟩
  · have := hb j; split <;> omega
  · rw [hS, ← hv]; simp only [V, p16]; simp; omega
  · have := hz j hj; rw [if_neg (by omega)]; exact this

theorem RInv.step02 {x y d : Nat → Int} {over : Int} (h : RInv x y 0 2 d over) (hx : ∀ j, 0 ≤ x j ∧ x j < 65536) (hy : ∀ j, 0 ≤ y j ∧ y j < 65536) : RInv x y 0 3 (fun j => if j = 2 then (d 2 + x 0 * y 2 + over) % 65536 else d j) ((d 2 + x 0 * y 2 + over) / 65536) := by
  have hb := h.b; have ho := h.o; have hv := h.v; have hz := h.z
  have hm := mul_bd (x 0) (y 2) (hx 0) (hy 2)
  have h0 := hb 2
  have hS : S x y 0 3 = S x y 0 2 + x 0 * y 2 * p16 2 := rfl
  generalize x 0 * y 2 = p at *
  refine ⟨fun j => ?_, by omega, ?_, fun j hj => ?_⟩
  · have := hb j; split <;> omega
  · rw [hS, ← hv]; simp only [V, p16]; simp; omega
  · have := hz j hj; rw [if_neg (by omega)]; exact this

theorem RInv.step03 {x y d : Nat → Int} {over : Int} (h : RInv x y 0 3 d over) (hx : ∀ j, 0 ≤ x j ∧ x j < 65536) (hy : ∀ j, 0 ≤ y j ∧ y j < 65536) : RInv x y 0 4 (fun j => if j = 3 then (d 3 + x 0 * y 3 + over) % 65536 else d j) ((d 3 + x 0 * y 3 + over) / 65536) := by
  have hb := h.b; have ho := h.o; have hv := h.v; have hz := h.z
  have hm := mul_bd (x 0) (y 3) (hx 0) (hy 3)
  have h0 := hb 3
  have hS : S x y 0 4 = S x y 0 3 + x 0 * y 3 * p16 3 := rfl
  generalize x 0 * y 3 = p at *
  refine ⟨fun j => ?_, by omega, ?_, fun j hj => ?_⟩
  · have := hb j; split <;> omega
  · rw [hS, ← hv]; simp only [V, p16]; simp; omega
  · have := hz j hj; rw [if_neg (by omega)]; exact this

theorem RInv.fin0 {x y d : Nat → Int} {over : Int} (h : RInv x y 0 4 d over) : DInv x y 1 (fun j => if j = 4 then d 4 + over else d j) := by
  have hb := h.b; have ho := h.o; have hv := h.v; have hz := h.z
  have h0 := hz 4 (by omega)
  have hS : S x y 1 0 = S x y 0 4 := rfl
  refine ⟨fun j => ?_, ?_, fun j hj => ?_⟩
  · have := hb j; split <;> omega
  · rw [hS, ← hv]; simp only [V, p16]; simp; omega
  · have := hz j (by omega); rw [if_neg (by omega)]; exact this

theorem RInv.step10 {x y d : Nat → Int} {over : Int} (h : RInv x y 1 0 d over) (hx : ∀ j, 0 ≤ x j ∧ x j < 65536) (hy : ∀ j, 0 ≤ y j ∧ y j < 65536) : RInv x y 1 1 (fun j => if j = 1 then (d 1 + x 1 * y 0 + over) % 65536 else d j) ((d 1 + x 1 * y 0 + over) / 65536) := by
  have hb := h.b; have ho := h.o; have hv := h.v; have hz := h.z
  have hm := mul_bd (x 1) (y 0) (hx 1) (hy 0)
  have h0 := hb 1
  have hS : S x y 1 1 = S x y 1 0 + x 1 * y 0 * p16 1 := rfl
  generalize x 1 * y 0 = p at *
  refine ⟨fun j => ?_, by omega, ?_, fun j hj => ?_⟩
  · have := hb j; split <;> omega
  · rw [hS, ← hv]; simp only [V, p16]; simp; omega
  · have := hz j hj; rw [if_neg (by omega)]; exact this

theorem RInv.step11 {x y d : Nat → Int} {over : Int} (h : RInv x y 1 1 d over) (hx : ∀ j, 0 ≤ x j ∧ x j < 65536) (hy : ∀ j, 0 ≤ y j ∧ y j < 65536) : RInv x y 1 2 (fun j => if j = 2 then (d 2 + x 1 * y 1 + over) % 65536 else d j) ((d 2 + x 1 * y 1 + over) / 65536) := by
  have hb := h.b; have ho := h.o; have hv := h.v; have hz := h.z
  have hm := mul_bd (x 1) (y 1) (hx 1) (hy 1)
  have h0 := hb 2
  have hS : S x y 1 2 = S x y 1 1 + x 1 * y 1 * p16 2 := rfl
  generalize x 1 * y 1 = p at *
  refine ⟨fun j => ?_, by omega, ?_, fun j hj => ?_⟩
  · have := hb j; split <;> omega
  · rw [hS, ← hv]; simp only [V, p16]; simp; omega
  · have := hz j hj; rw [if_neg (by omega)]; exact this

theorem RInv.step12 {x y d : Nat → Int} {over : Int} (h : RInv x y 1 2 d over) (hx : ∀ j, 0 ≤ x j ∧ x j < 65536) (hy : ∀ j, 0 ≤ y j ∧ y j < 65536) : RInv x y 1 3 (fun j => if j = 3 then (d 3 + x 1 * y 2 + over) % 65536 else d j) ((d 3 + x 1 * y 2 + over) / 65536) := by
  have hb := h.b; have ho := h.o; have hv := h.v; have hz := h.z
  have hm := mul_bd (x 1) (y 2) (hx 1) (hy 2)
  have h0 := hb 3
  have hS : S x y 1 3 = S x y 1 2 + x 1 * y 2 * p16 3 := rfl
  generalize x 1 * y 2 = p at *
  refine ⟨fun j => ?_, by omega, ?_, fun j hj => ?_⟩
  · have := hb j; split <;> omega
  · rw [hS, ← hv]; simp only [V, p16]; simp; omega
  · have := hz j hj; rw [if_neg (by omega)]; exact this

theorem RInv.step13 {x y d : Nat → Int} {over : Int} (h : RInv x y 1 3 d over) (hx : ∀ j, 0 ≤ x j ∧ x j < 65536) (hy : ∀ j, 0 ≤ y j ∧ y j < 65536) : RInv x y 1 4 (fun j => if j = 4 then (d 4 + x 1 * y 3 + over) % 65536 else d j) ((d 4 + x 1 * y 3 + over) / 65536) := by
  have hb := h.b; have ho := h.o; have hv := h.v; have hz := h.z
  have hm := mul_bd (x 1) (y 3) (hx 1) (hy 3)
  have h0 := hb 4
  have hS : S x y 1 4 = S x y 1 3 + x 1 * y 3 * p16 4 := rfl
  generalize x 1 * y 3 = p at *
  refine ⟨fun j => ?_, by omega, ?_, fun j hj => ?_⟩
  · have := hb j; split <;> omega
  · rw [hS, ← hv]; simp only [V, p16]; simp; omega
  · have := hz j hj; rw [if_neg (by omega)]; exact this

theorem RInv.fin1 {x y d : Nat → Int} {over : Int} (h : RInv x y 1 4 d over) : DInv x y 2 (fun j => if j = 5 then d 5 + over else d j) := by
  have hb := h.b; have ho := h.o; have hv := h.v; have hz := h.z
  have h0 := hz 5 (by omega)
  have hS : S x y 2 0 = S x y 1 4 := rfl
  refine ⟨fun j => ?_, ?_, fun j hj => ?_⟩
  · have := hb j; split <;> omega
  · rw [hS, ← hv]; simp only [V, p16]; simp; omega
  · have := hz j (by omega); rw [if_neg (by omega)]; exact this

theorem RInv.step20 {x y d : Nat → Int} {over : Int} (h : RInv x y 2 0 d over) (hx : ∀ j, 0 ≤ x j ∧ x j < 65536) (hy : ∀ j, 0 ≤ y j ∧ y j < 65536) : RInv x y 2 1 (fun j => if j = 2 then (d 2 + x 2 * y 0 + over) % 65536 else d j) ((d 2 + x 2 * y 0 + over) / 65536) := by
  have hb := h.b; have ho := h.o; have hv := h.v; have hz := h.z
  have hm := mul_bd (x 2) (y 0) (hx 2) (hy 0)
  have h0 := hb 2
  have hS : S x y 2 1 = S x y 2 0 + x 2 * y 0 * p16 2 := rfl
  generalize x 2 * y 0 = p at *
  refine ⟨fun j => ?_, by omega, ?_, fun j hj => ?_⟩
  · have := hb j; split <;> omega
  · rw [hS, ← hv]; simp only [V, p16]; simp; omega
  · have := hz j hj; rw [if_neg (by omega)]; exact this

theorem RInv.step21 {x y d : Nat → Int} {over : Int} (h : RInv x y 2 1 d over) (hx : ∀ j, 0 ≤ x j ∧ x j < 65536) (hy : ∀ j, 0 ≤ y j ∧ y j < 65536) : RInv x y 2 2 (fun j => if j = 3 then (d 3 + x 2 * y 1 + over) % 65536 else d j) ((d 3 + x 2 * y 1 + over) / 65536) := by
  have hb := h.b; have ho := h.o; have hv := h.v; have hz := h.z
  have hm := mul_bd (x 2) (y 1) (hx 2) (hy 1)
  have h0 := hb 3
  have hS : S x y 2 2 = S x y 2 1 + x 2 * y 1 * p16 3 := rfl
  generalize x 2 * y 1 = p at *
  refine ⟨fun j => ?_, by omega, ?_, fun j hj => ?_⟩
  · have := hb j; split <;> omega
  · rw [hS, ← hv]; simp only [V, p16]; simp; omega
  · have := hz j hj; rw [if_neg (by omega)]; exact this

theorem RInv.step22 {x y d : Nat → Int} {over : Int} (h : RInv x y 2 2 d over) (hx : ∀ j, 0 ≤ x j ∧ x j < 65536) (hy : ∀ j, 0 ≤ y j ∧ y j < 65536) : RInv x y 2 3 (fun j => if j = 4 then (d 4 + x 2 * y 2 + over) % 65536 else d j) ((d 4 + x 2 * y 2 + over) / 65536) := by
  have hb := h.b; have ho := h.o; have hv := h.v; have hz := h.z
  have hm := mul_bd (x 2) (y 2) (hx 2) (hy 2)
  have h0 := hb 4
  have hS : S x y 2 3 = S x y 2 2 + x 2 * y 2 * p16 4 := rfl
  generalize x 2 * y 2 = p at *
  refine ⟨fun j => ?_, by omega, ?_, fun j hj => ?_⟩
  · have := hb j; split <;> omega
  · rw [hS, ← hv]; simp only [V, p16]; simp; omega
  · have := hz j hj; rw [if_neg (by omega)]; exact this

theorem RInv.step23 {x y d : Nat → Int} {over : Int} (h : RInv x y 2 3 d over) (hx : ∀ j, 0 ≤ x j ∧ x j < 65536) (hy : ∀ j, 0 ≤ y j ∧ y j < 65536) : RInv x y 2 4 (fun j => if j = 5 then (d 5 + x 2 * y 3 + over) % 65536 else d j) ((d 5 + x 2 * y 3 + over) / 65536) := by
  have hb := h.b; have ho := h.o; have hv := h.v; have hz := h.z
  have hm := mul_bd (x 2) (y 3) (hx 2) (hy 3)
  have h0 := hb 5
  have hS : S x y 2 4 = S x y 2 3 + x 2 * y 3 * p16 5 := rfl
  generalize x 2 * y 3 = p at *
  refine ⟨fun j => ?_, by omega, ?_, fun j hj => ?_⟩
  · have := hb j; split <;> omega
  · rw [hS, ← hv]; simp only [V, p16]; simp; omega
  · have := hz j hj; rw [if_neg (by omega)]; exact this

theorem RInv.fin2 {x y d : Nat → Int} {over : Int} (h : RInv x y 2 4 d over) : DInv x y 3 (fun j => if j = 6 then d 6 + over else d j) := by
  have hb := h.b; have ho := h.o; have hv := h.v; have hz := h.z
  have h0 := hz 6 (by omega)
  have hS : S x y 3 0 = S x y 2 4 := rfl
  refine ⟨fun j => ?_, ?_, fun j hj => ?_⟩
  · have := hb j; split <;> omega
  · rw [hS, ← hv]; simp only [V, p16]; simp; omega
  · have := hz j (by omega); rw [if_neg (by omega)]; exact this

theorem RInv.step30 {x y d : Nat → Int} {over : Int} (h : RInv x y 3 0 d over) (hx : ∀ j, 0 ≤ x j ∧ x j < 65536) (hy : ∀ j, 0 ≤ y j ∧ y j < 65536) : RInv x y 3 1 (fun j => if j = 3 then (d 3 + x 3 * y 0 + over) % 65536 else d j) ((d 3 + x 3 * y 0 + over) / 65536) := by
  have hb := h.b; have ho := h.o; have hv := h.v; have hz := h.z
  have hm := mul_bd (x 3) (y 0) (hx 3) (hy 0)
  have h0 := hb 3
  have hS : S x y 3 1 = S x y 3 0 + x 3 * y 0 * p16 3 := rfl
  generalize x 3 * y 0 = p at *
  refine ⟨fun j => ?_, by omega, ?_, fun j hj => ?_⟩
  · have := hb j; split <;> omega
  · rw [hS, ← hv]; simp only [V, p16]; simp; omega
  · have := hz j hj; rw [if_neg (by omega)]; exact this

theorem RInv.step31 {x y d : Nat → Int} {over : Int} (h : RInv x y 3 1 d over) (hx : ∀ j, 0 ≤ x j ∧ x j < 65536) (hy : ∀ j, 0 ≤ y j ∧ y j < 65536) : RInv x y 3 2 (fun j => if j = 4 then (d 4 + x 3 * y 1 + over) % 65536 else d j) ((d 4 + x 3 * y 1 + over) / 65536) := by
  have hb := h.b; have ho := h.o; have hv := h.v; have hz := h.z
  have hm := mul_bd (x 3) (y 1) (hx 3) (hy 1)
  have h0 := hb 4
  have hS : S x y 3 2 = S x y 3 1 + x 3 * y 1 * p16 4 := rfl
  generalize x 3 * y 1 = p at *
  refine ⟨fun j => ?_, by omega, ?_, fun j hj => ?_⟩
  · have := hb j; split <;> omega
  · rw [hS, ← hv]; simp only [V, p16]; simp; omega
  · have := hz j hj; rw [if_neg (by omega)]; exact this

theorem RInv.step32 {x y d : Nat → Int} {over : Int} (h : RInv x y 3 2 d over) (hx : ∀ j, 0 ≤ x j ∧ x j < 65536) (hy : ∀ j, 0 ≤ y j ∧ y j < 65536) : RInv x y 3 3 (fun j => if j = 5 then (d 5 + x 3 * y 2 + over) % 65536 else d j) ((d 5 + x 3 * y 2 + over) / 65536) := by
  have hb := h.b; have ho := h.o; have hv := h.v; have hz := h.z
  have hm := mul_bd (x 3) (y 2) (hx 3) (hy 2)
  have h0 := hb 5
  have hS : S x y 3 3 = S x y 3 2 + x 3 * y 2 * p16 5 := rfl
  generalize x 3 * y 2 = p at *
  refine ⟨fun j => ?_, by omega, ?_, fun j hj => ?_⟩
  · have := hb j; split <;> omega
  · rw [hS, ← hv]; simp only [V, p16]; simp; omega
  · have := hz j hj; rw [if_neg (by omega)]; exact this

theorem RInv.step33 {x y d : Nat → Int} {over : Int} (h : RInv x y 3 3 d over) (hx : ∀ j, 0 ≤ x j ∧ x j < 65536) (hy : ∀ j, 0 ≤ y j ∧ y j < 65536) : RInv x y 3 4 (fun j => if j = 6 then (d 6 + x 3 * y 3 + over) % 65536 else d j) ((d 6 + x 3 * y 3 + over) / 65536) := by
  have hb := h.b; have ho := h.o; have hv := h.v; have hz := h.z
  have hm := mul_bd (x 3) (y 3) (hx 3) (hy 3)
  have h0 := hb 6
  have hS : S x y 3 4 = S x y 3 3 + x 3 * y 3 * p16 6 := rfl
  generalize x 3 * y 3 = p at *
  refine ⟨fun j => ?_, by omega, ?_, fun j hj => ?_⟩
  · have := hb j; split <;> omega
  · rw [hS, ← hv]; simp only [V, p16]; simp; omega
  · have := hz j hj; rw [if_neg (by omega)]; exact this

theorem RInv.fin3 {x y d : Nat → Int} {over : Int} (h : RInv x y 3 4 d over) : DInv x y 4 (fun j => if j = 7 then d 7 + over else d j) := by
  have hb := h.b; have ho := h.o; have hv := h.v; have hz := h.z
  have h0 := hz 7 (by omega)
  have hS : S x y 4 0 = S x y 3 4 := rfl
  refine ⟨fun j => ?_, ?_, fun j hj => ?_⟩
  · have := hb j; split <;> omega
  · rw [hS, ← hv]; simp only [V, p16]; simp; omega
  · have := hz j (by omega); rw [if_neg (by omega)]; exact this

theorem DInv.fin {x y d : Nat → Int} (h : DInv x y 4 d) (X Y : Int) (hX : x 0 + x 1 * 65536 + x 2 * 4294967296 + x 3 * 281474976710656 = X) (hY : y 0 + y 1 * 65536 + y 2 * 4294967296 + y 3 * 281474976710656 = Y) (lX : 0 ≤ X) (uX : X < 18446744073709551616) (lY : 0 ≤ Y) (uY : Y < 18446744073709551616) :
    d 0 + d 1 * 65536 + d 2 * 4294967296 + d 3 * 281474976710656 = X * Y % 18446744073709551616 ∧ d 4 + d 5 * 65536 + d 6 * 4294967296 + d 7 * 281474976710656 = X * Y / 18446744073709551616 := by
  have hb := h.b; have hv := h.v; have hz := h.z 8 (by omega)
  have e : S x y 4 0 = X * Y := by
    have r : ∀ c : Int, c * (y 0 + y 1 * 65536 + y 2 * 4294967296 + y 3 * 281474976710656) = c * y 0 + c * y 1 * 65536 + c * y 2 * 4294967296 + c * y 3 * 281474976710656 := fun c => by
      simp only [Int.mul_add, ← Int.mul_assoc]
    have q : ∀ Z : Int, (x 0 + x 1 * 65536 + x 2 * 4294967296 + x 3 * 281474976710656) * Z = x 0 * Z + x 1 * Z * 65536 + x 2 * Z * 4294967296 + x 3 * Z * 281474976710656 := fun Z => by
      rw [Int.add_mul, Int.add_mul, Int.add_mul, Int.mul_right_comm (x 1), Int.mul_right_comm (x 2), Int.mul_right_comm (x 3)]
    rw [← hX, ← hY, q, r, r, r, r]
    have u : S x y 4 0 = 0 + x 0 * y 0 * 1 + x 0 * y 1 * 65536 + x 0 * y 2 * 4294967296 + x 0 * y 3 * 281474976710656 + x 1 * y 0 * 65536 + x 1 * y 1 * 4294967296 + x 1 * y 2 * 281474976710656 + x 1 * y 3 * 18446744073709551616 + x 2 * y 0 * 4294967296 + x 2 * y 1 * 281474976710656 + x 2 * y 2 * 18446744073709551616 + x 2 * y 3 * 1208925819614629174706176 + x 3 * y 0 * 281474976710656 + x 3 * y 1 * 18446744073709551616 + x 3 * y 2 * 1208925819614629174706176 + x 3 * y 3 * 79228162514264337593543950336 := rfl
    rw [u]
    generalize x 0 * y 0 = p00; generalize x 0 * y 1 = p01; generalize x 0 * y 2 = p02; generalize x 0 * y 3 = p03
    generalize x 1 * y 0 = p10; generalize x 1 * y 1 = p11; generalize x 1 * y 2 = p12; generalize x 1 * y 3 = p13
    generalize x 2 * y 0 = p20; generalize x 2 * y 1 = p21; generalize x 2 * y 2 = p22; generalize x 2 * y 3 = p23
    generalize x 3 * y 0 = p30; generalize x 3 * y 1 = p31; generalize x 3 * y 2 = p32; generalize x 3 * y 3 = p33
    omega
  rw [e] at hv
  generalize X * Y = z at *
  have h0 := hb 0; have h1 := hb 1; have h2 := hb 2; have h3 := hb 3; have h4 := hb 4; have h5 := hb 5; have h6 := hb 6; have h7 := hb 7
  simp only [V] at hv
  constructor <;> omega

set_option maxHeartbeats 1000000 in
theorem times_any (a b : Int) (w : World) (h0 : 0 ≤ a) (h1 : a < 18446744073709551616) (g0 : 0 ≤ b) (g1 : b < 18446744073709551616) :
    Calls Try.prog 29 #[.int .u64 a, .int .u64 b] w fun e w' => e = .returned (.tuple #[.int .u64 (a * b % 18446744073709551616), .int .u64 (a * b / 18446744073709551616)]) ∧ Below w.heap.size w w' := by
  have hxd := dig_bd a h0 h1
  have hyd := dig_bd b g0 g1
  have hxs := Lib.hid (dig_sum a h0 h1)
  have hys := Lib.hid (dig_sum b g0 g1)
  go_enter Try.func29, Try.ntmps29
  go_wp2_with (go_at_call 30; (with_reducible refine (of_any _ _ (by omega) (by omega)).mono ?_); rintro e w' ⟨rfl, rfl⟩)
  have hB4 : Below w.heap.size w ((((w.alloc (.cells #[.int .u64 (dig a 0), .int .u64 (dig a 1), .int .u64 (dig a 2), .int .u64 (dig a 3)] 50)).alloc (.cells #[.int .u64 (dig a 0), .int .u64 (dig a 1), .int .u64 (dig a 2), .int .u64 (dig a 3)] 50)).alloc (.cells #[.int .u64 (dig b 0), .int .u64 (dig b 1), .int .u64 (dig b 2), .int .u64 (dig b 3)] 50)).alloc (.cells #[.int .u64 (dig b 0), .int .u64 (dig b 1), .int .u64 (dig b 2), .int .u64 (dig b 3)] 50)) := ((((Below.refl _ _).alloc (Nat.le_refl _) _).alloc (by simp) _).alloc (by simp; omega) _).alloc (by simp; omega) _

  obtain ⟨W4, hW4⟩ : ∃ W, ((((w.alloc (.cells #[.int .u64 (dig a 0), .int .u64 (dig a 1), .int .u64 (dig a 2), .int .u64 (dig a 3)] 50)).alloc (.cells #[.int .u64 (dig a 0), .int .u64 (dig a 1), .int .u64 (dig a 2), .int .u64 (dig a 3)] 50)).alloc (.cells #[.int .u64 (dig b 0), .int .u64 (dig b 1), .int .u64 (dig b 2), .int .u64 (dig b 3)] 50)).alloc (.cells #[.int .u64 (dig b 0), .int .u64 (dig b 1), .int .u64 (dig b 2), .int .u64 (dig b 3)] 50)) = W := ⟨_, rfl⟩
  have hs4 : w.heap.size + 1 + 1 + 1 + 1 = W4.heap.size := by rw [← hW4]; simp

  have hx0 : W4.cell? ⟨w.heap.size + 1, 0, none⟩ = some (.int .u64 (dig a 0)) := by rw [← hW4]; simp [go_sem]
  have hx1 : W4.cell? ⟨w.heap.size + 1, 1, none⟩ = some (.int .u64 (dig a 1)) := by rw [← hW4]; simp [go_sem]
  have hx2 : W4.cell? ⟨w.heap.size + 1, 2, none⟩ = some (.int .u64 (dig a 2)) := by rw [← hW4]; simp [go_sem]
  have hx3 : W4.cell? ⟨w.heap.size + 1, 3, none⟩ = some (.int .u64 (dig a 3)) := by rw [← hW4]; simp [go_sem]
  have hy0 : W4.cell? ⟨w.heap.size + 1 + 1 + 1, 0, none⟩ = some (.int .u64 (dig b 0)) := by rw [← hW4]; simp [go_sem]
  have hy1 : W4.cell? ⟨w.heap.size + 1 + 1 + 1, 1, none⟩ = some (.int .u64 (dig b 1)) := by rw [← hW4]; simp [go_sem]
  have hy2 : W4.cell? ⟨w.heap.size + 1 + 1 + 1, 2, none⟩ = some (.int .u64 (dig b 2)) := by rw [← hW4]; simp [go_sem]
  have hy3 : W4.cell? ⟨w.heap.size + 1 + 1 + 1, 3, none⟩ = some (.int .u64 (dig b 3)) := by rw [← hW4]; simp [go_sem]
  rw [hs4]
  rw [hW4] at hB4 ⊢
  have hl1 : w.heap.size + 1 < W4.heap.size := by omega
  have hl2 : w.heap.size + 1 + 1 + 1 < W4.heap.size := by omega
  clear hW4 hs4
  go_loopw [9, 10, 11, 12] (fun i _ _ _ wr => ∃ (i' : Nat) (d : Nat → Int) (nd : Nat), i = .int .i64 i' ∧ i' ≤ 4 ∧ Hid (DInv (dig a) (dig b) i' d) ∧ wr = ((W4.alloc (.cells #[.int .u64 (d 0), .int .u64 (d 1), .int .u64 (d 2), .int .u64 (d 3), .int .u64 (d 4), .int .u64 (d 5), .int .u64 (d 6), .int .u64 (d 7), .int .u64 (d 8)] 52)).drewN nd)) (fun i _ _ _ _ => 4 - (intOf i).toNat)
  case atStart => exact ⟨0, fun _ => 0, 0, rfl, by omega, Lib.hid (DInv.start _ _), rfl⟩
  case round =>
    obtain ⟨i, d, nd, rfl, hi, hd, rfl⟩ := hrel
    by_cases hlt : i < 4
    · have hc : i = 0 ∨ i = 1 ∨ i = 2 ∨ i = 3 := by omega
      clear hi hlt
      rcases hc with rfl | rfl | rfl | rfl
      · go_wp2
        go_loopw [10, 11, 12] (fun over k _ wr => ∃ (k' : Nat) (d : Nat → Int) (ov : Int) (nd : Nat), k = .int .i64 k' ∧ k' ≤ 4 ∧ over = .int .u64 ov ∧ Hid (RInv (dig a) (dig b) 0 k' d ov) ∧ wr = ((W4.alloc (.cells #[.int .u64 (d 0), .int .u64 (d 1), .int .u64 (d 2), .int .u64 (d 3), .int .u64 (d 4), .int .u64 (d 5), .int .u64 (d 6), .int .u64 (d 7), .int .u64 (d 8)] 52)).drewN nd)) (fun _ k _ _ => 4 - (intOf k).toNat)
        case atStart => exact ⟨0, d, 0, nd, rfl, by omega, rfl, Lib.hid hd.out.row, rfl⟩
        case round =>
          clear hd d nd
          obtain ⟨k, d, ov, nd, rfl, hk, rfl, hd, rfl⟩ := hrel
          by_cases hlt : k < 4
          · have hc : k = 0 ∨ k = 1 ∨ k = 2 ∨ k = 3 := by omega
            clear hk hlt
            have ho := hd.out.o
            rcases hc with rfl | rfl | rfl | rfl
            · have hm := mul_bd (dig a 0) (dig b 0) (hxd 0) (hyd 0)
              have hdj := hd.out.b 0
              have hst := Lib.hid (hd.out.step00 hxd hyd)
              clear hd
              go_wp2
              go_quiet (fail)
              go_wp2
              go_roundw
              case rel => exact ⟨1, _, (d 0 + dig a 0 * dig b 0 + ov) / 65536, _, rfl, by omega, rfl, hst, by rw [set_own]; rfl⟩
              case measure => simp [intOf]
            · have hm := mul_bd (dig a 0) (dig b 1) (hxd 0) (hyd 1)
              have hdj := hd.out.b 1
              have hst := Lib.hid (hd.out.step01 hxd hyd)
              clear hd
              go_wp2
              go_quiet (fail)
              go_wp2
              go_roundw
              case rel => exact ⟨2, _, (d 1 + dig a 0 * dig b 1 + ov) / 65536, _, rfl, by omega, rfl, hst, by rw [set_own]; rfl⟩
              case measure => simp [intOf]
            · have hm := mul_bd (dig a 0) (dig b 2) (hxd 0) (hyd 2)
              have hdj := hd.out.b 2
              have hst := Lib.hid (hd.out.step02 hxd hyd)
              clear hd
              go_wp2
              go_quiet (fail)
              go_wp2
              go_roundw
              case rel => exact ⟨3, _, (d 2 + dig a 0 * dig b 2 + ov) / 65536, _, rfl, by omega, rfl, hst, by rw [set_own]; rfl⟩
              case measure => simp [intOf]
            · have hm := mul_bd (dig a 0) (dig b 3) (hxd 0) (hyd 3)
              have hdj := hd.out.b 3
              have hst := Lib.hid (hd.out.step03 hxd hyd)
              clear hd
              go_wp2
              go_quiet (fail)
              go_wp2
              go_roundw
              case rel => exact ⟨4, _, (d 3 + dig a 0 * dig b 3 + ov) / 65536, _, rfl, by omega, rfl, hst, by rw [set_own]; rfl⟩
              case measure => simp [intOf]
          · obtain rfl : k = 4 := by omega
            have hst := Lib.hid hd.out.fin0
            have hdj := hd.out.b 4
            have ho := hd.out.o
            have hz := Lib.hid (hd.out.z 4 (by omega))
            clear hd
            go_wp2
            go_roundw
            case rel => exact ⟨1, _, _, rfl, by omega, hst, by rw [set_own]; rfl⟩
            case measure => simp [intOf]
      · go_wp2
        go_loopw [10, 11, 12] (fun over k _ wr => ∃ (k' : Nat) (d : Nat → Int) (ov : Int) (nd : Nat), k = .int .i64 k' ∧ k' ≤ 4 ∧ over = .int .u64 ov ∧ Hid (RInv (dig a) (dig b) 1 k' d ov) ∧ wr = ((W4.alloc (.cells #[.int .u64 (d 0), .int .u64 (d 1), .int .u64 (d 2), .int .u64 (d 3), .int .u64 (d 4), .int .u64 (d 5), .int .u64 (d 6), .int .u64 (d 7), .int .u64 (d 8)] 52)).drewN nd)) (fun _ k _ _ => 4 - (intOf k).toNat)
        case atStart => exact ⟨0, d, 0, nd, rfl, by omega, rfl, Lib.hid hd.out.row, rfl⟩
        case round =>
          clear hd d nd
          obtain ⟨k, d, ov, nd, rfl, hk, rfl, hd, rfl⟩ := hrel
          by_cases hlt : k < 4
          · have hc : k = 0 ∨ k = 1 ∨ k = 2 ∨ k = 3 := by omega
            clear hk hlt
            have ho := hd.out.o
            rcases hc with rfl | rfl | rfl | rfl
            · have hm := mul_bd (dig a 1) (dig b 0) (hxd 1) (hyd 0)
              have hdj := hd.out.b 1
              have hst := Lib.hid (hd.out.step10 hxd hyd)
              clear hd
              go_wp2
              go_quiet (fail)
              go_wp2
              go_roundw
              case rel => exact ⟨1, _, (d 1 + dig a 1 * dig b 0 + ov) / 65536, _, rfl, by omega, rfl, hst, by rw [set_own]; rfl⟩
              case measure => simp [intOf]
            · have hm := mul_bd (dig a 1) (dig b 1) (hxd 1) (hyd 1)
              have hdj := hd.out.b 2
              have hst := Lib.hid (hd.out.step11 hxd hyd)
              clear hd
              go_wp2
              go_quiet (fail)
              go_wp2
              go_roundw
              case rel => exact ⟨2, _, (d 2 + dig a 1 * dig b 1 + ov) / 65536, _, rfl, by omega, rfl, hst, by rw [set_own]; rfl⟩
              case measure => simp [intOf]
            · have hm := mul_bd (dig a 1) (dig b 2) (hxd 1) (hyd 2)
              have hdj := hd.out.b 3
              have hst := Lib.hid (hd.out.step12 hxd hyd)
              clear hd
              go_wp2
              go_quiet (fail)
              go_wp2
              go_roundw
              case rel => exact ⟨3, _, (d 3 + dig a 1 * dig b 2 + ov) / 65536, _, rfl, by omega, rfl, hst, by rw [set_own]; rfl⟩
              case measure => simp [intOf]
            · have hm := mul_bd (dig a 1) (dig b 3) (hxd 1) (hyd 3)
              have hdj := hd.out.b 4
              have hst := Lib.hid (hd.out.step13 hxd hyd)
              clear hd
              go_wp2
              go_quiet (fail)
              go_wp2
              go_roundw
              case rel => exact ⟨4, _, (d 4 + dig a 1 * dig b 3 + ov) / 65536, _, rfl, by omega, rfl, hst, by rw [set_own]; rfl⟩
              case measure => simp [intOf]
          · obtain rfl : k = 4 := by omega
            have hst := Lib.hid hd.out.fin1
            have hdj := hd.out.b 5
            have ho := hd.out.o
            have hz := Lib.hid (hd.out.z 5 (by omega))
            clear hd
            go_wp2
            go_roundw
            case rel => exact ⟨2, _, _, rfl, by omega, hst, by rw [set_own]; rfl⟩
            case measure => simp [intOf]
      · go_wp2
        go_loopw [10, 11, 12] (fun over k _ wr => ∃ (k' : Nat) (d : Nat → Int) (ov : Int) (nd : Nat), k = .int .i64 k' ∧ k' ≤ 4 ∧ over = .int .u64 ov ∧ Hid (RInv (dig a) (dig b) 2 k' d ov) ∧ wr = ((W4.alloc (.cells #[.int .u64 (d 0), .int .u64 (d 1), .int .u64 (d 2), .int .u64 (d 3), .int .u64 (d 4), .int .u64 (d 5), .int .u64 (d 6), .int .u64 (d 7), .int .u64 (d 8)] 52)).drewN nd)) (fun _ k _ _ => 4 - (intOf k).toNat)
        case atStart => exact ⟨0, d, 0, nd, rfl, by omega, rfl, Lib.hid hd.out.row, rfl⟩
        case round =>
          clear hd d nd
          obtain ⟨k, d, ov, nd, rfl, hk, rfl, hd, rfl⟩ := hrel
          by_cases hlt : k < 4
          · have hc : k = 0 ∨ k = 1 ∨ k = 2 ∨ k = 3 := by omega
            clear hk hlt
            have ho := hd.out.o
            rcases hc with rfl | rfl | rfl | rfl
            · have hm := mul_bd (dig a 2) (dig b 0) (hxd 2) (hyd 0)
              have hdj := hd.out.b 2
              have hst := Lib.hid (hd.out.step20 hxd hyd)
              clear hd
              go_wp2
              go_quiet (fail)
              go_wp2
              go_roundw
              case rel => exact ⟨1, _, (d 2 + dig a 2 * dig b 0 + ov) / 65536, _, rfl, by omega, rfl, hst, by rw [set_own]; rfl⟩
              case measure => simp [intOf]
            · have hm := mul_bd (dig a 2) (dig b 1) (hxd 2) (hyd 1)
              have hdj := hd.out.b 3
              have hst := Lib.hid (hd.out.step21 hxd hyd)
              clear hd
              go_wp2
              go_quiet (fail)
              go_wp2
              go_roundw
              case rel => exact ⟨2, _, (d 3 + dig a 2 * dig b 1 + ov) / 65536, _, rfl, by omega, rfl, hst, by rw [set_own]; rfl⟩
              case measure => simp [intOf]
            · have hm := mul_bd (dig a 2) (dig b 2) (hxd 2) (hyd 2)
              have hdj := hd.out.b 4
              have hst := Lib.hid (hd.out.step22 hxd hyd)
              clear hd
              go_wp2
              go_quiet (fail)
              go_wp2
              go_roundw
              case rel => exact ⟨3, _, (d 4 + dig a 2 * dig b 2 + ov) / 65536, _, rfl, by omega, rfl, hst, by rw [set_own]; rfl⟩
              case measure => simp [intOf]
            · have hm := mul_bd (dig a 2) (dig b 3) (hxd 2) (hyd 3)
              have hdj := hd.out.b 5
              have hst := Lib.hid (hd.out.step23 hxd hyd)
              clear hd
              go_wp2
              go_quiet (fail)
              go_wp2
              go_roundw
              case rel => exact ⟨4, _, (d 5 + dig a 2 * dig b 3 + ov) / 65536, _, rfl, by omega, rfl, hst, by rw [set_own]; rfl⟩
              case measure => simp [intOf]
          · obtain rfl : k = 4 := by omega
            have hst := Lib.hid hd.out.fin2
            have hdj := hd.out.b 6
            have ho := hd.out.o
            have hz := Lib.hid (hd.out.z 6 (by omega))
            clear hd
            go_wp2
            go_roundw
            case rel => exact ⟨3, _, _, rfl, by omega, hst, by rw [set_own]; rfl⟩
            case measure => simp [intOf]
      · go_wp2
        go_loopw [10, 11, 12] (fun over k _ wr => ∃ (k' : Nat) (d : Nat → Int) (ov : Int) (nd : Nat), k = .int .i64 k' ∧ k' ≤ 4 ∧ over = .int .u64 ov ∧ Hid (RInv (dig a) (dig b) 3 k' d ov) ∧ wr = ((W4.alloc (.cells #[.int .u64 (d 0), .int .u64 (d 1), .int .u64 (d 2), .int .u64 (d 3), .int .u64 (d 4), .int .u64 (d 5), .int .u64 (d 6), .int .u64 (d 7), .int .u64 (d 8)] 52)).drewN nd)) (fun _ k _ _ => 4 - (intOf k).toNat)
        case atStart => exact ⟨0, d, 0, nd, rfl, by omega, rfl, Lib.hid hd.out.row, rfl⟩
        case round =>
          clear hd d nd
          obtain ⟨k, d, ov, nd, rfl, hk, rfl, hd, rfl⟩ := hrel
          by_cases hlt : k < 4
          · have hc : k = 0 ∨ k = 1 ∨ k = 2 ∨ k = 3 := by omega
            clear hk hlt
            have ho := hd.out.o
            rcases hc with rfl | rfl | rfl | rfl
            · have hm := mul_bd (dig a 3) (dig b 0) (hxd 3) (hyd 0)
              have hdj := hd.out.b 3
              have hst := Lib.hid (hd.out.step30 hxd hyd)
              clear hd
              go_wp2
              go_quiet (fail)
              go_wp2
              go_roundw
              case rel => exact ⟨1, _, (d 3 + dig a 3 * dig b 0 + ov) / 65536, _, rfl, by omega, rfl, hst, by rw [set_own]; rfl⟩
              case measure => simp [intOf]
            · have hm := mul_bd (dig a 3) (dig b 1) (hxd 3) (hyd 1)
              have hdj := hd.out.b 4
              have hst := Lib.hid (hd.out.step31 hxd hyd)
              clear hd
              go_wp2
              go_quiet (fail)
              go_wp2
              go_roundw
              case rel => exact ⟨2, _, (d 4 + dig a 3 * dig b 1 + ov) / 65536, _, rfl, by omega, rfl, hst, by rw [set_own]; rfl⟩
              case measure => simp [intOf]
            · have hm := mul_bd (dig a 3) (dig b 2) (hxd 3) (hyd 2)
              have hdj := hd.out.b 5
              have hst := Lib.hid (hd.out.step32 hxd hyd)
              clear hd
              go_wp2
              go_quiet (fail)
              go_wp2
              go_roundw
              case rel => exact ⟨3, _, (d 5 + dig a 3 * dig b 2 + ov) / 65536, _, rfl, by omega, rfl, hst, by rw [set_own]; rfl⟩
              case measure => simp [intOf]
            · have hm := mul_bd (dig a 3) (dig b 3) (hxd 3) (hyd 3)
              have hdj := hd.out.b 6
              have hst := Lib.hid (hd.out.step33 hxd hyd)
              clear hd
              go_wp2
              go_quiet (fail)
              go_wp2
              go_roundw
              case rel => exact ⟨4, _, (d 6 + dig a 3 * dig b 3 + ov) / 65536, _, rfl, by omega, rfl, hst, by rw [set_own]; rfl⟩
              case measure => simp [intOf]
          · obtain rfl : k = 4 := by omega
            have hst := Lib.hid hd.out.fin3
            have hdj := hd.out.b 7
            have ho := hd.out.o
            have hz := Lib.hid (hd.out.z 7 (by omega))
            clear hd
            go_wp2
            go_roundw
            case rel => exact ⟨4, _, _, rfl, by omega, hst, by rw [set_own]; rfl⟩
            case measure => simp [intOf]
    · obtain rfl : i = 4 := by omega
      have hfin := hd.out.fin a b hxs.out hys.out h0 h1 g0 g1
      have hdb := hd.out.b
      clear hd hi hlt
      obtain ⟨W5, hW5⟩ : ∃ W, ((W4.alloc (.cells #[.int .u64 (d 0), .int .u64 (d 1), .int .u64 (d 2), .int .u64 (d 3), .int .u64 (d 4), .int .u64 (d 5), .int .u64 (d 6), .int .u64 (d 7), .int .u64 (d 8)] 52)).drewN nd) = W := ⟨_, rfl⟩
      have hB5 : Below w.heap.size w W5 := by rw [← hW5]; exact below_drewN' (hB4.alloc hB4.size _) nd
      have hc0 : W5.cell? ⟨W4.heap.size, 0, none⟩ = some (.int .u64 (d 0)) := by rw [← hW5]; simp [go_sem]
      have hc1 : W5.cell? ⟨W4.heap.size, 1, none⟩ = some (.int .u64 (d 1)) := by rw [← hW5]; simp [go_sem]
      have hc2 : W5.cell? ⟨W4.heap.size, 2, none⟩ = some (.int .u64 (d 2)) := by rw [← hW5]; simp [go_sem]
      have hc3 : W5.cell? ⟨W4.heap.size, 3, none⟩ = some (.int .u64 (d 3)) := by rw [← hW5]; simp [go_sem]
      have hc4 : W5.cell? ⟨W4.heap.size, 4, none⟩ = some (.int .u64 (d 4)) := by rw [← hW5]; simp [go_sem]
      have hc5 : W5.cell? ⟨W4.heap.size, 5, none⟩ = some (.int .u64 (d 5)) := by rw [← hW5]; simp [go_sem]
      have hc6 : W5.cell? ⟨W4.heap.size, 6, none⟩ = some (.int .u64 (d 6)) := by rw [← hW5]; simp [go_sem]
      have hc7 : W5.cell? ⟨W4.heap.size, 7, none⟩ = some (.int .u64 (d 7)) := by rw [← hW5]; simp [go_sem]
      have hlt5 : W4.heap.size < W5.heap.size := by rw [← hW5]; simp
      rw [hW5]
      clear hW5 hx0 hx1 hx2 hx3 hy0 hy1 hy2 hy3 hl1 hl2
      go_wp2
      refine Cls.region (fun w' => Below W5.heap.size W5 w') (by kernel_rfl) (by kernel_rfl) (Below.refl _ _).drew ?_
      refine Cls.value ?_ rfl (fun w' hw' => ?_) ?_
      rotate_left
      · go_simp; rfl
      refine Cls.value ?_ rfl (fun w' hw' => ?_) ?_
      rotate_left
      · have hc := (hw'.cell (p := ⟨W4.heap.size, 0, none⟩) hlt5).trans hc0
        go_simp; rfl
      refine Cls.value ?_ rfl (fun w' hw' => ?_) ?_
      rotate_left
      · go_simp; rfl
      refine Cls.value ?_ rfl (fun w' hw' => ?_) ?_
      rotate_left
      · have hc := (hw'.cell (p := ⟨W4.heap.size, 1, none⟩) hlt5).trans hc1
        go_simp; rfl
      refine Cls.value ?_ rfl (fun w' hw' => ?_) ?_
      rotate_left
      · go_simp; rfl
      refine Cls.value ?_ rfl (fun w' hw' => ?_) ?_
      rotate_left
      · have hc := (hw'.cell (p := ⟨W4.heap.size, 2, none⟩) hlt5).trans hc2
        go_simp; rfl
      refine Cls.value ?_ rfl (fun w' hw' => ?_) ?_
      rotate_left
      · go_simp; rfl
      refine Cls.value ?_ rfl (fun w' hw' => ?_) ?_
      rotate_left
      · have hc := (hw'.cell (p := ⟨W4.heap.size, 3, none⟩) hlt5).trans hc3
        go_simp; rfl
      refine Cls.value ?_ rfl (fun w' hw' => ?_) ?_
      rotate_left
      · go_simp; rfl
      refine Cls.call 31 #[.agg #[.int .u64 (d 0), .int .u64 (d 1), .int .u64 (d 2), .int .u64 (d 3)]] (.int .u64 (d 0 + d 1 * 65536 + d 2 * 4294967296 + d 3 * 281474976710656)) rfl (fun w' => ?_) (fun w' hw' => (to_any _ _ _ _ w' (hdb _).1 (hdb _).2 (hdb _).1 (hdb _).2 (hdb _).1 (hdb _).2 (hdb _).1 (hdb _).2).mono ?_) ?_
      · go_simp
      · rintro e w'' ⟨rfl, hb⟩; exact ⟨rfl, hw'.trans (hb.mono hw'.size)⟩
      refine Cls.value ?_ rfl (fun w' hw' => ?_) ?_
      rotate_left
      · go_simp; rfl
      refine Cls.value ?_ rfl (fun w' hw' => ?_) ?_
      rotate_left
      · have hc := (hw'.cell (p := ⟨W4.heap.size, 4, none⟩) hlt5).trans hc4
        go_simp; rfl
      refine Cls.value ?_ rfl (fun w' hw' => ?_) ?_
      rotate_left
      · go_simp; rfl
      refine Cls.value ?_ rfl (fun w' hw' => ?_) ?_
      rotate_left
      · have hc := (hw'.cell (p := ⟨W4.heap.size, 5, none⟩) hlt5).trans hc5
        go_simp; rfl
      refine Cls.value ?_ rfl (fun w' hw' => ?_) ?_
      rotate_left
      · go_simp; rfl
      refine Cls.value ?_ rfl (fun w' hw' => ?_) ?_
      rotate_left
      · have hc := (hw'.cell (p := ⟨W4.heap.size, 6, none⟩) hlt5).trans hc6
        go_simp; rfl
      refine Cls.value ?_ rfl (fun w' hw' => ?_) ?_
      rotate_left
      · go_simp; rfl
      refine Cls.value ?_ rfl (fun w' hw' => ?_) ?_
      rotate_left
      · have hc := (hw'.cell (p := ⟨W4.heap.size, 7, none⟩) hlt5).trans hc7
        go_simp; rfl
      refine Cls.value ?_ rfl (fun w' hw' => ?_) ?_
      rotate_left
      · go_simp; rfl
      refine Cls.call 31 #[.agg #[.int .u64 (d 4), .int .u64 (d 5), .int .u64 (d 6), .int .u64 (d 7)]] (.int .u64 (d 4 + d 5 * 65536 + d 6 * 4294967296 + d 7 * 281474976710656)) rfl (fun w' => ?_) (fun w' hw' => (to_any _ _ _ _ w' (hdb _).1 (hdb _).2 (hdb _).1 (hdb _).2 (hdb _).1 (hdb _).2 (hdb _).1 (hdb _).2).mono ?_) ?_
      · go_simp
      · rintro e w'' ⟨rfl, hb⟩; exact ⟨rfl, hw'.trans (hb.mono hw'.size)⟩
      refine Cls.value ?_ rfl (fun w' hw' => ?_) ?_
      rotate_left
      · go_simp; rfl
      refine Cls.value ?_ rfl (fun w' hw' => ?_) ?_
      rotate_left
      · go_simp; rfl
      refine Cls.done (fun w' hw' => ?_)
      simp only [Act.put, List.setIfInBounds_toArray, List.set_cons_zero, List.set_cons_succ]
      go_wp2
      go_ret2
      refine ⟨?_, hB5.trans (hw'.mono hB5.size)⟩
      rw [hfin.1, hfin.2]
      rfl
end Go.Proofs.Ytoaagdmgoicboaa.Times
