/- The reference's product of two 64-bit numbers, digit by digit: it is the product's lower and upper half. Conditions: both are 64-bit numbers. -/
import Derived.Test.YtehpliclknfmoaaProg
import Derived.WalkKit
import Derived.KernelRfl
import Derived.RowKit3
import Derived.Deep.Draws
import Derived.Deep.QuietTactic
import Derived.BigQuiet
import Derived.Deep.LoopGhost
import Derived.Lib.Hide
import Derived.Test.YtehpliclknfmoaaCls
namespace Go.Proofs.Ytehpliclknfmoaa.Times
open Go.RowKit
set_option maxRecDepth 100000
set_option linter.unusedVariables false
set_option linter.unusedSimpArgs false

def dig (a : Int) : Nat → Int
  | 0 => a % 65536
  | 1 => a / 65536 % 65536
  | 2 => a / 4294967296 % 65536
  | 3 => a / 281474976710656
  | _ => 0
theorem dig_bd (a : Int) (h0 : 0 ≤ a) (h1 : a < 18446744073709551616) (j : Nat) : 0 ≤ dig a j ∧ dig a j < 65536 := by
  unfold dig; split <;> omega
theorem dig_sum (a : Int) (h0 : 0 ≤ a) (h1 : a < 18446744073709551616) : dig a 0 + dig a 1 * 65536 + dig a 2 * 4294967296 + dig a 3 * 281474976710656 = a := by
  simp only [dig]; omega

def Word (x : Nat → Int) : Value := .agg #[.int .u64 (x 0), .int .u64 (x 1), .int .u64 (x 2), .int .u64 (x 3)]
theorem set_own (W : World) (cs : Array Value) (t : TypeId) (n j : Nat) (v : Value) : ((W.alloc (.cells cs t)).drewN n).setCell ⟨W.heap.size, j, none⟩ v = (W.alloc (.cells (cs.setIfInBounds j v) t)).drewN n := by
  simp only [World.setCell, World.alloc, World.drewN]
  congr 1
  apply Array.ext
  · simp
  · intro i h1 h2
    simp only [Array.getElem_modify, Array.getElem_push]
    by_cases e : W.heap.size = i
    · subst e; simp
    · have : i < W.heap.size := by simp at h2; omega
      simp [e, this]
theorem below_drewN' {B : Nat} {a w : World} (h : Below B a w) (n : Nat) : Below B a (w.drewN n) := ⟨h.os, h.tape, h.output, h.size, h.block⟩
def V (d : Nat → Int) : Int := d 0 + d 1 * 65536 + d 2 * 4294967296 + d 3 * 281474976710656 + d 4 * 18446744073709551616 + d 5 * 1208925819614629174706176 + d 6 * 79228162514264337593543950336 + d 7 * 5192296858534827628530496329220096 + d 8 * 340282366920938463463374607431768211456
def p16 : Nat → Int
  | 0 => 1 | 1 => 65536 | 2 => 4294967296 | 3 => 281474976710656 | 4 => 18446744073709551616 | 5 => 1208925819614629174706176 | 6 => 79228162514264337593543950336 | 7 => 5192296858534827628530496329220096 | _ => 340282366920938463463374607431768211456
/-- the first n products of digits, row by row. -/
def T (x y : Nat → Int) : Nat → Int
  | 0 => 0
  | n + 1 => T x y n + x (n / 4) * y (n % 4) * p16 (n / 4 + n % 4)
def S (x y : Nat → Int) (i k : Nat) : Int := T x y (4 * i + k)
structure DInv (x y : Nat → Int) (i : Nat) (d : Nat → Int) : Prop where
  b : ∀ j, 0 ≤ d j ∧ d j < 65536
  v : V d = S x y i 0
  z : ∀ j, i + 4 ≤ j → d j = 0
structure RInv (x y : Nat → Int) (i k : Nat) (d : Nat → Int) (over : Int) : Prop where
  b : ∀ j, 0 ≤ d j ∧ d j < 65536
  o : 0 ≤ over ∧ over < 65536
  v : V d + over * p16 (i + k) = S x y i k
  z : ∀ j, i + 4 ≤ j → d j = 0
theorem DInv.start (x y : Nat → Int) : DInv x y 0 (fun _ => 0) := ⟨by simp, by simp [V, S, T], by simp⟩
theorem DInv.row {x y d : Nat → Int} {i : Nat} (h : DInv x y i d) : RInv x y i 0 d 0 := ⟨h.b, by omega, by rw [h.v]; omega, h.z⟩
theorem mul_bd (x y : Int) (a : 0 ≤ x ∧ x < 65536) (b : 0 ≤ y ∧ y < 65536) : 0 ≤ x * y ∧ x * y ≤ 4294836225 := by
  refine ⟨Int.mul_nonneg a.1 b.1, ?_⟩
  have : x * y ≤ 65535 * 65535 := Int.mul_le_mul (by omega) (by omega) b.1 (by decide)
  omega

theorem RInv.step00 {x y d : Nat → Int} {over : Int} (h : RInv x y 0 0 d over) (hx : ∀ j, 0 ≤ x j ∧ x j < 65536) (hy : ∀ j, 0 ≤ y j ∧ y j < 65536) : RInv x y 0 1 (fun j => if j = 0 then (d 0 + x 0 * y 0 + over) % 65536 else d j) ((d 0 + x 0 * y 0 + over) / 65536) := by
  have hb := h.b; have ho := h.o; have hv := h.v; have hz := h.z
  have hm := mul_bd (x 0) (y 0) (hx 0) (hy 0)
  have h0 := hb 0
  have hS : S x y 0 1 = S x y 0 0 + x 0 * y 0 * p16 0 := rfl
  generalize x 0 * y 0 = p at *
  refine ⟨fun j => ?_, by omega, ?_, fun j hj => ?_⟩
  · have := hb j; split <;> omega
  · rw [hS, ← hv]; simp only [V, p16]; simp; omega
  · have := hz j hj; rw [if_neg (by omega)]; exact this

theorem RInv.step01 {x y d : Nat → Int} {over : Int} (h : RInv x y 0 1 d over) (hx : ∀ j, 0 ≤ x j ∧ x j < 65536) (hy : ∀ j, 0 ≤ y j ∧ y j < 65536) : RInv x y 0 2 (fun j => if j = 1 then (d 1 + x 0 * y 1 + over) % 65536 else d j) ((d 1 + x 0 * y 1 + over) / 65536) := by
  have hb := h.b; have ho := h.o; have hv := h.v; have hz := h.z
  have hm := mul_bd (x 0) (y 1) (hx 0) (hy 1)
  have h0 := hb 1
  have hS : S x y 0 2 = S x y 0 1 + x 0 * y 1 * p16 1 := rfl
  generalize x 0 * y 1 = p at *
  refine ⟨fun j => ?_, by omega, ?_, fun j hj => ?_⟩
  · have := hb j; split <;> omega
  · rw [hS, ← hv]; simp only [V, p16]; simp; omega
  · have := hz j hj; rw [if_neg (by omega)]; exact this

theorem RInv.step02 {x y d : Nat → Int} {over : Int} (h : RInv x y 0 2 d over) (hx : ∀ j, 0 ≤ x j ∧ x j < 65536) (hy : ∀ j, 0 ≤ y j ∧ y j < 65536) : RInv x y 0 3 (fun j => if j = 2 then (d 2 + x 0 * y 2 + over) % 65536 else d j) ((d 2 + x 0 * y 2 + over) / 65536) := by
  have hb := h.b; have ho := h.o; have hv := h.v; have hz := h.z
  have hm := mul_bd (x 0) (y 2) (hx 0) (hy 2)
  have h0 := hb 2
  have hS : S x y 0 3 = S x y 0 2 + x 0 * y 2 * p16 2 := rfl
  generalize x 0 * y 2 = p at *
  refine ⟨fun j => ?_, by omega, ?_, fun j hj => ?_⟩
  · have := hb j; split <;> omega
  · rw [hS, ← hv]; simp only [V, p16]; simp; omega
  · have := hz j hj; rw [if_neg (by omega)]; exact this

theorem RInv.step03 {x y d : Nat → Int} {over : Int} (h : RInv x y 0 3 d over) (hx : ∀ j, 0 ≤ x j ∧ x j < 65536) (hy : ∀ j, 0 ≤ y j ∧ y j < 65536) : RInv x y 0 4 (fun j => if j = 3 then (d 3 + x 0 * y 3 + over) % 65536 else d j) ((d 3 + x 0 * y 3 + over) / 65536) := by
  have hb := h.b; have ho := h.o; have hv := h.v; have hz := h.z
  have hm := mul_bd (x 0) (y 3) (hx 0) (hy 3)
  have h0 := hb 3
  have hS : S x y 0 4 = S x y 0 3 + x 0 * y 3 * p16 3 := rfl
  generalize x 0 * y 3 = p at *
  refine ⟨fun j => ?_, by omega, ?_, fun j hj => ?_⟩
  · have := hb j; split <;> omega
  · rw [hS, ← hv]; simp only [V, p16]; simp; omega
  · have := hz j hj; rw [if_neg (by omega)]; exact this

theorem RInv.fin0 {x y d : Nat → Int} {over : Int} (h : RInv x y 0 4 d over) : DInv x y 1 (fun j => if j = 4 then d 4 + over else d j) := by
  have hb := h.b; have ho := h.o; have hv := h.v; have hz := h.z
  have h0 := hz 4 (by omega)
  have hS : S x y 1 0 = S x y 0 4 := rfl
  refine ⟨fun j => ?_, ?_, fun j hj => ?_⟩
  · have := hb j; split <;> omega
  · rw [hS, ← hv]; simp only [V, p16]; simp; omega
  · have := hz j (by omega); rw [if_neg (by omega)]; exact this

theorem RInv.step10 {x y d : Nat → Int} {over : Int} (h : RInv x y 1 0 d over) (hx : ∀ j, 0 ≤ x j ∧ x j < 65536) (hy : ∀ j, 0 ≤ y j ∧ y j < 65536) : RInv x y 1 1 (fun j => if j = 1 then (d 1 + x 1 * y 0 + over) % 65536 else d j) ((d 1 + x 1 * y 0 + over) / 65536) := by
  have hb := h.b; have ho := h.o; have hv := h.v; have hz := h.z
  have hm := mul_bd (x 1) (y 0) (hx 1) (hy 0)
  have h0 := hb 1
  have hS : S x y 1 1 = S x y 1 0 + x 1 * y 0 * p16 1 := rfl
  generalize x 1 * y 0 = p at *
  refine ⟨fun j => ?_, by omega, ?_, fun j hj => ?_⟩
  · have := hb j; split <;> omega
  · rw [hS, ← hv]; simp only [V, p16]; simp; omega
  · have := hz j hj; rw [if_neg (by omega)]; exact this

theorem RInv.step11 {x y d : Nat → Int} {over : Int} (h : RInv x y 1 1 d over) (hx : ∀ j, 0 ≤ x j ∧ x j < 65536) (hy : ∀ j, 0 ≤ y j ∧ y j < 65536) : RInv x y 1 2 (fun j => if j = 2 then (d 2 + x 1 * y 1 + over) % 65536 else d j) ((d 2 + x 1 * y 1 + over) / 65536) := by
  have hb := h.b; have ho := h.o; have hv := h.v; have hz := h.z
  have hm := mul_bd (x 1) (y 1) (hx 1) (hy 1)
  have h0 := hb 2
  have hS : S x y 1 2 = S x y 1 1 + x 1 * y 1 * p16 2 := rfl
  generalize x 1 * y 1 = p at *
  refine ⟨fun j => ?_, by omega, ?_, fun j hj => ?_⟩
  · have := hb j; split <;> omega
  · rw [hS, ← hv]; simp only [V, p16]; simp; omega
  · have := hz j hj; rw [if_neg (by omega)]; exact this

theorem RInv.step12 {x y d : Nat → Int} {over : Int} (h : RInv x y 1 2 d over) (hx : ∀ j, 0 ≤ x j ∧ x j < 65536) (hy : ∀ j, 0 ≤ y j ∧ y j < 65536) : RInv x y 1 3 (fun j => if j = 3 then (d 3 + x 1 * y 2 + over) % 65536 else d j) ((d 3 + x 1 * y 2 + over) / 65536) := by
  have hb := h.b; have ho := h.o; have hv := h.v; have hz := h.z
  have hm := mul_bd (x 1) (y 2) (hx 1) (hy 2)
  have h0 := hb 3
  have hS : S x y 1 3 = S x y 1 2 + x 1 * y 2 * p16 3 := rfl
  generalize x 1 * y 2 = p at *
  refine ⟨fun j => ?_, by omega, ?_, fun j hj => ?_⟩
  · have := hb j; split <;> omega
  · rw [hS, ← hv]; simp only [V, p16]; simp; omega
  · have := hz j hj; rw [if_neg (by omega)]; exact this

theorem RInv.step13 {x y d : Nat → Int} {over : Int} (h : RInv x y 1 3 d over) (hx : ∀ j, 0 ≤ x j ∧ x j < 65536) (hy : ∀ j, 0 ≤ y j ∧ y j < 65536) : RInv x y 1 4 (fun j => if j = 4 then (d 4 + x 1 * y 3 + over) % 65536 else d j) ((d 4 + x 1 * y 3 + over) / 65536) := by
  have hb := h.b; have ho := h.o; have hv := h.v; have hz := h.z
  have hm := mul_bd (x 1) (y 3) (hx 1) (hy 3)
  have h0 := hb 4
  have hS : S x y 1 4 = S x y 1 3 + x 1 * y 3 * p16 4 := rfl
  generalize x 1 * y 3 = p at *
  refine ⟨fun j => ?_, by omega, ?_, fun j hj => ?_⟩
  · have := hb j; split <;> omega
  · rw [hS, ← hv]; simp only [V, p16]; simp; omega
  · have := hz j hj; rw [if_neg (by omega)]; exact this

theorem RInv.fin1 {x y d : Nat → Int} {over : Int} (h : RInv x y 1 4 d over) : DInv x y 2 (fun j => if j = 5 then d 5 + over else d j) := by
  have hb := h.b; have ho := h.o; have hv := h.v; have hz := h.z
  have h0 := hz 5 (by omega)
  have hS : S x y 2 0 = S x y 1 4 := rfl
  refine ⟨fun j => ?_, ?_, fun j hj => ?_⟩
  · have := hb j; split <;> omega
  · rw [hS, ← hv]; simp only [V, p16]; simp; omega
  · have := hz j (by omega); rw [if_neg (by omega)]; exact this

theorem RInv.step20 {x y d : Nat → Int} {over : Int} (h : RInv x y 2 0 d over) (hx : ∀ j, 0 ≤ x j ∧ x j < 65536) (hy : ∀ j, 0 ≤ y j ∧ y j < 65536) : RInv x y 2 1 (fun j => if j = 2 then (d 2 + x 2 * y 0 + over) % 65536 else d j) ((d 2 + x 2 * y 0 + over) / 65536) := by
  have hb := h.b; have ho := h.o; have hv := h.v; have hz := h.z
  have hm := mul_bd (x 2) (y 0) (hx 2) (hy 0)
  have h0 := hb 2
  have hS : S x y 2 1 = S x y 2 0 + x 2 * y 0 * p16 2 := rfl
  generalize x 2 * y 0 = p at *
  refine ⟨fun j => ?_, by omega, ?_, fun j hj => ?_⟩
  · have := hb j; split <;> omega
  · rw [hS, ← hv]; simp only [V, p16]; simp; omega
  · have := hz j hj; rw [if_neg (by omega)]; exact this

theorem RInv.step21 {x y d : Nat → Int} {over : Int} (h : RInv x y 2 1 d over) (hx : ∀ j, 0 ≤ x j ∧ x j < 65536) (hy : ∀ j, 0 ≤ y j ∧ y j < 65536) : RInv x y 2 2 (fun j => if j = 3 then (d 3 + x 2 * y 1 + over) % 65536 else d j) ((d 3 + x 2 * y 1 + over) / 65536) := by
  have hb := h.b; have ho := h.o; have hv := h.v; have hz := h.z
  have hm := mul_bd (x 2) (y 1) (hx 2) (hy 1)
  have h0 := hb 3
  have hS : S x y 2 2 = S x y 2 1 + x 2 * y 1 * p16 3 := rfl
  generalize x 2 * y 1 = p at *
  refine ⟨fun j => ?_, by omega, ?_, fun j hj => ?_⟩
  · have := hb j; split <;> omega
  · rw [hS, ← hv]; simp only [V, p16]; simp; omega
  · have := hz j hj; rw [if_neg (by omega)]; exact this

theorem RInv.step22 {x y d : Nat → Int} {over : Int} (h : RInv x y 2 2 d over) (hx : ∀ j, 0 ≤ x j ∧ x j < 65536) (hy : ∀ j, 0 ≤ y j ∧ y j < 65536) : RInv x y 2 3 (fun j => if j = 4 then (d 4 + x 2 * y 2 + over) % 65536 else d j) ((d 4 + x 2 * y 2 + over) / 65536) := by
  have hb := h.b; have ho := h.o; have hv := h.v; have hz := h.z
  have hm := mul_bd (x 2) (y 2) (hx 2) (hy 2)
  have h0 := hb 4
  have hS : S x y 2 3 = S x y 2 2 + x 2 * y 2 * p16 4 := rfl
  generalize x 2 * y 2 = p at *
  refine ⟨fun j => ?_, by omega, ?_, fun j hj => ?_⟩
  · have := hb j; split <;> omega
  · rw [hS, ← hv]; simp only [V, p16]; simp; omega
  · have := hz j hj; rw [if_neg (by omega)]; exact this

theorem RInv.step23 {x y d : Nat → Int} {over : Int} (h : RInv x y 2 3 d over) (hx : ∀ j, 0 ≤ x j ∧ x j < 65536) (hy : ∀ j, 0 ≤ y j ∧ y j < 65536) : RInv x y 2 4 (fun j => if j = 5 then (d 5 + x 2 * y 3 + over) % 65536 else d j) ((d 5 + x 2 * y 3 + over) / 65536) := by
  have hb := h.b; have ho := h.o; have hv := h.v; have hz := h.z
  have hm := mul_bd (x 2) (y 3) (hx 2) (hy 3)
  have h0 := hb 5
  have hS : S x y 2 4 = S x y 2 3 + x 2 * y 3 * p16 5 := rfl
  generalize x 2 * y 3 = p at *
  refine ⟨fun j => ?_, by omega, ?_, fun j hj => ?_⟩
  · have := hb j; split <;> omega
  · rw [hS, ← hv]; simp only [V, p16]; simp; omega
  · have := hz j hj; rw [if_neg (by omega)]; exact this

theorem RInv.fin2 {x y d : Nat → Int} {over : Int} (h : RInv x y 2 4 d over) : DInv x y 3 (fun j => if j = 6 then d 6 + over else d j) := by
  have hb := h.b; have ho := h.o; have hv := h.v; have hz := h.z
  have h0 := hz 6 (by omega)
  have hS : S x y 3 0 = S x y 2 4 := rfl
  refine ⟨fun j => ?_, ?_, fun j hj => ?_⟩
  · have := hb j; split <;> omega
  · rw [hS, ← hv]; simp only [V, p16]; simp; omega
  · have := hz j (by omega); rw [if_neg (by omega)]; exact this

theorem RInv.step30 {x y d : Nat → Int} {over : Int} (h : RInv x y 3 0 d over) (hx : ∀ j, 0 ≤ x j ∧ x j < 65536) (hy : ∀ j, 0 ≤ y j ∧ y j < 65536) : RInv x y 3 1 (fun j => if j = 3 then (d 3 + x 3 * y 0 + over) % 65536 else d j) ((d 3 + x 3 * y 0 + over) / 65536) := by
  have hb := h.b; have ho := h.o; have hv := h.v; have hz := h.z
  have hm := mul_bd (x 3) (y 0) (hx 3) (hy 0)
  have h0 := hb 3
  have hS : S x y 3 1 = S x y 3 0 + x 3 * y 0 * p16 3 := rfl
  generalize x 3 * y 0 = p at *
  refine ⟨fun j => ?_, by omega, ?_, fun j hj => ?_⟩
  · have := hb j; split <;> omega
  · rw [hS, ← hv]; simp only [V, p16]; simp; omega
  · have := hz j hj; rw [if_neg (by omega)]; exact this

theorem RInv.step31 {x y d : Nat → Int} {over : Int} (h : RInv x y 3 1 d over) (hx : ∀ j, 0 ≤ x j ∧ x j < 65536) (hy : ∀ j, 0 ≤ y j ∧ y j < 65536) : RInv x y 3 2 (fun j => if j = 4 then (d 4 + x 3 * y 1 + over) % 65536 else d j) ((d 4 + x 3 * y 1 + over) / 65536) := by
  have hb := h.b; have ho := h.o; have hv := h.v; have hz := h.z
  have hm := mul_bd (x 3) (y 1) (hx 3) (hy 1)
  have h0 := hb 4
  have hS : S x y 3 2 = S x y 3 1 + x 3 * y 1 * p16 4 := rfl
  generalize x 3 * y 1 = p at *
  refine ⟨fun j => ?_, by omega, ?_, fun j hj => ?_⟩
  · have := hb j; split <;> omega
  · rw [hS, ← hv]; simp only [V, p16]; simp; omega
  · have := hz j hj; rw [if_neg (by omega)]; exact this

theorem RInv.step32 {x y d : Nat → Int} {over : Int} (h : RInv x y 3 2 d over) (hx : ∀ j, 0 ≤ x j ∧ x j < 65536) (hy : ∀ j, 0 ≤ y j ∧ y j < 65536) : RInv x y 3 3 (fun j => if j = 5 then (d 5 + x 3 * y 2 + over) % 65536 else d j) ((d 5 + x 3 * y 2 + over) / 65536) := by
  have hb := h.b; have ho := h.o; have hv := h.v; have hz := h.z
  have hm := mul_bd (x 3) (y 2) (hx 3) (hy 2)
  have h0 := hb 5
  have hS : S x y 3 3 = S x y 3 2 + x 3 * y 2 * p16 5 := rfl
  generalize x 3 * y 2 = p at *
  refine ⟨fun j => ?_, by omega, ?_, fun j hj => ?_⟩
  · have := hb j; split <;> omega
  · rw [hS, ← hv]; simp only [V, p16]; simp; omega
  · have := hz j hj; rw [if_neg (by omega)]; exact this

theorem RInv.step33 {x y d : Nat → Int} {over : Int} (h : RInv x y 3 3 d over) (hx : ∀ j, 0 ≤ x j ∧ x j < 65536) (hy : ∀ j, 0 ≤ y j ∧ y j < 65536) : RInv x y 3 4 (fun j => if j = 6 then (d 6 + x 3 * y 3 + over) % 65536 else d j) ((d 6 + x 3 * y 3 + over) / 65536) := by
  have hb := h.b; have ho := h.o; have hv := h.v; have hz := h.z
  have hm := mul_bd (x 3) (y 3) (hx 3) (hy 3)
  have h0 := hb 6
  have hS : S x y 3 4 = S x y 3 3 + x 3 * y 3 * p16 6 := rfl
  generalize x 3 * y 3 = p at *
  refine ⟨fun j => ?_, by omega, ?_, fun j hj => ?_⟩
  · have := hb j; split <;> omega
  · rw [hS, ← hv]; simp only [V, p16]; simp; omega
  · have := hz j hj; rw [if_neg (by omega)]; exact this

theorem RInv.fin3 {x y d : Nat → Int} {over : Int} (h : RInv x y 3 4 d over) : DInv x y 4 (fun j => if j = 7 then d 7 + over else d j) := by
  have hb := h.b; have ho := h.o; have hv := h.v; have hz := h.z
  have h0 := hz 7 (by omega)
  have hS : S x y 4 0 = S x y 3 4 := rfl
  refine ⟨fun j => ?_, ?_, fun j hj => ?_⟩
  · have := hb j; split <;> omega
  · rw [hS, ← hv]; simp only [V, p16]; simp; omega
  · have := hz j (by omega); rw [if_neg (by omega)]; exact this

theorem DInv.fin {x y d : Nat → Int} (h : DInv x y 4 d) (X Y : Int) (hX : x 0 + x 1 * 65536 + x 2 * 4294967296 + x 3 * 281474976710656 = X) (hY : y 0 + y 1 * 65536 + y 2 * 4294967296 + y 3 * 281474976710656 = Y) (lX : 0 ≤ X) (uX : X < 18446744073709551616) (lY : 0 ≤ Y) (uY : Y < 18446744073709551616) :
    d 0 + d 1 * 65536 + d 2 * 4294967296 + d 3 * 281474976710656 = X * Y % 18446744073709551616 ∧ d 4 + d 5 * 65536 + d 6 * 4294967296 + d 7 * 281474976710656 = X * Y / 18446744073709551616 := by
  have hb := h.b; have hv := h.v; have hz := h.z 8 (by omega)
  have e : S x y 4 0 = X * Y := by
    have r : ∀ c : Int, c * (y 0 + y 1 * 65536 + y 2 * 4294967296 + y 3 * 281474976710656) = c * y 0 + c * y 1 * 65536 + c * y 2 * 4294967296 + c * y 3 * 281474976710656 := fun c => by
      simp only [Int.mul_add, ← Int.mul_assoc]
    have q : ∀ Z : Int, (x 0 + x 1 * 65536 + x 2 * 4294967296 + x 3 * 281474976710656) * Z = x 0 * Z + x 1 * Z * 65536 + x 2 * Z * 4294967296 + x 3 * Z * 281474976710656 := fun Z => by
      rw [Int.add_mul, Int.add_mul, Int.add_mul, Int.mul_right_comm (x 1), Int.mul_right_comm (x 2), Int.mul_right_comm (x 3)]
    rw [← hX, ← hY, q, r, r, r, r]
    have u : S x y 4 0 = 0 + x 0 * y 0 * 1 + x 0 * y 1 * 65536 + x 0 * y 2 * 4294967296 + x 0 * y 3 * 281474976710656 + x 1 * y 0 * 65536 + x 1 * y 1 * 4294967296 + x 1 * y 2 * 281474976710656 + x 1 * y 3 * 18446744073709551616 + x 2 * y 0 * 4294967296 + x 2 * y 1 * 281474976710656 + x 2 * y 2 * 18446744073709551616 + x 2 * y 3 * 1208925819614629174706176 + x 3 * y 0 * 281474976710656 + x 3 * y 1 * 18446744073709551616 + x 3 * y 2 * 1208925819614629174706176 + x 3 * y 3 * 79228162514264337593543950336 := rfl
    rw [u]
    generalize x 0 * y 0 = p00; generalize x 0 * y 1 = p01; generalize x 0 * y 2 = p02; generalize x 0 * y 3 = p03
    generalize x 1 * y 0 = p10; generalize x 1 * y 1 = p11; generalize x 1 * y 2 = p12; generalize x 1 * y 3 = p13
    generalize x 2 * y 0 = p20; generalize x 2 * y 1 = p21; generalize x 2 * y 2 = p22; generalize x 2 * y 3 = p23
    generalize x 3 * y 0 = p30; generalize x 3 * y 1 = p31; generalize x 3 * y 2 = p32; generalize x 3 * y 3 = p33
    omega
  rw [e] at hv
  generalize X * Y = z at *
  have h0 := hb 0; have h1 := hb 1; have h2 := hb 2; have h3 := hb 3; have h4 := hb 4; have h5 := hb 5; have h6 := hb 6; have h7 := hb 7
  simp only [V] at hv
  constructor <;> omega

end Go.Proofs.Ytehpliclknfmoaa.Times
