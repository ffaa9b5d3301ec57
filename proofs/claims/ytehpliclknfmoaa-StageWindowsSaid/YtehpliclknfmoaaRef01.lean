/- The reference's answers for ticks (chapter 01) but for texts: each function's contract. Conditions: the numbers are of their kinds. -/
import Derived.Test.YtehpliclknfmoaaTick
import Derived.BigRegion
namespace Go.Proofs.Ytehpliclknfmoaa.Ref01
open Go.RowKit Tick
set_option maxRecDepth 100000
set_option linter.unusedVariables false
set_option linter.unusedSimpArgs false

theorem top_any (w : World) : Calls Try.prog 39 #[] w fun e w' => e = .returned (.int .i64 1099511627776) ∧ w = w' := by
  go_enter Try.func39, Try.ntmps39
  go_wp2
  go_ret
  exact ⟨rfl, rfl⟩

theorem near_any (n : Int) (w : World) :
    Calls Try.prog 20 #[.int .i64 n] w fun e w' => e = .returned (.int .i64 (nr n)) ∧ w = w' := by
  by_cases h1 : n < 0
  · have e := Lib.hid (nr_low h1)
    go_enter Try.func20, Try.ntmps20
    go_wp2
    go_ret
    exact ⟨by rw [e.out]; rfl, rfl⟩
  · by_cases h2 : 1099511627776 < n
    · have e := Lib.hid (nr_top h2)
      go_enter Try.func20, Try.ntmps20
      go_wp2_with (go_at_call 39; (with_reducible refine (top_any _).mono ?_); rintro e w' ⟨rfl, rfl⟩)
      go_ret
      exact ⟨by rw [e.out]; rfl, rfl⟩
    · have h3 : 0 ≤ n := by omega
      have h4 : n ≤ 1099511627776 := by omega
      have e := Lib.hid (nr_in h3 h4)
      clear h1 h2
      go_enter Try.func20, Try.ntmps20
      go_wp2_with (go_at_call 39; (with_reducible refine (top_any _).mono ?_); rintro e w' ⟨rfl, rfl⟩)
      go_ret
      exact ⟨by rw [e.out]; rfl, rfl⟩

theorem add_any (a b : Int) (w : World) :
    Calls Try.prog 10 #[.int .i64 a, .int .i64 b] w fun e w' => e = .returned (.int .i64 (add a b)) ∧ w = w' := by
  have h1 := nr_bd a
  have h2 := nr_bd b
  go_enter Try.func10, Try.ntmps10
  go_wp2_with (go_at_call 20; (with_reducible refine (near_any _ _).mono ?_); rintro e w' ⟨rfl, rfl⟩)
  go_ret
  exact ⟨rfl, rfl⟩

def dig (n : Int) : Nat → Int
  | 0 => n % 1048576
  | 1 => n / 1048576 % 1048576
  | 2 => n / 1099511627776
  | _ => 0
theorem dig_bd (n : Int) (h0 : 0 ≤ n) (h1 : n ≤ 1099511627776) (j : Nat) : 0 ≤ dig n j ∧ dig n j ≤ 1048575 := by
  unfold dig; split <;> omega
theorem dig_sum (n : Int) (h0 : 0 ≤ n) (h1 : n ≤ 1099511627776) : dig n 0 + dig n 1 * 1048576 + dig n 2 * 1099511627776 = n := by
  simp only [dig]; omega

theorem of_any (n : Int) (w : World) (h0 : 0 ≤ n) (h1 : n ≤ 1099511627776) :
    Calls Try.prog 54 #[.int .i64 n] w fun e w' => e = .returned (.agg #[.int .i64 (dig n 0), .int .i64 (dig n 1), .int .i64 (dig n 2), .int .i64 (dig n 3)]) ∧ Below w.heap.size w w' := by
  go_enter Try.func54, Try.ntmps54
  go_wp2
  refine bodyPost_ret (v := .agg #[.int .i64 (n % 1048576), .int .i64 (n / 1048576 % 1048576), .int .i64 (n / 1099511627776), .int .i64 0]) (by simp [results, Try.results54, go_sem]) rfl ⟨rfl, (Below.refl _ _).alloc (Nat.le_refl _) _⟩

/-- the sums of the digits' products behind n steps. -/
def O (x y : Nat → Int) : Nat → Nat → Int
  | 0, _ => 0
  | n + 1, j => if j = n / 3 + n % 3 then O x y n j + x (n / 3) * y (n % 3) else O x y n j
/-- .. and carried n times. -/
def C (x y : Nat → Int) : Nat → Nat → Int
  | 0, j => O x y 9 j
  | n + 1, j => if j = n then C x y n n % 1048576 else if j = n + 1 then C x y n (n + 1) + C x y n n / 1048576 else C x y n j
theorem mul_bd {x y : Int} (a : 0 ≤ x ∧ x ≤ 1048575) (b : 0 ≤ y ∧ y ≤ 1048575) : 0 ≤ x * y ∧ x * y ≤ 1099509530625 := by
  refine ⟨Int.mul_nonneg a.1 b.1, ?_⟩
  have : x * y ≤ 1048575 * 1048575 := Int.mul_le_mul a.2 b.2 b.1 (by decide)
  omega
theorem O_bd (x y : Nat → Int) (hx : ∀ j, 0 ≤ x j ∧ x j ≤ 1048575) (hy : ∀ j, 0 ≤ y j ∧ y j ≤ 1048575) : ∀ n j, 0 ≤ O x y n j ∧ O x y n j ≤ (n : Int) * 1099509530625
  | 0, _ => by simp [O]
  | n + 1, j => by
    have ih := O_bd x y hx hy n j
    have hm := mul_bd (hx (n / 3)) (hy (n % 3))
    unfold O
    split <;> omega
theorem O_bd9 (x y : Nat → Int) (hx : ∀ j, 0 ≤ x j ∧ x j ≤ 1048575) (hy : ∀ j, 0 ≤ y j ∧ y j ≤ 1048575) (n j : Nat) (h : n ≤ 9) : 0 ≤ O x y n j ∧ O x y n j ≤ 9895585775625 := by
  have := O_bd x y hx hy n j
  omega
theorem C_bd (x y : Nat → Int) (hx : ∀ j, 0 ≤ x j ∧ x j ≤ 1048575) (hy : ∀ j, 0 ≤ y j ∧ y j ≤ 1048575) : ∀ n, n ≤ 5 → ∀ j, 0 ≤ C x y n j ∧ C x y n j ≤ 9895585775625 + (n : Int) * 10000000
  | 0, _, j => by have := O_bd9 x y hx hy 9 j (by omega); unfold C; omega
  | n + 1, hn, j => by
    have ih := C_bd x y hx hy n (by omega)
    have h1 := ih j
    have h2 := ih n
    have h3 := ih (n + 1)
    unfold C
    split
    · omega
    · split
      · omega
      · omega
theorem C_bd5 (x y : Nat → Int) (hx : ∀ j, 0 ≤ x j ∧ x j ≤ 1048575) (hy : ∀ j, 0 ≤ y j ∧ y j ≤ 1048575) (n j : Nat) (hn : n ≤ 5) : 0 ≤ C x y n j ∧ C x y n j ≤ 9895635775625 := by
  have := C_bd x y hx hy n hn j
  omega
def V6 (d : Nat → Int) : Int := d 0 + d 1 * 1048576 + d 2 * 1099511627776 + d 3 * 1152921504606846976 + d 4 * 1208925819614629174706176 + d 5 * 1267650600228229401496703205376
theorem V_carry (x y : Nat → Int) : V6 (C x y 5) = V6 (O x y 9) := by
  have s1 : V6 (C x y 1) = V6 (C x y 0) := by
    have h : V6 (C x y 1) = (C x y 0 0 % 1048576) + (C x y 0 1 + C x y 0 0 / 1048576) * 1048576 + C x y 0 2 * 1099511627776 + C x y 0 3 * 1152921504606846976 + C x y 0 4 * 1208925819614629174706176 + C x y 0 5 * 1267650600228229401496703205376 := rfl
    rw [h]; unfold V6; omega
  have s2 : V6 (C x y 2) = V6 (C x y 1) := by
    have h : V6 (C x y 2) = C x y 1 0 + (C x y 1 1 % 1048576) * 1048576 + (C x y 1 2 + C x y 1 1 / 1048576) * 1099511627776 + C x y 1 3 * 1152921504606846976 + C x y 1 4 * 1208925819614629174706176 + C x y 1 5 * 1267650600228229401496703205376 := rfl
    rw [h]; unfold V6; omega
  have s3 : V6 (C x y 3) = V6 (C x y 2) := by
    have h : V6 (C x y 3) = C x y 2 0 + C x y 2 1 * 1048576 + (C x y 2 2 % 1048576) * 1099511627776 + (C x y 2 3 + C x y 2 2 / 1048576) * 1152921504606846976 + C x y 2 4 * 1208925819614629174706176 + C x y 2 5 * 1267650600228229401496703205376 := rfl
    rw [h]; unfold V6; omega
  have s4 : V6 (C x y 4) = V6 (C x y 3) := by
    have h : V6 (C x y 4) = C x y 3 0 + C x y 3 1 * 1048576 + C x y 3 2 * 1099511627776 + (C x y 3 3 % 1048576) * 1152921504606846976 + (C x y 3 4 + C x y 3 3 / 1048576) * 1208925819614629174706176 + C x y 3 5 * 1267650600228229401496703205376 := rfl
    rw [h]; unfold V6; omega
  have s5 : V6 (C x y 5) = V6 (C x y 4) := by
    have h : V6 (C x y 5) = C x y 4 0 + C x y 4 1 * 1048576 + C x y 4 2 * 1099511627776 + C x y 4 3 * 1152921504606846976 + (C x y 4 4 % 1048576) * 1208925819614629174706176 + (C x y 4 5 + C x y 4 4 / 1048576) * 1267650600228229401496703205376 := rfl
    rw [h]; unfold V6; omega
  have s0 : V6 (C x y 0) = V6 (O x y 9) := rfl
  rw [s5, s4, s3, s2, s1, s0]
theorem V_prod (x y : Nat → Int) (X Y : Int) (hX : x 0 + x 1 * 1048576 + x 2 * 1099511627776 = X) (hY : y 0 + y 1 * 1048576 + y 2 * 1099511627776 = Y) : V6 (O x y 9) = X * Y := by
  have r : ∀ c : Int, c * (y 0 + y 1 * 1048576 + y 2 * 1099511627776) = c * y 0 + c * y 1 * 1048576 + c * y 2 * 1099511627776 := fun c => by
    simp only [Int.mul_add, ← Int.mul_assoc]
  have q : ∀ Z : Int, (x 0 + x 1 * 1048576 + x 2 * 1099511627776) * Z = x 0 * Z + x 1 * Z * 1048576 + x 2 * Z * 1099511627776 := fun Z => by
    rw [Int.add_mul, Int.add_mul, Int.mul_right_comm (x 1), Int.mul_right_comm (x 2)]
  rw [← hX, ← hY, q, r, r, r]
  have e0 : O x y 9 0 = 0 + x 0 * y 0 := rfl
  have e1 : O x y 9 1 = 0 + x 0 * y 1 + x 1 * y 0 := rfl
  have e2 : O x y 9 2 = 0 + x 0 * y 2 + x 1 * y 1 + x 2 * y 0 := rfl
  have e3 : O x y 9 3 = 0 + x 1 * y 2 + x 2 * y 1 := rfl
  have e4 : O x y 9 4 = 0 + x 2 * y 2 := rfl
  have e5 : O x y 9 5 = 0 := rfl
  simp only [V6, e0, e1, e2, e3, e4, e5]
  generalize x 0 * y 0 = p00; generalize x 0 * y 1 = p01; generalize x 0 * y 2 = p02
  generalize x 1 * y 0 = p10; generalize x 1 * y 1 = p11; generalize x 1 * y 2 = p12
  generalize x 2 * y 0 = p20; generalize x 2 * y 1 = p21; generalize x 2 * y 2 = p22
  omega

set_option maxHeartbeats 1000000 in
theorem times_any (x y : Nat → Int) (w : World) (hx : ∀ j, 0 ≤ x j ∧ x j ≤ 1048575) (hy : ∀ j, 0 ≤ y j ∧ y j ≤ 1048575) :
    Calls Try.prog 53 #[.agg #[.int .i64 (x 0), .int .i64 (x 1), .int .i64 (x 2), .int .i64 (x 3)], .agg #[.int .i64 (y 0), .int .i64 (y 1), .int .i64 (y 2), .int .i64 (y 3)]] w fun e w' => e = .returned (.agg #[.int .i64 (C x y 5 0), .int .i64 (C x y 5 1), .int .i64 (C x y 5 2), .int .i64 (C x y 5 3), .int .i64 (C x y 5 4), .int .i64 (C x y 5 5)]) ∧ Below w.heap.size w w' := by
  have hO := O_bd9 x y hx hy
  have hC := C_bd5 x y hx hy
  go_enter Try.func53, Try.ntmps53
  go_wp2
  obtain ⟨W3, hW3⟩ : ∃ W, (((w.alloc (.cells #[.int .i64 (x 0), .int .i64 (x 1), .int .i64 (x 2), .int .i64 (x 3)] 92)).alloc (.cells #[.int .i64 (y 0), .int .i64 (y 1), .int .i64 (y 2), .int .i64 (y 3)] 92)).alloc (.cells #[.int .i64 0, .int .i64 0, .int .i64 0, .int .i64 0, .int .i64 0, .int .i64 0] 89)) = W := ⟨_, rfl⟩
  have hB3 : Below w.heap.size w W3 := by rw [← hW3]; exact (((Below.refl _ _).alloc (Nat.le_refl _) _).alloc (by simp) _).alloc (by simp; omega) _
  have hs3 : w.heap.size + 1 + 1 + 1 = W3.heap.size := by rw [← hW3]; simp
  have hx0 : W3.cell? ⟨w.heap.size, 0, none⟩ = some (.int .i64 (x 0)) := by rw [← hW3]; simp [go_sem]
  have hx1 : W3.cell? ⟨w.heap.size, 1, none⟩ = some (.int .i64 (x 1)) := by rw [← hW3]; simp [go_sem]
  have hx2 : W3.cell? ⟨w.heap.size, 2, none⟩ = some (.int .i64 (x 2)) := by rw [← hW3]; simp [go_sem]
  have hx3 : W3.cell? ⟨w.heap.size, 3, none⟩ = some (.int .i64 (x 3)) := by rw [← hW3]; simp [go_sem]
  have hy0 : W3.cell? ⟨w.heap.size + 1, 0, none⟩ = some (.int .i64 (y 0)) := by rw [← hW3]; simp [go_sem]
  have hy1 : W3.cell? ⟨w.heap.size + 1, 1, none⟩ = some (.int .i64 (y 1)) := by rw [← hW3]; simp [go_sem]
  have hy2 : W3.cell? ⟨w.heap.size + 1, 2, none⟩ = some (.int .i64 (y 2)) := by rw [← hW3]; simp [go_sem]
  have hy3 : W3.cell? ⟨w.heap.size + 1, 3, none⟩ = some (.int .i64 (y 3)) := by rw [← hW3]; simp [go_sem]
  rw [hs3, hW3]
  have hl1 : w.heap.size < W3.heap.size := by omega
  have hl2 : w.heap.size + 1 < W3.heap.size := by omega
  have hl3 : w.heap.size + 1 + 1 < W3.heap.size := by omega
  have H3 := Lib.hid hW3
  have Hs3 := Lib.hid hs3
  clear hW3 hs3
  go_loopw [6, 7] (fun i _ wr => ∃ (i' : Nat) (nd : Nat), i = .int .i64 i' ∧ i' ≤ 3 ∧ wr = ((W3.alloc (.cells #[.int .i64 (O x y (3 * i') 0), .int .i64 (O x y (3 * i') 1), .int .i64 (O x y (3 * i') 2), .int .i64 (O x y (3 * i') 3), .int .i64 (O x y (3 * i') 4), .int .i64 (O x y (3 * i') 5)] 89)).drewN nd)) (fun i _ _ => 3 - (intOf i).toNat)
  case atStart => exact ⟨0, 0, rfl, by omega, rfl⟩
  case round =>
    obtain ⟨i, nd, rfl, hi, rfl⟩ := hrel
    by_cases hlt : i < 3
    · have hc : i = 0 ∨ i = 1 ∨ i = 2 := by omega
      clear hi hlt
      rcases hc with rfl | rfl | rfl
      · go_wp2
        go_loopw [7] (fun k wr => ∃ (k' : Nat) (nd : Nat), k = .int .i64 k' ∧ k' ≤ 3 ∧ wr = ((W3.alloc (.cells #[.int .i64 (O x y (0 + k') 0), .int .i64 (O x y (0 + k') 1), .int .i64 (O x y (0 + k') 2), .int .i64 (O x y (0 + k') 3), .int .i64 (O x y (0 + k') 4), .int .i64 (O x y (0 + k') 5)] 89)).drewN nd)) (fun k _ => 3 - (intOf k).toNat)
        case atStart => exact ⟨0, nd, rfl, by omega, rfl⟩
        case round =>
          clear nd
          obtain ⟨k, nd, rfl, hk, rfl⟩ := hrel
          by_cases hlt : k < 3
          · have hc : k = 0 ∨ k = 1 ∨ k = 2 := by omega
            clear hk hlt
            rcases hc with rfl | rfl | rfl
            · have hm := mul_bd (hx 0) (hy 0)
              have hb := hO 0 0 (by omega)
              go_wp2
              go_region
              go_wp2
              go_roundw
              case rel => exact ⟨1, _, rfl, by omega, by rw [Cls.set_own]; rfl⟩
              case measure => simp [intOf]
            · have hm := mul_bd (hx 0) (hy 1)
              have hb := hO 1 1 (by omega)
              go_wp2
              go_region
              go_wp2
              go_roundw
              case rel => exact ⟨2, _, rfl, by omega, by rw [Cls.set_own]; rfl⟩
              case measure => simp [intOf]
            · have hm := mul_bd (hx 0) (hy 2)
              have hb := hO 2 2 (by omega)
              go_wp2
              go_region
              go_wp2
              go_roundw
              case rel => exact ⟨3, _, rfl, by omega, by rw [Cls.set_own]; rfl⟩
              case measure => simp [intOf]
          · obtain rfl : k = 3 := by omega
            go_wp2
            go_roundw
            case rel => exact ⟨1, _, rfl, by omega, rfl⟩
            case measure => simp [intOf]
      · go_wp2
        go_loopw [7] (fun k wr => ∃ (k' : Nat) (nd : Nat), k = .int .i64 k' ∧ k' ≤ 3 ∧ wr = ((W3.alloc (.cells #[.int .i64 (O x y (3 + k') 0), .int .i64 (O x y (3 + k') 1), .int .i64 (O x y (3 + k') 2), .int .i64 (O x y (3 + k') 3), .int .i64 (O x y (3 + k') 4), .int .i64 (O x y (3 + k') 5)] 89)).drewN nd)) (fun k _ => 3 - (intOf k).toNat)
        case atStart => exact ⟨0, nd, rfl, by omega, rfl⟩
        case round =>
          clear nd
          obtain ⟨k, nd, rfl, hk, rfl⟩ := hrel
          by_cases hlt : k < 3
          · have hc : k = 0 ∨ k = 1 ∨ k = 2 := by omega
            clear hk hlt
            rcases hc with rfl | rfl | rfl
            · have hm := mul_bd (hx 1) (hy 0)
              have hb := hO 3 1 (by omega)
              go_wp2
              go_region
              go_wp2
              go_roundw
              case rel => exact ⟨1, _, rfl, by omega, by rw [Cls.set_own]; rfl⟩
              case measure => simp [intOf]
            · have hm := mul_bd (hx 1) (hy 1)
              have hb := hO 4 2 (by omega)
              go_wp2
              go_region
              go_wp2
              go_roundw
              case rel => exact ⟨2, _, rfl, by omega, by rw [Cls.set_own]; rfl⟩
              case measure => simp [intOf]
            · have hm := mul_bd (hx 1) (hy 2)
              have hb := hO 5 3 (by omega)
              go_wp2
              go_region
              go_wp2
              go_roundw
              case rel => exact ⟨3, _, rfl, by omega, by rw [Cls.set_own]; rfl⟩
              case measure => simp [intOf]
          · obtain rfl : k = 3 := by omega
            go_wp2
            go_roundw
            case rel => exact ⟨2, _, rfl, by omega, rfl⟩
            case measure => simp [intOf]
      · go_wp2
        go_loopw [7] (fun k wr => ∃ (k' : Nat) (nd : Nat), k = .int .i64 k' ∧ k' ≤ 3 ∧ wr = ((W3.alloc (.cells #[.int .i64 (O x y (6 + k') 0), .int .i64 (O x y (6 + k') 1), .int .i64 (O x y (6 + k') 2), .int .i64 (O x y (6 + k') 3), .int .i64 (O x y (6 + k') 4), .int .i64 (O x y (6 + k') 5)] 89)).drewN nd)) (fun k _ => 3 - (intOf k).toNat)
        case atStart => exact ⟨0, nd, rfl, by omega, rfl⟩
        case round =>
          clear nd
          obtain ⟨k, nd, rfl, hk, rfl⟩ := hrel
          by_cases hlt : k < 3
          · have hc : k = 0 ∨ k = 1 ∨ k = 2 := by omega
            clear hk hlt
            rcases hc with rfl | rfl | rfl
            · have hm := mul_bd (hx 2) (hy 0)
              have hb := hO 6 2 (by omega)
              go_wp2
              go_region
              go_wp2
              go_roundw
              case rel => exact ⟨1, _, rfl, by omega, by rw [Cls.set_own]; rfl⟩
              case measure => simp [intOf]
            · have hm := mul_bd (hx 2) (hy 1)
              have hb := hO 7 3 (by omega)
              go_wp2
              go_region
              go_wp2
              go_roundw
              case rel => exact ⟨2, _, rfl, by omega, by rw [Cls.set_own]; rfl⟩
              case measure => simp [intOf]
            · have hm := mul_bd (hx 2) (hy 2)
              have hb := hO 8 4 (by omega)
              go_wp2
              go_region
              go_wp2
              go_roundw
              case rel => exact ⟨3, _, rfl, by omega, by rw [Cls.set_own]; rfl⟩
              case measure => simp [intOf]
          · obtain rfl : k = 3 := by omega
            go_wp2
            go_roundw
            case rel => exact ⟨3, _, rfl, by omega, rfl⟩
            case measure => simp [intOf]
    · obtain rfl : i = 3 := by omega
      clear hi hlt
      go_wp2
      go_loopw [8] (fun i wr => ∃ (i' : Nat) (nd : Nat), i = .int .i64 i' ∧ i' ≤ 5 ∧ wr = ((W3.alloc (.cells #[.int .i64 (C x y i' 0), .int .i64 (C x y i' 1), .int .i64 (C x y i' 2), .int .i64 (C x y i' 3), .int .i64 (C x y i' 4), .int .i64 (C x y i' 5)] 89)).drewN nd)) (fun i _ => 5 - (intOf i).toNat)
      case atStart => exact ⟨0, nd, rfl, by omega, rfl⟩
      case round =>
        clear nd
        obtain ⟨i, nd, rfl, hi, rfl⟩ := hrel
        by_cases hlt : i < 5
        · have hc : i = 0 ∨ i = 1 ∨ i = 2 ∨ i = 3 ∨ i = 4 := by omega
          clear hi hlt
          rcases hc with rfl | rfl | rfl | rfl | rfl
          · have hb0 := hC 0 0 (by omega)
            have hb1 := hC 0 1 (by omega)
            go_wp2
            go_region
            rw [Cls.set_own]
            simp only [List.setIfInBounds_toArray, List.set_cons_zero, List.set_cons_succ]
            go_wp2
            go_roundw
            case rel => exact ⟨1, _, rfl, by omega, by rw [Cls.set_own]; rfl⟩
            case measure => simp [intOf]
          · have hb0 := hC 1 1 (by omega)
            have hb1 := hC 1 2 (by omega)
            go_wp2
            go_region
            rw [Cls.set_own]
            simp only [List.setIfInBounds_toArray, List.set_cons_zero, List.set_cons_succ]
            go_wp2
            go_roundw
            case rel => exact ⟨2, _, rfl, by omega, by rw [Cls.set_own]; rfl⟩
            case measure => simp [intOf]
          · have hb0 := hC 2 2 (by omega)
            have hb1 := hC 2 3 (by omega)
            go_wp2
            go_region
            rw [Cls.set_own]
            simp only [List.setIfInBounds_toArray, List.set_cons_zero, List.set_cons_succ]
            go_wp2
            go_roundw
            case rel => exact ⟨3, _, rfl, by omega, by rw [Cls.set_own]; rfl⟩
            case measure => simp [intOf]
          · have hb0 := hC 3 3 (by omega)
            have hb1 := hC 3 4 (by omega)
            go_wp2
            go_region
            rw [Cls.set_own]
            simp only [List.setIfInBounds_toArray, List.set_cons_zero, List.set_cons_succ]
            go_wp2
            go_roundw
            case rel => exact ⟨4, _, rfl, by omega, by rw [Cls.set_own]; rfl⟩
            case measure => simp [intOf]
          · have hb0 := hC 4 4 (by omega)
            have hb1 := hC 4 5 (by omega)
            go_wp2
            go_region
            rw [Cls.set_own]
            simp only [List.setIfInBounds_toArray, List.set_cons_zero, List.set_cons_succ]
            go_wp2
            go_roundw
            case rel => exact ⟨5, _, rfl, by omega, by rw [Cls.set_own]; rfl⟩
            case measure => simp [intOf]
        · obtain rfl : i = 5 := by omega
          have hW3 := H3.out
          have hs3 := Hs3.out
          rw [← hs3]
          rw [← hW3]
          clear hW3 H3 hx0 hx1 hx2 hx3 hy0 hy1 hy2 hy3 hi hlt hs3 Hs3
          go_wp2
          refine bodyPost_ret (v := .agg #[.int .i64 (C x y 5 0), .int .i64 (C x y 5 1), .int .i64 (C x y 5 2), .int .i64 (C x y 5 3), .int .i64 (C x y 5 4), .int .i64 (C x y 5 5)]) (by simp [results, Try.results53, go_sem]) rfl ⟨rfl, ?_⟩
          exact (((((((Cls.below_drewN' (((((Below.refl _ _).alloc (Nat.le_refl _) _).alloc (by simp) _).alloc (by simp; omega) _).alloc (by simp; omega) _) nd).setCell (p := ⟨w.heap.size + 1 + 1, 0, none⟩) (by show w.heap.size ≤ w.heap.size + 1 + 1; omega) _).setCell (p := ⟨w.heap.size + 1 + 1, 1, none⟩) (by show w.heap.size ≤ w.heap.size + 1 + 1; omega) _).setCell (p := ⟨w.heap.size + 1 + 1, 2, none⟩) (by show w.heap.size ≤ w.heap.size + 1 + 1; omega) _).setCell (p := ⟨w.heap.size + 1 + 1, 3, none⟩) (by show w.heap.size ≤ w.heap.size + 1 + 1; omega) _).setCell (p := ⟨w.heap.size + 1 + 1, 4, none⟩) (by show w.heap.size ≤ w.heap.size + 1 + 1; omega) _).setCell (p := ⟨w.heap.size + 1 + 1, 5, none⟩) (by show w.heap.size ≤ w.heap.size + 1 + 1; omega) _)


/-- the digits from i on, as one number. -/
def H (d : Nat → Int) : Nat → Int
  | 0 => 0
  | n + 1 => H d n * 1048576 + d (5 - n)
theorem H_nonneg (d : Nat → Int) (hd : ∀ j, 0 ≤ d j ∧ d j ≤ 9895635775625) : ∀ n, 0 ≤ H d n
  | 0 => by simp [H]
  | n + 1 => by have := H_nonneg d hd n; have := hd (5 - n); unfold H; omega
theorem H_mono (d : Nat → Int) (hd : ∀ j, 0 ≤ d j ∧ d j ≤ 9895635775625) (n : Nat) : H d n ≤ H d (n + 1) := by
  have := H_nonneg d hd n; have := hd (5 - n); rw [H]; omega
theorem H_le (d : Nat → Int) (hd : ∀ j, 0 ≤ d j ∧ d j ≤ 9895635775625) (n : Nat) : ∀ k, H d n ≤ H d (n + k)
  | 0 => Int.le_refl _
  | k + 1 => Int.le_trans (H_le d hd n k) (H_mono d hd (n + k))
theorem div_step (X b e : Int) (hb : 0 < b) (he : 0 ≤ e) (hX : 0 ≤ X) : X / b * 1048576 + (X % b * 1048576 + e) / b = (X * 1048576 + e) / b ∧ (X % b * 1048576 + e) % b = (X * 1048576 + e) % b := by
  have h : X * 1048576 + e = X % b * 1048576 + e + b * (X / b * 1048576) := by
    have := Int.emod_add_mul_ediv X b
    have h2 : b * (X / b * 1048576) = b * (X / b) * 1048576 := by rw [Int.mul_assoc]
    rw [h2]
    generalize b * (X / b) = q at *
    omega
  rw [h, Int.add_mul_ediv_left _ _ (by omega), Int.add_mul_emod_self_left]
  exact ⟨by omega, rfl⟩
def thr (d : Nat → Int) (b : Int) : Int := if b = 0 then 1099511627776 else if 1099511627776 < H d 6 / b then 1099511627776 else H d 6 / b

set_option maxHeartbeats 1000000 in
theorem through_zero (d : Nat → Int) (w : World) :
    Calls Try.prog 52 #[.agg #[.int .i64 (d 0), .int .i64 (d 1), .int .i64 (d 2), .int .i64 (d 3), .int .i64 (d 4), .int .i64 (d 5)], .int .i64 0] w fun e w' => e = .returned (.int .i64 (thr d 0)) ∧ Below w.heap.size w w' := by
  go_enter Try.func52, Try.ntmps52
  go_wp2_with (go_at_call 39; (with_reducible refine (top_any _).mono ?_); rintro e w' ⟨rfl, rfl⟩)
  go_ret
  exact ⟨rfl, (Below.refl _ _).alloc (Nat.le_refl _) _⟩

theorem thr_early (d : Nat → Int) (hd : ∀ j, 0 ≤ d j ∧ d j ≤ 9895635775625) (b : Int) (hb : 0 < b) (n : Nat) (hn : n ≤ 6) (h : 1099511627776 < H d n / b) : thr d b = 1099511627776 := by
  unfold thr
  rw [if_neg (by omega)]
  by_cases h2 : 1099511627776 < H d 6 / b
  · rw [if_pos h2]
  · exfalso
    have h3 := H_le d hd n (6 - n)
    rw [show n + (6 - n) = 6 by omega] at h3
    have := Int.ediv_le_ediv hb h3
    omega
theorem thr_end (d : Nat → Int) (b : Int) (hb : 0 < b) (h : H d 6 / b ≤ 1099511627776) : thr d b = H d 6 / b := by
  unfold thr
  rw [if_neg (by omega), if_neg (by omega)]

set_option maxHeartbeats 2000000 in
theorem through_some (d : Nat → Int) (b : Int) (w : World) (hd : ∀ j, 0 ≤ d j ∧ d j ≤ 9895635775625) (hb : 1 ≤ b) (hb2 : b ≤ 1099511627776) :
    Calls Try.prog 52 #[.agg #[.int .i64 (d 0), .int .i64 (d 1), .int .i64 (d 2), .int .i64 (d 3), .int .i64 (d 4), .int .i64 (d 5)], .int .i64 b] w fun e w' => e = .returned (.int .i64 (thr d b)) ∧ Below w.heap.size w w' := by
  have hz : (b == 0) = false := by simp; omega
  go_enter Try.func52, Try.ntmps52
  go_wp2
  have hB1 : Below w.heap.size w (w.alloc (.cells #[.int .i64 (d 0), .int .i64 (d 1), .int .i64 (d 2), .int .i64 (d 3), .int .i64 (d 4), .int .i64 (d 5)] 89)) := (Below.refl _ _).alloc (Nat.le_refl _) _
  obtain ⟨W1, hW1⟩ : ∃ W, w.alloc (.cells #[.int .i64 (d 0), .int .i64 (d 1), .int .i64 (d 2), .int .i64 (d 3), .int .i64 (d 4), .int .i64 (d 5)] 89) = W := ⟨_, rfl⟩

  have hc0 : W1.cell? ⟨w.heap.size, 0, none⟩ = some (.int .i64 (d 0)) := by rw [← hW1]; simp [go_sem]
  have hc1 : W1.cell? ⟨w.heap.size, 1, none⟩ = some (.int .i64 (d 1)) := by rw [← hW1]; simp [go_sem]
  have hc2 : W1.cell? ⟨w.heap.size, 2, none⟩ = some (.int .i64 (d 2)) := by rw [← hW1]; simp [go_sem]
  have hc3 : W1.cell? ⟨w.heap.size, 3, none⟩ = some (.int .i64 (d 3)) := by rw [← hW1]; simp [go_sem]
  have hc4 : W1.cell? ⟨w.heap.size, 4, none⟩ = some (.int .i64 (d 4)) := by rw [← hW1]; simp [go_sem]
  have hc5 : W1.cell? ⟨w.heap.size, 5, none⟩ = some (.int .i64 (d 5)) := by rw [← hW1]; simp [go_sem]
  rw [hW1] at hB1 ⊢
  clear hW1
  go_loopw [5, 6, 7] (fun out rest i wr => ∃ n : Nat, n ≤ 6 ∧ i = .int .i64 (5 - (n : Int)) ∧ out = .int .i64 (H d n / b) ∧ rest = .int .i64 (H d n % b) ∧ H d n / b ≤ 1099511627776 ∧ wr = W1) (fun _ _ i _ => (intOf i + 1).toNat)
  case atStart => exact ⟨0, by omega, rfl, by simp [H], by simp [H], by simp [H], rfl⟩
  case round =>
    obtain ⟨n, hn, rfl, rfl, rfl, hq, rfl⟩ := hrel
    by_cases hlt : n < 6
    · have hc : n = 0 ∨ n = 1 ∨ n = 2 ∨ n = 3 ∨ n = 4 ∨ n = 5 := by omega
      clear hn hlt
      rcases hc with rfl | rfl | rfl | rfl | rfl | rfl
      · have hs := div_step (H d 0) b (d 5) (by omega) (hd 5).1 (H_nonneg d hd 0)
        have h1 : H d 1 = H d 0 * 1048576 + d 5 := rfl
        rw [← h1] at hs
        have hs1 := Lib.hid hs.1
        have hs2 := Lib.hid hs.2
        have hd0 := hd 5
        have hm0 : 0 ≤ H d 0 % b := Int.emod_nonneg _ (by omega)
        have hm1 : H d 0 % b < b := Int.emod_lt_of_pos _ (by omega)
        have hq0 : 0 ≤ H d 0 / b := Int.ediv_nonneg (H_nonneg d hd 0) (by omega)
        have hr0 : 0 ≤ (H d 0 % b * 1048576 + d 5) / b := Int.ediv_nonneg (by omega) (by omega)
        have hr1 : (H d 0 % b * 1048576 + d 5) / b ≤ H d 0 % b * 1048576 + d 5 := Int.ediv_le_self _ (by omega)
        have hE := Lib.hid (thr_early d hd b (by omega) 1 (by omega))
        clear hs h1
        by_cases ht : 1099511627776 < H d 1 / b
        · go_wp2_with fail
          rw [hs1.out, hs2.out]
          refine (top_any _).mono ?_
          rintro e w' ⟨rfl, rfl⟩
          go_wp2_with fail
          refine (top_any _).mono ?_
          rintro e w' ⟨rfl, rfl⟩
          go_wp2
          go_ret
          exact ⟨by rw [hE.out ht]; rfl, hB1⟩
        · have ht' : H d 1 / b ≤ 1099511627776 := by omega
          clear hE
          go_wp2_with fail
          rw [hs1.out, hs2.out]
          refine (top_any _).mono ?_
          rintro e w' ⟨rfl, rfl⟩
          go_wp2
          go_roundw
          case rel => exact ⟨1, by omega, rfl, rfl, rfl, ht', trivial⟩
          case measure => simp [intOf]
      · have hs := div_step (H d 1) b (d 4) (by omega) (hd 4).1 (H_nonneg d hd 1)
        have h1 : H d 2 = H d 1 * 1048576 + d 4 := rfl
        rw [← h1] at hs
        have hs1 := Lib.hid hs.1
        have hs2 := Lib.hid hs.2
        have hd0 := hd 4
        have hm0 : 0 ≤ H d 1 % b := Int.emod_nonneg _ (by omega)
        have hm1 : H d 1 % b < b := Int.emod_lt_of_pos _ (by omega)
        have hq0 : 0 ≤ H d 1 / b := Int.ediv_nonneg (H_nonneg d hd 1) (by omega)
        have hr0 : 0 ≤ (H d 1 % b * 1048576 + d 4) / b := Int.ediv_nonneg (by omega) (by omega)
        have hr1 : (H d 1 % b * 1048576 + d 4) / b ≤ H d 1 % b * 1048576 + d 4 := Int.ediv_le_self _ (by omega)
        have hE := Lib.hid (thr_early d hd b (by omega) 2 (by omega))
        clear hs h1
        by_cases ht : 1099511627776 < H d 2 / b
        · go_wp2_with fail
          rw [hs1.out, hs2.out]
          refine (top_any _).mono ?_
          rintro e w' ⟨rfl, rfl⟩
          go_wp2_with fail
          refine (top_any _).mono ?_
          rintro e w' ⟨rfl, rfl⟩
          go_wp2
          go_ret
          exact ⟨by rw [hE.out ht]; rfl, hB1⟩
        · have ht' : H d 2 / b ≤ 1099511627776 := by omega
          clear hE
          go_wp2_with fail
          rw [hs1.out, hs2.out]
          refine (top_any _).mono ?_
          rintro e w' ⟨rfl, rfl⟩
          go_wp2
          go_roundw
          case rel => exact ⟨2, by omega, rfl, rfl, rfl, ht', trivial⟩
          case measure => simp [intOf]
      · have hs := div_step (H d 2) b (d 3) (by omega) (hd 3).1 (H_nonneg d hd 2)
        have h1 : H d 3 = H d 2 * 1048576 + d 3 := rfl
        rw [← h1] at hs
        have hs1 := Lib.hid hs.1
        have hs2 := Lib.hid hs.2
        have hd0 := hd 3
        have hm0 : 0 ≤ H d 2 % b := Int.emod_nonneg _ (by omega)
        have hm1 : H d 2 % b < b := Int.emod_lt_of_pos _ (by omega)
        have hq0 : 0 ≤ H d 2 / b := Int.ediv_nonneg (H_nonneg d hd 2) (by omega)
        have hr0 : 0 ≤ (H d 2 % b * 1048576 + d 3) / b := Int.ediv_nonneg (by omega) (by omega)
        have hr1 : (H d 2 % b * 1048576 + d 3) / b ≤ H d 2 % b * 1048576 + d 3 := Int.ediv_le_self _ (by omega)
        have hE := Lib.hid (thr_early d hd b (by omega) 3 (by omega))
        clear hs h1
        by_cases ht : 1099511627776 < H d 3 / b
        · go_wp2_with fail
          rw [hs1.out, hs2.out]
          refine (top_any _).mono ?_
          rintro e w' ⟨rfl, rfl⟩
          go_wp2_with fail
          refine (top_any _).mono ?_
          rintro e w' ⟨rfl, rfl⟩
          go_wp2
          go_ret
          exact ⟨by rw [hE.out ht]; rfl, hB1⟩
        · have ht' : H d 3 / b ≤ 1099511627776 := by omega
          clear hE
          go_wp2_with fail
          rw [hs1.out, hs2.out]
          refine (top_any _).mono ?_
          rintro e w' ⟨rfl, rfl⟩
          go_wp2
          go_roundw
          case rel => exact ⟨3, by omega, rfl, rfl, rfl, ht', trivial⟩
          case measure => simp [intOf]
      · have hs := div_step (H d 3) b (d 2) (by omega) (hd 2).1 (H_nonneg d hd 3)
        have h1 : H d 4 = H d 3 * 1048576 + d 2 := rfl
        rw [← h1] at hs
        have hs1 := Lib.hid hs.1
        have hs2 := Lib.hid hs.2
        have hd0 := hd 2
        have hm0 : 0 ≤ H d 3 % b := Int.emod_nonneg _ (by omega)
        have hm1 : H d 3 % b < b := Int.emod_lt_of_pos _ (by omega)
        have hq0 : 0 ≤ H d 3 / b := Int.ediv_nonneg (H_nonneg d hd 3) (by omega)
        have hr0 : 0 ≤ (H d 3 % b * 1048576 + d 2) / b := Int.ediv_nonneg (by omega) (by omega)
        have hr1 : (H d 3 % b * 1048576 + d 2) / b ≤ H d 3 % b * 1048576 + d 2 := Int.ediv_le_self _ (by omega)
        have hE := Lib.hid (thr_early d hd b (by omega) 4 (by omega))
        clear hs h1
        by_cases ht : 1099511627776 < H d 4 / b
        · go_wp2_with fail
          rw [hs1.out, hs2.out]
          refine (top_any _).mono ?_
          rintro e w' ⟨rfl, rfl⟩
          go_wp2_with fail
          refine (top_any _).mono ?_
          rintro e w' ⟨rfl, rfl⟩
          go_wp2
          go_ret
          exact ⟨by rw [hE.out ht]; rfl, hB1⟩
        · have ht' : H d 4 / b ≤ 1099511627776 := by omega
          clear hE
          go_wp2_with fail
          rw [hs1.out, hs2.out]
          refine (top_any _).mono ?_
          rintro e w' ⟨rfl, rfl⟩
          go_wp2
          go_roundw
          case rel => exact ⟨4, by omega, rfl, rfl, rfl, ht', trivial⟩
          case measure => simp [intOf]
      · have hs := div_step (H d 4) b (d 1) (by omega) (hd 1).1 (H_nonneg d hd 4)
        have h1 : H d 5 = H d 4 * 1048576 + d 1 := rfl
        rw [← h1] at hs
        have hs1 := Lib.hid hs.1
        have hs2 := Lib.hid hs.2
        have hd0 := hd 1
        have hm0 : 0 ≤ H d 4 % b := Int.emod_nonneg _ (by omega)
        have hm1 : H d 4 % b < b := Int.emod_lt_of_pos _ (by omega)
        have hq0 : 0 ≤ H d 4 / b := Int.ediv_nonneg (H_nonneg d hd 4) (by omega)
        have hr0 : 0 ≤ (H d 4 % b * 1048576 + d 1) / b := Int.ediv_nonneg (by omega) (by omega)
        have hr1 : (H d 4 % b * 1048576 + d 1) / b ≤ H d 4 % b * 1048576 + d 1 := Int.ediv_le_self _ (by omega)
        have hE := Lib.hid (thr_early d hd b (by omega) 5 (by omega))
        clear hs h1
        by_cases ht : 1099511627776 < H d 5 / b
        · go_wp2_with fail
          rw [hs1.out, hs2.out]
          refine (top_any _).mono ?_
          rintro e w' ⟨rfl, rfl⟩
          go_wp2_with fail
          refine (top_any _).mono ?_
          rintro e w' ⟨rfl, rfl⟩
          go_wp2
          go_ret
          exact ⟨by rw [hE.out ht]; rfl, hB1⟩
        · have ht' : H d 5 / b ≤ 1099511627776 := by omega
          clear hE
          go_wp2_with fail
          rw [hs1.out, hs2.out]
          refine (top_any _).mono ?_
          rintro e w' ⟨rfl, rfl⟩
          go_wp2
          go_roundw
          case rel => exact ⟨5, by omega, rfl, rfl, rfl, ht', trivial⟩
          case measure => simp [intOf]
      · have hs := div_step (H d 5) b (d 0) (by omega) (hd 0).1 (H_nonneg d hd 5)
        have h1 : H d 6 = H d 5 * 1048576 + d 0 := rfl
        rw [← h1] at hs
        have hs1 := Lib.hid hs.1
        have hs2 := Lib.hid hs.2
        have hd0 := hd 0
        have hm0 : 0 ≤ H d 5 % b := Int.emod_nonneg _ (by omega)
        have hm1 : H d 5 % b < b := Int.emod_lt_of_pos _ (by omega)
        have hq0 : 0 ≤ H d 5 / b := Int.ediv_nonneg (H_nonneg d hd 5) (by omega)
        have hr0 : 0 ≤ (H d 5 % b * 1048576 + d 0) / b := Int.ediv_nonneg (by omega) (by omega)
        have hr1 : (H d 5 % b * 1048576 + d 0) / b ≤ H d 5 % b * 1048576 + d 0 := Int.ediv_le_self _ (by omega)
        have hE := Lib.hid (thr_early d hd b (by omega) 6 (by omega))
        clear hs h1
        by_cases ht : 1099511627776 < H d 6 / b
        · go_wp2_with fail
          rw [hs1.out, hs2.out]
          refine (top_any _).mono ?_
          rintro e w' ⟨rfl, rfl⟩
          go_wp2_with fail
          refine (top_any _).mono ?_
          rintro e w' ⟨rfl, rfl⟩
          go_wp2
          go_ret
          exact ⟨by rw [hE.out ht]; rfl, hB1⟩
        · have ht' : H d 6 / b ≤ 1099511627776 := by omega
          clear hE
          go_wp2_with fail
          rw [hs1.out, hs2.out]
          refine (top_any _).mono ?_
          rintro e w' ⟨rfl, rfl⟩
          go_wp2
          go_roundw
          case rel => exact ⟨6, by omega, rfl, rfl, rfl, ht', trivial⟩
          case measure => simp [intOf]
    · obtain rfl : n = 6 := by omega
      have hE := Lib.hid (thr_end d b (by omega) hq)
      clear hn hlt
      go_wp2
      go_ret
      exact ⟨by rw [hE.out]; rfl, hB1⟩

theorem thr_mul (a b : Int) : thr (C (dig (nr a)) (dig (nr b)) 5) 1 = mul a b := by
  have e1 : H (C (dig (nr a)) (dig (nr b)) 5) 6 = nr a * nr b := by
    have h1 := nr_bd a
    have h2 := nr_bd b
    have k := (V_carry (dig (nr a)) (dig (nr b))).trans (V_prod _ _ _ _ (dig_sum (nr a) h1.1 h1.2) (dig_sum (nr b) h2.1 h2.2))
    rw [← k]
    generalize C (dig (nr a)) (dig (nr b)) 5 = c
    have : H c 6 = (((((0 * 1048576 + c 5) * 1048576 + c 4) * 1048576 + c 3) * 1048576 + c 2) * 1048576 + c 1) * 1048576 + c 0 := rfl
    rw [this]; unfold V6; omega
  unfold thr mul
  rw [e1, if_neg (by omega), Int.ediv_one]

theorem mul_any (a b : Int) (w : World) :
    Calls Try.prog 35 #[.int .i64 a, .int .i64 b] w fun e w' => e = .returned (.int .i64 (mul a b)) ∧ Below w.heap.size w w' := by
  have h1 := nr_bd a
  have h2 := nr_bd b
  have x1 := dig_bd (nr a) h1.1 h1.2
  have x2 := dig_bd (nr b) h2.1 h2.2
  have hc := C_bd5 (dig (nr a)) (dig (nr b)) x1 x2
  have he := Lib.hid (thr_mul a b)
  go_enter Try.func35, Try.ntmps35
  go_wp2_with fail
  refine (near_any a _).mono ?_
  rintro e w' ⟨rfl, rfl⟩
  go_wp2_with fail
  refine (of_any (nr a) _ h1.1 h1.2).mono ?_
  rintro e w1 ⟨rfl, hb1⟩
  go_wp2_with fail
  refine (near_any b _).mono ?_
  rintro e w' ⟨rfl, rfl⟩
  go_wp2_with fail
  refine (of_any (nr b) _ h2.1 h2.2).mono ?_
  rintro e w2 ⟨rfl, hb2⟩
  go_wp2_with fail
  refine (times_any (dig (nr a)) (dig (nr b)) _ x1 x2).mono ?_
  rintro e w3 ⟨rfl, hb3⟩
  go_wp2_with fail
  refine (through_some (C (dig (nr a)) (dig (nr b)) 5) 1 _ (fun j => hc 5 j (by omega)) (by omega) (by omega)).mono ?_
  rintro e w4 ⟨rfl, hb4⟩
  rw [he.out]
  have hb := hb1.trans ((hb2.trans ((hb3.trans (hb4.mono hb3.size)).mono hb2.size)).mono hb1.size)
  go_wp2
  go_ret
  exact ⟨rfl, hb⟩

end Go.Proofs.Ytehpliclknfmoaa.Ref01
