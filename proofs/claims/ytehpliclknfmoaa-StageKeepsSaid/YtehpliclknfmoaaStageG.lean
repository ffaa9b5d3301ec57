/- A stage's Take (chapter 10). Conditions: the bytes are fewer than 2^40; the toxic is one that may be. -/
import Derived.Test.YtehpliclknfmoaaStageF
import Derived.Test.YtehpliclknfmoaaStageE
namespace Go.Proofs.Ytehpliclknfmoaa.Stage
open Go.RowKit Mem Tick Cargo Toxic
open Go.Proofs.YtehpliclknfmoaaW.PrintLast
set_option maxRecDepth 100000
set_option linter.unusedVariables false
set_option linter.unusedSimpArgs false
variable {w w' : World} {F : Nat → Prop} {b k : Nat} {s : Sg}
/-- may a stage's numbers be? -/
structure Fit (s : Sg) : Prop where
  k0 : 0 ≤ s.t.kind
  k7 : s.t.kind ≤ 7
  a0 : 0 ≤ s.t.a
  a1 : s.t.a ≤ 1099511627776
  b0 : 0 ≤ s.t.b
  b1 : s.t.b ≤ 1099511627776
  sl : s.t.kind = 3 → 1 ≤ s.t.a ∧ s.t.a ≤ 4096
  p0 : 0 ≤ s.passed
  p1 : s.passed ≤ 1000000000
def wayS (s : Sg) (n : Int) : Sg := if s.t.kind = 2 then someS s n else if s.t.kind = 3 then sliceS s n else s
def wayN (s : Sg) (n : Int) : Int := if s.t.kind = 2 then someN s n else if s.t.kind = 3 then sliceN s n else if s.t.kind = 4 then 0 else if s.t.kind = 6 then min n (s.t.a - s.passed) else n
theorem wayS_c (s : Sg) (n : Int) : (wayS s n).c = s.c ∧ (wayS s n).clock = s.clock ∧ (wayS s n).passed = s.passed ∧ (wayS s n).t = s.t := by
  unfold wayS someS sliceS
  split
  · exact ⟨rfl, rfl, rfl, rfl⟩
  · split
    · split <;> exact ⟨rfl, rfl, rfl, rfl⟩
    · exact ⟨rfl, rfl, rfl, rfl⟩
def wayF (k : Int) : Nat := if k = 2 then 48 else if k = 3 then 49 else if k = 4 then 50 else if k = 6 then 51 else 47
theorem way_any (h : SG w F b k s) (hf : Fit s) (n : Int) :
    Calls Try.prog (wayF s.t.kind) #[.pointer (some ⟨b, 0, none⟩), .int .i64 n] w fun e w' => e = .returned (.int .i64 (wayN s n)) ∧ SG w' F b k (wayS s n) ∧ Did F w w' := by
  unfold wayF wayN wayS
  by_cases h2 : s.t.kind = 2
  · rw [if_pos h2, if_pos h2, if_pos h2]; exact some_any h n
  · rw [if_neg h2, if_neg h2, if_neg h2]
    by_cases h3 : s.t.kind = 3
    · rw [if_pos h3, if_pos h3, if_pos h3]; exact slice_any h n (hf.sl h3).1 (hf.sl h3).2
    · rw [if_neg h3, if_neg h3, if_neg h3]
      by_cases h4 : s.t.kind = 4
      · rw [if_pos h4, if_pos h4]; exact (none_any n w b).mono fun e w' ⟨he, hw⟩ => ⟨he, hw ▸ h, hw ▸ Did.refl F w⟩
      · rw [if_neg h4, if_neg h4]
        by_cases h6 : s.t.kind = 6
        · rw [if_pos h6, if_pos h6]; exact (left_any h n hf.a0 hf.a1 hf.p0 (by have := hf.p1; omega)).mono fun e w' ⟨he, hb⟩ => ⟨he, h.below hb, Did.of_below hb⟩
        · rw [if_neg h6, if_neg h6]; exact (all_any n w b).mono fun e w' ⟨he, hw⟩ => ⟨he, hw ▸ h, hw ▸ Did.refl F w⟩
/-- a slice that begins in a new block. -/
def Newly (w : World) (A : Option Addr) : Prop := ∀ g o, A = some ⟨g, o, none⟩ → w.heap.size ≤ g
/-- what the cargo gives. -/
theorem cargoTake_any (h : SG w F b k s) (hg : Full s.c.1) (ht : held s ≤ 1000000000000) (now most : Int) :
    Calls Try.prog 30 #[.pointer (some ⟨k, 0, none⟩), .int .i64 now, .int .i64 most] w fun e w' =>
      ∃ A cap, e = .returned (.slice A (takeP (takeN now most s.c.1) s.c.1).1.size cap) ∧ BS w' A (takeP (takeN now most s.c.1) s.c.1).1 ∧ SG w' F b k { s with c := ((takeP (takeN now most s.c.1) s.c.1).2, s.c.2) } ∧ Did F w w' ∧ Newly w A := by
  obtain ⟨G, hB, hC, hF⟩ := h
  unfold held at ht
  refine (Cargo.take_far now most hC hg (by omega)).mono fun e w' ⟨A, cap, he, hs, hC', hd, hn⟩ => ⟨A, cap, he, hs, ?_⟩
  have hq := SG.cargo (s' := { s with c := ((takeP (takeN now most s.c.1) s.c.1).2, s.c.2) }) hB hC hF hC' hd (Stem.refl _ _) rfl
  refine ⟨?_, hq.2.1, fun g o e => hn g ⟨o, e⟩⟩
  obtain ⟨G', h1, h2, h3⟩ := hq.1
  exact ⟨G', h1, h2, fun j => (hF j).trans (h3 j)⟩

theorem ways_any (w : World) :
    Calls Try.prog 31 #[] w fun e w' => e = .returned (.agg #[.func (.func 47) #[] #[], .func (.func 47) #[] #[], .func (.func 48) #[] #[], .func (.func 49) #[] #[], .func (.func 50) #[] #[], .func (.func 47) #[] #[], .func (.func 51) #[] #[], .func (.func 47) #[] #[]]) ∧ Below w.heap.size w w' := by
  go_enter Try.func31, Try.ntmps31
  go_wp2
  have r0 : (w.alloc (.cells #[.func (.func 47) #[] #[], .func (.func 47) #[] #[], .func (.func 48) #[] #[], .func (.func 49) #[] #[], .func (.func 50) #[] #[], .func (.func 47) #[] #[], .func (.func 51) #[] #[], .func (.func 47) #[] #[]] 70)).cell? ⟨w.heap.size, 0, none⟩ = some (.func (.func 47) #[] #[]) := ((Blk.new w _ _).cell 0).trans rfl
  have r1 : (w.alloc (.cells #[.func (.func 47) #[] #[], .func (.func 47) #[] #[], .func (.func 48) #[] #[], .func (.func 49) #[] #[], .func (.func 50) #[] #[], .func (.func 47) #[] #[], .func (.func 51) #[] #[], .func (.func 47) #[] #[]] 70)).cell? ⟨w.heap.size, 1, none⟩ = some (.func (.func 47) #[] #[]) := ((Blk.new w _ _).cell 1).trans rfl
  have r2 : (w.alloc (.cells #[.func (.func 47) #[] #[], .func (.func 47) #[] #[], .func (.func 48) #[] #[], .func (.func 49) #[] #[], .func (.func 50) #[] #[], .func (.func 47) #[] #[], .func (.func 51) #[] #[], .func (.func 47) #[] #[]] 70)).cell? ⟨w.heap.size, 2, none⟩ = some (.func (.func 48) #[] #[]) := ((Blk.new w _ _).cell 2).trans rfl
  have r3 : (w.alloc (.cells #[.func (.func 47) #[] #[], .func (.func 47) #[] #[], .func (.func 48) #[] #[], .func (.func 49) #[] #[], .func (.func 50) #[] #[], .func (.func 47) #[] #[], .func (.func 51) #[] #[], .func (.func 47) #[] #[]] 70)).cell? ⟨w.heap.size, 3, none⟩ = some (.func (.func 49) #[] #[]) := ((Blk.new w _ _).cell 3).trans rfl
  have r4 : (w.alloc (.cells #[.func (.func 47) #[] #[], .func (.func 47) #[] #[], .func (.func 48) #[] #[], .func (.func 49) #[] #[], .func (.func 50) #[] #[], .func (.func 47) #[] #[], .func (.func 51) #[] #[], .func (.func 47) #[] #[]] 70)).cell? ⟨w.heap.size, 4, none⟩ = some (.func (.func 50) #[] #[]) := ((Blk.new w _ _).cell 4).trans rfl
  have r5 : (w.alloc (.cells #[.func (.func 47) #[] #[], .func (.func 47) #[] #[], .func (.func 48) #[] #[], .func (.func 49) #[] #[], .func (.func 50) #[] #[], .func (.func 47) #[] #[], .func (.func 51) #[] #[], .func (.func 47) #[] #[]] 70)).cell? ⟨w.heap.size, 5, none⟩ = some (.func (.func 47) #[] #[]) := ((Blk.new w _ _).cell 5).trans rfl
  have r6 : (w.alloc (.cells #[.func (.func 47) #[] #[], .func (.func 47) #[] #[], .func (.func 48) #[] #[], .func (.func 49) #[] #[], .func (.func 50) #[] #[], .func (.func 47) #[] #[], .func (.func 51) #[] #[], .func (.func 47) #[] #[]] 70)).cell? ⟨w.heap.size, 6, none⟩ = some (.func (.func 51) #[] #[]) := ((Blk.new w _ _).cell 6).trans rfl
  have r7 : (w.alloc (.cells #[.func (.func 47) #[] #[], .func (.func 47) #[] #[], .func (.func 48) #[] #[], .func (.func 49) #[] #[], .func (.func 50) #[] #[], .func (.func 47) #[] #[], .func (.func 51) #[] #[], .func (.func 47) #[] #[]] 70)).cell? ⟨w.heap.size, 7, none⟩ = some (.func (.func 47) #[] #[]) := ((Blk.new w _ _).cell 7).trans rfl
  exact bodyPost_ret (v := .agg #[.func (.func 47) #[] #[], .func (.func 47) #[] #[], .func (.func 48) #[] #[], .func (.func 49) #[] #[], .func (.func 50) #[] #[], .func (.func 47) #[] #[], .func (.func 51) #[] #[], .func (.func 47) #[] #[]]) (by simp [results, Try.results31, go_sem, r0, r1, r2, r3, r4, r5, r6, r7]) rfl ⟨rfl, (Below.refl _ _).alloc (Nat.le_refl _) _⟩
end Go.Proofs.Ytehpliclknfmoaa.Stage
