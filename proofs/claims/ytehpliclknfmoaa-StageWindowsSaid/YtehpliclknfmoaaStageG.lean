/- A stage's Take (chapter 10). Conditions: the bytes are fewer than 2^40; the toxic is one that may be. -/
import Derived.Test.YtehpliclknfmoaaStageF
import Derived.Test.YtehpliclknfmoaaStageE
import Derived.Test.YtehpliclknfmoaaPu
namespace Go.Proofs.Ytehpliclknfmoaa.Stage
open Go.RowKit Mem Tick Cargo Toxic
open Go.Proofs.YtehpliclknfmoaaW.PrintLast
set_option maxRecDepth 100000
set_option linter.unusedVariables false
set_option linter.unusedSimpArgs false
variable {w w' : World} {F : Nat → Prop} {b k : Nat} {s : Sg}
/-- may a stage's numbers be? -/
structure Fit (s : Sg) : Prop where
  k0 : 0 ≤ s.t.kind
  k7 : s.t.kind ≤ 7
  a0 : 0 ≤ s.t.a
  a1 : s.t.a ≤ 1099511627776
  b0 : 0 ≤ s.t.b
  b1 : s.t.b ≤ 1099511627776
  sl : s.t.kind = 3 → 1 ≤ s.t.a ∧ s.t.a ≤ 4096
  p0 : 0 ≤ s.passed
  p1 : s.passed ≤ 1000000000
def wayS (s : Sg) (n : Int) : Sg := if s.t.kind = 2 then someS s n else if s.t.kind = 3 then sliceS s n else s
def wayN (s : Sg) (n : Int) : Int := if s.t.kind = 2 then someN s n else if s.t.kind = 3 then sliceN s n else if s.t.kind = 4 then 0 else if s.t.kind = 6 then min n (s.t.a - s.passed) else n
theorem wayS_c (s : Sg) (n : Int) : (wayS s n).c = s.c ∧ (wayS s n).clock = s.clock ∧ (wayS s n).passed = s.passed ∧ (wayS s n).t = s.t := by
  unfold wayS someS sliceS
  split
  · exact ⟨rfl, rfl, rfl, rfl⟩
  · split
    · split <;> exact ⟨rfl, rfl, rfl, rfl⟩
    · exact ⟨rfl, rfl, rfl, rfl⟩
def wayF (k : Int) : Nat := if k = 2 then 48 else if k = 3 then 49 else if k = 4 then 50 else if k = 6 then 51 else 47
theorem way_any (h : SG w F b k s) (hf : Fit s) (n : Int) :
    Calls Try.prog (wayF s.t.kind) #[.pointer (some ⟨b, 0, none⟩), .int .i64 n] w fun e w' => e = .returned (.int .i64 (wayN s n)) ∧ SG w' F b k (wayS s n) ∧ Did F w w' := by
  unfold wayF wayN wayS
  by_cases h2 : s.t.kind = 2
  · rw [if_pos h2, if_pos h2, if_pos h2]; exact some_any h n
  · rw [if_neg h2, if_neg h2, if_neg h2]
    by_cases h3 : s.t.kind = 3
    · rw [if_pos h3, if_pos h3, if_pos h3]; exact slice_any h n (hf.sl h3).1 (hf.sl h3).2
    · rw [if_neg h3, if_neg h3, if_neg h3]
      by_cases h4 : s.t.kind = 4
      · rw [if_pos h4, if_pos h4]; exact (none_any n w b).mono fun e w' ⟨he, hw⟩ => ⟨he, hw ▸ h, hw ▸ Did.refl F w⟩
      · rw [if_neg h4, if_neg h4]
        by_cases h6 : s.t.kind = 6
        · rw [if_pos h6, if_pos h6]; exact (left_any h n hf.a0 hf.a1 hf.p0 (by have := hf.p1; omega)).mono fun e w' ⟨he, hb⟩ => ⟨he, h.below hb, Did.of_below hb⟩
        · rw [if_neg h6, if_neg h6]; exact (all_any n w b).mono fun e w' ⟨he, hw⟩ => ⟨he, hw ▸ h, hw ▸ Did.refl F w⟩
/-- a slice that begins in a new block. -/
def Newly (w : World) (A : Option Addr) : Prop := ∀ g o, A = some ⟨g, o, none⟩ → w.heap.size ≤ g
/-- what the cargo gives. -/
theorem cargoTake_any (h : SG w F b k s) (hg : Full s.c.1) (ht : held s ≤ 1000000000000) (now most : Int) :
    Calls Try.prog 30 #[.pointer (some ⟨k, 0, none⟩), .int .i64 now, .int .i64 most] w fun e w' =>
      ∃ A cap, e = .returned (.slice A (takeP (takeN now most s.c.1) s.c.1).1.size cap) ∧ BS w' A (takeP (takeN now most s.c.1) s.c.1).1 ∧ SG w' F b k { s with c := ((takeP (takeN now most s.c.1) s.c.1).2, s.c.2) } ∧ Did F w w' ∧ Newly w A := by
  obtain ⟨G, hB, hC, hF⟩ := h
  unfold held at ht
  refine (Cargo.take_far now most hC hg (by omega)).mono fun e w' ⟨A, cap, he, hs, hC', hd, hn⟩ => ⟨A, cap, he, hs, ?_⟩
  have hq := SG.cargo (s' := { s with c := ((takeP (takeN now most s.c.1) s.c.1).2, s.c.2) }) hB hC hF hC' hd (Stem.refl _ _) rfl
  refine ⟨?_, hq.2.1, fun g o e => hn g ⟨o, e⟩⟩
  obtain ⟨G', h1, h2, h3⟩ := hq.1
  exact ⟨G', h1, h2, fun j => (hF j).trans (h3 j)⟩

theorem ways_any (w : World) :
    Calls Try.prog 31 #[] w fun e w' => e = .returned (.agg #[.func (.func 47) #[] #[], .func (.func 47) #[] #[], .func (.func 48) #[] #[], .func (.func 49) #[] #[], .func (.func 50) #[] #[], .func (.func 47) #[] #[], .func (.func 51) #[] #[], .func (.func 47) #[] #[]]) ∧ Below w.heap.size w w' := by
  go_enter Try.func31, Try.ntmps31
  go_wp2
  have r0 : (w.alloc (.cells #[.func (.func 47) #[] #[], .func (.func 47) #[] #[], .func (.func 48) #[] #[], .func (.func 49) #[] #[], .func (.func 50) #[] #[], .func (.func 47) #[] #[], .func (.func 51) #[] #[], .func (.func 47) #[] #[]] 70)).cell? ⟨w.heap.size, 0, none⟩ = some (.func (.func 47) #[] #[]) := ((Blk.new w _ _).cell 0).trans rfl
  have r1 : (w.alloc (.cells #[.func (.func 47) #[] #[], .func (.func 47) #[] #[], .func (.func 48) #[] #[], .func (.func 49) #[] #[], .func (.func 50) #[] #[], .func (.func 47) #[] #[], .func (.func 51) #[] #[], .func (.func 47) #[] #[]] 70)).cell? ⟨w.heap.size, 1, none⟩ = some (.func (.func 47) #[] #[]) := ((Blk.new w _ _).cell 1).trans rfl
  have r2 : (w.alloc (.cells #[.func (.func 47) #[] #[], .func (.func 47) #[] #[], .func (.func 48) #[] #[], .func (.func 49) #[] #[], .func (.func 50) #[] #[], .func (.func 47) #[] #[], .func (.func 51) #[] #[], .func (.func 47) #[] #[]] 70)).cell? ⟨w.heap.size, 2, none⟩ = some (.func (.func 48) #[] #[]) := ((Blk.new w _ _).cell 2).trans rfl
  have r3 : (w.alloc (.cells #[.func (.func 47) #[] #[], .func (.func 47) #[] #[], .func (.func 48) #[] #[], .func (.func 49) #[] #[], .func (.func 50) #[] #[], .func (.func 47) #[] #[], .func (.func 51) #[] #[], .func (.func 47) #[] #[]] 70)).cell? ⟨w.heap.size, 3, none⟩ = some (.func (.func 49) #[] #[]) := ((Blk.new w _ _).cell 3).trans rfl
  have r4 : (w.alloc (.cells #[.func (.func 47) #[] #[], .func (.func 47) #[] #[], .func (.func 48) #[] #[], .func (.func 49) #[] #[], .func (.func 50) #[] #[], .func (.func 47) #[] #[], .func (.func 51) #[] #[], .func (.func 47) #[] #[]] 70)).cell? ⟨w.heap.size, 4, none⟩ = some (.func (.func 50) #[] #[]) := ((Blk.new w _ _).cell 4).trans rfl
  have r5 : (w.alloc (.cells #[.func (.func 47) #[] #[], .func (.func 47) #[] #[], .func (.func 48) #[] #[], .func (.func 49) #[] #[], .func (.func 50) #[] #[], .func (.func 47) #[] #[], .func (.func 51) #[] #[], .func (.func 47) #[] #[]] 70)).cell? ⟨w.heap.size, 5, none⟩ = some (.func (.func 47) #[] #[]) := ((Blk.new w _ _).cell 5).trans rfl
  have r6 : (w.alloc (.cells #[.func (.func 47) #[] #[], .func (.func 47) #[] #[], .func (.func 48) #[] #[], .func (.func 49) #[] #[], .func (.func 50) #[] #[], .func (.func 47) #[] #[], .func (.func 51) #[] #[], .func (.func 47) #[] #[]] 70)).cell? ⟨w.heap.size, 6, none⟩ = some (.func (.func 51) #[] #[]) := ((Blk.new w _ _).cell 6).trans rfl
  have r7 : (w.alloc (.cells #[.func (.func 47) #[] #[], .func (.func 47) #[] #[], .func (.func 48) #[] #[], .func (.func 49) #[] #[], .func (.func 50) #[] #[], .func (.func 47) #[] #[], .func (.func 51) #[] #[], .func (.func 47) #[] #[]] 70)).cell? ⟨w.heap.size, 7, none⟩ = some (.func (.func 47) #[] #[]) := ((Blk.new w _ _).cell 7).trans rfl
  exact bodyPost_ret (v := .agg #[.func (.func 47) #[] #[], .func (.func 47) #[] #[], .func (.func 48) #[] #[], .func (.func 49) #[] #[], .func (.func 50) #[] #[], .func (.func 47) #[] #[], .func (.func 51) #[] #[], .func (.func 47) #[] #[]]) (by simp [results, Try.results31, go_sem, r0, r1, r2, r3, r4, r5, r6, r7]) rfl ⟨rfl, (Below.refl _ _).alloc (Nat.le_refl _) _⟩
end Go.Proofs.Ytehpliclknfmoaa.Stage
/- A stage's Take (chapter 10). Conditions: the bytes are fewer than 2^40; the toxic is one that may be. -/
namespace Go.Proofs.Ytehpliclknfmoaa.Stage
open Go.RowKit Mem Tick Cargo Toxic
open Go.Proofs.YtehpliclknfmoaaW.PrintLast Pu
set_option maxRecDepth 100000
set_option linter.unusedVariables false
set_option linter.unusedSimpArgs false
variable {w w' : World} {F : Nat → Prop} {b k : Nat} {s : Sg}

def readyN (s : Sg) (most : Int) : Int := min (rdy s.clock s.c.1 : Int) most
def outN (s : Sg) (m : Int) : Nat := takeN s.clock (wayN s m) (wayS s m).c.1
def takeOut (s : Sg) (m : Int) : Sg := { wayS s m with c := ((takeP (outN s m) (wayS s m).c.1).2, (wayS s m).c.2), passed := s.passed + (takeP (outN s m) (wayS s m).c.1).1.size }
def takeOutB (s : Sg) (m : Int) : ByteArray := (takeP (outN s m) (wayS s m).c.1).1
def takeS (s : Sg) (n most : Int) : Sg := if (lookP s n).state ≠ 0 ∨ most < 1 then lookP s n else takeOut (lookP s n) (readyN (lookP s n) most)
def takeB (s : Sg) (n most : Int) : ByteArray := if (lookP s n).state ≠ 0 ∨ most < 1 then ⟨#[]⟩ else takeOutB (lookP s n) (readyN (lookP s n) most)
theorem Fit.look (h : Fit s) (n : Int) : Fit (lookP s n) := ⟨h.k0, h.k7, h.a0, h.a1, h.b0, h.b1, h.sl, h.p0, h.p1⟩
theorem way_cells {n : Int} (h : SG w F b k (wayS s n)) : w.cell? ⟨b, 0, none⟩ = some (.pointer (some ⟨k, 0, none⟩)) ∧ w.cell? ⟨b, 14, none⟩ = some (.int .i64 s.clock) ∧ w.cell? ⟨b, 2, none⟩ = some (.int .i64 s.t.kind) ∧ w.cell? ⟨b, 16, none⟩ = some (.int .i64 s.passed) := by
  obtain ⟨h1, h2, h3, h4⟩ := wayS_c s n
  have c0 := h.blk.cell 0
  have c14 : w.cell? ⟨b, 14, none⟩ = some (.int .i64 (wayS s n).clock) := (h.blk.cell 14).trans rfl
  have c2 : w.cell? ⟨b, 2, none⟩ = some (.int .i64 (wayS s n).t.kind) := (h.blk.cell 2).trans rfl
  have c16 : w.cell? ⟨b, 16, none⟩ = some (.int .i64 (wayS s n).passed) := (h.blk.cell 16).trans rfl
  rw [h2] at c14
  rw [h4] at c2
  rw [h3] at c16
  exact ⟨c0.trans rfl, c14, c2, c16⟩
theorem wr_passed (p : Int) (n : Nat) (h0 : 0 ≤ p) (h1 : p ≤ 1000000000) (hn : n ≤ 1000000000) : wrap64 (p + (n : Int)) = p + (n : Int) := by unfold wrap64; omega
theorem cready_any (h : SG w F b k s) (ht : held s ≤ 1000000000) (now : Int) :
    Calls Try.prog 29 #[.pointer (some ⟨k, 0, none⟩), .int .i64 now] w fun e w' => e = .returned (.int .i64 (rdy now s.c.1)) ∧ Below w.heap.size w w' := by
  obtain ⟨G, hB, hC, hF⟩ := h
  unfold held at ht
  exact ready_any now hC (by omega)
theorem out_le (s : Sg) (m : Int) : (takeOutB s m).size ≤ held s := by
  have h := tot_takeP (outN s m) (wayS s m).c.1
  have hc := (wayS_c s m).1
  unfold takeOutB held
  rw [← hc]
  omega
theorem goesT_ {P : Program} {ops : Array Oper} {Q : Exit → Act → World → Prop} {oi : Oper} {N : Option Tmp} {a : Act} {w : World} {K : Act → World → Prop} {f : FuncId} {fn : Func} {t : Tmp} {as1 : Array Operand} {ts : Array TypeId} (hf : P.funcs[f]? = some fn) (hname : (fn.name == "runtime.NumGoroutine") = false) (hb : fn.body.isSome = true) (args : Array Value)
    (hw : Region.wanted oi (yielded ops a.tmps) = true) (hN : oi.dst = N) (hop : oi.op = .call { callee := .value (.tmp t), args := as1, argTypes := ts }) (hfv : a.eval (.tmp t) = .func (.func f) #[] #[]) (hargs : as1.map a.eval = args)
    (h : Calls P f args w fun e w' => ∃ v, e = .returned v ∧ K (a.put N v) w') : if Region.wanted oi (yielded ops a.tmps) = true then Oper.wp P oi a w K Q else K (a.put N undef) w := by
  refine call_ f args hw hN ?_ h
  have he := enters_ hf hname hb args w
  unfold execOp
  simp [hop, resolve, Deferred.ofValue, invoke, hfv, hargs, he]
def wayArr : Array Value := #[.func (.func 47) #[] #[], .func (.func 47) #[] #[], .func (.func 48) #[] #[], .func (.func 49) #[] #[], .func (.func 50) #[] #[], .func (.func 47) #[] #[], .func (.func 51) #[] #[], .func (.func 47) #[] #[]]
theorem idx_way (k : Int) (h0 : 0 ≤ k) (h7 : k ≤ 7) : ∀ W : World, (Instr.index 70 (.agg #[.func (.func 47) #[] #[], .func (.func 47) #[] #[], .func (.func 48) #[] #[], .func (.func 49) #[] #[], .func (.func 50) #[] #[], .func (.func 47) #[] #[], .func (.func 51) #[] #[], .func (.func 47) #[] #[]]) (.int .i64 k)).run Try.prog W = .ok (.func (.func (wayF k)) #[] #[]) W := by
  intro W
  have h : k = 0 ∨ k = 1 ∨ k = 2 ∨ k = 3 ∨ k = 4 ∨ k = 5 ∨ k = 6 ∨ k = 7 := by omega
  rcases h with rfl | rfl | rfl | rfl | rfl | rfl | rfl | rfl <;> rfl
theorem way_fn (k : Int) (h0 : 0 ≤ k) (h7 : k ≤ 7) : ∃ fn, Try.prog.funcs[wayF k]? = some fn ∧ (fn.name == "runtime.NumGoroutine") = false ∧ fn.body.isSome = true := by
  have h : k = 0 ∨ k = 1 ∨ k = 2 ∨ k = 3 ∨ k = 4 ∨ k = 5 ∨ k = 6 ∨ k = 7 := by omega
  rcases h with rfl | rfl | rfl | rfl | rfl | rfl | rfl | rfl <;> first
    | exact ⟨_, Try.func47, rfl, rfl⟩
    | exact ⟨_, Try.func48, rfl, rfl⟩
    | exact ⟨_, Try.func49, rfl, rfl⟩
    | exact ⟨_, Try.func50, rfl, rfl⟩
    | exact ⟨_, Try.func51, rfl, rfl⟩
theorem no_byte (k : Nat) (s : Sg) : ∀ v ∈ scells k s, ∀ m, v ≠ .int .u8 m := by
  intro v hv m
  simp only [scells, List.mem_toArray, List.mem_cons, List.not_mem_nil, or_false] at hv
  rcases hv with rfl | rfl | rfl | rfl | rfl | rfl | rfl | rfl | rfl | rfl | rfl | rfl | rfl | rfl | rfl | rfl | rfl | rfl | rfl | rfl <;> (intro h; cases h)
theorem BS_set {A : Option Addr} {x : ByteArray} (h : BS w A x) (hb : Blk w b 61 (scells k s)) (i : Nat) (u : Value) : BS (w.setCell ⟨b, i, none⟩ u) A x := by
  intro h0
  obtain ⟨g, o, rfl, hy⟩ := h h0
  have hne : ¬ b = g := by
    rintro rfl
    have hc := hy 0 h0
    rw [hb.cell] at hc
    exact no_byte k s _ (Array.mem_of_getElem? hc) _ rfl
  exact ⟨g, o, rfl, fun j hj => (Cls.set_cell_ne (.inl hne)).trans (hy j hj)⟩
theorem take_open (h : SG w F b k s) (hg : Full s.c.1) (hf : Fit s) (ht : held s ≤ 1000000000) (n most : Int) (hst : (lookP s n).state = 0) (hm : 1 ≤ most) :
    Calls Try.prog 12 #[.pointer (some ⟨b, 0, none⟩), .int .i64 n, .int .i64 most] w fun e w' => ∃ A cap, e = .returned (.slice A (takeOutB (lookP s n) (readyN (lookP s n) most)).size cap) ∧ BS w' A (takeOutB (lookP s n) (readyN (lookP s n) most)) ∧ SG w' F b k (takeOut (lookP s n) (readyN (lookP s n) most)) ∧ Did F w w' ∧ Newly w A := by
  have HS0 := Lib.hid (state_any h (by omega) n)
  have hg1 := Lib.hid (show Full (lookP s n).c.1 from hg)
  have ht1 : held (lookP s n) ≤ 1000000000 := ht
  have hf1 := Lib.hid (hf.look n)
  have hst1 := hst
  have tm : decide (most < 1) = false := decide_eq_false (by omega)
  clear h hg hf ht hst
  generalize lookP s n = s1 at *
  go_enter Try.func12, Try.ntmps12
  go_wp2_with fail
  refine HS0.out.mono ?_
  rintro e w1 ⟨rfl, HS, HD⟩
  clear HS0
  rw [hst1]
  have HS' := Lib.hid HS
  have HD' := Lib.hid HD
  have c0 : w1.cell? ⟨b, 0, none⟩ = some (.pointer (some ⟨k, 0, none⟩)) := (HS.blk.cell 0).trans rfl
  have c14 : w1.cell? ⟨b, 14, none⟩ = some (.int .i64 s1.clock) := (HS.blk.cell 14).trans rfl
  clear HS HD hst1 hm
  go_wp2
  refine start_ (n := 12) (S := fun w' => w'.cell? ⟨b, 0, none⟩ = some (.pointer (some ⟨k, 0, none⟩)) ∧ w'.cell? ⟨b, 14, none⟩ = some (.int .i64 s1.clock)) (ds := []) (m_ 12 0) (by kernel_rfl) rfl (by kernel_rfl) ⟨c0, c14⟩ (fun hHeld => ?_)
  refine pu_ 0 (some 17) (m_ 12 1) rfl rfl (by kernel_rfl) (fun _ _ _ h => h) (by rfl) (by intro w'; go_simp; with_reducible rfl) (by simp only [Act.put, List.setIfInBounds_toArray, List.set_cons_zero, List.set_cons_succ, i64_w, i32_w]; rfl) ?_
  refine pu_ 1 (some 18) (m_ 12 3) rfl rfl (by kernel_rfl) (fun _ _ _ h => h) (by rfl) (by intro w'; go_simp; with_reducible rfl) (by simp only [Act.put, List.setIfInBounds_toArray, List.set_cons_zero, List.set_cons_succ, i64_w, i32_w]; rfl) ?_
  refine pu_ 2 (some 19) (m_ 12 7) rfl rfl (by kernel_rfl) (fun _ _ _ h => h) (by rfl) (by intro w'; go_simp; with_reducible rfl) (by simp only [Act.put, List.setIfInBounds_toArray, List.set_cons_zero, List.set_cons_succ, i64_w, i32_w]; rfl) ?_
  refine pu_ 4 (some 21) (m_ 12 23) rfl rfl (by kernel_rfl) (fun _ _ _ h => h) (by rfl) (by intro w'; go_simp; with_reducible rfl) (by simp only [Act.put, List.setIfInBounds_toArray, List.set_cons_zero, List.set_cons_succ, i64_w, i32_w]; rfl) ?_
  refine pu_ 5 (some 22) (m_ 12 55) rfl rfl (by kernel_rfl) (fun _ _ _ h => h) (by rfl) (by intro w'; go_simp; with_reducible rfl) (by simp only [Act.put, List.setIfInBounds_toArray, List.set_cons_zero, List.set_cons_succ, i64_w, i32_w]; rfl) ?_
  refine pu_ 6 (some 23) (m_ 12 119) rfl rfl (by kernel_rfl) (fun _ _ _ h => h) (by rfl) (by intro w'; go_simp; with_reducible rfl) (by simp only [Act.put, List.setIfInBounds_toArray, List.set_cons_zero, List.set_cons_succ, i64_w, i32_w]; rfl) ?_
  refine pu_ 9 (some 26) (m_ 12 631) rfl rfl (by kernel_rfl) (fun _ _ _ h => h) (by rfl) (by intro w'; go_simp; with_reducible rfl) (by simp only [Act.put, List.setIfInBounds_toArray, List.set_cons_zero, List.set_cons_succ, i64_w, i32_w]; rfl) ?_
  refine tk_ 3 (some 20) (m_ 12 639) rfl rfl (by kernel_rfl) (fun _ _ _ h => h) (by rfl) (by rintro w' ⟨s0, s1⟩; go_simp; with_reducible rfl) hHeld (by simp only [Act.put, List.setIfInBounds_toArray, List.set_cons_zero, List.set_cons_succ, i64_w, i32_w]; rfl) ?_
  refine tk_ 7 (some 24) (m_ 12 767) rfl rfl (by kernel_rfl) (fun _ _ _ h => h) (by rfl) (by rintro w' ⟨s0, s1⟩; go_simp; with_reducible rfl) hHeld (by simp only [Act.put, List.setIfInBounds_toArray, List.set_cons_zero, List.set_cons_succ, i64_w, i32_w]; rfl) ?_
  refine one_ (i := 8) (N := some 25) (m_ 12 1023) rfl rfl (by kernel_rfl) (by decide) (fun K hK => ?_)
  refine goes_ Try.func29 (by kernel_rfl) rfl #[.pointer (some ⟨k, 0, none⟩), .int .i64 s1.clock] (by rfl) rfl rfl (by simp only [List.map_toArray, List.map_cons, List.map_nil]; rfl) ?_
  with_reducible refine (cready_any (w := w1.drew) HS'.out.drew ht1 s1.clock).mono ?_
  rintro e w2 ⟨rfl, hB⟩
  have hB1 := below_drew hB
  have HS2 := Lib.hid (HS'.out.below hB1)
  have HD2 := Lib.hid (HD'.out.trans (Stem.refl _ _) (Did.of_below hB1))
  have d0 := bcells hB1 c0
  have d14 := bcells hB1 c14
  clear hB hB1
  refine ⟨_, rfl, ?_⟩
  refine hK.out _ _ ⟨d0, d14⟩ (fun hHeld => ?_)
  clear hK K
  refine norm_ (a' := ?_) ?_ ?_
  rotate_left
  · show Act.put _ (some 25) _ = _
    simp only [Act.put, List.setIfInBounds_toArray, List.set_cons_zero, List.set_cons_succ, i64_w, i32_w]
    rfl
  refine pu_ 10 (some 27) (m_ 12 2047) rfl rfl (by kernel_rfl) (fun _ _ _ h => h) (by rfl) (by intro w'; go_simp; with_reducible rfl) (by simp only [Act.put, List.setIfInBounds_toArray, List.set_cons_zero, List.set_cons_succ, i64_w, i32_w]; rfl) ?_
  refine pu_ 11 (some 7) (m_ 12 4095) rfl rfl (by kernel_rfl) (fun _ _ _ h => h) (by rfl) (by intro w'; go_simp; with_reducible rfl) (by simp only [Act.put, List.setIfInBounds_toArray, List.set_cons_zero, List.set_cons_succ, i64_w, i32_w]; rfl) ?_
  refine done_ (by kernel_rfl) ?_
  clear hHeld c0 c14 d0 d14 HS' HD'
  have hmm := Lib.hid (show min (rdy s1.clock s1.c.1 : Int) most = readyN s1 most from rfl)
  have c0 : w2.cell? ⟨b, 0, none⟩ = some (.pointer (some ⟨k, 0, none⟩)) := (HS2.out.blk.cell 0).trans rfl
  have c14 : w2.cell? ⟨b, 14, none⟩ = some (.int .i64 s1.clock) := (HS2.out.blk.cell 14).trans rfl
  have c2 : w2.cell? ⟨b, 2, none⟩ = some (.int .i64 s1.t.kind) := (HS2.out.blk.cell 2).trans rfl
  go_wp2
  rw [hmm.out]
  generalize hmE : readyN s1 most = m at *
  have hmE' := Lib.hid hmE
  clear hmm tm hmE
  have hidx := idx_way s1.t.kind hf1.out.k0 hf1.out.k7
  obtain ⟨fn, hfn, hnm, hbd⟩ := way_fn s1.t.kind hf1.out.k0 hf1.out.k7
  have hfn' := Lib.hid hfn
  have hnm' := Lib.hid hnm
  have hbd' := Lib.hid hbd
  clear hfn hnm hbd
  refine start_ (n := 20) (S := fun w' => w'.cell? ⟨b, 0, none⟩ = some (.pointer (some ⟨k, 0, none⟩)) ∧ w'.cell? ⟨b, 14, none⟩ = some (.int .i64 s1.clock) ∧ w'.cell? ⟨b, 2, none⟩ = some (.int .i64 s1.t.kind)) (ds := []) (m_ 20 0) (by kernel_rfl) rfl (by kernel_rfl) ⟨c0, c14, c2⟩ (fun hHeld => ?_)
  refine pu_ 0 (some 28) (m_ 20 1) rfl rfl (by kernel_rfl) (fun _ _ _ h => h) (by rfl) (by intro w'; go_simp; with_reducible rfl) (by simp only [Act.put, List.setIfInBounds_toArray, List.set_cons_zero, List.set_cons_succ, i64_w, i32_w]; rfl) ?_
  refine pu_ 1 (some 29) (m_ 20 3) rfl rfl (by kernel_rfl) (fun _ _ _ h => h) (by rfl) (by intro w'; go_simp; with_reducible rfl) (by simp only [Act.put, List.setIfInBounds_toArray, List.set_cons_zero, List.set_cons_succ, i64_w, i32_w]; rfl) ?_
  refine pu_ 2 (some 30) (m_ 20 7) rfl rfl (by kernel_rfl) (fun _ _ _ h => h) (by rfl) (by intro w'; go_simp; with_reducible rfl) (by simp only [Act.put, List.setIfInBounds_toArray, List.set_cons_zero, List.set_cons_succ, i64_w, i32_w]; rfl) ?_
  refine pu_ 4 (some 32) (m_ 20 23) rfl rfl (by kernel_rfl) (fun _ _ _ h => h) (by rfl) (by intro w'; go_simp; with_reducible rfl) (by simp only [Act.put, List.setIfInBounds_toArray, List.set_cons_zero, List.set_cons_succ, i64_w, i32_w]; rfl) ?_
  refine pu_ 5 (some 33) (m_ 20 55) rfl rfl (by kernel_rfl) (fun _ _ _ h => h) (by rfl) (by intro w'; go_simp; with_reducible rfl) (by simp only [Act.put, List.setIfInBounds_toArray, List.set_cons_zero, List.set_cons_succ, i64_w, i32_w]; rfl) ?_
  refine pu_ 6 (some 34) (m_ 20 119) rfl rfl (by kernel_rfl) (fun _ _ _ h => h) (by rfl) (by intro w'; go_simp; with_reducible rfl) (by simp only [Act.put, List.setIfInBounds_toArray, List.set_cons_zero, List.set_cons_succ, i64_w, i32_w]; rfl) ?_
  refine pu_ 9 (some 37) (m_ 20 631) rfl rfl (by kernel_rfl) (fun _ _ _ h => h) (by rfl) (by intro w'; go_simp; with_reducible rfl) (by simp only [Act.put, List.setIfInBounds_toArray, List.set_cons_zero, List.set_cons_succ, i64_w, i32_w]; rfl) ?_
  refine pu_ 10 (some 38) (m_ 20 1655) rfl rfl (by kernel_rfl) (fun _ _ _ h => h) (by rfl) (by intro w'; go_simp; with_reducible rfl) (by simp only [Act.put, List.setIfInBounds_toArray, List.set_cons_zero, List.set_cons_succ, i64_w, i32_w]; rfl) ?_
  refine pu_ 11 (some 39) (m_ 20 3703) rfl rfl (by kernel_rfl) (fun _ _ _ h => h) (by rfl) (by intro w'; go_simp; with_reducible rfl) (by simp only [Act.put, List.setIfInBounds_toArray, List.set_cons_zero, List.set_cons_succ, i64_w, i32_w]; rfl) ?_
  refine pu_ 12 (some 40) (m_ 20 7799) rfl rfl (by kernel_rfl) (fun _ _ _ h => h) (by rfl) (by intro w'; go_simp; with_reducible rfl) (by simp only [Act.put, List.setIfInBounds_toArray, List.set_cons_zero, List.set_cons_succ, i64_w, i32_w]; rfl) ?_
  refine pu_ 15 (some 43) (m_ 20 40567) rfl rfl (by kernel_rfl) (fun _ _ _ h => h) (by rfl) (by intro w'; go_simp; with_reducible rfl) (by simp only [Act.put, List.setIfInBounds_toArray, List.set_cons_zero, List.set_cons_succ, i64_w, i32_w]; rfl) ?_
  refine pu_ 16 (some 44) (m_ 20 106103) rfl rfl (by kernel_rfl) (fun _ _ _ h => h) (by rfl) (by intro w'; go_simp; with_reducible rfl) (by simp only [Act.put, List.setIfInBounds_toArray, List.set_cons_zero, List.set_cons_succ, i64_w, i32_w]; rfl) ?_
  refine tk_ 3 (some 31) (m_ 20 106111) rfl rfl (by kernel_rfl) (fun _ _ _ h => h) (by rfl) (by rintro w' ⟨s0, s1, s2⟩; go_simp; with_reducible rfl) hHeld (by simp only [Act.put, List.setIfInBounds_toArray, List.set_cons_zero, List.set_cons_succ, i64_w, i32_w]; rfl) ?_
  refine tk_ 7 (some 35) (m_ 20 106239) rfl rfl (by kernel_rfl) (fun _ _ _ h => h) (by rfl) (by rintro w' ⟨s0, s1, s2⟩; go_simp; with_reducible rfl) hHeld (by simp only [Act.put, List.setIfInBounds_toArray, List.set_cons_zero, List.set_cons_succ, i64_w, i32_w]; rfl) ?_
  refine tk_ 13 (some 41) (m_ 20 114431) rfl rfl (by kernel_rfl) (fun _ _ _ h => h) (by rfl) (by rintro w' ⟨s0, s1, s2⟩; go_simp; with_reducible rfl) hHeld (by simp only [Act.put, List.setIfInBounds_toArray, List.set_cons_zero, List.set_cons_succ, i64_w, i32_w]; rfl) ?_
  refine one_ (i := 8) (N := some 36) (m_ 20 114687) rfl rfl (by kernel_rfl) (by decide) (fun K hK => ?_)
  refine goes_ Try.func31 (by kernel_rfl) rfl #[] (by rfl) rfl rfl (by simp) ?_
  with_reducible refine (ways_any w2.drew).mono ?_
  rintro e w3 ⟨rfl, hB⟩
  have hB1 := below_drew hB
  have HS3 := Lib.hid (HS2.out.below hB1)
  have HD3 := Lib.hid (HD2.out.trans (Stem.refl _ _) (Did.of_below hB1))
  have d0 := bcells hB1 c0
  have d14 := bcells hB1 c14
  have d2 := bcells hB1 c2
  clear hB hB1
  refine ⟨_, rfl, ?_⟩
  refine hK.out _ _ ⟨d0, d14, d2⟩ (fun hHeld => ?_)
  clear hK K
  refine norm_ (a' := ?_) ?_ ?_
  rotate_left
  · show Act.put _ (some 36) _ = _
    simp only [Act.put, List.setIfInBounds_toArray, List.set_cons_zero, List.set_cons_succ, i64_w, i32_w]
    rfl
  refine tk_ 14 (some 42) (m_ 20 131071) rfl rfl (by kernel_rfl) (fun _ _ _ h => h) (by rfl) (by rintro w' ⟨s0, s1, s2⟩; go_simp; with_reducible rfl) hHeld (by simp only [Act.put, List.setIfInBounds_toArray, List.set_cons_zero, List.set_cons_succ, i64_w, i32_w]; rfl) ?_
  refine one_ (i := 17) (N := some 45) (m_ 20 262143) rfl rfl (by kernel_rfl) (by decide) (fun K hK => ?_)
  refine goesT_ hfn'.out hnm'.out hbd'.out #[.pointer (some ⟨b, 0, none⟩), .int .i64 m] (by rfl) rfl rfl rfl (by simp only [List.map_toArray, List.map_cons, List.map_nil]; rfl) ?_
  with_reducible refine (way_any HS3.out hf1.out m).mono ?_
  rintro e w4 ⟨rfl, hS4, hD4⟩
  obtain ⟨q0, q14, q2, q16⟩ := way_cells hS4
  have HS4 := Lib.hid hS4
  have HD4 := Lib.hid (HD3.out.trans (Stem.refl _ _) hD4)
  have hg4 := Lib.hid (show Full (wayS s1 m).c.1 by rw [(wayS_c s1 m).1]; exact hg1.out)
  have ht4 : held (wayS s1 m) ≤ 1000000000000 := by unfold held; rw [(wayS_c s1 m).1]; unfold held at ht1; omega
  clear hS4 hD4
  refine ⟨_, rfl, ?_⟩
  refine hK.out _ _ ⟨q0, q14, q2⟩ (fun hHeld => ?_)
  clear hK K
  refine norm_ (a' := ?_) ?_ ?_
  rotate_left
  · show Act.put _ (some 45) _ = _
    simp only [Act.put, List.setIfInBounds_toArray, List.set_cons_zero, List.set_cons_succ, i64_w, i32_w]
    rfl
  refine one_ (i := 18) (N := some 46) (m_ 20 524287) rfl rfl (by kernel_rfl) (by decide) (fun K hK => ?_)
  refine goes_ Try.func30 (by kernel_rfl) rfl #[.pointer (some ⟨k, 0, none⟩), .int .i64 s1.clock, .int .i64 (wayN s1 m)] (by rfl) rfl rfl (by simp only [List.map_toArray, List.map_cons, List.map_nil]; rfl) ?_
  with_reducible refine (cargoTake_any HS4.out hg4.out ht4 s1.clock (wayN s1 m)).mono ?_
  rintro e w5 ⟨A, cap, rfl, hbs, hS5, hD5, hN5⟩
  have HS5 := Lib.hid hS5
  have HD5 := Lib.hid (HD4.out.trans (Stem.refl _ _) hD5)
  have hbs' := Lib.hid hbs
  have x0 : w5.cell? ⟨b, 0, none⟩ = some (.pointer (some ⟨k, 0, none⟩)) := (hS5.blk.cell 0).trans rfl
  have x14 : w5.cell? ⟨b, 14, none⟩ = some (.int .i64 s1.clock) := (hS5.blk.cell 14).trans (by rw [← (wayS_c s1 m).2.1]; rfl)
  have x2 : w5.cell? ⟨b, 2, none⟩ = some (.int .i64 s1.t.kind) := (hS5.blk.cell 2).trans (by rw [← (wayS_c s1 m).2.2.2]; rfl)
  have x16 : w5.cell? ⟨b, 16, none⟩ = some (.int .i64 s1.passed) := (hS5.blk.cell 16).trans (by rw [← (wayS_c s1 m).2.2.1]; rfl)
  have hN := Lib.hid (show Newly w A from fun g o e => Nat.le_trans HD4.out.size (hN5 g o e))
  clear hbs hS5 hD5 hN5
  refine ⟨_, rfl, ?_⟩
  refine hK.out _ _ ⟨x0, x14, x2⟩ (fun hHeld => ?_)
  clear hK K
  refine norm_ (a' := ?_) ?_ ?_
  rotate_left
  · show Act.put _ (some 46) _ = _
    simp only [Act.put, List.setIfInBounds_toArray, List.set_cons_zero, List.set_cons_succ, i64_w, i32_w]
    rfl
  refine pu_ 19 (some 8) (m_ 20 1048575) rfl rfl (by kernel_rfl) (fun _ _ _ h => h) (by rfl) (by intro w'; go_simp; with_reducible rfl) (by simp only [Act.put, List.setIfInBounds_toArray, List.set_cons_zero, List.set_cons_succ, i64_w, i32_w]; rfl) ?_
  refine done_ (by kernel_rfl) ?_
  clear hHeld c0 c14 c2 d0 d14 d2 q0 q14 q2 q16 x0 x14 x2 hidx
  have f16 := HS5.out.blk.free 16
  have hbl : b < w5.heap.size := HS5.out.lt HS5.out.mine
  have hsz := out_le s1 m
  have hwr := Lib.hid (wr_passed s1.passed (takeOutB s1 m).size hf1.out.p0 hf1.out.p1 (by omega))
  have hto := Lib.hid (show takeOutB s1 m = (takeP (takeN s1.clock (wayN s1 m) (wayS s1 m).c.1) (wayS s1 m).c.1).1 from rfl)
  have hfin := Lib.hid (HS5.out.set 16 (.int .i64 (s1.passed + (takeOutB s1 m).size)) (takeOut s1 m) rfl rfl)
  rw [← hto.out]
  have hbs2 := Lib.hid (show BS w5 A (takeOutB s1 m) from hbs'.out)
  clear hsz hbs' hto ht4
  generalize hxE : takeOutB s1 m = x at *
  have hxE' := Lib.hid hxE
  clear hxE
  go_wp2
  go_ret
  rw [hmE'.out, hwr.out, hxE'.out]
  exact ⟨A, cap, rfl, BS_set hbs2.out HS5.out.blk 16 _, hfin.out, HD5.out.setCell (.inl HS5.out.mine) _, hN.out⟩
end Go.Proofs.Ytehpliclknfmoaa.Stage
