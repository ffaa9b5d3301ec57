/- The chain's New, and Step whole (chapter 11). -/
import Derived.Test.YtigimpkjfmfkhaaQ23
import Derived.Test.YtigimpkjfmfkhaaQ22
import Derived.Test.YtigimpkjfmfkhaaQ16
import Derived.Lib.SlBytesConst
namespace Go.Proofs.Ytigimpkjfmfkhaa.Chain
open Go.RowKit Mem Tick Cargo Toxic Stage
open Go.Proofs.YtigimpkjfmfkhaaW.PrintLast Pu
set_option maxRecDepth 100000
set_option linter.unusedVariables false
set_option linter.unusedSimpArgs false
variable {w w' : World} {F H : Nat → Prop} {t : Pt} {a : Pa} {c : Nat} {D : Lay} {x : Ch}
theorem cStep_any (h : CH w F c D x) {M Q : Int} (ho : OkC x M Q) (hM : M ≤ 1000000000) (hQ : Q + 20 * M ≤ 1000000000) (now : Int) :
    Calls Try.prog 11 #[ptr c, .int .i64 now] w fun e w' => e = .returned (.int .i64 (stepC now x).state) ∧ Tu w F w' c D (stepC now x) := by
  unfold stepC
  by_cases h1 : x.state = 0
  · rw [if_neg (fun e => e h1)]
    by_cases hb : brokenB (x.l.map (lookA now)) = true
    · rw [if_pos hb]; exact step_broken h ho hM now h1 hb
    · rw [if_neg hb]; exact step_go h ho hM hQ now h1 (by simpa using hb)
  · rw [if_pos h1]; exact step_shut h now h1
def newC (room now : Int) : Ch := ⟨[⟨newS noTox 0 room now, false⟩, ⟨newS noTox 0 room now, false⟩], room, 0, false, 0⟩
theorem newE_pass (room : Int) : newE noTox room = if roomOk room = false then 1 else 0 := by
  have hp : passB noTox = true := by simp [passB, sameT, noTox]
  unfold newE
  rw [if_neg (fun h => by rw [hp] at h; cases h.1)]
theorem ok_newC (room now : Int) (h : roomOk room = true) : OkC (newC room now) 0 0 := by
  have hr : 1 ≤ room ∧ room ≤ 4096 := by simpa [roomOk] using h
  have he : newE noTox room = 0 := by rw [newE_pass, h]; rfl
  have hs : (newS noTox 0 room now).c = ([], 0) ∧ (newS noTox 0 room now).passed = 0 := by unfold newS; split <;> exact ⟨rfl, rfl⟩
  have hh : held (newS noTox 0 room now) = 0 := by unfold held; rw [hs.1]; rfl
  refine ⟨Nat.le_refl 2, (by show 2 ≤ 10; decide), hr.1, hr.2, ?_, Int.le_refl 0, ?_, ?_⟩
  · show ((held _ + (held _ + 0) : Nat) : Int) ≤ 0; rw [hh]; decide
  · show (0 : Int) + ((held _ + (held _ + 0) : Nat) : Int) ≤ 0; rw [hh]; decide
  · intro a ha
    have : a = ⟨newS noTox 0 room now, false⟩ := by
      rcases List.mem_cons.1 ha with h | h
      · exact h
      · exact List.mem_singleton.1 h
    subst this
    exact ⟨Ok.new he, by show (newS noTox 0 room now).passed ≤ 0; rw [hs.2]; decide⟩
theorem cNew_bad (room now : Int) (w : World) (h : roomOk room = false) :
    Calls Try.prog 8 #[.int .i64 room, .int .i64 now] w fun e w' => e = .returned (.tuple #[.pointer none, .int .i64 1]) ∧ Below w.heap.size w w' := by
  have he : newE noTox room = 1 := by rw [newE_pass, if_pos h]
  have hn := fun wr => live_none (wr := wr) noTox 0 room now (by rw [he]; decide)
  rw [he] at hn
  have hn' := Lib.hid hn
  clear hn
  go_enter Try.func8, Try.ntmps8
  go_wp2_with fail
  refine (hn'.out _).mono ?_
  rintro e w1 ⟨rfl, hB1⟩
  go_wp2_with fail
  refine (hn'.out _).mono ?_
  rintro e w2 ⟨rfl, hB2⟩
  have hB := Lib.hid (bw_below hB1 hB2)
  clear hB1 hB2 hn'
  go_wp2
  go_ret2
  exact ⟨rfl, hB.out⟩
/-- a chain is made. -/
theorem ch_new {w2 : World} {F1 F2 : Nat → Prop} {b1 k1 b2 k2 : Nat} {s1 s2 : Sg} (room : Int) (h1 : SG w2 F1 b1 k1 s1) (h2 : SG w2 F2 b2 k2 s2) (hap : ∀ j, F1 j → ¬ F2 j) :
    CH ((((w2.alloc (.cells #[ptr b1, .bool false] 51)).alloc (.cells #[ptr b2, .bool false] 51)).alloc (.cells #[ptr w2.heap.size, ptr (w2.heap.size + 1)] 49)).alloc (.cells #[.slice (some ⟨w2.heap.size + 1 + 1, 0, none⟩) 2 2, .int .i64 room, .int .i64 0, .bool false, .int .i64 0] 54)) (fun j => j = w2.heap.size + 1 + 1 + 1 ∨ j = w2.heap.size + 1 + 1 ∨ ∃ i, i < 2 ∧ (if i = 0 then (j = w2.heap.size ∨ F1 j) else (j = w2.heap.size + 1 ∨ F2 j))) (w2.heap.size + 1 + 1 + 1)
      ⟨w2.heap.size + 1 + 1, 2, [⟨w2.heap.size, b1, k1⟩, ⟨w2.heap.size + 1, b2, k2⟩]⟩ ⟨[⟨s1, false⟩, ⟨s2, false⟩], room, 0, false, 0⟩ := by
  have hB : Below w2.heap.size w2 ((((w2.alloc (.cells #[ptr b1, .bool false] 51)).alloc (.cells #[ptr b2, .bool false] 51)).alloc (.cells #[ptr w2.heap.size, ptr (w2.heap.size + 1)] 49)).alloc (.cells #[.slice (some ⟨w2.heap.size + 1 + 1, 0, none⟩) 2 2, .int .i64 room, .int .i64 0, .bool false, .int .i64 0] 54)) := (((((Below.refl w2.heap.size w2).alloc (Nat.le_refl _) _).alloc (by simp only [World.size_alloc]; omega) _).alloc (by simp only [World.size_alloc]; omega) _).alloc (by simp only [World.size_alloc]; omega) _)
  have s1' := h1.below hB
  have s2' := h2.below hB
  have p1 : Blk ((((w2.alloc (.cells #[ptr b1, .bool false] 51)).alloc (.cells #[ptr b2, .bool false] 51)).alloc (.cells #[ptr w2.heap.size, ptr (w2.heap.size + 1)] 49)).alloc (.cells #[.slice (some ⟨w2.heap.size + 1 + 1, 0, none⟩) 2 2, .int .i64 room, .int .i64 0, .bool false, .int .i64 0] 54)) w2.heap.size 51 #[ptr b1, .bool false] := (Below.heap_alloc _ _ _ (by simp only [World.size_alloc]; omega)).trans ((Below.heap_alloc _ _ _ (by simp only [World.size_alloc]; omega)).trans ((Below.heap_alloc _ _ _ (by simp only [World.size_alloc]; omega)).trans (heap_alloc_new _ _)))
  have p2 : Blk ((((w2.alloc (.cells #[ptr b1, .bool false] 51)).alloc (.cells #[ptr b2, .bool false] 51)).alloc (.cells #[ptr w2.heap.size, ptr (w2.heap.size + 1)] 49)).alloc (.cells #[.slice (some ⟨w2.heap.size + 1 + 1, 0, none⟩) 2 2, .int .i64 room, .int .i64 0, .bool false, .int .i64 0] 54)) (w2.heap.size + 1) 51 #[ptr b2, .bool false] := by
    have := heap_alloc_new (w2.alloc (.cells #[ptr b1, .bool false] 51)) (.cells #[ptr b2, .bool false] 51)
    rw [World.size_alloc] at this
    exact (Below.heap_alloc _ _ _ (by simp only [World.size_alloc]; omega)).trans ((Below.heap_alloc _ _ _ (by simp only [World.size_alloc]; omega)).trans this)
  have pr : Blk ((((w2.alloc (.cells #[ptr b1, .bool false] 51)).alloc (.cells #[ptr b2, .bool false] 51)).alloc (.cells #[ptr w2.heap.size, ptr (w2.heap.size + 1)] 49)).alloc (.cells #[.slice (some ⟨w2.heap.size + 1 + 1, 0, none⟩) 2 2, .int .i64 room, .int .i64 0, .bool false, .int .i64 0] 54)) (w2.heap.size + 1 + 1) 49 #[ptr w2.heap.size, ptr (w2.heap.size + 1)] := by
    have := heap_alloc_new ((w2.alloc (.cells #[ptr b1, .bool false] 51)).alloc (.cells #[ptr b2, .bool false] 51)) (.cells #[ptr w2.heap.size, ptr (w2.heap.size + 1)] 49)
    rw [World.size_alloc, World.size_alloc] at this
    exact (Below.heap_alloc _ _ _ (by simp only [World.size_alloc]; omega)).trans this
  have pc : Blk ((((w2.alloc (.cells #[ptr b1, .bool false] 51)).alloc (.cells #[ptr b2, .bool false] 51)).alloc (.cells #[ptr w2.heap.size, ptr (w2.heap.size + 1)] 49)).alloc (.cells #[.slice (some ⟨w2.heap.size + 1 + 1, 0, none⟩) 2 2, .int .i64 room, .int .i64 0, .bool false, .int .i64 0] 54)) (w2.heap.size + 1 + 1 + 1) 54 #[.slice (some ⟨w2.heap.size + 1 + 1, 0, none⟩) 2 2, .int .i64 room, .int .i64 0, .bool false, .int .i64 0] := by
    have := heap_alloc_new (((w2.alloc (.cells #[ptr b1, .bool false] 51)).alloc (.cells #[ptr b2, .bool false] 51)).alloc (.cells #[ptr w2.heap.size, ptr (w2.heap.size + 1)] 49)) (.cells #[.slice (some ⟨w2.heap.size + 1 + 1, 0, none⟩) 2 2, .int .i64 room, .int .i64 0, .bool false, .int .i64 0] 54)
    rw [World.size_alloc, World.size_alloc, World.size_alloc] at this
    exact this
  refine ⟨fun i j => if i = 0 then (j = w2.heap.size ∨ F1 j) else (j = w2.heap.size + 1 ∨ F2 j), pc, ⟨_, pr, rfl, fun i t ht => ?_⟩, rfl, fun i t a ht ha => ?_, fun i j hi hj hne y hy hy' => ?_, fun j => Iff.rfl⟩
  · rcases i with _ | _ | i
    · cases ht; rfl
    · cases ht; rfl
    · simp at ht
  · rcases i with _ | _ | i
    · cases ht; cases ha; exact ⟨F1, p1, s1', fun j => Iff.rfl⟩
    · cases ht; cases ha; exact ⟨F2, p2, s2', fun j => Iff.rfl⟩
    · simp at ht
  · have hi2 : i < 2 := hi
    have hj2 : j < 2 := hj
    have l1 := fun (q : F1 y) => h1.lt q
    have l2 := fun (q : F2 y) => h2.lt q
    have cases_ : (i = 0 ∧ j = 1) ∨ (i = 1 ∧ j = 0) := by omega
    rcases cases_ with ⟨rfl, rfl⟩ | ⟨rfl, rfl⟩
    · rcases hy with rfl | hy <;> rcases hy' with hy' | hy'
      · omega
      · have := l2 hy'; omega
      · have := l1 hy; omega
      · exact hap y hy hy'
    · rcases hy with rfl | hy <;> rcases hy' with hy' | hy'
      · omega
      · have := l1 hy'; omega
      · have := l2 hy; omega
      · exact hap y hy' hy
theorem cNew_any (room now : Int) (w : World) (h : roomOk room = true) :
    Calls Try.prog 8 #[.int .i64 room, .int .i64 now] w fun e w' => ∃ c F D, e = .returned (.tuple #[ptr c, .int .i64 0]) ∧ CH w' F c D (newC room now) ∧ (∀ j, F j → w.heap.size ≤ j) ∧ D.cap ≤ 9223372036854775807 ∧ Below w.heap.size w w' := by
  have he : newE noTox room = 0 := by rw [newE_pass, h]; rfl
  have hn := Lib.hid (fun wr => (new_any noTox 0 room now wr).mono fun e w' hp => hp.1 he)
  go_enter Try.func8, Try.ntmps8
  go_wp2_with fail
  refine (hn.out _).mono ?_
  rintro e w1 ⟨b1, k1, F1, rfl, hS1, hF1, hB1⟩
  have h1 := Lib.hid (And.intro hS1 (And.intro hF1 hB1))
  clear hS1 hF1 hB1
  go_wp2_with fail
  refine (hn.out _).mono ?_
  rintro e w2 ⟨b2, k2, F2, rfl, hS2, hF2, hB2⟩
  have hC := Lib.hid (ch_new room (h1.out.1.below hB2) hS2 (fun j hj hj' => by have := h1.out.1.lt hj; have := hF2 j hj'; omega))
  have hw : w.heap.size ≤ w2.heap.size := Nat.le_trans h1.out.2.2.size hB2.size
  have hBw := Lib.hid (((((bw_below h1.out.2.2 hB2).alloc hw (.cells #[ptr b1, .bool false] 51)).alloc (by simp; omega) (.cells #[ptr b2, .bool false] 51)).alloc (by simp; omega) (.cells #[ptr w2.heap.size, ptr (w2.heap.size + 1)] 49)).alloc (by simp; omega) (.cells #[.slice (some ⟨w2.heap.size + 1 + 1, 0, none⟩) 2 2, .int .i64 room, .int .i64 0, .bool false, .int .i64 0] 54))
  have hFF := Lib.hid (show ∀ j, (j = w2.heap.size + 1 + 1 + 1 ∨ j = w2.heap.size + 1 + 1 ∨ ∃ i, i < 2 ∧ (if i = 0 then (j = w2.heap.size ∨ F1 j) else (j = w2.heap.size + 1 ∨ F2 j))) → w.heap.size ≤ j from by
    intro j hj
    rcases hj with rfl | rfl | ⟨i, hi, hj⟩
    · omega
    · omega
    · split at hj
      · rcases hj with rfl | hj
        · exact hw
        · exact h1.out.2.1 j hj
      · rcases hj with rfl | hj
        · omega
        · have := hF2 j hj; have := h1.out.2.2.size; omega)
  clear hS2 hF2 hB2 h1 hn he h hw
  go_wp2
  go_ret2
  exact ⟨_, _, _, rfl, hC.out, hFF.out, (show (2 : Nat) ≤ 9223372036854775807 by decide), hBw.out⟩
end Go.Proofs.Ytigimpkjfmfkhaa.Chain
namespace Go.Proofs.Ytigimpkjfmfkhaa.Chain
open Go.RowKit Mem Tick Cargo Toxic Stage
set_option maxRecDepth 100000
set_option linter.unusedVariables false
set_option linter.unusedSimpArgs false
variable {w w' w1 : World} {F H : Nat → Prop} {t : Pt} {a : Pa} {c : Nat} {D : Lay} {x : Ch}
theorem getIns {α : Type} (l : List α) (a : α) (i m : Nat) (hi : i ≤ l.length) : (l.take i ++ a :: l.drop i)[m]? = if m < i then l[m]? else if m = i then some a else l[m - 1]? := by
  have hl : (l.take i).length = i := by rw [List.length_take]; omega
  by_cases h1 : m < i
  · rw [if_pos h1, List.getElem?_append_left (by omega), List.getElem?_take, if_pos h1]
  · rw [if_neg h1, List.getElem?_append_right (by omega), hl]
    by_cases h2 : m = i
    · rw [if_pos h2, h2, Nat.sub_self]; rfl
    · rw [if_neg h2]
      obtain ⟨k, rfl⟩ : ∃ k, m = i + (k + 1) := ⟨m - i - 1, by omega⟩
      rw [show i + (k + 1) - i = k + 1 by omega, List.getElem?_cons_succ, List.getElem?_drop]
      congr 1
theorem insL_map (i : Nat) (t : Pt) (l : List Pt) : insL i (ptr t.p) (l.map fun q => ptr q.p) = (l.take i ++ t :: l.drop i).map fun q => ptr q.p := by
  simp [insL, List.map_take, List.map_drop]
/-- the chain's row, as Insert and Delete want it. -/
theorem CH.rv (h : CH w F c D x) : RV w D.r D.cap (D.ps.map fun q => ptr q.p) := by
  have hcap := h.cap
  have hlen := h.len
  obtain ⟨H, h⟩ := h
  obtain ⟨cs, hb, hc, hr⟩ := h.row
  refine ⟨cs.toList.drop D.ps.length, ?_, ?_⟩
  · have e : (D.ps.map fun q => ptr q.p) ++ cs.toList.drop D.ps.length = cs.toList := by
      apply List.ext_getElem?
      intro j
      by_cases hj : j < D.ps.length
      · rw [List.getElem?_append_left (by rw [List.length_map]; exact hj), List.getElem?_map, List.getElem?_eq_getElem hj]
        have := hr j _ (List.getElem?_eq_getElem hj)
        rw [Array.getElem?_toList, this]
        rfl
      · rw [List.getElem?_append_right (by rw [List.length_map]; omega), List.length_map, List.getElem?_drop, show D.ps.length + (j - D.ps.length) = j by omega]
    rw [e]
    exact hb
  · rw [List.length_append, List.length_map, List.length_drop, Array.length_toList, hc]
    omega
/-- a part comes in at place i: the row is w1's; the chain's own cell is set last. -/
theorem CH.ins (h : CH w F c D x) (hp : PG w H t a) (hH : ∀ j, H j → ¬ F j) {i : Nat} (hi : i ≤ x.l.length) {r' cap' : Nat} (hr : RV w1 r' cap' (insL i (ptr t.p) (D.ps.map fun q => ptr q.p))) (hd : Did (· = D.r) w w1) (hr' : r' = D.r ∨ w.heap.size ≤ r') :
    ∃ F', CH (w1.setCell ⟨c, 0, none⟩ (.slice (some ⟨r', 0, none⟩) (x.l.length + 1) cap')) F' c ⟨r', cap', D.ps.take i ++ t :: D.ps.drop i⟩ { x with l := x.l.take i ++ a :: x.l.drop i } ∧
      (∀ j, F' j → F j ∨ H j ∨ w.heap.size ≤ j) ∧ F c ∧ F D.r := by
  have hty := h.typed
  have hlen := h.len
  obtain ⟨Hs, h⟩ := h
  obtain ⟨cs, hb, hrest⟩ := h.row
  have hrc : D.r ≠ c := hb.ne h.blk (by decide)
  have hFc : F c := (h.own c).2 (.inl rfl)
  have hFr : F D.r := (h.own D.r).2 (.inr (.inl rfl))
  have hclt : c < w.heap.size := h.blk.lt
  have hr'c : r' ≠ c := by
    rcases hr' with e | e
    · rw [e]; exact hrc
    · omega
  have hFm : ∀ m j, m < x.l.length → Hs m j → F j := fun m j hm hj => (h.own j).2 (.inr (.inr ⟨m, hm, hj⟩))
  have keep : ∀ (G : Nat → Prop) (t' : Pt) (a' : Pa), PG w G t' a' → PG (w1.setCell ⟨c, 0, none⟩ (.slice (some ⟨r', 0, none⟩) (x.l.length + 1) cap')) G t' a' := fun G t' a' hg =>
    hg.kept fun j hj => by
      have n1 : j ≠ D.r := fun e => hg.typed.out hb (by decide) (e ▸ hj)
      have n2 : j ≠ c := fun e => hg.typed.out h.blk (by decide) (e ▸ hj)
      exact (Below.heap_setCell _ _ _ j n2).trans (hd.block j (hg.typed.lt hj) n1)
  have hl2 : (x.l.take i ++ a :: x.l.drop i).length = x.l.length + 1 := by simp; omega
  let H2 : Nat → Nat → Prop := fun m => if m < i then Hs m else if m = i then H else Hs (m - 1)
  have H2F : ∀ m j, m < x.l.length + 1 → H2 m j → (m ≠ i ∧ F j) ∨ (m = i ∧ H j) := by
    intro m j hm hj
    simp only [H2] at hj
    by_cases h1 : m < i
    · rw [if_pos h1] at hj; exact .inl ⟨by omega, hFm m j (by omega) hj⟩
    · rw [if_neg h1] at hj
      by_cases h2 : m = i
      · rw [if_pos h2] at hj; exact .inr ⟨h2, hj⟩
      · rw [if_neg h2] at hj; exact .inl ⟨h2, hFm (m - 1) j (by omega) hj⟩
  refine ⟨fun j => j = c ∨ j = r' ∨ ∃ m, m < x.l.length + 1 ∧ H2 m j, ⟨H2, ?_, ?_, ?_, ?_, ?_, ?_⟩, ?_, hFc, hFr⟩
  · have hb1 : Blk w1 c 54 (ccells D x) := h.blk.did hd (fun e => hrc e.symm)
    have := hb1.set_ 0 (.slice (some ⟨r', 0, none⟩) (x.l.length + 1) cap')
    unfold ccells at this ⊢
    simp only [hl2]
    simpa using this
  · obtain ⟨rest, hrb, hrl⟩ := hr
    rw [insL_map] at hrb hrl
    refine ⟨_, hrb.far (by exact hr'c) _, by simpa using hrl, fun m t' ht' => ?_⟩
    rw [List.getElem?_toArray, List.getElem?_append_left (by rw [List.length_map]; exact (List.getElem?_eq_some_iff.1 ht').1), List.getElem?_map, ht']
    rfl
  · rw [hl2]; simp; omega
  · intro m t' a' ht' ha'
    have ht2 := (getIns D.ps t i m (by omega)).symm.trans ht'
    have ha2 := (getIns x.l a i m hi).symm.trans ha'
    simp only [H2]
    by_cases h1 : m < i
    · rw [if_pos h1] at ht2 ha2 ⊢
      exact keep _ _ _ (h.part m t' a' ht2 ha2)
    · rw [if_neg h1] at ht2 ha2 ⊢
      by_cases h2 : m = i
      · rw [if_pos h2] at ht2 ha2 ⊢
        cases ht2; cases ha2
        exact keep _ _ _ hp
      · rw [if_neg h2] at ht2 ha2 ⊢
        exact keep _ _ _ (h.part (m - 1) t' a' ht2 ha2)
  · intro m m' hm hm' hne y hy hy'
    have hm : m < x.l.length + 1 := by rw [← hl2]; exact hm
    have hm' : m' < x.l.length + 1 := by rw [← hl2]; exact hm'
    rcases H2F m y hm hy with ⟨e1, f1⟩ | ⟨e1, f1⟩ <;> rcases H2F m' y hm' hy' with ⟨e2, f2⟩ | ⟨e2, f2⟩
    · simp only [H2] at hy hy'
      have k1 : ∃ q, q < x.l.length ∧ Hs q y ∧ (if m < i then m else m - 1) = q := by
        by_cases g : m < i
        · rw [if_pos g] at hy ⊢; exact ⟨m, by omega, hy, rfl⟩
        · rw [if_neg g, if_neg e1] at hy; rw [if_neg g]; exact ⟨m - 1, by omega, hy, rfl⟩
      have k2 : ∃ q, q < x.l.length ∧ Hs q y ∧ (if m' < i then m' else m' - 1) = q := by
        by_cases g : m' < i
        · rw [if_pos g] at hy' ⊢; exact ⟨m', by omega, hy', rfl⟩
        · rw [if_neg g, if_neg e2] at hy'; rw [if_neg g]; exact ⟨m' - 1, by omega, hy', rfl⟩
      obtain ⟨q1, l1, y1, z1⟩ := k1
      obtain ⟨q2, l2, y2, z2⟩ := k2
      refine h.apart q1 q2 l1 l2 ?_ y y1 y2
      split at z1 <;> split at z2 <;> omega
    · exact hH y f2 f1
    · exact hH y f1 f2
    · omega
  · intro j
    rw [hl2]
  · intro j hj
    rcases hj with rfl | rfl | ⟨m, hm, hj⟩
    · exact .inl hFc
    · rcases hr' with e | e
      · exact .inl (e ▸ hFr)
      · exact .inr (.inr e)
    · rcases H2F m j hm hj with ⟨_, f⟩ | ⟨_, f⟩
      · exact .inl f
      · exact .inr (.inl f)
/-- a part goes from place i: the row is w1's; the chain's own cell is set last. -/
theorem CH.del (h : CH w F c D x) {i : Nat} (hi : i < x.l.length) (hr : RV w1 D.r D.cap ((D.ps.map fun q : Pt => ptr q.p).eraseIdx i)) (hd : Did (· = D.r) w w1) :
    ∃ F', CH (w1.setCell ⟨c, 0, none⟩ (.slice (some ⟨D.r, 0, none⟩) (x.l.length - 1) D.cap)) F' c ⟨D.r, D.cap, D.ps.eraseIdx i⟩ { x with l := x.l.eraseIdx i } ∧ (∀ j, F' j → F j) ∧ F c ∧ F D.r := by
  have hlen := h.len
  obtain ⟨Hs, h⟩ := h
  obtain ⟨cs, hb, hrest⟩ := h.row
  have hrc : D.r ≠ c := hb.ne h.blk (by decide)
  have hFc : F c := (h.own c).2 (.inl rfl)
  have hFr : F D.r := (h.own D.r).2 (.inr (.inl rfl))
  have hFm : ∀ m j, m < x.l.length → Hs m j → F j := fun m j hm hj => (h.own j).2 (.inr (.inr ⟨m, hm, hj⟩))
  have keep : ∀ (G : Nat → Prop) (t' : Pt) (a' : Pa), PG w G t' a' → PG (w1.setCell ⟨c, 0, none⟩ (.slice (some ⟨D.r, 0, none⟩) (x.l.length - 1) D.cap)) G t' a' := fun G t' a' hg =>
    hg.kept fun j hj => by
      have n1 : j ≠ D.r := fun e => hg.typed.out hb (by decide) (e ▸ hj)
      have n2 : j ≠ c := fun e => hg.typed.out h.blk (by decide) (e ▸ hj)
      exact (Below.heap_setCell _ _ _ j n2).trans (hd.block j (hg.typed.lt hj) n1)
  have hl2 : (x.l.eraseIdx i).length = x.l.length - 1 := by rw [List.length_eraseIdx, if_pos hi]
  let H2 : Nat → Nat → Prop := fun m => if m < i then Hs m else Hs (m + 1)
  have H2q : ∀ m j, m < x.l.length - 1 → H2 m j → ∃ q, q < x.l.length ∧ Hs q j ∧ (if m < i then m else m + 1) = q := by
    intro m j hm hj
    simp only [H2] at hj
    by_cases g : m < i
    · rw [if_pos g] at hj ⊢; exact ⟨m, by omega, hj, rfl⟩
    · rw [if_neg g] at hj ⊢; exact ⟨m + 1, by omega, hj, rfl⟩
  refine ⟨fun j => j = c ∨ j = D.r ∨ ∃ m, m < x.l.length - 1 ∧ H2 m j, ⟨H2, ?_, ?_, ?_, ?_, ?_, ?_⟩, ?_, hFc, hFr⟩
  · have hb1 : Blk w1 c 54 (ccells D x) := h.blk.did hd (fun e => hrc e.symm)
    have := hb1.set_ 0 (.slice (some ⟨D.r, 0, none⟩) (x.l.length - 1) D.cap)
    unfold ccells at this ⊢
    simp only [hl2]
    simpa using this
  · obtain ⟨rest, hrb, hrl⟩ := hr
    have em : (D.ps.map fun q : Pt => ptr q.p).eraseIdx i = (D.ps.eraseIdx i).map fun q : Pt => ptr q.p := by
      rw [List.eraseIdx_eq_take_drop_succ, List.eraseIdx_eq_take_drop_succ, List.map_append, List.map_take, List.map_drop]
    rw [em] at hrb hrl
    refine ⟨_, hrb.far (by exact hrc) _, by simpa using hrl, fun m t' ht' => ?_⟩
    rw [List.getElem?_toArray, List.getElem?_append_left (by rw [List.length_map]; exact (List.getElem?_eq_some_iff.1 ht').1), List.getElem?_map, ht']
    rfl
  · rw [hl2]
    show (D.ps.eraseIdx i).length = _
    rw [List.length_eraseIdx, if_pos (by omega), hlen]
  · intro m t' a' ht' ha'
    have ht2 : (D.ps.eraseIdx i)[m]? = some t' := ht'
    have ha2 : (x.l.eraseIdx i)[m]? = some a' := ha'
    rw [List.getElem?_eraseIdx] at ht2 ha2
    simp only [H2]
    by_cases g : m < i
    · rw [if_pos g] at ht2 ha2 ⊢
      exact keep _ _ _ (h.part m t' a' ht2 ha2)
    · rw [if_neg g] at ht2 ha2 ⊢
      exact keep _ _ _ (h.part (m + 1) t' a' ht2 ha2)
  · intro m m' hm hm' hne y hy hy'
    have hm : m < x.l.length - 1 := by rw [← hl2]; exact hm
    have hm' : m' < x.l.length - 1 := by rw [← hl2]; exact hm'
    obtain ⟨q1, l1, y1, z1⟩ := H2q m y hm hy
    obtain ⟨q2, l2, y2, z2⟩ := H2q m' y hm' hy'
    refine h.apart q1 q2 l1 l2 ?_ y y1 y2
    split at z1 <;> split at z2 <;> omega
  · intro j
    rw [hl2]
  · intro j hj
    rcases hj with rfl | rfl | ⟨m, hm, hj⟩
    · exact hFc
    · exact hFr
    · obtain ⟨q, lq, yq, _⟩ := H2q m j hm hj
      exact hFm q j lq yq
end Go.Proofs.Ytigimpkjfmfkhaa.Chain
namespace Go.Proofs.Ytigimpkjfmfkhaa.Chain
open Go.RowKit Mem Tick Cargo Toxic Stage
set_option linter.unusedVariables false
set_option linter.unusedSimpArgs false
variable {x : Ch} {M Q : Int}
theorem flow_massIO {x y : Ch} {i o : ByteArray} (h : Flow x i o y) : y.lost + heldL y.l + o.size = x.lost + heldL x.l + i.size ∧ x.lost ≤ y.lost := by
  obtain ⟨L, h1, h2, _, _⟩ := h
  have h3 := congrArg ByteArray.size h1
  simp only [ByteArray.size_append, lineL_size] at h3
  constructor <;> omega
theorem OkC.flowIO {y : Ch} {i o : ByteArray} (ho : OkC x M Q) (h : Flow x i o y) (h2 : 2 ≤ y.l.length) (h10 : y.l.length ≤ 10) (hr : y.room = x.room) {Q' : Int} (hok : OkL y.l Q') : OkC y (M + i.size) Q' := by
  obtain ⟨h1, h3⟩ := flow_massIO h
  have a := ho.held
  have b := ho.lost0
  have c := ho.lost
  exact ⟨h2, h10, by rw [hr]; exact ho.r0, by rw [hr]; exact ho.r1, by omega, by omega, by omega, hok⟩
theorem OkC.more (ho : OkC x M Q) {M' Q' : Int} (hM : M ≤ M') (hQ : Q ≤ Q') : OkC x M' Q' :=
  ⟨ho.two, ho.ten, ho.r0, ho.r1, Int.le_trans ho.held hM, ho.lost0, Int.le_trans ho.lost hM, OkL.more ho.ok hQ⟩
theorem passed_put (s : Sg) (n : Int) (b : ByteArray) : (putS s n b).passed = s.passed := by
  unfold putS
  split
  · rfl
  · rw [passed_force]; rfl
theorem ok_put (ho : OkC x M Q) (now : Int) (b : ByteArray) : OkC (putC x now b) (M + b.size) Q := by
  have hf := flow_put x now b
  have hi : (b.extract 0 (putCN x now b)).size ≤ b.size := by rw [ByteArray.size_extract]; omega
  have h0 := ho.okL
  have hl : (putC x now b).l.length = x.l.length ∧ (putC x now b).room = x.room ∧ OkL (putC x now b).l Q := by
    unfold putC
    split
    · exact ⟨rfl, rfl, h0⟩
    split
    · rename_i a ha
      exact ⟨by simp, rfl, OkL.set h0 _ ⟨(h0.at_ ha).1.put _ _, by show (putS a.s now b).passed ≤ _; rw [passed_put]; exact (h0.at_ ha).2⟩⟩
    · exact ⟨rfl, rfl, h0⟩
  exact (ho.flowIO hf (by rw [hl.1]; exact ho.two) (by rw [hl.1]; exact ho.ten) hl.2.1 hl.2.2).more (by omega) (Int.le_refl _)
theorem ok_close (ho : OkC x M Q) (now : Int) : OkC (closeC x now) M Q := by
  have h0 := ho.okL
  have hl : (closeC x now).l.length = x.l.length ∧ (closeC x now).room = x.room ∧ OkL (closeC x now).l Q := by
    unfold closeC
    split
    · split
      · rename_i a ha
        exact ⟨by simp, rfl, OkL.set h0 _ (ok_end now (h0.at_ ha))⟩
      · exact ⟨rfl, rfl, h0⟩
    · exact ⟨rfl, rfl, h0⟩
  exact ho.flow (flow_close x now) hl.1 hl.2.1 hl.2.2
theorem ok_break (ho : OkC x M Q) : OkC (breakC x) M Q := by
  have hl : (breakC x).l.length = x.l.length ∧ (breakC x).room = x.room ∧ OkL (breakC x).l Q := by
    unfold breakC
    split
    · exact ⟨rfl, rfl, ho.okL⟩
    · exact ⟨loseL_length _ _, rfl, mapK_ok ho.okL _⟩
  exact ho.flow (flow_break x) hl.1 hl.2.1 hl.2.2
theorem ok_take (ho : OkC x M Q) (hM : 0 ≤ M) (now most : Int) : OkC (takeC x now most) M (Q + M) := by
  have h0 := ho.okL
  have hl : (takeC x now most).l.length = x.l.length ∧ (takeC x now most).room = x.room ∧ OkL (takeC x now most).l (Q + M) := by
    unfold takeC
    split
    · exact ⟨rfl, rfl, h0.more (by omega)⟩
    split
    · rename_i a ha
      refine ⟨by simp, rfl, OkL.set (h0.more (by omega)) _ ⟨(h0.at_ ha).1.take _ _, ?_⟩⟩
      show (takeS a.s now most).passed ≤ _
      rw [passed_take]
      have h1 := takeB_le a.s now most
      have h2 := held_le ha
      have h3 := (h0.at_ ha).2
      have h4 := ho.held
      omega
    · exact ⟨rfl, rfl, h0.more (by omega)⟩
  have := ho.flowIO (flow_take x now most) (by rw [hl.1]; exact ho.two) (by rw [hl.1]; exact ho.ten) hl.2.1 hl.2.2
  have e : ((⟨#[]⟩ : ByteArray).size : Int) = 0 := rfl
  rw [e, Int.add_zero] at this
  exact this
theorem ok_upd (ho : OkC x M Q) (at_ : Int) (t : Tox) (now : Int) : OkC (updC x at_ t now) M Q := by
  have h0 := ho.okL
  have hl : (updC x at_ t now).l.length = x.l.length ∧ (updC x at_ t now).room = x.room ∧ OkL (updC x at_ t now).l Q := by
    unfold updC
    split
    · split
      · rename_i a ha
        exact ⟨by simp, rfl, OkL.set h0 _ ⟨(h0.at_ ha).1.upd _ _, by show (updS a.s t now).passed ≤ _; rw [(upd_c a.s t now).2]; exact (h0.at_ ha).2⟩⟩
      · exact ⟨rfl, rfl, h0⟩
    · exact ⟨rfl, rfl, h0⟩
  exact ho.flow (flow_upd x at_ t now) hl.1 hl.2.1 hl.2.2
theorem ok_last (ho : OkC x M Q) (now : Int) : OkC (lastC now x) M Q := by
  have h0 := ho.okL
  have hl : (lastC now x).room = x.room ∧ OkL (lastC now x).l Q := by
    unfold lastC
    split
    · rename_i a ha
      exact ⟨rfl, OkL.set h0 _ (ok_look now (h0.at_ ha))⟩
    · exact ⟨rfl, h0⟩
  exact ho.flow (flow_last now x).1 (flow_last now x).2 hl.1 hl.2
theorem ok_step (ho : OkC x M Q) (now : Int) : OkC (stepC now x) M (Q + 10 * M) := by
  have hM : 0 ≤ M := by have := ho.held; omega
  unfold stepC
  split
  · exact ho.more (Int.le_refl _) (by omega)
  have hm : OkC { x with l := x.l.map (lookA now) } M Q := ho.list (by simp) (heldL_of_line (look_map now x.l)) (OkL.look ho.okL now)
  split
  · exact (ok_break hm).more (Int.le_refl _) (by omega)
  · have h1 := mfold_ok hm now (List.range (x.l.length - 1))
    have h10 := ho.ten
    have hpl : ((List.range (x.l.length - 1)).length : Int) * M ≤ 10 * M := Int.mul_le_mul_of_nonneg_right (by rw [List.length_range]; omega) hM
    have h2 : OkC { x with l := moves now (x.l.length - 1) (x.l.map (lookA now)) } M (Q + 10 * M) := by
      have := h1.1
      rw [mfold_range] at this
      exact this.more (Int.le_refl _) (by omega)
    have h3 := sfold_ok now (List.range (x.l.length - 1)) _ h2
    rw [sfold_range] at h3
    exact ok_last h3.1 now
theorem OkL.app {l l' : List Pa} (h : OkL l Q) (h' : OkL l' Q) : OkL (l ++ l') Q := fun a ha => (List.mem_append.1 ha).elim (h a) (h' a)
theorem OkL.cons {l : List Pa} {b : Pa} (hb : Ok b.s ∧ b.s.passed ≤ Q) (h : OkL l Q) : OkL (b :: l) Q := fun a ha => by
  rcases List.mem_cons.1 ha with e | e
  · subst e; exact hb
  · exact h a e
theorem OkL.take {l : List Pa} (h : OkL l Q) (n : Nat) : OkL (l.take n) Q := fun a ha => h a (List.mem_of_mem_take ha)
theorem OkL.drop {l : List Pa} (h : OkL l Q) (n : Nat) : OkL (l.drop n) Q := fun a ha => h a (List.mem_of_mem_drop ha)
theorem OkL.erase {l : List Pa} (h : OkL l Q) (n : Nat) : OkL (l.eraseIdx n) Q := fun a ha => h a (List.mem_of_mem_eraseIdx ha)
theorem ok_ins (ho : OkC x M Q) (hQ : 0 ≤ Q) (at_ : Int) (t : Tox) (seed now : Int) : OkC (insC x at_ t seed now) M Q := by
  have h0 := ho.okL
  have hl : (insC x at_ t seed now).l.length ≤ 10 ∧ 2 ≤ (insC x at_ t seed now).l.length ∧ (insC x at_ t seed now).room = x.room ∧ OkL (insC x at_ t seed now).l Q := by
    unfold insC
    split
    · exact ⟨ho.ten, ho.two, rfl, h0⟩
    rename_i hz
    split
    · rename_i b hb
      have hz2 : noPlace x at_ = false ∧ newE t x.room = 0 := by
        unfold insE at hz
        split at hz
        · exact absurd (by decide) hz
        · rename_i hn
          exact ⟨by simpa using hn, by simpa using hz⟩
      have hp : (x.l.length : Int) - 2 < 8 := by
        have := hz2.1
        simp [noPlace] at this
        omega
      have hi := (List.getElem?_eq_some_iff.1 hb).1
      have hok := Ok.new (seed := seed) (now := now) hz2.2
      have hpa : (newS t seed x.room now).passed = 0 := by unfold newS; split <;> rfl
      have h2 := ho.two
      refine ⟨?_, ?_, rfl, OkL.app (h0.take _) (OkL.cons ?_ (h0.drop _))⟩
      · show (x.l.take (at_.toNat + 1) ++ _ :: x.l.drop (at_.toNat + 1)).length ≤ 10
        simp; omega
      · show 2 ≤ (x.l.take (at_.toNat + 1) ++ _ :: x.l.drop (at_.toNat + 1)).length
        simp; omega
      · split
        · exact ok_end now ⟨hok, by show (newS t seed x.room now).passed ≤ _; rw [hpa]; exact hQ⟩
        · exact ⟨hok, by show (newS t seed x.room now).passed ≤ _; rw [hpa]; exact hQ⟩
    · exact ⟨ho.ten, ho.two, rfl, h0⟩
  have := ho.flowIO (flow_ins x at_ t seed now) hl.2.1 hl.1 hl.2.2.1 hl.2.2.2
  have e : ((⟨#[]⟩ : ByteArray).size : Int) = 0 := rfl
  rw [e, Int.add_zero] at this
  exact this
theorem ok_rem (ho : OkC x M Q) (at_ now : Int) : OkC (remC x at_ now) M Q := by
  have h0 := ho.okL
  have hl : (remC x at_ now).l.length ≤ 10 ∧ 2 ≤ (remC x at_ now).l.length ∧ (remC x at_ now).room = x.room ∧ OkL (remC x at_ now).l Q := by
    unfold remC
    split
    · rename_i hb
      have hb' : 0 ≤ at_ ∧ at_ < (x.l.length : Int) - 2 := by simpa [isB] using hb
      unfold remAt
      split
      · rename_i p q hp hq
        have kp := h0.at_ hp
        have kq := h0.at_ hq
        have kf : Ok (forceP q.s now (cat p.s.c.1)) ∧ (forceP q.s now (cat p.s.c.1)).passed ≤ Q := ⟨kq.1.force _ _, by rw [passed_force]; exact kq.2⟩
        have k1 : OkL ((x.l.set (at_.toNat + 1) (drainA p)).set (at_.toNat + 1 + 1) ⟨forceP q.s now (cat p.s.c.1), q.cl⟩) Q := OkL.set (OkL.set h0 _ (ok_drain kp)) _ kf
        have k2 : OkL (if (0 : Int) < (held p.s : Int) - ((held (forceP q.s now (cat p.s.c.1)) : Int) - held q.s) then loseL (at_.toNat + 1) ((x.l.set (at_.toNat + 1) (drainA p)).set (at_.toNat + 1 + 1) ⟨forceP q.s now (cat p.s.c.1), q.cl⟩) else (x.l.set (at_.toNat + 1) (drainA p)).set (at_.toNat + 1 + 1) ⟨forceP q.s now (cat p.s.c.1), q.cl⟩) Q ∧
            (if (0 : Int) < (held p.s : Int) - ((held (forceP q.s now (cat p.s.c.1)) : Int) - held q.s) then loseL (at_.toNat + 1) ((x.l.set (at_.toNat + 1) (drainA p)).set (at_.toNat + 1 + 1) ⟨forceP q.s now (cat p.s.c.1), q.cl⟩) else (x.l.set (at_.toNat + 1) (drainA p)).set (at_.toNat + 1 + 1) ⟨forceP q.s now (cat p.s.c.1), q.cl⟩).length = x.l.length := by
          split
          · exact ⟨mapK_ok k1 _, by rw [loseL_length]; simp⟩
          · exact ⟨k1, by simp⟩
        have kq2 : Ok (if p.cl = true then endA now ⟨forceP q.s now (cat p.s.c.1), q.cl⟩ else ⟨forceP q.s now (cat p.s.c.1), q.cl⟩ : Pa).s ∧ (if p.cl = true then endA now ⟨forceP q.s now (cat p.s.c.1), q.cl⟩ else ⟨forceP q.s now (cat p.s.c.1), q.cl⟩ : Pa).s.passed ≤ Q := by
          split
          · exact ok_end now kf
          · exact kf
        have h10 := ho.ten
        have h2 := ho.two
        have hi := (List.getElem?_eq_some_iff.1 hp).1
        refine ⟨?_, ?_, rfl, OkL.erase (OkL.set k2.1 _ kq2) _⟩
        · dsimp only
          rw [List.length_eraseIdx, List.length_set, k2.2]
          split <;> omega
        · dsimp only
          rw [List.length_eraseIdx, List.length_set, k2.2]
          split <;> omega
      · exact ⟨ho.ten, ho.two, rfl, h0⟩
    · exact ⟨ho.ten, ho.two, rfl, h0⟩
  have := ho.flowIO (flow_remC x at_ now) hl.2.1 hl.1 hl.2.2.1 hl.2.2.2
  have e : ((⟨#[]⟩ : ByteArray).size : Int) = 0 := rfl
  rw [e, Int.add_zero] at this
  exact this
end Go.Proofs.Ytigimpkjfmfkhaa.Chain
namespace Go.Proofs.Ytigimpkjfmfkhaa.Chain
open Go.RowKit Mem Tick Cargo Toxic Stage
open Go.Proofs.YtigimpkjfmfkhaaW.PrintLast Pu
set_option maxRecDepth 100000
set_option linter.unusedVariables false
set_option linter.unusedSimpArgs false
variable {w w' w1 : World} {F H : Nat → Prop} {t : Pt} {a : Pa} {c : Nat} {D : Lay} {x : Ch}
theorem ins_no (h : CH w F c D x) (h2 : 2 ≤ x.l.length) (h10 : x.l.length ≤ 10) (at_ : Int) (t0 : ByteArray) (t1 : Int) (t2 : Bool) (t3 t4 t5 seed now : Int) (hno : noPlace x at_ = true) :
    Calls Try.prog 20 #[ptr c, .int .i64 at_, .agg #[.string t0, .int .i64 t1, .bool t2, .int .i64 t3, .int .i64 t4, .int .i64 t5], .int .u64 seed, .int .i64 now] w fun e w' => e = .returned (.int .i64 110) ∧ Below w.heap.size w w' := by
  have hb0 := (Below.refl w.heap.size w).alloc (Nat.le_refl _) (.cells #[.string t0, .int .i64 t1, .bool t2, .int .i64 t3, .int .i64 t4, .int .i64 t5] 38)
  have hi := Lib.hid (fun (wy : World) (hb : Below w.heap.size w wy) => inner_any (h.below hb) h2 h10)
  have hb0' := Lib.hid hb0
  clear h hb0
  by_cases g1 : at_ < 0
  · clear hno hi
    go_enter Try.func20, Try.ntmps20
    go_wp2
    go_ret
    exact ⟨rfl, hb0'.out⟩
  by_cases g2 : ((x.l.length - 2 : Nat) : Int) < at_
  · clear hno
    go_enter Try.func20, Try.ntmps20
    go_wp2_with fail
    refine (hi.out _ hb0'.out).mono ?_
    rintro e w1 ⟨rfl, hB⟩
    have hB1 := Lib.hid (bw_below hb0'.out hB)
    clear hB hi hb0'
    go_wp2
    go_ret
    exact ⟨rfl, hB1.out⟩
  · have g3 : (8 : Int) ≤ ((x.l.length - 2 : Nat) : Int) := by
      simp [noPlace] at hno
      omega
    have g2' : at_ ≤ ((x.l.length - 2 : Nat) : Int) := by omega
    clear hno g2
    go_enter Try.func20, Try.ntmps20
    go_wp2_with fail
    refine (hi.out _ hb0'.out).mono ?_
    rintro e w1 ⟨rfl, hB⟩
    have hB1 := Lib.hid (bw_below hb0'.out hB)
    clear hB hb0'
    go_wp2_with fail
    refine (hi.out _ hB1.out).mono ?_
    rintro e w2 ⟨rfl, hB⟩
    have hB2 := Lib.hid (bw_below hB1.out hB)
    clear hB hB1 hi
    go_wp2
    go_ret
    exact ⟨rfl, hB2.out⟩
theorem ins_err (h : CH w F c D x) (h2 : 2 ≤ x.l.length) (h10 : x.l.length ≤ 10) (at_ : Int) (t0 : ByteArray) (t1 : Int) (t2 : Bool) (t3 t4 t5 seed now : Int) (hno : noPlace x at_ = false) (he : newE ⟨t0, t1, t2, t3, t4, t5⟩ x.room ≠ 0) :
    Calls Try.prog 20 #[ptr c, .int .i64 at_, .agg #[.string t0, .int .i64 t1, .bool t2, .int .i64 t3, .int .i64 t4, .int .i64 t5], .int .u64 seed, .int .i64 now] w fun e w' => e = .returned (.int .i64 (newE ⟨t0, t1, t2, t3, t4, t5⟩ x.room)) ∧ Below w.heap.size w w' := by
  have hnew := Lib.hid (fun wr => live_none (wr := wr) ⟨t0, t1, t2, t3, t4, t5⟩ seed x.room now he)
  have te : (newE ⟨t0, t1, t2, t3, t4, t5⟩ x.room != 0) = true := by simpa using he
  have hh := Lib.hid h
  have hb0 := (Below.refl w.heap.size w).alloc (Nat.le_refl _) (.cells #[.string t0, .int .i64 t1, .bool t2, .int .i64 t3, .int .i64 t4, .int .i64 t5] 38)
  have hi := Lib.hid (fun (wy : World) (hb : Below w.heap.size w wy) => inner_any (h.below hb) h2 h10)
  have hb0' := Lib.hid hb0
  have hblk0 := Lib.hid (Blk.new w 38 #[.string t0, .int .i64 t1, .bool t2, .int .i64 t3, .int .i64 t4, .int .i64 t5])
  have g1 : ¬ at_ < 0 := by simp [noPlace] at hno; omega
  have g2' : at_ ≤ ((x.l.length - 2 : Nat) : Int) := by simp [noPlace] at hno; omega
  have g3 : ¬ (8 : Int) ≤ ((x.l.length - 2 : Nat) : Int) := by simp [noPlace] at hno; omega
  clear h hno hb0 he
  generalize newE ⟨t0, t1, t2, t3, t4, t5⟩ x.room = E at *
  go_enter Try.func20, Try.ntmps20
  go_wp2_with fail
  refine (hi.out _ hb0'.out).mono ?_
  rintro e w1 ⟨rfl, hB⟩
  have hB1 := Lib.hid (bw_below hb0'.out hB)
  have hblk1 := Lib.hid (hblk0.out.below hB)
  clear hB hb0' hblk0
  go_wp2_with fail
  refine (hi.out _ hB1.out).mono ?_
  rintro e w2 ⟨rfl, hB⟩
  have hB2 := Lib.hid (bw_below hB1.out hB)
  have hblk2 := Lib.hid (hblk1.out.below hB)
  clear hB hB1 hi hblk1
  have hC2 := Lib.hid (hh.out.below hB2.out)
  have d0 : w2.cell? ⟨w.heap.size, 0, none⟩ = some (.string t0) := (hblk2.out.cell 0).trans rfl
  have d1 : w2.cell? ⟨w.heap.size, 1, none⟩ = some (.int .i64 t1) := (hblk2.out.cell 1).trans rfl
  have d2 : w2.cell? ⟨w.heap.size, 2, none⟩ = some (.bool t2) := (hblk2.out.cell 2).trans rfl
  have d3 : w2.cell? ⟨w.heap.size, 3, none⟩ = some (.int .i64 t3) := (hblk2.out.cell 3).trans rfl
  have d4 : w2.cell? ⟨w.heap.size, 4, none⟩ = some (.int .i64 t4) := (hblk2.out.cell 4).trans rfl
  have d5 : w2.cell? ⟨w.heap.size, 5, none⟩ = some (.int .i64 t5) := (hblk2.out.cell 5).trans rfl
  have d6 : w2.cell? ⟨c, 1, none⟩ = some (.int .i64 x.room) := (hC2.out.blk.cell 1).trans rfl
  go_wp2
  refine start_ (n := 13) (S := fun w' => w'.cell? ⟨w.heap.size, 0, none⟩ = some (.string t0) ∧ w'.cell? ⟨w.heap.size, 1, none⟩ = some (.int .i64 t1) ∧ w'.cell? ⟨w.heap.size, 2, none⟩ = some (.bool t2) ∧ w'.cell? ⟨w.heap.size, 3, none⟩ = some (.int .i64 t3) ∧ w'.cell? ⟨w.heap.size, 4, none⟩ = some (.int .i64 t4) ∧ w'.cell? ⟨w.heap.size, 5, none⟩ = some (.int .i64 t5) ∧ w'.cell? ⟨c, 1, none⟩ = some (.int .i64 x.room)) (ds := []) (m_ 13 0) (by kernel_rfl) rfl (by kernel_rfl) ⟨d0, d1, d2, d3, d4, d5, d6⟩ (fun hHeld => ?_)
  refine pu_ 1 (some 31) (m_ 13 2) rfl rfl (by kernel_rfl) (fun _ _ _ h => h) (by rfl) (by intro w'; go_simp; with_reducible rfl) (by simp only [Act.put, List.setIfInBounds_toArray, List.set_cons_zero, List.set_cons_succ, i64_w, i32_w]; rfl) ?_
  refine pu_ 2 (some 32) (m_ 13 6) rfl rfl (by kernel_rfl) (fun _ _ _ h => h) (by rfl) (by intro w'; go_simp; with_reducible rfl) (by simp only [Act.put, List.setIfInBounds_toArray, List.set_cons_zero, List.set_cons_succ, i64_w, i32_w]; rfl) ?_
  refine pu_ 3 (some 33) (m_ 13 14) rfl rfl (by kernel_rfl) (fun _ _ _ h => h) (by rfl) (by intro w'; go_simp; with_reducible rfl) (by simp only [Act.put, List.setIfInBounds_toArray, List.set_cons_zero, List.set_cons_succ, i64_w, i32_w]; rfl) ?_
  refine pu_ 4 (some 34) (m_ 13 30) rfl rfl (by kernel_rfl) (fun _ _ _ h => h) (by rfl) (by intro w'; go_simp; with_reducible rfl) (by simp only [Act.put, List.setIfInBounds_toArray, List.set_cons_zero, List.set_cons_succ, i64_w, i32_w]; rfl) ?_
  refine pu_ 6 (some 36) (m_ 13 94) rfl rfl (by kernel_rfl) (fun _ _ _ h => h) (by rfl) (by intro w'; go_simp; with_reducible rfl) (by simp only [Act.put, List.setIfInBounds_toArray, List.set_cons_zero, List.set_cons_succ, i64_w, i32_w]; rfl) ?_
  refine tk_ 0 (some 30) (m_ 13 95) rfl rfl (by kernel_rfl) (fun _ _ _ h => h) (by rfl) (by rintro w' ⟨s0, s1, s2, s3, s4, s5, s6⟩; go_simp; with_reducible rfl) hHeld (by simp only [Act.put, List.setIfInBounds_toArray, List.set_cons_zero, List.set_cons_succ, i64_w, i32_w]; rfl) ?_
  refine tk_ 5 (some 35) (m_ 13 127) rfl rfl (by kernel_rfl) (fun _ _ _ h => h) (by rfl) (by rintro w' ⟨s0, s1, s2, s3, s4, s5, s6⟩; go_simp; with_reducible rfl) hHeld (by simp only [Act.put, List.setIfInBounds_toArray, List.set_cons_zero, List.set_cons_succ, i64_w, i32_w]; rfl) ?_
  refine one_ (i := 7) (N := some 37) (m_ 13 255) rfl rfl (by kernel_rfl) (by decide) (fun K hK => ?_)
  refine goes_ Try.func19 (by kernel_rfl) rfl #[.agg #[.string t0, .int .i64 t1, .bool t2, .int .i64 t3, .int .i64 t4, .int .i64 t5], .int .u64 seed, .int .i64 x.room, .int .i64 now] (by rfl) rfl rfl (by simp only [List.map_toArray, List.map_cons, List.map_nil]; rfl) ?_
  with_reducible refine (hnew.out w2.drew).mono ?_
  rintro e w4 ⟨rfl, hB⟩
  have hb4 := below_drew hB
  have e0 := bcells hb4 d0
  have e1 := bcells hb4 d1
  have e2 := bcells hb4 d2
  have e3 := bcells hb4 d3
  have e4 := bcells hb4 d4
  have e5 := bcells hb4 d5
  have e6 := bcells hb4 d6
  have hB4 := Lib.hid (bw_below hB2.out hb4)
  clear hB hb4
  refine ⟨_, rfl, ?_⟩
  refine hK.out _ _ ⟨e0, e1, e2, e3, e4, e5, e6⟩ (fun hHeld => ?_)
  clear hK K
  refine norm_ (a' := ?_) ?_ ?_
  rotate_left
  · show Act.put _ (some 37) _ = _
    simp only [Act.put, List.setIfInBounds_toArray, List.set_cons_zero, List.set_cons_succ, i64_w, i32_w]
    rfl
  refine pu_ 8 (some 29) (m_ 13 511) rfl rfl (by kernel_rfl) (fun _ _ _ h => h) (by rfl) (by intro w'; go_simp; with_reducible rfl) (by simp only [Act.put, List.setIfInBounds_toArray, List.set_cons_zero, List.set_cons_succ, i64_w, i32_w]; rfl) ?_
  refine pu_ 9 (some 38) (m_ 13 1023) rfl rfl (by kernel_rfl) (fun _ _ _ h => h) (by rfl) (by intro w'; go_simp; with_reducible rfl) (by simp only [Act.put, List.setIfInBounds_toArray, List.set_cons_zero, List.set_cons_succ, i64_w, i32_w]; rfl) ?_
  refine pu_ 10 (some 39) (m_ 13 2047) rfl rfl (by kernel_rfl) (fun _ _ _ h => h) (by rfl) (by intro w'; go_simp; with_reducible rfl) (by simp only [Act.put, List.setIfInBounds_toArray, List.set_cons_zero, List.set_cons_succ, i64_w, i32_w]; rfl) ?_
  refine pu_ 11 (some 11) (m_ 13 4095) rfl rfl (by kernel_rfl) (fun _ _ _ h => h) (by rfl) (by intro w'; go_simp; with_reducible rfl) (by simp only [Act.put, List.setIfInBounds_toArray, List.set_cons_zero, List.set_cons_succ, i64_w, i32_w]; rfl) ?_
  refine pu_ 12 (some 12) (m_ 13 8191) rfl rfl (by kernel_rfl) (fun _ _ _ h => h) (by rfl) (by intro w'; go_simp; with_reducible rfl) (by simp only [Act.put, List.setIfInBounds_toArray, List.set_cons_zero, List.set_cons_succ, i64_w, i32_w]; rfl) ?_
  refine done_ (by kernel_rfl) ?_
  clear hHeld d0 d1 d2 d3 d4 d5 d6 e0 e1 e2 e3 e4 e5 e6
  go_wp2
  go_ret
  exact ⟨rfl, hB4.out⟩
theorem ins_ok (h : CH w F c D x) (h2 : 2 ≤ x.l.length) (h10 : x.l.length ≤ 10) (hcap : D.cap ≤ 9223372036854775807) (k : Nat) (t0 : ByteArray) (t1 : Int) (t2 : Bool) (t3 t4 t5 seed now : Int) (hno : noPlace x (k : Int) = false) (he : newE ⟨t0, t1, t2, t3, t4, t5⟩ x.room = 0) (b0 : Pa) (hx : x.l[k + 1]? = some b0) :
    Calls Try.prog 20 #[ptr c, .int .i64 (k : Int), .agg #[.string t0, .int .i64 t1, .bool t2, .int .i64 t3, .int .i64 t4, .int .i64 t5], .int .u64 seed, .int .i64 now] w fun e w' => e = .returned (.int .i64 0) ∧ ∃ D' F', CH w' F' c D' { x with l := x.l.take (k + 1) ++ (if b0.cl = true then endA now ⟨newS ⟨t0, t1, t2, t3, t4, t5⟩ seed x.room now, false⟩ else ⟨newS ⟨t0, t1, t2, t3, t4, t5⟩ seed x.room now, false⟩) :: x.l.drop (k + 1) } ∧ Did F w w' ∧ Stem F F' w ∧ D'.cap ≤ 9223372036854775807 := by
  have hnew := Lib.hid (fun wr => (new_any ⟨t0, t1, t2, t3, t4, t5⟩ seed x.room now wr).mono fun e w' hp => hp.1 he)
  have hh := Lib.hid h
  have hb0 := (Below.refl w.heap.size w).alloc (Nat.le_refl _) (.cells #[.string t0, .int .i64 t1, .bool t2, .int .i64 t3, .int .i64 t4, .int .i64 t5] 38)
  have hi := Lib.hid (fun (wy : World) (hb : Below w.heap.size w wy) => inner_any (h.below hb) h2 h10)
  have hb0' := Lib.hid hb0
  have hblk0 := Lib.hid (Blk.new w 38 #[.string t0, .int .i64 t1, .bool t2, .int .i64 t3, .int .i64 t4, .int .i64 t5])
  have g1 : ¬ (k : Int) < 0 := by simp [noPlace] at hno; omega
  have g2' : (k : Int) ≤ ((x.l.length - 2 : Nat) : Int) := by simp [noPlace] at hno; omega
  have g3 : ¬ (8 : Int) ≤ ((x.l.length - 2 : Nat) : Int) := by simp [noPlace] at hno; omega
  have hk1 : k + 1 < x.l.length := (List.getElem?_eq_some_iff.1 hx).1
  have hkw := wr_at k (by omega)
  have hx' := Lib.hid hx
  have hnF := Lib.hid (fun j => h.lt (j := j))
  clear h hno hb0 he hx
  generalize newS ⟨t0, t1, t2, t3, t4, t5⟩ seed x.room now = sn at *
  have hkw' := Lib.hid hkw
  clear hkw
  go_enter Try.func20, Try.ntmps20
  go_wp2_with fail
  refine (hi.out _ hb0'.out).mono ?_
  rintro e w1 ⟨rfl, hB⟩
  have hB1 := Lib.hid (bw_below hb0'.out hB)
  have hblk1 := Lib.hid (hblk0.out.below hB)
  clear hB hb0' hblk0
  go_wp2_with fail
  refine (hi.out _ hB1.out).mono ?_
  rintro e w2 ⟨rfl, hB⟩
  have hB2 := Lib.hid (bw_below hB1.out hB)
  have hblk2 := Lib.hid (hblk1.out.below hB)
  clear hB hB1 hi hblk1
  have hC2 := Lib.hid (hh.out.below hB2.out)
  have d0 : w2.cell? ⟨w.heap.size, 0, none⟩ = some (.string t0) := (hblk2.out.cell 0).trans rfl
  have d1 : w2.cell? ⟨w.heap.size, 1, none⟩ = some (.int .i64 t1) := (hblk2.out.cell 1).trans rfl
  have d2 : w2.cell? ⟨w.heap.size, 2, none⟩ = some (.bool t2) := (hblk2.out.cell 2).trans rfl
  have d3 : w2.cell? ⟨w.heap.size, 3, none⟩ = some (.int .i64 t3) := (hblk2.out.cell 3).trans rfl
  have d4 : w2.cell? ⟨w.heap.size, 4, none⟩ = some (.int .i64 t4) := (hblk2.out.cell 4).trans rfl
  have d5 : w2.cell? ⟨w.heap.size, 5, none⟩ = some (.int .i64 t5) := (hblk2.out.cell 5).trans rfl
  have d6 : w2.cell? ⟨c, 1, none⟩ = some (.int .i64 x.room) := (hC2.out.blk.cell 1).trans rfl
  go_wp2
  refine start_ (n := 13) (S := fun w' => w'.cell? ⟨w.heap.size, 0, none⟩ = some (.string t0) ∧ w'.cell? ⟨w.heap.size, 1, none⟩ = some (.int .i64 t1) ∧ w'.cell? ⟨w.heap.size, 2, none⟩ = some (.bool t2) ∧ w'.cell? ⟨w.heap.size, 3, none⟩ = some (.int .i64 t3) ∧ w'.cell? ⟨w.heap.size, 4, none⟩ = some (.int .i64 t4) ∧ w'.cell? ⟨w.heap.size, 5, none⟩ = some (.int .i64 t5) ∧ w'.cell? ⟨c, 1, none⟩ = some (.int .i64 x.room)) (ds := []) (m_ 13 0) (by kernel_rfl) rfl (by kernel_rfl) ⟨d0, d1, d2, d3, d4, d5, d6⟩ (fun hHeld => ?_)
  refine pu_ 1 (some 31) (m_ 13 2) rfl rfl (by kernel_rfl) (fun _ _ _ h => h) (by rfl) (by intro w'; go_simp; with_reducible rfl) (by simp only [Act.put, List.setIfInBounds_toArray, List.set_cons_zero, List.set_cons_succ, i64_w, i32_w]; rfl) ?_
  refine pu_ 2 (some 32) (m_ 13 6) rfl rfl (by kernel_rfl) (fun _ _ _ h => h) (by rfl) (by intro w'; go_simp; with_reducible rfl) (by simp only [Act.put, List.setIfInBounds_toArray, List.set_cons_zero, List.set_cons_succ, i64_w, i32_w]; rfl) ?_
  refine pu_ 3 (some 33) (m_ 13 14) rfl rfl (by kernel_rfl) (fun _ _ _ h => h) (by rfl) (by intro w'; go_simp; with_reducible rfl) (by simp only [Act.put, List.setIfInBounds_toArray, List.set_cons_zero, List.set_cons_succ, i64_w, i32_w]; rfl) ?_
  refine pu_ 4 (some 34) (m_ 13 30) rfl rfl (by kernel_rfl) (fun _ _ _ h => h) (by rfl) (by intro w'; go_simp; with_reducible rfl) (by simp only [Act.put, List.setIfInBounds_toArray, List.set_cons_zero, List.set_cons_succ, i64_w, i32_w]; rfl) ?_
  refine pu_ 6 (some 36) (m_ 13 94) rfl rfl (by kernel_rfl) (fun _ _ _ h => h) (by rfl) (by intro w'; go_simp; with_reducible rfl) (by simp only [Act.put, List.setIfInBounds_toArray, List.set_cons_zero, List.set_cons_succ, i64_w, i32_w]; rfl) ?_
  refine tk_ 0 (some 30) (m_ 13 95) rfl rfl (by kernel_rfl) (fun _ _ _ h => h) (by rfl) (by rintro w' ⟨s0, s1, s2, s3, s4, s5, s6⟩; go_simp; with_reducible rfl) hHeld (by simp only [Act.put, List.setIfInBounds_toArray, List.set_cons_zero, List.set_cons_succ, i64_w, i32_w]; rfl) ?_
  refine tk_ 5 (some 35) (m_ 13 127) rfl rfl (by kernel_rfl) (fun _ _ _ h => h) (by rfl) (by rintro w' ⟨s0, s1, s2, s3, s4, s5, s6⟩; go_simp; with_reducible rfl) hHeld (by simp only [Act.put, List.setIfInBounds_toArray, List.set_cons_zero, List.set_cons_succ, i64_w, i32_w]; rfl) ?_
  refine one_ (i := 7) (N := some 37) (m_ 13 255) rfl rfl (by kernel_rfl) (by decide) (fun K hK => ?_)
  refine goes_ Try.func19 (by kernel_rfl) rfl #[.agg #[.string t0, .int .i64 t1, .bool t2, .int .i64 t3, .int .i64 t4, .int .i64 t5], .int .u64 seed, .int .i64 x.room, .int .i64 now] (by rfl) rfl rfl (by simp only [List.map_toArray, List.map_cons, List.map_nil]; rfl) ?_
  with_reducible refine (hnew.out w2.drew).mono ?_
  rintro e w4 ⟨bb, kk, F1, rfl, hS4, hF1, hB⟩
  have hb4 := below_drew hB
  have e0 := bcells hb4 d0
  have e1 := bcells hb4 d1
  have e2 := bcells hb4 d2
  have e3 := bcells hb4 d3
  have e4 := bcells hb4 d4
  have e5 := bcells hb4 d5
  have e6 := bcells hb4 d6
  have hB4 := Lib.hid (bw_below hB2.out hb4)
  have hS4' := Lib.hid hS4
  have hF1' := Lib.hid (show ∀ j, F1 j → w2.heap.size ≤ j from hF1)
  have hC4 := Lib.hid (hC2.out.below hb4)
  clear hB hb4 hS4 hF1
  refine ⟨_, rfl, ?_⟩
  refine hK.out _ _ ⟨e0, e1, e2, e3, e4, e5, e6⟩ (fun hHeld => ?_)
  clear hK K
  refine norm_ (a' := ?_) ?_ ?_
  rotate_left
  · show Act.put _ (some 37) _ = _
    simp only [Act.put, List.setIfInBounds_toArray, List.set_cons_zero, List.set_cons_succ, i64_w, i32_w]
    rfl
  refine pu_ 8 (some 29) (m_ 13 511) rfl rfl (by kernel_rfl) (fun _ _ _ h => h) (by rfl) (by intro w'; go_simp; with_reducible rfl) (by simp only [Act.put, List.setIfInBounds_toArray, List.set_cons_zero, List.set_cons_succ, i64_w, i32_w]; rfl) ?_
  refine pu_ 9 (some 38) (m_ 13 1023) rfl rfl (by kernel_rfl) (fun _ _ _ h => h) (by rfl) (by intro w'; go_simp; with_reducible rfl) (by simp only [Act.put, List.setIfInBounds_toArray, List.set_cons_zero, List.set_cons_succ, i64_w, i32_w]; rfl) ?_
  refine pu_ 10 (some 39) (m_ 13 2047) rfl rfl (by kernel_rfl) (fun _ _ _ h => h) (by rfl) (by intro w'; go_simp; with_reducible rfl) (by simp only [Act.put, List.setIfInBounds_toArray, List.set_cons_zero, List.set_cons_succ, i64_w, i32_w]; rfl) ?_
  refine pu_ 11 (some 11) (m_ 13 4095) rfl rfl (by kernel_rfl) (fun _ _ _ h => h) (by rfl) (by intro w'; go_simp; with_reducible rfl) (by simp only [Act.put, List.setIfInBounds_toArray, List.set_cons_zero, List.set_cons_succ, i64_w, i32_w]; rfl) ?_
  refine pu_ 12 (some 12) (m_ 13 8191) rfl rfl (by kernel_rfl) (fun _ _ _ h => h) (by rfl) (by intro w'; go_simp; with_reducible rfl) (by simp only [Act.put, List.setIfInBounds_toArray, List.set_cons_zero, List.set_cons_succ, i64_w, i32_w]; rfl) ?_
  refine done_ (by kernel_rfl) ?_
  clear hHeld d0 d1 d2 d3 d4 d5 d6 e0 e1 e2 e3 e4 e5 e6
  have hsz : w.heap.size ≤ w2.heap.size := hB2.out.size
  have hb5 := (Below.refl w4.heap.size w4).alloc (Nat.le_refl _) (.cells #[ptr bb, .bool false] 51)
  have hC5 := Lib.hid (hC4.out.below hb5)
  have hP5 := Lib.hid (show PG (w4.alloc (.cells #[ptr bb, .bool false] 51)) (fun j => j = w4.heap.size ∨ F1 j) ⟨w4.heap.size, bb, kk⟩ ⟨sn, false⟩ from ⟨F1, Blk.new _ _ _, hS4'.out.below hb5, fun j => Iff.rfl⟩)
  have hH5 := Lib.hid (show (∀ j, (j = w4.heap.size ∨ F1 j) → ¬ F j) ∧ ∀ j, (j = w4.heap.size ∨ F1 j) → w.heap.size ≤ j from by
    have z : ∀ j, (j = w4.heap.size ∨ F1 j) → w.heap.size ≤ j := by
      rintro j (rfl | h)
      · exact hB4.out.size
      · have := hF1'.out j h; omega
    exact ⟨fun j hj hf => by have := hnF.out j hf; have := z j hj; omega, z⟩)
  have hD5 := Lib.hid (show Did F w (w4.alloc (.cells #[ptr bb, .bool false] 51)) from (Did.of_below hB4.out).alloc _)
  obtain ⟨tt, htt⟩ := hC5.out.pt hx'.out
  have c0 : (w4.alloc (.cells #[ptr bb, .bool false] 51)).cell? ⟨c, 0, none⟩ = some (.slice (some ⟨D.r, 0, none⟩) x.l.length D.cap) := (hC5.out.blk.cell 0).trans rfl
  have r0 := hC5.out.rcell htt
  have p1 := (hC5.out.pcell htt hx'.out).2
  have hk2 : (k : Int) + 1 < (x.l.length : Int) := by omega
  have hk3 : (0 : Int) ≤ (k : Int) + 1 := by omega
  clear hC4 hS4' hF1' hC2 hB2 hb5 htt hblk2 hB4 hh hnew
  cases hcl : b0.cl with
  | true =>
    rw [hcl] at p1
    have hen := Lib.hid (end_any hP5.out now)
    go_wp2_with fail
    refine hen.out.mono ?_
    rintro e w6 ⟨rfl, H6, hP, hD6, hS6⟩
    have hC6 := Lib.hid (show CH w6 F c D x from hC5.out.kept fun j hj => hD6.block j (hC5.out.lt hj) (fun hh => hH5.out.1 j hh hj))
    have hP6 := Lib.hid hP
    have hH6 := Lib.hid (show (∀ j, H6 j → ¬ F j) ∧ ∀ j, H6 j → w.heap.size ≤ j from by
      have z : ∀ j, H6 j → w.heap.size ≤ j := by
        intro j hj
        rcases hS6 j hj with e | e
        · exact hH5.out.2 j e
        · have := hD5.out.size; omega
      exact ⟨fun j hj hf => by have := hnF.out j hf; have := z j hj; omega, z⟩)
    have hDw6 := Lib.hid (show Did F w w6 from hD5.out.trans (F' := fun j => F j ∨ (j = w4.heap.size ∨ F1 j)) (fun j hj => hj.imp id (hH5.out.2 j)) (hD6.more fun j hj => .inl (.inr hj)))
    clear hP hD6 hS6 hC5 hP5 hH5 hD5 hen c0 r0 p1
    have c0 : w6.cell? ⟨c, 0, none⟩ = some (.slice (some ⟨D.r, 0, none⟩) x.l.length D.cap) := (hC6.out.blk.cell 0).trans rfl
    have hC7 := Lib.hid (hC6.out.below ((Below.refl w6.heap.size w6).alloc (Nat.le_refl _) (.cells #[ptr w4.heap.size] 49)))
    have hP7 := Lib.hid (hP6.out.kept (w' := w6.alloc (.cells #[ptr w4.heap.size] 49)) fun j hj => Below.heap_alloc _ _ _ (hP6.out.typed.lt hj))
    have hins : Hid (Calls Try.prog 40 #[.slice (some ⟨D.r, 0, none⟩) x.l.length D.cap, .int .i64 ((k : Int) + 1), .slice (some ⟨w6.heap.size, 0, none⟩) 1 1] (w6.alloc (.cells #[ptr w4.heap.size] 49)) fun e w' =>
        ∃ r' cap', e = .returned (.slice (some ⟨r', 0, none⟩) (x.l.length + 1) cap') ∧ RV w' r' cap' (insL (k + 1) (ptr w4.heap.size) (D.ps.map fun q : Pt => ptr q.p)) ∧ Did (· = D.r) (w6.alloc (.cells #[ptr w4.heap.size] 49)) w' ∧ (r' = D.r ∨ (w6.alloc (.cells #[ptr w4.heap.size] 49)).heap.size ≤ r') ∧ cap' ≤ 9223372036854775807) :=
      Lib.hid (by
          rw [show (k : Int) + 1 = ((k + 1 : Nat) : Int) by omega]
          exact insert_any _ D.r w6.heap.size x.l.length D.cap (k + 1) w4.heap.size (D.ps.map fun q : Pt => ptr q.p) (fun u hu => by obtain ⟨q, _, rfl⟩ := List.mem_map.1 hu; rfl) (by rw [List.length_map]; exact hC6.out.len) (by omega) (by omega) (by omega) hC6.out.cap hcap hC7.out.rv (Blk.new w6 49 #[ptr w4.heap.size]) (fun e => by
        have : D.r < w6.heap.size := by obtain ⟨_, hq⟩ := hC6.out; obtain ⟨_, hb, _⟩ := hq.row; exact hb.lt
        try simp only [World.size_alloc] at this
        omega))
    clear hP6
    go_wp2_with fail
    refine hins.out.mono ?_
    rintro e w8 ⟨r', cap', rfl, hRV, hD8, hr', hcp⟩
    obtain ⟨F', hCf, hFf, hFc, hFr⟩ := hC7.out.ins hP7.out hH6.out.1 (i := k + 1) (by omega) hRV hD8 hr'
    have hcr : D.r ≠ c := by obtain ⟨_, hq⟩ := hC6.out; obtain ⟨_, hb, _⟩ := hq.row; exact hb.ne hq.blk (by decide)
    have hb8 : Blk w8 c 54 (ccells D x) := hC7.out.blk.did hD8 (fun e => hcr e.symm)
    have c8 : w8.cell? ⟨c, 0, none⟩ = some (.slice (some ⟨D.r, 0, none⟩) x.l.length D.cap) := (hb8.cell 0).trans rfl
    have f8 := hb8.free 0
    have hres := Lib.hid (show ∃ D' F', CH (w8.setCell ⟨c, 0, none⟩ (.slice (some ⟨r', 0, none⟩) (x.l.length + 1) cap')) F' c D' { x with l := x.l.take (k + 1) ++ (endA now ⟨sn, false⟩) :: x.l.drop (k + 1) } ∧ Did F w (w8.setCell ⟨c, 0, none⟩ (.slice (some ⟨r', 0, none⟩) (x.l.length + 1) cap')) ∧ Stem F F' w ∧ D'.cap ≤ 9223372036854775807 from
      ⟨_, F', hCf, ((hDw6.out.alloc _).trans (Stem.refl _ _) (hD8.more fun j hj => .inl (by subst hj; exact hFr))).setCell (p := ⟨c, 0, none⟩) (.inl hFc) _, fun j hj => by
        rcases hFf j hj with h | h | h
        · exact .inl h
        · exact .inr (hH6.out.2 j h)
        · have := hDw6.out.size
          simp only [World.size_alloc] at h
          try simp only [World.size_alloc] at this
          exact .inr (by omega), hcp⟩)
    clear hins hC6 hC7 hP7 hH6 hDw6 hRV hD8 hr' hCf hFf hFc hFr hb8 c0 hcr
    go_wp2
    all_goals (go_ret; exact ⟨rfl, hres.out⟩)

  | false =>
    rw [hcl] at p1
    have c0 : (w4.alloc (.cells #[ptr bb, .bool false] 51)).cell? ⟨c, 0, none⟩ = some (.slice (some ⟨D.r, 0, none⟩) x.l.length D.cap) := (hC5.out.blk.cell 0).trans rfl
    have hC7 := Lib.hid (hC5.out.below ((Below.refl (w4.alloc (.cells #[ptr bb, .bool false] 51)).heap.size (w4.alloc (.cells #[ptr bb, .bool false] 51))).alloc (Nat.le_refl _) (.cells #[ptr w4.heap.size] 49)))
    have hP7 := Lib.hid (hP5.out.kept (w' := (w4.alloc (.cells #[ptr bb, .bool false] 51)).alloc (.cells #[ptr w4.heap.size] 49)) fun j hj => Below.heap_alloc _ _ _ (hP5.out.typed.lt hj))
    have hins : Hid (Calls Try.prog 40 #[.slice (some ⟨D.r, 0, none⟩) x.l.length D.cap, .int .i64 ((k : Int) + 1), .slice (some ⟨(w4.heap.size + 1), 0, none⟩) 1 1] ((w4.alloc (.cells #[ptr bb, .bool false] 51)).alloc (.cells #[ptr w4.heap.size] 49)) fun e w' =>
        ∃ r' cap', e = .returned (.slice (some ⟨r', 0, none⟩) (x.l.length + 1) cap') ∧ RV w' r' cap' (insL (k + 1) (ptr w4.heap.size) (D.ps.map fun q : Pt => ptr q.p)) ∧ Did (· = D.r) ((w4.alloc (.cells #[ptr bb, .bool false] 51)).alloc (.cells #[ptr w4.heap.size] 49)) w' ∧ (r' = D.r ∨ ((w4.alloc (.cells #[ptr bb, .bool false] 51)).alloc (.cells #[ptr w4.heap.size] 49)).heap.size ≤ r') ∧ cap' ≤ 9223372036854775807) :=
      Lib.hid (by
          rw [show (k : Int) + 1 = ((k + 1 : Nat) : Int) by omega]
          exact insert_any _ D.r (w4.heap.size + 1) x.l.length D.cap (k + 1) w4.heap.size (D.ps.map fun q : Pt => ptr q.p) (fun u hu => by obtain ⟨q, _, rfl⟩ := List.mem_map.1 hu; rfl) (by rw [List.length_map]; exact hC5.out.len) (by omega) (by omega) (by omega) hC5.out.cap hcap hC7.out.rv (by have := Blk.new (w4.alloc (.cells #[ptr bb, .bool false] 51)) 49 #[ptr w4.heap.size]; rw [World.size_alloc] at this; exact this) (fun e => by
        have : D.r < (w4.alloc (.cells #[ptr bb, .bool false] 51)).heap.size := by obtain ⟨_, hq⟩ := hC5.out; obtain ⟨_, hb, _⟩ := hq.row; exact hb.lt
        try simp only [World.size_alloc] at this
        omega))
    clear hP5
    go_wp2_with fail
    refine hins.out.mono ?_
    rintro e w8 ⟨r', cap', rfl, hRV, hD8, hr', hcp⟩
    obtain ⟨F', hCf, hFf, hFc, hFr⟩ := hC7.out.ins hP7.out hH5.out.1 (i := k + 1) (by omega) hRV hD8 hr'
    have hcr : D.r ≠ c := by obtain ⟨_, hq⟩ := hC5.out; obtain ⟨_, hb, _⟩ := hq.row; exact hb.ne hq.blk (by decide)
    have hb8 : Blk w8 c 54 (ccells D x) := hC7.out.blk.did hD8 (fun e => hcr e.symm)
    have c8 : w8.cell? ⟨c, 0, none⟩ = some (.slice (some ⟨D.r, 0, none⟩) x.l.length D.cap) := (hb8.cell 0).trans rfl
    have f8 := hb8.free 0
    have hres := Lib.hid (show ∃ D' F', CH (w8.setCell ⟨c, 0, none⟩ (.slice (some ⟨r', 0, none⟩) (x.l.length + 1) cap')) F' c D' { x with l := x.l.take (k + 1) ++ (⟨sn, false⟩ : Pa) :: x.l.drop (k + 1) } ∧ Did F w (w8.setCell ⟨c, 0, none⟩ (.slice (some ⟨r', 0, none⟩) (x.l.length + 1) cap')) ∧ Stem F F' w ∧ D'.cap ≤ 9223372036854775807 from
      ⟨_, F', hCf, ((hD5.out.alloc _).trans (Stem.refl _ _) (hD8.more fun j hj => .inl (by subst hj; exact hFr))).setCell (p := ⟨c, 0, none⟩) (.inl hFc) _, fun j hj => by
        rcases hFf j hj with h | h | h
        · exact .inl h
        · exact .inr (hH5.out.2 j h)
        · have := hD5.out.size
          simp only [World.size_alloc] at h
          try simp only [World.size_alloc] at this
          exact .inr (by omega), hcp⟩)
    clear hins hC5 hC7 hP7 hH5 hD5 hRV hD8 hr' hCf hFf hFc hFr hb8 c0 hcr r0 p1
    go_wp2
    all_goals (go_ret; exact ⟨rfl, hres.out⟩)

/-- a chain that has turned, its row perhaps elsewhere. -/
def TuD (w : World) (F : Nat → Prop) (w' : World) (c : Nat) (y : Ch) : Prop := ∃ D' F', CH w' F' c D' y ∧ Did F w w' ∧ Stem F F' w ∧ D'.cap ≤ 9223372036854775807
theorem Tu.tuD {y : Ch} (h : Tu w F w' c D y) (hcap : D.cap ≤ 9223372036854775807) : TuD w F w' c y := by
  obtain ⟨F', a, b, d⟩ := h
  exact ⟨D, F', a, b, d, hcap⟩
theorem cInsert_any (h : CH w F c D x) {M Q : Int} (ho : OkC x M Q) (hcap : D.cap ≤ 9223372036854775807) (at_ : Int) (tx : Tox) (seed now : Int) :
    Calls Try.prog 20 #[ptr c, .int .i64 at_, tx.v, .int .u64 seed, .int .i64 now] w fun e w' => e = .returned (.int .i64 (insE x at_ tx)) ∧ TuD w F w' c (insC x at_ tx seed now) := by
  obtain ⟨t0, t1, t2, t3, t4, t5⟩ := tx
  cases hno : noPlace x at_ with
  | true =>
    have e1 : insE x at_ ⟨t0, t1, t2, t3, t4, t5⟩ = 110 := by unfold insE; rw [if_pos hno]
    have e2 : insC x at_ ⟨t0, t1, t2, t3, t4, t5⟩ seed now = x := by unfold insC; rw [e1, if_pos (by decide)]
    rw [e1, e2]
    exact (ins_no h ho.two ho.ten at_ t0 t1 t2 t3 t4 t5 seed now hno).mono fun e w' ⟨he, hb⟩ => ⟨he, (Tu.below h hb).tuD hcap⟩
  | false =>
    have e1 : insE x at_ ⟨t0, t1, t2, t3, t4, t5⟩ = newE ⟨t0, t1, t2, t3, t4, t5⟩ x.room := by unfold insE; rw [if_neg (by rw [hno]; decide)]
    by_cases hz : newE ⟨t0, t1, t2, t3, t4, t5⟩ x.room = 0
    · have hk : 0 ≤ at_ ∧ at_ ≤ (x.l.length : Int) - 2 := by simp [noPlace] at hno; omega
      obtain ⟨k, rfl⟩ : ∃ k : Nat, at_ = (k : Int) := ⟨at_.toNat, by omega⟩
      have h2 := ho.two
      have hx : x.l[k + 1]? = some x.l[k + 1] := List.getElem?_eq_getElem (by omega)
      have e2 : insC x (k : Int) ⟨t0, t1, t2, t3, t4, t5⟩ seed now = { x with l := x.l.take (k + 1) ++ (if (x.l[k + 1]'(by omega)).cl = true then endA now ⟨newS ⟨t0, t1, t2, t3, t4, t5⟩ seed x.room now, false⟩ else ⟨newS ⟨t0, t1, t2, t3, t4, t5⟩ seed x.room now, false⟩) :: x.l.drop (k + 1) } := by
        unfold insC
        rw [e1, hz, if_neg (by decide)]
        show (match x.l[k + 1]? with | some b => _ | none => x) = _
        rw [hx]
        rfl
      rw [e1, hz, e2]
      exact ins_ok h ho.two ho.ten hcap k t0 t1 t2 t3 t4 t5 seed now hno hz _ hx
    · have e2 : insC x at_ ⟨t0, t1, t2, t3, t4, t5⟩ seed now = x := by unfold insC; rw [e1, if_pos hz]
      rw [e1, e2]
      exact (ins_err h ho.two ho.ten at_ t0 t1 t2 t3 t4 t5 seed now hno hz).mono fun e w' ⟨he, hb⟩ => ⟨he, (Tu.below h hb).tuD hcap⟩
end Go.Proofs.Ytigimpkjfmfkhaa.Chain
namespace Go.Proofs.Ytigimpkjfmfkhaa.Chain
open Go.RowKit Mem Tick Cargo Toxic Stage
open Go.Proofs.YtigimpkjfmfkhaaW.PrintLast Pu
set_option maxRecDepth 100000
set_option linter.unusedVariables false
set_option linter.unusedSimpArgs false
variable {w w' w1 : World} {F H : Nat → Prop} {t : Pt} {a : Pa} {c : Nat} {D : Lay} {x : Ch}
theorem rem_end {w5 w6 : World} {y : Ch} (hT : Tu w F w5 c D y) {i n : Nat} (hn : y.l.length = n) (hi : i < n) (hcap : D.cap ≤ 9223372036854775807) (hr : RV w6 D.r D.cap ((D.ps.map fun q : Pt => ptr q.p).eraseIdx i)) (hd : Did (· = D.r) w5 w6) :
    TuD w F (w6.setCell ⟨c, 0, none⟩ (.slice (some ⟨D.r, 0, none⟩) (n - 1) D.cap)) c { y with l := y.l.eraseIdx i } := by
  subst hn
  obtain ⟨F5, hC, hD, hS⟩ := hT
  obtain ⟨F', hCf, hFF, hFc, hFr⟩ := hC.del hi hr hd
  exact ⟨_, F', hCf, hD.trans hS ((hd.more fun j hj => .inl (by subst hj; exact hFr)).setCell (p := ⟨c, 0, none⟩) (.inl hFc) _), fun j hj => hS j (hFF j hj), hcap⟩
theorem w_two (k : Nat) (h : k < 10) : wrap64 ((k : Int) + 2) = (k : Int) + 2 := by unfold wrap64; omega
theorem gone_w (a b c : Nat) (ha : a ≤ 1000000000) (hb : b ≤ 1000000000) (hc : c ≤ 1000000000) : wrap64 ((b : Int) - (c : Int)) = (b : Int) - c ∧ wrap64 ((a : Int) - ((b : Int) - (c : Int))) = (a : Int) - ((b : Int) - c) := by
  constructor <;> unfold wrap64 <;> omega
theorem lost_w (a b : Int) (h0 : 0 ≤ a) (h1 : 0 ≤ b) (h : a + b ≤ 1000000000) : wrap64 (a + b) = a + b := by unfold wrap64; omega
theorem force_held (s : Sg) (now : Int) (b : ByteArray) : held (forceP s now b) = held s ∨ held (forceP s now b) = held s + b.size := by
  have h := congrArg ByteArray.size (cat_force s now b)
  rw [← held_cat] at h
  rw [h]
  split
  · exact .inl (held_cat s).symm
  · exact .inr (by rw [ByteArray.size_append, ← held_cat])
theorem rem_mass {l : List Pa} {i : Nat} {p q : Pa} (hp : l[i]? = some p) (hq : l[i + 1]? = some q) (q1 : Pa) : heldL ((l.set i (drainA p)).set (i + 1) q1) + held p.s + held q.s = heldL l + held q1.s := by
  have h1 := heldL_set hp (drainA p)
  have h2 : (l.set i (drainA p))[i + 1]? = some q := by rw [List.getElem?_set_ne (by omega)]; exact hq
  have h3 := heldL_set h2 q1
  have h4 : held (drainA p).s = 0 := rfl
  omega
theorem row_one (D : Lay) : ∀ u ∈ D.ps.map (fun q : Pt => ptr q.p), u.oneCell' = true := fun u hu => by obtain ⟨q, _, rfl⟩ := List.mem_map.1 hu; rfl
theorem rem_no (h : CH w F c D x) (h2 : 2 ≤ x.l.length) (h10 : x.l.length ≤ 10) (at_ now : Int) (hno : isB x at_ = false) :
    Calls Try.prog 33 #[ptr c, .int .i64 at_, .int .i64 now] w fun e w' => e = .returned (.int .i64 110) ∧ Below w.heap.size w w' := by
  have hi := Lib.hid (is_any h h2 h10 at_)
  rw [hno] at hi
  clear h hno
  go_enter Try.func33, Try.ntmps33
  go_wp2_with fail
  refine hi.out.mono ?_
  rintro e w1 ⟨rfl, hB⟩
  have hB1 := Lib.hid hB
  clear hB hi
  go_wp2
  go_ret
  exact ⟨rfl, hB1.out⟩
set_option maxHeartbeats 2000000 in
theorem rem_ok (h : CH w F c D x) {M Q : Int} (ho : OkC x M Q) (hM : M ≤ 1000000000) (hcap : D.cap ≤ 9223372036854775807) (k : Nat) (now : Int) (hk : k + 2 < x.l.length) :
    Calls Try.prog 33 #[ptr c, .int .i64 (k : Int), .int .i64 now] w fun e w' => e = .returned (.int .i64 0) ∧ TuD w F w' c (remAt x (k + 1) now) := by
  have h2 := ho.two
  have h10 := ho.ten
  have hm := ho.held
  have hl0 := ho.lost0
  have hlm := ho.lost
  have hdc := h.cap
  have hisb : isB x (k : Int) = true := by simp [isB]; omega
  have hi := Lib.hid (is_any h h2 h10 (k : Int))
  rw [hisb] at hi
  have hx : x.l[k + 1]? = some x.l[k + 1] := List.getElem?_eq_getElem (by omega)
  have hy : x.l[k + 2]? = some x.l[k + 2] := List.getElem?_eq_getElem hk
  generalize x.l[k + 1] = p at *
  generalize x.l[k + 2] = q at *
  obtain ⟨t, ht⟩ := h.pt hx
  obtain ⟨u, hu⟩ := h.pt hy
  have hpb := held_le hx
  have hqb1 := held_le hy
  have hko := (mem_ok ho.ok hy).1
  have hcat := held_cat p.s
  obtain ⟨Q1, hQ1⟩ : ∃ Q1 : Pa, Q1 = ⟨forceP q.s now (cat p.s.c.1), q.cl⟩ := ⟨_, rfl⟩
  obtain ⟨L1, hL1⟩ : ∃ L1, L1 = (x.l.set (k + 1) (drainA p)).set (k + 2) Q1 := ⟨_, rfl⟩
  have hmass : heldL L1 + held p.s + held q.s = heldL x.l + held Q1.s := by rw [hL1]; exact rem_mass hx hy Q1
  have hq1 : held Q1.s = held q.s ∨ held Q1.s = held q.s + held p.s := by
    rw [hQ1]
    have := force_held q.s now (cat p.s.c.1)
    rw [← hcat] at this
    exact this
  have hpq : held p.s + held q.s ≤ 1000000000 := by
    have e1 := heldL_set hx (drainA p)
    have e2 : (x.l.set (k + 1) (drainA p))[k + 2]? = some q := by rw [List.getElem?_set_ne (by omega)]; exact hy
    have e3 := held_le e2
    have e4 : held (drainA p).s = 0 := rfl
    omega
  have hLl : L1.length = x.l.length := by rw [hL1]; simp
  have hLx : L1[k + 1]? = some (drainA p) := by rw [hL1, List.getElem?_set_ne (by omega), List.getElem?_set_self (by omega)]
  have hLy : L1[k + 2]? = some Q1 := by rw [hL1, List.getElem?_set_self (by rw [List.length_set]; omega)]
  have hx2 := Lib.hid (show (x.l.set (k + 1) (drainA p))[k + 1]? = some (drainA p) by rw [List.getElem?_set_self (by omega)])
  have hy2 := Lib.hid (show (x.l.set (k + 1) (drainA p))[k + 2]? = some q by rw [List.getElem?_set_ne (by omega)]; exact hy)
  have hw1 := Lib.hid (wr_at k (by omega))
  have hw2 := Lib.hid (w_two k (by omega))
  have hgw := Lib.hid (gone_w (held p.s) (held Q1.s) (held q.s) (by omega) (by omega) (by omega))
  have hqb := Lib.hid (show held q.s ≤ 1000000000 by omega)
  have hQb := Lib.hid (show held Q1.s ≤ 1000000000 by omega)
  have hpqb := Lib.hid (show held q.s + (cat p.s.c.1).size ≤ 1000000000 by rw [← hcat]; omega)
  have hLs := Lib.hid (show x.lost + ((held p.s : Int) - ((held Q1.s : Int) - (held q.s : Int))) + heldL L1 ≤ 1000000000 by omega)
  have hlw := Lib.hid (lost_w x.lost ((held p.s : Int) - ((held Q1.s : Int) - (held q.s : Int))) hl0 (by omega) (by omega))
  have hgn0 := Lib.hid (show 0 ≤ x.lost + ((held p.s : Int) - ((held Q1.s : Int) - (held q.s : Int))) by omega)
  have hrem : Hid (remAt x (k + 1) now = { x with
      l := ((if 0 < ((held p.s : Int) - ((held Q1.s : Int) - (held q.s : Int))) then loseL (k + 1) L1 else L1).set (k + 2) (if p.cl = true then endA now Q1 else Q1)).eraseIdx (k + 1)
      lost := if 0 < ((held p.s : Int) - ((held Q1.s : Int) - (held q.s : Int))) then x.lost + ((held p.s : Int) - ((held Q1.s : Int) - (held q.s : Int))) + heldL (L1.take (k + 1)) else x.lost
      shut := if 0 < ((held p.s : Int) - ((held Q1.s : Int) - (held q.s : Int))) then true else x.shut }) := Lib.hid (by
    unfold remAt
    rw [hx, show k + 1 + 1 = k + 2 from rfl, hy, hL1, hQ1])
  have hC1d := h
  clear hisb
  have hdr0 := fun (wy : World) (hb : Below w.heap.size w wy) => cs_drain (h.below hb).drew.drew ht hx (by omega)
  have hdr1 := Lib.hid hdr0
  have hh := Lib.hid h
  have hfo := Lib.hid (fun (wy : World) (Fy : Nat → Prop) (hC : CH wy Fy c D { x with l := x.l.set (k + 1) (drainA p) }) (A : Option Addr) (cap : Nat) (hb : BS wy A (cat p.s.c.1)) (hoff : BS.Off A Fy) => cs_force hC hu hy2.out hko now A cap (cat p.s.c.1) hb hoff hpqb.out)
  have hQc : (⟨forceP q.s now (cat p.s.c.1), q.cl⟩ : Pa) = Q1 := hQ1.symm
  have hLc : (x.l.set (k + 1) (drainA p)).set (k + 2) Q1 = L1 := hL1.symm
  have hQc' := Lib.hid hQc
  have hLc' := Lib.hid hLc
  have hLx' := Lib.hid hLx
  have hLy' := Lib.hid hLy
  have hLl' := Lib.hid hLl
  have ht' := Lib.hid ht
  have hu' := Lib.hid hu
  have hx' := Lib.hid hx
  have hy' := Lib.hid hy
  have hcat' := Lib.hid hcat
  have hnn := Lib.hid (show k + 1 < x.l.length ∧ k + 2 < x.l.length from ⟨by omega, by omega⟩)
  have h10' := Lib.hid (show x.l.length ≤ 10 ∧ k + 1 ≤ x.l.length ∧ k + 1 ≤ D.cap ∧ (k : Int) + 1 ≤ (D.cap : Int) ∧ k + 2 < x.l.length ∧ x.l.length ≤ D.cap from ⟨h10, by omega, by omega, by omega, hk, hdc⟩)
  have hlen0 := Lib.hid (rfl : x.l.length = x.l.length)
  clear h ho hm hl0 hlm hx hy ht hu hpb hqb1 hko hcat hL1 hQ1 hmass hq1 hpq hLl hLx hLy hdr0 hQc hLc hC1d h2 h10 hdc hk
  generalize hn : x.l.length = n at *
  go_enter Try.func33, Try.ntmps33
  go_wp2_with fail
  refine hi.out.mono ?_
  rintro e w1 ⟨rfl, hB⟩
  have hB1 := Lib.hid hB
  have hC1 := Lib.hid (hh.out.below hB)
  have hC1d := Lib.hid (hh.out.below hB).drew.drew
  have hdr := Lib.hid (hdr1.out w1 hB)
  clear hB hi hdr1 hh
  have c0 : w1.cell? ⟨c, 0, none⟩ = some (.slice (some ⟨D.r, 0, none⟩) n D.cap) := (hC1.out.blk.cell 0).trans (by simp [ccells, hn])
  have r1 := hC1.out.rcell ht'.out
  have r2 := hC1.out.rcell hu'.out
  have d1 := (hC1.out.pcell ht'.out hx'.out).1
  have d2 := hC1.out.scell ht'.out hx'.out
  have d3 := (hC1.out.pcell hu'.out hy'.out).1
  have hz15 := Lib.hid (show n ≤ 15 ∧ n ≤ D.cap from ⟨Nat.le_trans h10'.out.1 (by decide), h10'.out.2.2.2.2.2⟩)
  have hk1 := hnn.out.1
  have hk2 := hnn.out.2
  have g1 : (0 : Int) ≤ (k : Int) + 1 := by omega
  have g2 : (k : Int) + 1 < (n : Int) := by omega
  have g3 : (0 : Int) ≤ (k : Int) + 2 := by omega
  have g4 : (k : Int) + 2 < (n : Int) := by omega
  have g5 : ((k : Int) + 1).toNat = k + 1 := by omega
  have g6 : ((k : Int) + 2).toNat = k + 2 := by omega
  have hw1' := hw1.out
  have hw2' := hw2.out
  go_wp2
  refine start_ (n := 18) (S := fun w' => w'.cell? ⟨c, 0, none⟩ = some (.slice (some ⟨D.r, 0, none⟩) n D.cap) ∧ w'.cell? ⟨D.r, k + 1, none⟩ = some (ptr t.p) ∧ w'.cell? ⟨D.r, k + 2, none⟩ = some (ptr u.p)) (ds := []) (m_ 18 0) (by kernel_rfl) rfl (by kernel_rfl) ⟨c0, r1, r2⟩ (fun hHeld => ?_)
  refine pu_ 0 (some 16) (m_ 18 1) rfl rfl (by kernel_rfl) (fun _ _ _ h => h) (by rfl) (by intro w'; go_simp; with_reducible rfl) (by simp only [Act.put, List.setIfInBounds_toArray, List.set_cons_zero, List.set_cons_succ, i64_w, i32_w]; rfl) ?_
  refine pu_ 1 (some 17) (m_ 18 3) rfl rfl (by kernel_rfl) (fun _ _ _ h => h) (by rfl) (by intro w'; go_simp; with_reducible rfl) (by simp only [Act.put, List.setIfInBounds_toArray, List.set_cons_zero, List.set_cons_succ, i64_w, i32_w]; rfl) ?_
  refine pu_ 2 (some 18) (m_ 18 7) rfl rfl (by kernel_rfl) (fun _ _ _ h => h) (by rfl) (by intro w'; go_simp; with_reducible rfl) (by simp only [Act.put, List.setIfInBounds_toArray, List.set_cons_zero, List.set_cons_succ, i64_w, i32_w]; rfl) ?_
  refine pu_ 4 (some 20) (m_ 18 23) rfl rfl (by kernel_rfl) (fun _ _ _ h => h) (by rfl) (by intro w'; go_simp; with_reducible rfl) (by simp only [Act.put, List.setIfInBounds_toArray, List.set_cons_zero, List.set_cons_succ, i64_w, i32_w]; rfl) ?_
  refine pu_ 5 (some 21) (m_ 18 55) rfl rfl (by kernel_rfl) (fun _ _ _ h => h) (by rfl) (by intro w'; go_simp; with_reducible rfl) (by simp only [Act.put, List.setIfInBounds_toArray, List.set_cons_zero, List.set_cons_succ, i64_w, i32_w]; rfl) ?_
  refine pu_ 8 (some 24) (m_ 18 311) rfl rfl (by kernel_rfl) (fun _ _ _ h => h) (by rfl) (by intro w'; go_simp; with_reducible rfl) (by simp only [Act.put, List.setIfInBounds_toArray, List.set_cons_zero, List.set_cons_succ, i64_w, i32_w]; rfl) ?_
  refine pu_ 9 (some 25) (m_ 18 823) rfl rfl (by kernel_rfl) (fun _ _ _ h => h) (by rfl) (by intro w'; go_simp; with_reducible rfl) (by simp only [Act.put, List.setIfInBounds_toArray, List.set_cons_zero, List.set_cons_succ, i64_w, i32_w]; rfl) ?_
  refine pu_ 10 (some 26) (m_ 18 1847) rfl rfl (by kernel_rfl) (fun _ _ _ h => h) (by rfl) (by intro w'; go_simp; with_reducible rfl) (by simp only [Act.put, List.setIfInBounds_toArray, List.set_cons_zero, List.set_cons_succ, i64_w, i32_w]; rfl) ?_
  refine pu_ 12 (some 28) (m_ 18 5943) rfl rfl (by kernel_rfl) (fun _ _ _ h => h) (by rfl) (by intro w'; go_simp; with_reducible rfl) (by simp only [Act.put, List.setIfInBounds_toArray, List.set_cons_zero, List.set_cons_succ, i64_w, i32_w]; rfl) ?_
  refine pu_ 13 (some 29) (m_ 18 14135) rfl rfl (by kernel_rfl) (fun _ _ _ h => h) (by rfl) (by intro w'; go_simp; with_reducible rfl) (by simp only [Act.put, List.setIfInBounds_toArray, List.set_cons_zero, List.set_cons_succ, i64_w, i32_w]; rfl) ?_
  refine tk_ 3 (some 19) (m_ 18 14143) rfl rfl (by kernel_rfl) (fun _ _ _ h => h) (by rfl) (by rintro w' ⟨s0, s1, s2⟩; go_simp; with_reducible rfl) hHeld (by simp only [Act.put, List.setIfInBounds_toArray, List.set_cons_zero, List.set_cons_succ, i64_w, i32_w]; rfl) ?_
  refine pu_ 6 (some 22) (m_ 18 14207) rfl rfl (by kernel_rfl) (fun _ _ _ h => h) (by rfl) (by intro w'; go_simp; with_reducible rfl) (by simp only [Act.put, List.setIfInBounds_toArray, List.set_cons_zero, List.set_cons_succ, i64_w, i32_w]; rfl) ?_
  refine tk_ 7 (some 23) (m_ 18 14335) rfl rfl (by kernel_rfl) (fun _ _ _ h => h) (by rfl) (by rintro w' ⟨s0, s1, s2⟩; go_simp; with_reducible rfl) hHeld (by simp only [Act.put, List.setIfInBounds_toArray, List.set_cons_zero, List.set_cons_succ, i64_w, i32_w]; rfl) ?_
  refine pu_ 16 (some 7) (m_ 18 79871) rfl rfl (by kernel_rfl) (fun _ _ _ h => h) (by rfl) (by intro w'; go_simp; with_reducible rfl) (by simp only [Act.put, List.setIfInBounds_toArray, List.set_cons_zero, List.set_cons_succ, i64_w, i32_w]; rfl) ?_
  refine tk_ 11 (some 27) (m_ 18 81919) rfl rfl (by kernel_rfl) (fun _ _ _ h => h) (by rfl) (by rintro w' ⟨s0, s1, s2⟩; go_simp; with_reducible rfl) hHeld (by simp only [Act.put, List.setIfInBounds_toArray, List.set_cons_zero, List.set_cons_succ, i64_w, i32_w]; rfl) ?_
  refine pu_ 14 (some 30) (m_ 18 98303) rfl rfl (by kernel_rfl) (fun _ _ _ h => h) (by rfl) (by intro w'; go_simp; with_reducible rfl) (by simp only [Act.put, List.setIfInBounds_toArray, List.set_cons_zero, List.set_cons_succ, i64_w, i32_w]; rfl) ?_
  refine tk_ 15 (some 31) (m_ 18 131071) rfl rfl (by kernel_rfl) (fun _ _ _ h => h) (by rfl) (by rintro w' ⟨s0, s1, s2⟩; go_simp; with_reducible rfl) hHeld (by simp only [Act.put, List.setIfInBounds_toArray, List.set_cons_zero, List.set_cons_succ, i64_w, i32_w]; rfl) ?_
  refine pu_ 17 (some 8) (m_ 18 262143) rfl rfl (by kernel_rfl) (fun _ _ _ h => h) (by rfl) (by intro w'; go_simp; with_reducible rfl) (by simp only [Act.put, List.setIfInBounds_toArray, List.set_cons_zero, List.set_cons_succ, i64_w, i32_w]; rfl) ?_
  refine done_ (by kernel_rfl) ?_
  clear hHeld
  go_wp2
  refine start_ (n := 15) (S := fun w' => w'.cell? ⟨t.p, 0, none⟩ = some (ptr t.b) ∧ w'.cell? ⟨t.b, 0, none⟩ = some (ptr t.k) ∧ w'.cell? ⟨u.p, 0, none⟩ = some (ptr u.b)) (ds := []) (m_ 15 0) (by kernel_rfl) rfl (by kernel_rfl) ⟨d1, d2, d3⟩ (fun hHeld => ?_)
  refine pu_ 0 (some 32) (m_ 15 1) rfl rfl (by kernel_rfl) (fun _ _ _ h => h) (by rfl) (by intro w'; go_simp; with_reducible rfl) (by simp only [Act.put, List.setIfInBounds_toArray, List.set_cons_zero, List.set_cons_succ, i64_w, i32_w]; rfl) ?_
  refine pu_ 1 (some 33) (m_ 15 3) rfl rfl (by kernel_rfl) (fun _ _ _ h => h) (by rfl) (by intro w'; go_simp; with_reducible rfl) (by simp only [Act.put, List.setIfInBounds_toArray, List.set_cons_zero, List.set_cons_succ, i64_w, i32_w]; rfl) ?_
  refine pu_ 2 (some 34) (m_ 15 7) rfl rfl (by kernel_rfl) (fun _ _ _ h => h) (by rfl) (by intro w'; go_simp; with_reducible rfl) (by simp only [Act.put, List.setIfInBounds_toArray, List.set_cons_zero, List.set_cons_succ, i64_w, i32_w]; rfl) ?_
  refine pu_ 8 (some 40) (m_ 15 263) rfl rfl (by kernel_rfl) (fun _ _ _ h => h) (by rfl) (by intro w'; go_simp; with_reducible rfl) (by simp only [Act.put, List.setIfInBounds_toArray, List.set_cons_zero, List.set_cons_succ, i64_w, i32_w]; rfl) ?_
  refine pu_ 9 (some 41) (m_ 15 775) rfl rfl (by kernel_rfl) (fun _ _ _ h => h) (by rfl) (by intro w'; go_simp; with_reducible rfl) (by simp only [Act.put, List.setIfInBounds_toArray, List.set_cons_zero, List.set_cons_succ, i64_w, i32_w]; rfl) ?_
  refine pu_ 10 (some 42) (m_ 15 1799) rfl rfl (by kernel_rfl) (fun _ _ _ h => h) (by rfl) (by intro w'; go_simp; with_reducible rfl) (by simp only [Act.put, List.setIfInBounds_toArray, List.set_cons_zero, List.set_cons_succ, i64_w, i32_w]; rfl) ?_
  refine tk_ 3 (some 35) (m_ 15 1807) rfl rfl (by kernel_rfl) (fun _ _ _ h => h) (by rfl) (by rintro w' ⟨s0, s1, s2⟩; go_simp; with_reducible rfl) hHeld (by simp only [Act.put, List.setIfInBounds_toArray, List.set_cons_zero, List.set_cons_succ, i64_w, i32_w]; rfl) ?_
  refine pu_ 4 (some 36) (m_ 15 1823) rfl rfl (by kernel_rfl) (fun _ _ _ h => h) (by rfl) (by intro w'; go_simp; with_reducible rfl) (by simp only [Act.put, List.setIfInBounds_toArray, List.set_cons_zero, List.set_cons_succ, i64_w, i32_w]; rfl) ?_
  refine pu_ 5 (some 37) (m_ 15 1855) rfl rfl (by kernel_rfl) (fun _ _ _ h => h) (by rfl) (by intro w'; go_simp; with_reducible rfl) (by simp only [Act.put, List.setIfInBounds_toArray, List.set_cons_zero, List.set_cons_succ, i64_w, i32_w]; rfl) ?_
  refine tk_ 6 (some 38) (m_ 15 1919) rfl rfl (by kernel_rfl) (fun _ _ _ h => h) (by rfl) (by rintro w' ⟨s0, s1, s2⟩; go_simp; with_reducible rfl) hHeld (by simp only [Act.put, List.setIfInBounds_toArray, List.set_cons_zero, List.set_cons_succ, i64_w, i32_w]; rfl) ?_
  refine tk_ 11 (some 43) (m_ 15 3967) rfl rfl (by kernel_rfl) (fun _ _ _ h => h) (by rfl) (by rintro w' ⟨s0, s1, s2⟩; go_simp; with_reducible rfl) hHeld (by simp only [Act.put, List.setIfInBounds_toArray, List.set_cons_zero, List.set_cons_succ, i64_w, i32_w]; rfl) ?_
  refine one_ (i := 7) (N := some 39) (m_ 15 4095) rfl rfl (by kernel_rfl) (by decide) (fun K hK => ?_)
  refine goes_ Try.func50 (by kernel_rfl) rfl #[ptr t.k] (by rfl) rfl rfl (by simp only [List.map_toArray, List.map_cons, List.map_nil]; rfl) ?_
  with_reducible refine (hdr.out).mono ?_
  rintro e w2 ⟨A2, cp2, rfl, hb2, hn2, F2, hC2, hD2, hS2, hF2⟩
  have e1 := (hC2.pcell ht'.out hx2.out).1
  have e2 := hC2.scell ht'.out hx2.out
  have e3 := (hC2.pcell hu'.out hy2.out).1
  have hhe := Lib.hid (cs_held hC2 hu'.out hy2.out hqb.out)
  have hb2' := Lib.hid hb2
  have hT2 := Lib.hid (TuS.off hC1d.out ⟨F2, hC2, hD2, hS2, hF2⟩ hn2)
  clear hb2 hn2 hC2 hD2 hS2 hF2 hdr
  refine ⟨_, rfl, ?_⟩
  refine hK.out _ _ ⟨e1, e2, e3⟩ (fun hHeld => ?_)
  clear hK K
  refine norm_ (a' := ?_) ?_ ?_
  rotate_left
  · show Act.put _ (some 39) _ = _
    simp only [Act.put, List.setIfInBounds_toArray, List.set_cons_zero, List.set_cons_succ, i64_w, i32_w]
    rfl
  refine one_ (i := 12) (N := some 44) (m_ 15 8191) rfl rfl (by kernel_rfl) (by decide) (fun K hK => ?_)
  refine goes_ Try.func32 (by kernel_rfl) rfl #[ptr u.b] (by rfl) rfl rfl (by simp only [List.map_toArray, List.map_cons, List.map_nil]; rfl) ?_
  with_reducible refine (hhe.out).mono ?_
  rintro e w3 ⟨rfl, hB⟩
  have j1 := bcells hB e1
  have j2 := bcells hB e2
  have j3 := bcells hB e3
  have hB3 := Lib.hid hB
  clear hB hhe e1 e2 e3
  refine ⟨_, rfl, ?_⟩
  refine hK.out _ _ ⟨j1, j2, j3⟩ (fun hHeld => ?_)
  clear hK K
  refine norm_ (a' := ?_) ?_ ?_
  rotate_left
  · show Act.put _ (some 44) _ = _
    simp only [Act.put, List.setIfInBounds_toArray, List.set_cons_zero, List.set_cons_succ, i64_w, i32_w]
    rfl
  refine pu_ 13 (some 9) (m_ 15 16383) rfl rfl (by kernel_rfl) (fun _ _ _ h => h) (by rfl) (by intro w'; go_simp; with_reducible rfl) (by simp only [Act.put, List.setIfInBounds_toArray, List.set_cons_zero, List.set_cons_succ, i64_w, i32_w]; rfl) ?_
  refine pu_ 14 (some 10) (m_ 15 32767) rfl rfl (by kernel_rfl) (fun _ _ _ h => h) (by rfl) (by intro w'; go_simp; with_reducible rfl) (by simp only [Act.put, List.setIfInBounds_toArray, List.set_cons_zero, List.set_cons_succ, i64_w, i32_w]; rfl) ?_
  refine done_ (by kernel_rfl) ?_
  clear hHeld
  obtain ⟨F3, hC3, hD3, hS3, hO3⟩ := hT2.out
  have hf := Lib.hid (hfo.out _ _ (hC3.below hB3.out) A2 cp2 (hb2'.out.below hB3.out) hO3)
  have hDS3 := Lib.hid (And.intro ((Did.of_below hB1.out : Did F w w1).drew.drew.trans (Stem.refl _ _) (hD3.trans hS3 (Did.of_below hB3.out))) (show Stem F F3 w from fun j hj => (hS3 j hj).imp id fun e => Nat.le_trans hB1.out.size e))
  clear hC3 hD3 hS3 hO3 hT2 hfo hb2' hB3 hC1 hC1d hB1 c0 r1 r2 d1 d2 d3
  go_wp2_with fail
  refine hf.out.mono ?_
  rintro e w4 ⟨rfl, hT4⟩
  rw [hQc'.out] at hT4
  have hT4' : Hid (Tu w F w4 c D { x with l := L1 }) := Lib.hid (by rw [← hLc'.out]; exact Tu.next hDS3.out.1 hDS3.out.2 hT4)
  clear hT4 hf hDS3 j1 j2 j3
  obtain ⟨F4, hC4, hD4, hS4⟩ := hT4'.out
  have d3 := (hC4.pcell hu'.out hLy'.out).1
  have hhe := Lib.hid (cs_held hC4 hu'.out hLy'.out hQb.out)
  have hC4' := Lib.hid hC4
  have hDS4 := Lib.hid (And.intro hD4 hS4)
  clear hC4 hD4 hS4
  go_wp2_with fail
  refine hhe.out.mono ?_
  rintro e w5 ⟨rfl, hB⟩
  have hTC0 : Hid (∃ F', CH w5 F' c D { x with l := L1 } ∧ Did F w w5 ∧ Stem F F' w) := Lib.hid ⟨F4, hC4'.out.below hB, hDS4.out.1.trans hDS4.out.2 (Did.of_below hB), hDS4.out.2⟩
  clear hB hhe hC4' hDS4 d3 hT4'
  have hg1 := hgw.out.1
  have hg2 : wrap64 (((cat p.s.c.1).size : Int) - ((held Q1.s : Int) - (held q.s : Int))) = (held p.s : Int) - ((held Q1.s : Int) - (held q.s : Int)) := by rw [← hcat'.out]; exact hgw.out.2
  by_cases hg : 0 < ((held p.s : Int) - ((held Q1.s : Int) - (held q.s : Int)))
  · have tg : decide (0 < ((held p.s : Int) - ((held Q1.s : Int) - (held q.s : Int)))) = true := by simpa using hg
    have c0 : w5.cell? ⟨c, 0, none⟩ = some (.slice (some ⟨D.r, 0, none⟩) n D.cap) := (hTC0.out.choose_spec.1.blk.cell 0).trans (by simp [ccells, hLl'.out])
    have c2 : w5.cell? ⟨c, 2, none⟩ = some (.int .i64 x.lost) := (hTC0.out.choose_spec.1.blk.cell 2).trans rfl
    have f2 := hTC0.out.choose_spec.1.blk.free 2
    have hset := Lib.hid (Tu.set (show Tu w F w5 c D { x with l := L1 } from hTC0.out) 2 (.int .i64 (x.lost + ((held p.s : Int) - ((held Q1.s : Int) - (held q.s : Int))))) { x with l := L1, lost := x.lost + ((held p.s : Int) - ((held Q1.s : Int) - (held q.s : Int))) } rfl rfl)
    have hlo := Lib.hid (lose_any hset.out.choose_spec.1 (k + 1) (by rw [hLl'.out]; exact h10'.out.2.1) D.cap h10'.out.2.2.1 (by rw [hLl'.out]; exact h10'.out.1) hgn0.out hLs.out)
    have e0 := hset.out.choose_spec.1.blk.cell 0
    have e0' : (w5.setCell ⟨c, 2, none⟩ (.int .i64 (x.lost + ((held p.s : Int) - ((held Q1.s : Int) - (held q.s : Int)))))).cell? ⟨c, 0, none⟩ = some (.slice (some ⟨D.r, 0, none⟩) n D.cap) := e0.trans (by simp [ccells, hLl'.out])
    have hlw' := hlw.out
    have g7 := h10'.out.2.2.2.1
    have hrw : ((if 0 < ((held p.s : Int) - ((held Q1.s : Int) - (held q.s : Int))) then loseL (k + 1) L1 else L1)) = loseL (k + 1) L1 := if_pos hg
    have hrw2 : (if 0 < ((held p.s : Int) - ((held Q1.s : Int) - (held q.s : Int))) then x.lost + ((held p.s : Int) - ((held Q1.s : Int) - (held q.s : Int))) + heldL (L1.take (k + 1)) else x.lost) = x.lost + ((held p.s : Int) - ((held Q1.s : Int) - (held q.s : Int))) + heldL (L1.take (k + 1)) := if_pos hg
    have hrw3 : (if 0 < ((held p.s : Int) - ((held Q1.s : Int) - (held q.s : Int))) then true else x.shut) = true := if_pos hg
    rw [hrw, hrw2, hrw3] at hrem
    clear hTC0 e0 hrw hrw2 hrw3 hg
    generalize hG : ((held p.s : Int) - ((held Q1.s : Int) - (held q.s : Int))) = G at *
    go_wp2_with fail
    refine hlo.out.mono ?_
    rintro e w6 ⟨rfl, hT6⟩
    have hTC : Hid (∃ F', CH w6 F' c D (loseC (k + 1) { x with l := L1, lost := x.lost + G }) ∧ Did F w w6 ∧ Stem F F' w) := Lib.hid (Tu.next hset.out.choose_spec.2.1 hset.out.choose_spec.2.2 hT6)
    have hlq := Lib.hid (show (loseC (k + 1) { x with l := L1, lost := x.lost + G }).l.length = n from (loseL_length _ _).trans hLl'.out)
    have hYx : (loseC (k + 1) { x with l := L1, lost := x.lost + G }).l[k + 1]? = some (drainA p) := (lose_get (Nat.le_refl _)).trans hLx'.out
    have hYy : (loseC (k + 1) { x with l := L1, lost := x.lost + G }).l[k + 2]? = some Q1 := (lose_get (by omega)).trans hLy'.out
    have hYx' := Lib.hid hYx
    have hYy' := Lib.hid hYy
    clear hT6 hset hlo e0' c0 c2 f2 tg hYx hYy
    have p9 := (hTC.out.choose_spec.1.pcell ht'.out hYx'.out).2
    cases hcl : p.cl with
    | true =>
      rw [show (drainA p).cl = p.cl from rfl, hcl] at p9
      have hen := Lib.hid (cs_end hTC.out.choose_spec.1 hu'.out hYy'.out now)
      have hTq := Lib.hid hTC.out.choose_spec.2
      go_wp2_with fail
      refine hen.out.mono ?_
      rintro e w7 ⟨rfl, hT7⟩
      have hT := Lib.hid (Tu.next hTq.out.1 hTq.out.2 hT7)
      have hfin : Hid (∀ wz, TuD w F wz c { (loseC (k + 1) { x with l := L1, lost := x.lost + G }) with l := (((loseC (k + 1) { x with l := L1, lost := x.lost + G })).l.set (k + 2) (endA now Q1)).eraseIdx (k + 1) } → TuD w F wz c (remAt x (k + 1) now)) := Lib.hid (fun wz h => by rw [hrem.out]; rw [if_pos hcl]; exact h)
      clear hT7 hen hTq hTC p9
      obtain ⟨F9, hC9, hD9, hS9⟩ := hT.out
      have hln9 : ({ (loseC (k + 1) { x with l := L1, lost := x.lost + G }) with l := ((loseC (k + 1) { x with l := L1, lost := x.lost + G })).l.set (k + 2) (endA now Q1) }).l.length = n := (by rw [List.length_set]; exact hlq.out)
      have hcc9 : ccells D ({ (loseC (k + 1) { x with l := L1, lost := x.lost + G }) with l := ((loseC (k + 1) { x with l := L1, lost := x.lost + G })).l.set (k + 2) (endA now Q1) }) = #[.slice (some ⟨D.r, 0, none⟩) n D.cap, .int .i64 ({ (loseC (k + 1) { x with l := L1, lost := x.lost + G }) with l := ((loseC (k + 1) { x with l := L1, lost := x.lost + G })).l.set (k + 2) (endA now Q1) }).room, .int .i64 ({ (loseC (k + 1) { x with l := L1, lost := x.lost + G }) with l := ((loseC (k + 1) { x with l := L1, lost := x.lost + G })).l.set (k + 2) (endA now Q1) }).lost, .bool ({ (loseC (k + 1) { x with l := L1, lost := x.lost + G }) with l := ((loseC (k + 1) { x with l := L1, lost := x.lost + G })).l.set (k + 2) (endA now Q1) }).shut, .int .i64 ({ (loseC (k + 1) { x with l := L1, lost := x.lost + G }) with l := ((loseC (k + 1) { x with l := L1, lost := x.lost + G })).l.set (k + 2) (endA now Q1) }).state] := by unfold ccells; rw [hln9]
      have hb9 : Blk w7 c 54 #[.slice (some ⟨D.r, 0, none⟩) n D.cap, .int .i64 ({ (loseC (k + 1) { x with l := L1, lost := x.lost + G }) with l := ((loseC (k + 1) { x with l := L1, lost := x.lost + G })).l.set (k + 2) (endA now Q1) }).room, .int .i64 ({ (loseC (k + 1) { x with l := L1, lost := x.lost + G }) with l := ((loseC (k + 1) { x with l := L1, lost := x.lost + G })).l.set (k + 2) (endA now Q1) }).lost, .bool ({ (loseC (k + 1) { x with l := L1, lost := x.lost + G }) with l := ((loseC (k + 1) { x with l := L1, lost := x.lost + G })).l.set (k + 2) (endA now Q1) }).shut, .int .i64 ({ (loseC (k + 1) { x with l := L1, lost := x.lost + G }) with l := ((loseC (k + 1) { x with l := L1, lost := x.lost + G })).l.set (k + 2) (endA now Q1) }).state] := by rw [← hcc9]; exact hC9.blk
      have c9 : w7.cell? ⟨c, 0, none⟩ = some (.slice (some ⟨D.r, 0, none⟩) n D.cap) := (hb9.cell 0).trans rfl
      have hcr : D.r ≠ c := by obtain ⟨_, hq⟩ := hC9; obtain ⟨_, hb, _⟩ := hq.row; exact hb.ne hq.blk (by decide)
      have hz := hz15.out
      have hdel : Hid (Calls Try.prog 54 #[.slice (some ⟨D.r, 0, none⟩) n D.cap, .int .i64 ((k : Int) + 1), .int .i64 ((k : Int) + 2)] w7 fun e w' =>
            e = .returned (.slice (some ⟨D.r, 0, none⟩) (n - 1) D.cap) ∧ RV w' D.r D.cap ((D.ps.map fun q : Pt => ptr q.p).eraseIdx (k + 1)) ∧ Did (· = D.r) w7 w') :=
        Lib.hid (by
          have := delete_any w7 D.r n D.cap (k + 1) (D.ps.map fun q : Pt => ptr q.p) (row_one D) (by rw [List.length_map]; exact hC9.len.trans hln9) hk2 hz.1 hz.2 hcap hC9.rv
          rw [show ((k + 1 : Nat) : Int) + 1 = (k : Int) + 2 by omega, show ((k + 1 : Nat) : Int) = (k : Int) + 1 by omega] at this
          exact this)
      have hb9' := Lib.hid hb9
      have hcr' := Lib.hid hcr
      clear hz hC9 hD9 hS9 hln9 hcc9 hb9 hcr
      go_wp2_with fail
      refine hdel.out.mono ?_
      rintro e w8 ⟨rfl, hRV, hD8⟩
      have hb8 := hb9'.out.did hD8 (fun e => hcr'.out e.symm)
      have c8 : w8.cell? ⟨c, 0, none⟩ = some (.slice (some ⟨D.r, 0, none⟩) n D.cap) := (hb8.cell 0).trans rfl
      have f8 := hb8.free 0
      have hres := Lib.hid (rem_end hT.out (y := { (loseC (k + 1) { x with l := L1, lost := x.lost + G }) with l := ((loseC (k + 1) { x with l := L1, lost := x.lost + G })).l.set (k + 2) (endA now Q1) }) (i := k + 1) (n := n) (by rw [List.length_set]; exact hlq.out) hk1 hcap hRV hD8)
      clear hdel hb9' hcr' hRV hD8 hb8 c9
      go_wp2
      go_ret
      exact ⟨rfl, hfin.out _ hres.out⟩
    | false =>
      rw [show (drainA p).cl = p.cl from rfl, hcl] at p9
      have hT := hTC
      have hfin : Hid (∀ wz, TuD w F wz c { (loseC (k + 1) { x with l := L1, lost := x.lost + G }) with l := ((loseC (k + 1) { x with l := L1, lost := x.lost + G })).l.eraseIdx (k + 1) } → TuD w F wz c (remAt x (k + 1) now)) := Lib.hid (fun wz h => by rw [hrem.out]; rw [if_neg (by rw [hcl]; decide), set_self (show (loseL (k + 1) L1)[k + 2]? = some Q1 from hYy'.out)]; exact h)
      obtain ⟨F9, hC9, hD9, hS9⟩ := hT.out
      have hln9 : ((loseC (k + 1) { x with l := L1, lost := x.lost + G })).l.length = n := hlq.out
      have hcc9 : ccells D ((loseC (k + 1) { x with l := L1, lost := x.lost + G })) = #[.slice (some ⟨D.r, 0, none⟩) n D.cap, .int .i64 ((loseC (k + 1) { x with l := L1, lost := x.lost + G })).room, .int .i64 ((loseC (k + 1) { x with l := L1, lost := x.lost + G })).lost, .bool ((loseC (k + 1) { x with l := L1, lost := x.lost + G })).shut, .int .i64 ((loseC (k + 1) { x with l := L1, lost := x.lost + G })).state] := by unfold ccells; rw [hln9]
      have hb9 : Blk w6 c 54 #[.slice (some ⟨D.r, 0, none⟩) n D.cap, .int .i64 ((loseC (k + 1) { x with l := L1, lost := x.lost + G })).room, .int .i64 ((loseC (k + 1) { x with l := L1, lost := x.lost + G })).lost, .bool ((loseC (k + 1) { x with l := L1, lost := x.lost + G })).shut, .int .i64 ((loseC (k + 1) { x with l := L1, lost := x.lost + G })).state] := by rw [← hcc9]; exact hC9.blk
      have c9 : w6.cell? ⟨c, 0, none⟩ = some (.slice (some ⟨D.r, 0, none⟩) n D.cap) := (hb9.cell 0).trans rfl
      have hcr : D.r ≠ c := by obtain ⟨_, hq⟩ := hC9; obtain ⟨_, hb, _⟩ := hq.row; exact hb.ne hq.blk (by decide)
      have hz := hz15.out
      have hdel : Hid (Calls Try.prog 54 #[.slice (some ⟨D.r, 0, none⟩) n D.cap, .int .i64 ((k : Int) + 1), .int .i64 ((k : Int) + 2)] w6 fun e w' =>
            e = .returned (.slice (some ⟨D.r, 0, none⟩) (n - 1) D.cap) ∧ RV w' D.r D.cap ((D.ps.map fun q : Pt => ptr q.p).eraseIdx (k + 1)) ∧ Did (· = D.r) w6 w') :=
        Lib.hid (by
          have := delete_any w6 D.r n D.cap (k + 1) (D.ps.map fun q : Pt => ptr q.p) (row_one D) (by rw [List.length_map]; exact hC9.len.trans hln9) hk2 hz.1 hz.2 hcap hC9.rv
          rw [show ((k + 1 : Nat) : Int) + 1 = (k : Int) + 2 by omega, show ((k + 1 : Nat) : Int) = (k : Int) + 1 by omega] at this
          exact this)
      have hb9' := Lib.hid hb9
      have hcr' := Lib.hid hcr
      clear hz hC9 hD9 hS9 hln9 hcc9 hb9 hcr
      go_wp2_with fail
      refine hdel.out.mono ?_
      rintro e w8 ⟨rfl, hRV, hD8⟩
      have hb8 := hb9'.out.did hD8 (fun e => hcr'.out e.symm)
      have c8 : w8.cell? ⟨c, 0, none⟩ = some (.slice (some ⟨D.r, 0, none⟩) n D.cap) := (hb8.cell 0).trans rfl
      have f8 := hb8.free 0
      have hres := Lib.hid (rem_end hT.out (y := (loseC (k + 1) { x with l := L1, lost := x.lost + G })) (i := k + 1) (n := n) hlq.out hk1 hcap hRV hD8)
      clear hdel hb9' hcr' hRV hD8 hb8 c9
      go_wp2
      go_ret
      exact ⟨rfl, hfin.out _ hres.out⟩
  · have tg : decide (0 < ((held p.s : Int) - ((held Q1.s : Int) - (held q.s : Int)))) = false := by simpa using hg
    have hrw : ((if 0 < ((held p.s : Int) - ((held Q1.s : Int) - (held q.s : Int))) then loseL (k + 1) L1 else L1)) = L1 := if_neg hg
    have hrw2 : (if 0 < ((held p.s : Int) - ((held Q1.s : Int) - (held q.s : Int))) then x.lost + ((held p.s : Int) - ((held Q1.s : Int) - (held q.s : Int))) + heldL (L1.take (k + 1)) else x.lost) = x.lost := if_neg hg
    have hrw3 : (if 0 < ((held p.s : Int) - ((held Q1.s : Int) - (held q.s : Int))) then true else x.shut) = x.shut := if_neg hg
    rw [hrw, hrw2, hrw3] at hrem
    have hTC := hTC0
    have hlq := Lib.hid (show ({ x with l := L1 } : Ch).l.length = n from hLl'.out)
    clear hTC0 hrw hrw2 hrw3 hg
    generalize hG : ((held p.s : Int) - ((held Q1.s : Int) - (held q.s : Int))) = G at *
    have p9 := (hTC.out.choose_spec.1.pcell ht'.out hLx'.out).2
    cases hcl : p.cl with
    | true =>
      rw [show (drainA p).cl = p.cl from rfl, hcl] at p9
      have hen := Lib.hid (cs_end hTC.out.choose_spec.1 hu'.out hLy'.out now)
      have hTq := Lib.hid hTC.out.choose_spec.2
      go_wp2_with fail
      refine hen.out.mono ?_
      rintro e w7 ⟨rfl, hT7⟩
      have hT := Lib.hid (Tu.next hTq.out.1 hTq.out.2 hT7)
      have hfin : Hid (∀ wz, TuD w F wz c { ({ x with l := L1 } : Ch) with l := ((({ x with l := L1 } : Ch)).l.set (k + 2) (endA now Q1)).eraseIdx (k + 1) } → TuD w F wz c (remAt x (k + 1) now)) := Lib.hid (fun wz h => by rw [hrem.out]; rw [if_pos hcl]; exact h)
      clear hT7 hen hTq hTC p9
      obtain ⟨F9, hC9, hD9, hS9⟩ := hT.out
      have hln9 : ({ ({ x with l := L1 } : Ch) with l := (({ x with l := L1 } : Ch)).l.set (k + 2) (endA now Q1) }).l.length = n := (by rw [List.length_set]; exact hlq.out)
      have hcc9 : ccells D ({ ({ x with l := L1 } : Ch) with l := (({ x with l := L1 } : Ch)).l.set (k + 2) (endA now Q1) }) = #[.slice (some ⟨D.r, 0, none⟩) n D.cap, .int .i64 ({ ({ x with l := L1 } : Ch) with l := (({ x with l := L1 } : Ch)).l.set (k + 2) (endA now Q1) }).room, .int .i64 ({ ({ x with l := L1 } : Ch) with l := (({ x with l := L1 } : Ch)).l.set (k + 2) (endA now Q1) }).lost, .bool ({ ({ x with l := L1 } : Ch) with l := (({ x with l := L1 } : Ch)).l.set (k + 2) (endA now Q1) }).shut, .int .i64 ({ ({ x with l := L1 } : Ch) with l := (({ x with l := L1 } : Ch)).l.set (k + 2) (endA now Q1) }).state] := by unfold ccells; rw [hln9]
      have hb9 : Blk w7 c 54 #[.slice (some ⟨D.r, 0, none⟩) n D.cap, .int .i64 ({ ({ x with l := L1 } : Ch) with l := (({ x with l := L1 } : Ch)).l.set (k + 2) (endA now Q1) }).room, .int .i64 ({ ({ x with l := L1 } : Ch) with l := (({ x with l := L1 } : Ch)).l.set (k + 2) (endA now Q1) }).lost, .bool ({ ({ x with l := L1 } : Ch) with l := (({ x with l := L1 } : Ch)).l.set (k + 2) (endA now Q1) }).shut, .int .i64 ({ ({ x with l := L1 } : Ch) with l := (({ x with l := L1 } : Ch)).l.set (k + 2) (endA now Q1) }).state] := by rw [← hcc9]; exact hC9.blk
      have c9 : w7.cell? ⟨c, 0, none⟩ = some (.slice (some ⟨D.r, 0, none⟩) n D.cap) := (hb9.cell 0).trans rfl
      have hcr : D.r ≠ c := by obtain ⟨_, hq⟩ := hC9; obtain ⟨_, hb, _⟩ := hq.row; exact hb.ne hq.blk (by decide)
      have hz := hz15.out
      have hdel : Hid (Calls Try.prog 54 #[.slice (some ⟨D.r, 0, none⟩) n D.cap, .int .i64 ((k : Int) + 1), .int .i64 ((k : Int) + 2)] w7 fun e w' =>
            e = .returned (.slice (some ⟨D.r, 0, none⟩) (n - 1) D.cap) ∧ RV w' D.r D.cap ((D.ps.map fun q : Pt => ptr q.p).eraseIdx (k + 1)) ∧ Did (· = D.r) w7 w') :=
        Lib.hid (by
          have := delete_any w7 D.r n D.cap (k + 1) (D.ps.map fun q : Pt => ptr q.p) (row_one D) (by rw [List.length_map]; exact hC9.len.trans hln9) hk2 hz.1 hz.2 hcap hC9.rv
          rw [show ((k + 1 : Nat) : Int) + 1 = (k : Int) + 2 by omega, show ((k + 1 : Nat) : Int) = (k : Int) + 1 by omega] at this
          exact this)
      have hb9' := Lib.hid hb9
      have hcr' := Lib.hid hcr
      clear hz hC9 hD9 hS9 hln9 hcc9 hb9 hcr
      go_wp2_with fail
      refine hdel.out.mono ?_
      rintro e w8 ⟨rfl, hRV, hD8⟩
      have hb8 := hb9'.out.did hD8 (fun e => hcr'.out e.symm)
      have c8 : w8.cell? ⟨c, 0, none⟩ = some (.slice (some ⟨D.r, 0, none⟩) n D.cap) := (hb8.cell 0).trans rfl
      have f8 := hb8.free 0
      have hres := Lib.hid (rem_end hT.out (y := { ({ x with l := L1 } : Ch) with l := (({ x with l := L1 } : Ch)).l.set (k + 2) (endA now Q1) }) (i := k + 1) (n := n) (by rw [List.length_set]; exact hlq.out) hk1 hcap hRV hD8)
      clear hdel hb9' hcr' hRV hD8 hb8 c9
      go_wp2
      go_ret
      exact ⟨rfl, hfin.out _ hres.out⟩
    | false =>
      rw [show (drainA p).cl = p.cl from rfl, hcl] at p9
      have hT := hTC
      have hfin : Hid (∀ wz, TuD w F wz c { ({ x with l := L1 } : Ch) with l := (({ x with l := L1 } : Ch)).l.eraseIdx (k + 1) } → TuD w F wz c (remAt x (k + 1) now)) := Lib.hid (fun wz h => by rw [hrem.out]; rw [if_neg (by rw [hcl]; decide), set_self hLy'.out]; exact h)
      obtain ⟨F9, hC9, hD9, hS9⟩ := hT.out
      have hln9 : (({ x with l := L1 } : Ch)).l.length = n := hlq.out
      have hcc9 : ccells D (({ x with l := L1 } : Ch)) = #[.slice (some ⟨D.r, 0, none⟩) n D.cap, .int .i64 (({ x with l := L1 } : Ch)).room, .int .i64 (({ x with l := L1 } : Ch)).lost, .bool (({ x with l := L1 } : Ch)).shut, .int .i64 (({ x with l := L1 } : Ch)).state] := by unfold ccells; rw [hln9]
      have hb9 : Blk w5 c 54 #[.slice (some ⟨D.r, 0, none⟩) n D.cap, .int .i64 (({ x with l := L1 } : Ch)).room, .int .i64 (({ x with l := L1 } : Ch)).lost, .bool (({ x with l := L1 } : Ch)).shut, .int .i64 (({ x with l := L1 } : Ch)).state] := by rw [← hcc9]; exact hC9.blk
      have c9 : w5.cell? ⟨c, 0, none⟩ = some (.slice (some ⟨D.r, 0, none⟩) n D.cap) := (hb9.cell 0).trans rfl
      have hcr : D.r ≠ c := by obtain ⟨_, hq⟩ := hC9; obtain ⟨_, hb, _⟩ := hq.row; exact hb.ne hq.blk (by decide)
      have hz := hz15.out
      have hdel : Hid (Calls Try.prog 54 #[.slice (some ⟨D.r, 0, none⟩) n D.cap, .int .i64 ((k : Int) + 1), .int .i64 ((k : Int) + 2)] w5 fun e w' =>
            e = .returned (.slice (some ⟨D.r, 0, none⟩) (n - 1) D.cap) ∧ RV w' D.r D.cap ((D.ps.map fun q : Pt => ptr q.p).eraseIdx (k + 1)) ∧ Did (· = D.r) w5 w') :=
        Lib.hid (by
          have := delete_any w5 D.r n D.cap (k + 1) (D.ps.map fun q : Pt => ptr q.p) (row_one D) (by rw [List.length_map]; exact hC9.len.trans hln9) hk2 hz.1 hz.2 hcap hC9.rv
          rw [show ((k + 1 : Nat) : Int) + 1 = (k : Int) + 2 by omega, show ((k + 1 : Nat) : Int) = (k : Int) + 1 by omega] at this
          exact this)
      have hb9' := Lib.hid hb9
      have hcr' := Lib.hid hcr
      clear hz hC9 hD9 hS9 hln9 hcc9 hb9 hcr
      go_wp2_with fail
      refine hdel.out.mono ?_
      rintro e w8 ⟨rfl, hRV, hD8⟩
      have hb8 := hb9'.out.did hD8 (fun e => hcr'.out e.symm)
      have c8 : w8.cell? ⟨c, 0, none⟩ = some (.slice (some ⟨D.r, 0, none⟩) n D.cap) := (hb8.cell 0).trans rfl
      have f8 := hb8.free 0
      have hres := Lib.hid (rem_end hT.out (y := ({ x with l := L1 } : Ch)) (i := k + 1) (n := n) hlq.out hk1 hcap hRV hD8)
      clear hdel hb9' hcr' hRV hD8 hb8 c9
      go_wp2
      go_ret
      exact ⟨rfl, hfin.out _ hres.out⟩
theorem cRemove_any (h : CH w F c D x) {M Q : Int} (ho : OkC x M Q) (hM : M ≤ 1000000000) (hcap : D.cap ≤ 9223372036854775807) (at_ now : Int) :
    Calls Try.prog 33 #[ptr c, .int .i64 at_, .int .i64 now] w fun e w' => e = .returned (.int .i64 (remE x at_)) ∧ TuD w F w' c (remC x at_ now) := by
  unfold remE remC
  cases hb : isB x at_ with
  | false =>
    rw [if_neg (by decide), if_neg (by decide)]
    exact (rem_no h ho.two ho.ten at_ now hb).mono fun e w' ⟨he, hB⟩ => ⟨he, (Tu.below h hB).tuD hcap⟩
  | true =>
    rw [if_pos rfl, if_pos rfl]
    have hb' : 0 ≤ at_ ∧ at_ < (x.l.length : Int) - 2 := by simpa [isB] using hb
    obtain ⟨k, rfl⟩ : ∃ k : Nat, at_ = (k : Int) := ⟨at_.toNat, by omega⟩
    exact rem_ok h ho hM hcap k now (by omega)
end Go.Proofs.Ytigimpkjfmfkhaa.Chain
namespace Go.Proofs.Ytigimpkjfmfkhaa.Chain
open Go.RowKit Mem Tick Cargo Toxic Stage
set_option maxRecDepth 100000
set_option linter.unusedVariables false
set_option linter.unusedSimpArgs false
variable {w w' w1 : World} {F H : Nat → Prop} {t : Pt} {a : Pa} {c : Nat} {D : Lay} {x : Ch}
theorem toxic_any {b k : Nat} {s : Sg} (h : SG w F b k s) :
    Calls Try.prog 41 #[ptr b] w fun e w' => e = .returned s.t.v ∧ Below w.heap.size w w' := by
  have c1 : w.cell? ⟨b, 1, none⟩ = some (.string s.t.name) := (h.blk.cell 1).trans rfl
  have c2 : w.cell? ⟨b, 2, none⟩ = some (.int .i64 s.t.kind) := (h.blk.cell 2).trans rfl
  have c3 : w.cell? ⟨b, 3, none⟩ = some (.bool s.t.up) := (h.blk.cell 3).trans rfl
  have c4 : w.cell? ⟨b, 4, none⟩ = some (.int .i64 s.t.often) := (h.blk.cell 4).trans rfl
  have c5 : w.cell? ⟨b, 5, none⟩ = some (.int .i64 s.t.a) := (h.blk.cell 5).trans rfl
  have c6 : w.cell? ⟨b, 6, none⟩ = some (.int .i64 s.t.b) := (h.blk.cell 6).trans rfl
  have hl : b < w.heap.size := h.lt h.mine
  have hne : b ≠ w.heap.size := by omega
  clear h
  go_enter Try.func41, Try.ntmps41
  go_wp2
  exact bodyPost_ret (v := s.t.v) (results_cell_row Try.results41 _ _ w.heap.size 38 _ (0, 0) _ rfl (Blk.new w 38 #[.string s.t.name, .int .i64 s.t.kind, .bool s.t.up, .int .i64 s.t.often, .int .i64 s.t.a, .int .i64 s.t.b]) Try.underlying38 rfl (by kernel_rfl)) rfl ⟨rfl, (Below.refl w.heap.size w).alloc (Nat.le_refl _) _⟩
theorem cs_toxic (h : CH w F c D x) {i : Nat} (ht : D.ps[i]? = some t) (hi : x.l[i]? = some a) :
    Calls Try.prog 41 #[ptr t.b] w fun e w' => e = .returned a.s.t.v ∧ Below w.heap.size w w' := by
  obtain ⟨G, hs, _, _⟩ := h.stage ht hi
  exact toxic_any hs
/-- the toxics of the stages within. -/
def toxs (x : Ch) : List Tox := ((x.l.drop 1).take (x.l.length - 2)).map fun a => a.s.t
def tcells (l : List Tox) : List Value := l.flatMap fun t => t.cells.toList
theorem tcells_snoc (l : List Tox) (t : Tox) : tcells (l ++ [t]) = tcells l ++ t.cells.toList := by unfold tcells; rw [List.flatMap_append]; simp
/-- a row of toxics may be read. -/
def TR (w : World) (A : Option Addr) (l : List Tox) : Prop := l ≠ [] → ∃ g, A = some ⟨g, 0, none⟩ ∧ (∃ cs fr, w.heap[g]? = some (.cells cs 38 fr)) ∧ ∀ j u, (tcells l)[j]? = some u → w.cell? ⟨g, j, none⟩ = some u
theorem info_tox : (Try.prog.info? 38).map (fun i => (i.zero, i.size, i.bytes)) = some (some (.agg #[.string ⟨#[]⟩, .int .i64 0, .bool false, .int .i64 0, .int .i64 0, .int .i64 0]), 6, 56) := by kernel_rfl
theorem toxs_length (x : Ch) (h2 : 2 ≤ x.l.length) : (toxs x).length = x.l.length - 2 := by unfold toxs; rw [List.length_map, List.length_take, List.length_drop]; omega
theorem toxs_get {x : Ch} {k : Nat} {a : Pa} (h : x.l[k + 1]? = some a) (hk : k + 2 < x.l.length) : (toxs x)[k]? = some a.s.t := by
  unfold toxs
  rw [List.getElem?_map, List.getElem?_take, if_pos (by omega), List.getElem?_drop, show 1 + k = k + 1 by omega, h]
  rfl
theorem tox_one (t : Tox) : ∀ u ∈ t.cells.toList, u.oneCell' = true := by
  intro u hu
  simp [Tox.cells] at hu
  rcases hu with rfl | rfl | rfl | rfl | rfl | rfl <;> rfl
theorem tr_of_owns {w : World} {base : Nat} {v : Value} {l : List Tox} (h : w.ownsRow base 38 6 v l.length (tcells l)) : ∃ A cap, v = .slice A l.length cap ∧ TR w A l ∧ ∀ g o, A = some ⟨g, o, none⟩ → base ≤ g := by
  rcases h.2 with ⟨rfl, h0⟩ | ⟨g, cap, cur, rfl, hg, hh, hnc, hcap, hsz, htake⟩
  · refine ⟨none, 0, by rw [h0], fun hne => absurd (List.length_eq_zero_iff.1 h0) hne, fun g o e => by cases e⟩
  · refine ⟨_, cap, rfl, fun hne => ⟨g, rfl, ⟨_, _, hh⟩, fun j u hu => ?_⟩, fun g' o e => by injection e with e; injection e with e; omega⟩
    rw [← htake, List.getElem?_take] at hu
    split at hu
    · rw [Array.getElem?_toList] at hu
      simp only [World.cell?, hh]
      exact hu
    · cases hu
theorem TR.kept {w w' : World} {A : Option Addr} {l : List Tox} (h : TR w A l) (hk : ∀ g, (∃ o, A = some ⟨g, o, none⟩) → g < w.heap.size → w'.heap[g]? = w.heap[g]?) : TR w' A l := by
  intro hne
  obtain ⟨g, rfl, ⟨cs, fr, hb⟩, hc⟩ := h hne
  have hlt : g < w.heap.size := (Array.getElem?_eq_some_iff.1 hb).1
  have e := hk g ⟨0, rfl⟩ hlt
  exact ⟨g, rfl, ⟨cs, fr, e.trans hb⟩, fun j u hu => (World.cell?_of_block (a := ⟨g, j, none⟩) e).trans (hc j u hu)⟩
theorem TR.below {w w' : World} {A : Option Addr} {l : List Tox} (h : TR w A l) (hb : Below w.heap.size w w') : TR w' A l := h.kept fun g _ hg => hb.block g hg
theorem owns_below {w w' : World} {base : Nat} {e : TypeId} {size : Nat} {v : Value} {n : Nat} {xs : List Value} (h : w.ownsRow base e size v n xs) (hb : Below w.heap.size w w') : w'.ownsRow base e size v n xs := by
  refine ⟨h.1, ?_⟩
  rcases h.2 with h0 | ⟨g, cap, cur, hv, hg, hh, rest⟩
  · exact .inl h0
  · exact .inr ⟨g, cap, cur, hv, hg, (hb.block g (Array.getElem?_eq_some_iff.1 hh).1).trans hh, rest⟩
theorem cells_one6 (w : World) (t0 : ByteArray) (t1 : Int) (t2 : Bool) (t3 t4 t5 : Int) : ∀ j u, (Tox.cells ⟨t0, t1, t2, t3, t4, t5⟩).toList[j]? = some u → (w.alloc (.cells #[.string t0, .int .i64 t1, .bool t2, .int .i64 t3, .int .i64 t4, .int .i64 t5] 38)).cell? ((⟨w.heap.size, 0, none⟩ : Addr).add j) = some u := by
  intro j u hu
  have e : ((⟨w.heap.size, 0, none⟩ : Addr).add j) = ⟨w.heap.size, j, none⟩ := by unfold Addr.add; split <;> simp_all
  rw [e]
  refine ((Blk.new w 38 #[.string t0, .int .i64 t1, .bool t2, .int .i64 t3, .int .i64 t4, .int .i64 t5]).cell j).trans ?_
  rw [← Array.getElem?_toList]
  exact hu
theorem cToxics_any (h : CH w F c D x) (h2 : 2 ≤ x.l.length) (h10 : x.l.length ≤ 10) :
    Calls Try.prog 21 #[ptr c] w fun e w' => ∃ A cap, e = .returned (.slice A (x.l.length - 2) cap) ∧ TR w' A (toxs x) ∧ (∀ g o, A = some ⟨g, o, none⟩ → w.heap.size ≤ g) ∧ Below w.heap.size w w' := by
  have hin := Lib.hid (inner_any h h2 h10)
  have hcap := h.cap
  have hh := Lib.hid h
  have htl := toxs_length x h2
  obtain ⟨i0, hi1, hz0, hz1, hz2⟩ := info_parts info_tox
  clear h
  go_enter Try.func21, Try.ntmps21
  go_wp2_with fail
  refine hin.out.mono ?_
  rintro e w1 ⟨rfl, hB1⟩
  have hB1' := Lib.hid hB1
  clear hB1 hin
  go_wp2
  go_loopw [3, 9] (fun av iv wr => ∃ k : Nat, k ≤ x.l.length - 2 ∧ iv = .int .i64 k ∧ wr.ownsRow w.heap.size 38 6 av ((toxs x).take k).length (tcells ((toxs x).take k)) ∧ Below w.heap.size w wr) (fun _ iv _ => (x.l.length - 2) - (intOf iv).toNat)
  case atStart => exact ⟨0, by omega, rfl, World.ownsRow_nil _ _ _ _, hB1'.out⟩
  case round =>
    obtain ⟨k, hk, rfl, hO, hB⟩ := hrel
    clear hB1'
    by_cases hlt : k < x.l.length - 2
    · have hx : x.l[k + 1]? = some x.l[k + 1] := List.getElem?_eq_getElem (by omega)
      generalize x.l[k + 1] = p at *
      have htx := toxs_get hx (by omega)
      have hC := hh.out.below hB
      obtain ⟨t, ht⟩ := hC.pt hx
      have d0 := hC.rcell ht
      rw [show k + 1 = 1 + k by omega] at d0
      have d1 := (hC.pcell ht hx).1
      have htk : (toxs x).take (k + 1) = (toxs x).take k ++ [p.s.t] := by rw [List.take_add_one, htx]; rfl
      have htk' := Lib.hid htk
      have hT := Lib.hid (cs_toxic hC ht hx)
      have hlen : ((toxs x).take k).length = k := by rw [List.length_take, htl]; omega
      rw [hlen] at hO
      have hOB := Lib.hid (And.intro hO hB)
      clear htx hC ht hx htk hO hB
      generalize hn : x.l.length - 2 = n at *
      go_wp2_with fail
      refine hT.out.mono ?_
      rintro e w2 ⟨rfl, hB2⟩
      have hO2 := hOB.out.1
      have hB3 := Lib.hid (hOB.out.2.trans (hB2.mono hOB.out.2.size))
      have hO3 := owns_below hO2 hB2
      have hsz := hB3.out.size
      have hlast : ∀ (v' : Value) (w3 : World), w3.ownsRow w.heap.size 38 6 v' (k + 1) (tcells ((toxs x).take k) ++ p.s.t.cells.toList) → w3.ownsRow w.heap.size 38 6 v' ((toxs x).take (k + 1)).length (tcells ((toxs x).take (k + 1))) := fun v' w3 hw => by
        rw [htk'.out, tcells_snoc, List.length_append, hlen]; exact hw
      have hlast' := Lib.hid hlast
      clear hO2 hB2 hOB hT d0 d1 hlast hlen
      generalize p.s.t = tt at *
      obtain ⟨t0, t1, t2, t3, t4, t5⟩ := tt
      go_wp2_with (at_builtin; refine wpList_append_own _ rfl _ _ 56 rfl w.heap.size 38 i0 _ 6 56 Try.underlying56 hi1 hz0 hz1 hz2 rfl (by decide) _ _ _ rfl (hO3.alloc _) ⟨w2.heap.size, 0, none⟩ 1 1 (Tox.cells ⟨t0, t1, t2, t3, t4, t5⟩).toList rfl rfl (cells_one6 w2 t0 t1 t2 t3 t4 t5) (tox_one ⟨t0, t1, t2, t3, t4, t5⟩) (by unfold maxLen; omega) (by omega) (by simp; omega) ?_; intro v' w3 hO4 hG _)
      go_roundw
      case rel => exact ⟨k + 1, by omega, by go_num, hlast'.out _ _ hO4, (hB3.out.alloc hsz _).grown hG (by simp; omega) (own_ge hO3)⟩
      case measure => simp [intOf]; omega
    · have hk2 : k = x.l.length - 2 := by omega
      subst hk2
      have hnl : ¬ (x.l.length - 2 < x.l.length - 2) := by omega
      have hfull : (toxs x).take (x.l.length - 2) = toxs x := List.take_of_length_le (by omega)
      rw [hfull] at hO
      obtain ⟨A, cap, rfl, hTR, hge⟩ := tr_of_owns hO
      rw [htl]
      have hR := Lib.hid (And.intro hTR (And.intro hge hB))
      clear hO hTR hge hB hfull hh
      go_wp2
      go_ret
      exact ⟨A, cap, rfl, hR.out.1, hR.out.2.1, hR.out.2.2⟩
end Go.Proofs.Ytigimpkjfmfkhaa.Chain
namespace Go.Proofs.Ytigimpkjfmfkhaa.Chain
open Go.RowKit Mem Tick Cargo Toxic Stage
set_option maxRecDepth 100000
set_option linter.unusedVariables false
set_option linter.unusedSimpArgs false
/-- a call. -/
structure Op where
  kind : Int
  now : Int
  n : Int
  s : ByteArray
  t : Tox
  seed : Int
def Op.cells (x : Op) : Array Value := #[.int .i64 x.kind, .int .i64 x.now, .int .i64 x.n, .string x.s, .string x.t.name, .int .i64 x.t.kind, .bool x.t.up, .int .i64 x.t.often, .int .i64 x.t.a, .int .i64 x.t.b, .int .u64 x.seed]
abbrev Op.v (x : Op) : Value := .agg #[.int .i64 x.kind, .int .i64 x.now, .int .i64 x.n, .string x.s, .string x.t.name, .int .i64 x.t.kind, .bool x.t.up, .int .i64 x.t.often, .int .i64 x.t.a, .int .i64 x.t.b, .int .u64 x.seed]
def opBytes (x : Op) : Nat := x.s.size + x.t.name.size
def Script (w : World) (v : Value) (l : List Op) : Prop :=
  ∃ a cap, v = .slice a l.length cap ∧ l.length ≤ 9223372036854775807 ∧ (∀ x ∈ l, x.s.size ≤ 140737488351232 ∧ x.t.name.size ≤ 140737488351232) ∧
    (l ≠ [] → ∃ b o, a = some ⟨b, o, none⟩ ∧ ∀ j x, l[j]? = some x → w.cell? ⟨b, o + j * 11, none⟩ = some (.int .i64 x.kind) ∧ w.cell? ⟨b, o + j * 11 + 1, none⟩ = some (.int .i64 x.now) ∧ w.cell? ⟨b, o + j * 11 + 2, none⟩ = some (.int .i64 x.n) ∧ w.cell? ⟨b, o + j * 11 + 3, none⟩ = some (.string x.s) ∧ w.cell? ⟨b, o + j * 11 + 4, none⟩ = some (.string x.t.name) ∧ w.cell? ⟨b, o + j * 11 + 5, none⟩ = some (.int .i64 x.t.kind) ∧ w.cell? ⟨b, o + j * 11 + 6, none⟩ = some (.bool x.t.up) ∧ w.cell? ⟨b, o + j * 11 + 7, none⟩ = some (.int .i64 x.t.often) ∧ w.cell? ⟨b, o + j * 11 + 8, none⟩ = some (.int .i64 x.t.a) ∧ w.cell? ⟨b, o + j * 11 + 9, none⟩ = some (.int .i64 x.t.b) ∧ w.cell? ⟨b, o + j * 11 + 10, none⟩ = some (.int .u64 x.seed))
theorem Script.below {w w' : World} {v : Value} {l : List Op} (h : Script w v l) (hb : Below w.heap.size w w') : Script w' v l := by
  obtain ⟨a, cap, h1, h2, h3, h4⟩ := h
  refine ⟨a, cap, h1, h2, h3, fun hn => ?_⟩
  obtain ⟨b, o, e, hc⟩ := h4 hn
  refine ⟨b, o, e, fun j x hx => ?_⟩
  obtain ⟨c0, c1, c2, c3, c4, c5, c6, c7, c8, c9, c10⟩ := hc j x hx
  exact ⟨bcells hb c0, bcells hb c1, bcells hb c2, bcells hb c3, bcells hb c4, bcells hb c5, bcells hb c6, bcells hb c7, bcells hb c8, bcells hb c9, bcells hb c10⟩
def bytesOf : List Op → Nat
  | [] => 0
  | x :: r => opBytes x + bytesOf r
theorem bytesOf_append (a b : List Op) : bytesOf (a ++ b) = bytesOf a + bytesOf b := by induction a with | nil => simp [bytesOf] | cons p r ih => simp [bytesOf, ih]; omega
theorem bytesOf_take (l : List Op) (k : Nat) (x : Op) (h : l[k]? = some x) : bytesOf (l.take (k + 1)) = bytesOf (l.take k) + opBytes x := by
  rw [List.take_add_one, h, bytesOf_append]; simp [bytesOf]
theorem bytesOf_le (l : List Op) (k : Nat) : bytesOf (l.take k) ≤ bytesOf l := by
  have := bytesOf_append (l.take k) (l.drop k)
  rw [List.take_append_drop] at this; omega
theorem bytesOf_max (l : List Op) (h : ∀ x ∈ l, x.s.size ≤ 140737488351232 ∧ x.t.name.size ≤ 140737488351232) : bytesOf l ≤ l.length * 281474976702464 := by
  induction l with
  | nil => simp [bytesOf]
  | cons x r ih =>
    have h1 := h x (List.mem_cons_self ..)
    have h2 := ih fun y hy => h y (List.mem_cons_of_mem _ hy)
    simp only [bytesOf, List.length_cons, opBytes]; omega
def fewB (l : List Op) : Bool := decide (l.length ≤ 80) && decide (bytesOf l ≤ 2000)
theorem few_short (v : Value) (l : List Op) (w : World) (hv : Script w v l) (hl : l.length ≤ 80) :
    Calls Try.prog 16 #[v] w fun e w' => e = .returned (.bool (decide (bytesOf l ≤ 2000))) ∧ Below w.heap.size w w' := by
  obtain ⟨a, cap, rfl, hm, hs, hA⟩ := hv
  have hmx := bytesOf_max l hs
  have hd : decide ((l.length : Int) ≤ 80) = true := decide_eq_true (by omega)
  clear hs
  go_enter Try.func16, Try.ntmps16
  go_wp2
  go_loopw [3, 8] (fun nv iv wr => ∃ k : Nat, k ≤ l.length ∧ iv = .int .i64 k ∧ nv = .int .i64 (bytesOf (l.take k)) ∧ Below w.heap.size w wr) (fun _ iv _ => l.length - (intOf iv).toNat)
  case atStart => exact ⟨0, by omega, rfl, by simp [bytesOf], Below.refl _ _⟩
  case round =>
    obtain ⟨k, hk, rfl, rfl, hB⟩ := hrel
    by_cases hlt : k < l.length
    · skip
      obtain ⟨g, o, rfl, hc⟩ := hA (by intro h; subst h; simp at hlt)
      have hx : l[k]? = some l[k] := List.getElem?_eq_getElem hlt
      obtain ⟨d0, d1, d2, d3, d4, d5, d6, d7, d8, d9, d10⟩ := hc k _ hx
      have hs := Lib.hid (bytesOf_take l k _ hx)
      have hle := bytesOf_le l (k + 1)
      rw [hs.out] at hle
      unfold opBytes at hle hs
      generalize l[k] = p at *
      obtain ⟨p0, p1, p2, p3, ⟨t0, t1, t2, t3, t4, t5⟩, p5⟩ := p
      dsimp only at *
      have d0' := bcells hB d0
      have d1' := bcells hB d1
      have d2' := bcells hB d2
      have d3' := bcells hB d3
      have d4' := bcells hB d4
      have d5' := bcells hB d5
      have d6' := bcells hB d6
      have d7' := bcells hB d7
      have d8' := bcells hB d8
      have d9' := bcells hB d9
      have d10' := bcells hB d10
      generalize hs1 : bytesOf (l.take (k + 1)) = s1 at *
      have hs1' := Lib.hid hs1
      generalize bytesOf (l.take k) = s0 at *
      have hsz := hB.size
      clear hc hx hA d0 d1 d2 d3 d4 d5 d6 d7 d8 d9 d10 hs1
      go_wp2
      go_roundw
      case rel => exact ⟨k + 1, by omega, by go_num, by rw [hs1'.out, hs.out]; go_num, hB.alloc hB.size _⟩
      case measure => simp [intOf]; omega
    · have hk2 : k = l.length := by omega
      subst hk2
      have hnl : ¬ (l.length < l.length) := by omega
      rw [List.take_length]
      go_wp2
      go_ret
      exact ⟨by simp; omega, hB⟩
theorem few_long (v : Value) (l : List Op) (w : World) (hv : Script w v l) (hl : 80 < l.length) :
    Calls Try.prog 16 #[v] w fun e w' => e = .returned (.bool false) ∧ Below w.heap.size w w' := by
  obtain ⟨a, cap, rfl, hm, hs, hA⟩ := hv
  have hd : decide ((l.length : Int) ≤ 80) = false := decide_eq_false (by omega)
  clear hs
  go_enter Try.func16, Try.ntmps16
  go_wp2
  go_loopw [3, 8] (fun nv iv wr => ∃ (k : Nat) (x : Int), k ≤ l.length ∧ iv = .int .i64 k ∧ nv = .int .i64 x ∧ Below w.heap.size w wr) (fun _ iv _ => l.length - (intOf iv).toNat)
  case atStart => exact ⟨0, 0, by omega, rfl, rfl, Below.refl _ _⟩
  case round =>
    obtain ⟨k, x, hk, rfl, rfl, hB⟩ := hrel
    by_cases hlt : k < l.length
    · skip
      obtain ⟨g, o, rfl, hc⟩ := hA (by intro h; subst h; simp at hlt)
      have hx : l[k]? = some l[k] := List.getElem?_eq_getElem hlt
      obtain ⟨d0, d1, d2, d3, d4, d5, d6, d7, d8, d9, d10⟩ := hc k _ hx
      generalize l[k] = p at *
      obtain ⟨p0, p1, p2, p3, ⟨t0, t1, t2, t3, t4, t5⟩, p5⟩ := p
      dsimp only at *
      have d0' := bcells hB d0
      have d1' := bcells hB d1
      have d2' := bcells hB d2
      have d3' := bcells hB d3
      have d4' := bcells hB d4
      have d5' := bcells hB d5
      have d6' := bcells hB d6
      have d7' := bcells hB d7
      have d8' := bcells hB d8
      have d9' := bcells hB d9
      have d10' := bcells hB d10
      have hsz := hB.size
      clear hc hx hA d0 d1 d2 d3 d4 d5 d6 d7 d8 d9 d10
      go_wp2
      go_roundw
      case rel => exact ⟨k + 1, _, by omega, by go_num, rfl, hB.alloc hB.size _⟩
      case measure => simp [intOf]; omega
    · have hk2 : k = l.length := by omega
      subst hk2
      have hnl : ¬ (l.length < l.length) := by omega
      go_wp2
      go_ret
      exact ⟨rfl, hB⟩
theorem few_any (v : Value) (l : List Op) (w : World) (hv : Script w v l) :
    Calls Try.prog 16 #[v] w fun e w' => e = .returned (.bool (fewB l)) ∧ Below w.heap.size w w' := by
  unfold fewB
  by_cases hl : l.length ≤ 80
  · rw [decide_eq_true hl, Bool.true_and]; exact few_short v l w hv hl
  · rw [decide_eq_false hl, Bool.false_and]; exact few_long v l w hv (by omega)
variable {w w' : World} {F : Nat → Prop} {c : Nat} {D : Lay} {x : Ch}
/-- what a call answers: a number, bytes, an error. -/
abbrev Ans := Int × ByteArray × Int
def Ans.cells (a : Ans) : Array Value := #[.int .i64 a.1, .string a.2.1, .int .i64 a.2.2]
abbrev Ans.v (a : Ans) : Value := .agg #[.int .i64 a.1, .string a.2.1, .int .i64 a.2.2]
def doesA (x : Ch) (o : Op) : Ans :=
  if o.kind = 0 then (putCN x o.now o.s, ⟨#[]⟩, 0) else if o.kind = 1 then (0, ⟨#[]⟩, 0) else if o.kind = 2 then (0, ⟨#[]⟩, 0) else if o.kind = 3 then ((stepC o.now x).state, ⟨#[]⟩, 0)
  else if o.kind = 4 then (0, takeCB x o.now o.n, 0) else if o.kind = 5 then (0, ⟨#[]⟩, insE x o.n o.t) else if o.kind = 6 then (0, ⟨#[]⟩, remE x o.n) else if o.kind = 7 then (0, ⟨#[]⟩, updCE x o.n o.t) else (0, ⟨#[]⟩, 0)
def doesC (x : Ch) (o : Op) : Ch :=
  if o.kind = 0 then putC x o.now o.s else if o.kind = 1 then closeC x o.now else if o.kind = 2 then breakC x else if o.kind = 3 then stepC o.now x
  else if o.kind = 4 then takeC x o.now o.n else if o.kind = 5 then insC x o.n o.t o.seed o.now else if o.kind = 6 then remC x o.n o.now else if o.kind = 7 then updC x o.n o.t o.now else x
theorem CH.off (h : CH w F c D x) {g : Nat} {t : TypeId} {cs : Array Value} (hb : Blk w g t cs) (ht : t ∉ cts) : ¬ F g := h.typed.out hb ht
theorem CH.far (h : CH w F c D x) {g : Nat} {t : TypeId} {cs : Array Value} (hb : Blk w g t cs) (ht : t ∉ cts) (i : Nat) (u : Value) : CH (w.setCell ⟨g, i, none⟩ u) F c D x :=
  h.kept fun j hj => Below.heap_setCell w ⟨g, i, none⟩ u j fun e => h.off hb ht (by have e' : j = g := e; exact e' ▸ hj)
def DoesQ (F : Nat → Prop) (c : Nat) (w : World) (y : Ch) (a : Ans) (e : Ending) (w' : World) : Prop :=
  e = .returned (Ans.v a) ∧ TuD w F w' c y
theorem does_0 (h : CH w F c D x) (hcap : D.cap ≤ 9223372036854775807) (nw n : Int) (z tn : ByteArray) (tk : Int) (tu : Bool) (tf ta tb sd : Int) {M Q : Int} (ho : OkC x M Q) (hM : M + z.size ≤ 1000000000) :
    Calls Try.prog 17 #[ptr c, .agg #[.int .i64 0, .int .i64 nw, .int .i64 n, .string z, .string tn, .int .i64 tk, .bool tu, .int .i64 tf, .int .i64 ta, .int .i64 tb, .int .u64 sd]] w (DoesQ F c w (putC x nw z) ((putCN x nw z, ⟨#[]⟩, 0))) := by
  have hcv := conv_str z
  have hB := (((Below.refl w.heap.size w).alloc (Nat.le_refl _) (.cells #[.int .i64 0, .int .i64 nw, .int .i64 n, .string z, .string tn, .int .i64 tk, .bool tu, .int .i64 tf, .int .i64 ta, .int .i64 tb, .int .u64 sd] 41)).alloc (by simp) (.cells #[.int .i64 0, .string ⟨#[]⟩, .int .i64 0] 43)).alloc (by simp; omega) (.cells #[.int .i64 0, .string ⟨#[]⟩, .int .i64 0] 43)
  have hR := Lib.hid ((Blk.new (w.alloc (.cells #[.int .i64 0, .int .i64 nw, .int .i64 n, .string z, .string tn, .int .i64 tk, .bool tu, .int .i64 tf, .int .i64 ta, .int .i64 tb, .int .u64 sd] 41)) 43 #[.int .i64 0, .string ⟨#[]⟩, .int .i64 0]).below ((Below.refl _ _).alloc (Nat.le_refl _) (.cells #[.int .i64 0, .string ⟨#[]⟩, .int .i64 0] 43)))
  have hA := Lib.hid (Blk.new ((w.alloc (.cells #[.int .i64 0, .int .i64 nw, .int .i64 n, .string z, .string tn, .int .i64 tk, .bool tu, .int .i64 tf, .int .i64 ta, .int .i64 tb, .int .u64 sd] 41)).alloc (.cells #[.int .i64 0, .string ⟨#[]⟩, .int .i64 0] 43)) 43 #[.int .i64 0, .string ⟨#[]⟩, .int .i64 0])
  have H := Lib.hid (h.below hB)
  have HB := Lib.hid hB
  have hlt := fun j (hj : F j) => Lib.hid (h.lt hj)
  have hBy := Lib.hid (bytes_below (((w.alloc (.cells #[.int .i64 0, .int .i64 nw, .int .i64 n, .string z, .string tn, .int .i64 tk, .bool tu, .int .i64 tf, .int .i64 ta, .int .i64 tb, .int .u64 sd] 41)).alloc (.cells #[.int .i64 0, .string ⟨#[]⟩, .int .i64 0] 43)).alloc (.cells #[.int .i64 0, .string ⟨#[]⟩, .int .i64 0] 43)) z)
  have hBS := Lib.hid (bytes_new (((w.alloc (.cells #[.int .i64 0, .int .i64 nw, .int .i64 n, .string z, .string tn, .int .i64 tk, .bool tu, .int .i64 tf, .int .i64 ta, .int .i64 tb, .int .u64 sd] 41)).alloc (.cells #[.int .i64 0, .string ⟨#[]⟩, .int .i64 0] 43)).alloc (.cells #[.int .i64 0, .string ⟨#[]⟩, .int .i64 0] 43)) z)
  have hcap3 := fun (W : World) => grownCap_ge W z.size 0 5
  have hlt3 : (((w.alloc (.cells #[.int .i64 0, .int .i64 nw, .int .i64 n, .string z, .string tn, .int .i64 tk, .bool tu, .int .i64 tf, .int .i64 ta, .int .i64 tb, .int .u64 sd] 41)).alloc (.cells #[.int .i64 0, .string ⟨#[]⟩, .int .i64 0] 43)).alloc (.cells #[.int .i64 0, .string ⟨#[]⟩, .int .i64 0] 43)).heap.size = w.heap.size + 3 := by simp
  clear h hB
  go_enter Try.func17, Try.ntmps17
  go_wp2_with fail
  refine (cPut_any (H.out.below hBy.out) ho nw _ _ z (hcap3 _) (by simpa using hBS.out) (fun g o e hF => by have := (hlt g hF).out; injection e with e; injection e with e; subst e; (try simp at this); omega) hM).mono ?_
  rintro e w1 ⟨rfl, hT⟩
  have hTD := hT.tuD hcap
  clear hT
  obtain ⟨D', F', hC, hD, hS, hcp⟩ := hTD
  have hdB := Lib.hid ((Did.of_below (F := F) hBy.out).trans (Stem.refl _ _) hD)
  have qT := Lib.hid (show Stem F F' w from (Stem.refl F w).trans (Nat.le_trans HB.out.size hBy.out.size) hS)
  have qS := Lib.hid hC
  have qK := Lib.hid hcp
  have qD := Lib.hid (show Did F w w1 from (Did.of_below HB.out).trans (Stem.refl _ _) hdB.out)
  have qA := Lib.hid (hA.out.did hdB.out (fun c => by have := (hlt _ c).out; simp at this; omega))
  have qR := Lib.hid (hR.out.did hdB.out (fun c => by have := (hlt _ c).out; simp at this; omega))
  rw [World.size_alloc, World.size_alloc] at qA
  rw [World.size_alloc] at qR
  clear hA hR H HB hlt hC hD hS hcp hBy hBS hcap3 hcv hdB hlt3
  have a0 : w1.cell? ⟨w.heap.size + 2, 0, none⟩ = some (.int .i64 0) := (qA.out.cell 0).trans rfl
  have a1 : w1.cell? ⟨w.heap.size + 2, 1, none⟩ = some (.string ⟨#[]⟩) := (qA.out.cell 1).trans rfl
  have a2 : w1.cell? ⟨w.heap.size + 2, 2, none⟩ = some (.int .i64 0) := (qA.out.cell 2).trans rfl
  have r0 : w1.cell? ⟨w.heap.size + 1, 0, none⟩ = some (.int .i64 0) := (qR.out.cell 0).trans rfl
  have r1 : w1.cell? ⟨w.heap.size + 1, 1, none⟩ = some (.string ⟨#[]⟩) := (qR.out.cell 1).trans rfl
  have r2 : w1.cell? ⟨w.heap.size + 1, 2, none⟩ = some (.int .i64 0) := (qR.out.cell 2).trans rfl
  have fa0 := qA.out.free 0
  have fa1 := qA.out.free 1
  have fa2 := qA.out.free 2
  have fr0 := qR.out.free 0
  have fr1 := qR.out.free 1
  have fr2 := qR.out.free 2
  have la : w.heap.size + 2 < w1.heap.size := qA.out.lt
  have lr : w.heap.size + 1 < w1.heap.size := qR.out.lt
  go_wp2
  refine bodyPost_ret (v := (.agg #[.int .i64 (putCN x nw z), .string ⟨#[]⟩, .int .i64 0])) (by simp [results, Try.results17, go_sem, a0, a1, a2, r0, r1, r2, la, lr]) rfl ⟨rfl, D', F', ?_, ?_, qT.out, qK.out⟩
  · have s0 := (qS.out.far qA.out (by decide) 0 (.int .i64 (putCN x nw z)))
    have b0 := (qR.out.far (p := ⟨w.heap.size + 2, 0, none⟩) (by show w.heap.size + 1 ≠ w.heap.size + 2; omega) (.int .i64 (putCN x nw z)))
    have s1 := s0.far b0 (by decide) 0 (.int .i64 (putCN x nw z))
    have b1 := b0.set_ 0 (.int .i64 (putCN x nw z))
    have s2 := s1.far b1 (by decide) 1 (.string ⟨#[]⟩)
    have b2 := b1.set_ 1 (.string ⟨#[]⟩)
    exact s2.far b2 (by decide) 2 (.int .i64 0)
  · exact ((((qD.out.setCell (p := ⟨w.heap.size + 2, 0, none⟩) (.inr (by show w.heap.size ≤ w.heap.size + 2; omega)) (.int .i64 (putCN x nw z)))).setCell (p := ⟨w.heap.size + 1, 0, none⟩) (.inr (by show w.heap.size ≤ w.heap.size + 1; omega)) _).setCell (p := ⟨w.heap.size + 1, 1, none⟩) (.inr (by show w.heap.size ≤ w.heap.size + 1; omega)) _).setCell (p := ⟨w.heap.size + 1, 2, none⟩) (.inr (by show w.heap.size ≤ w.heap.size + 1; omega)) _
theorem does_1 (h : CH w F c D x) (hcap : D.cap ≤ 9223372036854775807) (nw n : Int) (z tn : ByteArray) (tk : Int) (tu : Bool) (tf ta tb sd : Int) {M Q : Int} (ho : OkC x M Q) :
    Calls Try.prog 17 #[ptr c, .agg #[.int .i64 1, .int .i64 nw, .int .i64 n, .string z, .string tn, .int .i64 tk, .bool tu, .int .i64 tf, .int .i64 ta, .int .i64 tb, .int .u64 sd]] w (DoesQ F c w (closeC x nw) ((0, ⟨#[]⟩, 0))) := by
  have hB := (((Below.refl w.heap.size w).alloc (Nat.le_refl _) (.cells #[.int .i64 1, .int .i64 nw, .int .i64 n, .string z, .string tn, .int .i64 tk, .bool tu, .int .i64 tf, .int .i64 ta, .int .i64 tb, .int .u64 sd] 41)).alloc (by simp) (.cells #[.int .i64 0, .string ⟨#[]⟩, .int .i64 0] 43)).alloc (by simp; omega) (.cells #[.int .i64 0, .string ⟨#[]⟩, .int .i64 0] 43)
  have hR := Lib.hid ((Blk.new (w.alloc (.cells #[.int .i64 1, .int .i64 nw, .int .i64 n, .string z, .string tn, .int .i64 tk, .bool tu, .int .i64 tf, .int .i64 ta, .int .i64 tb, .int .u64 sd] 41)) 43 #[.int .i64 0, .string ⟨#[]⟩, .int .i64 0]).below ((Below.refl _ _).alloc (Nat.le_refl _) (.cells #[.int .i64 0, .string ⟨#[]⟩, .int .i64 0] 43)))
  have hA := Lib.hid (Blk.new ((w.alloc (.cells #[.int .i64 1, .int .i64 nw, .int .i64 n, .string z, .string tn, .int .i64 tk, .bool tu, .int .i64 tf, .int .i64 ta, .int .i64 tb, .int .u64 sd] 41)).alloc (.cells #[.int .i64 0, .string ⟨#[]⟩, .int .i64 0] 43)) 43 #[.int .i64 0, .string ⟨#[]⟩, .int .i64 0])
  have H := Lib.hid (h.below hB)
  have HB := Lib.hid hB
  have hlt := fun j (hj : F j) => Lib.hid (h.lt hj)
  clear h hB
  go_enter Try.func17, Try.ntmps17
  go_wp2_with fail
  refine (cClose_any H.out ho.two ho.ten nw).mono ?_
  rintro e w1 ⟨rfl, hT⟩
  have hTD := hT.tuD hcap
  clear hT
  obtain ⟨D', F', hC, hD, hS, hcp⟩ := hTD
  have qT := Lib.hid ((Stem.refl F w).trans HB.out.size hS)
  have qS := Lib.hid hC
  have qK := Lib.hid hcp
  have qD := Lib.hid (show Did F w w1 from (Did.of_below HB.out).trans (Stem.refl _ _) hD)
  have qA := Lib.hid (hA.out.did hD (fun c => by have := (hlt _ c).out; simp at this; omega))
  have qR := Lib.hid (hR.out.did hD (fun c => by have := (hlt _ c).out; simp at this; omega))
  rw [World.size_alloc, World.size_alloc] at qA
  rw [World.size_alloc] at qR
  clear hA hR H HB hlt hC hD hS hcp
  have a0 : w1.cell? ⟨w.heap.size + 2, 0, none⟩ = some (.int .i64 0) := (qA.out.cell 0).trans rfl
  have a1 : w1.cell? ⟨w.heap.size + 2, 1, none⟩ = some (.string ⟨#[]⟩) := (qA.out.cell 1).trans rfl
  have a2 : w1.cell? ⟨w.heap.size + 2, 2, none⟩ = some (.int .i64 0) := (qA.out.cell 2).trans rfl
  have r0 : w1.cell? ⟨w.heap.size + 1, 0, none⟩ = some (.int .i64 0) := (qR.out.cell 0).trans rfl
  have r1 : w1.cell? ⟨w.heap.size + 1, 1, none⟩ = some (.string ⟨#[]⟩) := (qR.out.cell 1).trans rfl
  have r2 : w1.cell? ⟨w.heap.size + 1, 2, none⟩ = some (.int .i64 0) := (qR.out.cell 2).trans rfl
  have fa0 := qA.out.free 0
  have fa1 := qA.out.free 1
  have fa2 := qA.out.free 2
  have fr0 := qR.out.free 0
  have fr1 := qR.out.free 1
  have fr2 := qR.out.free 2
  have la : w.heap.size + 2 < w1.heap.size := qA.out.lt
  have lr : w.heap.size + 1 < w1.heap.size := qR.out.lt
  go_wp2
  refine bodyPost_ret (v := (.agg #[.int .i64 0, .string ⟨#[]⟩, .int .i64 0])) (by simp [results, Try.results17, go_sem, a0, a1, a2, r0, r1, r2, la, lr]) rfl ⟨rfl, D', F', ?_, ?_, qT.out, qK.out⟩
  · have s0 := qS.out
    have b0 := qR.out
    have s1 := s0.far b0 (by decide) 0 (.int .i64 0)
    have b1 := b0.set_ 0 (.int .i64 0)
    have s2 := s1.far b1 (by decide) 1 (.string ⟨#[]⟩)
    have b2 := b1.set_ 1 (.string ⟨#[]⟩)
    exact s2.far b2 (by decide) 2 (.int .i64 0)
  · exact (((qD.out).setCell (p := ⟨w.heap.size + 1, 0, none⟩) (.inr (by show w.heap.size ≤ w.heap.size + 1; omega)) _).setCell (p := ⟨w.heap.size + 1, 1, none⟩) (.inr (by show w.heap.size ≤ w.heap.size + 1; omega)) _).setCell (p := ⟨w.heap.size + 1, 2, none⟩) (.inr (by show w.heap.size ≤ w.heap.size + 1; omega)) _
theorem does_2 (h : CH w F c D x) (hcap : D.cap ≤ 9223372036854775807) (nw n : Int) (z tn : ByteArray) (tk : Int) (tu : Bool) (tf ta tb sd : Int) {M Q : Int} (ho : OkC x M Q) (hM : M ≤ 1000000000) :
    Calls Try.prog 17 #[ptr c, .agg #[.int .i64 2, .int .i64 nw, .int .i64 n, .string z, .string tn, .int .i64 tk, .bool tu, .int .i64 tf, .int .i64 ta, .int .i64 tb, .int .u64 sd]] w (DoesQ F c w (breakC x) ((0, ⟨#[]⟩, 0))) := by
  have hB := (((Below.refl w.heap.size w).alloc (Nat.le_refl _) (.cells #[.int .i64 2, .int .i64 nw, .int .i64 n, .string z, .string tn, .int .i64 tk, .bool tu, .int .i64 tf, .int .i64 ta, .int .i64 tb, .int .u64 sd] 41)).alloc (by simp) (.cells #[.int .i64 0, .string ⟨#[]⟩, .int .i64 0] 43)).alloc (by simp; omega) (.cells #[.int .i64 0, .string ⟨#[]⟩, .int .i64 0] 43)
  have hR := Lib.hid ((Blk.new (w.alloc (.cells #[.int .i64 2, .int .i64 nw, .int .i64 n, .string z, .string tn, .int .i64 tk, .bool tu, .int .i64 tf, .int .i64 ta, .int .i64 tb, .int .u64 sd] 41)) 43 #[.int .i64 0, .string ⟨#[]⟩, .int .i64 0]).below ((Below.refl _ _).alloc (Nat.le_refl _) (.cells #[.int .i64 0, .string ⟨#[]⟩, .int .i64 0] 43)))
  have hA := Lib.hid (Blk.new ((w.alloc (.cells #[.int .i64 2, .int .i64 nw, .int .i64 n, .string z, .string tn, .int .i64 tk, .bool tu, .int .i64 tf, .int .i64 ta, .int .i64 tb, .int .u64 sd] 41)).alloc (.cells #[.int .i64 0, .string ⟨#[]⟩, .int .i64 0] 43)) 43 #[.int .i64 0, .string ⟨#[]⟩, .int .i64 0])
  have H := Lib.hid (h.below hB)
  have HB := Lib.hid hB
  have hlt := fun j (hj : F j) => Lib.hid (h.lt hj)
  clear h hB
  go_enter Try.func17, Try.ntmps17
  go_wp2_with fail
  refine (cBreak_any H.out nw ho.ten ho.lost0 (Int.le_trans ho.lost hM)).mono ?_
  rintro e w1 ⟨rfl, hT⟩
  have hTD := hT.tuD hcap
  clear hT
  obtain ⟨D', F', hC, hD, hS, hcp⟩ := hTD
  have qT := Lib.hid ((Stem.refl F w).trans HB.out.size hS)
  have qS := Lib.hid hC
  have qK := Lib.hid hcp
  have qD := Lib.hid (show Did F w w1 from (Did.of_below HB.out).trans (Stem.refl _ _) hD)
  have qA := Lib.hid (hA.out.did hD (fun c => by have := (hlt _ c).out; simp at this; omega))
  have qR := Lib.hid (hR.out.did hD (fun c => by have := (hlt _ c).out; simp at this; omega))
  rw [World.size_alloc, World.size_alloc] at qA
  rw [World.size_alloc] at qR
  clear hA hR H HB hlt hC hD hS hcp
  have a0 : w1.cell? ⟨w.heap.size + 2, 0, none⟩ = some (.int .i64 0) := (qA.out.cell 0).trans rfl
  have a1 : w1.cell? ⟨w.heap.size + 2, 1, none⟩ = some (.string ⟨#[]⟩) := (qA.out.cell 1).trans rfl
  have a2 : w1.cell? ⟨w.heap.size + 2, 2, none⟩ = some (.int .i64 0) := (qA.out.cell 2).trans rfl
  have r0 : w1.cell? ⟨w.heap.size + 1, 0, none⟩ = some (.int .i64 0) := (qR.out.cell 0).trans rfl
  have r1 : w1.cell? ⟨w.heap.size + 1, 1, none⟩ = some (.string ⟨#[]⟩) := (qR.out.cell 1).trans rfl
  have r2 : w1.cell? ⟨w.heap.size + 1, 2, none⟩ = some (.int .i64 0) := (qR.out.cell 2).trans rfl
  have fa0 := qA.out.free 0
  have fa1 := qA.out.free 1
  have fa2 := qA.out.free 2
  have fr0 := qR.out.free 0
  have fr1 := qR.out.free 1
  have fr2 := qR.out.free 2
  have la : w.heap.size + 2 < w1.heap.size := qA.out.lt
  have lr : w.heap.size + 1 < w1.heap.size := qR.out.lt
  go_wp2
  refine bodyPost_ret (v := (.agg #[.int .i64 0, .string ⟨#[]⟩, .int .i64 0])) (by simp [results, Try.results17, go_sem, a0, a1, a2, r0, r1, r2, la, lr]) rfl ⟨rfl, D', F', ?_, ?_, qT.out, qK.out⟩
  · have s0 := qS.out
    have b0 := qR.out
    have s1 := s0.far b0 (by decide) 0 (.int .i64 0)
    have b1 := b0.set_ 0 (.int .i64 0)
    have s2 := s1.far b1 (by decide) 1 (.string ⟨#[]⟩)
    have b2 := b1.set_ 1 (.string ⟨#[]⟩)
    exact s2.far b2 (by decide) 2 (.int .i64 0)
  · exact (((qD.out).setCell (p := ⟨w.heap.size + 1, 0, none⟩) (.inr (by show w.heap.size ≤ w.heap.size + 1; omega)) _).setCell (p := ⟨w.heap.size + 1, 1, none⟩) (.inr (by show w.heap.size ≤ w.heap.size + 1; omega)) _).setCell (p := ⟨w.heap.size + 1, 2, none⟩) (.inr (by show w.heap.size ≤ w.heap.size + 1; omega)) _
theorem does_3 (h : CH w F c D x) (hcap : D.cap ≤ 9223372036854775807) (nw n : Int) (z tn : ByteArray) (tk : Int) (tu : Bool) (tf ta tb sd : Int) {M Q : Int} (ho : OkC x M Q) (hM : M ≤ 1000000000) (hQ : Q + 20 * M ≤ 1000000000) :
    Calls Try.prog 17 #[ptr c, .agg #[.int .i64 3, .int .i64 nw, .int .i64 n, .string z, .string tn, .int .i64 tk, .bool tu, .int .i64 tf, .int .i64 ta, .int .i64 tb, .int .u64 sd]] w (DoesQ F c w (stepC nw x) (((stepC nw x).state, ⟨#[]⟩, 0))) := by
  have hB := (((Below.refl w.heap.size w).alloc (Nat.le_refl _) (.cells #[.int .i64 3, .int .i64 nw, .int .i64 n, .string z, .string tn, .int .i64 tk, .bool tu, .int .i64 tf, .int .i64 ta, .int .i64 tb, .int .u64 sd] 41)).alloc (by simp) (.cells #[.int .i64 0, .string ⟨#[]⟩, .int .i64 0] 43)).alloc (by simp; omega) (.cells #[.int .i64 0, .string ⟨#[]⟩, .int .i64 0] 43)
  have hR := Lib.hid ((Blk.new (w.alloc (.cells #[.int .i64 3, .int .i64 nw, .int .i64 n, .string z, .string tn, .int .i64 tk, .bool tu, .int .i64 tf, .int .i64 ta, .int .i64 tb, .int .u64 sd] 41)) 43 #[.int .i64 0, .string ⟨#[]⟩, .int .i64 0]).below ((Below.refl _ _).alloc (Nat.le_refl _) (.cells #[.int .i64 0, .string ⟨#[]⟩, .int .i64 0] 43)))
  have hA := Lib.hid (Blk.new ((w.alloc (.cells #[.int .i64 3, .int .i64 nw, .int .i64 n, .string z, .string tn, .int .i64 tk, .bool tu, .int .i64 tf, .int .i64 ta, .int .i64 tb, .int .u64 sd] 41)).alloc (.cells #[.int .i64 0, .string ⟨#[]⟩, .int .i64 0] 43)) 43 #[.int .i64 0, .string ⟨#[]⟩, .int .i64 0])
  have H := Lib.hid (h.below hB)
  have HB := Lib.hid hB
  have hlt := fun j (hj : F j) => Lib.hid (h.lt hj)
  clear h hB
  go_enter Try.func17, Try.ntmps17
  go_wp2_with fail
  refine (cStep_any H.out ho hM hQ nw).mono ?_
  rintro e w1 ⟨rfl, hT⟩
  have hTD := hT.tuD hcap
  clear hT
  obtain ⟨D', F', hC, hD, hS, hcp⟩ := hTD
  have qT := Lib.hid ((Stem.refl F w).trans HB.out.size hS)
  have qS := Lib.hid hC
  have qK := Lib.hid hcp
  have qD := Lib.hid (show Did F w w1 from (Did.of_below HB.out).trans (Stem.refl _ _) hD)
  have qA := Lib.hid (hA.out.did hD (fun c => by have := (hlt _ c).out; simp at this; omega))
  have qR := Lib.hid (hR.out.did hD (fun c => by have := (hlt _ c).out; simp at this; omega))
  rw [World.size_alloc, World.size_alloc] at qA
  rw [World.size_alloc] at qR
  clear hA hR H HB hlt hC hD hS hcp
  have a0 : w1.cell? ⟨w.heap.size + 2, 0, none⟩ = some (.int .i64 0) := (qA.out.cell 0).trans rfl
  have a1 : w1.cell? ⟨w.heap.size + 2, 1, none⟩ = some (.string ⟨#[]⟩) := (qA.out.cell 1).trans rfl
  have a2 : w1.cell? ⟨w.heap.size + 2, 2, none⟩ = some (.int .i64 0) := (qA.out.cell 2).trans rfl
  have r0 : w1.cell? ⟨w.heap.size + 1, 0, none⟩ = some (.int .i64 0) := (qR.out.cell 0).trans rfl
  have r1 : w1.cell? ⟨w.heap.size + 1, 1, none⟩ = some (.string ⟨#[]⟩) := (qR.out.cell 1).trans rfl
  have r2 : w1.cell? ⟨w.heap.size + 1, 2, none⟩ = some (.int .i64 0) := (qR.out.cell 2).trans rfl
  have fa0 := qA.out.free 0
  have fa1 := qA.out.free 1
  have fa2 := qA.out.free 2
  have fr0 := qR.out.free 0
  have fr1 := qR.out.free 1
  have fr2 := qR.out.free 2
  have la : w.heap.size + 2 < w1.heap.size := qA.out.lt
  have lr : w.heap.size + 1 < w1.heap.size := qR.out.lt
  go_wp2
  refine bodyPost_ret (v := (.agg #[.int .i64 ((stepC nw x).state), .string ⟨#[]⟩, .int .i64 0])) (by simp [results, Try.results17, go_sem, a0, a1, a2, r0, r1, r2, la, lr]) rfl ⟨rfl, D', F', ?_, ?_, qT.out, qK.out⟩
  · have s0 := (qS.out.far qA.out (by decide) 0 (.int .i64 ((stepC nw x).state)))
    have b0 := (qR.out.far (p := ⟨w.heap.size + 2, 0, none⟩) (by show w.heap.size + 1 ≠ w.heap.size + 2; omega) (.int .i64 ((stepC nw x).state)))
    have s1 := s0.far b0 (by decide) 0 (.int .i64 ((stepC nw x).state))
    have b1 := b0.set_ 0 (.int .i64 ((stepC nw x).state))
    have s2 := s1.far b1 (by decide) 1 (.string ⟨#[]⟩)
    have b2 := b1.set_ 1 (.string ⟨#[]⟩)
    exact s2.far b2 (by decide) 2 (.int .i64 0)
  · exact ((((qD.out.setCell (p := ⟨w.heap.size + 2, 0, none⟩) (.inr (by show w.heap.size ≤ w.heap.size + 2; omega)) (.int .i64 ((stepC nw x).state)))).setCell (p := ⟨w.heap.size + 1, 0, none⟩) (.inr (by show w.heap.size ≤ w.heap.size + 1; omega)) _).setCell (p := ⟨w.heap.size + 1, 1, none⟩) (.inr (by show w.heap.size ≤ w.heap.size + 1; omega)) _).setCell (p := ⟨w.heap.size + 1, 2, none⟩) (.inr (by show w.heap.size ≤ w.heap.size + 1; omega)) _
theorem does_4 (h : CH w F c D x) (hcap : D.cap ≤ 9223372036854775807) (nw n : Int) (z tn : ByteArray) (tk : Int) (tu : Bool) (tf ta tb sd : Int) {M Q : Int} (ho : OkC x M Q) (hM : M ≤ 1000000000) (hQ : Q ≤ 1000000000) :
    Calls Try.prog 17 #[ptr c, .agg #[.int .i64 4, .int .i64 nw, .int .i64 n, .string z, .string tn, .int .i64 tk, .bool tu, .int .i64 tf, .int .i64 ta, .int .i64 tb, .int .u64 sd]] w (DoesQ F c w (takeC x nw n) ((0, takeCB x nw n, 0))) := by
  have hB := (((Below.refl w.heap.size w).alloc (Nat.le_refl _) (.cells #[.int .i64 4, .int .i64 nw, .int .i64 n, .string z, .string tn, .int .i64 tk, .bool tu, .int .i64 tf, .int .i64 ta, .int .i64 tb, .int .u64 sd] 41)).alloc (by simp) (.cells #[.int .i64 0, .string ⟨#[]⟩, .int .i64 0] 43)).alloc (by simp; omega) (.cells #[.int .i64 0, .string ⟨#[]⟩, .int .i64 0] 43)
  have hR := Lib.hid ((Blk.new (w.alloc (.cells #[.int .i64 4, .int .i64 nw, .int .i64 n, .string z, .string tn, .int .i64 tk, .bool tu, .int .i64 tf, .int .i64 ta, .int .i64 tb, .int .u64 sd] 41)) 43 #[.int .i64 0, .string ⟨#[]⟩, .int .i64 0]).below ((Below.refl _ _).alloc (Nat.le_refl _) (.cells #[.int .i64 0, .string ⟨#[]⟩, .int .i64 0] 43)))
  have hA := Lib.hid (Blk.new ((w.alloc (.cells #[.int .i64 4, .int .i64 nw, .int .i64 n, .string z, .string tn, .int .i64 tk, .bool tu, .int .i64 tf, .int .i64 ta, .int .i64 tb, .int .u64 sd] 41)).alloc (.cells #[.int .i64 0, .string ⟨#[]⟩, .int .i64 0] 43)) 43 #[.int .i64 0, .string ⟨#[]⟩, .int .i64 0])
  have H := Lib.hid (h.below hB)
  have HB := Lib.hid hB
  have hlt := fun j (hj : F j) => Lib.hid (h.lt hj)
  clear h hB
  go_enter Try.func17, Try.ntmps17
  go_wp2_with fail
  refine (cTake_any H.out ho nw n hM hQ).mono ?_
  rintro e w1 ⟨A, cap, rfl, hbs, hnw, hT⟩
  have hcv := conv_bytes cap hbs
  clear hbs hnw
  have hTD := hT.tuD hcap
  clear hT
  obtain ⟨D', F', hC, hD, hS, hcp⟩ := hTD
  have qT := Lib.hid ((Stem.refl F w).trans HB.out.size hS)
  have qS := Lib.hid hC
  have qK := Lib.hid hcp
  have qD := Lib.hid (show Did F w w1 from (Did.of_below HB.out).trans (Stem.refl _ _) hD)
  have qA := Lib.hid (hA.out.did hD (fun c => by have := (hlt _ c).out; simp at this; omega))
  have qR := Lib.hid (hR.out.did hD (fun c => by have := (hlt _ c).out; simp at this; omega))
  rw [World.size_alloc, World.size_alloc] at qA
  rw [World.size_alloc] at qR
  clear hA hR H HB hlt hC hD hS hcp
  have a0 : w1.cell? ⟨w.heap.size + 2, 0, none⟩ = some (.int .i64 0) := (qA.out.cell 0).trans rfl
  have a1 : w1.cell? ⟨w.heap.size + 2, 1, none⟩ = some (.string ⟨#[]⟩) := (qA.out.cell 1).trans rfl
  have a2 : w1.cell? ⟨w.heap.size + 2, 2, none⟩ = some (.int .i64 0) := (qA.out.cell 2).trans rfl
  have r0 : w1.cell? ⟨w.heap.size + 1, 0, none⟩ = some (.int .i64 0) := (qR.out.cell 0).trans rfl
  have r1 : w1.cell? ⟨w.heap.size + 1, 1, none⟩ = some (.string ⟨#[]⟩) := (qR.out.cell 1).trans rfl
  have r2 : w1.cell? ⟨w.heap.size + 1, 2, none⟩ = some (.int .i64 0) := (qR.out.cell 2).trans rfl
  have fa0 := qA.out.free 0
  have fa1 := qA.out.free 1
  have fa2 := qA.out.free 2
  have fr0 := qR.out.free 0
  have fr1 := qR.out.free 1
  have fr2 := qR.out.free 2
  have la : w.heap.size + 2 < w1.heap.size := qA.out.lt
  have lr : w.heap.size + 1 < w1.heap.size := qR.out.lt
  go_wp2
  refine bodyPost_ret (v := (.agg #[.int .i64 0, .string (takeCB x nw n), .int .i64 0])) (by simp [results, Try.results17, go_sem, a0, a1, a2, r0, r1, r2, la, lr]) rfl ⟨rfl, D', F', ?_, ?_, qT.out, qK.out⟩
  · have s0 := (qS.out.far qA.out (by decide) 1 (.string (takeCB x nw n)))
    have b0 := (qR.out.far (p := ⟨w.heap.size + 2, 1, none⟩) (by show w.heap.size + 1 ≠ w.heap.size + 2; omega) (.string (takeCB x nw n)))
    have s1 := s0.far b0 (by decide) 0 (.int .i64 0)
    have b1 := b0.set_ 0 (.int .i64 0)
    have s2 := s1.far b1 (by decide) 1 (.string (takeCB x nw n))
    have b2 := b1.set_ 1 (.string (takeCB x nw n))
    exact s2.far b2 (by decide) 2 (.int .i64 0)
  · exact ((((qD.out.setCell (p := ⟨w.heap.size + 2, 1, none⟩) (.inr (by show w.heap.size ≤ w.heap.size + 2; omega)) (.string (takeCB x nw n)))).setCell (p := ⟨w.heap.size + 1, 0, none⟩) (.inr (by show w.heap.size ≤ w.heap.size + 1; omega)) _).setCell (p := ⟨w.heap.size + 1, 1, none⟩) (.inr (by show w.heap.size ≤ w.heap.size + 1; omega)) _).setCell (p := ⟨w.heap.size + 1, 2, none⟩) (.inr (by show w.heap.size ≤ w.heap.size + 1; omega)) _
theorem does_5 (h : CH w F c D x) (hcap : D.cap ≤ 9223372036854775807) (nw n : Int) (z tn : ByteArray) (tk : Int) (tu : Bool) (tf ta tb sd : Int) {M Q : Int} (ho : OkC x M Q) :
    Calls Try.prog 17 #[ptr c, .agg #[.int .i64 5, .int .i64 nw, .int .i64 n, .string z, .string tn, .int .i64 tk, .bool tu, .int .i64 tf, .int .i64 ta, .int .i64 tb, .int .u64 sd]] w (DoesQ F c w (insC x n ⟨tn, tk, tu, tf, ta, tb⟩ sd nw) ((0, ⟨#[]⟩, insE x n ⟨tn, tk, tu, tf, ta, tb⟩))) := by
  have hB := (((Below.refl w.heap.size w).alloc (Nat.le_refl _) (.cells #[.int .i64 5, .int .i64 nw, .int .i64 n, .string z, .string tn, .int .i64 tk, .bool tu, .int .i64 tf, .int .i64 ta, .int .i64 tb, .int .u64 sd] 41)).alloc (by simp) (.cells #[.int .i64 0, .string ⟨#[]⟩, .int .i64 0] 43)).alloc (by simp; omega) (.cells #[.int .i64 0, .string ⟨#[]⟩, .int .i64 0] 43)
  have hR := Lib.hid ((Blk.new (w.alloc (.cells #[.int .i64 5, .int .i64 nw, .int .i64 n, .string z, .string tn, .int .i64 tk, .bool tu, .int .i64 tf, .int .i64 ta, .int .i64 tb, .int .u64 sd] 41)) 43 #[.int .i64 0, .string ⟨#[]⟩, .int .i64 0]).below ((Below.refl _ _).alloc (Nat.le_refl _) (.cells #[.int .i64 0, .string ⟨#[]⟩, .int .i64 0] 43)))
  have hA := Lib.hid (Blk.new ((w.alloc (.cells #[.int .i64 5, .int .i64 nw, .int .i64 n, .string z, .string tn, .int .i64 tk, .bool tu, .int .i64 tf, .int .i64 ta, .int .i64 tb, .int .u64 sd] 41)).alloc (.cells #[.int .i64 0, .string ⟨#[]⟩, .int .i64 0] 43)) 43 #[.int .i64 0, .string ⟨#[]⟩, .int .i64 0])
  have H := Lib.hid (h.below hB)
  have HB := Lib.hid hB
  have hlt := fun j (hj : F j) => Lib.hid (h.lt hj)
  clear h hB
  go_enter Try.func17, Try.ntmps17
  go_wp2_with fail
  refine (cInsert_any H.out ho hcap n ⟨tn, tk, tu, tf, ta, tb⟩ sd nw).mono ?_
  rintro e w1 ⟨rfl, hTD⟩
  obtain ⟨D', F', hC, hD, hS, hcp⟩ := hTD
  have qT := Lib.hid ((Stem.refl F w).trans HB.out.size hS)
  have qS := Lib.hid hC
  have qK := Lib.hid hcp
  have qD := Lib.hid (show Did F w w1 from (Did.of_below HB.out).trans (Stem.refl _ _) hD)
  have qA := Lib.hid (hA.out.did hD (fun c => by have := (hlt _ c).out; simp at this; omega))
  have qR := Lib.hid (hR.out.did hD (fun c => by have := (hlt _ c).out; simp at this; omega))
  rw [World.size_alloc, World.size_alloc] at qA
  rw [World.size_alloc] at qR
  clear hA hR H HB hlt hC hD hS hcp
  have a0 : w1.cell? ⟨w.heap.size + 2, 0, none⟩ = some (.int .i64 0) := (qA.out.cell 0).trans rfl
  have a1 : w1.cell? ⟨w.heap.size + 2, 1, none⟩ = some (.string ⟨#[]⟩) := (qA.out.cell 1).trans rfl
  have a2 : w1.cell? ⟨w.heap.size + 2, 2, none⟩ = some (.int .i64 0) := (qA.out.cell 2).trans rfl
  have r0 : w1.cell? ⟨w.heap.size + 1, 0, none⟩ = some (.int .i64 0) := (qR.out.cell 0).trans rfl
  have r1 : w1.cell? ⟨w.heap.size + 1, 1, none⟩ = some (.string ⟨#[]⟩) := (qR.out.cell 1).trans rfl
  have r2 : w1.cell? ⟨w.heap.size + 1, 2, none⟩ = some (.int .i64 0) := (qR.out.cell 2).trans rfl
  have fa0 := qA.out.free 0
  have fa1 := qA.out.free 1
  have fa2 := qA.out.free 2
  have fr0 := qR.out.free 0
  have fr1 := qR.out.free 1
  have fr2 := qR.out.free 2
  have la : w.heap.size + 2 < w1.heap.size := qA.out.lt
  have lr : w.heap.size + 1 < w1.heap.size := qR.out.lt
  go_wp2
  refine bodyPost_ret (v := (.agg #[.int .i64 0, .string ⟨#[]⟩, .int .i64 (insE x n ⟨tn, tk, tu, tf, ta, tb⟩)])) (by simp [results, Try.results17, go_sem, a0, a1, a2, r0, r1, r2, la, lr]) rfl ⟨rfl, D', F', ?_, ?_, qT.out, qK.out⟩
  · have s0 := (qS.out.far qA.out (by decide) 2 (.int .i64 (insE x n ⟨tn, tk, tu, tf, ta, tb⟩)))
    have b0 := (qR.out.far (p := ⟨w.heap.size + 2, 2, none⟩) (by show w.heap.size + 1 ≠ w.heap.size + 2; omega) (.int .i64 (insE x n ⟨tn, tk, tu, tf, ta, tb⟩)))
    have s1 := s0.far b0 (by decide) 0 (.int .i64 0)
    have b1 := b0.set_ 0 (.int .i64 0)
    have s2 := s1.far b1 (by decide) 1 (.string ⟨#[]⟩)
    have b2 := b1.set_ 1 (.string ⟨#[]⟩)
    exact s2.far b2 (by decide) 2 (.int .i64 (insE x n ⟨tn, tk, tu, tf, ta, tb⟩))
  · exact ((((qD.out.setCell (p := ⟨w.heap.size + 2, 2, none⟩) (.inr (by show w.heap.size ≤ w.heap.size + 2; omega)) (.int .i64 (insE x n ⟨tn, tk, tu, tf, ta, tb⟩)))).setCell (p := ⟨w.heap.size + 1, 0, none⟩) (.inr (by show w.heap.size ≤ w.heap.size + 1; omega)) _).setCell (p := ⟨w.heap.size + 1, 1, none⟩) (.inr (by show w.heap.size ≤ w.heap.size + 1; omega)) _).setCell (p := ⟨w.heap.size + 1, 2, none⟩) (.inr (by show w.heap.size ≤ w.heap.size + 1; omega)) _
theorem does_6 (h : CH w F c D x) (hcap : D.cap ≤ 9223372036854775807) (nw n : Int) (z tn : ByteArray) (tk : Int) (tu : Bool) (tf ta tb sd : Int) {M Q : Int} (ho : OkC x M Q) (hM : M ≤ 1000000000) :
    Calls Try.prog 17 #[ptr c, .agg #[.int .i64 6, .int .i64 nw, .int .i64 n, .string z, .string tn, .int .i64 tk, .bool tu, .int .i64 tf, .int .i64 ta, .int .i64 tb, .int .u64 sd]] w (DoesQ F c w (remC x n nw) ((0, ⟨#[]⟩, remE x n))) := by
  have hB := (((Below.refl w.heap.size w).alloc (Nat.le_refl _) (.cells #[.int .i64 6, .int .i64 nw, .int .i64 n, .string z, .string tn, .int .i64 tk, .bool tu, .int .i64 tf, .int .i64 ta, .int .i64 tb, .int .u64 sd] 41)).alloc (by simp) (.cells #[.int .i64 0, .string ⟨#[]⟩, .int .i64 0] 43)).alloc (by simp; omega) (.cells #[.int .i64 0, .string ⟨#[]⟩, .int .i64 0] 43)
  have hR := Lib.hid ((Blk.new (w.alloc (.cells #[.int .i64 6, .int .i64 nw, .int .i64 n, .string z, .string tn, .int .i64 tk, .bool tu, .int .i64 tf, .int .i64 ta, .int .i64 tb, .int .u64 sd] 41)) 43 #[.int .i64 0, .string ⟨#[]⟩, .int .i64 0]).below ((Below.refl _ _).alloc (Nat.le_refl _) (.cells #[.int .i64 0, .string ⟨#[]⟩, .int .i64 0] 43)))
  have hA := Lib.hid (Blk.new ((w.alloc (.cells #[.int .i64 6, .int .i64 nw, .int .i64 n, .string z, .string tn, .int .i64 tk, .bool tu, .int .i64 tf, .int .i64 ta, .int .i64 tb, .int .u64 sd] 41)).alloc (.cells #[.int .i64 0, .string ⟨#[]⟩, .int .i64 0] 43)) 43 #[.int .i64 0, .string ⟨#[]⟩, .int .i64 0])
  have H := Lib.hid (h.below hB)
  have HB := Lib.hid hB
  have hlt := fun j (hj : F j) => Lib.hid (h.lt hj)
  clear h hB
  go_enter Try.func17, Try.ntmps17
  go_wp2_with fail
  refine (cRemove_any H.out ho hM hcap n nw).mono ?_
  rintro e w1 ⟨rfl, hTD⟩
  obtain ⟨D', F', hC, hD, hS, hcp⟩ := hTD
  have qT := Lib.hid ((Stem.refl F w).trans HB.out.size hS)
  have qS := Lib.hid hC
  have qK := Lib.hid hcp
  have qD := Lib.hid (show Did F w w1 from (Did.of_below HB.out).trans (Stem.refl _ _) hD)
  have qA := Lib.hid (hA.out.did hD (fun c => by have := (hlt _ c).out; simp at this; omega))
  have qR := Lib.hid (hR.out.did hD (fun c => by have := (hlt _ c).out; simp at this; omega))
  rw [World.size_alloc, World.size_alloc] at qA
  rw [World.size_alloc] at qR
  clear hA hR H HB hlt hC hD hS hcp
  have a0 : w1.cell? ⟨w.heap.size + 2, 0, none⟩ = some (.int .i64 0) := (qA.out.cell 0).trans rfl
  have a1 : w1.cell? ⟨w.heap.size + 2, 1, none⟩ = some (.string ⟨#[]⟩) := (qA.out.cell 1).trans rfl
  have a2 : w1.cell? ⟨w.heap.size + 2, 2, none⟩ = some (.int .i64 0) := (qA.out.cell 2).trans rfl
  have r0 : w1.cell? ⟨w.heap.size + 1, 0, none⟩ = some (.int .i64 0) := (qR.out.cell 0).trans rfl
  have r1 : w1.cell? ⟨w.heap.size + 1, 1, none⟩ = some (.string ⟨#[]⟩) := (qR.out.cell 1).trans rfl
  have r2 : w1.cell? ⟨w.heap.size + 1, 2, none⟩ = some (.int .i64 0) := (qR.out.cell 2).trans rfl
  have fa0 := qA.out.free 0
  have fa1 := qA.out.free 1
  have fa2 := qA.out.free 2
  have fr0 := qR.out.free 0
  have fr1 := qR.out.free 1
  have fr2 := qR.out.free 2
  have la : w.heap.size + 2 < w1.heap.size := qA.out.lt
  have lr : w.heap.size + 1 < w1.heap.size := qR.out.lt
  go_wp2
  refine bodyPost_ret (v := (.agg #[.int .i64 0, .string ⟨#[]⟩, .int .i64 (remE x n)])) (by simp [results, Try.results17, go_sem, a0, a1, a2, r0, r1, r2, la, lr]) rfl ⟨rfl, D', F', ?_, ?_, qT.out, qK.out⟩
  · have s0 := (qS.out.far qA.out (by decide) 2 (.int .i64 (remE x n)))
    have b0 := (qR.out.far (p := ⟨w.heap.size + 2, 2, none⟩) (by show w.heap.size + 1 ≠ w.heap.size + 2; omega) (.int .i64 (remE x n)))
    have s1 := s0.far b0 (by decide) 0 (.int .i64 0)
    have b1 := b0.set_ 0 (.int .i64 0)
    have s2 := s1.far b1 (by decide) 1 (.string ⟨#[]⟩)
    have b2 := b1.set_ 1 (.string ⟨#[]⟩)
    exact s2.far b2 (by decide) 2 (.int .i64 (remE x n))
  · exact ((((qD.out.setCell (p := ⟨w.heap.size + 2, 2, none⟩) (.inr (by show w.heap.size ≤ w.heap.size + 2; omega)) (.int .i64 (remE x n)))).setCell (p := ⟨w.heap.size + 1, 0, none⟩) (.inr (by show w.heap.size ≤ w.heap.size + 1; omega)) _).setCell (p := ⟨w.heap.size + 1, 1, none⟩) (.inr (by show w.heap.size ≤ w.heap.size + 1; omega)) _).setCell (p := ⟨w.heap.size + 1, 2, none⟩) (.inr (by show w.heap.size ≤ w.heap.size + 1; omega)) _
theorem does_7 (h : CH w F c D x) (hcap : D.cap ≤ 9223372036854775807) (nw n : Int) (z tn : ByteArray) (tk : Int) (tu : Bool) (tf ta tb sd : Int) {M Q : Int} (ho : OkC x M Q) (hM : M ≤ 1000000000) :
    Calls Try.prog 17 #[ptr c, .agg #[.int .i64 7, .int .i64 nw, .int .i64 n, .string z, .string tn, .int .i64 tk, .bool tu, .int .i64 tf, .int .i64 ta, .int .i64 tb, .int .u64 sd]] w (DoesQ F c w (updC x n ⟨tn, tk, tu, tf, ta, tb⟩ nw) ((0, ⟨#[]⟩, updCE x n ⟨tn, tk, tu, tf, ta, tb⟩))) := by
  have hB := (((Below.refl w.heap.size w).alloc (Nat.le_refl _) (.cells #[.int .i64 7, .int .i64 nw, .int .i64 n, .string z, .string tn, .int .i64 tk, .bool tu, .int .i64 tf, .int .i64 ta, .int .i64 tb, .int .u64 sd] 41)).alloc (by simp) (.cells #[.int .i64 0, .string ⟨#[]⟩, .int .i64 0] 43)).alloc (by simp; omega) (.cells #[.int .i64 0, .string ⟨#[]⟩, .int .i64 0] 43)
  have hR := Lib.hid ((Blk.new (w.alloc (.cells #[.int .i64 7, .int .i64 nw, .int .i64 n, .string z, .string tn, .int .i64 tk, .bool tu, .int .i64 tf, .int .i64 ta, .int .i64 tb, .int .u64 sd] 41)) 43 #[.int .i64 0, .string ⟨#[]⟩, .int .i64 0]).below ((Below.refl _ _).alloc (Nat.le_refl _) (.cells #[.int .i64 0, .string ⟨#[]⟩, .int .i64 0] 43)))
  have hA := Lib.hid (Blk.new ((w.alloc (.cells #[.int .i64 7, .int .i64 nw, .int .i64 n, .string z, .string tn, .int .i64 tk, .bool tu, .int .i64 tf, .int .i64 ta, .int .i64 tb, .int .u64 sd] 41)).alloc (.cells #[.int .i64 0, .string ⟨#[]⟩, .int .i64 0] 43)) 43 #[.int .i64 0, .string ⟨#[]⟩, .int .i64 0])
  have H := Lib.hid (h.below hB)
  have HB := Lib.hid hB
  have hlt := fun j (hj : F j) => Lib.hid (h.lt hj)
  clear h hB
  go_enter Try.func17, Try.ntmps17
  go_wp2_with fail
  refine (cUpdate_any H.out ho n ⟨tn, tk, tu, tf, ta, tb⟩ nw hM).mono ?_
  rintro e w1 ⟨rfl, hT⟩
  have hTD := hT.tuD hcap
  clear hT
  obtain ⟨D', F', hC, hD, hS, hcp⟩ := hTD
  have qT := Lib.hid ((Stem.refl F w).trans HB.out.size hS)
  have qS := Lib.hid hC
  have qK := Lib.hid hcp
  have qD := Lib.hid (show Did F w w1 from (Did.of_below HB.out).trans (Stem.refl _ _) hD)
  have qA := Lib.hid (hA.out.did hD (fun c => by have := (hlt _ c).out; simp at this; omega))
  have qR := Lib.hid (hR.out.did hD (fun c => by have := (hlt _ c).out; simp at this; omega))
  rw [World.size_alloc, World.size_alloc] at qA
  rw [World.size_alloc] at qR
  clear hA hR H HB hlt hC hD hS hcp
  have a0 : w1.cell? ⟨w.heap.size + 2, 0, none⟩ = some (.int .i64 0) := (qA.out.cell 0).trans rfl
  have a1 : w1.cell? ⟨w.heap.size + 2, 1, none⟩ = some (.string ⟨#[]⟩) := (qA.out.cell 1).trans rfl
  have a2 : w1.cell? ⟨w.heap.size + 2, 2, none⟩ = some (.int .i64 0) := (qA.out.cell 2).trans rfl
  have r0 : w1.cell? ⟨w.heap.size + 1, 0, none⟩ = some (.int .i64 0) := (qR.out.cell 0).trans rfl
  have r1 : w1.cell? ⟨w.heap.size + 1, 1, none⟩ = some (.string ⟨#[]⟩) := (qR.out.cell 1).trans rfl
  have r2 : w1.cell? ⟨w.heap.size + 1, 2, none⟩ = some (.int .i64 0) := (qR.out.cell 2).trans rfl
  have fa0 := qA.out.free 0
  have fa1 := qA.out.free 1
  have fa2 := qA.out.free 2
  have fr0 := qR.out.free 0
  have fr1 := qR.out.free 1
  have fr2 := qR.out.free 2
  have la : w.heap.size + 2 < w1.heap.size := qA.out.lt
  have lr : w.heap.size + 1 < w1.heap.size := qR.out.lt
  go_wp2
  refine bodyPost_ret (v := (.agg #[.int .i64 0, .string ⟨#[]⟩, .int .i64 (updCE x n ⟨tn, tk, tu, tf, ta, tb⟩)])) (by simp [results, Try.results17, go_sem, a0, a1, a2, r0, r1, r2, la, lr]) rfl ⟨rfl, D', F', ?_, ?_, qT.out, qK.out⟩
  · have s0 := (qS.out.far qA.out (by decide) 2 (.int .i64 (updCE x n ⟨tn, tk, tu, tf, ta, tb⟩)))
    have b0 := (qR.out.far (p := ⟨w.heap.size + 2, 2, none⟩) (by show w.heap.size + 1 ≠ w.heap.size + 2; omega) (.int .i64 (updCE x n ⟨tn, tk, tu, tf, ta, tb⟩)))
    have s1 := s0.far b0 (by decide) 0 (.int .i64 0)
    have b1 := b0.set_ 0 (.int .i64 0)
    have s2 := s1.far b1 (by decide) 1 (.string ⟨#[]⟩)
    have b2 := b1.set_ 1 (.string ⟨#[]⟩)
    exact s2.far b2 (by decide) 2 (.int .i64 (updCE x n ⟨tn, tk, tu, tf, ta, tb⟩))
  · exact ((((qD.out.setCell (p := ⟨w.heap.size + 2, 2, none⟩) (.inr (by show w.heap.size ≤ w.heap.size + 2; omega)) (.int .i64 (updCE x n ⟨tn, tk, tu, tf, ta, tb⟩)))).setCell (p := ⟨w.heap.size + 1, 0, none⟩) (.inr (by show w.heap.size ≤ w.heap.size + 1; omega)) _).setCell (p := ⟨w.heap.size + 1, 1, none⟩) (.inr (by show w.heap.size ≤ w.heap.size + 1; omega)) _).setCell (p := ⟨w.heap.size + 1, 2, none⟩) (.inr (by show w.heap.size ≤ w.heap.size + 1; omega)) _
theorem does_else (h : CH w F c D x) (hcap : D.cap ≤ 9223372036854775807) (kd : Int) (nw n : Int) (z tn : ByteArray) (tk : Int) (tu : Bool) (tf ta tb sd : Int) (h0 : kd ≠ 0) (h1 : kd ≠ 1) (h2 : kd ≠ 2) (h3 : kd ≠ 3) (h4 : kd ≠ 4) (h5 : kd ≠ 5) (h6 : kd ≠ 6) (h7 : kd ≠ 7) :
    Calls Try.prog 17 #[ptr c, .agg #[.int .i64 kd, .int .i64 nw, .int .i64 n, .string z, .string tn, .int .i64 tk, .bool tu, .int .i64 tf, .int .i64 ta, .int .i64 tb, .int .u64 sd]] w (DoesQ F c w (x) ((0, ⟨#[]⟩, 0))) := by
  have d0 : (kd == 0) = false := by simpa using h0
  have d1 : (kd == 1) = false := by simpa using h1
  have d2 : (kd == 2) = false := by simpa using h2
  have d3 : (kd == 3) = false := by simpa using h3
  have d4 : (kd == 4) = false := by simpa using h4
  have d5 : (kd == 5) = false := by simpa using h5
  have d6 : (kd == 6) = false := by simpa using h6
  have d7 : (kd == 7) = false := by simpa using h7
  clear h0 h1 h2 h3 h4 h5 h6 h7
  have hB := (((Below.refl w.heap.size w).alloc (Nat.le_refl _) (.cells #[.int .i64 kd, .int .i64 nw, .int .i64 n, .string z, .string tn, .int .i64 tk, .bool tu, .int .i64 tf, .int .i64 ta, .int .i64 tb, .int .u64 sd] 41)).alloc (by simp) (.cells #[.int .i64 0, .string ⟨#[]⟩, .int .i64 0] 43)).alloc (by simp; omega) (.cells #[.int .i64 0, .string ⟨#[]⟩, .int .i64 0] 43)
  have hR := Lib.hid ((Blk.new (w.alloc (.cells #[.int .i64 kd, .int .i64 nw, .int .i64 n, .string z, .string tn, .int .i64 tk, .bool tu, .int .i64 tf, .int .i64 ta, .int .i64 tb, .int .u64 sd] 41)) 43 #[.int .i64 0, .string ⟨#[]⟩, .int .i64 0]).below ((Below.refl _ _).alloc (Nat.le_refl _) (.cells #[.int .i64 0, .string ⟨#[]⟩, .int .i64 0] 43)))
  have hA := Lib.hid (Blk.new ((w.alloc (.cells #[.int .i64 kd, .int .i64 nw, .int .i64 n, .string z, .string tn, .int .i64 tk, .bool tu, .int .i64 tf, .int .i64 ta, .int .i64 tb, .int .u64 sd] 41)).alloc (.cells #[.int .i64 0, .string ⟨#[]⟩, .int .i64 0] 43)) 43 #[.int .i64 0, .string ⟨#[]⟩, .int .i64 0])
  have H := Lib.hid (h.below hB)
  have HB := Lib.hid hB
  have hlt := fun j (hj : F j) => Lib.hid (h.lt hj)
  clear h hB
  go_enter Try.func17, Try.ntmps17
  have hF1 := H.out
  have hT := Stem.refl F w
  have qS := Lib.hid hF1
  have qT := Lib.hid hT
  have qD := Lib.hid (Did.of_below (F := F) HB.out)
  clear hA hR H HB hlt hF1 hT
  go_wp2
  exact bodyPost_ret (v := .agg #[.int .i64 0, .string ⟨#[]⟩, .int .i64 0]) (by simp [results, Try.results17, go_sem]) rfl ⟨rfl, D, F, qS.out, qD.out, qT.out, hcap⟩
theorem does_any (h : CH w F c D x) (hcap : D.cap ≤ 9223372036854775807) {M Q : Int} (ho : OkC x M Q) (o : Op) (hM : M + o.s.size ≤ 10000000) (hQ : Q ≤ 100000000) :
    Calls Try.prog 17 #[ptr c, .agg #[.int .i64 o.kind, .int .i64 o.now, .int .i64 o.n, .string o.s, .string o.t.name, .int .i64 o.t.kind, .bool o.t.up, .int .i64 o.t.often, .int .i64 o.t.a, .int .i64 o.t.b, .int .u64 o.seed]] w (DoesQ F c w (doesC x o) (doesA x o)) := by
  obtain ⟨kd, nw, n, z, ⟨tn, tk, tu, tf, ta, tb⟩, sd⟩ := o
  unfold doesC doesA
  dsimp only at hM ⊢
  have hM1 : M + z.size ≤ 1000000000 := by omega
  have hM2 : M ≤ 1000000000 := by omega
  have hQ2 : Q + 20 * M ≤ 1000000000 := by omega
  have hQ3 : Q ≤ 1000000000 := by omega
  by_cases h0 : kd = 0
  · subst h0; simp only [if_pos]; exact does_0 h hcap nw n z tn tk tu tf ta tb sd ho hM1
  by_cases h1 : kd = 1
  · subst h1; exact does_1 h hcap nw n z tn tk tu tf ta tb sd ho
  by_cases h2 : kd = 2
  · subst h2; exact does_2 h hcap nw n z tn tk tu tf ta tb sd ho hM2
  by_cases h3 : kd = 3
  · subst h3; exact does_3 h hcap nw n z tn tk tu tf ta tb sd ho hM2 hQ2
  by_cases h4 : kd = 4
  · subst h4; exact does_4 h hcap nw n z tn tk tu tf ta tb sd ho hM2 hQ3
  by_cases h5 : kd = 5
  · subst h5; exact does_5 h hcap nw n z tn tk tu tf ta tb sd ho
  by_cases h6 : kd = 6
  · subst h6; exact does_6 h hcap nw n z tn tk tu tf ta tb sd ho hM2
  by_cases h7 : kd = 7
  · subst h7; exact does_7 h hcap nw n z tn tk tu tf ta tb sd ho hM2
  simp only [if_neg h0, if_neg h1, if_neg h2, if_neg h3, if_neg h4, if_neg h5, if_neg h6, if_neg h7]
  exact does_else h hcap kd nw n z tn tk tu tf ta tb sd h0 h1 h2 h3 h4 h5 h6 h7
end Go.Proofs.Ytigimpkjfmfkhaa.Chain
namespace Go.Proofs.Ytigimpkjfmfkhaa.Chain
open Go.RowKit Mem Tick Cargo Toxic Stage
set_option maxRecDepth 100000
set_option linter.unusedVariables false
set_option linter.unusedSimpArgs false
/-- since w: block c is chain x, all of it new. -/
def LiveC (w wr : World) (c : Nat) (x : Ch) : Prop := ∃ D F, CH wr F c D x ∧ (∀ j, F j → w.heap.size ≤ j) ∧ Below w.heap.size w wr ∧ D.cap ≤ 9223372036854775807
/-- blocks of other types are as they were. -/
def KeepC (wr w2 : World) : Prop := ∀ g t cs, Blk wr g t cs → t ∉ cts → Blk w2 g t cs
variable {w wr w1 w2 : World} {F F' : Nat → Prop} {c : Nat} {x y : Ch} {D : Lay} {M Q : Int}
theorem KeepC.below (h : Below wr.heap.size wr w2) : KeepC wr w2 := fun _ _ _ hb _ => hb.below h
theorem KeepC.trans (h : KeepC wr w1) (g : KeepC w1 w2) : KeepC wr w2 := fun k t cs hb ht => g k t cs (h k t cs hb ht) ht
theorem LiveC.old (h : LiveC w wr c x) : Below w.heap.size w wr := by obtain ⟨D, F, _, _, hb, _⟩ := h; exact hb
theorem LiveC.below (h : LiveC w wr c x) (hb : Below wr.heap.size wr w2) : LiveC w w2 c x := by
  obtain ⟨D, F, hC, hF, hB, hG⟩ := h
  exact ⟨D, F, hC.below hb, hF, hB.trans (hb.mono hB.size), hG⟩
theorem LiveC.drew (h : LiveC w wr c x) : LiveC w wr.drew c x := h.below (Below.refl _ _).drew
theorem LiveC.turn (hC : CH wr F c D x) (hF : ∀ j, F j → w.heap.size ≤ j) (hB : Below w.heap.size w wr) (h : TuD wr F w2 c y) : LiveC w w2 c y ∧ KeepC wr w2 := by
  obtain ⟨D', F', hC2, hd, hs, hc⟩ := h
  exact ⟨⟨D', F', hC2, fun j hj => (hs j hj).elim (hF j) (fun h => Nat.le_trans hB.size h), hB.trans (hd.below hB.size hF), hc⟩, fun g t cs hb ht => hb.did hd (hC.off hb ht)⟩
theorem LiveC.turnS (hC : CH wr F c D x) (hF : ∀ j, F j → w.heap.size ≤ j) (hB : Below w.heap.size w wr) (hcap : D.cap ≤ 9223372036854775807) (h : Tu wr F w2 c D y) : LiveC w w2 c y ∧ KeepC wr w2 := LiveC.turn hC hF hB (h.tuD hcap)
theorem live_newC (room now : Int) (h : roomOk room = true) (hB : Below w.heap.size w wr) :
    Calls Try.prog 8 #[.int .i64 room, .int .i64 now] wr fun e w2 => ∃ c, e = .returned (.tuple #[ptr c, .int .i64 0]) ∧ LiveC w w2 c (newC room now) ∧ Below wr.heap.size wr w2 :=
  (cNew_any room now wr h).mono fun e w2 ⟨c, F, D, he, hC, hF, hcp, hb⟩ => ⟨c, he, ⟨D, F, hC, fun j hj => Nat.le_trans hB.size (hF j hj), hB.trans (hb.mono hB.size), hcp⟩, hb⟩
theorem live_put (h : LiveC w wr c x) (ho : OkC x M Q) (hb1 : Below wr.heap.size wr w1) (n : Int) (A : Option Addr) (cap : Nat) (z : ByteArray) (hc : z.size ≤ cap) (hb : BS w1 A z) (hN : Newly wr A) (hM : M + z.size ≤ 1000000000) :
    Calls Try.prog 10 #[ptr c, .int .i64 n, .slice A z.size cap] w1 fun e w2 => e = .returned (.int .i64 (putCN x n z)) ∧ LiveC w w2 c (putC x n z) ∧ KeepC w1 w2 := by
  obtain ⟨D, F, hC, hF, hB, hG⟩ := h
  exact (cPut_any (hC.below hb1) ho n A cap z hc hb (fun g o e hf => by have := hC.lt hf; have := hN g o e; omega) hM).mono fun e w2 ⟨he, hT⟩ =>
    ⟨he, LiveC.turnS (hC.below hb1) hF (hB.trans (hb1.mono hB.size)) hG hT⟩
theorem live_close (h : LiveC w wr c x) (ho : OkC x M Q) (n : Int) :
    Calls Try.prog 13 #[ptr c, .int .i64 n] wr fun e w2 => e = .returned (.tuple #[]) ∧ LiveC w w2 c (closeC x n) ∧ KeepC wr w2 := by
  obtain ⟨D, F, hC, hF, hB, hG⟩ := h
  exact (cClose_any hC ho.two ho.ten n).mono fun e w2 ⟨he, hT⟩ => ⟨he, LiveC.turnS hC hF hB hG hT⟩
theorem live_step (h : LiveC w wr c x) (ho : OkC x M Q) (hM : M ≤ 1000000000) (hQ : Q + 20 * M ≤ 1000000000) (n : Int) :
    Calls Try.prog 11 #[ptr c, .int .i64 n] wr fun e w2 => e = .returned (.int .i64 (stepC n x).state) ∧ LiveC w w2 c (stepC n x) ∧ KeepC wr w2 := by
  obtain ⟨D, F, hC, hF, hB, hG⟩ := h
  exact (cStep_any hC ho hM hQ n).mono fun e w2 ⟨he, hT⟩ => ⟨he, LiveC.turnS hC hF hB hG hT⟩
theorem live_take (h : LiveC w wr c x) (ho : OkC x M Q) (hM : M ≤ 1000000000) (hQ : Q ≤ 1000000000) (n most : Int) :
    Calls Try.prog 12 #[ptr c, .int .i64 n, .int .i64 most] wr fun e w2 =>
      ∃ A cap, e = .returned (.slice A (takeCB x n most).size cap) ∧ BS w2 A (takeCB x n most) ∧ Newly wr A ∧ LiveC w w2 c (takeC x n most) ∧ KeepC wr w2 := by
  obtain ⟨D, F, hC, hF, hB, hG⟩ := h
  exact (cTake_any hC ho n most hM hQ).mono fun e w2 ⟨A, cap, he, hb, hN, hT⟩ => ⟨A, cap, he, hb, hN, LiveC.turnS hC hF hB hG hT⟩
theorem live_insert (h : LiveC w wr c x) (ho : OkC x M Q) (at_ : Int) (tx : Tox) (seed now : Int) :
    Calls Try.prog 20 #[ptr c, .int .i64 at_, tx.v, .int .u64 seed, .int .i64 now] wr fun e w2 => e = .returned (.int .i64 (insE x at_ tx)) ∧ LiveC w w2 c (insC x at_ tx seed now) ∧ KeepC wr w2 := by
  obtain ⟨D, F, hC, hF, hB, hG⟩ := h
  exact (cInsert_any hC ho hG at_ tx seed now).mono fun e w2 ⟨he, hT⟩ => ⟨he, LiveC.turn hC hF hB hT⟩
theorem live_state (h : LiveC w wr c x) :
    Calls Try.prog 14 #[ptr c] wr fun e w2 => e = .returned (.int .i64 x.state) ∧ wr = w2 := by
  obtain ⟨D, F, hC, _⟩ := h
  exact cState_any hC
theorem live_lost (h : LiveC w wr c x) :
    Calls Try.prog 18 #[ptr c] wr fun e w2 => e = .returned (.int .i64 x.lost) ∧ wr = w2 := by
  obtain ⟨D, F, hC, _⟩ := h
  exact cLost_any hC
theorem live_held (h : LiveC w wr c x) (ho : OkC x M Q) (hM : M ≤ 1000000000) :
    Calls Try.prog 15 #[ptr c] wr fun e w2 => e = .returned (.int .i64 (heldL x.l)) ∧ LiveC w w2 c x ∧ Below wr.heap.size wr w2 := by
  have h' := h
  obtain ⟨D, F, hC, _⟩ := h
  have := ho.held
  exact (cHeld_any hC (by omega) ho.ten).mono fun e w2 ⟨he, hb⟩ => ⟨he, h'.below hb, hb⟩
theorem live_toxics (h : LiveC w wr c x) (ho : OkC x M Q) :
    Calls Try.prog 21 #[ptr c] wr fun e w2 => ∃ A cap, e = .returned (.slice A (x.l.length - 2) cap) ∧ TR w2 A (toxs x) ∧ (∀ g o, A = some ⟨g, o, none⟩ → wr.heap.size ≤ g) ∧ LiveC w w2 c x ∧ Below wr.heap.size wr w2 := by
  have h' := h
  obtain ⟨D, F, hC, _⟩ := h
  exact (cToxics_any hC ho.two ho.ten).mono fun e w2 ⟨A, cap, he, ht, hg, hb⟩ => ⟨A, cap, he, ht, hg, h'.below hb, hb⟩
theorem live_does (h : LiveC w wr c x) (ho : OkC x M Q) (o : Op) (hM : M + o.s.size ≤ 10000000) (hQ : Q ≤ 100000000) :
    Calls Try.prog 17 #[ptr c, .agg #[.int .i64 o.kind, .int .i64 o.now, .int .i64 o.n, .string o.s, .string o.t.name, .int .i64 o.t.kind, .bool o.t.up, .int .i64 o.t.often, .int .i64 o.t.a, .int .i64 o.t.b, .int .u64 o.seed]] wr fun e w2 => e = .returned (Ans.v (doesA x o)) ∧ LiveC w w2 c (doesC x o) ∧ KeepC wr w2 := by
  obtain ⟨D, F, hC, hF, hB, hG⟩ := h
  exact (does_any hC hG ho o hM hQ).mono fun e w2 ⟨he, hT⟩ => ⟨he, LiveC.turn hC hF hB hT⟩
theorem ok_does (ho : OkC x M Q) (hQ : 0 ≤ Q) (o : Op) : OkC (doesC x o) (M + o.s.size) (Q + 10 * (M + o.s.size)) := by
  have hM : 0 ≤ M := by have := ho.held; omega
  unfold doesC
  split
  · exact (ok_put ho o.now o.s).more (by omega) (by omega)
  split
  · exact (ok_close ho o.now).more (by omega) (by omega)
  split
  · exact (ok_break ho).more (by omega) (by omega)
  split
  · exact (ok_step ho o.now).more (by omega) (by omega)
  split
  · exact (ok_take ho hM o.now o.n).more (by omega) (by omega)
  split
  · exact (ok_ins ho hQ o.n o.t o.seed o.now).more (by omega) (by omega)
  split
  · exact (ok_rem ho o.n o.now).more (by omega) (by omega)
  split
  · exact (ok_upd ho o.n o.t o.now).more (by omega) (by omega)
  · exact ho.more (by omega) (by omega)
/-! alive -/
def aT : Tox := ⟨⟨#[97]⟩, 6, false, 100, 2, 0⟩
def X1 : Ch := putC (newC 9 0) 0 sABC
def X2 : Ch := insC X1 0 aT 0 0
def X3 : Ch := stepC 0 X2
def X4 : Ch := takeC X3 0 9
def X5 : Ch := stepC 0 X4
theorem al1 : putCN (newC 9 0) 0 sABC = 3 := by kernel_rfl
theorem al2 : insE X1 0 aT = 0 := by kernel_rfl
theorem al3 : X3.state = 0 := by kernel_rfl
theorem al4 : takeCB X3 0 9 = ⟨#[97, 98]⟩ := by kernel_rfl
theorem al5 : X5.state = 1 ∧ X5.lost = 1 ∧ heldL X5.l = 0 ∧ X5.l.length = 3 := by refine ⟨?_, ?_, ?_, ?_⟩ <;> kernel_rfl
theorem ok0 : OkC (newC 9 0) 0 0 := ok_newC 9 0 (by decide)
theorem ok1 : OkC X1 3 0 := (ok_put ok0 0 sABC).more (by decide) (by decide)
theorem ok2 : OkC X2 3 0 := ok_ins ok1 (by decide) 0 aT 0 0
theorem ok3 : OkC X3 3 30 := (ok_step ok2 0).more (by decide) (by decide)
theorem ok4 : OkC X4 3 33 := (ok_take ok3 (by decide) 0 9).more (by decide) (by decide)
theorem ok5 : OkC X5 3 63 := (ok_step ok4 0).more (by decide) (by decide)
theorem sABC_of (w : World) : BS (w.alloc (.cells #[.int .u8 97, .int .u8 98, .int .u8 99] 5 (3, 4))) (some ⟨w.heap.size, 0, none⟩) sABC :=
  bs_const w _ _ _ fun i hi => by
    match i, hi with
    | 0, _ => rfl
    | 1, _ => rfl
    | 2, _ => rfl
theorem alive_any (w : World) : Calls Try.prog 9 #[] w fun e w' => e = .returned (.bool true) ∧ Below w.heap.size w w' := by
  have hn := fun (wr : World) (hB : Below w.heap.size w wr) => live_newC (w := w) (wr := wr) 9 0 (by decide) hB
  go_enter Try.func9, Try.ntmps9
  go_wp2_with fail
  refine (hn _ (Below.refl _ _)).mono ?_
  rintro e w0 ⟨c, rfl, HL, hB⟩
  have H0 := Lib.hid HL
  clear hn HL hB
  have k1 := Lib.run_convert_bytes_const (P := Try.prog) w0 29 5 #[.int .u8 97, .int .u8 98, .int .u8 99] 3 3 Try.underlying29 Try.underlying5
  go_wp2_with fail
  refine (live_put H0.out ok0 ((Below.refl w0.heap.size w0).alloc (Nat.le_refl _) _) 0 _ 3 sABC (by decide) (sABC_of w0) (fun g o e => by injection e with e; injection e with e; omega) (by decide)).mono ?_
  rintro e w1 ⟨rfl, HL, -⟩
  rw [al1]
  have H1 := Lib.hid (show LiveC w w1 c X1 from HL)
  clear k1 HL H0
  go_wp2_with fail
  refine (live_insert H1.out ok1 0 aT 0 0).mono ?_
  rintro e w2 ⟨rfl, HL, -⟩
  rw [al2]
  have H2 := Lib.hid (show LiveC w w2 c X2 from HL)
  clear HL H1
  go_wp2_with fail
  refine (live_step H2.out ok2 (by decide) (by decide) 0).mono ?_
  rintro e w3 ⟨rfl, HL, -⟩
  rw [show (stepC 0 X2).state = 0 from al3]
  have H3 := Lib.hid (show LiveC w w3 c X3 from HL)
  clear HL H2
  go_wp2_with fail
  refine (live_take H3.out ok3 (by decide) (by decide) 0 9).mono ?_
  rintro e w4 ⟨A4, c4, rfl, hb4, -, HL, -⟩
  rw [al4] at hb4 ⊢
  have H4 := Lib.hid (show LiveC w w4 c X4 from HL)
  have hcv : (convert 29 9 (.slice A4 2 c4)).run Try.prog w4 = .ok (.string ⟨#[97, 98]⟩) w4 := conv_bytes c4 hb4
  have e2 : (⟨#[97, 98]⟩ : ByteArray).size = 2 := rfl
  rw [e2]
  clear HL H3 hb4 e2
  go_wp2_with fail
  refine (live_step H4.out ok4 (by decide) (by decide) 0).mono ?_
  rintro e w5 ⟨rfl, HL, -⟩
  rw [show (stepC 0 X4).state = 1 from al5.1]
  have H5 := Lib.hid (show LiveC w w5 c X5 from HL)
  clear HL H4 hcv
  have l1 : X5.lost = 1 := al5.2.1
  have l2 : heldL X5.l = 0 := al5.2.2.1
  have l3 : X5.l.length - 2 = 1 := by rw [al5.2.2.2]
  go_wp2_with (first
    | (go_at_call 18; (with_reducible refine (live_lost H5.out).mono ?_); rintro e w6 ⟨rfl, rfl⟩; rw [l1])
    | (go_at_call 15; (with_reducible refine (live_held H5.out ok5 (by decide)).mono ?_); rintro e w7 ⟨rfl, HL, -⟩; rw [l2]; have H7 := Lib.hid HL; clear HL)
    | (go_at_call 21; (with_reducible refine (live_toxics H7.out ok5).mono ?_); rintro e w8 ⟨A8, c8, rfl, -, -, HL, -⟩; rw [l3]; have H8 := Lib.hid HL; clear HL))
  go_ret
  exact ⟨by simp, H8.out.old⟩
end Go.Proofs.Ytigimpkjfmfkhaa.Chain
namespace Go.Proofs.Ytigimpkjfmfkhaa.Chain
open Go.RowKit Mem Tick Cargo Toxic Stage
set_option linter.unusedVariables false
set_option linter.unusedSimpArgs false
variable {x y : Ch} {P : Pa → Prop}
/-! one stage -/
theorem force_st (s : Sg) (n : Int) (b : ByteArray) : (forceP s n b).t = s.t ∧ (forceP s n b).closed = s.closed ∧ (forceP s n b).state = (lookP s n).state ∧ (forceP s n b).room = s.room ∧ (forceP s n b).clock = (lookP s n).clock := by
  unfold forceP
  split
  · exact ⟨rfl, rfl, rfl, rfl, rfl⟩
  · unfold putIn diceP
    split <;> exact ⟨rfl, rfl, rfl, rfl, rfl⟩
theorem put_st (s : Sg) (n : Int) (b : ByteArray) : (putS s n b).t = s.t ∧ (putS s n b).closed = s.closed ∧ (putS s n b).state = (lookP s n).state ∧ (putS s n b).room = s.room ∧ (putS s n b).clock = (lookP s n).clock := by
  unfold putS
  split
  · exact ⟨rfl, rfl, rfl, rfl, rfl⟩
  · have h := force_st (lookP s n) n (b.extract 0 (roomFor (lookP s n) b))
    rw [look_idem] at h
    exact h
theorem takeOut_st (s : Sg) (m : Int) : (takeOut s m).t = s.t ∧ (takeOut s m).closed = s.closed ∧ (takeOut s m).state = s.state ∧ (takeOut s m).room = s.room ∧ (takeOut s m).clock = s.clock := by
  unfold takeOut wayS someS sliceS
  split
  · exact ⟨rfl, rfl, rfl, rfl, rfl⟩
  · split
    · split <;> exact ⟨rfl, rfl, rfl, rfl, rfl⟩
    · exact ⟨rfl, rfl, rfl, rfl, rfl⟩
theorem take_st (s : Sg) (n m : Int) : (takeS s n m).t = s.t ∧ (takeS s n m).closed = s.closed ∧ (takeS s n m).state = (lookP s n).state ∧ (takeS s n m).room = s.room ∧ (takeS s n m).clock = (lookP s n).clock := by
  unfold takeS
  split
  · exact ⟨rfl, rfl, rfl, rfl, rfl⟩
  · exact takeOut_st (lookP s n) _
theorem close_st (s : Sg) (n : Int) : (closeP s n).t = s.t ∧ (closeP s n).closed = true ∧ (closeP s n).state = s.state ∧ (closeP s n).room = s.room ∧ (closeP s n).c = s.c := by
  unfold closeP
  split
  · rename_i h; exact ⟨rfl, h, rfl, rfl, rfl⟩
  · exact ⟨rfl, rfl, rfl, rfl, rfl⟩
theorem upd_st (s : Sg) (t : Tox) (n : Int) : (updS s t n).t.kind = s.t.kind ∧ (updS s t n).closed = s.closed ∧ ((updS s t n).state = s.state ∨ (updS s t n).state = (lookP s n).state) ∧ (updS s t n).room = s.room := by
  unfold updS
  split
  · exact ⟨rfl, rfl, .inl rfl, rfl⟩
  · rename_i h
    have hk : t.kind = s.t.kind := Decidable.byContradiction fun e => h (.inl e)
    split
    · exact ⟨hk, rfl, .inr rfl, rfl⟩
    · exact ⟨hk, rfl, .inr rfl, rfl⟩
/-- what state a stage may look. -/
theorem look_cases (s : Sg) (n : Int) : (lookP s n).state = s.state ∨ (s.state = 0 ∧ ((lookP s n).state = 0 ∨ ((lookP s n).state = 2 ∧ s.t.kind = 5) ∨ ((lookP s n).state = 1 ∧ (s.t.kind = 4 ∨ s.t.kind = 6 ∨ (s.closed = true ∧ held s = 0))))) := by
  show lookS (nowP s n) = s.state ∨ (s.state = 0 ∧ (lookS (nowP s n) = 0 ∨ (lookS (nowP s n) = 2 ∧ s.t.kind = 5) ∨ (lookS (nowP s n) = 1 ∧ (s.t.kind = 4 ∨ s.t.kind = 6 ∨ (s.closed = true ∧ held s = 0)))))
  unfold lookS
  by_cases h0 : s.state = 0
  · rw [if_neg (by show ¬ s.state ≠ 0; omega)]
    refine .inr ⟨h0, ?_⟩
    split
    · rename_i h; exact .inr (.inl ⟨rfl, h.1⟩)
    split
    · rename_i h
      split
      · exact .inr (.inr ⟨rfl, .inl h⟩)
      · exact .inl rfl
    split
    · rename_i h; exact .inr (.inr ⟨rfl, .inr (.inl h.1)⟩)
    split
    · rename_i h
      unfold endedB at h
      simp only [Bool.and_eq_true, decide_eq_true_eq] at h
      exact .inr (.inr ⟨rfl, .inr (.inr ⟨h.1.1, h.1.2⟩)⟩)
    · exact .inl rfl
  · rw [if_pos (show (nowP s n).state ≠ 0 from h0)]
    exact .inl rfl
/-! what each call keeps of each stage -/
structure Loc (P : Pa → Prop) : Prop where
  look : ∀ a n, P a → P (lookA n a)
  put : ∀ a n b, P a → P ⟨putS a.s n b, a.cl⟩
  force : ∀ a n b, P a → P ⟨forceP a.s n b, a.cl⟩
  take : ∀ a n m, P a → P ⟨takeS a.s n m, a.cl⟩
  fin : ∀ a n, P a → P (endA n a)
  drain : ∀ a, P a → P (drainA a)
  upd : ∀ a t n, P a → P ⟨updS a.s t n, a.cl⟩
def AllL (P : Pa → Prop) (l : List Pa) : Prop := ∀ a ∈ l, P a
theorem AllL.at_ {l : List Pa} (h : AllL P l) {i : Nat} {a : Pa} (hi : l[i]? = some a) : P a := h a (List.mem_of_getElem? hi)
theorem AllL.set {l : List Pa} (h : AllL P l) (i : Nat) {b : Pa} (hb : P b) : AllL P (l.set i b) := fun a ha => (List.mem_or_eq_of_mem_set ha).elim (h a) (fun e => e ▸ hb)
theorem AllL.map {l : List Pa} (h : AllL P l) {f : Pa → Pa} (hf : ∀ a, P a → P (f a)) : AllL P (l.map f) := fun a ha => by
  obtain ⟨b, hb, rfl⟩ := List.mem_map.1 ha
  exact hf b (h b hb)
theorem AllL.take {l : List Pa} (h : AllL P l) (n : Nat) : AllL P (l.take n) := fun a ha => h a (List.mem_of_mem_take ha)
theorem AllL.drop {l : List Pa} (h : AllL P l) (n : Nat) : AllL P (l.drop n) := fun a ha => h a (List.mem_of_mem_drop ha)
theorem AllL.app {l l' : List Pa} (h : AllL P l) (h' : AllL P l') : AllL P (l ++ l') := fun a ha => (List.mem_append.1 ha).elim (h a) (h' a)
theorem AllL.cons {l : List Pa} {b : Pa} (hb : P b) (h : AllL P l) : AllL P (b :: l) := fun a ha => by
  rcases List.mem_cons.1 ha with e | e
  · subst e; exact hb
  · exact h a e
theorem AllL.erase {l : List Pa} (h : AllL P l) (n : Nat) : AllL P (l.eraseIdx n) := fun a ha => h a (List.mem_of_mem_eraseIdx ha)
theorem AllL.lose {l : List Pa} (hP : Loc P) (h : AllL P l) (n : Nat) : AllL P (loseL n l) := ((h.take n).map hP.drain).app (h.drop n)
theorem AllL.moveAt {l : List Pa} (hP : Loc P) (h : AllL P l) (now : Int) (j : Nat) : AllL P (moveAt now j l) := by
  unfold Chain.moveAt
  split
  · rename_i a b ha hb
    split
    · exact (h.set _ (hP.take a now _ (h.at_ ha))).set _ (hP.force (lookA now b) now _ (hP.look b now (h.at_ hb)))
    · exact h.set _ (hP.look b now (h.at_ hb))
  · exact h
theorem AllL.moves {l : List Pa} (hP : Loc P) (h : AllL P l) (now : Int) : ∀ m, AllL P (moves now m l)
  | 0 => h
  | m + 1 => AllL.moveAt hP (AllL.moves hP h now m) now m
theorem AllL.shutAt (hP : Loc P) (h : AllL P x.l) (now : Int) (j : Nat) : AllL P (shutAt now j x).l := by
  unfold Chain.shutAt
  split
  · rename_i a b ha hb
    split
    · exact ((h.set _ (hP.look a now (h.at_ ha))).lose hP _).set _ (hP.fin b now (h.at_ hb))
    · exact h.set _ (hP.look a now (h.at_ ha))
  · exact h
theorem AllL.shuts (hP : Loc P) (h : AllL P x.l) (now : Int) : ∀ m, AllL P (shuts now m x).l
  | 0 => h
  | m + 1 => AllL.shutAt hP (AllL.shuts hP h now m) now m
theorem AllL.last (hP : Loc P) (h : AllL P x.l) (now : Int) : AllL P (lastC now x).l := by
  unfold Chain.lastC
  split
  · rename_i a ha
    exact h.set _ (hP.look a now (h.at_ ha))
  · exact h
theorem AllL.break_ (hP : Loc P) (h : AllL P x.l) : AllL P (breakC x).l := by
  unfold breakC
  split
  · exact h
  · exact h.lose hP _
theorem AllL.step (hP : Loc P) (h : AllL P x.l) (now : Int) : AllL P (stepC now x).l := by
  unfold stepC
  split
  · exact h
  split
  · exact AllL.break_ hP (x := { x with l := x.l.map (lookA now) }) (h.map fun a => hP.look a now)
  · exact AllL.last hP (AllL.shuts hP (x := { x with l := Chain.moves now (x.l.length - 1) (x.l.map (lookA now)) }) ((h.map fun a => hP.look a now).moves hP now _) now _) now
theorem loc_does (hP : Loc P) (o : Op) (hnew : o.kind = 5 → insE x o.n o.t = 0 → P ⟨newS o.t o.seed x.room o.now, false⟩) (h : AllL P x.l) : AllL P (doesC x o).l := by
  unfold doesC
  split
  · unfold putC
    split
    · exact h
    split
    · rename_i a ha; exact h.set _ (hP.put a _ _ (h.at_ ha))
    · exact h
  split
  · unfold closeC
    split
    · split
      · rename_i a ha; exact h.set _ (hP.fin a _ (h.at_ ha))
      · exact h
    · exact h
  split
  · exact AllL.break_ hP h
  split
  · exact AllL.step hP h _
  split
  · unfold takeC
    split
    · exact h
    split
    · rename_i a ha; exact h.set _ (hP.take a _ _ (h.at_ ha))
    · exact h
  split
  · rename_i k5
    unfold insC
    split
    · exact h
    rename_i hz
    split
    · have hn := hnew k5 (by omega)
      refine (h.take _).app (AllL.cons ?_ (h.drop _))
      split
      · exact hP.fin _ _ hn
      · exact hn
    · exact h
  split
  · unfold remC
    split
    · unfold remAt
      split
      · rename_i p q hp hq
        have h1 : AllL P ((x.l.set (o.n.toNat + 1) (drainA p)).set (o.n.toNat + 1 + 1) ⟨forceP q.s o.now (cat p.s.c.1), q.cl⟩) := (h.set _ (hP.drain p (h.at_ hp))).set _ (hP.force q _ _ (h.at_ hq))
        refine AllL.erase (AllL.set ?_ _ ?_) _
        · split
          · exact h1.lose hP _
          · exact h1
        · split
          · exact hP.fin _ _ (hP.force q _ _ (h.at_ hq))
          · exact hP.force q _ _ (h.at_ hq)
      · exact h
    · exact h
  split
  · unfold updC
    split
    · split
      · rename_i a ha; exact h.set _ (hP.upd a _ _ (h.at_ ha))
      · exact h
    · exact h
  · exact h
/-! the kinds stay as they are, but for Insert and Remove -/
def kd (a : Pa) : Int := a.s.t.kind
theorem kd_look (n : Int) (a : Pa) : kd (lookA n a) = kd a := rfl
theorem kd_end (n : Int) (a : Pa) : kd (endA n a) = kd a := congrArg Tox.kind (close_st a.s n).1
theorem map_set_same {l : List Pa} {f : Pa → Int} {i : Nat} {a b : Pa} (ha : l[i]? = some a) (hb : f b = f a) : (l.set i b).map f = l.map f := by
  rw [List.map_set, hb]
  obtain ⟨hi, he⟩ := List.getElem?_eq_some_iff.1 ha
  have : (l.map f)[i]'(by simpa using hi) = f a := by simp [he]
  rw [← this]
  exact List.set_getElem_self _
theorem kd_lose (n : Nat) (l : List Pa) : (loseL n l).map kd = l.map kd := by
  unfold loseL
  have e : (l.take n).map (kd ∘ drainA) = (l.take n).map kd := List.map_congr_left fun a _ => rfl
  rw [List.map_append, List.map_map, e, ← List.map_append, List.take_append_drop]
theorem kd_moveAt (now : Int) (j : Nat) (l : List Pa) : (moveAt now j l).map kd = l.map kd := by
  unfold moveAt
  split
  · rename_i a b ha hb
    split
    · have hb2 : (l.set j ⟨takeS a.s now (free (lookP b.s now)), a.cl⟩)[j + 1]? = some b := by rw [List.getElem?_set_ne (by omega)]; exact hb
      rw [map_set_same hb2 (by show (forceP (lookP b.s now) now _).t.kind = b.s.t.kind; rw [(force_st _ _ _).1]; rfl), map_set_same ha (by show (takeS a.s now _).t.kind = a.s.t.kind; rw [(take_st _ _ _).1])]
    · exact map_set_same hb rfl
  · rfl
theorem kd_moves (now : Int) (l : List Pa) : ∀ m, (moves now m l).map kd = l.map kd
  | 0 => rfl
  | m + 1 => (kd_moveAt now m _).trans (kd_moves now l m)
theorem kd_shutAt (now : Int) (j : Nat) (x : Ch) : (shutAt now j x).l.map kd = x.l.map kd := by
  unfold shutAt
  split
  · rename_i a b ha hb
    split
    · have hb2 : (loseL (j + 1) (x.l.set j (lookA now a)))[j + 1]? = some b := by rw [lose_get (Nat.le_refl _), List.getElem?_set_ne (by omega)]; exact hb
      show ((loseL (j + 1) (x.l.set j (lookA now a))).set (j + 1) (endA now b)).map kd = _
      rw [map_set_same hb2 (kd_end now b), kd_lose, map_set_same ha (kd_look now a)]
    · exact map_set_same ha rfl
  · rfl
theorem kd_shuts (now : Int) (x : Ch) : ∀ m, (shuts now m x).l.map kd = x.l.map kd
  | 0 => rfl
  | m + 1 => (kd_shutAt now m _).trans (kd_shuts now x m)
theorem kd_break (x : Ch) : (breakC x).l.map kd = x.l.map kd := by
  unfold breakC
  split
  · rfl
  · exact kd_lose _ _
theorem kd_lookMap (now : Int) (l : List Pa) : (l.map (lookA now)).map kd = l.map kd := by rw [List.map_map]; exact List.map_congr_left fun a _ => rfl
theorem kd_last (now : Int) (x : Ch) : (lastC now x).l.map kd = x.l.map kd := by
  unfold lastC
  split
  · rename_i a ha; exact map_set_same ha rfl
  · rfl
theorem kd_step (now : Int) (x : Ch) : (stepC now x).l.map kd = x.l.map kd := by
  unfold stepC
  split
  · rfl
  split
  · exact (kd_break _).trans (kd_lookMap now x.l)
  · rw [kd_last, kd_shuts, kd_moves, kd_lookMap]
/-- the last stage is a pass. -/
def LastZ (x : Ch) : Prop := ∃ l, x.l.map kd = l ++ [0]
theorem LastZ.same (h : LastZ x) (e : y.l.map kd = x.l.map kd) : LastZ y := by obtain ⟨l, hl⟩ := h; exact ⟨l, e.trans hl⟩
theorem LastZ.at_ (h : LastZ x) {a : Pa} (ha : x.l[x.l.length - 1]? = some a) : kd a = 0 := by
  obtain ⟨l, hl⟩ := h
  have h1 := congrArg List.length hl
  simp only [List.length_map, List.length_append, List.length_singleton] at h1
  have h2 : (x.l.map kd)[x.l.length - 1]? = some (kd a) := by rw [List.getElem?_map, ha]; rfl
  rw [hl, show x.l.length - 1 = l.length by omega, List.getElem?_append_right (Nat.le_refl _), Nat.sub_self] at h2
  exact (Option.some.inj h2).symm
theorem lastZ_does (o : Op) (h : LastZ x) : LastZ (doesC x o) := by
  unfold doesC
  split
  · refine h.same ?_
    unfold putC
    split
    · rfl
    split
    · rename_i a ha; exact map_set_same ha (by show (putS a.s _ _).t.kind = a.s.t.kind; rw [(put_st _ _ _).1])
    · rfl
  split
  · refine h.same ?_
    unfold closeC
    split
    · split
      · rename_i a ha; exact map_set_same ha (kd_end _ a)
      · rfl
    · rfl
  split
  · exact h.same (kd_break x)
  split
  · exact h.same (kd_step _ x)
  split
  · refine h.same ?_
    unfold takeC
    split
    · rfl
    split
    · rename_i a ha; exact map_set_same ha (by show (takeS a.s _ _).t.kind = a.s.t.kind; rw [(take_st _ _ _).1])
    · rfl
  split
  · unfold insC
    split
    · exact h
    rename_i hz
    split
    · rename_i b hb
      obtain ⟨l, hl⟩ := h
      have hi := (List.getElem?_eq_some_iff.1 hb).1
      have hln := congrArg List.length hl
      simp only [List.length_map, List.length_append, List.length_singleton] at hln
      refine ⟨l.take (o.n.toNat + 1) ++ kd (if b.cl = true then endA o.now ⟨newS o.t o.seed x.room o.now, false⟩ else ⟨newS o.t o.seed x.room o.now, false⟩) :: l.drop (o.n.toNat + 1), ?_⟩
      · show (x.l.take (o.n.toNat + 1) ++ _ :: x.l.drop (o.n.toNat + 1)).map kd = _
        rw [List.map_append, List.map_cons, List.map_take, List.map_drop, hl, List.take_append_of_le_length (by omega), List.drop_append_of_le_length (by omega), List.append_assoc, List.cons_append]
    · exact h
  split
  · unfold remC
    split
    · rename_i hb
      have hb' : 0 ≤ o.n ∧ o.n < (x.l.length : Int) - 2 := by simpa [isB] using hb
      unfold remAt
      split
      · rename_i p q hp hq
        have hq2 : (x.l.set (o.n.toNat + 1) (drainA p))[o.n.toNat + 1 + 1]? = some q := by rw [List.getElem?_set_ne (by omega)]; exact hq
        have e1 : ((x.l.set (o.n.toNat + 1) (drainA p)).set (o.n.toNat + 1 + 1) ⟨forceP q.s o.now (cat p.s.c.1), q.cl⟩).map kd = x.l.map kd := by
          rw [map_set_same hq2 (by show (forceP q.s _ _).t.kind = q.s.t.kind; rw [(force_st _ _ _).1]), map_set_same hp (show kd (drainA p) = kd p from rfl)]
        have hq3 : ((x.l.set (o.n.toNat + 1) (drainA p)).set (o.n.toNat + 1 + 1) ⟨forceP q.s o.now (cat p.s.c.1), q.cl⟩)[o.n.toNat + 1 + 1]? = some ⟨forceP q.s o.now (cat p.s.c.1), q.cl⟩ := by
          rw [List.getElem?_set_self (by have := (List.getElem?_eq_some_iff.1 hq).1; simpa using this)]
        obtain ⟨l, hl⟩ := h
        have hln := congrArg List.length hl
        simp only [List.length_map, List.length_append, List.length_singleton] at hln
        refine ⟨l.eraseIdx (o.n.toNat + 1), ?_⟩
        have key : ∀ (L : List Pa) (b b' : Pa), L.map kd = x.l.map kd → L[o.n.toNat + 1 + 1]? = some b → kd b' = kd b → ((L.set (o.n.toNat + 1 + 1) b').eraseIdx (o.n.toNat + 1)).map kd = l.eraseIdx (o.n.toNat + 1) ++ [0] := fun L b b' g1 g2 g3 => by
          have em : ∀ (L : List Pa), (L.eraseIdx (o.n.toNat + 1)).map kd = (L.map kd).eraseIdx (o.n.toNat + 1) := fun L => by
            rw [List.eraseIdx_eq_take_drop_succ, List.eraseIdx_eq_take_drop_succ, List.map_append, List.map_take, List.map_drop]
          rw [em, map_set_same g2 g3, g1, hl, List.eraseIdx_append_of_lt_length (by omega)]
        refine key _ ⟨forceP q.s o.now (cat p.s.c.1), q.cl⟩ _ ?_ ?_ ?_
        · split
          · exact (kd_lose _ _).trans e1
          · exact e1
        · split
          · exact (lose_get (by omega)).trans hq3
          · exact hq3
        · split
          · exact kd_end _ _
          · rfl
      · exact h
    · exact h
  split
  · refine h.same ?_
    unfold updC
    split
    · split
      · rename_i a ha; exact map_set_same ha (upd_st a.s _ _).1
      · rfl
    · rfl
  · exact h
end Go.Proofs.Ytigimpkjfmfkhaa.Chain
namespace Go.Proofs.Ytigimpkjfmfkhaa.Chain
open Go.RowKit Mem Tick Cargo Toxic Stage
set_option linter.unusedVariables false
set_option linter.unusedSimpArgs false
variable {x y : Ch} {M Q : Int}
/-- what a call puts in. -/
def inC (x : Ch) (o : Op) : ByteArray := if o.kind = 0 then o.s.extract 0 (putCN x o.now o.s) else ⟨#[]⟩
theorem flow_does (x : Ch) (o : Op) : Flow x (inC x o) (doesA x o).2.1 (doesC x o) := by
  unfold inC doesA doesC
  by_cases h0 : o.kind = 0
  · simp only [if_pos h0]; exact flow_put x _ _
  simp only [if_neg h0]
  by_cases h1 : o.kind = 1
  · simp only [if_pos h1]; exact flow_close x _
  simp only [if_neg h1]
  by_cases h2 : o.kind = 2
  · simp only [if_pos h2]; exact flow_break x
  simp only [if_neg h2]
  by_cases h3 : o.kind = 3
  · simp only [if_pos h3]; exact flow_step _ x
  simp only [if_neg h3]
  by_cases h4 : o.kind = 4
  · simp only [if_pos h4]; exact flow_take x _ _
  simp only [if_neg h4]
  by_cases h5 : o.kind = 5
  · simp only [if_pos h5]; exact flow_ins x _ _ _ _
  simp only [if_neg h5]
  by_cases h6 : o.kind = 6
  · simp only [if_pos h6]; exact flow_remC x _ _
  simp only [if_neg h6]
  by_cases h7 : o.kind = 7
  · simp only [if_pos h7]; exact flow_upd x _ _ _
  simp only [if_neg h7]
  exact Flow.same rfl rfl id
theorem putCN_le (x : Ch) (now : Int) (b : ByteArray) : putCN x now b ≤ b.size := by
  unfold putCN
  split
  · exact Nat.zero_le _
  split
  · exact put_le _ _ _
  · exact Nat.zero_le _
theorem inC_size (x : Ch) (o : Op) : (inC x o).size = if o.kind = 0 then putCN x o.now o.s else 0 := by
  unfold inC
  split
  · exact ext_size _ _ (putCN_le _ _ _)
  · rfl
theorem putCN_shut (x : Ch) (now : Int) (b : ByteArray) (h : x.shut = true ∨ x.state ≠ 0) : putCN x now b = 0 := by unfold putCN; rw [if_pos h]
theorem inC_le (x : Ch) (o : Op) : (inC x o).size ≤ o.s.size := by
  rw [inC_size]
  split
  · exact putCN_le _ _ _
  · exact Nat.zero_le _
/-! Counts -/
/-- no state is below 0; broken is a Reset alone. -/
def Pst (a : Pa) : Prop := (0 ≤ a.s.state ∧ a.s.state ≤ 2) ∧ (a.s.state = 2 → a.s.t.kind = 5)
theorem pst_of {a a' : Pa} (h : Pst a) (n : Int) (hk : a'.s.t.kind = a.s.t.kind) (hs : a'.s.state = a.s.state ∨ a'.s.state = (lookP a.s n).state) : Pst a' := by
  have h1 := look_cases a.s n
  obtain ⟨h2, h3⟩ := h
  unfold Pst
  rw [hk]
  rcases hs with e | e <;> rw [e] <;> omega
theorem loc_pst : Loc Pst where
  look := fun a n h => pst_of h n rfl (.inr rfl)
  put := fun a n b h => pst_of h n (by rw [(put_st _ _ _).1]) (.inr (put_st _ _ _).2.2.1)
  force := fun a n b h => pst_of h n (by rw [(force_st _ _ _).1]) (.inr (force_st _ _ _).2.2.1)
  take := fun a n m h => pst_of h n (by rw [(take_st _ _ _).1]) (.inr (take_st _ _ _).2.2.1)
  fin := fun a n h => pst_of h n (by show (closeP a.s n).t.kind = _; rw [(close_st _ _).1]) (.inl (close_st _ _).2.2.1)
  drain := fun a h => h
  upd := fun a t n h => pst_of h n (upd_st _ _ _).1 (upd_st _ _ _).2.2.1
theorem pst_new (t : Tox) (seed room now : Int) : Pst ⟨newS t seed room now, false⟩ := by
  have h : (newS t seed room now).state = 0 := by unfold newS; split <;> rfl
  exact ⟨by show 0 ≤ (newS t seed room now).state ∧ (newS t seed room now).state ≤ 2; omega, fun e => by rw [show (newS t seed room now).state = 0 from h] at e; omega⟩
/-- the chain's own state. -/
theorem state_step (now : Int) (x : Ch) (h0 : x.state = 0) : (stepC now x).state = 2 ∧ heldL (stepC now x).l = 0 ∨ (∃ (x1 : Ch) (a : Pa), x1.l[x1.l.length - 1]? = some a ∧ stepC now x = lastC now x1 ∧ (stepC now x).state = (lookP a.s now).state ∧ x1.l.map kd = x.l.map kd ∧ (∀ P, Loc P → AllL P x.l → AllL P x1.l)) ∨ ((stepC now x).state = 0 ∧ x.l = []) := by
  unfold stepC
  rw [if_neg (fun e => e h0)]
  split
  · rename_i hb
    left
    unfold breakC
    rw [if_neg (by show ¬ x.state = 1; omega)]
    refine ⟨rfl, ?_⟩
    show heldL (loseL (x.l.map (lookA now)).length (x.l.map (lookA now))) = 0
    unfold loseL
    rw [List.take_length, List.drop_length, List.append_nil, ← lineL_size, drain_nil]
    rfl
  · right
    obtain ⟨x1, hx1⟩ : ∃ x1, x1 = shuts now (x.l.length - 1) { x with l := moves now (x.l.length - 1) (x.l.map (lookA now)) } := ⟨_, rfl⟩
    rw [← hx1]
    have hst : x1.state = 0 := by
      rw [hx1]
      have : ∀ m (z : Ch), (shuts now m z).state = z.state := by
        intro m
        induction m with
        | zero => intro z; rfl
        | succ m ih =>
          intro z
          show (shutAt now m (shuts now m z)).state = _
          unfold shutAt
          split
          · split <;> exact ih z
          · exact ih z
      rw [this]
      exact h0
    cases hl : x1.l[x1.l.length - 1]? with
    | some a =>
      left
      have e : (lastC now x1).state = (lookP a.s now).state := by unfold lastC; rw [hl]
      refine ⟨x1, a, hl, rfl, e, ?_, ?_⟩
      · rw [hx1, kd_shuts, kd_moves, kd_lookMap]
      · intro P hP h
        rw [hx1]
        exact AllL.shuts hP (AllL.moves hP (AllL.map h fun a => hP.look a now) now _) now _
    | none =>
      right
      have e : (lastC now x1).state = x1.state := by unfold lastC; rw [hl]
      have h1 := List.getElem?_eq_none_iff.1 hl
      have h2 : x1.l.length = x.l.length := by rw [hx1, (flow_shuts now _ _).2, (moves_line now _ _).2, List.length_map]
      exact ⟨by rw [e, hst], List.length_eq_zero_iff.1 (by omega)⟩
theorem state_else (x : Ch) (o : Op) (h2 : o.kind ≠ 2) (h3 : o.kind ≠ 3) : (doesC x o).state = x.state := by
  unfold doesC putC closeC takeC insC remC remAt updC
  repeat' split
  all_goals first | rfl | (exfalso; omega)
/-- what Counts and Ends want. -/
structure CntI (x : Ch) : Prop where
  pst : AllL Pst x.l
  st : 0 ≤ x.state ∧ x.state ≤ 2
  last : LastZ x
  broken : x.state = 2 → heldL x.l = 0
theorem CntI.does (h : CntI x) (o : Op) : CntI (doesC x o) ∧ (x.state ≠ 0 → (doesC x o).state = x.state) ∧ 0 ≤ (doesA x o).1 := by
  have hp : AllL Pst (doesC x o).l := loc_does loc_pst o (fun _ _ => pst_new _ _ _ _) h.pst
  have hz := lastZ_does o h.last
  have hflow := flow_does x o
  obtain ⟨hm1, hm2⟩ := flow_massIO hflow
  have key : (0 ≤ (doesC x o).state ∧ (doesC x o).state ≤ 2) ∧ ((doesC x o).state = 2 → heldL (doesC x o).l = 0) ∧ (x.state ≠ 0 → (doesC x o).state = x.state) := by
    have hin : x.state ≠ 0 → (inC x o).size = 0 := fun hne => by
      rw [inC_size]
      split
      · exact putCN_shut _ _ _ (.inr hne)
      · rfl
    have hstay : x.state = 2 → heldL (doesC x o).l = 0 := fun e => by
      have := hin (by omega)
      have := h.broken e
      omega
    by_cases h2 : o.kind = 2
    · have e : doesC x o = breakC x := by unfold doesC; rw [if_neg (by omega), if_neg (by omega), if_pos h2]
      rw [e] at hstay ⊢
      unfold breakC at hstay ⊢
      by_cases h1 : x.state = 1
      · rw [if_pos h1]; exact ⟨h.st, h.broken, fun _ => rfl⟩
      · rw [if_neg h1]
        refine ⟨⟨(by decide : (0 : Int) ≤ 2), Int.le_refl 2⟩, fun _ => ?_, fun hne => ?_⟩
        · show heldL (loseL x.l.length x.l) = 0
          unfold loseL
          rw [List.take_length, List.drop_length, List.append_nil, ← lineL_size, drain_nil]
          rfl
        · show (2 : Int) = x.state
          have := h.st
          omega
    by_cases h3 : o.kind = 3
    · have e : doesC x o = stepC o.now x := by unfold doesC; rw [if_neg (by omega), if_neg (by omega), if_neg (by omega), if_pos h3]
      rw [e] at hstay ⊢
      by_cases hs : x.state = 0
      · rcases state_step o.now x hs with ⟨h1, h2⟩ | ⟨x1, a, ha, he, hst, hkd, hal⟩ | ⟨h1, h2⟩
        · exact ⟨by omega, fun _ => h2, fun hne => absurd hs hne⟩
        · have hpa : Pst a := AllL.at_ (hal Pst loc_pst h.pst) ha
          have hka : kd a = 0 := LastZ.at_ (x := x1) (h.last.same hkd) ha
          have hl := look_cases a.s o.now
          obtain ⟨p1, p2⟩ := hpa
          unfold kd at hka
          refine ⟨by omega, fun e2 => ?_, fun hne => absurd hs hne⟩
          exfalso; omega
        · exact ⟨by omega, fun e2 => by omega, fun hne => absurd hs hne⟩
      · have e2 : stepC o.now x = x := by unfold stepC; rw [if_pos hs]
        rw [e2]
        exact ⟨h.st, h.broken, fun _ => rfl⟩
    · have e := state_else x o h2 h3
      rw [e]
      exact ⟨h.st, hstay, fun _ => rfl⟩
  refine ⟨⟨hp, key.1, hz, key.2.1⟩, key.2.2, ?_⟩
  unfold doesA
  split
  · show (0 : Int) ≤ (putCN x o.now o.s : Int); omega
  split
  · exact Int.le_refl 0
  split
  · exact Int.le_refl 0
  split
  · rename_i h0 h1 h2 h3
    have e : doesC x o = stepC o.now x := by unfold doesC; rw [if_neg h0, if_neg h1, if_neg h2, if_pos h3]
    rw [e] at key
    exact key.1.1
  all_goals repeat' split
  all_goals exact Int.le_refl 0
/-! Keeps -/
def KeepI (x : Ch) (i o : ByteArray) : Prop := ∃ L : ByteArray, i = o ++ lineL x.l ++ L ∧ (0 < L.size → x.shut = true)
theorem empty_size {b : ByteArray} (h : b.size = 0) : b = ⟨#[]⟩ := empty_of (by omega)
theorem keep_does {i o : ByteArray} (h : KeepI x i o) (p : Op) : KeepI (doesC x p) (i ++ inC x p) (o ++ (doesA x p).2.1) := by
  obtain ⟨L, h1, h2⟩ := h
  obtain ⟨K, k1, k2, k3, k4⟩ := flow_does x p
  by_cases hz : L.size = 0
  · have e := empty_size hz
    subst e
    rw [app_nil] at h1
    refine ⟨K, ?_, k3⟩
    rw [h1, ByteArray.append_assoc, k1]
    simp only [ByteArray.append_assoc]
  · have hs := h2 (by omega)
    have e : inC x p = ⟨#[]⟩ := empty_size (by
      rw [inC_size]
      split
      · exact putCN_shut _ _ _ (.inl hs)
      · rfl)
    rw [e, app_nil] at k1
    rw [e, app_nil]
    refine ⟨K ++ L, ?_, fun _ => k4 hs⟩
    rw [h1, k1]
    simp only [ByteArray.append_assoc]
theorem keep_new (room now : Int) : KeepI (newC room now) ⟨#[]⟩ ⟨#[]⟩ := by
  have hc : (newS noTox 0 room now).c = ([], 0) := by unfold newS; split <;> rfl
  refine ⟨⟨#[]⟩, ?_, fun e => absurd e (by decide)⟩
  show (⟨#[]⟩ : ByteArray) = ⟨#[]⟩ ++ ((⟨#[]⟩ ++ cat (newS noTox 0 room now).c.1) ++ cat (newS noTox 0 room now).c.1) ++ ⟨#[]⟩
  rw [hc]
  rfl
theorem keep_pre {i o : ByteArray} (h : KeepI x i o) : o.size ≤ i.size ∧ i.extract 0 o.size = o := by
  obtain ⟨L, h1, _⟩ := h
  subst h1
  refine ⟨by simp only [ByteArray.size_append]; omega, ?_⟩
  rw [ByteArray.append_assoc]
  apply ByteArray.ext
  simp
theorem cnt_new (room now : Int) : CntI (newC room now) := by
  have hc : newS noTox 0 room now = new0 noTox 0 room now := if_neg (by decide)
  refine ⟨fun a ha => ?_, ⟨Int.le_refl 0, (by decide : (0 : Int) ≤ 2)⟩, ⟨[0], rfl⟩, fun e => absurd (show (0 : Int) = 2 from e) (by decide)⟩
  have : a = ⟨newS noTox 0 room now, false⟩ := by
    rcases List.mem_cons.1 ha with h | h
    · exact h
    · exact List.mem_singleton.1 h
  subst this
  exact pst_new _ _ _ _
/-! Safe -/
def Psf (a : Pa) : Prop := (a.s.t.kind ≠ 4 ∧ a.s.t.kind ≠ 5 ∧ a.s.t.kind ≠ 6) ∧ a.s.closed = a.cl ∧ (a.s.state = 0 ∨ (a.s.state = 1 ∧ a.cl = true ∧ held a.s = 0))
theorem psf_look {a : Pa} (h : Psf a) (n : Int) : (lookP a.s n).state = 0 ∨ ((lookP a.s n).state = 1 ∧ a.cl = true ∧ held a.s = 0) := by
  obtain ⟨h1, h2, h3⟩ := h
  rcases look_cases a.s n with e | ⟨e0, e | e | ⟨e, e2⟩⟩
  · rw [e]; exact h3
  · exact .inl e
  · omega
  · rcases e2 with e2 | e2 | ⟨e2, e3⟩
    · omega
    · omega
    · exact .inr ⟨e, h2 ▸ e2, e3⟩
theorem psf_of {a a' : Pa} (h : Psf a) (n : Int) (hk : a'.s.t.kind = a.s.t.kind) (hcl : a'.s.closed = a.s.closed) (hc : a'.cl = a.cl) (hs : a'.s.state = (lookP a.s n).state) (hh : (lookP a.s n).state ≠ 0 → held a'.s ≤ held a.s) : Psf a' := by
  have hl := psf_look h n
  obtain ⟨h1, h2, h3⟩ := h
  refine ⟨by rw [hk]; exact h1, by rw [hcl, hc]; exact h2, ?_⟩
  rw [hs, hc]
  rcases hl with e | ⟨e, e2, e3⟩
  · exact .inl e
  · have := hh (by omega)
    exact .inr ⟨e, e2, by omega⟩
theorem force_no {s : Sg} {n : Int} (b : ByteArray) (h : (lookP s n).state ≠ 0) : forceP s n b = lookP s n := by unfold forceP; rw [if_pos (.inl h)]
theorem put_no {s : Sg} {n : Int} (b : ByteArray) (h : (lookP s n).state ≠ 0) : putS s n b = lookP s n := by unfold putS; rw [if_pos (.inl h)]
theorem take_no {s : Sg} {n : Int} (m : Int) (h : (lookP s n).state ≠ 0) : takeS s n m = lookP s n := by unfold takeS; rw [if_pos (.inl h)]
theorem loc_psf : Loc Psf where
  look := fun a n h => psf_of h n rfl rfl rfl rfl (fun _ => Nat.le_refl _)
  put := fun a n b h => psf_of h n (by rw [(put_st _ _ _).1]) (put_st _ _ _).2.1 rfl (put_st _ _ _).2.2.1 (fun e => by show held (putS a.s n b) ≤ _; rw [put_no b e]; exact Nat.le_refl _)
  force := fun a n b h => psf_of h n (by rw [(force_st _ _ _).1]) (force_st _ _ _).2.1 rfl (force_st _ _ _).2.2.1 (fun e => by show held (forceP a.s n b) ≤ _; rw [force_no b e]; exact Nat.le_refl _)
  take := fun a n m h => psf_of h n (by rw [(take_st _ _ _).1]) (take_st _ _ _).2.1 rfl (take_st _ _ _).2.2.1 (fun e => by show held (takeS a.s n m) ≤ _; rw [take_no m e]; exact Nat.le_refl _)
  fin := fun a n h => by
    obtain ⟨h1, h2, h3⟩ := h
    have hs := close_st a.s n
    refine ⟨by show (closeP a.s n).t.kind ≠ 4 ∧ (closeP a.s n).t.kind ≠ 5 ∧ (closeP a.s n).t.kind ≠ 6; rw [hs.1]; exact h1, hs.2.1, ?_⟩
    show (closeP a.s n).state = 0 ∨ ((closeP a.s n).state = 1 ∧ true = true ∧ held (closeP a.s n) = 0)
    rw [hs.2.2.1, held_close]
    exact h3.imp id (fun e => ⟨e.1, rfl, e.2.2⟩)
  drain := fun a h => ⟨h.1, h.2.1, h.2.2.imp id (fun e => ⟨e.1, e.2.1, rfl⟩)⟩
  upd := fun a t n h => by
    have hs := upd_st a.s t n
    have hh : held (updS a.s t n) = held a.s := by unfold held; rw [(upd_c a.s t n).1]
    rcases hs.2.2.1 with e | e
    · obtain ⟨h1, h2, h3⟩ := h
      refine ⟨by show (updS a.s t n).t.kind ≠ 4 ∧ (updS a.s t n).t.kind ≠ 5 ∧ (updS a.s t n).t.kind ≠ 6; rw [hs.1]; exact h1, hs.2.1.trans h2, ?_⟩
      show (updS a.s t n).state = 0 ∨ ((updS a.s t n).state = 1 ∧ a.cl = true ∧ held (updS a.s t n) = 0)
      rw [e, hh]
      exact h3
    · exact psf_of h n hs.1 hs.2.1 rfl e (fun _ => Nat.le_of_eq hh)
theorem psf_new (t : Tox) (seed room now : Int) (h : t.kind ≠ 4 ∧ t.kind ≠ 5 ∧ t.kind ≠ 6) : Psf ⟨newS t seed room now, false⟩ := by
  have e : (newS t seed room now).t = t ∧ (newS t seed room now).closed = false ∧ (newS t seed room now).state = 0 := by unfold newS; split <;> exact ⟨rfl, rfl, rfl⟩
  exact ⟨by show (newS t seed room now).t.kind ≠ 4 ∧ (newS t seed room now).t.kind ≠ 5 ∧ (newS t seed room now).t.kind ≠ 6; rw [e.1]; exact h, e.2.1, .inl e.2.2⟩
/-- a stage whose source is closed stands behind an empty one whose source is closed, too. -/
def PE (l : List Pa) : Prop := ∀ (i : Nat) (a b : Pa), l[i]? = some a → l[i + 1]? = some b → b.cl = true → a.cl = true ∧ held a.s = 0
def Qt (a a' : Pa) : Prop := a'.cl = a.cl ∧ (a.cl = true → held a.s = 0 → held a'.s = 0)
theorem Qt.refl (a : Pa) : Qt a a := ⟨rfl, fun _ h => h⟩
theorem Qt.le {a a' : Pa} (h : a'.cl = a.cl) (hh : held a'.s ≤ held a.s) : Qt a a' := ⟨h, fun _ e => by omega⟩
theorem PE.pw {l l' : List Pa} (h : PE l) (hl : l'.length = l.length) (hq : ∀ (i : Nat) (a a' : Pa), l[i]? = some a → l'[i]? = some a' → Qt a a') : PE l' := by
  intro i a' b' ha' hb' hcl
  have h1 := (List.getElem?_eq_some_iff.1 hb').1
  have ha : l[i]? = some l[i] := List.getElem?_eq_getElem (by omega)
  have hb : l[i + 1]? = some l[i + 1] := List.getElem?_eq_getElem (by omega)
  obtain ⟨q1, q2⟩ := hq i _ _ ha ha'
  obtain ⟨r1, r2⟩ := hq (i + 1) _ _ hb hb'
  rw [r1] at hcl
  obtain ⟨z1, z2⟩ := h i _ _ ha hb hcl
  exact ⟨by rw [q1]; exact z1, q2 z1 z2⟩
theorem PE.set {l : List Pa} (h : PE l) {i : Nat} {a a' : Pa} (ha : l[i]? = some a) (hq : Qt a a') : PE (l.set i a') := by
  refine h.pw (by simp) fun j b b' hb hb' => ?_
  by_cases e : i = j
  · subst e
    rw [ha] at hb
    rw [List.getElem?_set_self (List.getElem?_eq_some_iff.1 ha).1] at hb'
    cases hb; cases hb'
    exact hq
  · rw [List.getElem?_set_ne e, hb] at hb'
    cases hb'
    exact Qt.refl _
theorem PE.map {l : List Pa} (h : PE l) {f : Pa → Pa} (hf : ∀ a, Qt a (f a)) : PE (l.map f) := by
  refine h.pw (by simp) fun j b b' hb hb' => ?_
  rw [List.getElem?_map, hb] at hb'
  cases hb'
  exact hf b
theorem PE.lose {l : List Pa} (h : PE l) (n : Nat) : PE (loseL n l) := by
  refine h.pw (loseL_length _ _) fun j b b' hb hb' => ?_
  unfold loseL at hb'
  by_cases e : j < n
  · have hj := (List.getElem?_eq_some_iff.1 hb).1
    rw [List.getElem?_append_left (by simp; omega), List.getElem?_map, List.getElem?_take, if_pos e, hb] at hb'
    cases hb'
    exact ⟨rfl, fun _ _ => rfl⟩
  · have e2 : (loseL n l)[j]? = l[j]? := lose_get (by omega)
    unfold loseL at e2
    rw [e2, hb] at hb'
    cases hb'
    exact Qt.refl _
/-- all ahead of a closed source is empty. -/
theorem PE.empty {l : List Pa} (h : PE l) : ∀ (i : Nat) (a : Pa), l[i]? = some a → a.cl = true → heldL (l.take i) = 0
  | 0, a, ha, hc => rfl
  | i + 1, a, ha, hc => by
    have h1 := (List.getElem?_eq_some_iff.1 ha).1
    have hb : l[i]? = some l[i] := List.getElem?_eq_getElem (by omega)
    obtain ⟨z1, z2⟩ := h i _ _ hb ha hc
    rw [heldL_succ hb, PE.empty h i _ hb z1, z2]
theorem qt_look (n : Int) (a : Pa) : Qt a (lookA n a) := ⟨rfl, fun _ h => h⟩
theorem take_le_held (s : Sg) (n m : Int) : held (takeS s n m) ≤ held s ∧ (held s = 0 → (takeB s n m).size = 0) := by
  have := held_take s n m
  constructor <;> omega
theorem force_empty (s : Sg) (n : Int) (b : ByteArray) (h : b.size = 0) : held (forceP s n b) = held s := by
  unfold forceP
  rw [if_pos (.inr h)]
  rfl
theorem PE.moveAt {l : List Pa} (h : PE l) (now : Int) (j : Nat) : PE (moveAt now j l) := by
  unfold Chain.moveAt
  split
  · rename_i a b ha hb
    split
    · have h1 : PE (l.set (j + 1) ⟨forceP (lookP b.s now) now (takeB a.s now (free (lookP b.s now))), b.cl⟩) := h.set hb ⟨rfl, fun hc hh => by
        have z := h j a b ha hb hc
        show held (forceP (lookP b.s now) now _) = 0
        rw [force_empty _ _ _ ((take_le_held a.s now _).2 z.2)]
        exact hh⟩
      have ha2 : (l.set (j + 1) ⟨forceP (lookP b.s now) now (takeB a.s now (free (lookP b.s now))), b.cl⟩)[j]? = some a := by rw [List.getElem?_set_ne (by omega)]; exact ha
      have h2 := h1.set (a' := ⟨takeS a.s now (free (lookP b.s now)), a.cl⟩) ha2 (Qt.le rfl (take_le_held _ _ _).1)
      rw [List.set_comm _ _ (by omega : j + 1 ≠ j)] at h2
      exact h2
    · exact h.set hb (qt_look now b)
  · exact h
theorem PE.moves {l : List Pa} (h : PE l) (now : Int) : ∀ m, PE (moves now m l)
  | 0 => h
  | m + 1 => (PE.moves h now m).moveAt now m
/-- all is well: nothing is lost. -/
structure SafeI (x : Ch) : Prop where
  psf : AllL Psf x.l
  pe : PE x.l
  lost : x.lost = 0
theorem SafeI.shutAt (h : SafeI x) (now : Int) (j : Nat) : SafeI (shutAt now j x) := by
  refine ⟨AllL.shutAt loc_psf h.psf now j, ?_, ?_⟩
  · unfold Chain.shutAt
    split
    · rename_i a b ha hb
      split
      · rename_i hs
        have hpa : Psf a := h.psf.at_ ha
        have hz : a.cl = true ∧ held a.s = 0 := by
          rcases psf_look hpa now with e | ⟨_, e⟩
          · omega
          · exact e
        have h1 : PE (loseL (j + 1) (x.l.set j (lookA now a))) := (h.pe.set ha (qt_look now a)).lose _
        intro i c d hc hd hcl
        have hbj : (loseL (j + 1) (x.l.set j (lookA now a)))[j + 1]? = some b := by rw [lose_get (Nat.le_refl _), List.getElem?_set_ne (by omega)]; exact hb
        have hlen : j + 1 < (loseL (j + 1) (x.l.set j (lookA now a))).length := (List.getElem?_eq_some_iff.1 hbj).1
        have hc : ((loseL (j + 1) (x.l.set j (lookA now a))).set (j + 1) (endA now b))[i]? = some c := hc
        have hd : ((loseL (j + 1) (x.l.set j (lookA now a))).set (j + 1) (endA now b))[i + 1]? = some d := hd
        by_cases e1 : i = j
        · subst e1
          rw [List.getElem?_set_ne (by omega)] at hc
          unfold loseL at hc
          have hi2 : i < x.l.length := (List.getElem?_eq_some_iff.1 ha).1
          rw [List.getElem?_append_left (by simp; omega), List.getElem?_map, List.getElem?_take, if_pos (by omega), List.getElem?_set_self hi2] at hc
          cases hc
          exact ⟨hz.1, rfl⟩
        · by_cases e2 : i = j + 1
          · subst e2
            rw [List.getElem?_set_self hlen] at hc
            rw [List.getElem?_set_ne (by omega)] at hd
            cases hc
            have := h1 (j + 1) b d hbj hd hcl
            exact ⟨rfl, by show held (closeP b.s now) = 0; rw [held_close]; exact this.2⟩
          · rw [List.getElem?_set_ne (by omega)] at hc hd
            exact h1 i c d hc hd hcl
      · exact h.pe.set ha (qt_look now a)
    · exact h.pe
  · unfold Chain.shutAt
    split
    · rename_i a b ha hb
      split
      · rename_i hs
        have hpa : Psf a := h.psf.at_ ha
        have hz : a.cl = true ∧ held a.s = 0 := by
          rcases psf_look hpa now with e | ⟨_, e⟩
          · omega
          · exact e
        have h0 := h.pe.empty j a ha hz.1
        show x.lost + (heldL ((x.l.set j (lookA now a)).take (j + 1)) : Int) = 0
        have hi2 : j < x.l.length := (List.getElem?_eq_some_iff.1 ha).1
        have e : heldL ((x.l.set j (lookA now a)).take (j + 1)) = heldL ((x.l.set j (lookA now a)).take j) + held (lookA now a).s := heldL_succ (by rw [List.getElem?_set_self hi2])
        have e2 : (x.l.set j (lookA now a)).take j = x.l.take j := by rw [List.take_set_of_le (Nat.le_refl _)]
        have e3 : held (lookA now a).s = held a.s := rfl
        rw [e, e2, e3, h0, hz.2, h.lost]
        rfl
      · exact h.lost
    · exact h.lost
theorem SafeI.shuts (h : SafeI x) (now : Int) : ∀ m, SafeI (shuts now m x)
  | 0 => h
  | m + 1 => (SafeI.shuts h now m).shutAt now m
theorem safe_notBroken (h : AllL Psf x.l) (now : Int) : brokenB (x.l.map (lookA now)) = false := by
  unfold brokenB
  rw [List.any_map, List.any_eq_false]
  intro a ha
  have := psf_look (h a ha) now
  show ¬ ((lookP a.s now).state == 2) = true
  rcases this with e | ⟨e, _⟩ <;> rw [e] <;> decide
theorem SafeI.last (h : SafeI x) (now : Int) : SafeI (lastC now x) := by
  refine ⟨AllL.last loc_psf h.psf now, ?_, ?_⟩
  · unfold lastC
    split
    · rename_i a ha; exact h.pe.set ha (qt_look now a)
    · exact h.pe
  · unfold lastC
    split <;> exact h.lost
theorem SafeI.step (h : SafeI x) (now : Int) : SafeI (stepC now x) := by
  unfold stepC
  split
  · exact h
  rw [safe_notBroken h.psf now, if_neg (by decide)]
  exact SafeI.last (SafeI.shuts (x := { x with l := moves now (x.l.length - 1) (x.l.map (lookA now)) }) ⟨AllL.moves loc_psf (h.psf.map fun a => loc_psf.look a now) now _, (h.pe.map (qt_look now)).moves now _, h.lost⟩ now _) now
theorem put_closed {s : Sg} {n : Int} (b : ByteArray) (h : s.closed = true) : putS s n b = lookP s n := by unfold putS; rw [if_pos (.inr h)]
theorem qt_put {a : Pa} (h : Psf a) (n : Int) (b : ByteArray) : Qt a ⟨putS a.s n b, a.cl⟩ := ⟨rfl, fun hc hh => by
  show held (putS a.s n b) = 0
  rw [put_closed b (h.2.1.trans hc)]
  exact hh⟩
theorem qt_upd (a : Pa) (t : Tox) (n : Int) : Qt a ⟨updS a.s t n, a.cl⟩ := Qt.le rfl (by show held (updS a.s t n) ≤ _; unfold held; rw [(upd_c a.s t n).1]; exact Nat.le_refl _)
theorem PE.ins {l : List Pa} (h : PE l) {i : Nat} {b p : Pa} (hb : l[i]? = some b) (hp : p.cl = b.cl) (hh : held p.s = 0) : PE (l.take i ++ p :: l.drop i) := by
  have hi := (List.getElem?_eq_some_iff.1 hb).1
  intro m c d hc hd hcl
  rw [getIns l p i m (by omega)] at hc
  rw [getIns l p i (m + 1) (by omega)] at hd
  by_cases e1 : m + 1 < i
  · rw [if_pos (by omega)] at hc; rw [if_pos e1] at hd
    exact h m c d hc hd hcl
  · by_cases e2 : m + 1 = i
    · rw [if_pos (by omega)] at hc; rw [if_neg e1, if_pos e2] at hd
      cases hd
      rw [hp] at hcl
      exact h m c b hc (by rw [e2]; exact hb) hcl
    · by_cases e3 : m = i
      · rw [if_neg (by omega), if_pos e3] at hc; rw [if_neg e1, if_neg e2, show m + 1 - 1 = i by omega, hb] at hd
        cases hc; cases hd
        exact ⟨hp.trans hcl, hh⟩
      · rw [if_neg (by omega), if_neg e3] at hc; rw [if_neg e1, if_neg e2] at hd
        exact h (m - 1) c d hc (by rw [← hd]; congr 1; omega) hcl
theorem safe_rem (h : SafeI x) (i : Nat) (now : Int) : SafeI (remAt x i now) := by
  unfold remAt
  split
  · rename_i p q hp hq
    have hpp : Psf p := h.psf.at_ hp
    have hqq : Psf q := h.psf.at_ hq
    have hR := h.pe i p q hp hq
    have hcatp := held_cat p.s
    have hgone : ¬ (0 : Int) < (held p.s : Int) - ((held (forceP q.s now (cat p.s.c.1)) : Int) - held q.s) := by
      by_cases hl : (lookP q.s now).state = 0
      · have h1 := congrArg ByteArray.size (cat_force q.s now (cat p.s.c.1))
        rw [if_neg (fun e => e hl), ← held_cat, ByteArray.size_append, ← held_cat, ← hcatp] at h1
        omega
      · have hc : q.cl = true := by
          rcases psf_look hqq now with e | ⟨_, e, _⟩
          · exact absurd e hl
          · exact e
        have h1 := hR hc
        rw [force_no _ hl]
        have : held (lookP q.s now) = held q.s := rfl
        omega
    simp only [if_neg hgone]
    have hpl := (List.getElem?_eq_some_iff.1 hp).1
    have hql := (List.getElem?_eq_some_iff.1 hq).1
    obtain ⟨q1, hq1⟩ : ∃ q1 : Pa, q1 = ⟨forceP q.s now (cat p.s.c.1), q.cl⟩ := ⟨_, rfl⟩
    rw [← hq1]
    have hpq1 : Psf q1 := by rw [hq1]; exact loc_psf.force q now _ hqq
    obtain ⟨q2, hq2⟩ : ∃ q2 : Pa, q2 = if p.cl = true then endA now q1 else q1 := ⟨_, rfl⟩
    rw [← hq2]
    have hpq2 : Psf q2 := by
      rw [hq2]
      split
      · exact loc_psf.fin q1 now hpq1
      · exact hpq1
    have hc2 : q2.cl = true → p.cl = true := by
      rw [hq2]
      split
      · rename_i e; exact fun _ => e
      · intro e
        rw [hq1] at e
        exact (hR e).1
    have hc3 : q.cl = true → held q.s = 0 → q2.cl = true ∧ held q2.s = 0 := by
      intro e e2
      have hz := hR e
      have h1 : held q1.s = 0 := by
        rw [hq1]
        show held (forceP q.s now (cat p.s.c.1)) = 0
        rw [force_empty _ _ _ (by omega)]
        exact e2
      rw [hq2, if_pos hz.1]
      exact ⟨rfl, by show held (closeP q1.s now) = 0; rw [held_close]; exact h1⟩
    rw [List.set_set]
    refine ⟨AllL.erase (AllL.set (AllL.set h.psf _ (loc_psf.drain p hpp)) _ hpq2) _, ?_, h.lost⟩
    intro m c d hc hd hcl
    have hc : (((x.l.set i (drainA p)).set (i + 1) q2).eraseIdx i)[m]? = some c := hc
    have hd : (((x.l.set i (drainA p)).set (i + 1) q2).eraseIdx i)[m + 1]? = some d := hd
    rw [List.getElem?_eraseIdx] at hc hd
    have g1 : ∀ k, k ≠ i → k ≠ i + 1 → ((x.l.set i (drainA p)).set (i + 1) q2)[k]? = x.l[k]? := fun k k1 k2 => by rw [List.getElem?_set_ne (by omega), List.getElem?_set_ne (by omega)]
    have g2 : ((x.l.set i (drainA p)).set (i + 1) q2)[i + 1]? = some q2 := List.getElem?_set_self (by rw [List.length_set]; exact hql)
    by_cases e1 : m + 1 < i
    · rw [if_pos (by omega), g1 _ (by omega) (by omega)] at hc
      rw [if_pos e1, g1 _ (by omega) (by omega)] at hd
      exact h.pe m c d hc hd hcl
    · by_cases e2 : m + 1 = i
      · subst e2
        rw [if_pos (by omega), g1 _ (by omega) (by omega)] at hc
        rw [if_neg e1, g2] at hd
        cases hd
        exact h.pe m c p hc hp (hc2 hcl)
      · by_cases e3 : m = i
        · subst e3
          rw [if_neg (by omega), g2] at hc
          rw [if_neg e1, g1 _ (by omega) (by omega)] at hd
          cases hc
          have hz := h.pe (m + 1) q d hq hd hcl
          exact hc3 hz.1 hz.2
        · rw [if_neg (by omega), g1 _ (by omega) (by omega)] at hc
          rw [if_neg e1, g1 _ (by omega) (by omega)] at hd
          exact h.pe (m + 1) c d hc hd hcl
  · exact h
theorem safe_does (h : SafeI x) (o : Op) (h2 : o.kind ≠ 2) (h5 : o.kind = 5 → o.t.kind ≠ 4 ∧ o.t.kind ≠ 5 ∧ o.t.kind ≠ 6) : SafeI (doesC x o) := by
  have hp : AllL Psf (doesC x o).l := loc_does loc_psf o (fun k _ => psf_new _ _ _ _ (h5 k)) h.psf
  have key : PE (doesC x o).l ∧ (doesC x o).lost = 0 := by
    unfold doesC
    split
    · unfold putC
      split
      · exact ⟨h.pe, h.lost⟩
      split
      · rename_i a ha; exact ⟨h.pe.set ha (qt_put (h.psf.at_ ha) _ _), h.lost⟩
      · exact ⟨h.pe, h.lost⟩
    split
    · unfold closeC
      split
      · split
        · rename_i a ha
          refine ⟨fun i c d hc hd hcl => ?_, h.lost⟩
          have hc : (x.l.set 0 (endA o.now a))[i]? = some c := hc
          have hd : (x.l.set 0 (endA o.now a))[i + 1]? = some d := hd
          have hlen := (List.getElem?_eq_some_iff.1 ha).1
          rw [List.getElem?_set_ne (by omega)] at hd
          by_cases e : i = 0
          · subst e
            rw [List.getElem?_set_self hlen] at hc
            cases hc
            have := h.pe 0 a d ha hd hcl
            exact ⟨rfl, by show held (closeP a.s o.now) = 0; rw [held_close]; exact this.2⟩
          · rw [List.getElem?_set_ne (by omega)] at hc
            exact h.pe i c d hc hd hcl
        · exact ⟨h.pe, h.lost⟩
      · exact ⟨h.pe, h.lost⟩
    split
    · exact ⟨(h.step _).pe, (h.step _).lost⟩
    split
    · unfold takeC
      split
      · exact ⟨h.pe, h.lost⟩
      split
      · rename_i a ha; exact ⟨h.pe.set ha (Qt.le rfl (take_le_held _ _ _).1), h.lost⟩
      · exact ⟨h.pe, h.lost⟩
    split
    · unfold insC
      split
      · exact ⟨h.pe, h.lost⟩
      split
      · rename_i b hb
        have hn : held (newS o.t o.seed x.room o.now) = 0 := by
          have : (newS o.t o.seed x.room o.now).c = ([], 0) := by unfold newS; split <;> rfl
          unfold held; rw [this]; rfl
        refine ⟨h.pe.ins hb ?_ ?_, h.lost⟩
        · split
          · rename_i e; exact e.symm
          · rename_i e; simpa using e
        · split
          · show held (closeP _ _) = 0; rw [held_close]; exact hn
          · exact hn
      · exact ⟨h.pe, h.lost⟩
    split
    · unfold remC
      split
      · exact ⟨(safe_rem h _ _).pe, (safe_rem h _ _).lost⟩
      · exact ⟨h.pe, h.lost⟩
    split
    · unfold updC
      split
      · split
        · rename_i a ha; exact ⟨h.pe.set ha (qt_upd a _ _), h.lost⟩
        · exact ⟨h.pe, h.lost⟩
      · exact ⟨h.pe, h.lost⟩
    · exact ⟨h.pe, h.lost⟩
  exact ⟨hp, key.1, key.2⟩
/-- it is never broken; what is closed holds nothing. -/
theorem safe_state (h : SafeI x) (hs : x.state = 0 ∨ (x.state = 1 ∧ heldL x.l = 0)) (o : Op) (h2 : o.kind ≠ 2) (h5 : o.kind = 5 → o.t.kind ≠ 4 ∧ o.t.kind ≠ 5 ∧ o.t.kind ≠ 6) : (doesC x o).state = 0 ∨ ((doesC x o).state = 1 ∧ heldL (doesC x o).l = 0) := by
  obtain ⟨hm1, hm2⟩ := flow_massIO (flow_does x o)
  have hsd := safe_does h o h2 h5
  by_cases h3 : o.kind = 3
  · have e : doesC x o = stepC o.now x := by unfold doesC; rw [if_neg (by omega), if_neg (by omega), if_neg (by omega), if_pos h3]
    rw [e] at hsd ⊢
    rcases hs with h0 | ⟨h1, h1'⟩
    · unfold stepC at hsd ⊢
      rw [if_neg (fun q => q h0), safe_notBroken h.psf o.now, if_neg (by decide)] at hsd ⊢
      have h1 : SafeI (shuts o.now (x.l.length - 1) { x with l := moves o.now (x.l.length - 1) (x.l.map (lookA o.now)) }) :=
        SafeI.shuts (x := { x with l := moves o.now (x.l.length - 1) (x.l.map (lookA o.now)) }) ⟨AllL.moves loc_psf (h.psf.map fun a => loc_psf.look a o.now) o.now _, (h.pe.map (qt_look o.now)).moves o.now _, h.lost⟩ o.now _
      have h0' : (shuts o.now (x.l.length - 1) { x with l := moves o.now (x.l.length - 1) (x.l.map (lookA o.now)) }).state = 0 := by
        have : ∀ m (z : Ch), (shuts o.now m z).state = z.state := by
          intro m
          induction m with
          | zero => intro z; rfl
          | succ m ih =>
            intro z
            show (shutAt o.now m (shuts o.now m z)).state = _
            unfold shutAt
            split
            · split <;> exact ih z
            · exact ih z
        rw [this]; exact h0
      generalize shuts o.now (x.l.length - 1) { x with l := moves o.now (x.l.length - 1) (x.l.map (lookA o.now)) } = x1 at *
      unfold lastC
      split
      · rename_i a ha
        rcases psf_look (h1.psf.at_ ha) o.now with e0 | ⟨e1, e2, e3⟩
        · exact .inl e0
        · refine .inr ⟨e1, ?_⟩
          have hz := h1.pe.empty _ a ha e2
          show heldL (x1.l.set (x1.l.length - 1) (lookA o.now a)) = 0
          have hs2 := heldL_set ha (lookA o.now a)
          have hsum := heldL_succ ha
          have hlen := (List.getElem?_eq_some_iff.1 ha).1
          rw [show x1.l.length - 1 + 1 = x1.l.length by omega, List.take_length] at hsum
          have : held (lookA o.now a).s = held a.s := rfl
          omega
      · exact .inl h0'
    · have e2 : stepC o.now x = x := by unfold stepC; rw [if_pos (by omega)]
      rw [e2]
      exact .inr ⟨h1, h1'⟩
  · rw [state_else x o h2 h3]
    rcases hs with h0 | ⟨h1, h1'⟩
    · exact .inl h0
    · refine .inr ⟨h1, ?_⟩
      have hin : (inC x o).size = 0 := by
        rw [inC_size]
        split
        · exact putCN_shut _ _ _ (.inr (by omega))
        · rfl
      omega
theorem safe_new (room now : Int) : SafeI (newC room now) := by
  have hc : newS noTox 0 room now = new0 noTox 0 room now := if_neg (by decide)
  have hall : ∀ a ∈ (newC room now).l, a = ⟨newS noTox 0 room now, false⟩ := by
    intro a ha
    rcases List.mem_cons.1 ha with h | h
    · exact h
    · exact List.mem_singleton.1 h
  refine ⟨fun a ha => ?_, fun i a b ha hb hcl => ?_, rfl⟩
  · rw [hall a ha]
    exact psf_new _ _ _ _ (by decide)
  · rw [hall b (List.mem_of_getElem? hb)] at hcl
    cases hcl
end Go.Proofs.Ytigimpkjfmfkhaa.Chain
namespace Go.Proofs.Ytigimpkjfmfkhaa.Chain
open Go.RowKit Mem Tick Cargo Toxic Stage
set_option linter.unusedVariables false
set_option linter.unusedSimpArgs false
variable {x y : Ch} {M Q : Int}
theorem add_0 (n : Int) : add n 0 = nr n := by
  have h := nr_bd n
  unfold add
  rw [show nr 0 = 0 by decide, nr_in (by omega) (by omega)]; omega
/-- a pass, whose bytes are ready. -/
def P2 (a : Pa) : Prop := a.s.t.kind = 0 ∧ a.s.c.2 ≤ a.s.clock ∧ 0 ≤ a.s.clock ∧ a.s.clock ≤ 1099511627776
theorem clock_look (s : Sg) (n : Int) (h0 : 0 ≤ s.clock) (h1 : s.clock ≤ 1099511627776) : s.clock ≤ (lookP s n).clock ∧ 0 ≤ (lookP s n).clock ∧ (lookP s n).clock ≤ 1099511627776 := by
  show s.clock ≤ max s.clock (add n 0) ∧ 0 ≤ max s.clock (add n 0) ∧ max s.clock (add n 0) ≤ 1099511627776
  rw [add_0]
  have := nr_bd n
  omega
theorem p2_look {a : Pa} (h : P2 a) (n : Int) : P2 (lookA n a) := by
  obtain ⟨h1, h2, h3, h4⟩ := h
  have hc := clock_look a.s n h3 h4
  exact ⟨h1, by show a.s.c.2 ≤ (lookP a.s n).clock; omega, hc.2.1, hc.2.2⟩
theorem force_last {s : Sg} (n : Int) (b : ByteArray) (hk : s.t.kind = 0) (h2 : s.c.2 ≤ s.clock) (h3 : 0 ≤ s.clock) (h4 : s.clock ≤ 1099511627776) : (forceP s n b).c.2 ≤ (forceP s n b).clock := by
  have hc := clock_look s n h3 h4
  unfold forceP
  split
  · show s.c.2 ≤ (lookP s n).clock; omega
  · have hd : diceP (lookP s n) = lookP s n := if_neg (by show ¬ s.t.kind = 1; omega)
    have hw : whenP (lookP s n) = (lookP s n).clock := if_neg (by show ¬ s.t.kind = 1; omega)
    rw [hd, hw]
    show putLast s.c.2 (lookP s n).clock b ≤ (lookP s n).clock
    unfold putLast putAt
    rw [add_0, nr_in hc.2.1 hc.2.2]
    split <;> omega
theorem loc_p2 : Loc P2 where
  look := fun a n h => p2_look h n
  put := fun a n b h => by
    obtain ⟨h1, h2, h3, h4⟩ := h
    have hc := clock_look a.s n h3 h4
    have hs := put_st a.s n b
    refine ⟨by show (putS a.s n b).t.kind = 0; rw [hs.1]; exact h1, ?_, by show 0 ≤ (putS a.s n b).clock; rw [hs.2.2.2.2]; exact hc.2.1, by show (putS a.s n b).clock ≤ _; rw [hs.2.2.2.2]; exact hc.2.2⟩
    show (putS a.s n b).c.2 ≤ (putS a.s n b).clock
    unfold putS
    split
    · show a.s.c.2 ≤ (lookP a.s n).clock; omega
    · exact force_last n _ (s := lookP a.s n) h1 (by show a.s.c.2 ≤ (lookP a.s n).clock; omega) hc.2.1 hc.2.2
  force := fun a n b h => by
    obtain ⟨h1, h2, h3, h4⟩ := h
    have hc := clock_look a.s n h3 h4
    have hs := force_st a.s n b
    exact ⟨by show (forceP a.s n b).t.kind = 0; rw [hs.1]; exact h1, force_last n b h1 h2 h3 h4, by show 0 ≤ (forceP a.s n b).clock; rw [hs.2.2.2.2]; exact hc.2.1, by show (forceP a.s n b).clock ≤ _; rw [hs.2.2.2.2]; exact hc.2.2⟩
  take := fun a n m h => by
    obtain ⟨h1, h2, h3, h4⟩ := h
    have hc := clock_look a.s n h3 h4
    have hs := take_st a.s n m
    refine ⟨by show (takeS a.s n m).t.kind = 0; rw [hs.1]; exact h1, ?_, by show 0 ≤ (takeS a.s n m).clock; rw [hs.2.2.2.2]; exact hc.2.1, by show (takeS a.s n m).clock ≤ _; rw [hs.2.2.2.2]; exact hc.2.2⟩
    show (takeS a.s n m).c.2 ≤ (takeS a.s n m).clock
    rw [hs.2.2.2.2]
    have e : (takeS a.s n m).c.2 = a.s.c.2 := by
      unfold takeS
      split
      · rfl
      · show (wayS (lookP a.s n) _).c.2 = _
        rw [(wayS_c _ _).1]
        rfl
    rw [e]
    omega
  fin := fun a n h => by
    obtain ⟨h1, h2, h3, h4⟩ := h
    have hc := clock_look a.s n h3 h4
    have hs := close_st a.s n
    have e : (closeP a.s n).clock = (lookP a.s n).clock := by unfold closeP; split <;> rfl
    refine ⟨by show (closeP a.s n).t.kind = 0; rw [hs.1]; exact h1, ?_, by show 0 ≤ (closeP a.s n).clock; rw [e]; exact hc.2.1, by show (closeP a.s n).clock ≤ _; rw [e]; exact hc.2.2⟩
    show (closeP a.s n).c.2 ≤ (closeP a.s n).clock
    rw [e, hs.2.2.2.2]
    omega
  drain := fun a h => h
  upd := fun a t n h => by
    have e : updS a.s t n = a.s := by
      unfold updS
      rw [if_pos]
      have := h.1
      by_cases hk : t.kind = a.s.t.kind
      · exact .inr (.inl (by omega))
      · exact .inl hk
    rw [e]
    exact h
/-- what an open pass gives. -/
theorem take_all {s : Sg} (n most : Int) (hk : s.t.kind = 0) (hg : Cargo.Good s.c) (h2 : s.c.2 ≤ s.clock) (h3 : 0 ≤ s.clock) (h4 : s.clock ≤ 1099511627776) (ho : (lookP s n).state = 0) (hm : 1 ≤ most) : (takeB s n most).size = min (held s) most.toNat := by
  have hc := clock_look s n h3 h4
  have hr : rdy (lookP s n).clock s.c.1 = tot s.c.1 := rdy_all fun a ha => by have := hg.2.2 a ha; omega
  unfold takeB
  rw [if_neg (by rintro (e | e); exact e ho; omega)]
  unfold takeOutB outN wayN wayS readyN
  have hk' : (lookP s n).t.kind = 0 := hk
  rw [hk']
  simp only [show ¬ (0 : Int) = 2 by decide, show ¬ (0 : Int) = 3 by decide, show ¬ (0 : Int) = 4 by decide, show ¬ (0 : Int) = 6 by decide, if_false]
  have hcc : (lookP s n).c = s.c := rfl
  rw [hcc, hr]
  have hn : takeN (lookP s n).clock (min (tot s.c.1 : Int) most) s.c.1 = min (held s) most.toNat := by
    unfold takeN held
    rw [hr]
    omega
  rw [hn, size_takeP _ _ (by unfold held; omega)]
theorem look_ended {s : Sg} (n : Int) (hk : s.t.kind = 0) (hc : s.closed = true) (hh : held s = 0) (hs : s.state = 0 ∨ s.state = 1) : (lookP s n).state = 1 := by
  show lookS (nowP s n) = 1
  unfold lookS
  have e0 : (nowP s n).state = s.state := rfl
  have e1 : (nowP s n).t.kind = 0 := hk
  rw [e0, e1]
  by_cases h0 : s.state = 0
  · rw [if_neg (by omega), if_neg (by omega), if_neg (by decide), if_neg (by omega), if_pos]
    unfold endedB
    have e2 : (nowP s n).closed = true := hc
    have e3 : held (nowP s n) = 0 := hh
    rw [e2, e3, e1]
    simp
  · rw [if_pos h0]; omega
/-- what Drains wants. -/
structure DrI (x : Ch) : Prop where
  safe : SafeI x
  st : x.state = 0 ∨ (x.state = 1 ∧ heldL x.l = 0)
  p2 : AllL P2 x.l
  two : x.l.length = 2
theorem moveAt_two (now : Int) (a b : Pa) : moveAt now 0 [a, b] = if (lookP b.s now).state = 0 then [⟨takeS a.s now (free (lookP b.s now)), a.cl⟩, ⟨forceP (lookP b.s now) now (takeB a.s now (free (lookP b.s now))), b.cl⟩] else [a, lookA now b] := rfl
theorem shutAt_two (now : Int) {x : Ch} {a b : Pa} (hl : x.l = [a, b]) : (shutAt now 0 x).l = if (lookP a.s now).state = 1 then [drainA (lookA now a), endA now b] else [lookA now a, b] := by
  obtain ⟨l, r, lo, sh, st⟩ := x
  cases hl
  show (if (lookP a.s now).state = 1 then (_ : Ch) else _).l = _
  split <;> rfl
theorem lastC_two (now : Int) {x : Ch} {a b : Pa} (hl : x.l = [a, b]) : (lastC now x).l = [a, lookA now b] ∧ (lastC now x).state = (lookP b.s now).state := by
  obtain ⟨l, r, lo, sh, st⟩ := x
  cases hl
  exact ⟨rfl, rfl⟩
theorem heldL_two (a b : Pa) : heldL [a, b] = held a.s + held b.s := by simp [heldL]
theorem two_list {l : List Pa} (h : l.length = 2) : ∃ a b, l = [a, b] := by
  rcases l with _ | ⟨a, _ | ⟨b, _ | ⟨c, r⟩⟩⟩
  · simp at h
  · simp at h
  · exact ⟨a, b, rfl⟩
  · simp at h
set_option maxHeartbeats 1000000 in
/-- a round. -/
theorem drain_round (h : DrI x) (ho : OkC x M Q) (now most : Int) (hm : 1 ≤ most) (h0 : x.state = 0) (hcl : ∀ a, x.l[0]? = some a → a.cl = true) :
    (stepC now x).state ≠ 0 ∨ (heldL (takeC (stepC now x) now most).l + 1 ≤ heldL x.l ∧ ∀ a, (takeC (stepC now x) now most).l[0]? = some a → a.cl = true) := by
  by_cases hs : (stepC now x).state = 0
  · right
    obtain ⟨a, b, hl⟩ := two_list h.two
    have ha : Psf a := h.safe.psf a (by rw [hl]; simp)
    have hb : Psf b := h.safe.psf b (by rw [hl]; simp)
    have pa : P2 a := h.p2 a (by rw [hl]; simp)
    have pb : P2 b := h.p2 b (by rw [hl]; simp)
    have oka : Ok a.s := (ho.ok a (by rw [hl]; simp)).1
    have okb : Ok b.s := (ho.ok b (by rw [hl]; simp)).1
    have hpe : b.cl = true → a.cl = true ∧ held a.s = 0 := h.safe.pe 0 a b (by rw [hl]; rfl) (by rw [hl]; rfl)
    have hac : a.cl = true := hcl a (by rw [hl]; rfl)
    have hflow := flow_mass (flow_step now x)
    have hlost : (stepC now x).lost = 0 := (h.safe.step now).lost
    have hlost0 := h.safe.lost
    -- the list behind Step
    have hnb : brokenB (x.l.map (lookA now)) = false := safe_notBroken h.safe.psf now
    obtain ⟨l1, hl1⟩ : ∃ l1, l1 = moveAt now 0 [lookA now a, lookA now b] := ⟨_, rfl⟩
    have hstep : stepC now x = lastC now (shutAt now 0 { x with l := l1 }) := by
      unfold stepC
      rw [if_neg (fun e => e h0), hnb, if_neg (by decide), hl, hl1]
      rfl
    have hA : Psf (lookA now a) := loc_psf.look a now ha
    have hB : Psf (lookA now b) := loc_psf.look b now hb
    have PA : P2 (lookA now a) := loc_p2.look a now pa
    have PB : P2 (lookA now b) := loc_p2.look b now pb
    have hla : held (lookA now a).s = held a.s := rfl
    have hlb : held (lookA now b).s = held b.s := rfl
    have hidb : lookP (lookA now b).s now = (lookA now b).s := look_idem b.s now
    have hida : lookP (lookA now a).s now = (lookA now a).s := look_idem a.s now
    rw [moveAt_two, hidb] at hl1
    have hx0 : heldL x.l = held a.s + held b.s := by rw [hl, heldL_two]
    by_cases hz : held a.s + held b.s = 0
    · -- nothing is held: Step closes it
      exfalso
      obtain ⟨a', b', hl1', ca, ha', hb', hpa', hpb', ka, kb⟩ : ∃ a' b', l1 = [a', b'] ∧ a'.cl = true ∧ held a'.s = 0 ∧ held b'.s = 0 ∧ Psf a' ∧ Psf b' ∧ a'.s.t.kind = 0 ∧ b'.s.t.kind = 0 := by
        split at hl1
        · refine ⟨_, _, hl1, hac, ?_, ?_, loc_psf.take _ now _ hA, loc_psf.force _ now _ hB, (loc_p2.take _ now (free (lookA now b).s) PA).1, (loc_p2.force _ now (takeB (lookA now a).s now (free (lookA now b).s)) PB).1⟩
          · have := (take_le_held (lookA now a).s now (free (lookA now b).s)).1
            show held (takeS (lookA now a).s now _) = 0
            omega
          · show held (forceP (lookA now b).s now _) = 0
            rw [force_empty _ _ _ ((take_le_held (lookA now a).s now _).2 (by omega))]
            omega
        · exact ⟨_, _, hl1, hac, by omega, by show held (lookA now b).s = 0; omega, hA, loc_psf.look _ now hB, PA.1, PB.1⟩
      have hsa : (lookP a'.s now).state = 1 := look_ended now ka (hpa'.2.1.trans ca) ha' (by have := hpa'.2.2; omega)
      have h2 := shutAt_two now (x := { x with l := l1 }) hl1'
      rw [if_pos hsa] at h2
      have h3 := lastC_two now h2
      rw [hstep, h3.2] at hs
      have hpe' : Psf (endA now b') := loc_psf.fin b' now hpb'
      have hfin : (lookP (endA now b').s now).state = 1 := look_ended now (by show (closeP b'.s now).t.kind = 0; rw [(close_st _ _).1]; exact kb) (close_st _ _).2.1 (by show held (closeP b'.s now) = 0; rw [held_close]; exact hb') (by have := hpe'.2.2; omega)
      rw [hfin] at hs
      omega
    · obtain ⟨a', b', hl1', hb', pb', okb', hac'⟩ : ∃ a' b', l1 = [a', b'] ∧ 1 ≤ held b'.s ∧ P2 b' ∧ Ok b'.s ∧ a'.cl = true := by
        split at hl1
        · rename_i hbo
          refine ⟨_, _, hl1, ?_, loc_p2.force _ now _ PB, (okb.look now).force now _, hac⟩
          show 1 ≤ held (forceP (lookA now b).s now (takeB (lookA now a).s now (free (lookA now b).s)))
          have h1 := congrArg ByteArray.size (cat_force (lookA now b).s now (takeB (lookA now a).s now (free (lookA now b).s)))
          rw [hidb, if_neg (fun e => e hbo), ← held_cat, ByteArray.size_append, ← held_cat] at h1
          rw [h1]
          by_cases hb1 : 1 ≤ held b.s
          · omega
          · have hao : (lookP (lookA now a).s now).state = 0 := by
              rw [hida]
              rcases hA.2.2 with e | ⟨_, _, e⟩
              · exact e
              · omega
            have hfr : free (lookA now b).s = b.s.room := by
              have hr := okb.r0
              unfold free
              show max (b.s.room - (held b.s : Int)) 0 = b.s.room
              omega
            have hr := okb.r0
            have ht := take_all (s := (lookA now a).s) now (free (lookA now b).s) PA.1 (oka.look now).good PA.2.1 PA.2.2.1 PA.2.2.2 hao (by rw [hfr]; exact hr)
            rw [ht, hfr]
            omega
        · rename_i hbo
          exfalso
          rcases hB.2.2 with e | ⟨_, e, e2⟩
          · exact hbo e
          · have := hpe e
            omega
      have h2 := shutAt_two now (x := { x with l := l1 }) hl1'
      obtain ⟨a2, b2, h2', hb2, pb2, okb2, hac2⟩ : ∃ a2 b2, (shutAt now 0 { x with l := l1 }).l = [a2, b2] ∧ 1 ≤ held b2.s ∧ P2 b2 ∧ Ok b2.s ∧ a2.cl = true := by
        split at h2
        · exact ⟨_, _, h2, by show 1 ≤ held (closeP b'.s now); rw [held_close]; exact hb', loc_p2.fin b' now pb', okb'.close now, hac'⟩
        · exact ⟨_, _, h2, hb', pb', okb', hac'⟩
      have h3 := lastC_two now h2'
      rw [← hstep] at h3
      have hso : (lookP (lookA now b2).s now).state = 0 := by
        have : lookP (lookA now b2).s now = (lookA now b2).s := look_idem b2.s now
        rw [this]
        show (lookP b2.s now).state = 0
        rw [← h3.2]
        exact hs
      have PB2 : P2 (lookA now b2) := loc_p2.look b2 now pb2
      have ht := take_all (s := (lookA now b2).s) now most PB2.1 (okb2.look now).good PB2.2.1 PB2.2.2.1 PB2.2.2.2 hso hm
      have hhb : held (lookA now b2).s = held b2.s := rfl
      have htc : takeCB (stepC now x) now most = takeB (lookA now b2).s now most := by
        unfold takeCB
        rw [if_neg (by omega), h3.1]
        rfl
      have hfl := flow_massIO (flow_take (stepC now x) now most)
      have hlt : (takeC (stepC now x) now most).lost = (stepC now x).lost := by
        unfold takeC
        split
        · rfl
        split <;> rfl
      rw [htc] at hfl
      have e0 : ((⟨#[]⟩ : ByteArray).size : Int) = 0 := rfl
      rw [e0] at hfl
      refine ⟨by omega, fun a0 ha0 => ?_⟩
      unfold takeC at ha0
      rw [if_neg (by omega), h3.1] at ha0
      have ha0 : some a2 = some a0 := ha0
      cases ha0
      exact hac2
  · exact .inl hs
theorem two_step (now : Int) (x : Ch) : (stepC now x).l.length = x.l.length := by
  have := congrArg List.length (kd_step now x)
  simpa using this
theorem DrI.step (h : DrI x) (now : Int) : DrI (stepC now x) :=
  ⟨h.safe.step now, by have := safe_state h.safe h.st ⟨3, now, 0, ⟨#[]⟩, ⟨⟨#[]⟩, 0, false, 0, 0, 0⟩, 0⟩ (by show (3 : Int) ≠ 2; decide) (fun e => absurd (show (3 : Int) = 5 from e) (by decide)); exact this, AllL.step loc_p2 h.p2 now, (two_step now x).trans h.two⟩
theorem DrI.does (h : DrI x) (o : Op) (hk : o.kind = 0 ∨ o.kind = 1 ∨ o.kind = 4) : DrI (doesC x o) := by
  refine ⟨safe_does h.safe o (by omega) (fun e => by omega), safe_state h.safe h.st o (by omega) (fun e => by omega), loc_does loc_p2 o (fun e => by omega) h.p2, ?_⟩
  unfold doesC
  split
  · unfold putC
    split
    · exact h.two
    split
    · show (x.l.set _ _).length = 2; rw [List.length_set]; exact h.two
    · exact h.two
  split
  · unfold closeC
    split
    · split
      · show (x.l.set _ _).length = 2; rw [List.length_set]; exact h.two
      · exact h.two
    · exact h.two
  split
  · omega
  split
  · omega
  split
  · unfold takeC
    split
    · exact h.two
    split
    · show (x.l.set _ _).length = 2; rw [List.length_set]; exact h.two
    · exact h.two
  all_goals (exfalso; omega)
theorem DrI.put (h : DrI x) (now : Int) (b : ByteArray) : DrI (putC x now b) := h.does ⟨0, now, 0, b, ⟨⟨#[]⟩, 0, false, 0, 0, 0⟩, 0⟩ (.inl rfl)
theorem DrI.close (h : DrI x) (now : Int) : DrI (closeC x now) := h.does ⟨1, now, 0, ⟨#[]⟩, ⟨⟨#[]⟩, 0, false, 0, 0, 0⟩, 0⟩ (.inr (.inl rfl))
theorem DrI.take (h : DrI x) (now m : Int) : DrI (takeC x now m) := h.does ⟨4, now, m, ⟨#[]⟩, ⟨⟨#[]⟩, 0, false, 0, 0, 0⟩, 0⟩ (.inr (.inr rfl))
theorem dr_new (room now : Int) : DrI (newC room now) := by
  refine ⟨safe_new room now, .inl rfl, fun a ha => ?_, rfl⟩
  have : a = ⟨newS noTox 0 room now, false⟩ := by
    rcases List.mem_cons.1 ha with h | h
    · exact h
    · exact List.mem_singleton.1 h
  subst this
  have hc : newS noTox 0 room now = new0 noTox 0 room now := if_neg (by decide)
  have hb := nr_bd now
  refine ⟨by show (newS noTox 0 room now).t.kind = 0; rw [hc]; rfl, ?_, ?_, ?_⟩
  · show (newS noTox 0 room now).c.2 ≤ (newS noTox 0 room now).clock
    rw [hc]
    show 0 ≤ add now 0
    rw [add_0]; omega
  · show 0 ≤ (newS noTox 0 room now).clock
    rw [hc]
    show 0 ≤ add now 0
    rw [add_0]; omega
  · show (newS noTox 0 room now).clock ≤ _
    rw [hc]
    show add now 0 ≤ _
    rw [add_0]; omega
/-- what came, and what went. -/
def KM (x : Ch) (i o : ByteArray) : Prop := KeepI x i o ∧ (i.size : Int) = o.size + heldL x.l + x.lost
theorem km_new (room now : Int) : KM (newC room now) ⟨#[]⟩ ⟨#[]⟩ := by
  refine ⟨keep_new room now, ?_⟩
  have hc : (newS noTox 0 room now).c = ([], 0) := by unfold newS; split <;> rfl
  show (0 : Int) = 0 + ((held (newS noTox 0 room now) + (held (newS noTox 0 room now) + 0) : Nat) : Int) + 0
  have : held (newS noTox 0 room now) = 0 := by unfold held; rw [hc]; rfl
  rw [this]
  rfl
theorem km_does {i o : ByteArray} (h : KM x i o) (p : Op) : KM (doesC x p) (i ++ inC x p) (o ++ (doesA x p).2.1) := by
  refine ⟨keep_does h.1 p, ?_⟩
  have := (flow_massIO (flow_does x p)).1
  have h2 := h.2
  simp only [ByteArray.size_append]
  omega
theorem km_put {i o : ByteArray} (h : KM x i o) (n : Int) (b : ByteArray) : KM (putC x n b) (i ++ b.extract 0 (putCN x n b)) o := by
  have := km_does h ⟨0, n, 0, b, ⟨⟨#[]⟩, 0, false, 0, 0, 0⟩, 0⟩
  have e : (doesA x ⟨0, n, 0, b, ⟨⟨#[]⟩, 0, false, 0, 0, 0⟩, 0⟩).2.1 = ⟨#[]⟩ := rfl
  rw [e, app_nil] at this
  exact this
theorem km_step {i o : ByteArray} (h : KM x i o) (n : Int) : KM (stepC n x) i o := by
  have := km_does h ⟨3, n, 0, ⟨#[]⟩, ⟨⟨#[]⟩, 0, false, 0, 0, 0⟩, 0⟩
  have e : (doesA x ⟨3, n, 0, ⟨#[]⟩, ⟨⟨#[]⟩, 0, false, 0, 0, 0⟩, 0⟩).2.1 = ⟨#[]⟩ := rfl
  have e2 : inC x ⟨3, n, 0, ⟨#[]⟩, ⟨⟨#[]⟩, 0, false, 0, 0, 0⟩, 0⟩ = ⟨#[]⟩ := rfl
  rw [e, e2, app_nil, app_nil] at this
  exact this
theorem km_close {i o : ByteArray} (h : KM x i o) (n : Int) : KM (closeC x n) i o := by
  have := km_does h ⟨1, n, 0, ⟨#[]⟩, ⟨⟨#[]⟩, 0, false, 0, 0, 0⟩, 0⟩
  have e : (doesA x ⟨1, n, 0, ⟨#[]⟩, ⟨⟨#[]⟩, 0, false, 0, 0, 0⟩, 0⟩).2.1 = ⟨#[]⟩ := rfl
  have e2 : inC x ⟨1, n, 0, ⟨#[]⟩, ⟨⟨#[]⟩, 0, false, 0, 0, 0⟩, 0⟩ = ⟨#[]⟩ := rfl
  rw [e, e2, app_nil, app_nil] at this
  exact this
theorem km_take {i o : ByteArray} (h : KM x i o) (n m : Int) : KM (takeC x n m) i (o ++ takeCB x n m) := by
  have := km_does h ⟨4, n, m, ⟨#[]⟩, ⟨⟨#[]⟩, 0, false, 0, 0, 0⟩, 0⟩
  have e2 : inC x ⟨4, n, m, ⟨#[]⟩, ⟨⟨#[]⟩, 0, false, 0, 0, 0⟩, 0⟩ = ⟨#[]⟩ := rfl
  rw [e2, app_nil] at this
  exact this
theorem km_same {i o : ByteArray} (h : KM x i o) (hh : heldL x.l = 0) (hl : x.lost = 0) : i = o := by
  have h1 := keep_pre h.1
  have h2 := h.2
  have e : o.size = i.size := by omega
  rw [← h1.2, e]
  apply ByteArray.ext
  simp
theorem km_le {i o : ByteArray} (h : KM x i o) (ho : OkC x M Q) : o.size ≤ i.size ∧ heldL x.l ≤ i.size := by
  have h2 := h.2
  have := ho.lost0
  omega
/-- the first stage's source is closed. -/
theorem close_shut (h : DrI x) (n : Int) (h0 : x.state = 0) : ∀ a, (closeC x n).l[0]? = some a → a.cl = true := by
  obtain ⟨a, b, hl⟩ := two_list h.two
  intro a0 ha0
  unfold closeC at ha0
  rw [if_pos h0, hl] at ha0
  have ha0 : some (endA n a) = some a0 := ha0
  cases ha0
  rfl
theorem close_state (x : Ch) (n : Int) : (closeC x n).state = x.state := by
  unfold closeC
  split
  · split <;> rfl
  · rfl
theorem take_state (x : Ch) (n m : Int) : (takeC x n m).state = x.state := by
  unfold takeC
  split
  · rfl
  split <;> rfl
end Go.Proofs.Ytigimpkjfmfkhaa.Chain
namespace Go.Proofs.Ytigimpkjfmfkhaa.Chain
open Go.RowKit Mem Tick Cargo Toxic Stage
set_option maxRecDepth 100000
set_option linter.unusedVariables false
set_option linter.unusedSimpArgs false
/-- a row of texts. -/
def Strs (w : World) (v : Value) (l : List ByteArray) : Prop :=
  ∃ a cap, v = .slice a l.length cap ∧ l.length ≤ 9223372036854775807 ∧ (∀ x ∈ l, x.size ≤ 140737488351232) ∧ (l ≠ [] → ∃ b o, a = some ⟨b, o, none⟩ ∧ ∀ j x, l[j]? = some x → w.cell? ⟨b, o + j, none⟩ = some (.string x))
theorem drains_none (room most : Int) (v : Value) (l : List ByteArray) (w : World) (hv : Strs w v l) (hr : roomOk room = false) :
    Calls Try.prog 3 #[.int .i64 room, v, .int .i64 most] w fun e w' => e = .returned (.bool true) ∧ Below w.heap.size w w' := by
  have hn := fun (wr : World) => cNew_bad room 0 wr hr
  go_enter Try.func3, Try.ntmps3
  go_wp2_with fail
  refine (hn _).mono ?_
  rintro e w1 ⟨rfl, hB⟩
  have hB1 := Lib.hid hB
  clear hn hB
  go_wp2_with (go_at_call 9; (with_reducible refine (alive_any _).mono ?_); rintro e w2 ⟨rfl, hB2⟩; have hB2' := Lib.hid hB2; clear hB2)
  go_ret
  exact ⟨rfl, bw_below hB1.out hB2'.out⟩
theorem drains_long (room most : Int) (v : Value) (l : List ByteArray) (w : World) (hv : Strs w v l) (hr : roomOk room = true) (hl : 20 < l.length) :
    Calls Try.prog 3 #[.int .i64 room, v, .int .i64 most] w fun e w' => e = .returned (.bool true) ∧ Below w.heap.size w w' := by
  have hn := fun (wr : World) hB => live_newC (w := w) (wr := wr) room 0 hr hB
  obtain ⟨a, cap, rfl, hmx, -, hA⟩ := hv
  have tl : decide ((20 : Int) < (l.length : Int)) = true := decide_eq_true (by omega)
  clear hr hA
  go_enter Try.func3, Try.ntmps3
  go_wp2_with fail
  refine (hn _ (Below.refl _ _)).mono ?_
  rintro e w1 ⟨c, rfl, hL, hB⟩
  have hB1 := Lib.hid hL.old
  clear hn hB hL
  go_wp2_with (go_at_call 9; (with_reducible refine (alive_any _).mono ?_); rintro e w2 ⟨rfl, hB2⟩; have hB2' := Lib.hid hB2; clear hB2)
  go_ret
  exact ⟨rfl, bw_below hB1.out hB2'.out⟩
theorem drains_small (room most : Int) (v : Value) (l : List ByteArray) (w : World) (hv : Strs w v l) (hr : roomOk room = true) (hl : l.length ≤ 20) (hm : most < 1) :
    Calls Try.prog 3 #[.int .i64 room, v, .int .i64 most] w fun e w' => e = .returned (.bool true) ∧ Below w.heap.size w w' := by
  have hn := fun (wr : World) hB => live_newC (w := w) (wr := wr) room 0 hr hB
  obtain ⟨a, cap, rfl, hmx, -, hA⟩ := hv
  have tl : decide ((20 : Int) < (l.length : Int)) = false := decide_eq_false (by omega)
  have tm : decide (most < 1) = true := decide_eq_true hm
  clear hr hA
  go_enter Try.func3, Try.ntmps3
  go_wp2_with fail
  refine (hn _ (Below.refl _ _)).mono ?_
  rintro e w1 ⟨c, rfl, hL, hB⟩
  have hB1 := Lib.hid hL.old
  clear hn hB hL
  go_wp2_with (go_at_call 9; (with_reducible refine (alive_any _).mono ?_); rintro e w2 ⟨rfl, hB2⟩; have hB2' := Lib.hid hB2; clear hB2)
  go_ret
  exact ⟨rfl, bw_below hB1.out hB2'.out⟩
set_option maxHeartbeats 4000000 in
theorem drains_yes (room most : Int) (v : Value) (l : List ByteArray) (w : World) (hv : Strs w v l) (hr : roomOk room = true) (hl : l.length ≤ 20) (hm : 1 ≤ most) :
    Calls Try.prog 3 #[.int .i64 room, v, .int .i64 most] w fun e w' => e = .returned (.bool true) ∧ Below w.heap.size w w' := by
  have hn := fun (wr : World) hB => live_newC (w := w) (wr := wr) room 0 hr hB
  obtain ⟨a, cap, rfl, hmx, -, hA⟩ := hv
  have tl : decide ((20 : Int) < (l.length : Int)) = false := decide_eq_false (by omega)
  have tm : decide (most < 1) = false := decide_eq_false (by omega)
  have hok0 := Lib.hid (ok_newC room 0 hr)
  clear hr
  go_enter Try.func3, Try.ntmps3
  go_wp2_with fail
  refine (hn _ (Below.refl _ _)).mono ?_
  rintro e w1 ⟨c, rfl, hL, hB⟩
  have H2 := Lib.hid hL
  clear hn hB hL
  go_wp2
  clear tl tm
  go_loopw [9, 10, 38] (fun nv ov iv wr => ∃ (k : Nat) (x : Ch) (i o : ByteArray), k ≤ l.length ∧ iv = .int .i64 k ∧ nv = .string i ∧ ov = .string o ∧ LiveC w wr c x ∧ OkC x (200 * k) (50000 * k) ∧ DrI x ∧ KM x i o ∧ i.size ≤ 200 * k) (fun _ _ iv _ => l.length - (intOf iv).toNat)
  case atStart => exact ⟨0, newC room 0, ⟨#[]⟩, ⟨#[]⟩, by omega, rfl, rfl, rfl, H2.out, hok0.out, dr_new room 0, km_new room 0, Nat.zero_le _⟩
  case round =>
    obtain ⟨k, x, i, o, hk, rfl, rfl, rfl, hL, hok, hdr, hkm, hin⟩ := hrel
    clear H2
    by_cases hlt : k < l.length
    · obtain ⟨g, oo, rfl, hc⟩ := hA (by intro h; subst h; simp at hlt)
      have hx : l[k]? = some l[k] := List.getElem?_eq_getElem hlt
      have d0 := hc k _ hx
      generalize l[k] = z at *
      have hold := hL.old
      have d0' := bcells hold d0
      by_cases hz : 200 < z.size
      · have tz : decide ((200 : Int) < (z.size : Int)) = true := decide_eq_true (by omega)
        have hL' := Lib.hid hL
        clear hL hx hA hz hok hdr hkm
        go_wp2_with (go_at_call 9; (with_reducible refine (alive_any _).mono ?_); rintro e w2 ⟨rfl, hB2⟩; have hB2' := Lib.hid hB2; clear hB2)
        go_ret
        exact ⟨rfl, bw_below hL'.out.old hB2'.out⟩
      · have tz : decide ((200 : Int) < (z.size : Int)) = false := decide_eq_false (by omega)
        have hzb : z.size ≤ 200 := by omega
        have hcv := conv_str z
        have hBy := Lib.hid (bytes_below wr z)
        have hBS := Lib.hid (bytes_new wr z)
        have hcap3 := fun (W : World) => grownCap_ge W z.size 0 5
        have hM0 : (200 * k : Int) + z.size ≤ 1000000000 := by omega
        have hput := Lib.hid (live_put hL hok hBy.out (k : Int) (some ⟨wr.heap.size, 0, none⟩) (grownCap wr z.size 0 5) z (hcap3 _) (by simpa using hBS.out) (fun g o e => by injection e with e; injection e with e; omega) hM0)
        have hpl := putCN_le x (k : Int) z
        have hok1 := Lib.hid (show OkC (putC x (k : Int) z) (200 * (k + 1 : Nat)) (50000 * k) from (ok_put hok (k : Int) z).more (by omega) (Int.le_refl _))
        have hok2 := Lib.hid (show OkC (stepC (k : Int) (putC x (k : Int) z)) (200 * (k + 1 : Nat)) (50000 * k + 40000) from (ok_step hok1.out (k : Int)).more (Int.le_refl _) (by omega))
        have hok3 := Lib.hid (show OkC (takeC (stepC (k : Int) (putC x (k : Int) z)) (k : Int) most) (200 * (k + 1 : Nat)) (50000 * (k + 1 : Nat)) from (ok_take hok2.out (by omega) (k : Int) most).more (Int.le_refl _) (by omega))
        have hdr3 := Lib.hid (((hdr.put (k : Int) z).step (k : Int)).take (k : Int) most)
        have hkm3 := Lib.hid (km_take (km_step (km_put hkm (k : Int) z) (k : Int)) (k : Int) most)
        have hin' := Lib.hid hin
        clear hc hx hA hL hok hdr hkm hin hold d0 hz hBS
        generalize hx1 : putC x (k : Int) z = x1 at *
        have hx2 : stepC (k : Int) x1 = stepC (k : Int) x1 := rfl
        generalize putCN x (k : Int) z = N at *
        have t1 : decide ((N : Int) < 0) = false := decide_eq_false (by omega)
        have t2 : decide ((z.size : Int) < (N : Int)) = false := decide_eq_false (by omega)
        have t3 : decide (z.size < N) = false := decide_eq_false (by omega)
        have hnn : (0 : Int) ≤ (N : Int) := by omega
        have hxs : (z.extract 0 N).size = N := ext_size _ _ hpl
        have hisz : i.size + (z.extract 0 N).size ≤ 4000 := by have := hin'.out; omega
        go_wp2_with fail
        refine hput.out.mono ?_
        rintro e w3 ⟨rfl, hL3, -⟩
        have HL3 := Lib.hid hL3
        clear hL3 hput hcv hBy hx1 hx2
        go_wp2_with fail
        refine (live_step HL3.out hok1.out (by omega) (by omega) (k : Int)).mono ?_
        rintro e w4 ⟨rfl, hL4, -⟩
        have HL4 := Lib.hid hL4
        clear hL4 HL3 hok1
        generalize stepC (k : Int) x1 = x2 at *
        go_wp2_with fail
        refine (live_take HL4.out hok2.out (by omega) (by omega) (k : Int) most).mono ?_
        rintro e w5 ⟨A5, c5, rfl, hb5, -, hL5, -⟩
        have hcv := conv_bytes c5 hb5
        have HL5 := Lib.hid hL5
        clear hL5 HL4 hok2 hb5
        have hosz : o.size + (takeCB x2 (k : Int) most).size ≤ 4000 := by
          have h1 := (km_le hkm3.out hok3.out).1
          simp only [ByteArray.size_append] at h1
          omega
        have hfin := Lib.hid (show (i ++ z.extract 0 N).size ≤ 200 * (k + 1) by rw [ByteArray.size_append]; have := hin'.out; omega)
        go_wp2
        go_roundw
        case rel => exact ⟨k + 1, takeC x2 (k : Int) most, i ++ z.extract 0 N, o ++ takeCB x2 (k : Int) most, by omega, by go_num, rfl, rfl, HL5.out, hok3.out, hdr3.out, hkm3.out, hfin.out⟩
        case measure => simp [intOf]; omega
    · have hk2 : k = l.length := by omega
      subst hk2
      have hnl : ¬ (l.length < l.length) := by omega
      have hL' := Lib.hid hL
      have hokc := Lib.hid (show OkC (closeC x l.length) 4000 2000000 from (ok_close hok l.length).more (by omega) (by omega))
      have hok' := Lib.hid hok
      have hdrc := Lib.hid (hdr.close l.length)
      have hkmc := Lib.hid (km_close hkm l.length)
      have hcs := Lib.hid (fun h0 => close_shut hdr l.length h0)
      have hst := close_state x l.length
      have hi4 := Lib.hid (show i.size ≤ 4000 by omega)
      clear hL hA hok hdr hkm hin
      go_wp2_with fail
      refine (live_close hL'.out hok'.out l.length).mono ?_
      rintro e w3 ⟨rfl, hL3, -⟩
      have HL3 := Lib.hid hL3
      clear hL3 hL' hok'
      have hcs' := Lib.hid (show (closeC x l.length).state = 0 → ∀ a, (closeC x l.length).l[0]? = some a → a.cl = true from fun e => hcs.out (by rw [← hst]; exact e))
      clear hcs hst
      generalize closeC x l.length = x0 at *
      go_wp2
      go_loopw [10, 14] (fun ov kv wr => ∃ (k : Nat) (x : Ch) (o : ByteArray), k ≤ 5000 ∧ kv = .int .i64 k ∧ ov = .string o ∧ LiveC w wr c x ∧ OkC x 4000 (2000000 + 50000 * k) ∧ DrI x ∧ KM x i o ∧ (x.state = 0 → (∀ a, x.l[0]? = some a → a.cl = true) ∧ heldL x.l + k ≤ 4000)) (fun _ kv _ => 5000 - (intOf kv).toNat)
      case atStart => exact ⟨0, x0, o, by omega, rfl, rfl, HL3.out, hokc.out, hdrc.out, hkmc.out, fun e => ⟨hcs'.out e, by have := (km_le hkmc.out hokc.out).2; have := hi4.out; omega⟩⟩
      case round =>
        obtain ⟨k, x, o, hk, rfl, rfl, hL, hok, hdr, hkm, hrd⟩ := hrel
        clear HL3 hokc hdrc hkmc hcs'
        have hL' := Lib.hid hL
        have hok' := Lib.hid hok
        by_cases hlt : k < 5000 ∧ x.state = 0
        · obtain ⟨hlt, hs0⟩ := hlt
          have tk : decide ((k : Int) < 5000) = true := decide_eq_true (by omega)
          have hround := Lib.hid (drain_round hdr hok l.length most hm hs0 (hrd hs0).1)
          have hheld := (hrd hs0).2
          have hok2 := Lib.hid (show OkC (stepC l.length x) 4000 (2000000 + 50000 * k + 40000) from (ok_step hok l.length).more (Int.le_refl _) (by omega))
          have hok3 := Lib.hid (show OkC (takeC (stepC l.length x) l.length most) 4000 (2000000 + 50000 * (k + 1 : Nat)) from (ok_take hok2.out (by omega) l.length most).more (Int.le_refl _) (by omega))
          have hdr3 := Lib.hid ((hdr.step l.length).take l.length most)
          have hkm3 := Lib.hid (km_take (km_step hkm l.length) l.length most)
          have hqb : (2000000 + 50000 * (k : Int)) + 20 * 4000 ≤ 1000000000 := by omega
          have hts := take_state (stepC l.length x) l.length most
          clear hL hok hdr hkm hrd
          go_wp2_with fail
          refine (live_state hL'.out).mono ?_
          rintro e w9 ⟨rfl, rfl⟩
          rw [hs0]
          go_wp2_with fail
          refine (live_step hL'.out hok'.out (by omega) hqb l.length).mono ?_
          rintro e w4 ⟨rfl, hL4, -⟩
          have HL4 := Lib.hid hL4
          clear hL4 hL' hok'
          have hround' := Lib.hid (show (stepC l.length x).state ≠ 0 ∨ (heldL (takeC (stepC l.length x) l.length most).l + 1 ≤ heldL x.l ∧ ∀ a, (takeC (stepC l.length x) l.length most).l[0]? = some a → a.cl = true) from hround.out)
          have hhx := Lib.hid hheld
          clear hround hs0 hheld
          generalize heldL x.l = hh at *
          generalize stepC l.length x = x2 at *
          go_wp2_with fail
          refine (live_take HL4.out hok2.out (by omega) (by omega) l.length most).mono ?_
          rintro e w5 ⟨A5, c5, rfl, hb5, -, hL5, -⟩
          have hcv := conv_bytes c5 hb5
          have HL5 := Lib.hid hL5
          clear hL5 HL4 hok2 hb5
          have hosz : o.size + (takeCB x2 l.length most).size ≤ 4000 := by
            have h1 := (km_le hkm3.out hok3.out).1
            have := hi4.out
            simp only [ByteArray.size_append] at h1
            omega
          have hnext := Lib.hid (show (takeC x2 l.length most).state = 0 → (∀ a, (takeC x2 l.length most).l[0]? = some a → a.cl = true) ∧ heldL (takeC x2 l.length most).l + (k + 1) ≤ 4000 from fun e => by
            rcases hround'.out with h1 | ⟨h1, h2⟩
            · exact absurd (hts.symm.trans e) h1
            · exact ⟨h2, by have := hhx.out; omega⟩)
          clear hround' hts
          go_wp2
          go_roundw
          case rel => exact ⟨k + 1, takeC x2 l.length most, o ++ takeCB x2 l.length most, by omega, by go_num, rfl, HL5.out, hok3.out, hdr3.out, hkm3.out, hnext.out⟩
          case measure => simp [intOf]; omega
        · have hs1 : x.state = 1 ∧ heldL x.l = 0 := by
            rcases hdr.st with e | e
            · have := (hrd e).2
              exfalso
              exact hlt ⟨by omega, e⟩
            · exact e
          have hio := km_same hkm hs1.2 hdr.safe.lost
          subst hio
          have hmn : ((4000 : Int)) ≤ 1000000000 := by decide
          have hs := hs1.1
          have hz := hs1.2
          have tio : (i.toList == i.toList) = true := by simp
          by_cases hk5 : k < 5000
          · have tk : decide ((k : Int) < 5000) = true := decide_eq_true (by omega)
            clear hL hok hdr hkm hrd hlt hs1
            go_wp2_with (first
              | (go_at_call 14; (with_reducible refine (live_state hL'.out).mono ?_); rintro e w5 ⟨rfl, rfl⟩; rw [hs])
              | (go_at_call 9; (with_reducible refine (alive_any _).mono ?_); rintro e w2 ⟨rfl, hB2⟩; have HL2 := Lib.hid (hL'.out.below hB2); clear hB2 hL'; have hL' := HL2)
              | (go_at_call 15; (with_reducible refine (live_held hL'.out hok'.out hmn).mono ?_); rintro e w4 ⟨rfl, hL4, hB4⟩; have HL4 := Lib.hid hL4; rw [hz]; clear hL4 hB4))
            go_ret
            exact ⟨by simp, HL4.out.old⟩
          · have tk : decide ((k : Int) < 5000) = false := decide_eq_false (by omega)
            clear hL hok hdr hkm hrd hlt hs1
            go_wp2_with (first
              | (go_at_call 14; (with_reducible refine (live_state hL'.out).mono ?_); rintro e w5 ⟨rfl, rfl⟩; rw [hs])
              | (go_at_call 9; (with_reducible refine (alive_any _).mono ?_); rintro e w2 ⟨rfl, hB2⟩; have HL2 := Lib.hid (hL'.out.below hB2); clear hB2 hL'; have hL' := HL2)
              | (go_at_call 15; (with_reducible refine (live_held hL'.out hok'.out hmn).mono ?_); rintro e w4 ⟨rfl, hL4, hB4⟩; have HL4 := Lib.hid hL4; rw [hz]; clear hL4 hB4))
            go_ret
            exact ⟨by simp, HL4.out.old⟩
theorem drains_any (room most : Int) (v : Value) (l : List ByteArray) (w : World) (hv : Strs w v l) :
    Calls Try.prog 3 #[.int .i64 room, v, .int .i64 most] w fun e w' => e = .returned (.bool true) ∧ Below w.heap.size w w' := by
  cases hr : roomOk room with
  | false => exact drains_none room most v l w hv hr
  | true =>
    by_cases hl : l.length ≤ 20
    · by_cases hm : 1 ≤ most
      · exact drains_yes room most v l w hv hr hl hm
      · exact drains_small room most v l w hv hr hl (by omega)
    · exact drains_long room most v l w hv hr (by omega)
end Go.Proofs.Ytigimpkjfmfkhaa.Chain
