/- The chain's New, and Step whole (chapter 11). -/
import Derived.Test.YtnkgjnmhiedfoaaGreatA24
import Derived.Test.YtnkgjnmhiedfoaaGreatA23
import Derived.Test.YtnkgjnmhiedfoaaGreatA17
import Derived.Lib.SlBytesConst
import Derived.Maps.AppendAt
namespace Go.Proofs.YtnkgjnmhiedfoaaGreat.Chain
open Go.RowKit Mem Tick Cargo Toxic Stage
open Go.Proofs.YtnkgjnmhiedfoaaGreatW.PrintLast Pu
set_option maxRecDepth 100000
set_option linter.unusedVariables false
set_option linter.unusedSimpArgs false
variable {w w' : World} {F H : Nat → Prop} {t : Pt} {a : Pa} {c : Nat} {D : Lay} {x : Ch}
theorem cStep_any (h : CH w F c D x) {M Q : Int} (ho : OkC x M Q) (hM : M ≤ 1000000000) (hQ : Q + 20 * M ≤ 1000000000) (now : Int) :
    Calls Tryz.prog 56 #[ptr c, .int .i64 now] w fun e w' => e = .returned (.int .i64 (stepC now x).state) ∧ Tu w F w' c D (stepC now x) := by
  unfold stepC
  by_cases h1 : x.state = 0
  · rw [if_neg (fun e => e h1)]
    by_cases hb : brokenB (x.l.map (lookA now)) = true
    · rw [if_pos hb]; exact step_broken h ho hM now h1 hb
    · rw [if_neg hb]; exact step_go h ho hM hQ now h1 (by simpa using hb)
  · rw [if_pos h1]; exact step_shut h now h1
def newC (room now : Int) : Ch := ⟨[⟨newS noTox 0 room now, false⟩, ⟨newS noTox 0 room now, false⟩], room, 0, false, 0⟩
theorem newE_pass (room : Int) : newE noTox room = if roomOk room = false then 1 else 0 := by
  have hp : passB noTox = true := by simp [passB, sameT, noTox]
  unfold newE
  rw [if_neg (fun h => by rw [hp] at h; cases h.1)]
theorem ok_newC (room now : Int) (h : roomOk room = true) : OkC (newC room now) 0 0 := by
  have hr : 1 ≤ room ∧ room ≤ 4096 := by simpa [roomOk] using h
  have he : newE noTox room = 0 := by rw [newE_pass, h]; rfl
  have hs : (newS noTox 0 room now).c = ([], 0) ∧ (newS noTox 0 room now).passed = 0 := by unfold newS; split <;> exact ⟨rfl, rfl⟩
  have hh : held (newS noTox 0 room now) = 0 := by unfold held; rw [hs.1]; rfl
  refine ⟨Nat.le_refl 2, (by show 2 ≤ 10; decide), hr.1, hr.2, ?_, Int.le_refl 0, ?_, ?_⟩
  · show ((held _ + (held _ + 0) : Nat) : Int) ≤ 0; rw [hh]; decide
  · show (0 : Int) + ((held _ + (held _ + 0) : Nat) : Int) ≤ 0; rw [hh]; decide
  · intro a ha
    have : a = ⟨newS noTox 0 room now, false⟩ := by
      rcases List.mem_cons.1 ha with h | h
      · exact h
      · exact List.mem_singleton.1 h
    subst this
    exact ⟨Ok.new he, by show (newS noTox 0 room now).passed ≤ 0; rw [hs.2]; decide⟩
theorem cNew_bad (room now : Int) (w : World) (h : roomOk room = false) :
    Calls Tryz.prog 35 #[.int .i64 room, .int .i64 now] w fun e w' => e = .returned (.tuple #[.pointer none, .int .i64 1]) ∧ Below w.heap.size w w' := by
  have he : newE noTox room = 1 := by rw [newE_pass, if_pos h]
  have hn := fun wr => live_none (wr := wr) noTox 0 room now (by rw [he]; decide)
  rw [he] at hn
  have hn' := Lib.hid hn
  clear hn
  go_enter Tryz.func35, Tryz.ntmps35
  go_wp2_with fail
  refine (hn'.out _).mono ?_
  rintro e w1 ⟨rfl, hB1⟩
  go_wp2_with fail
  refine (hn'.out _).mono ?_
  rintro e w2 ⟨rfl, hB2⟩
  have hB := Lib.hid (bw_below hB1 hB2)
  clear hB1 hB2 hn'
  go_wp2
  go_ret2
  exact ⟨rfl, hB.out⟩
theorem ch_new {w2 : World} {F1 F2 : Nat → Prop} {b1 k1 b2 k2 : Nat} {s1 s2 : Sg} (room : Int) (h1 : SG w2 F1 b1 k1 s1) (h2 : SG w2 F2 b2 k2 s2) (hap : ∀ j, F1 j → ¬ F2 j) :
    CH ((((w2.alloc (.cells #[ptr b1, .bool false] 103)).alloc (.cells #[ptr b2, .bool false] 103)).alloc (.cells #[ptr w2.heap.size, ptr (w2.heap.size + 1)] 101)).alloc (.cells #[.slice (some ⟨w2.heap.size + 1 + 1, 0, none⟩) 2 2, .int .i64 room, .int .i64 0, .bool false, .int .i64 0] 106)) (fun j => j = w2.heap.size + 1 + 1 + 1 ∨ j = w2.heap.size + 1 + 1 ∨ ∃ i, i < 2 ∧ (if i = 0 then (j = w2.heap.size ∨ F1 j) else (j = w2.heap.size + 1 ∨ F2 j))) (w2.heap.size + 1 + 1 + 1)
      ⟨w2.heap.size + 1 + 1, 2, [⟨w2.heap.size, b1, k1⟩, ⟨w2.heap.size + 1, b2, k2⟩]⟩ ⟨[⟨s1, false⟩, ⟨s2, false⟩], room, 0, false, 0⟩ := by
  have hB : Below w2.heap.size w2 ((((w2.alloc (.cells #[ptr b1, .bool false] 103)).alloc (.cells #[ptr b2, .bool false] 103)).alloc (.cells #[ptr w2.heap.size, ptr (w2.heap.size + 1)] 101)).alloc (.cells #[.slice (some ⟨w2.heap.size + 1 + 1, 0, none⟩) 2 2, .int .i64 room, .int .i64 0, .bool false, .int .i64 0] 106)) := (((((Below.refl w2.heap.size w2).alloc (Nat.le_refl _) _).alloc (by simp only [World.size_alloc]; omega) _).alloc (by simp only [World.size_alloc]; omega) _).alloc (by simp only [World.size_alloc]; omega) _)
  have s1' := h1.below hB
  have s2' := h2.below hB
  have p1 : Blk ((((w2.alloc (.cells #[ptr b1, .bool false] 103)).alloc (.cells #[ptr b2, .bool false] 103)).alloc (.cells #[ptr w2.heap.size, ptr (w2.heap.size + 1)] 101)).alloc (.cells #[.slice (some ⟨w2.heap.size + 1 + 1, 0, none⟩) 2 2, .int .i64 room, .int .i64 0, .bool false, .int .i64 0] 106)) w2.heap.size 103 #[ptr b1, .bool false] := (Below.heap_alloc _ _ _ (by simp only [World.size_alloc]; omega)).trans ((Below.heap_alloc _ _ _ (by simp only [World.size_alloc]; omega)).trans ((Below.heap_alloc _ _ _ (by simp only [World.size_alloc]; omega)).trans (heap_alloc_new _ _)))
  have p2 : Blk ((((w2.alloc (.cells #[ptr b1, .bool false] 103)).alloc (.cells #[ptr b2, .bool false] 103)).alloc (.cells #[ptr w2.heap.size, ptr (w2.heap.size + 1)] 101)).alloc (.cells #[.slice (some ⟨w2.heap.size + 1 + 1, 0, none⟩) 2 2, .int .i64 room, .int .i64 0, .bool false, .int .i64 0] 106)) (w2.heap.size + 1) 103 #[ptr b2, .bool false] := by
    have := heap_alloc_new (w2.alloc (.cells #[ptr b1, .bool false] 103)) (.cells #[ptr b2, .bool false] 103)
    rw [World.size_alloc] at this
    exact (Below.heap_alloc _ _ _ (by simp only [World.size_alloc]; omega)).trans ((Below.heap_alloc _ _ _ (by simp only [World.size_alloc]; omega)).trans this)
  have pr : Blk ((((w2.alloc (.cells #[ptr b1, .bool false] 103)).alloc (.cells #[ptr b2, .bool false] 103)).alloc (.cells #[ptr w2.heap.size, ptr (w2.heap.size + 1)] 101)).alloc (.cells #[.slice (some ⟨w2.heap.size + 1 + 1, 0, none⟩) 2 2, .int .i64 room, .int .i64 0, .bool false, .int .i64 0] 106)) (w2.heap.size + 1 + 1) 101 #[ptr w2.heap.size, ptr (w2.heap.size + 1)] := by
    have := heap_alloc_new ((w2.alloc (.cells #[ptr b1, .bool false] 103)).alloc (.cells #[ptr b2, .bool false] 103)) (.cells #[ptr w2.heap.size, ptr (w2.heap.size + 1)] 101)
    rw [World.size_alloc, World.size_alloc] at this
    exact (Below.heap_alloc _ _ _ (by simp only [World.size_alloc]; omega)).trans this
  have pc : Blk ((((w2.alloc (.cells #[ptr b1, .bool false] 103)).alloc (.cells #[ptr b2, .bool false] 103)).alloc (.cells #[ptr w2.heap.size, ptr (w2.heap.size + 1)] 101)).alloc (.cells #[.slice (some ⟨w2.heap.size + 1 + 1, 0, none⟩) 2 2, .int .i64 room, .int .i64 0, .bool false, .int .i64 0] 106)) (w2.heap.size + 1 + 1 + 1) 106 #[.slice (some ⟨w2.heap.size + 1 + 1, 0, none⟩) 2 2, .int .i64 room, .int .i64 0, .bool false, .int .i64 0] := by
    have := heap_alloc_new (((w2.alloc (.cells #[ptr b1, .bool false] 103)).alloc (.cells #[ptr b2, .bool false] 103)).alloc (.cells #[ptr w2.heap.size, ptr (w2.heap.size + 1)] 101)) (.cells #[.slice (some ⟨w2.heap.size + 1 + 1, 0, none⟩) 2 2, .int .i64 room, .int .i64 0, .bool false, .int .i64 0] 106)
    rw [World.size_alloc, World.size_alloc, World.size_alloc] at this
    exact this
  refine ⟨fun i j => if i = 0 then (j = w2.heap.size ∨ F1 j) else (j = w2.heap.size + 1 ∨ F2 j), pc, ⟨_, pr, rfl, fun i t ht => ?_⟩, rfl, fun i t a ht ha => ?_, fun i j hi hj hne y hy hy' => ?_, fun j => Iff.rfl⟩
  · rcases i with _ | _ | i
    · cases ht; rfl
    · cases ht; rfl
    · simp at ht
  · rcases i with _ | _ | i
    · cases ht; cases ha; exact ⟨F1, p1, s1', fun j => Iff.rfl⟩
    · cases ht; cases ha; exact ⟨F2, p2, s2', fun j => Iff.rfl⟩
    · simp at ht
  · have hi2 : i < 2 := hi
    have hj2 : j < 2 := hj
    have l1 := fun (q : F1 y) => h1.lt q
    have l2 := fun (q : F2 y) => h2.lt q
    have cases_ : (i = 0 ∧ j = 1) ∨ (i = 1 ∧ j = 0) := by omega
    rcases cases_ with ⟨rfl, rfl⟩ | ⟨rfl, rfl⟩
    · rcases hy with rfl | hy <;> rcases hy' with hy' | hy'
      · omega
      · have := l2 hy'; omega
      · have := l1 hy; omega
      · exact hap y hy hy'
    · rcases hy with rfl | hy <;> rcases hy' with hy' | hy'
      · omega
      · have := l1 hy'; omega
      · have := l2 hy; omega
      · exact hap y hy' hy
theorem cNew_any (room now : Int) (w : World) (h : roomOk room = true) :
    Calls Tryz.prog 35 #[.int .i64 room, .int .i64 now] w fun e w' => ∃ c F D, e = .returned (.tuple #[ptr c, .int .i64 0]) ∧ CH w' F c D (newC room now) ∧ (∀ j, F j → w.heap.size ≤ j) ∧ D.cap ≤ 9223372036854775807 ∧ Below w.heap.size w w' := by
  have he : newE noTox room = 0 := by rw [newE_pass, h]; rfl
  have hn := Lib.hid (fun wr => (new_any noTox 0 room now wr).mono fun e w' hp => hp.1 he)
  go_enter Tryz.func35, Tryz.ntmps35
  go_wp2_with fail
  refine (hn.out _).mono ?_
  rintro e w1 ⟨b1, k1, F1, rfl, hS1, hF1, hB1⟩
  have h1 := Lib.hid (And.intro hS1 (And.intro hF1 hB1))
  clear hS1 hF1 hB1
  go_wp2_with fail
  refine (hn.out _).mono ?_
  rintro e w2 ⟨b2, k2, F2, rfl, hS2, hF2, hB2⟩
  have hC := Lib.hid (ch_new room (h1.out.1.below hB2) hS2 (fun j hj hj' => by have := h1.out.1.lt hj; have := hF2 j hj'; omega))
  have hw : w.heap.size ≤ w2.heap.size := Nat.le_trans h1.out.2.2.size hB2.size
  have hBw := Lib.hid (((((bw_below h1.out.2.2 hB2).alloc hw (.cells #[ptr b1, .bool false] 103)).alloc (by simp; omega) (.cells #[ptr b2, .bool false] 103)).alloc (by simp; omega) (.cells #[ptr w2.heap.size, ptr (w2.heap.size + 1)] 101)).alloc (by simp; omega) (.cells #[.slice (some ⟨w2.heap.size + 1 + 1, 0, none⟩) 2 2, .int .i64 room, .int .i64 0, .bool false, .int .i64 0] 106))
  have hFF := Lib.hid (show ∀ j, (j = w2.heap.size + 1 + 1 + 1 ∨ j = w2.heap.size + 1 + 1 ∨ ∃ i, i < 2 ∧ (if i = 0 then (j = w2.heap.size ∨ F1 j) else (j = w2.heap.size + 1 ∨ F2 j))) → w.heap.size ≤ j from by
    intro j hj
    rcases hj with rfl | rfl | ⟨i, hi, hj⟩
    · omega
    · omega
    · split at hj
      · rcases hj with rfl | hj
        · exact hw
        · exact h1.out.2.1 j hj
      · rcases hj with rfl | hj
        · omega
        · have := hF2 j hj; have := h1.out.2.2.size; omega)
  clear hS2 hF2 hB2 h1 hn he h hw
  go_wp2
  go_ret2
  exact ⟨_, _, _, rfl, hC.out, hFF.out, (show (2 : Nat) ≤ 9223372036854775807 by decide), hBw.out⟩
end Go.Proofs.YtnkgjnmhiedfoaaGreat.Chain
namespace Go.Proofs.YtnkgjnmhiedfoaaGreat.Chain
open Go.RowKit Mem Tick Cargo Toxic Stage
set_option maxRecDepth 100000
set_option linter.unusedVariables false
set_option linter.unusedSimpArgs false
variable {w w' w1 : World} {F H : Nat → Prop} {t : Pt} {a : Pa} {c : Nat} {D : Lay} {x : Ch}
theorem getIns {α : Type} (l : List α) (a : α) (i m : Nat) (hi : i ≤ l.length) : (l.take i ++ a :: l.drop i)[m]? = if m < i then l[m]? else if m = i then some a else l[m - 1]? := by
  have hl : (l.take i).length = i := by rw [List.length_take]; omega
  by_cases h1 : m < i
  · rw [if_pos h1, List.getElem?_append_left (by omega), List.getElem?_take, if_pos h1]
  · rw [if_neg h1, List.getElem?_append_right (by omega), hl]
    by_cases h2 : m = i
    · rw [if_pos h2, h2, Nat.sub_self]; rfl
    · rw [if_neg h2]
      obtain ⟨k, rfl⟩ : ∃ k, m = i + (k + 1) := ⟨m - i - 1, by omega⟩
      rw [show i + (k + 1) - i = k + 1 by omega, List.getElem?_cons_succ, List.getElem?_drop]
      congr 1
theorem insL_map (i : Nat) (t : Pt) (l : List Pt) : insL i (ptr t.p) (l.map fun q => ptr q.p) = (l.take i ++ t :: l.drop i).map fun q => ptr q.p := by
  simp [insL, List.map_take, List.map_drop]
theorem CH.rv (h : CH w F c D x) : RV w D.r D.cap (D.ps.map fun q => ptr q.p) := by
  have hcap := h.cap
  have hlen := h.len
  obtain ⟨H, h⟩ := h
  obtain ⟨cs, hb, hc, hr⟩ := h.row
  refine ⟨cs.toList.drop D.ps.length, ?_, ?_⟩
  · have e : (D.ps.map fun q => ptr q.p) ++ cs.toList.drop D.ps.length = cs.toList := by
      apply List.ext_getElem?
      intro j
      by_cases hj : j < D.ps.length
      · rw [List.getElem?_append_left (by rw [List.length_map]; exact hj), List.getElem?_map, List.getElem?_eq_getElem hj]
        have := hr j _ (List.getElem?_eq_getElem hj)
        rw [Array.getElem?_toList, this]
        rfl
      · rw [List.getElem?_append_right (by rw [List.length_map]; omega), List.length_map, List.getElem?_drop, show D.ps.length + (j - D.ps.length) = j by omega]
    rw [e]
    exact hb
  · rw [List.length_append, List.length_map, List.length_drop, Array.length_toList, hc]
    omega
theorem CH.ins (h : CH w F c D x) (hp : PG w H t a) (hH : ∀ j, H j → ¬ F j) {i : Nat} (hi : i ≤ x.l.length) {r' cap' : Nat} (hr : RV w1 r' cap' (insL i (ptr t.p) (D.ps.map fun q => ptr q.p))) (hd : Did (· = D.r) w w1) (hr' : r' = D.r ∨ w.heap.size ≤ r') :
    ∃ F', CH (w1.setCell ⟨c, 0, none⟩ (.slice (some ⟨r', 0, none⟩) (x.l.length + 1) cap')) F' c ⟨r', cap', D.ps.take i ++ t :: D.ps.drop i⟩ { x with l := x.l.take i ++ a :: x.l.drop i } ∧
      (∀ j, F' j → F j ∨ H j ∨ w.heap.size ≤ j) ∧ F c ∧ F D.r := by
  have hty := h.typed
  have hlen := h.len
  obtain ⟨Hs, h⟩ := h
  obtain ⟨cs, hb, hrest⟩ := h.row
  have hrc : D.r ≠ c := hb.ne h.blk (by decide)
  have hFc : F c := (h.own c).2 (.inl rfl)
  have hFr : F D.r := (h.own D.r).2 (.inr (.inl rfl))
  have hclt : c < w.heap.size := h.blk.lt
  have hr'c : r' ≠ c := by
    rcases hr' with e | e
    · rw [e]; exact hrc
    · omega
  have hFm : ∀ m j, m < x.l.length → Hs m j → F j := fun m j hm hj => (h.own j).2 (.inr (.inr ⟨m, hm, hj⟩))
  have keep : ∀ (G : Nat → Prop) (t' : Pt) (a' : Pa), PG w G t' a' → PG (w1.setCell ⟨c, 0, none⟩ (.slice (some ⟨r', 0, none⟩) (x.l.length + 1) cap')) G t' a' := fun G t' a' hg =>
    hg.kept fun j hj => by
      have n1 : j ≠ D.r := fun e => hg.typed.out hb (by decide) (e ▸ hj)
      have n2 : j ≠ c := fun e => hg.typed.out h.blk (by decide) (e ▸ hj)
      exact (Below.heap_setCell _ _ _ j n2).trans (hd.block j (hg.typed.lt hj) n1)
  have hl2 : (x.l.take i ++ a :: x.l.drop i).length = x.l.length + 1 := by simp; omega
  let H2 : Nat → Nat → Prop := fun m => if m < i then Hs m else if m = i then H else Hs (m - 1)
  have H2F : ∀ m j, m < x.l.length + 1 → H2 m j → (m ≠ i ∧ F j) ∨ (m = i ∧ H j) := by
    intro m j hm hj
    simp only [H2] at hj
    by_cases h1 : m < i
    · rw [if_pos h1] at hj; exact .inl ⟨by omega, hFm m j (by omega) hj⟩
    · rw [if_neg h1] at hj
      by_cases h2 : m = i
      · rw [if_pos h2] at hj; exact .inr ⟨h2, hj⟩
      · rw [if_neg h2] at hj; exact .inl ⟨h2, hFm (m - 1) j (by omega) hj⟩
  refine ⟨fun j => j = c ∨ j = r' ∨ ∃ m, m < x.l.length + 1 ∧ H2 m j, ⟨H2, ?_, ?_, ?_, ?_, ?_, ?_⟩, ?_, hFc, hFr⟩
  · have hb1 : Blk w1 c 106 (ccells D x) := h.blk.did hd (fun e => hrc e.symm)
    have := hb1.set_ 0 (.slice (some ⟨r', 0, none⟩) (x.l.length + 1) cap')
    unfold ccells at this ⊢
    simp only [hl2]
    simpa using this
  · obtain ⟨rest, hrb, hrl⟩ := hr
    rw [insL_map] at hrb hrl
    refine ⟨_, hrb.far (by exact hr'c) _, by simpa using hrl, fun m t' ht' => ?_⟩
    rw [List.getElem?_toArray, List.getElem?_append_left (by rw [List.length_map]; exact (List.getElem?_eq_some_iff.1 ht').1), List.getElem?_map, ht']
    rfl
  · rw [hl2]; simp; omega
  · intro m t' a' ht' ha'
    have ht2 := (getIns D.ps t i m (by omega)).symm.trans ht'
    have ha2 := (getIns x.l a i m hi).symm.trans ha'
    simp only [H2]
    by_cases h1 : m < i
    · rw [if_pos h1] at ht2 ha2 ⊢
      exact keep _ _ _ (h.part m t' a' ht2 ha2)
    · rw [if_neg h1] at ht2 ha2 ⊢
      by_cases h2 : m = i
      · rw [if_pos h2] at ht2 ha2 ⊢
        cases ht2; cases ha2
        exact keep _ _ _ hp
      · rw [if_neg h2] at ht2 ha2 ⊢
        exact keep _ _ _ (h.part (m - 1) t' a' ht2 ha2)
  · intro m m' hm hm' hne y hy hy'
    have hm : m < x.l.length + 1 := by rw [← hl2]; exact hm
    have hm' : m' < x.l.length + 1 := by rw [← hl2]; exact hm'
    rcases H2F m y hm hy with ⟨e1, f1⟩ | ⟨e1, f1⟩ <;> rcases H2F m' y hm' hy' with ⟨e2, f2⟩ | ⟨e2, f2⟩
    · simp only [H2] at hy hy'
      have k1 : ∃ q, q < x.l.length ∧ Hs q y ∧ (if m < i then m else m - 1) = q := by
        by_cases g : m < i
        · rw [if_pos g] at hy ⊢; exact ⟨m, by omega, hy, rfl⟩
        · rw [if_neg g, if_neg e1] at hy; rw [if_neg g]; exact ⟨m - 1, by omega, hy, rfl⟩
      have k2 : ∃ q, q < x.l.length ∧ Hs q y ∧ (if m' < i then m' else m' - 1) = q := by
        by_cases g : m' < i
        · rw [if_pos g] at hy' ⊢; exact ⟨m', by omega, hy', rfl⟩
        · rw [if_neg g, if_neg e2] at hy'; rw [if_neg g]; exact ⟨m' - 1, by omega, hy', rfl⟩
      obtain ⟨q1, l1, y1, z1⟩ := k1
      obtain ⟨q2, l2, y2, z2⟩ := k2
      refine h.apart q1 q2 l1 l2 ?_ y y1 y2
      split at z1 <;> split at z2 <;> omega
    · exact hH y f2 f1
    · exact hH y f1 f2
    · omega
  · intro j
    rw [hl2]
  · intro j hj
    rcases hj with rfl | rfl | ⟨m, hm, hj⟩
    · exact .inl hFc
    · rcases hr' with e | e
      · exact .inl (e ▸ hFr)
      · exact .inr (.inr e)
    · rcases H2F m j hm hj with ⟨_, f⟩ | ⟨_, f⟩
      · exact .inl f
      · exact .inr (.inl f)
theorem CH.del (h : CH w F c D x) {i : Nat} (hi : i < x.l.length) (hr : RV w1 D.r D.cap ((D.ps.map fun q : Pt => ptr q.p).eraseIdx i)) (hd : Did (· = D.r) w w1) :
    ∃ F', CH (w1.setCell ⟨c, 0, none⟩ (.slice (some ⟨D.r, 0, none⟩) (x.l.length - 1) D.cap)) F' c ⟨D.r, D.cap, D.ps.eraseIdx i⟩ { x with l := x.l.eraseIdx i } ∧ (∀ j, F' j → F j) ∧ F c ∧ F D.r := by
  have hlen := h.len
  obtain ⟨Hs, h⟩ := h
  obtain ⟨cs, hb, hrest⟩ := h.row
  have hrc : D.r ≠ c := hb.ne h.blk (by decide)
  have hFc : F c := (h.own c).2 (.inl rfl)
  have hFr : F D.r := (h.own D.r).2 (.inr (.inl rfl))
  have hFm : ∀ m j, m < x.l.length → Hs m j → F j := fun m j hm hj => (h.own j).2 (.inr (.inr ⟨m, hm, hj⟩))
  have keep : ∀ (G : Nat → Prop) (t' : Pt) (a' : Pa), PG w G t' a' → PG (w1.setCell ⟨c, 0, none⟩ (.slice (some ⟨D.r, 0, none⟩) (x.l.length - 1) D.cap)) G t' a' := fun G t' a' hg =>
    hg.kept fun j hj => by
      have n1 : j ≠ D.r := fun e => hg.typed.out hb (by decide) (e ▸ hj)
      have n2 : j ≠ c := fun e => hg.typed.out h.blk (by decide) (e ▸ hj)
      exact (Below.heap_setCell _ _ _ j n2).trans (hd.block j (hg.typed.lt hj) n1)
  have hl2 : (x.l.eraseIdx i).length = x.l.length - 1 := by rw [List.length_eraseIdx, if_pos hi]
  let H2 : Nat → Nat → Prop := fun m => if m < i then Hs m else Hs (m + 1)
  have H2q : ∀ m j, m < x.l.length - 1 → H2 m j → ∃ q, q < x.l.length ∧ Hs q j ∧ (if m < i then m else m + 1) = q := by
    intro m j hm hj
    simp only [H2] at hj
    by_cases g : m < i
    · rw [if_pos g] at hj ⊢; exact ⟨m, by omega, hj, rfl⟩
    · rw [if_neg g] at hj ⊢; exact ⟨m + 1, by omega, hj, rfl⟩
  refine ⟨fun j => j = c ∨ j = D.r ∨ ∃ m, m < x.l.length - 1 ∧ H2 m j, ⟨H2, ?_, ?_, ?_, ?_, ?_, ?_⟩, ?_, hFc, hFr⟩
  · have hb1 : Blk w1 c 106 (ccells D x) := h.blk.did hd (fun e => hrc e.symm)
    have := hb1.set_ 0 (.slice (some ⟨D.r, 0, none⟩) (x.l.length - 1) D.cap)
    unfold ccells at this ⊢
    simp only [hl2]
    simpa using this
  · obtain ⟨rest, hrb, hrl⟩ := hr
    have em : (D.ps.map fun q : Pt => ptr q.p).eraseIdx i = (D.ps.eraseIdx i).map fun q : Pt => ptr q.p := by
      rw [List.eraseIdx_eq_take_drop_succ, List.eraseIdx_eq_take_drop_succ, List.map_append, List.map_take, List.map_drop]
    rw [em] at hrb hrl
    refine ⟨_, hrb.far (by exact hrc) _, by simpa using hrl, fun m t' ht' => ?_⟩
    rw [List.getElem?_toArray, List.getElem?_append_left (by rw [List.length_map]; exact (List.getElem?_eq_some_iff.1 ht').1), List.getElem?_map, ht']
    rfl
  · rw [hl2]
    show (D.ps.eraseIdx i).length = _
    rw [List.length_eraseIdx, if_pos (by omega), hlen]
  · intro m t' a' ht' ha'
    have ht2 : (D.ps.eraseIdx i)[m]? = some t' := ht'
    have ha2 : (x.l.eraseIdx i)[m]? = some a' := ha'
    rw [List.getElem?_eraseIdx] at ht2 ha2
    simp only [H2]
    by_cases g : m < i
    · rw [if_pos g] at ht2 ha2 ⊢
      exact keep _ _ _ (h.part m t' a' ht2 ha2)
    · rw [if_neg g] at ht2 ha2 ⊢
      exact keep _ _ _ (h.part (m + 1) t' a' ht2 ha2)
  · intro m m' hm hm' hne y hy hy'
    have hm : m < x.l.length - 1 := by rw [← hl2]; exact hm
    have hm' : m' < x.l.length - 1 := by rw [← hl2]; exact hm'
    obtain ⟨q1, l1, y1, z1⟩ := H2q m y hm hy
    obtain ⟨q2, l2, y2, z2⟩ := H2q m' y hm' hy'
    refine h.apart q1 q2 l1 l2 ?_ y y1 y2
    split at z1 <;> split at z2 <;> omega
  · intro j
    rw [hl2]
  · intro j hj
    rcases hj with rfl | rfl | ⟨m, hm, hj⟩
    · exact hFc
    · exact hFr
    · obtain ⟨q, lq, yq, _⟩ := H2q m j hm hj
      exact hFm q j lq yq
end Go.Proofs.YtnkgjnmhiedfoaaGreat.Chain
namespace Go.Proofs.YtnkgjnmhiedfoaaGreat.Chain
open Go.RowKit Mem Tick Cargo Toxic Stage
set_option linter.unusedVariables false
set_option linter.unusedSimpArgs false
variable {x : Ch} {M Q : Int}
theorem flow_massIO {x y : Ch} {i o : ByteArray} (h : Flow x i o y) : y.lost + heldL y.l + o.size = x.lost + heldL x.l + i.size ∧ x.lost ≤ y.lost := by
  obtain ⟨L, h1, h2, _, _⟩ := h
  have h3 := congrArg ByteArray.size h1
  simp only [ByteArray.size_append, lineL_size] at h3
  constructor <;> omega
theorem OkC.flowIO {y : Ch} {i o : ByteArray} (ho : OkC x M Q) (h : Flow x i o y) (h2 : 2 ≤ y.l.length) (h10 : y.l.length ≤ 10) (hr : y.room = x.room) {Q' : Int} (hok : OkL y.l Q') : OkC y (M + i.size) Q' := by
  obtain ⟨h1, h3⟩ := flow_massIO h
  have a := ho.held
  have b := ho.lost0
  have c := ho.lost
  exact ⟨h2, h10, by rw [hr]; exact ho.r0, by rw [hr]; exact ho.r1, by omega, by omega, by omega, hok⟩
theorem OkC.more (ho : OkC x M Q) {M' Q' : Int} (hM : M ≤ M') (hQ : Q ≤ Q') : OkC x M' Q' :=
  ⟨ho.two, ho.ten, ho.r0, ho.r1, Int.le_trans ho.held hM, ho.lost0, Int.le_trans ho.lost hM, OkL.more ho.ok hQ⟩
theorem passed_put (s : Sg) (n : Int) (b : ByteArray) : (putS s n b).passed = s.passed := by
  unfold putS
  split
  · rfl
  · rw [passed_force]; rfl
theorem ok_put (ho : OkC x M Q) (now : Int) (b : ByteArray) : OkC (putC x now b) (M + b.size) Q := by
  have hf := flow_put x now b
  have hi : (b.extract 0 (putCN x now b)).size ≤ b.size := by rw [ByteArray.size_extract]; omega
  have h0 := ho.okL
  have hl : (putC x now b).l.length = x.l.length ∧ (putC x now b).room = x.room ∧ OkL (putC x now b).l Q := by
    unfold putC
    split
    · exact ⟨rfl, rfl, h0⟩
    split
    · rename_i a ha
      exact ⟨by simp, rfl, OkL.set h0 _ ⟨(h0.at_ ha).1.put _ _, by show (putS a.s now b).passed ≤ _; rw [passed_put]; exact (h0.at_ ha).2⟩⟩
    · exact ⟨rfl, rfl, h0⟩
  exact (ho.flowIO hf (by rw [hl.1]; exact ho.two) (by rw [hl.1]; exact ho.ten) hl.2.1 hl.2.2).more (by omega) (Int.le_refl _)
theorem ok_close (ho : OkC x M Q) (now : Int) : OkC (closeC x now) M Q := by
  have h0 := ho.okL
  have hl : (closeC x now).l.length = x.l.length ∧ (closeC x now).room = x.room ∧ OkL (closeC x now).l Q := by
    unfold closeC
    split
    · split
      · rename_i a ha
        exact ⟨by simp, rfl, OkL.set h0 _ (ok_end now (h0.at_ ha))⟩
      · exact ⟨rfl, rfl, h0⟩
    · exact ⟨rfl, rfl, h0⟩
  exact ho.flow (flow_close x now) hl.1 hl.2.1 hl.2.2
theorem ok_break (ho : OkC x M Q) : OkC (breakC x) M Q := by
  have hl : (breakC x).l.length = x.l.length ∧ (breakC x).room = x.room ∧ OkL (breakC x).l Q := by
    unfold breakC
    split
    · exact ⟨rfl, rfl, ho.okL⟩
    · exact ⟨loseL_length _ _, rfl, mapK_ok ho.okL _⟩
  exact ho.flow (flow_break x) hl.1 hl.2.1 hl.2.2
theorem ok_take (ho : OkC x M Q) (hM : 0 ≤ M) (now most : Int) : OkC (takeC x now most) M (Q + M) := by
  have h0 := ho.okL
  have hl : (takeC x now most).l.length = x.l.length ∧ (takeC x now most).room = x.room ∧ OkL (takeC x now most).l (Q + M) := by
    unfold takeC
    split
    · exact ⟨rfl, rfl, h0.more (by omega)⟩
    split
    · rename_i a ha
      refine ⟨by simp, rfl, OkL.set (h0.more (by omega)) _ ⟨(h0.at_ ha).1.take _ _, ?_⟩⟩
      show (takeS a.s now most).passed ≤ _
      rw [passed_take]
      have h1 := takeB_le a.s now most
      have h2 := held_le ha
      have h3 := (h0.at_ ha).2
      have h4 := ho.held
      omega
    · exact ⟨rfl, rfl, h0.more (by omega)⟩
  have := ho.flowIO (flow_take x now most) (by rw [hl.1]; exact ho.two) (by rw [hl.1]; exact ho.ten) hl.2.1 hl.2.2
  have e : ((⟨#[]⟩ : ByteArray).size : Int) = 0 := rfl
  rw [e, Int.add_zero] at this
  exact this
theorem ok_upd (ho : OkC x M Q) (at_ : Int) (t : Tox) (now : Int) : OkC (updC x at_ t now) M Q := by
  have h0 := ho.okL
  have hl : (updC x at_ t now).l.length = x.l.length ∧ (updC x at_ t now).room = x.room ∧ OkL (updC x at_ t now).l Q := by
    unfold updC
    split
    · split
      · rename_i a ha
        exact ⟨by simp, rfl, OkL.set h0 _ ⟨(h0.at_ ha).1.upd _ _, by show (updS a.s t now).passed ≤ _; rw [(upd_c a.s t now).2]; exact (h0.at_ ha).2⟩⟩
      · exact ⟨rfl, rfl, h0⟩
    · exact ⟨rfl, rfl, h0⟩
  exact ho.flow (flow_upd x at_ t now) hl.1 hl.2.1 hl.2.2
theorem ok_last (ho : OkC x M Q) (now : Int) : OkC (lastC now x) M Q := by
  have h0 := ho.okL
  have hl : (lastC now x).room = x.room ∧ OkL (lastC now x).l Q := by
    unfold lastC
    split
    · rename_i a ha
      exact ⟨rfl, OkL.set h0 _ (ok_look now (h0.at_ ha))⟩
    · exact ⟨rfl, h0⟩
  exact ho.flow (flow_last now x).1 (flow_last now x).2 hl.1 hl.2
theorem ok_step (ho : OkC x M Q) (now : Int) : OkC (stepC now x) M (Q + 10 * M) := by
  have hM : 0 ≤ M := by have := ho.held; omega
  unfold stepC
  split
  · exact ho.more (Int.le_refl _) (by omega)
  have hm : OkC { x with l := x.l.map (lookA now) } M Q := ho.list (by simp) (heldL_of_line (look_map now x.l)) (OkL.look ho.okL now)
  split
  · exact (ok_break hm).more (Int.le_refl _) (by omega)
  · have h1 := mfold_ok hm now (List.range (x.l.length - 1))
    have h10 := ho.ten
    have hpl : ((List.range (x.l.length - 1)).length : Int) * M ≤ 10 * M := Int.mul_le_mul_of_nonneg_right (by rw [List.length_range]; omega) hM
    have h2 : OkC { x with l := moves now (x.l.length - 1) (x.l.map (lookA now)) } M (Q + 10 * M) := by
      have := h1.1
      rw [mfold_range] at this
      exact this.more (Int.le_refl _) (by omega)
    have h3 := sfold_ok now (List.range (x.l.length - 1)) _ h2
    rw [sfold_range] at h3
    exact ok_last h3.1 now
theorem OkL.app {l l' : List Pa} (h : OkL l Q) (h' : OkL l' Q) : OkL (l ++ l') Q := fun a ha => (List.mem_append.1 ha).elim (h a) (h' a)
theorem OkL.cons {l : List Pa} {b : Pa} (hb : Ok b.s ∧ b.s.passed ≤ Q) (h : OkL l Q) : OkL (b :: l) Q := fun a ha => by
  rcases List.mem_cons.1 ha with e | e
  · subst e; exact hb
  · exact h a e
theorem OkL.take {l : List Pa} (h : OkL l Q) (n : Nat) : OkL (l.take n) Q := fun a ha => h a (List.mem_of_mem_take ha)
theorem OkL.drop {l : List Pa} (h : OkL l Q) (n : Nat) : OkL (l.drop n) Q := fun a ha => h a (List.mem_of_mem_drop ha)
theorem OkL.erase {l : List Pa} (h : OkL l Q) (n : Nat) : OkL (l.eraseIdx n) Q := fun a ha => h a (List.mem_of_mem_eraseIdx ha)
theorem ok_ins (ho : OkC x M Q) (hQ : 0 ≤ Q) (at_ : Int) (t : Tox) (seed now : Int) : OkC (insC x at_ t seed now) M Q := by
  have h0 := ho.okL
  have hl : (insC x at_ t seed now).l.length ≤ 10 ∧ 2 ≤ (insC x at_ t seed now).l.length ∧ (insC x at_ t seed now).room = x.room ∧ OkL (insC x at_ t seed now).l Q := by
    unfold insC
    split
    · exact ⟨ho.ten, ho.two, rfl, h0⟩
    rename_i hz
    split
    · rename_i b hb
      have hz2 : noPlace x at_ = false ∧ newE t x.room = 0 := by
        unfold insE at hz
        split at hz
        · exact absurd (by decide) hz
        · rename_i hn
          exact ⟨by simpa using hn, by simpa using hz⟩
      have hp : (x.l.length : Int) - 2 < 8 := by
        have := hz2.1
        simp [noPlace] at this
        omega
      have hi := (List.getElem?_eq_some_iff.1 hb).1
      have hok := Ok.new (seed := seed) (now := now) hz2.2
      have hpa : (newS t seed x.room now).passed = 0 := by unfold newS; split <;> rfl
      have h2 := ho.two
      refine ⟨?_, ?_, rfl, OkL.app (h0.take _) (OkL.cons ?_ (h0.drop _))⟩
      · show (x.l.take (at_.toNat + 1) ++ _ :: x.l.drop (at_.toNat + 1)).length ≤ 10
        simp; omega
      · show 2 ≤ (x.l.take (at_.toNat + 1) ++ _ :: x.l.drop (at_.toNat + 1)).length
        simp; omega
      · split
        · exact ok_end now ⟨hok, by show (newS t seed x.room now).passed ≤ _; rw [hpa]; exact hQ⟩
        · exact ⟨hok, by show (newS t seed x.room now).passed ≤ _; rw [hpa]; exact hQ⟩
    · exact ⟨ho.ten, ho.two, rfl, h0⟩
  have := ho.flowIO (flow_ins x at_ t seed now) hl.2.1 hl.1 hl.2.2.1 hl.2.2.2
  have e : ((⟨#[]⟩ : ByteArray).size : Int) = 0 := rfl
  rw [e, Int.add_zero] at this
  exact this
theorem ok_rem (ho : OkC x M Q) (at_ now : Int) : OkC (remC x at_ now) M Q := by
  have h0 := ho.okL
  have hl : (remC x at_ now).l.length ≤ 10 ∧ 2 ≤ (remC x at_ now).l.length ∧ (remC x at_ now).room = x.room ∧ OkL (remC x at_ now).l Q := by
    unfold remC
    split
    · rename_i hb
      have hb' : 0 ≤ at_ ∧ at_ < (x.l.length : Int) - 2 := by simpa [isB] using hb
      unfold remAt
      split
      · rename_i p q hp hq
        have kp := h0.at_ hp
        have kq := h0.at_ hq
        have kf : Ok (forceP q.s now (cat p.s.c.1)) ∧ (forceP q.s now (cat p.s.c.1)).passed ≤ Q := ⟨kq.1.force _ _, by rw [passed_force]; exact kq.2⟩
        have k1 : OkL ((x.l.set (at_.toNat + 1) (drainA p)).set (at_.toNat + 1 + 1) ⟨forceP q.s now (cat p.s.c.1), q.cl⟩) Q := OkL.set (OkL.set h0 _ (ok_drain kp)) _ kf
        have k2 : OkL (if (0 : Int) < (held p.s : Int) - ((held (forceP q.s now (cat p.s.c.1)) : Int) - held q.s) then loseL (at_.toNat + 1) ((x.l.set (at_.toNat + 1) (drainA p)).set (at_.toNat + 1 + 1) ⟨forceP q.s now (cat p.s.c.1), q.cl⟩) else (x.l.set (at_.toNat + 1) (drainA p)).set (at_.toNat + 1 + 1) ⟨forceP q.s now (cat p.s.c.1), q.cl⟩) Q ∧
            (if (0 : Int) < (held p.s : Int) - ((held (forceP q.s now (cat p.s.c.1)) : Int) - held q.s) then loseL (at_.toNat + 1) ((x.l.set (at_.toNat + 1) (drainA p)).set (at_.toNat + 1 + 1) ⟨forceP q.s now (cat p.s.c.1), q.cl⟩) else (x.l.set (at_.toNat + 1) (drainA p)).set (at_.toNat + 1 + 1) ⟨forceP q.s now (cat p.s.c.1), q.cl⟩).length = x.l.length := by
          split
          · exact ⟨mapK_ok k1 _, by rw [loseL_length]; simp⟩
          · exact ⟨k1, by simp⟩
        have kq2 : Ok (if p.cl = true then endA now ⟨forceP q.s now (cat p.s.c.1), q.cl⟩ else ⟨forceP q.s now (cat p.s.c.1), q.cl⟩ : Pa).s ∧ (if p.cl = true then endA now ⟨forceP q.s now (cat p.s.c.1), q.cl⟩ else ⟨forceP q.s now (cat p.s.c.1), q.cl⟩ : Pa).s.passed ≤ Q := by
          split
          · exact ok_end now kf
          · exact kf
        have h10 := ho.ten
        have h2 := ho.two
        have hi := (List.getElem?_eq_some_iff.1 hp).1
        refine ⟨?_, ?_, rfl, OkL.erase (OkL.set k2.1 _ kq2) _⟩
        · dsimp only
          rw [List.length_eraseIdx, List.length_set, k2.2]
          split <;> omega
        · dsimp only
          rw [List.length_eraseIdx, List.length_set, k2.2]
          split <;> omega
      · exact ⟨ho.ten, ho.two, rfl, h0⟩
    · exact ⟨ho.ten, ho.two, rfl, h0⟩
  have := ho.flowIO (flow_remC x at_ now) hl.2.1 hl.1 hl.2.2.1 hl.2.2.2
  have e : ((⟨#[]⟩ : ByteArray).size : Int) = 0 := rfl
  rw [e, Int.add_zero] at this
  exact this
end Go.Proofs.YtnkgjnmhiedfoaaGreat.Chain
namespace Go.Proofs.YtnkgjnmhiedfoaaGreat.Chain
open Go.RowKit Mem Tick Cargo Toxic Stage
open Go.Proofs.YtnkgjnmhiedfoaaGreatW.PrintLast Pu
set_option maxRecDepth 100000
set_option linter.unusedVariables false
set_option linter.unusedSimpArgs false
variable {w w' w1 : World} {F H : Nat → Prop} {t : Pt} {a : Pa} {c : Nat} {D : Lay} {x : Ch}
theorem ins_no (h : CH w F c D x) (h2 : 2 ≤ x.l.length) (h10 : x.l.length ≤ 10) (at_ : Int) (t0 : ByteArray) (t1 : Int) (t2 : Bool) (t3 t4 t5 seed now : Int) (hno : noPlace x at_ = true) :
    Calls Tryz.prog 45 #[ptr c, .int .i64 at_, .agg #[.string t0, .int .i64 t1, .bool t2, .int .i64 t3, .int .i64 t4, .int .i64 t5], .int .u64 seed, .int .i64 now] w fun e w' => e = .returned (.int .i64 110) ∧ Below w.heap.size w w' := by
  have hb0 := (Below.refl w.heap.size w).alloc (Nat.le_refl _) (.cells #[.string t0, .int .i64 t1, .bool t2, .int .i64 t3, .int .i64 t4, .int .i64 t5] 27)
  have hi := Lib.hid (fun (wy : World) (hb : Below w.heap.size w wy) => inner_any (h.below hb) h2 h10)
  have hb0' := Lib.hid hb0
  clear h hb0
  by_cases g1 : at_ < 0
  · clear hno hi
    go_enter Tryz.func45, Tryz.ntmps45
    go_wp2
    go_ret
    exact ⟨rfl, hb0'.out⟩
  by_cases g2 : ((x.l.length - 2 : Nat) : Int) < at_
  · clear hno
    go_enter Tryz.func45, Tryz.ntmps45
    go_wp2_with fail
    refine (hi.out _ hb0'.out).mono ?_
    rintro e w1 ⟨rfl, hB⟩
    have hB1 := Lib.hid (bw_below hb0'.out hB)
    clear hB hi hb0'
    go_wp2
    go_ret
    exact ⟨rfl, hB1.out⟩
  · have g3 : (8 : Int) ≤ ((x.l.length - 2 : Nat) : Int) := by
      simp [noPlace] at hno
      omega
    have g2' : at_ ≤ ((x.l.length - 2 : Nat) : Int) := by omega
    clear hno g2
    go_enter Tryz.func45, Tryz.ntmps45
    go_wp2_with fail
    refine (hi.out _ hb0'.out).mono ?_
    rintro e w1 ⟨rfl, hB⟩
    have hB1 := Lib.hid (bw_below hb0'.out hB)
    clear hB hb0'
    go_wp2_with fail
    refine (hi.out _ hB1.out).mono ?_
    rintro e w2 ⟨rfl, hB⟩
    have hB2 := Lib.hid (bw_below hB1.out hB)
    clear hB hB1 hi
    go_wp2
    go_ret
    exact ⟨rfl, hB2.out⟩
theorem ins_err (h : CH w F c D x) (h2 : 2 ≤ x.l.length) (h10 : x.l.length ≤ 10) (at_ : Int) (t0 : ByteArray) (t1 : Int) (t2 : Bool) (t3 t4 t5 seed now : Int) (hno : noPlace x at_ = false) (he : newE ⟨t0, t1, t2, t3, t4, t5⟩ x.room ≠ 0) :
    Calls Tryz.prog 45 #[ptr c, .int .i64 at_, .agg #[.string t0, .int .i64 t1, .bool t2, .int .i64 t3, .int .i64 t4, .int .i64 t5], .int .u64 seed, .int .i64 now] w fun e w' => e = .returned (.int .i64 (newE ⟨t0, t1, t2, t3, t4, t5⟩ x.room)) ∧ Below w.heap.size w w' := by
  have hnew := Lib.hid (fun wr => live_none (wr := wr) ⟨t0, t1, t2, t3, t4, t5⟩ seed x.room now he)
  have te : (newE ⟨t0, t1, t2, t3, t4, t5⟩ x.room != 0) = true := by simpa using he
  have hh := Lib.hid h
  have hb0 := (Below.refl w.heap.size w).alloc (Nat.le_refl _) (.cells #[.string t0, .int .i64 t1, .bool t2, .int .i64 t3, .int .i64 t4, .int .i64 t5] 27)
  have hi := Lib.hid (fun (wy : World) (hb : Below w.heap.size w wy) => inner_any (h.below hb) h2 h10)
  have hb0' := Lib.hid hb0
  have hblk0 := Lib.hid (Blk.new w 27 #[.string t0, .int .i64 t1, .bool t2, .int .i64 t3, .int .i64 t4, .int .i64 t5])
  have g1 : ¬ at_ < 0 := by simp [noPlace] at hno; omega
  have g2' : at_ ≤ ((x.l.length - 2 : Nat) : Int) := by simp [noPlace] at hno; omega
  have g3 : ¬ (8 : Int) ≤ ((x.l.length - 2 : Nat) : Int) := by simp [noPlace] at hno; omega
  clear h hno hb0 he
  generalize newE ⟨t0, t1, t2, t3, t4, t5⟩ x.room = E at *
  go_enter Tryz.func45, Tryz.ntmps45
  go_wp2_with fail
  refine (hi.out _ hb0'.out).mono ?_
  rintro e w1 ⟨rfl, hB⟩
  have hB1 := Lib.hid (bw_below hb0'.out hB)
  have hblk1 := Lib.hid (hblk0.out.below hB)
  clear hB hb0' hblk0
  go_wp2_with fail
  refine (hi.out _ hB1.out).mono ?_
  rintro e w2 ⟨rfl, hB⟩
  have hB2 := Lib.hid (bw_below hB1.out hB)
  have hblk2 := Lib.hid (hblk1.out.below hB)
  clear hB hB1 hi hblk1
  have hC2 := Lib.hid (hh.out.below hB2.out)
  have d0 : w2.cell? ⟨w.heap.size, 0, none⟩ = some (.string t0) := (hblk2.out.cell 0).trans rfl
  have d1 : w2.cell? ⟨w.heap.size, 1, none⟩ = some (.int .i64 t1) := (hblk2.out.cell 1).trans rfl
  have d2 : w2.cell? ⟨w.heap.size, 2, none⟩ = some (.bool t2) := (hblk2.out.cell 2).trans rfl
  have d3 : w2.cell? ⟨w.heap.size, 3, none⟩ = some (.int .i64 t3) := (hblk2.out.cell 3).trans rfl
  have d4 : w2.cell? ⟨w.heap.size, 4, none⟩ = some (.int .i64 t4) := (hblk2.out.cell 4).trans rfl
  have d5 : w2.cell? ⟨w.heap.size, 5, none⟩ = some (.int .i64 t5) := (hblk2.out.cell 5).trans rfl
  have d6 : w2.cell? ⟨c, 1, none⟩ = some (.int .i64 x.room) := (hC2.out.blk.cell 1).trans rfl
  go_wp2
  refine start_ (n := 13) (S := fun w' => w'.cell? ⟨w.heap.size, 0, none⟩ = some (.string t0) ∧ w'.cell? ⟨w.heap.size, 1, none⟩ = some (.int .i64 t1) ∧ w'.cell? ⟨w.heap.size, 2, none⟩ = some (.bool t2) ∧ w'.cell? ⟨w.heap.size, 3, none⟩ = some (.int .i64 t3) ∧ w'.cell? ⟨w.heap.size, 4, none⟩ = some (.int .i64 t4) ∧ w'.cell? ⟨w.heap.size, 5, none⟩ = some (.int .i64 t5) ∧ w'.cell? ⟨c, 1, none⟩ = some (.int .i64 x.room)) (ds := []) (m_ 13 0) (by kernel_rfl) rfl (by kernel_rfl) ⟨d0, d1, d2, d3, d4, d5, d6⟩ (fun hHeld => ?_)
  refine pq_ 1 31 13 2 ?_
  refine pq_ 2 32 13 6 ?_
  refine pq_ 3 33 13 14 ?_
  refine pq_ 4 34 13 30 ?_
  refine pq_ 6 36 13 94 ?_
  refine tq_ 0 30 13 95 hHeld ?_
  refine tq_ 5 35 13 127 hHeld ?_
  refine one_ (i := 7) (N := some 37) (m_ 13 255) rfl rfl (by kernel_rfl) (by decide) (fun K hK => ?_)
  refine goes_ Tryz.func52 (by kernel_rfl) rfl #[.agg #[.string t0, .int .i64 t1, .bool t2, .int .i64 t3, .int .i64 t4, .int .i64 t5], .int .u64 seed, .int .i64 x.room, .int .i64 now] (by rfl) rfl rfl (by simp only [List.map_toArray, List.map_cons, List.map_nil]; rfl) ?_
  with_reducible refine (hnew.out w2.drew).mono ?_
  rintro e w4 ⟨rfl, hB⟩
  have hb4 := below_drew hB
  have e0 := bcells hb4 d0
  have e1 := bcells hb4 d1
  have e2 := bcells hb4 d2
  have e3 := bcells hb4 d3
  have e4 := bcells hb4 d4
  have e5 := bcells hb4 d5
  have e6 := bcells hb4 d6
  have hB4 := Lib.hid (bw_below hB2.out hb4)
  clear hB hb4
  refine ⟨_, rfl, ?_⟩
  refine hK.out _ _ ⟨e0, e1, e2, e3, e4, e5, e6⟩ (fun hHeld => ?_)
  clear hK K
  refine norm_ (a' := ?_) ?_ ?_
  rotate_left
  · show Act.put _ (some 37) _ = _
    simp only [Act.put, List.setIfInBounds_toArray, List.set_cons_zero, List.set_cons_succ, i64_w, i32_w]
    rfl
  refine pq_ 8 29 13 511 ?_
  refine pq_ 9 38 13 1023 ?_
  refine pq_ 10 39 13 2047 ?_
  refine pq_ 11 11 13 4095 ?_
  refine pq_ 12 12 13 8191 ?_
  refine done_ (by kernel_rfl) ?_
  clear hHeld d0 d1 d2 d3 d4 d5 d6 e0 e1 e2 e3 e4 e5 e6
  go_wp2
  go_ret
  exact ⟨rfl, hB4.out⟩
theorem ins_ok (h : CH w F c D x) (h2 : 2 ≤ x.l.length) (h10 : x.l.length ≤ 10) (hcap : D.cap ≤ 9223372036854775807) (k : Nat) (t0 : ByteArray) (t1 : Int) (t2 : Bool) (t3 t4 t5 seed now : Int) (hno : noPlace x (k : Int) = false) (he : newE ⟨t0, t1, t2, t3, t4, t5⟩ x.room = 0) (b0 : Pa) (hx : x.l[k + 1]? = some b0) :
    Calls Tryz.prog 45 #[ptr c, .int .i64 (k : Int), .agg #[.string t0, .int .i64 t1, .bool t2, .int .i64 t3, .int .i64 t4, .int .i64 t5], .int .u64 seed, .int .i64 now] w fun e w' => e = .returned (.int .i64 0) ∧ ∃ D' F', CH w' F' c D' { x with l := x.l.take (k + 1) ++ (if b0.cl = true then endA now ⟨newS ⟨t0, t1, t2, t3, t4, t5⟩ seed x.room now, false⟩ else ⟨newS ⟨t0, t1, t2, t3, t4, t5⟩ seed x.room now, false⟩) :: x.l.drop (k + 1) } ∧ Did F w w' ∧ Stem F F' w ∧ D'.cap ≤ 9223372036854775807 := by
  have hnew := Lib.hid (fun wr => (new_any ⟨t0, t1, t2, t3, t4, t5⟩ seed x.room now wr).mono fun e w' hp => hp.1 he)
  have hh := Lib.hid h
  have hb0 := (Below.refl w.heap.size w).alloc (Nat.le_refl _) (.cells #[.string t0, .int .i64 t1, .bool t2, .int .i64 t3, .int .i64 t4, .int .i64 t5] 27)
  have hi := Lib.hid (fun (wy : World) (hb : Below w.heap.size w wy) => inner_any (h.below hb) h2 h10)
  have hb0' := Lib.hid hb0
  have hblk0 := Lib.hid (Blk.new w 27 #[.string t0, .int .i64 t1, .bool t2, .int .i64 t3, .int .i64 t4, .int .i64 t5])
  have g1 : ¬ (k : Int) < 0 := by simp [noPlace] at hno; omega
  have g2' : (k : Int) ≤ ((x.l.length - 2 : Nat) : Int) := by simp [noPlace] at hno; omega
  have g3 : ¬ (8 : Int) ≤ ((x.l.length - 2 : Nat) : Int) := by simp [noPlace] at hno; omega
  have hk1 : k + 1 < x.l.length := (List.getElem?_eq_some_iff.1 hx).1
  have hkw := wr_at k (by omega)
  have hx' := Lib.hid hx
  have hnF := Lib.hid (fun j => h.lt (j := j))
  clear h hno hb0 he hx
  generalize newS ⟨t0, t1, t2, t3, t4, t5⟩ seed x.room now = sn at *
  have hkw' := Lib.hid hkw
  clear hkw
  go_enter Tryz.func45, Tryz.ntmps45
  go_wp2_with fail
  refine (hi.out _ hb0'.out).mono ?_
  rintro e w1 ⟨rfl, hB⟩
  have hB1 := Lib.hid (bw_below hb0'.out hB)
  have hblk1 := Lib.hid (hblk0.out.below hB)
  clear hB hb0' hblk0
  go_wp2_with fail
  refine (hi.out _ hB1.out).mono ?_
  rintro e w2 ⟨rfl, hB⟩
  have hB2 := Lib.hid (bw_below hB1.out hB)
  have hblk2 := Lib.hid (hblk1.out.below hB)
  clear hB hB1 hi hblk1
  have hC2 := Lib.hid (hh.out.below hB2.out)
  have d0 : w2.cell? ⟨w.heap.size, 0, none⟩ = some (.string t0) := (hblk2.out.cell 0).trans rfl
  have d1 : w2.cell? ⟨w.heap.size, 1, none⟩ = some (.int .i64 t1) := (hblk2.out.cell 1).trans rfl
  have d2 : w2.cell? ⟨w.heap.size, 2, none⟩ = some (.bool t2) := (hblk2.out.cell 2).trans rfl
  have d3 : w2.cell? ⟨w.heap.size, 3, none⟩ = some (.int .i64 t3) := (hblk2.out.cell 3).trans rfl
  have d4 : w2.cell? ⟨w.heap.size, 4, none⟩ = some (.int .i64 t4) := (hblk2.out.cell 4).trans rfl
  have d5 : w2.cell? ⟨w.heap.size, 5, none⟩ = some (.int .i64 t5) := (hblk2.out.cell 5).trans rfl
  have d6 : w2.cell? ⟨c, 1, none⟩ = some (.int .i64 x.room) := (hC2.out.blk.cell 1).trans rfl
  go_wp2
  refine start_ (n := 13) (S := fun w' => w'.cell? ⟨w.heap.size, 0, none⟩ = some (.string t0) ∧ w'.cell? ⟨w.heap.size, 1, none⟩ = some (.int .i64 t1) ∧ w'.cell? ⟨w.heap.size, 2, none⟩ = some (.bool t2) ∧ w'.cell? ⟨w.heap.size, 3, none⟩ = some (.int .i64 t3) ∧ w'.cell? ⟨w.heap.size, 4, none⟩ = some (.int .i64 t4) ∧ w'.cell? ⟨w.heap.size, 5, none⟩ = some (.int .i64 t5) ∧ w'.cell? ⟨c, 1, none⟩ = some (.int .i64 x.room)) (ds := []) (m_ 13 0) (by kernel_rfl) rfl (by kernel_rfl) ⟨d0, d1, d2, d3, d4, d5, d6⟩ (fun hHeld => ?_)
  refine pq_ 1 31 13 2 ?_
  refine pq_ 2 32 13 6 ?_
  refine pq_ 3 33 13 14 ?_
  refine pq_ 4 34 13 30 ?_
  refine pq_ 6 36 13 94 ?_
  refine tq_ 0 30 13 95 hHeld ?_
  refine tq_ 5 35 13 127 hHeld ?_
  refine one_ (i := 7) (N := some 37) (m_ 13 255) rfl rfl (by kernel_rfl) (by decide) (fun K hK => ?_)
  refine goes_ Tryz.func52 (by kernel_rfl) rfl #[.agg #[.string t0, .int .i64 t1, .bool t2, .int .i64 t3, .int .i64 t4, .int .i64 t5], .int .u64 seed, .int .i64 x.room, .int .i64 now] (by rfl) rfl rfl (by simp only [List.map_toArray, List.map_cons, List.map_nil]; rfl) ?_
  with_reducible refine (hnew.out w2.drew).mono ?_
  rintro e w4 ⟨bb, kk, F1, rfl, hS4, hF1, hB⟩
  have hb4 := below_drew hB
  have e0 := bcells hb4 d0
  have e1 := bcells hb4 d1
  have e2 := bcells hb4 d2
  have e3 := bcells hb4 d3
  have e4 := bcells hb4 d4
  have e5 := bcells hb4 d5
  have e6 := bcells hb4 d6
  have hB4 := Lib.hid (bw_below hB2.out hb4)
  have hS4' := Lib.hid hS4
  have hF1' := Lib.hid (show ∀ j, F1 j → w2.heap.size ≤ j from hF1)
  have hC4 := Lib.hid (hC2.out.below hb4)
  clear hB hb4 hS4 hF1
  refine ⟨_, rfl, ?_⟩
  refine hK.out _ _ ⟨e0, e1, e2, e3, e4, e5, e6⟩ (fun hHeld => ?_)
  clear hK K
  refine norm_ (a' := ?_) ?_ ?_
  rotate_left
  · show Act.put _ (some 37) _ = _
    simp only [Act.put, List.setIfInBounds_toArray, List.set_cons_zero, List.set_cons_succ, i64_w, i32_w]
    rfl
  refine pq_ 8 29 13 511 ?_
  refine pq_ 9 38 13 1023 ?_
  refine pq_ 10 39 13 2047 ?_
  refine pq_ 11 11 13 4095 ?_
  refine pq_ 12 12 13 8191 ?_
  refine done_ (by kernel_rfl) ?_
  clear hHeld d0 d1 d2 d3 d4 d5 d6 e0 e1 e2 e3 e4 e5 e6
  have hsz : w.heap.size ≤ w2.heap.size := hB2.out.size
  have hb5 := (Below.refl w4.heap.size w4).alloc (Nat.le_refl _) (.cells #[ptr bb, .bool false] 103)
  have hC5 := Lib.hid (hC4.out.below hb5)
  have hP5 := Lib.hid (show PG (w4.alloc (.cells #[ptr bb, .bool false] 103)) (fun j => j = w4.heap.size ∨ F1 j) ⟨w4.heap.size, bb, kk⟩ ⟨sn, false⟩ from ⟨F1, Blk.new _ _ _, hS4'.out.below hb5, fun j => Iff.rfl⟩)
  have hH5 := Lib.hid (show (∀ j, (j = w4.heap.size ∨ F1 j) → ¬ F j) ∧ ∀ j, (j = w4.heap.size ∨ F1 j) → w.heap.size ≤ j from by
    have z : ∀ j, (j = w4.heap.size ∨ F1 j) → w.heap.size ≤ j := by
      rintro j (rfl | h)
      · exact hB4.out.size
      · have := hF1'.out j h; omega
    exact ⟨fun j hj hf => by have := hnF.out j hf; have := z j hj; omega, z⟩)
  have hD5 := Lib.hid (show Did F w (w4.alloc (.cells #[ptr bb, .bool false] 103)) from (Did.of_below hB4.out).alloc _)
  obtain ⟨tt, htt⟩ := hC5.out.pt hx'.out
  have c0 : (w4.alloc (.cells #[ptr bb, .bool false] 103)).cell? ⟨c, 0, none⟩ = some (.slice (some ⟨D.r, 0, none⟩) x.l.length D.cap) := (hC5.out.blk.cell 0).trans rfl
  have r0 := hC5.out.rcell htt
  have p1 := (hC5.out.pcell htt hx'.out).2
  have hk2 : (k : Int) + 1 < (x.l.length : Int) := by omega
  have hk3 : (0 : Int) ≤ (k : Int) + 1 := by omega
  clear hC4 hS4' hF1' hC2 hB2 hb5 htt hblk2 hB4 hh hnew
  cases hcl : b0.cl with
  | true =>
    rw [hcl] at p1
    have hen := Lib.hid (end_any hP5.out now)
    go_wp2_with fail
    refine hen.out.mono ?_
    rintro e w6 ⟨rfl, H6, hP, hD6, hS6⟩
    have hC6 := Lib.hid (show CH w6 F c D x from hC5.out.kept fun j hj => hD6.block j (hC5.out.lt hj) (fun hh => hH5.out.1 j hh hj))
    have hP6 := Lib.hid hP
    have hH6 := Lib.hid (show (∀ j, H6 j → ¬ F j) ∧ ∀ j, H6 j → w.heap.size ≤ j from by
      have z : ∀ j, H6 j → w.heap.size ≤ j := by
        intro j hj
        rcases hS6 j hj with e | e
        · exact hH5.out.2 j e
        · have := hD5.out.size; omega
      exact ⟨fun j hj hf => by have := hnF.out j hf; have := z j hj; omega, z⟩)
    have hDw6 := Lib.hid (show Did F w w6 from hD5.out.trans (F' := fun j => F j ∨ (j = w4.heap.size ∨ F1 j)) (fun j hj => hj.imp id (hH5.out.2 j)) (hD6.more fun j hj => .inl (.inr hj)))
    clear hP hD6 hS6 hC5 hP5 hH5 hD5 hen c0 r0 p1
    have c0 : w6.cell? ⟨c, 0, none⟩ = some (.slice (some ⟨D.r, 0, none⟩) x.l.length D.cap) := (hC6.out.blk.cell 0).trans rfl
    have hC7 := Lib.hid (hC6.out.below ((Below.refl w6.heap.size w6).alloc (Nat.le_refl _) (.cells #[ptr w4.heap.size] 101)))
    have hP7 := Lib.hid (hP6.out.kept (w' := w6.alloc (.cells #[ptr w4.heap.size] 101)) fun j hj => Below.heap_alloc _ _ _ (hP6.out.typed.lt hj))
    have hins : Hid (Calls Tryz.prog 66 #[.slice (some ⟨D.r, 0, none⟩) x.l.length D.cap, .int .i64 ((k : Int) + 1), .slice (some ⟨w6.heap.size, 0, none⟩) 1 1] (w6.alloc (.cells #[ptr w4.heap.size] 101)) fun e w' =>
        ∃ r' cap', e = .returned (.slice (some ⟨r', 0, none⟩) (x.l.length + 1) cap') ∧ RV w' r' cap' (insL (k + 1) (ptr w4.heap.size) (D.ps.map fun q : Pt => ptr q.p)) ∧ Did (· = D.r) (w6.alloc (.cells #[ptr w4.heap.size] 101)) w' ∧ (r' = D.r ∨ (w6.alloc (.cells #[ptr w4.heap.size] 101)).heap.size ≤ r') ∧ cap' ≤ 9223372036854775807) :=
      Lib.hid (by
          rw [show (k : Int) + 1 = ((k + 1 : Nat) : Int) by omega]
          exact insert_any _ D.r w6.heap.size x.l.length D.cap (k + 1) w4.heap.size (D.ps.map fun q : Pt => ptr q.p) (fun u hu => by obtain ⟨q, _, rfl⟩ := List.mem_map.1 hu; rfl) (by rw [List.length_map]; exact hC6.out.len) (by omega) (by omega) (by omega) hC6.out.cap hcap hC7.out.rv (Blk.new w6 101 #[ptr w4.heap.size]) (fun e => by
        have : D.r < w6.heap.size := by obtain ⟨_, hq⟩ := hC6.out; obtain ⟨_, hb, _⟩ := hq.row; exact hb.lt
        try simp only [World.size_alloc] at this
        omega))
    clear hP6
    go_wp2_with fail
    refine hins.out.mono ?_
    rintro e w8 ⟨r', cap', rfl, hRV, hD8, hr', hcp⟩
    obtain ⟨F', hCf, hFf, hFc, hFr⟩ := hC7.out.ins hP7.out hH6.out.1 (i := k + 1) (by omega) hRV hD8 hr'
    have hcr : D.r ≠ c := by obtain ⟨_, hq⟩ := hC6.out; obtain ⟨_, hb, _⟩ := hq.row; exact hb.ne hq.blk (by decide)
    have hb8 : Blk w8 c 106 (ccells D x) := hC7.out.blk.did hD8 (fun e => hcr e.symm)
    have c8 : w8.cell? ⟨c, 0, none⟩ = some (.slice (some ⟨D.r, 0, none⟩) x.l.length D.cap) := (hb8.cell 0).trans rfl
    have f8 := hb8.free 0
    have hres := Lib.hid (show ∃ D' F', CH (w8.setCell ⟨c, 0, none⟩ (.slice (some ⟨r', 0, none⟩) (x.l.length + 1) cap')) F' c D' { x with l := x.l.take (k + 1) ++ (endA now ⟨sn, false⟩) :: x.l.drop (k + 1) } ∧ Did F w (w8.setCell ⟨c, 0, none⟩ (.slice (some ⟨r', 0, none⟩) (x.l.length + 1) cap')) ∧ Stem F F' w ∧ D'.cap ≤ 9223372036854775807 from
      ⟨_, F', hCf, ((hDw6.out.alloc _).trans (Stem.refl _ _) (hD8.more fun j hj => .inl (by subst hj; exact hFr))).setCell (p := ⟨c, 0, none⟩) (.inl hFc) _, fun j hj => by
        rcases hFf j hj with h | h | h
        · exact .inl h
        · exact .inr (hH6.out.2 j h)
        · have := hDw6.out.size
          simp only [World.size_alloc] at h
          try simp only [World.size_alloc] at this
          exact .inr (by omega), hcp⟩)
    clear hins hC6 hC7 hP7 hH6 hDw6 hRV hD8 hr' hCf hFf hFc hFr hb8 c0 hcr
    go_wp2
    all_goals (go_ret; exact ⟨rfl, hres.out⟩)

  | false =>
    rw [hcl] at p1
    have c0 : (w4.alloc (.cells #[ptr bb, .bool false] 103)).cell? ⟨c, 0, none⟩ = some (.slice (some ⟨D.r, 0, none⟩) x.l.length D.cap) := (hC5.out.blk.cell 0).trans rfl
    have hC7 := Lib.hid (hC5.out.below ((Below.refl (w4.alloc (.cells #[ptr bb, .bool false] 103)).heap.size (w4.alloc (.cells #[ptr bb, .bool false] 103))).alloc (Nat.le_refl _) (.cells #[ptr w4.heap.size] 101)))
    have hP7 := Lib.hid (hP5.out.kept (w' := (w4.alloc (.cells #[ptr bb, .bool false] 103)).alloc (.cells #[ptr w4.heap.size] 101)) fun j hj => Below.heap_alloc _ _ _ (hP5.out.typed.lt hj))
    have hins : Hid (Calls Tryz.prog 66 #[.slice (some ⟨D.r, 0, none⟩) x.l.length D.cap, .int .i64 ((k : Int) + 1), .slice (some ⟨(w4.heap.size + 1), 0, none⟩) 1 1] ((w4.alloc (.cells #[ptr bb, .bool false] 103)).alloc (.cells #[ptr w4.heap.size] 101)) fun e w' =>
        ∃ r' cap', e = .returned (.slice (some ⟨r', 0, none⟩) (x.l.length + 1) cap') ∧ RV w' r' cap' (insL (k + 1) (ptr w4.heap.size) (D.ps.map fun q : Pt => ptr q.p)) ∧ Did (· = D.r) ((w4.alloc (.cells #[ptr bb, .bool false] 103)).alloc (.cells #[ptr w4.heap.size] 101)) w' ∧ (r' = D.r ∨ ((w4.alloc (.cells #[ptr bb, .bool false] 103)).alloc (.cells #[ptr w4.heap.size] 101)).heap.size ≤ r') ∧ cap' ≤ 9223372036854775807) :=
      Lib.hid (by
          rw [show (k : Int) + 1 = ((k + 1 : Nat) : Int) by omega]
          exact insert_any _ D.r (w4.heap.size + 1) x.l.length D.cap (k + 1) w4.heap.size (D.ps.map fun q : Pt => ptr q.p) (fun u hu => by obtain ⟨q, _, rfl⟩ := List.mem_map.1 hu; rfl) (by rw [List.length_map]; exact hC5.out.len) (by omega) (by omega) (by omega) hC5.out.cap hcap hC7.out.rv (by have := Blk.new (w4.alloc (.cells #[ptr bb, .bool false] 103)) 101 #[ptr w4.heap.size]; rw [World.size_alloc] at this; exact this) (fun e => by
        have : D.r < (w4.alloc (.cells #[ptr bb, .bool false] 103)).heap.size := by obtain ⟨_, hq⟩ := hC5.out; obtain ⟨_, hb, _⟩ := hq.row; exact hb.lt
        try simp only [World.size_alloc] at this
        omega))
    clear hP5
    go_wp2_with fail
    refine hins.out.mono ?_
    rintro e w8 ⟨r', cap', rfl, hRV, hD8, hr', hcp⟩
    obtain ⟨F', hCf, hFf, hFc, hFr⟩ := hC7.out.ins hP7.out hH5.out.1 (i := k + 1) (by omega) hRV hD8 hr'
    have hcr : D.r ≠ c := by obtain ⟨_, hq⟩ := hC5.out; obtain ⟨_, hb, _⟩ := hq.row; exact hb.ne hq.blk (by decide)
    have hb8 : Blk w8 c 106 (ccells D x) := hC7.out.blk.did hD8 (fun e => hcr e.symm)
    have c8 : w8.cell? ⟨c, 0, none⟩ = some (.slice (some ⟨D.r, 0, none⟩) x.l.length D.cap) := (hb8.cell 0).trans rfl
    have f8 := hb8.free 0
    have hres := Lib.hid (show ∃ D' F', CH (w8.setCell ⟨c, 0, none⟩ (.slice (some ⟨r', 0, none⟩) (x.l.length + 1) cap')) F' c D' { x with l := x.l.take (k + 1) ++ (⟨sn, false⟩ : Pa) :: x.l.drop (k + 1) } ∧ Did F w (w8.setCell ⟨c, 0, none⟩ (.slice (some ⟨r', 0, none⟩) (x.l.length + 1) cap')) ∧ Stem F F' w ∧ D'.cap ≤ 9223372036854775807 from
      ⟨_, F', hCf, ((hD5.out.alloc _).trans (Stem.refl _ _) (hD8.more fun j hj => .inl (by subst hj; exact hFr))).setCell (p := ⟨c, 0, none⟩) (.inl hFc) _, fun j hj => by
        rcases hFf j hj with h | h | h
        · exact .inl h
        · exact .inr (hH5.out.2 j h)
        · have := hD5.out.size
          simp only [World.size_alloc] at h
          try simp only [World.size_alloc] at this
          exact .inr (by omega), hcp⟩)
    clear hins hC5 hC7 hP7 hH5 hD5 hRV hD8 hr' hCf hFf hFc hFr hb8 c0 hcr r0 p1
    go_wp2
    all_goals (go_ret; exact ⟨rfl, hres.out⟩)

def TuD (w : World) (F : Nat → Prop) (w' : World) (c : Nat) (y : Ch) : Prop := ∃ D' F', CH w' F' c D' y ∧ Did F w w' ∧ Stem F F' w ∧ D'.cap ≤ 9223372036854775807
theorem Tu.tuD {y : Ch} (h : Tu w F w' c D y) (hcap : D.cap ≤ 9223372036854775807) : TuD w F w' c y := by
  obtain ⟨F', a, b, d⟩ := h
  exact ⟨D, F', a, b, d, hcap⟩
theorem cInsert_any (h : CH w F c D x) {M Q : Int} (ho : OkC x M Q) (hcap : D.cap ≤ 9223372036854775807) (at_ : Int) (tx : Tox) (seed now : Int) :
    Calls Tryz.prog 45 #[ptr c, .int .i64 at_, tx.v, .int .u64 seed, .int .i64 now] w fun e w' => e = .returned (.int .i64 (insE x at_ tx)) ∧ TuD w F w' c (insC x at_ tx seed now) := by
  obtain ⟨t0, t1, t2, t3, t4, t5⟩ := tx
  cases hno : noPlace x at_ with
  | true =>
    have e1 : insE x at_ ⟨t0, t1, t2, t3, t4, t5⟩ = 110 := by unfold insE; rw [if_pos hno]
    have e2 : insC x at_ ⟨t0, t1, t2, t3, t4, t5⟩ seed now = x := by unfold insC; rw [e1, if_pos (by decide)]
    rw [e1, e2]
    exact (ins_no h ho.two ho.ten at_ t0 t1 t2 t3 t4 t5 seed now hno).mono fun e w' ⟨he, hb⟩ => ⟨he, (Tu.below h hb).tuD hcap⟩
  | false =>
    have e1 : insE x at_ ⟨t0, t1, t2, t3, t4, t5⟩ = newE ⟨t0, t1, t2, t3, t4, t5⟩ x.room := by unfold insE; rw [if_neg (by rw [hno]; decide)]
    by_cases hz : newE ⟨t0, t1, t2, t3, t4, t5⟩ x.room = 0
    · have hk : 0 ≤ at_ ∧ at_ ≤ (x.l.length : Int) - 2 := by simp [noPlace] at hno; omega
      obtain ⟨k, rfl⟩ : ∃ k : Nat, at_ = (k : Int) := ⟨at_.toNat, by omega⟩
      have h2 := ho.two
      have hx : x.l[k + 1]? = some x.l[k + 1] := List.getElem?_eq_getElem (by omega)
      have e2 : insC x (k : Int) ⟨t0, t1, t2, t3, t4, t5⟩ seed now = { x with l := x.l.take (k + 1) ++ (if (x.l[k + 1]'(by omega)).cl = true then endA now ⟨newS ⟨t0, t1, t2, t3, t4, t5⟩ seed x.room now, false⟩ else ⟨newS ⟨t0, t1, t2, t3, t4, t5⟩ seed x.room now, false⟩) :: x.l.drop (k + 1) } := by
        unfold insC
        rw [e1, hz, if_neg (by decide)]
        show (match x.l[k + 1]? with | some b => _ | none => x) = _
        rw [hx]
        rfl
      rw [e1, hz, e2]
      exact ins_ok h ho.two ho.ten hcap k t0 t1 t2 t3 t4 t5 seed now hno hz _ hx
    · have e2 : insC x at_ ⟨t0, t1, t2, t3, t4, t5⟩ seed now = x := by unfold insC; rw [e1, if_pos hz]
      rw [e1, e2]
      exact (ins_err h ho.two ho.ten at_ t0 t1 t2 t3 t4 t5 seed now hno hz).mono fun e w' ⟨he, hb⟩ => ⟨he, (Tu.below h hb).tuD hcap⟩
end Go.Proofs.YtnkgjnmhiedfoaaGreat.Chain
namespace Go.Proofs.YtnkgjnmhiedfoaaGreat.Chain
open Go.RowKit Mem Tick Cargo Toxic Stage
open Go.Proofs.YtnkgjnmhiedfoaaGreatW.PrintLast Pu
set_option maxRecDepth 100000
set_option linter.unusedVariables false
set_option linter.unusedSimpArgs false
variable {w w' w1 : World} {F H : Nat → Prop} {t : Pt} {a : Pa} {c : Nat} {D : Lay} {x : Ch}
theorem rem_end {w5 w6 : World} {y : Ch} (hT : Tu w F w5 c D y) {i n : Nat} (hn : y.l.length = n) (hi : i < n) (hcap : D.cap ≤ 9223372036854775807) (hr : RV w6 D.r D.cap ((D.ps.map fun q : Pt => ptr q.p).eraseIdx i)) (hd : Did (· = D.r) w5 w6) :
    TuD w F (w6.setCell ⟨c, 0, none⟩ (.slice (some ⟨D.r, 0, none⟩) (n - 1) D.cap)) c { y with l := y.l.eraseIdx i } := by
  subst hn
  obtain ⟨F5, hC, hD, hS⟩ := hT
  obtain ⟨F', hCf, hFF, hFc, hFr⟩ := hC.del hi hr hd
  exact ⟨_, F', hCf, hD.trans hS ((hd.more fun j hj => .inl (by subst hj; exact hFr)).setCell (p := ⟨c, 0, none⟩) (.inl hFc) _), fun j hj => hS j (hFF j hj), hcap⟩
theorem w_two (k : Nat) (h : k < 10) : wrap64 ((k : Int) + 2) = (k : Int) + 2 := by unfold wrap64; omega
theorem gone_w (a b c : Nat) (ha : a ≤ 1000000000) (hb : b ≤ 1000000000) (hc : c ≤ 1000000000) : wrap64 ((b : Int) - (c : Int)) = (b : Int) - c ∧ wrap64 ((a : Int) - ((b : Int) - (c : Int))) = (a : Int) - ((b : Int) - c) := by
  constructor <;> unfold wrap64 <;> omega
theorem lost_w (a b : Int) (h0 : 0 ≤ a) (h1 : 0 ≤ b) (h : a + b ≤ 1000000000) : wrap64 (a + b) = a + b := by unfold wrap64; omega
theorem force_held (s : Sg) (now : Int) (b : ByteArray) : held (forceP s now b) = held s ∨ held (forceP s now b) = held s + b.size := by
  have h := congrArg ByteArray.size (cat_force s now b)
  rw [← held_cat] at h
  rw [h]
  split
  · exact .inl (held_cat s).symm
  · exact .inr (by rw [ByteArray.size_append, ← held_cat])
theorem rem_mass {l : List Pa} {i : Nat} {p q : Pa} (hp : l[i]? = some p) (hq : l[i + 1]? = some q) (q1 : Pa) : heldL ((l.set i (drainA p)).set (i + 1) q1) + held p.s + held q.s = heldL l + held q1.s := by
  have h1 := heldL_set hp (drainA p)
  have h2 : (l.set i (drainA p))[i + 1]? = some q := by rw [List.getElem?_set_ne (by omega)]; exact hq
  have h3 := heldL_set h2 q1
  have h4 : held (drainA p).s = 0 := rfl
  omega
theorem row_one (D : Lay) : ∀ u ∈ D.ps.map (fun q : Pt => ptr q.p), u.oneCell' = true := fun u hu => by obtain ⟨q, _, rfl⟩ := List.mem_map.1 hu; rfl
theorem rem_no (h : CH w F c D x) (h2 : 2 ≤ x.l.length) (h10 : x.l.length ≤ 10) (at_ now : Int) (hno : isB x at_ = false) :
    Calls Tryz.prog 47 #[ptr c, .int .i64 at_, .int .i64 now] w fun e w' => e = .returned (.int .i64 110) ∧ Below w.heap.size w w' := by
  have hi := Lib.hid (is_any h h2 h10 at_)
  rw [hno] at hi
  clear h hno
  go_enter Tryz.func47, Tryz.ntmps47
  go_wp2_with fail
  refine hi.out.mono ?_
  rintro e w1 ⟨rfl, hB⟩
  have hB1 := Lib.hid hB
  clear hB hi
  go_wp2
  go_ret
  exact ⟨rfl, hB1.out⟩
set_option maxHeartbeats 2000000 in
theorem rem_ok (h : CH w F c D x) {M Q : Int} (ho : OkC x M Q) (hM : M ≤ 1000000000) (hcap : D.cap ≤ 9223372036854775807) (k : Nat) (now : Int) (hk : k + 2 < x.l.length) :
    Calls Tryz.prog 47 #[ptr c, .int .i64 (k : Int), .int .i64 now] w fun e w' => e = .returned (.int .i64 0) ∧ TuD w F w' c (remAt x (k + 1) now) := by
  have h2 := ho.two
  have h10 := ho.ten
  have hm := ho.held
  have hl0 := ho.lost0
  have hlm := ho.lost
  have hdc := h.cap
  have hisb : isB x (k : Int) = true := by simp [isB]; omega
  have hi := Lib.hid (is_any h h2 h10 (k : Int))
  rw [hisb] at hi
  have hx : x.l[k + 1]? = some x.l[k + 1] := List.getElem?_eq_getElem (by omega)
  have hy : x.l[k + 2]? = some x.l[k + 2] := List.getElem?_eq_getElem hk
  generalize x.l[k + 1] = p at *
  generalize x.l[k + 2] = q at *
  obtain ⟨t, ht⟩ := h.pt hx
  obtain ⟨u, hu⟩ := h.pt hy
  have hpb := held_le hx
  have hqb1 := held_le hy
  have hko := (mem_ok ho.ok hy).1
  have hcat := held_cat p.s
  obtain ⟨Q1, hQ1⟩ : ∃ Q1 : Pa, Q1 = ⟨forceP q.s now (cat p.s.c.1), q.cl⟩ := ⟨_, rfl⟩
  obtain ⟨L1, hL1⟩ : ∃ L1, L1 = (x.l.set (k + 1) (drainA p)).set (k + 2) Q1 := ⟨_, rfl⟩
  have hmass : heldL L1 + held p.s + held q.s = heldL x.l + held Q1.s := by rw [hL1]; exact rem_mass hx hy Q1
  have hq1 : held Q1.s = held q.s ∨ held Q1.s = held q.s + held p.s := by
    rw [hQ1]
    have := force_held q.s now (cat p.s.c.1)
    rw [← hcat] at this
    exact this
  have hpq : held p.s + held q.s ≤ 1000000000 := by
    have e1 := heldL_set hx (drainA p)
    have e2 : (x.l.set (k + 1) (drainA p))[k + 2]? = some q := by rw [List.getElem?_set_ne (by omega)]; exact hy
    have e3 := held_le e2
    have e4 : held (drainA p).s = 0 := rfl
    omega
  have hLl : L1.length = x.l.length := by rw [hL1]; simp
  have hLx : L1[k + 1]? = some (drainA p) := by rw [hL1, List.getElem?_set_ne (by omega), List.getElem?_set_self (by omega)]
  have hLy : L1[k + 2]? = some Q1 := by rw [hL1, List.getElem?_set_self (by rw [List.length_set]; omega)]
  have hx2 := Lib.hid (show (x.l.set (k + 1) (drainA p))[k + 1]? = some (drainA p) by rw [List.getElem?_set_self (by omega)])
  have hy2 := Lib.hid (show (x.l.set (k + 1) (drainA p))[k + 2]? = some q by rw [List.getElem?_set_ne (by omega)]; exact hy)
  have hw1 := Lib.hid (wr_at k (by omega))
  have hw2 := Lib.hid (w_two k (by omega))
  have hgw := Lib.hid (gone_w (held p.s) (held Q1.s) (held q.s) (by omega) (by omega) (by omega))
  have hqb := Lib.hid (show held q.s ≤ 1000000000 by omega)
  have hQb := Lib.hid (show held Q1.s ≤ 1000000000 by omega)
  have hpqb := Lib.hid (show held q.s + (cat p.s.c.1).size ≤ 1000000000 by rw [← hcat]; omega)
  have hLs := Lib.hid (show x.lost + ((held p.s : Int) - ((held Q1.s : Int) - (held q.s : Int))) + heldL L1 ≤ 1000000000 by omega)
  have hlw := Lib.hid (lost_w x.lost ((held p.s : Int) - ((held Q1.s : Int) - (held q.s : Int))) hl0 (by omega) (by omega))
  have hgn0 := Lib.hid (show 0 ≤ x.lost + ((held p.s : Int) - ((held Q1.s : Int) - (held q.s : Int))) by omega)
  have hrem : Hid (remAt x (k + 1) now = { x with
      l := ((if 0 < ((held p.s : Int) - ((held Q1.s : Int) - (held q.s : Int))) then loseL (k + 1) L1 else L1).set (k + 2) (if p.cl = true then endA now Q1 else Q1)).eraseIdx (k + 1)
      lost := if 0 < ((held p.s : Int) - ((held Q1.s : Int) - (held q.s : Int))) then x.lost + ((held p.s : Int) - ((held Q1.s : Int) - (held q.s : Int))) + heldL (L1.take (k + 1)) else x.lost
      shut := if 0 < ((held p.s : Int) - ((held Q1.s : Int) - (held q.s : Int))) then true else x.shut }) := Lib.hid (by
    unfold remAt
    rw [hx, show k + 1 + 1 = k + 2 from rfl, hy, hL1, hQ1])
  have hC1d := h
  clear hisb
  have hdr0 := fun (wy : World) (hb : Below w.heap.size w wy) => cs_drain (h.below hb).drew.drew ht hx (by omega)
  have hdr1 := Lib.hid hdr0
  have hh := Lib.hid h
  have hfo := Lib.hid (fun (wy : World) (Fy : Nat → Prop) (hC : CH wy Fy c D { x with l := x.l.set (k + 1) (drainA p) }) (A : Option Addr) (cap : Nat) (hb : BS wy A (cat p.s.c.1)) (hoff : BS.Off A Fy) => cs_force hC hu hy2.out hko now A cap (cat p.s.c.1) hb hoff hpqb.out)
  have hQc : (⟨forceP q.s now (cat p.s.c.1), q.cl⟩ : Pa) = Q1 := hQ1.symm
  have hLc : (x.l.set (k + 1) (drainA p)).set (k + 2) Q1 = L1 := hL1.symm
  have hQc' := Lib.hid hQc
  have hLc' := Lib.hid hLc
  have hLx' := Lib.hid hLx
  have hLy' := Lib.hid hLy
  have hLl' := Lib.hid hLl
  have ht' := Lib.hid ht
  have hu' := Lib.hid hu
  have hx' := Lib.hid hx
  have hy' := Lib.hid hy
  have hcat' := Lib.hid hcat
  have hnn := Lib.hid (show k + 1 < x.l.length ∧ k + 2 < x.l.length from ⟨by omega, by omega⟩)
  have h10' := Lib.hid (show x.l.length ≤ 10 ∧ k + 1 ≤ x.l.length ∧ k + 1 ≤ D.cap ∧ (k : Int) + 1 ≤ (D.cap : Int) ∧ k + 2 < x.l.length ∧ x.l.length ≤ D.cap from ⟨h10, by omega, by omega, by omega, hk, hdc⟩)
  have hlen0 := Lib.hid (rfl : x.l.length = x.l.length)
  clear h ho hm hl0 hlm hx hy ht hu hpb hqb1 hko hcat hL1 hQ1 hmass hq1 hpq hLl hLx hLy hdr0 hQc hLc hC1d h2 h10 hdc hk
  generalize hn : x.l.length = n at *
  go_enter Tryz.func47, Tryz.ntmps47
  go_wp2_with fail
  refine hi.out.mono ?_
  rintro e w1 ⟨rfl, hB⟩
  have hB1 := Lib.hid hB
  have hC1 := Lib.hid (hh.out.below hB)
  have hC1d := Lib.hid (hh.out.below hB).drew.drew
  have hdr := Lib.hid (hdr1.out w1 hB)
  clear hB hi hdr1 hh
  have c0 : w1.cell? ⟨c, 0, none⟩ = some (.slice (some ⟨D.r, 0, none⟩) n D.cap) := (hC1.out.blk.cell 0).trans (by simp [ccells, hn])
  have r1 := hC1.out.rcell ht'.out
  have r2 := hC1.out.rcell hu'.out
  have d1 := (hC1.out.pcell ht'.out hx'.out).1
  have d2 := hC1.out.scell ht'.out hx'.out
  have d3 := (hC1.out.pcell hu'.out hy'.out).1
  have hz15 := Lib.hid (show n ≤ 15 ∧ n ≤ D.cap from ⟨Nat.le_trans h10'.out.1 (by decide), h10'.out.2.2.2.2.2⟩)
  have hk1 := hnn.out.1
  have hk2 := hnn.out.2
  have g1 : (0 : Int) ≤ (k : Int) + 1 := by omega
  have g2 : (k : Int) + 1 < (n : Int) := by omega
  have g3 : (0 : Int) ≤ (k : Int) + 2 := by omega
  have g4 : (k : Int) + 2 < (n : Int) := by omega
  have g5 : ((k : Int) + 1).toNat = k + 1 := by omega
  have g6 : ((k : Int) + 2).toNat = k + 2 := by omega
  have hw1' := hw1.out
  have hw2' := hw2.out
  go_wp2
  refine start_ (n := 18) (S := fun w' => w'.cell? ⟨c, 0, none⟩ = some (.slice (some ⟨D.r, 0, none⟩) n D.cap) ∧ w'.cell? ⟨D.r, k + 1, none⟩ = some (ptr t.p) ∧ w'.cell? ⟨D.r, k + 2, none⟩ = some (ptr u.p)) (ds := []) (m_ 18 0) (by kernel_rfl) rfl (by kernel_rfl) ⟨c0, r1, r2⟩ (fun hHeld => ?_)
  refine pq_ 0 16 18 1 ?_
  refine pq_ 1 17 18 3 ?_
  refine pq_ 2 18 18 7 ?_
  refine pq_ 4 20 18 23 ?_
  refine pq_ 5 21 18 55 ?_
  refine pq_ 8 24 18 311 ?_
  refine pq_ 9 25 18 823 ?_
  refine pq_ 10 26 18 1847 ?_
  refine pq_ 12 28 18 5943 ?_
  refine pq_ 13 29 18 14135 ?_
  refine tq_ 3 19 18 14143 hHeld ?_
  refine pq_ 6 22 18 14207 ?_
  refine tq_ 7 23 18 14335 hHeld ?_
  refine pq_ 16 7 18 79871 ?_
  refine tq_ 11 27 18 81919 hHeld ?_
  refine pq_ 14 30 18 98303 ?_
  refine tq_ 15 31 18 131071 hHeld ?_
  refine pq_ 17 8 18 262143 ?_
  refine done_ (by kernel_rfl) ?_
  clear hHeld
  go_wp2
  refine start_ (n := 15) (S := fun w' => w'.cell? ⟨t.p, 0, none⟩ = some (ptr t.b) ∧ w'.cell? ⟨t.b, 0, none⟩ = some (ptr t.k) ∧ w'.cell? ⟨u.p, 0, none⟩ = some (ptr u.b)) (ds := []) (m_ 15 0) (by kernel_rfl) rfl (by kernel_rfl) ⟨d1, d2, d3⟩ (fun hHeld => ?_)
  refine pq_ 0 32 15 1 ?_
  refine pq_ 1 33 15 3 ?_
  refine pq_ 2 34 15 7 ?_
  refine pq_ 8 40 15 263 ?_
  refine pq_ 9 41 15 775 ?_
  refine pq_ 10 42 15 1799 ?_
  refine tq_ 3 35 15 1807 hHeld ?_
  refine pq_ 4 36 15 1823 ?_
  refine pq_ 5 37 15 1855 ?_
  refine tq_ 6 38 15 1919 hHeld ?_
  refine tq_ 11 43 15 3967 hHeld ?_
  refine one_ (i := 7) (N := some 39) (m_ 15 4095) rfl rfl (by kernel_rfl) (by decide) (fun K hK => ?_)
  refine goes_ Tryz.func68 (by kernel_rfl) rfl #[ptr t.k] (by rfl) rfl rfl (by simp only [List.map_toArray, List.map_cons, List.map_nil]; rfl) ?_
  with_reducible refine (hdr.out).mono ?_
  rintro e w2 ⟨A2, cp2, rfl, hb2, hn2, F2, hC2, hD2, hS2, hF2⟩
  have e1 := (hC2.pcell ht'.out hx2.out).1
  have e2 := hC2.scell ht'.out hx2.out
  have e3 := (hC2.pcell hu'.out hy2.out).1
  have hhe := Lib.hid (cs_held hC2 hu'.out hy2.out hqb.out)
  have hb2' := Lib.hid hb2
  have hT2 := Lib.hid (TuS.off hC1d.out ⟨F2, hC2, hD2, hS2, hF2⟩ hn2)
  clear hb2 hn2 hC2 hD2 hS2 hF2 hdr
  refine ⟨_, rfl, ?_⟩
  refine hK.out _ _ ⟨e1, e2, e3⟩ (fun hHeld => ?_)
  clear hK K
  refine norm_ (a' := ?_) ?_ ?_
  rotate_left
  · show Act.put _ (some 39) _ = _
    simp only [Act.put, List.setIfInBounds_toArray, List.set_cons_zero, List.set_cons_succ, i64_w, i32_w]
    rfl
  refine one_ (i := 12) (N := some 44) (m_ 15 8191) rfl rfl (by kernel_rfl) (by decide) (fun K hK => ?_)
  refine goes_ Tryz.func69 (by kernel_rfl) rfl #[ptr u.b] (by rfl) rfl rfl (by simp only [List.map_toArray, List.map_cons, List.map_nil]; rfl) ?_
  with_reducible refine (hhe.out).mono ?_
  rintro e w3 ⟨rfl, hB⟩
  have j1 := bcells hB e1
  have j2 := bcells hB e2
  have j3 := bcells hB e3
  have hB3 := Lib.hid hB
  clear hB hhe e1 e2 e3
  refine ⟨_, rfl, ?_⟩
  refine hK.out _ _ ⟨j1, j2, j3⟩ (fun hHeld => ?_)
  clear hK K
  refine norm_ (a' := ?_) ?_ ?_
  rotate_left
  · show Act.put _ (some 44) _ = _
    simp only [Act.put, List.setIfInBounds_toArray, List.set_cons_zero, List.set_cons_succ, i64_w, i32_w]
    rfl
  refine pq_ 13 9 15 16383 ?_
  refine pq_ 14 10 15 32767 ?_
  refine done_ (by kernel_rfl) ?_
  clear hHeld
  obtain ⟨F3, hC3, hD3, hS3, hO3⟩ := hT2.out
  have hf := Lib.hid (hfo.out _ _ (hC3.below hB3.out) A2 cp2 (hb2'.out.below hB3.out) hO3)
  have hDS3 := Lib.hid (And.intro ((Did.of_below hB1.out : Did F w w1).drew.drew.trans (Stem.refl _ _) (hD3.trans hS3 (Did.of_below hB3.out))) (show Stem F F3 w from fun j hj => (hS3 j hj).imp id fun e => Nat.le_trans hB1.out.size e))
  clear hC3 hD3 hS3 hO3 hT2 hfo hb2' hB3 hC1 hC1d hB1 c0 r1 r2 d1 d2 d3
  go_wp2_with fail
  refine hf.out.mono ?_
  rintro e w4 ⟨rfl, hT4⟩
  rw [hQc'.out] at hT4
  have hT4' : Hid (Tu w F w4 c D { x with l := L1 }) := Lib.hid (by rw [← hLc'.out]; exact Tu.next hDS3.out.1 hDS3.out.2 hT4)
  clear hT4 hf hDS3 j1 j2 j3
  obtain ⟨F4, hC4, hD4, hS4⟩ := hT4'.out
  have d3 := (hC4.pcell hu'.out hLy'.out).1
  have hhe := Lib.hid (cs_held hC4 hu'.out hLy'.out hQb.out)
  have hC4' := Lib.hid hC4
  have hDS4 := Lib.hid (And.intro hD4 hS4)
  clear hC4 hD4 hS4
  go_wp2_with fail
  refine hhe.out.mono ?_
  rintro e w5 ⟨rfl, hB⟩
  have hTC0 : Hid (∃ F', CH w5 F' c D { x with l := L1 } ∧ Did F w w5 ∧ Stem F F' w) := Lib.hid ⟨F4, hC4'.out.below hB, hDS4.out.1.trans hDS4.out.2 (Did.of_below hB), hDS4.out.2⟩
  clear hB hhe hC4' hDS4 d3 hT4'
  have hg1 := hgw.out.1
  have hg2 : wrap64 (((cat p.s.c.1).size : Int) - ((held Q1.s : Int) - (held q.s : Int))) = (held p.s : Int) - ((held Q1.s : Int) - (held q.s : Int)) := by rw [← hcat'.out]; exact hgw.out.2
  by_cases hg : 0 < ((held p.s : Int) - ((held Q1.s : Int) - (held q.s : Int)))
  · have tg : decide (0 < ((held p.s : Int) - ((held Q1.s : Int) - (held q.s : Int)))) = true := by simpa using hg
    have c0 : w5.cell? ⟨c, 0, none⟩ = some (.slice (some ⟨D.r, 0, none⟩) n D.cap) := (hTC0.out.choose_spec.1.blk.cell 0).trans (by simp [ccells, hLl'.out])
    have c2 : w5.cell? ⟨c, 2, none⟩ = some (.int .i64 x.lost) := (hTC0.out.choose_spec.1.blk.cell 2).trans rfl
    have f2 := hTC0.out.choose_spec.1.blk.free 2
    have hset := Lib.hid (Tu.set (show Tu w F w5 c D { x with l := L1 } from hTC0.out) 2 (.int .i64 (x.lost + ((held p.s : Int) - ((held Q1.s : Int) - (held q.s : Int))))) { x with l := L1, lost := x.lost + ((held p.s : Int) - ((held Q1.s : Int) - (held q.s : Int))) } rfl rfl)
    have hlo := Lib.hid (lose_any hset.out.choose_spec.1 (k + 1) (by rw [hLl'.out]; exact h10'.out.2.1) D.cap h10'.out.2.2.1 (by rw [hLl'.out]; exact h10'.out.1) hgn0.out hLs.out)
    have e0 := hset.out.choose_spec.1.blk.cell 0
    have e0' : (w5.setCell ⟨c, 2, none⟩ (.int .i64 (x.lost + ((held p.s : Int) - ((held Q1.s : Int) - (held q.s : Int)))))).cell? ⟨c, 0, none⟩ = some (.slice (some ⟨D.r, 0, none⟩) n D.cap) := e0.trans (by simp [ccells, hLl'.out])
    have hlw' := hlw.out
    have g7 := h10'.out.2.2.2.1
    have hrw : ((if 0 < ((held p.s : Int) - ((held Q1.s : Int) - (held q.s : Int))) then loseL (k + 1) L1 else L1)) = loseL (k + 1) L1 := if_pos hg
    have hrw2 : (if 0 < ((held p.s : Int) - ((held Q1.s : Int) - (held q.s : Int))) then x.lost + ((held p.s : Int) - ((held Q1.s : Int) - (held q.s : Int))) + heldL (L1.take (k + 1)) else x.lost) = x.lost + ((held p.s : Int) - ((held Q1.s : Int) - (held q.s : Int))) + heldL (L1.take (k + 1)) := if_pos hg
    have hrw3 : (if 0 < ((held p.s : Int) - ((held Q1.s : Int) - (held q.s : Int))) then true else x.shut) = true := if_pos hg
    rw [hrw, hrw2, hrw3] at hrem
    clear hTC0 e0 hrw hrw2 hrw3 hg
    generalize hG : ((held p.s : Int) - ((held Q1.s : Int) - (held q.s : Int))) = G at *
    go_wp2_with fail
    refine hlo.out.mono ?_
    rintro e w6 ⟨rfl, hT6⟩
    have hTC : Hid (∃ F', CH w6 F' c D (loseC (k + 1) { x with l := L1, lost := x.lost + G }) ∧ Did F w w6 ∧ Stem F F' w) := Lib.hid (Tu.next hset.out.choose_spec.2.1 hset.out.choose_spec.2.2 hT6)
    have hlq := Lib.hid (show (loseC (k + 1) { x with l := L1, lost := x.lost + G }).l.length = n from (loseL_length _ _).trans hLl'.out)
    have hYx : (loseC (k + 1) { x with l := L1, lost := x.lost + G }).l[k + 1]? = some (drainA p) := (lose_get (Nat.le_refl _)).trans hLx'.out
    have hYy : (loseC (k + 1) { x with l := L1, lost := x.lost + G }).l[k + 2]? = some Q1 := (lose_get (by omega)).trans hLy'.out
    have hYx' := Lib.hid hYx
    have hYy' := Lib.hid hYy
    clear hT6 hset hlo e0' c0 c2 f2 tg hYx hYy
    have p9 := (hTC.out.choose_spec.1.pcell ht'.out hYx'.out).2
    cases hcl : p.cl with
    | true =>
      rw [show (drainA p).cl = p.cl from rfl, hcl] at p9
      have hen := Lib.hid (cs_end hTC.out.choose_spec.1 hu'.out hYy'.out now)
      have hTq := Lib.hid hTC.out.choose_spec.2
      go_wp2_with fail
      refine hen.out.mono ?_
      rintro e w7 ⟨rfl, hT7⟩
      have hT := Lib.hid (Tu.next hTq.out.1 hTq.out.2 hT7)
      have hfin : Hid (∀ wz, TuD w F wz c { (loseC (k + 1) { x with l := L1, lost := x.lost + G }) with l := (((loseC (k + 1) { x with l := L1, lost := x.lost + G })).l.set (k + 2) (endA now Q1)).eraseIdx (k + 1) } → TuD w F wz c (remAt x (k + 1) now)) := Lib.hid (fun wz h => by rw [hrem.out]; rw [if_pos hcl]; exact h)
      clear hT7 hen hTq hTC p9
      obtain ⟨F9, hC9, hD9, hS9⟩ := hT.out
      have hln9 : ({ (loseC (k + 1) { x with l := L1, lost := x.lost + G }) with l := ((loseC (k + 1) { x with l := L1, lost := x.lost + G })).l.set (k + 2) (endA now Q1) }).l.length = n := (by rw [List.length_set]; exact hlq.out)
      have hcc9 : ccells D ({ (loseC (k + 1) { x with l := L1, lost := x.lost + G }) with l := ((loseC (k + 1) { x with l := L1, lost := x.lost + G })).l.set (k + 2) (endA now Q1) }) = #[.slice (some ⟨D.r, 0, none⟩) n D.cap, .int .i64 ({ (loseC (k + 1) { x with l := L1, lost := x.lost + G }) with l := ((loseC (k + 1) { x with l := L1, lost := x.lost + G })).l.set (k + 2) (endA now Q1) }).room, .int .i64 ({ (loseC (k + 1) { x with l := L1, lost := x.lost + G }) with l := ((loseC (k + 1) { x with l := L1, lost := x.lost + G })).l.set (k + 2) (endA now Q1) }).lost, .bool ({ (loseC (k + 1) { x with l := L1, lost := x.lost + G }) with l := ((loseC (k + 1) { x with l := L1, lost := x.lost + G })).l.set (k + 2) (endA now Q1) }).shut, .int .i64 ({ (loseC (k + 1) { x with l := L1, lost := x.lost + G }) with l := ((loseC (k + 1) { x with l := L1, lost := x.lost + G })).l.set (k + 2) (endA now Q1) }).state] := by unfold ccells; rw [hln9]
      have hb9 : Blk w7 c 106 #[.slice (some ⟨D.r, 0, none⟩) n D.cap, .int .i64 ({ (loseC (k + 1) { x with l := L1, lost := x.lost + G }) with l := ((loseC (k + 1) { x with l := L1, lost := x.lost + G })).l.set (k + 2) (endA now Q1) }).room, .int .i64 ({ (loseC (k + 1) { x with l := L1, lost := x.lost + G }) with l := ((loseC (k + 1) { x with l := L1, lost := x.lost + G })).l.set (k + 2) (endA now Q1) }).lost, .bool ({ (loseC (k + 1) { x with l := L1, lost := x.lost + G }) with l := ((loseC (k + 1) { x with l := L1, lost := x.lost + G })).l.set (k + 2) (endA now Q1) }).shut, .int .i64 ({ (loseC (k + 1) { x with l := L1, lost := x.lost + G }) with l := ((loseC (k + 1) { x with l := L1, lost := x.lost + G })).l.set (k + 2) (endA now Q1) }).state] := by rw [← hcc9]; exact hC9.blk
      have c9 : w7.cell? ⟨c, 0, none⟩ = some (.slice (some ⟨D.r, 0, none⟩) n D.cap) := (hb9.cell 0).trans rfl
      have hcr : D.r ≠ c := by obtain ⟨_, hq⟩ := hC9; obtain ⟨_, hb, _⟩ := hq.row; exact hb.ne hq.blk (by decide)
      have hz := hz15.out
      have hdel : Hid (Calls Tryz.prog 72 #[.slice (some ⟨D.r, 0, none⟩) n D.cap, .int .i64 ((k : Int) + 1), .int .i64 ((k : Int) + 2)] w7 fun e w' =>
            e = .returned (.slice (some ⟨D.r, 0, none⟩) (n - 1) D.cap) ∧ RV w' D.r D.cap ((D.ps.map fun q : Pt => ptr q.p).eraseIdx (k + 1)) ∧ Did (· = D.r) w7 w') :=
        Lib.hid (by
          have := delete_any w7 D.r n D.cap (k + 1) (D.ps.map fun q : Pt => ptr q.p) (row_one D) (by rw [List.length_map]; exact hC9.len.trans hln9) hk2 hz.1 hz.2 hcap hC9.rv
          rw [show ((k + 1 : Nat) : Int) + 1 = (k : Int) + 2 by omega, show ((k + 1 : Nat) : Int) = (k : Int) + 1 by omega] at this
          exact this)
      have hb9' := Lib.hid hb9
      have hcr' := Lib.hid hcr
      clear hz hC9 hD9 hS9 hln9 hcc9 hb9 hcr
      go_wp2_with fail
      refine hdel.out.mono ?_
      rintro e w8 ⟨rfl, hRV, hD8⟩
      have hb8 := hb9'.out.did hD8 (fun e => hcr'.out e.symm)
      have c8 : w8.cell? ⟨c, 0, none⟩ = some (.slice (some ⟨D.r, 0, none⟩) n D.cap) := (hb8.cell 0).trans rfl
      have f8 := hb8.free 0
      have hres := Lib.hid (rem_end hT.out (y := { (loseC (k + 1) { x with l := L1, lost := x.lost + G }) with l := ((loseC (k + 1) { x with l := L1, lost := x.lost + G })).l.set (k + 2) (endA now Q1) }) (i := k + 1) (n := n) (by rw [List.length_set]; exact hlq.out) hk1 hcap hRV hD8)
      clear hdel hb9' hcr' hRV hD8 hb8 c9
      go_wp2
      go_ret
      exact ⟨rfl, hfin.out _ hres.out⟩
    | false =>
      rw [show (drainA p).cl = p.cl from rfl, hcl] at p9
      have hT := hTC
      have hfin : Hid (∀ wz, TuD w F wz c { (loseC (k + 1) { x with l := L1, lost := x.lost + G }) with l := ((loseC (k + 1) { x with l := L1, lost := x.lost + G })).l.eraseIdx (k + 1) } → TuD w F wz c (remAt x (k + 1) now)) := Lib.hid (fun wz h => by rw [hrem.out]; rw [if_neg (by rw [hcl]; decide), set_self (show (loseL (k + 1) L1)[k + 2]? = some Q1 from hYy'.out)]; exact h)
      obtain ⟨F9, hC9, hD9, hS9⟩ := hT.out
      have hln9 : ((loseC (k + 1) { x with l := L1, lost := x.lost + G })).l.length = n := hlq.out
      have hcc9 : ccells D ((loseC (k + 1) { x with l := L1, lost := x.lost + G })) = #[.slice (some ⟨D.r, 0, none⟩) n D.cap, .int .i64 ((loseC (k + 1) { x with l := L1, lost := x.lost + G })).room, .int .i64 ((loseC (k + 1) { x with l := L1, lost := x.lost + G })).lost, .bool ((loseC (k + 1) { x with l := L1, lost := x.lost + G })).shut, .int .i64 ((loseC (k + 1) { x with l := L1, lost := x.lost + G })).state] := by unfold ccells; rw [hln9]
      have hb9 : Blk w6 c 106 #[.slice (some ⟨D.r, 0, none⟩) n D.cap, .int .i64 ((loseC (k + 1) { x with l := L1, lost := x.lost + G })).room, .int .i64 ((loseC (k + 1) { x with l := L1, lost := x.lost + G })).lost, .bool ((loseC (k + 1) { x with l := L1, lost := x.lost + G })).shut, .int .i64 ((loseC (k + 1) { x with l := L1, lost := x.lost + G })).state] := by rw [← hcc9]; exact hC9.blk
      have c9 : w6.cell? ⟨c, 0, none⟩ = some (.slice (some ⟨D.r, 0, none⟩) n D.cap) := (hb9.cell 0).trans rfl
      have hcr : D.r ≠ c := by obtain ⟨_, hq⟩ := hC9; obtain ⟨_, hb, _⟩ := hq.row; exact hb.ne hq.blk (by decide)
      have hz := hz15.out
      have hdel : Hid (Calls Tryz.prog 72 #[.slice (some ⟨D.r, 0, none⟩) n D.cap, .int .i64 ((k : Int) + 1), .int .i64 ((k : Int) + 2)] w6 fun e w' =>
            e = .returned (.slice (some ⟨D.r, 0, none⟩) (n - 1) D.cap) ∧ RV w' D.r D.cap ((D.ps.map fun q : Pt => ptr q.p).eraseIdx (k + 1)) ∧ Did (· = D.r) w6 w') :=
        Lib.hid (by
          have := delete_any w6 D.r n D.cap (k + 1) (D.ps.map fun q : Pt => ptr q.p) (row_one D) (by rw [List.length_map]; exact hC9.len.trans hln9) hk2 hz.1 hz.2 hcap hC9.rv
          rw [show ((k + 1 : Nat) : Int) + 1 = (k : Int) + 2 by omega, show ((k + 1 : Nat) : Int) = (k : Int) + 1 by omega] at this
          exact this)
      have hb9' := Lib.hid hb9
      have hcr' := Lib.hid hcr
      clear hz hC9 hD9 hS9 hln9 hcc9 hb9 hcr
      go_wp2_with fail
      refine hdel.out.mono ?_
      rintro e w8 ⟨rfl, hRV, hD8⟩
      have hb8 := hb9'.out.did hD8 (fun e => hcr'.out e.symm)
      have c8 : w8.cell? ⟨c, 0, none⟩ = some (.slice (some ⟨D.r, 0, none⟩) n D.cap) := (hb8.cell 0).trans rfl
      have f8 := hb8.free 0
      have hres := Lib.hid (rem_end hT.out (y := (loseC (k + 1) { x with l := L1, lost := x.lost + G })) (i := k + 1) (n := n) hlq.out hk1 hcap hRV hD8)
      clear hdel hb9' hcr' hRV hD8 hb8 c9
      go_wp2
      go_ret
      exact ⟨rfl, hfin.out _ hres.out⟩
  · have tg : decide (0 < ((held p.s : Int) - ((held Q1.s : Int) - (held q.s : Int)))) = false := by simpa using hg
    have hrw : ((if 0 < ((held p.s : Int) - ((held Q1.s : Int) - (held q.s : Int))) then loseL (k + 1) L1 else L1)) = L1 := if_neg hg
    have hrw2 : (if 0 < ((held p.s : Int) - ((held Q1.s : Int) - (held q.s : Int))) then x.lost + ((held p.s : Int) - ((held Q1.s : Int) - (held q.s : Int))) + heldL (L1.take (k + 1)) else x.lost) = x.lost := if_neg hg
    have hrw3 : (if 0 < ((held p.s : Int) - ((held Q1.s : Int) - (held q.s : Int))) then true else x.shut) = x.shut := if_neg hg
    rw [hrw, hrw2, hrw3] at hrem
    have hTC := hTC0
    have hlq := Lib.hid (show ({ x with l := L1 } : Ch).l.length = n from hLl'.out)
    clear hTC0 hrw hrw2 hrw3 hg
    generalize hG : ((held p.s : Int) - ((held Q1.s : Int) - (held q.s : Int))) = G at *
    have p9 := (hTC.out.choose_spec.1.pcell ht'.out hLx'.out).2
    cases hcl : p.cl with
    | true =>
      rw [show (drainA p).cl = p.cl from rfl, hcl] at p9
      have hen := Lib.hid (cs_end hTC.out.choose_spec.1 hu'.out hLy'.out now)
      have hTq := Lib.hid hTC.out.choose_spec.2
      go_wp2_with fail
      refine hen.out.mono ?_
      rintro e w7 ⟨rfl, hT7⟩
      have hT := Lib.hid (Tu.next hTq.out.1 hTq.out.2 hT7)
      have hfin : Hid (∀ wz, TuD w F wz c { ({ x with l := L1 } : Ch) with l := ((({ x with l := L1 } : Ch)).l.set (k + 2) (endA now Q1)).eraseIdx (k + 1) } → TuD w F wz c (remAt x (k + 1) now)) := Lib.hid (fun wz h => by rw [hrem.out]; rw [if_pos hcl]; exact h)
      clear hT7 hen hTq hTC p9
      obtain ⟨F9, hC9, hD9, hS9⟩ := hT.out
      have hln9 : ({ ({ x with l := L1 } : Ch) with l := (({ x with l := L1 } : Ch)).l.set (k + 2) (endA now Q1) }).l.length = n := (by rw [List.length_set]; exact hlq.out)
      have hcc9 : ccells D ({ ({ x with l := L1 } : Ch) with l := (({ x with l := L1 } : Ch)).l.set (k + 2) (endA now Q1) }) = #[.slice (some ⟨D.r, 0, none⟩) n D.cap, .int .i64 ({ ({ x with l := L1 } : Ch) with l := (({ x with l := L1 } : Ch)).l.set (k + 2) (endA now Q1) }).room, .int .i64 ({ ({ x with l := L1 } : Ch) with l := (({ x with l := L1 } : Ch)).l.set (k + 2) (endA now Q1) }).lost, .bool ({ ({ x with l := L1 } : Ch) with l := (({ x with l := L1 } : Ch)).l.set (k + 2) (endA now Q1) }).shut, .int .i64 ({ ({ x with l := L1 } : Ch) with l := (({ x with l := L1 } : Ch)).l.set (k + 2) (endA now Q1) }).state] := by unfold ccells; rw [hln9]
      have hb9 : Blk w7 c 106 #[.slice (some ⟨D.r, 0, none⟩) n D.cap, .int .i64 ({ ({ x with l := L1 } : Ch) with l := (({ x with l := L1 } : Ch)).l.set (k + 2) (endA now Q1) }).room, .int .i64 ({ ({ x with l := L1 } : Ch) with l := (({ x with l := L1 } : Ch)).l.set (k + 2) (endA now Q1) }).lost, .bool ({ ({ x with l := L1 } : Ch) with l := (({ x with l := L1 } : Ch)).l.set (k + 2) (endA now Q1) }).shut, .int .i64 ({ ({ x with l := L1 } : Ch) with l := (({ x with l := L1 } : Ch)).l.set (k + 2) (endA now Q1) }).state] := by rw [← hcc9]; exact hC9.blk
      have c9 : w7.cell? ⟨c, 0, none⟩ = some (.slice (some ⟨D.r, 0, none⟩) n D.cap) := (hb9.cell 0).trans rfl
      have hcr : D.r ≠ c := by obtain ⟨_, hq⟩ := hC9; obtain ⟨_, hb, _⟩ := hq.row; exact hb.ne hq.blk (by decide)
      have hz := hz15.out
      have hdel : Hid (Calls Tryz.prog 72 #[.slice (some ⟨D.r, 0, none⟩) n D.cap, .int .i64 ((k : Int) + 1), .int .i64 ((k : Int) + 2)] w7 fun e w' =>
            e = .returned (.slice (some ⟨D.r, 0, none⟩) (n - 1) D.cap) ∧ RV w' D.r D.cap ((D.ps.map fun q : Pt => ptr q.p).eraseIdx (k + 1)) ∧ Did (· = D.r) w7 w') :=
        Lib.hid (by
          have := delete_any w7 D.r n D.cap (k + 1) (D.ps.map fun q : Pt => ptr q.p) (row_one D) (by rw [List.length_map]; exact hC9.len.trans hln9) hk2 hz.1 hz.2 hcap hC9.rv
          rw [show ((k + 1 : Nat) : Int) + 1 = (k : Int) + 2 by omega, show ((k + 1 : Nat) : Int) = (k : Int) + 1 by omega] at this
          exact this)
      have hb9' := Lib.hid hb9
      have hcr' := Lib.hid hcr
      clear hz hC9 hD9 hS9 hln9 hcc9 hb9 hcr
      go_wp2_with fail
      refine hdel.out.mono ?_
      rintro e w8 ⟨rfl, hRV, hD8⟩
      have hb8 := hb9'.out.did hD8 (fun e => hcr'.out e.symm)
      have c8 : w8.cell? ⟨c, 0, none⟩ = some (.slice (some ⟨D.r, 0, none⟩) n D.cap) := (hb8.cell 0).trans rfl
      have f8 := hb8.free 0
      have hres := Lib.hid (rem_end hT.out (y := { ({ x with l := L1 } : Ch) with l := (({ x with l := L1 } : Ch)).l.set (k + 2) (endA now Q1) }) (i := k + 1) (n := n) (by rw [List.length_set]; exact hlq.out) hk1 hcap hRV hD8)
      clear hdel hb9' hcr' hRV hD8 hb8 c9
      go_wp2
      go_ret
      exact ⟨rfl, hfin.out _ hres.out⟩
    | false =>
      rw [show (drainA p).cl = p.cl from rfl, hcl] at p9
      have hT := hTC
      have hfin : Hid (∀ wz, TuD w F wz c { ({ x with l := L1 } : Ch) with l := (({ x with l := L1 } : Ch)).l.eraseIdx (k + 1) } → TuD w F wz c (remAt x (k + 1) now)) := Lib.hid (fun wz h => by rw [hrem.out]; rw [if_neg (by rw [hcl]; decide), set_self hLy'.out]; exact h)
      obtain ⟨F9, hC9, hD9, hS9⟩ := hT.out
      have hln9 : (({ x with l := L1 } : Ch)).l.length = n := hlq.out
      have hcc9 : ccells D (({ x with l := L1 } : Ch)) = #[.slice (some ⟨D.r, 0, none⟩) n D.cap, .int .i64 (({ x with l := L1 } : Ch)).room, .int .i64 (({ x with l := L1 } : Ch)).lost, .bool (({ x with l := L1 } : Ch)).shut, .int .i64 (({ x with l := L1 } : Ch)).state] := by unfold ccells; rw [hln9]
      have hb9 : Blk w5 c 106 #[.slice (some ⟨D.r, 0, none⟩) n D.cap, .int .i64 (({ x with l := L1 } : Ch)).room, .int .i64 (({ x with l := L1 } : Ch)).lost, .bool (({ x with l := L1 } : Ch)).shut, .int .i64 (({ x with l := L1 } : Ch)).state] := by rw [← hcc9]; exact hC9.blk
      have c9 : w5.cell? ⟨c, 0, none⟩ = some (.slice (some ⟨D.r, 0, none⟩) n D.cap) := (hb9.cell 0).trans rfl
      have hcr : D.r ≠ c := by obtain ⟨_, hq⟩ := hC9; obtain ⟨_, hb, _⟩ := hq.row; exact hb.ne hq.blk (by decide)
      have hz := hz15.out
      have hdel : Hid (Calls Tryz.prog 72 #[.slice (some ⟨D.r, 0, none⟩) n D.cap, .int .i64 ((k : Int) + 1), .int .i64 ((k : Int) + 2)] w5 fun e w' =>
            e = .returned (.slice (some ⟨D.r, 0, none⟩) (n - 1) D.cap) ∧ RV w' D.r D.cap ((D.ps.map fun q : Pt => ptr q.p).eraseIdx (k + 1)) ∧ Did (· = D.r) w5 w') :=
        Lib.hid (by
          have := delete_any w5 D.r n D.cap (k + 1) (D.ps.map fun q : Pt => ptr q.p) (row_one D) (by rw [List.length_map]; exact hC9.len.trans hln9) hk2 hz.1 hz.2 hcap hC9.rv
          rw [show ((k + 1 : Nat) : Int) + 1 = (k : Int) + 2 by omega, show ((k + 1 : Nat) : Int) = (k : Int) + 1 by omega] at this
          exact this)
      have hb9' := Lib.hid hb9
      have hcr' := Lib.hid hcr
      clear hz hC9 hD9 hS9 hln9 hcc9 hb9 hcr
      go_wp2_with fail
      refine hdel.out.mono ?_
      rintro e w8 ⟨rfl, hRV, hD8⟩
      have hb8 := hb9'.out.did hD8 (fun e => hcr'.out e.symm)
      have c8 : w8.cell? ⟨c, 0, none⟩ = some (.slice (some ⟨D.r, 0, none⟩) n D.cap) := (hb8.cell 0).trans rfl
      have f8 := hb8.free 0
      have hres := Lib.hid (rem_end hT.out (y := ({ x with l := L1 } : Ch)) (i := k + 1) (n := n) hlq.out hk1 hcap hRV hD8)
      clear hdel hb9' hcr' hRV hD8 hb8 c9
      go_wp2
      go_ret
      exact ⟨rfl, hfin.out _ hres.out⟩
theorem cRemove_any (h : CH w F c D x) {M Q : Int} (ho : OkC x M Q) (hM : M ≤ 1000000000) (hcap : D.cap ≤ 9223372036854775807) (at_ now : Int) :
    Calls Tryz.prog 47 #[ptr c, .int .i64 at_, .int .i64 now] w fun e w' => e = .returned (.int .i64 (remE x at_)) ∧ TuD w F w' c (remC x at_ now) := by
  unfold remE remC
  cases hb : isB x at_ with
  | false =>
    rw [if_neg (by decide), if_neg (by decide)]
    exact (rem_no h ho.two ho.ten at_ now hb).mono fun e w' ⟨he, hB⟩ => ⟨he, (Tu.below h hB).tuD hcap⟩
  | true =>
    rw [if_pos rfl, if_pos rfl]
    have hb' : 0 ≤ at_ ∧ at_ < (x.l.length : Int) - 2 := by simpa [isB] using hb
    obtain ⟨k, rfl⟩ : ∃ k : Nat, at_ = (k : Int) := ⟨at_.toNat, by omega⟩
    exact rem_ok h ho hM hcap k now (by omega)
end Go.Proofs.YtnkgjnmhiedfoaaGreat.Chain
namespace Go.Proofs.YtnkgjnmhiedfoaaGreat.Chain
open Go.RowKit Mem Tick Cargo Toxic Stage
set_option maxRecDepth 100000
set_option linter.unusedVariables false
set_option linter.unusedSimpArgs false
structure Op where
  kind : Int
  now : Int
  n : Int
  s : ByteArray
  t : Tox
  seed : Int
variable {w w' : World} {F : Nat → Prop} {c : Nat} {D : Lay} {x : Ch}
abbrev Ans := Int × ByteArray × Int
def doesA (x : Ch) (o : Op) : Ans :=
  if o.kind = 0 then (putCN x o.now o.s, ⟨#[]⟩, 0) else if o.kind = 1 then (0, ⟨#[]⟩, 0) else if o.kind = 2 then (0, ⟨#[]⟩, 0) else if o.kind = 3 then ((stepC o.now x).state, ⟨#[]⟩, 0)
  else if o.kind = 4 then (0, takeCB x o.now o.n, 0) else if o.kind = 5 then (0, ⟨#[]⟩, insE x o.n o.t) else if o.kind = 6 then (0, ⟨#[]⟩, remE x o.n) else if o.kind = 7 then (0, ⟨#[]⟩, updCE x o.n o.t) else (0, ⟨#[]⟩, 0)
def doesC (x : Ch) (o : Op) : Ch :=
  if o.kind = 0 then putC x o.now o.s else if o.kind = 1 then closeC x o.now else if o.kind = 2 then breakC x else if o.kind = 3 then stepC o.now x
  else if o.kind = 4 then takeC x o.now o.n else if o.kind = 5 then insC x o.n o.t o.seed o.now else if o.kind = 6 then remC x o.n o.now else if o.kind = 7 then updC x o.n o.t o.now else x
end Go.Proofs.YtnkgjnmhiedfoaaGreat.Chain
namespace Go.Proofs.YtnkgjnmhiedfoaaGreat.Chain
open Go.RowKit Mem Tick Cargo Toxic Stage
set_option maxRecDepth 100000
set_option linter.unusedVariables false
set_option linter.unusedSimpArgs false
variable {w w' w1 : World} {F H : Nat → Prop} {t : Pt} {a : Pa} {c : Nat} {D : Lay} {x : Ch}
theorem toxic_any {b k : Nat} {s : Sg} (h : SG w F b k s) :
    Calls Tryz.prog 99 #[ptr b] w fun e w' => e = .returned s.t.v ∧ Below w.heap.size w w' := by
  have c1 : w.cell? ⟨b, 1, none⟩ = some (.string s.t.name) := (h.blk.cell 1).trans rfl
  have c2 : w.cell? ⟨b, 2, none⟩ = some (.int .i64 s.t.kind) := (h.blk.cell 2).trans rfl
  have c3 : w.cell? ⟨b, 3, none⟩ = some (.bool s.t.up) := (h.blk.cell 3).trans rfl
  have c4 : w.cell? ⟨b, 4, none⟩ = some (.int .i64 s.t.often) := (h.blk.cell 4).trans rfl
  have c5 : w.cell? ⟨b, 5, none⟩ = some (.int .i64 s.t.a) := (h.blk.cell 5).trans rfl
  have c6 : w.cell? ⟨b, 6, none⟩ = some (.int .i64 s.t.b) := (h.blk.cell 6).trans rfl
  have hl : b < w.heap.size := h.lt h.mine
  have hne : b ≠ w.heap.size := by omega
  clear h
  go_enter Tryz.func99, Tryz.ntmps99
  go_wp2
  exact bodyPost_ret (v := s.t.v) (results_cell_row Tryz.results99 _ _ w.heap.size 27 _ (0, 0) _ rfl (Blk.new w 27 #[.string s.t.name, .int .i64 s.t.kind, .bool s.t.up, .int .i64 s.t.often, .int .i64 s.t.a, .int .i64 s.t.b]) Tryz.underlying27 rfl (by kernel_rfl)) rfl ⟨rfl, (Below.refl w.heap.size w).alloc (Nat.le_refl _) _⟩
theorem cs_toxic (h : CH w F c D x) {i : Nat} (ht : D.ps[i]? = some t) (hi : x.l[i]? = some a) :
    Calls Tryz.prog 99 #[ptr t.b] w fun e w' => e = .returned a.s.t.v ∧ Below w.heap.size w w' := by
  obtain ⟨G, hs, _, _⟩ := h.stage ht hi
  exact toxic_any hs
def toxs (x : Ch) : List Tox := ((x.l.drop 1).take (x.l.length - 2)).map fun a => a.s.t
def tcells (l : List Tox) : List Value := l.flatMap fun t => t.cells.toList
theorem tcells_snoc (l : List Tox) (t : Tox) : tcells (l ++ [t]) = tcells l ++ t.cells.toList := by unfold tcells; rw [List.flatMap_append]; simp
theorem tcells_get (l : List Tox) (j i : Nat) (t : Tox) (h : l[j]? = some t) (hi : i < 6) : (tcells l)[j * 6 + i]? = t.cells[i]? := by
  induction l generalizing j with
  | nil => simp at h
  | cons u r ih =>
    have e : tcells (u :: r) = u.cells.toList ++ tcells r := by unfold tcells; rw [List.flatMap_cons]
    rw [e]
    have hu : u.cells.toList.length = 6 := rfl
    cases j with
    | zero =>
      injection h with h
      subst h
      rw [List.getElem?_append_left (by omega), Array.getElem?_toList]
      simp
    | succ j =>
      rw [List.getElem?_append_right (by omega), hu, show (j + 1) * 6 + i - 6 = j * 6 + i by omega]
      exact ih j h
def TR (w : World) (A : Option Addr) (l : List Tox) : Prop := l ≠ [] → ∃ g, A = some ⟨g, 0, none⟩ ∧ (∃ cs fr, w.heap[g]? = some (.cells cs 27 fr)) ∧ ∀ j u, (tcells l)[j]? = some u → w.cell? ⟨g, j, none⟩ = some u
theorem info_tox : (Tryz.prog.info? 27).map (fun i => (i.zero, i.size, i.bytes)) = some (some (.agg #[.string ⟨#[]⟩, .int .i64 0, .bool false, .int .i64 0, .int .i64 0, .int .i64 0]), 6, 56) := by kernel_rfl
theorem toxs_length (x : Ch) (h2 : 2 ≤ x.l.length) : (toxs x).length = x.l.length - 2 := by unfold toxs; rw [List.length_map, List.length_take, List.length_drop]; omega
theorem toxs_get {x : Ch} {k : Nat} {a : Pa} (h : x.l[k + 1]? = some a) (hk : k + 2 < x.l.length) : (toxs x)[k]? = some a.s.t := by
  unfold toxs
  rw [List.getElem?_map, List.getElem?_take, if_pos (by omega), List.getElem?_drop, show 1 + k = k + 1 by omega, h]
  rfl
theorem tox_one (t : Tox) : ∀ u ∈ t.cells.toList, u.oneCell' = true := by
  intro u hu
  simp [Tox.cells] at hu
  rcases hu with rfl | rfl | rfl | rfl | rfl | rfl <;> rfl
theorem tr_of_owns {w : World} {base : Nat} {v : Value} {l : List Tox} (h : w.ownsRow base 27 6 v l.length (tcells l)) : ∃ A cap, v = .slice A l.length cap ∧ TR w A l ∧ ∀ g o, A = some ⟨g, o, none⟩ → base ≤ g := by
  rcases h.2 with ⟨rfl, h0⟩ | ⟨g, cap, cur, rfl, hg, hh, hnc, hcap, hsz, htake⟩
  · refine ⟨none, 0, by rw [h0], fun hne => absurd (List.length_eq_zero_iff.1 h0) hne, fun g o e => by cases e⟩
  · refine ⟨_, cap, rfl, fun hne => ⟨g, rfl, ⟨_, _, hh⟩, fun j u hu => ?_⟩, fun g' o e => by injection e with e; injection e with e; omega⟩
    rw [← htake, List.getElem?_take] at hu
    split at hu
    · rw [Array.getElem?_toList] at hu
      simp only [World.cell?, hh]
      exact hu
    · cases hu
theorem owns_below {w w' : World} {base : Nat} {e : TypeId} {size : Nat} {v : Value} {n : Nat} {xs : List Value} (h : w.ownsRow base e size v n xs) (hb : Below w.heap.size w w') : w'.ownsRow base e size v n xs := by
  refine ⟨h.1, ?_⟩
  rcases h.2 with h0 | ⟨g, cap, cur, hv, hg, hh, rest⟩
  · exact .inl h0
  · exact .inr ⟨g, cap, cur, hv, hg, (hb.block g (Array.getElem?_eq_some_iff.1 hh).1).trans hh, rest⟩
theorem cells_one6 (w : World) (t0 : ByteArray) (t1 : Int) (t2 : Bool) (t3 t4 t5 : Int) : ∀ j u, (Tox.cells ⟨t0, t1, t2, t3, t4, t5⟩).toList[j]? = some u → (w.alloc (.cells #[.string t0, .int .i64 t1, .bool t2, .int .i64 t3, .int .i64 t4, .int .i64 t5] 27)).cell? ((⟨w.heap.size, 0, none⟩ : Addr).add j) = some u := by
  intro j u hu
  have e : ((⟨w.heap.size, 0, none⟩ : Addr).add j) = ⟨w.heap.size, j, none⟩ := by unfold Addr.add; split <;> simp_all
  rw [e]
  refine ((Blk.new w 27 #[.string t0, .int .i64 t1, .bool t2, .int .i64 t3, .int .i64 t4, .int .i64 t5]).cell j).trans ?_
  rw [← Array.getElem?_toList]
  exact hu
theorem cToxics_any (h : CH w F c D x) (h2 : 2 ≤ x.l.length) (h10 : x.l.length ≤ 10) :
    Calls Tryz.prog 74 #[ptr c] w fun e w' => ∃ A cap, e = .returned (.slice A (x.l.length - 2) cap) ∧ TR w' A (toxs x) ∧ (∀ g o, A = some ⟨g, o, none⟩ → w.heap.size ≤ g) ∧ Below w.heap.size w w' := by
  have hin := Lib.hid (inner_any h h2 h10)
  have hcap := h.cap
  have hh := Lib.hid h
  have htl := toxs_length x h2
  obtain ⟨i0, hi1, hz0, hz1, hz2⟩ := info_parts info_tox
  clear h
  go_enter Tryz.func74, Tryz.ntmps74
  go_wp2_with fail
  refine hin.out.mono ?_
  rintro e w1 ⟨rfl, hB1⟩
  have hB1' := Lib.hid hB1
  clear hB1 hin
  go_wp2
  go_loopw [3, 9] (fun av iv wr => ∃ k : Nat, k ≤ x.l.length - 2 ∧ iv = .int .i64 k ∧ wr.ownsRow w.heap.size 27 6 av ((toxs x).take k).length (tcells ((toxs x).take k)) ∧ Below w.heap.size w wr) (fun _ iv _ => (x.l.length - 2) - (intOf iv).toNat)
  case atStart => exact ⟨0, by omega, rfl, World.ownsRow_nil _ _ _ _, hB1'.out⟩
  case round =>
    obtain ⟨k, hk, rfl, hO, hB⟩ := hrel
    clear hB1'
    by_cases hlt : k < x.l.length - 2
    · have hx : x.l[k + 1]? = some x.l[k + 1] := List.getElem?_eq_getElem (by omega)
      generalize x.l[k + 1] = p at *
      have htx := toxs_get hx (by omega)
      have hC := hh.out.below hB
      obtain ⟨t, ht⟩ := hC.pt hx
      have d0 := hC.rcell ht
      rw [show k + 1 = 1 + k by omega] at d0
      have d1 := (hC.pcell ht hx).1
      have htk : (toxs x).take (k + 1) = (toxs x).take k ++ [p.s.t] := by rw [List.take_add_one, htx]; rfl
      have htk' := Lib.hid htk
      have hT := Lib.hid (cs_toxic hC ht hx)
      have hlen : ((toxs x).take k).length = k := by rw [List.length_take, htl]; omega
      rw [hlen] at hO
      have hOB := Lib.hid (And.intro hO hB)
      clear htx hC ht hx htk hO hB
      generalize hn : x.l.length - 2 = n at *
      go_wp2_with fail
      refine hT.out.mono ?_
      rintro e w2 ⟨rfl, hB2⟩
      have hO2 := hOB.out.1
      have hB3 := Lib.hid (hOB.out.2.trans (hB2.mono hOB.out.2.size))
      have hO3 := owns_below hO2 hB2
      have hsz := hB3.out.size
      have hlast : ∀ (v' : Value) (w3 : World), w3.ownsRow w.heap.size 27 6 v' (k + 1) (tcells ((toxs x).take k) ++ p.s.t.cells.toList) → w3.ownsRow w.heap.size 27 6 v' ((toxs x).take (k + 1)).length (tcells ((toxs x).take (k + 1))) := fun v' w3 hw => by
        rw [htk'.out, tcells_snoc, List.length_append, hlen]; exact hw
      have hlast' := Lib.hid hlast
      clear hO2 hB2 hOB hT d0 d1 hlast hlen
      generalize p.s.t = tt at *
      obtain ⟨t0, t1, t2, t3, t4, t5⟩ := tt
      go_wp2_with (at_builtin; refine wpList_append_own _ rfl _ _ 22 rfl w.heap.size 27 i0 _ 6 56 Tryz.underlying22 hi1 hz0 hz1 hz2 rfl (by decide) _ _ _ rfl (hO3.alloc _) ⟨w2.heap.size, 0, none⟩ 1 1 (Tox.cells ⟨t0, t1, t2, t3, t4, t5⟩).toList rfl rfl (cells_one6 w2 t0 t1 t2 t3 t4 t5) (tox_one ⟨t0, t1, t2, t3, t4, t5⟩) (by unfold maxLen; omega) (by omega) (by simp; omega) ?_; intro v' w3 hO4 hG _)
      go_roundw
      case rel => exact ⟨k + 1, by omega, by go_num, hlast'.out _ _ hO4, (hB3.out.alloc hsz _).grown hG (by simp; omega) (own_ge hO3)⟩
      case measure => simp [intOf]; omega
    · have hk2 : k = x.l.length - 2 := by omega
      subst hk2
      have hnl : ¬ (x.l.length - 2 < x.l.length - 2) := by omega
      have hfull : (toxs x).take (x.l.length - 2) = toxs x := List.take_of_length_le (by omega)
      rw [hfull] at hO
      obtain ⟨A, cap, rfl, hTR, hge⟩ := tr_of_owns hO
      rw [htl]
      have hR := Lib.hid (And.intro hTR (And.intro hge hB))
      clear hO hTR hge hB hfull hh
      go_wp2
      go_ret
      exact ⟨A, cap, rfl, hR.out.1, hR.out.2.1, hR.out.2.2⟩
end Go.Proofs.YtnkgjnmhiedfoaaGreat.Chain
namespace Go.Proofs.YtnkgjnmhiedfoaaGreat.Chain
open Go.RowKit Mem Tick Cargo Toxic Stage
set_option linter.unusedVariables false
set_option linter.unusedSimpArgs false
variable {x y : Ch} {P : Pa → Prop}
/-! one stage -/
theorem force_st (s : Sg) (n : Int) (b : ByteArray) : (forceP s n b).t = s.t ∧ (forceP s n b).closed = s.closed ∧ (forceP s n b).state = (lookP s n).state ∧ (forceP s n b).room = s.room ∧ (forceP s n b).clock = (lookP s n).clock := by
  unfold forceP
  split
  · exact ⟨rfl, rfl, rfl, rfl, rfl⟩
  · unfold putIn diceP
    split <;> exact ⟨rfl, rfl, rfl, rfl, rfl⟩
theorem put_st (s : Sg) (n : Int) (b : ByteArray) : (putS s n b).t = s.t ∧ (putS s n b).closed = s.closed ∧ (putS s n b).state = (lookP s n).state ∧ (putS s n b).room = s.room ∧ (putS s n b).clock = (lookP s n).clock := by
  unfold putS
  split
  · exact ⟨rfl, rfl, rfl, rfl, rfl⟩
  · have h := force_st (lookP s n) n (b.extract 0 (roomFor (lookP s n) b))
    rw [look_idem] at h
    exact h
theorem takeOut_st (s : Sg) (m : Int) : (takeOut s m).t = s.t ∧ (takeOut s m).closed = s.closed ∧ (takeOut s m).state = s.state ∧ (takeOut s m).room = s.room ∧ (takeOut s m).clock = s.clock := by
  unfold takeOut wayS someS sliceS
  split
  · exact ⟨rfl, rfl, rfl, rfl, rfl⟩
  · split
    · split <;> exact ⟨rfl, rfl, rfl, rfl, rfl⟩
    · exact ⟨rfl, rfl, rfl, rfl, rfl⟩
theorem take_st (s : Sg) (n m : Int) : (takeS s n m).t = s.t ∧ (takeS s n m).closed = s.closed ∧ (takeS s n m).state = (lookP s n).state ∧ (takeS s n m).room = s.room ∧ (takeS s n m).clock = (lookP s n).clock := by
  unfold takeS
  split
  · exact ⟨rfl, rfl, rfl, rfl, rfl⟩
  · exact takeOut_st (lookP s n) _
theorem close_st (s : Sg) (n : Int) : (closeP s n).t = s.t ∧ (closeP s n).closed = true ∧ (closeP s n).state = s.state ∧ (closeP s n).room = s.room ∧ (closeP s n).c = s.c := by
  unfold closeP
  split
  · rename_i h; exact ⟨rfl, h, rfl, rfl, rfl⟩
  · exact ⟨rfl, rfl, rfl, rfl, rfl⟩
theorem upd_st (s : Sg) (t : Tox) (n : Int) : (updS s t n).t.kind = s.t.kind ∧ (updS s t n).closed = s.closed ∧ ((updS s t n).state = s.state ∨ (updS s t n).state = (lookP s n).state) ∧ (updS s t n).room = s.room := by
  unfold updS
  split
  · exact ⟨rfl, rfl, .inl rfl, rfl⟩
  · rename_i h
    have hk : t.kind = s.t.kind := Decidable.byContradiction fun e => h (.inl e)
    split
    · exact ⟨hk, rfl, .inr rfl, rfl⟩
    · exact ⟨hk, rfl, .inr rfl, rfl⟩
theorem look_cases (s : Sg) (n : Int) : (lookP s n).state = s.state ∨ (s.state = 0 ∧ ((lookP s n).state = 0 ∨ ((lookP s n).state = 2 ∧ s.t.kind = 5) ∨ ((lookP s n).state = 1 ∧ (s.t.kind = 4 ∨ s.t.kind = 6 ∨ (s.closed = true ∧ held s = 0))))) := by
  show lookS (nowP s n) = s.state ∨ (s.state = 0 ∧ (lookS (nowP s n) = 0 ∨ (lookS (nowP s n) = 2 ∧ s.t.kind = 5) ∨ (lookS (nowP s n) = 1 ∧ (s.t.kind = 4 ∨ s.t.kind = 6 ∨ (s.closed = true ∧ held s = 0)))))
  unfold lookS
  by_cases h0 : s.state = 0
  · rw [if_neg (by show ¬ s.state ≠ 0; omega)]
    refine .inr ⟨h0, ?_⟩
    split
    · rename_i h; exact .inr (.inl ⟨rfl, h.1⟩)
    split
    · rename_i h
      split
      · exact .inr (.inr ⟨rfl, .inl h⟩)
      · exact .inl rfl
    split
    · rename_i h; exact .inr (.inr ⟨rfl, .inr (.inl h.1)⟩)
    split
    · rename_i h
      unfold endedB at h
      simp only [Bool.and_eq_true, decide_eq_true_eq] at h
      exact .inr (.inr ⟨rfl, .inr (.inr ⟨h.1.1, h.1.2⟩)⟩)
    · exact .inl rfl
  · rw [if_pos (show (nowP s n).state ≠ 0 from h0)]
    exact .inl rfl
/-! what each call keeps of each stage -/
structure Loc (P : Pa → Prop) : Prop where
  look : ∀ a n, P a → P (lookA n a)
  put : ∀ a n b, P a → P ⟨putS a.s n b, a.cl⟩
  force : ∀ a n b, P a → P ⟨forceP a.s n b, a.cl⟩
  take : ∀ a n m, P a → P ⟨takeS a.s n m, a.cl⟩
  fin : ∀ a n, P a → P (endA n a)
  drain : ∀ a, P a → P (drainA a)
  upd : ∀ a t n, P a → P ⟨updS a.s t n, a.cl⟩
def AllL (P : Pa → Prop) (l : List Pa) : Prop := ∀ a ∈ l, P a
theorem AllL.at_ {l : List Pa} (h : AllL P l) {i : Nat} {a : Pa} (hi : l[i]? = some a) : P a := h a (List.mem_of_getElem? hi)
theorem AllL.set {l : List Pa} (h : AllL P l) (i : Nat) {b : Pa} (hb : P b) : AllL P (l.set i b) := fun a ha => (List.mem_or_eq_of_mem_set ha).elim (h a) (fun e => e ▸ hb)
theorem AllL.map {l : List Pa} (h : AllL P l) {f : Pa → Pa} (hf : ∀ a, P a → P (f a)) : AllL P (l.map f) := fun a ha => by
  obtain ⟨b, hb, rfl⟩ := List.mem_map.1 ha
  exact hf b (h b hb)
theorem AllL.take {l : List Pa} (h : AllL P l) (n : Nat) : AllL P (l.take n) := fun a ha => h a (List.mem_of_mem_take ha)
theorem AllL.drop {l : List Pa} (h : AllL P l) (n : Nat) : AllL P (l.drop n) := fun a ha => h a (List.mem_of_mem_drop ha)
theorem AllL.app {l l' : List Pa} (h : AllL P l) (h' : AllL P l') : AllL P (l ++ l') := fun a ha => (List.mem_append.1 ha).elim (h a) (h' a)
theorem AllL.cons {l : List Pa} {b : Pa} (hb : P b) (h : AllL P l) : AllL P (b :: l) := fun a ha => by
  rcases List.mem_cons.1 ha with e | e
  · subst e; exact hb
  · exact h a e
theorem AllL.erase {l : List Pa} (h : AllL P l) (n : Nat) : AllL P (l.eraseIdx n) := fun a ha => h a (List.mem_of_mem_eraseIdx ha)
theorem AllL.lose {l : List Pa} (hP : Loc P) (h : AllL P l) (n : Nat) : AllL P (loseL n l) := ((h.take n).map hP.drain).app (h.drop n)
theorem AllL.moveAt {l : List Pa} (hP : Loc P) (h : AllL P l) (now : Int) (j : Nat) : AllL P (moveAt now j l) := by
  unfold Chain.moveAt
  split
  · rename_i a b ha hb
    split
    · exact (h.set _ (hP.take a now _ (h.at_ ha))).set _ (hP.force (lookA now b) now _ (hP.look b now (h.at_ hb)))
    · exact h.set _ (hP.look b now (h.at_ hb))
  · exact h
theorem AllL.moves {l : List Pa} (hP : Loc P) (h : AllL P l) (now : Int) : ∀ m, AllL P (moves now m l)
  | 0 => h
  | m + 1 => AllL.moveAt hP (AllL.moves hP h now m) now m
theorem AllL.shutAt (hP : Loc P) (h : AllL P x.l) (now : Int) (j : Nat) : AllL P (shutAt now j x).l := by
  unfold Chain.shutAt
  split
  · rename_i a b ha hb
    split
    · exact ((h.set _ (hP.look a now (h.at_ ha))).lose hP _).set _ (hP.fin b now (h.at_ hb))
    · exact h.set _ (hP.look a now (h.at_ ha))
  · exact h
theorem AllL.shuts (hP : Loc P) (h : AllL P x.l) (now : Int) : ∀ m, AllL P (shuts now m x).l
  | 0 => h
  | m + 1 => AllL.shutAt hP (AllL.shuts hP h now m) now m
theorem AllL.last (hP : Loc P) (h : AllL P x.l) (now : Int) : AllL P (lastC now x).l := by
  unfold Chain.lastC
  split
  · rename_i a ha
    exact h.set _ (hP.look a now (h.at_ ha))
  · exact h
theorem AllL.break_ (hP : Loc P) (h : AllL P x.l) : AllL P (breakC x).l := by
  unfold breakC
  split
  · exact h
  · exact h.lose hP _
theorem AllL.step (hP : Loc P) (h : AllL P x.l) (now : Int) : AllL P (stepC now x).l := by
  unfold stepC
  split
  · exact h
  split
  · exact AllL.break_ hP (x := { x with l := x.l.map (lookA now) }) (h.map fun a => hP.look a now)
  · exact AllL.last hP (AllL.shuts hP (x := { x with l := Chain.moves now (x.l.length - 1) (x.l.map (lookA now)) }) ((h.map fun a => hP.look a now).moves hP now _) now _) now
theorem loc_does (hP : Loc P) (o : Op) (hnew : o.kind = 5 → insE x o.n o.t = 0 → P ⟨newS o.t o.seed x.room o.now, false⟩) (h : AllL P x.l) : AllL P (doesC x o).l := by
  unfold doesC
  split
  · unfold putC
    split
    · exact h
    split
    · rename_i a ha; exact h.set _ (hP.put a _ _ (h.at_ ha))
    · exact h
  split
  · unfold closeC
    split
    · split
      · rename_i a ha; exact h.set _ (hP.fin a _ (h.at_ ha))
      · exact h
    · exact h
  split
  · exact AllL.break_ hP h
  split
  · exact AllL.step hP h _
  split
  · unfold takeC
    split
    · exact h
    split
    · rename_i a ha; exact h.set _ (hP.take a _ _ (h.at_ ha))
    · exact h
  split
  · rename_i k5
    unfold insC
    split
    · exact h
    rename_i hz
    split
    · have hn := hnew k5 (by omega)
      refine (h.take _).app (AllL.cons ?_ (h.drop _))
      split
      · exact hP.fin _ _ hn
      · exact hn
    · exact h
  split
  · unfold remC
    split
    · unfold remAt
      split
      · rename_i p q hp hq
        have h1 : AllL P ((x.l.set (o.n.toNat + 1) (drainA p)).set (o.n.toNat + 1 + 1) ⟨forceP q.s o.now (cat p.s.c.1), q.cl⟩) := (h.set _ (hP.drain p (h.at_ hp))).set _ (hP.force q _ _ (h.at_ hq))
        refine AllL.erase (AllL.set ?_ _ ?_) _
        · split
          · exact h1.lose hP _
          · exact h1
        · split
          · exact hP.fin _ _ (hP.force q _ _ (h.at_ hq))
          · exact hP.force q _ _ (h.at_ hq)
      · exact h
    · exact h
  split
  · unfold updC
    split
    · split
      · rename_i a ha; exact h.set _ (hP.upd a _ _ (h.at_ ha))
      · exact h
    · exact h
  · exact h
/-! the kinds stay as they are, but for Insert and Remove -/
def kd (a : Pa) : Int := a.s.t.kind
theorem kd_look (n : Int) (a : Pa) : kd (lookA n a) = kd a := rfl
theorem kd_end (n : Int) (a : Pa) : kd (endA n a) = kd a := congrArg Tox.kind (close_st a.s n).1
theorem map_set_same {l : List Pa} {f : Pa → Int} {i : Nat} {a b : Pa} (ha : l[i]? = some a) (hb : f b = f a) : (l.set i b).map f = l.map f := by
  rw [List.map_set, hb]
  obtain ⟨hi, he⟩ := List.getElem?_eq_some_iff.1 ha
  have : (l.map f)[i]'(by simpa using hi) = f a := by simp [he]
  rw [← this]
  exact List.set_getElem_self _
theorem kd_lose (n : Nat) (l : List Pa) : (loseL n l).map kd = l.map kd := by
  unfold loseL
  have e : (l.take n).map (kd ∘ drainA) = (l.take n).map kd := List.map_congr_left fun a _ => rfl
  rw [List.map_append, List.map_map, e, ← List.map_append, List.take_append_drop]
theorem kd_moveAt (now : Int) (j : Nat) (l : List Pa) : (moveAt now j l).map kd = l.map kd := by
  unfold moveAt
  split
  · rename_i a b ha hb
    split
    · have hb2 : (l.set j ⟨takeS a.s now (free (lookP b.s now)), a.cl⟩)[j + 1]? = some b := by rw [List.getElem?_set_ne (by omega)]; exact hb
      rw [map_set_same hb2 (by show (forceP (lookP b.s now) now _).t.kind = b.s.t.kind; rw [(force_st _ _ _).1]; rfl), map_set_same ha (by show (takeS a.s now _).t.kind = a.s.t.kind; rw [(take_st _ _ _).1])]
    · exact map_set_same hb rfl
  · rfl
theorem kd_moves (now : Int) (l : List Pa) : ∀ m, (moves now m l).map kd = l.map kd
  | 0 => rfl
  | m + 1 => (kd_moveAt now m _).trans (kd_moves now l m)
theorem kd_shutAt (now : Int) (j : Nat) (x : Ch) : (shutAt now j x).l.map kd = x.l.map kd := by
  unfold shutAt
  split
  · rename_i a b ha hb
    split
    · have hb2 : (loseL (j + 1) (x.l.set j (lookA now a)))[j + 1]? = some b := by rw [lose_get (Nat.le_refl _), List.getElem?_set_ne (by omega)]; exact hb
      show ((loseL (j + 1) (x.l.set j (lookA now a))).set (j + 1) (endA now b)).map kd = _
      rw [map_set_same hb2 (kd_end now b), kd_lose, map_set_same ha (kd_look now a)]
    · exact map_set_same ha rfl
  · rfl
theorem kd_shuts (now : Int) (x : Ch) : ∀ m, (shuts now m x).l.map kd = x.l.map kd
  | 0 => rfl
  | m + 1 => (kd_shutAt now m _).trans (kd_shuts now x m)
theorem kd_break (x : Ch) : (breakC x).l.map kd = x.l.map kd := by
  unfold breakC
  split
  · rfl
  · exact kd_lose _ _
theorem kd_lookMap (now : Int) (l : List Pa) : (l.map (lookA now)).map kd = l.map kd := by rw [List.map_map]; exact List.map_congr_left fun a _ => rfl
theorem kd_last (now : Int) (x : Ch) : (lastC now x).l.map kd = x.l.map kd := by
  unfold lastC
  split
  · rename_i a ha; exact map_set_same ha rfl
  · rfl
theorem kd_step (now : Int) (x : Ch) : (stepC now x).l.map kd = x.l.map kd := by
  unfold stepC
  split
  · rfl
  split
  · exact (kd_break _).trans (kd_lookMap now x.l)
  · rw [kd_last, kd_shuts, kd_moves, kd_lookMap]
end Go.Proofs.YtnkgjnmhiedfoaaGreat.Chain
namespace Go.Proofs.YtnkgjnmhiedfoaaGreat.Chain
open Go.RowKit Mem Tick Cargo Toxic Stage
set_option linter.unusedVariables false
set_option linter.unusedSimpArgs false
variable {x y : Ch} {M Q : Int}
def inC (x : Ch) (o : Op) : ByteArray := if o.kind = 0 then o.s.extract 0 (putCN x o.now o.s) else ⟨#[]⟩
theorem flow_does (x : Ch) (o : Op) : Flow x (inC x o) (doesA x o).2.1 (doesC x o) := by
  unfold inC doesA doesC
  by_cases h0 : o.kind = 0
  · simp only [if_pos h0]; exact flow_put x _ _
  simp only [if_neg h0]
  by_cases h1 : o.kind = 1
  · simp only [if_pos h1]; exact flow_close x _
  simp only [if_neg h1]
  by_cases h2 : o.kind = 2
  · simp only [if_pos h2]; exact flow_break x
  simp only [if_neg h2]
  by_cases h3 : o.kind = 3
  · simp only [if_pos h3]; exact flow_step _ x
  simp only [if_neg h3]
  by_cases h4 : o.kind = 4
  · simp only [if_pos h4]; exact flow_take x _ _
  simp only [if_neg h4]
  by_cases h5 : o.kind = 5
  · simp only [if_pos h5]; exact flow_ins x _ _ _ _
  simp only [if_neg h5]
  by_cases h6 : o.kind = 6
  · simp only [if_pos h6]; exact flow_remC x _ _
  simp only [if_neg h6]
  by_cases h7 : o.kind = 7
  · simp only [if_pos h7]; exact flow_upd x _ _ _
  simp only [if_neg h7]
  exact Flow.same rfl rfl id
theorem putCN_le (x : Ch) (now : Int) (b : ByteArray) : putCN x now b ≤ b.size := by
  unfold putCN
  split
  · exact Nat.zero_le _
  split
  · exact put_le _ _ _
  · exact Nat.zero_le _
theorem inC_size (x : Ch) (o : Op) : (inC x o).size = if o.kind = 0 then putCN x o.now o.s else 0 := by
  unfold inC
  split
  · exact ext_size _ _ (putCN_le _ _ _)
  · rfl
theorem putCN_shut (x : Ch) (now : Int) (b : ByteArray) (h : x.shut = true ∨ x.state ≠ 0) : putCN x now b = 0 := by unfold putCN; rw [if_pos h]
/-! Counts -/
/-! Keeps -/
def KeepI (x : Ch) (i o : ByteArray) : Prop := ∃ L : ByteArray, i = o ++ lineL x.l ++ L ∧ (0 < L.size → x.shut = true)
theorem empty_size {b : ByteArray} (h : b.size = 0) : b = ⟨#[]⟩ := empty_of (by omega)
theorem keep_does {i o : ByteArray} (h : KeepI x i o) (p : Op) : KeepI (doesC x p) (i ++ inC x p) (o ++ (doesA x p).2.1) := by
  obtain ⟨L, h1, h2⟩ := h
  obtain ⟨K, k1, k2, k3, k4⟩ := flow_does x p
  by_cases hz : L.size = 0
  · have e := empty_size hz
    subst e
    rw [app_nil] at h1
    refine ⟨K, ?_, k3⟩
    rw [h1, ByteArray.append_assoc, k1]
    simp only [ByteArray.append_assoc]
  · have hs := h2 (by omega)
    have e : inC x p = ⟨#[]⟩ := empty_size (by
      rw [inC_size]
      split
      · exact putCN_shut _ _ _ (.inl hs)
      · rfl)
    rw [e, app_nil] at k1
    rw [e, app_nil]
    refine ⟨K ++ L, ?_, fun _ => k4 hs⟩
    rw [h1, k1]
    simp only [ByteArray.append_assoc]
theorem keep_new (room now : Int) : KeepI (newC room now) ⟨#[]⟩ ⟨#[]⟩ := by
  have hc : (newS noTox 0 room now).c = ([], 0) := by unfold newS; split <;> rfl
  refine ⟨⟨#[]⟩, ?_, fun e => absurd e (by decide)⟩
  show (⟨#[]⟩ : ByteArray) = ⟨#[]⟩ ++ ((⟨#[]⟩ ++ cat (newS noTox 0 room now).c.1) ++ cat (newS noTox 0 room now).c.1) ++ ⟨#[]⟩
  rw [hc]
  rfl
theorem keep_pre {i o : ByteArray} (h : KeepI x i o) : o.size ≤ i.size ∧ i.extract 0 o.size = o := by
  obtain ⟨L, h1, _⟩ := h
  subst h1
  refine ⟨by simp only [ByteArray.size_append]; omega, ?_⟩
  rw [ByteArray.append_assoc]
  apply ByteArray.ext
  simp
/-! Safe -/
def Psf (a : Pa) : Prop := (a.s.t.kind ≠ 4 ∧ a.s.t.kind ≠ 5 ∧ a.s.t.kind ≠ 6) ∧ a.s.closed = a.cl ∧ (a.s.state = 0 ∨ (a.s.state = 1 ∧ a.cl = true ∧ held a.s = 0))
theorem psf_look {a : Pa} (h : Psf a) (n : Int) : (lookP a.s n).state = 0 ∨ ((lookP a.s n).state = 1 ∧ a.cl = true ∧ held a.s = 0) := by
  obtain ⟨h1, h2, h3⟩ := h
  rcases look_cases a.s n with e | ⟨e0, e | e | ⟨e, e2⟩⟩
  · rw [e]; exact h3
  · exact .inl e
  · omega
  · rcases e2 with e2 | e2 | ⟨e2, e3⟩
    · omega
    · omega
    · exact .inr ⟨e, h2 ▸ e2, e3⟩
theorem psf_of {a a' : Pa} (h : Psf a) (n : Int) (hk : a'.s.t.kind = a.s.t.kind) (hcl : a'.s.closed = a.s.closed) (hc : a'.cl = a.cl) (hs : a'.s.state = (lookP a.s n).state) (hh : (lookP a.s n).state ≠ 0 → held a'.s ≤ held a.s) : Psf a' := by
  have hl := psf_look h n
  obtain ⟨h1, h2, h3⟩ := h
  refine ⟨by rw [hk]; exact h1, by rw [hcl, hc]; exact h2, ?_⟩
  rw [hs, hc]
  rcases hl with e | ⟨e, e2, e3⟩
  · exact .inl e
  · have := hh (by omega)
    exact .inr ⟨e, e2, by omega⟩
theorem force_no {s : Sg} {n : Int} (b : ByteArray) (h : (lookP s n).state ≠ 0) : forceP s n b = lookP s n := by unfold forceP; rw [if_pos (.inl h)]
theorem put_no {s : Sg} {n : Int} (b : ByteArray) (h : (lookP s n).state ≠ 0) : putS s n b = lookP s n := by unfold putS; rw [if_pos (.inl h)]
theorem take_no {s : Sg} {n : Int} (m : Int) (h : (lookP s n).state ≠ 0) : takeS s n m = lookP s n := by unfold takeS; rw [if_pos (.inl h)]
theorem loc_psf : Loc Psf where
  look := fun a n h => psf_of h n rfl rfl rfl rfl (fun _ => Nat.le_refl _)
  put := fun a n b h => psf_of h n (by rw [(put_st _ _ _).1]) (put_st _ _ _).2.1 rfl (put_st _ _ _).2.2.1 (fun e => by show held (putS a.s n b) ≤ _; rw [put_no b e]; exact Nat.le_refl _)
  force := fun a n b h => psf_of h n (by rw [(force_st _ _ _).1]) (force_st _ _ _).2.1 rfl (force_st _ _ _).2.2.1 (fun e => by show held (forceP a.s n b) ≤ _; rw [force_no b e]; exact Nat.le_refl _)
  take := fun a n m h => psf_of h n (by rw [(take_st _ _ _).1]) (take_st _ _ _).2.1 rfl (take_st _ _ _).2.2.1 (fun e => by show held (takeS a.s n m) ≤ _; rw [take_no m e]; exact Nat.le_refl _)
  fin := fun a n h => by
    obtain ⟨h1, h2, h3⟩ := h
    have hs := close_st a.s n
    refine ⟨by show (closeP a.s n).t.kind ≠ 4 ∧ (closeP a.s n).t.kind ≠ 5 ∧ (closeP a.s n).t.kind ≠ 6; rw [hs.1]; exact h1, hs.2.1, ?_⟩
    show (closeP a.s n).state = 0 ∨ ((closeP a.s n).state = 1 ∧ true = true ∧ held (closeP a.s n) = 0)
    rw [hs.2.2.1, held_close]
    exact h3.imp id (fun e => ⟨e.1, rfl, e.2.2⟩)
  drain := fun a h => ⟨h.1, h.2.1, h.2.2.imp id (fun e => ⟨e.1, e.2.1, rfl⟩)⟩
  upd := fun a t n h => by
    have hs := upd_st a.s t n
    have hh : held (updS a.s t n) = held a.s := by unfold held; rw [(upd_c a.s t n).1]
    rcases hs.2.2.1 with e | e
    · obtain ⟨h1, h2, h3⟩ := h
      refine ⟨by show (updS a.s t n).t.kind ≠ 4 ∧ (updS a.s t n).t.kind ≠ 5 ∧ (updS a.s t n).t.kind ≠ 6; rw [hs.1]; exact h1, hs.2.1.trans h2, ?_⟩
      show (updS a.s t n).state = 0 ∨ ((updS a.s t n).state = 1 ∧ a.cl = true ∧ held (updS a.s t n) = 0)
      rw [e, hh]
      exact h3
    · exact psf_of h n hs.1 hs.2.1 rfl e (fun _ => Nat.le_of_eq hh)
def PE (l : List Pa) : Prop := ∀ (i : Nat) (a b : Pa), l[i]? = some a → l[i + 1]? = some b → b.cl = true → a.cl = true ∧ held a.s = 0
def Qt (a a' : Pa) : Prop := a'.cl = a.cl ∧ (a.cl = true → held a.s = 0 → held a'.s = 0)
theorem Qt.refl (a : Pa) : Qt a a := ⟨rfl, fun _ h => h⟩
theorem PE.pw {l l' : List Pa} (h : PE l) (hl : l'.length = l.length) (hq : ∀ (i : Nat) (a a' : Pa), l[i]? = some a → l'[i]? = some a' → Qt a a') : PE l' := by
  intro i a' b' ha' hb' hcl
  have h1 := (List.getElem?_eq_some_iff.1 hb').1
  have ha : l[i]? = some l[i] := List.getElem?_eq_getElem (by omega)
  have hb : l[i + 1]? = some l[i + 1] := List.getElem?_eq_getElem (by omega)
  obtain ⟨q1, q2⟩ := hq i _ _ ha ha'
  obtain ⟨r1, r2⟩ := hq (i + 1) _ _ hb hb'
  rw [r1] at hcl
  obtain ⟨z1, z2⟩ := h i _ _ ha hb hcl
  exact ⟨by rw [q1]; exact z1, q2 z1 z2⟩
theorem PE.set {l : List Pa} (h : PE l) {i : Nat} {a a' : Pa} (ha : l[i]? = some a) (hq : Qt a a') : PE (l.set i a') := by
  refine h.pw (by simp) fun j b b' hb hb' => ?_
  by_cases e : i = j
  · subst e
    rw [ha] at hb
    rw [List.getElem?_set_self (List.getElem?_eq_some_iff.1 ha).1] at hb'
    cases hb; cases hb'
    exact hq
  · rw [List.getElem?_set_ne e, hb] at hb'
    cases hb'
    exact Qt.refl _
theorem PE.empty {l : List Pa} (h : PE l) : ∀ (i : Nat) (a : Pa), l[i]? = some a → a.cl = true → heldL (l.take i) = 0
  | 0, a, ha, hc => rfl
  | i + 1, a, ha, hc => by
    have h1 := (List.getElem?_eq_some_iff.1 ha).1
    have hb : l[i]? = some l[i] := List.getElem?_eq_getElem (by omega)
    obtain ⟨z1, z2⟩ := h i _ _ hb ha hc
    rw [heldL_succ hb, PE.empty h i _ hb z1, z2]
theorem qt_look (n : Int) (a : Pa) : Qt a (lookA n a) := ⟨rfl, fun _ h => h⟩
structure SafeI (x : Ch) : Prop where
  psf : AllL Psf x.l
  pe : PE x.l
  lost : x.lost = 0
theorem SafeI.last (h : SafeI x) (now : Int) : SafeI (lastC now x) := by
  refine ⟨AllL.last loc_psf h.psf now, ?_, ?_⟩
  · unfold lastC
    split
    · rename_i a ha; exact h.pe.set ha (qt_look now a)
    · exact h.pe
  · unfold lastC
    split <;> exact h.lost
end Go.Proofs.YtnkgjnmhiedfoaaGreat.Chain
namespace Go.Proofs.YtnkgjnmhiedfoaaGreat.Chain
open Go.RowKit Mem Tick Cargo Toxic Stage
set_option linter.unusedVariables false
set_option linter.unusedSimpArgs false
variable {x y : Ch} {M Q : Int}
theorem two_step (now : Int) (x : Ch) : (stepC now x).l.length = x.l.length := by
  have := congrArg List.length (kd_step now x)
  simpa using this
def KM (x : Ch) (i o : ByteArray) : Prop := KeepI x i o ∧ (i.size : Int) = o.size + heldL x.l + x.lost
theorem km_new (room now : Int) : KM (newC room now) ⟨#[]⟩ ⟨#[]⟩ := by
  refine ⟨keep_new room now, ?_⟩
  have hc : (newS noTox 0 room now).c = ([], 0) := by unfold newS; split <;> rfl
  show (0 : Int) = 0 + ((held (newS noTox 0 room now) + (held (newS noTox 0 room now) + 0) : Nat) : Int) + 0
  have : held (newS noTox 0 room now) = 0 := by unfold held; rw [hc]; rfl
  rw [this]
  rfl
theorem km_does {i o : ByteArray} (h : KM x i o) (p : Op) : KM (doesC x p) (i ++ inC x p) (o ++ (doesA x p).2.1) := by
  refine ⟨keep_does h.1 p, ?_⟩
  have := (flow_massIO (flow_does x p)).1
  have h2 := h.2
  simp only [ByteArray.size_append]
  omega
theorem km_put {i o : ByteArray} (h : KM x i o) (n : Int) (b : ByteArray) : KM (putC x n b) (i ++ b.extract 0 (putCN x n b)) o := by
  have := km_does h ⟨0, n, 0, b, ⟨⟨#[]⟩, 0, false, 0, 0, 0⟩, 0⟩
  have e : (doesA x ⟨0, n, 0, b, ⟨⟨#[]⟩, 0, false, 0, 0, 0⟩, 0⟩).2.1 = ⟨#[]⟩ := rfl
  rw [e, app_nil] at this
  exact this
theorem km_step {i o : ByteArray} (h : KM x i o) (n : Int) : KM (stepC n x) i o := by
  have := km_does h ⟨3, n, 0, ⟨#[]⟩, ⟨⟨#[]⟩, 0, false, 0, 0, 0⟩, 0⟩
  have e : (doesA x ⟨3, n, 0, ⟨#[]⟩, ⟨⟨#[]⟩, 0, false, 0, 0, 0⟩, 0⟩).2.1 = ⟨#[]⟩ := rfl
  have e2 : inC x ⟨3, n, 0, ⟨#[]⟩, ⟨⟨#[]⟩, 0, false, 0, 0, 0⟩, 0⟩ = ⟨#[]⟩ := rfl
  rw [e, e2, app_nil, app_nil] at this
  exact this
theorem km_close {i o : ByteArray} (h : KM x i o) (n : Int) : KM (closeC x n) i o := by
  have := km_does h ⟨1, n, 0, ⟨#[]⟩, ⟨⟨#[]⟩, 0, false, 0, 0, 0⟩, 0⟩
  have e : (doesA x ⟨1, n, 0, ⟨#[]⟩, ⟨⟨#[]⟩, 0, false, 0, 0, 0⟩, 0⟩).2.1 = ⟨#[]⟩ := rfl
  have e2 : inC x ⟨1, n, 0, ⟨#[]⟩, ⟨⟨#[]⟩, 0, false, 0, 0, 0⟩, 0⟩ = ⟨#[]⟩ := rfl
  rw [e, e2, app_nil, app_nil] at this
  exact this
theorem km_take {i o : ByteArray} (h : KM x i o) (n m : Int) : KM (takeC x n m) i (o ++ takeCB x n m) := by
  have := km_does h ⟨4, n, m, ⟨#[]⟩, ⟨⟨#[]⟩, 0, false, 0, 0, 0⟩, 0⟩
  have e2 : inC x ⟨4, n, m, ⟨#[]⟩, ⟨⟨#[]⟩, 0, false, 0, 0, 0⟩, 0⟩ = ⟨#[]⟩ := rfl
  rw [e2, app_nil] at this
  exact this
end Go.Proofs.YtnkgjnmhiedfoaaGreat.Chain
namespace Go.Proofs.YtnkgjnmhiedfoaaGreat.Link
open Go.RowKit Mem Tick Cargo Toxic Stage Chain
open Go.Proofs.YtnkgjnmhiedfoaaGreatW.PrintLast Pu
open Go.Proofs.YtnkgjnmhiedfoaaGreatW.PrintWords (add_at)
set_option maxRecDepth 100000
set_option linter.unusedVariables false
set_option linter.unusedSimpArgs false
theorem info_st : (Tryz.prog.info? 9).map (fun i => (i.zero, i.size, i.bytes)) = some (some (.string ⟨#[]⟩), 1, 16) := by kernel_rfl
def RS (w : World) (r cap : Nat) (xs : List Value) : Prop := ∃ rest, Blk w r 9 (xs ++ rest).toArray ∧ (xs ++ rest).length = cap
theorem deleteS_in (w : World) (r n cap i : Nat) (xs : List Value) (hx : ∀ u ∈ xs, u.oneCell' = true) (hn : xs.length = n) (hi : i + 1 ≤ n) (hci : i + 1 < cap) (h20 : n ≤ 40) (hcap : n ≤ cap) (hm : cap ≤ 9223372036854775807) (hr : RS w r cap xs) :
    Calls Tryz.prog 28 #[.slice (some ⟨r, 0, none⟩) n cap, .int .i64 i, .int .i64 ((i : Int) + 1)] w fun e w' =>
      e = .returned (.slice (some ⟨r, 0, none⟩) (n - 1) cap) ∧ RS w' r cap (xs.eraseIdx i) ∧ Did (· = r) w w' := by
  obtain ⟨rest, hb, hcs⟩ := hr
  obtain ⟨inf, hi0, hz0, hz1, hz2⟩ := info_parts info_st
  have hu52 : Tryz.prog.underlying 34 = some (.slice 9) := Tryz.underlying34
  have hin : ((i : Int) == (i : Int) + 1) = false := by simp; omega
  have hg2 : ¬ cap = i + 1 := by omega
  have q1 : (i : Int) ≤ (i : Int) + 1 := by omega
  have q2 : (i : Int) + 1 ≤ (n : Int) := by omega
  have q3 : (n : Int) ≤ (cap : Int) := by omega
  have q4 : (0 : Int) ≤ (i : Int) + 1 := by omega
  have q5 : ((i : Int) + 1).toNat = i + 1 := by omega
  have q6 : (i : Int) ≤ (cap : Int) := by omega
  have hblk0 : w.drew.heap[r]? = some (.cells (xs ++ rest).toArray 9 (0, 0)) := hb
  obtain ⟨L1, hL1⟩ : ∃ L1, L1 = (xs ++ rest).toArray.toList.take i ++ xs.drop (i + 1) ++ (xs ++ rest).toArray.toList.drop (i + (n - (i + 1))) := ⟨_, rfl⟩
  have hra : ∀ ty, (Builtin.append_ #[34, 34] ty #[.slice (some ⟨r, 0, none⟩) i cap, .slice (some ⟨r, i + 1, none⟩) (n - (i + 1)) (cap - (i + 1))]).run Tryz.prog w.drew = .ok (.slice (some ⟨r, 0, none⟩) (i + (n - (i + 1))) cap) (w.drew.setRow r L1.toArray) := fun ty => by
    rw [hL1]
    exact run_append_room_row w.drew 34 ty 9 inf hu52 hi0 hz1 r i cap ⟨r, i + 1, none⟩ (n - (i + 1)) (cap - (i + 1)) (xs ++ rest).toArray 9 (xs.drop (i + 1)) (by rw [List.length_drop, hn]) (fun j u hu => by
      rw [add_at]
      refine (hb.cell (i + 1 + j)).trans ?_
      rw [List.getElem?_toArray]
      rw [List.getElem?_drop] at hu
      rw [List.getElem?_append_left (List.getElem?_eq_some_iff.1 hu).1]
      exact hu) (fun v hv => hx v (List.mem_of_mem_drop hv)) (by omega) hblk0 (by rw [List.size_toArray, hcs]; omega)
  obtain ⟨W1, hW1⟩ : ∃ W1, w.drew.setRow r L1.toArray = W1 := ⟨_, rfl⟩
  rw [hW1] at hra
  have hblk1 : W1.heap[r]? = some (.cells L1.toArray 9 (0, 0)) := by rw [← hW1]; exact setRow_heap _ _ _ _ _ _ hblk0
  have hD1 : Did (· = r) w W1 := by rw [← hW1]; exact did_row w.drew r _ (Did.refl _ _).drew
  have hl1 : L1.length = cap := by
    rw [hL1]
    simp only [List.length_append, List.length_take, List.length_drop, hn] at *
    omega
  have e1 : i + (n - (i + 1)) = n - 1 := by omega
  obtain ⟨L2, hL2⟩ : ∃ L2, L2 = L1.toArray.toList.take (n - 1) ++ [.string ⟨#[]⟩] ++ L1.toArray.toList.drop (n - 1 + 1) := ⟨_, rfl⟩
  have hcl : ∀ ty, (Builtin.clear_ #[34] ty #[.slice (some ⟨r, n - 1, none⟩) 1 (cap - (n - 1))]).run Tryz.prog W1 = .ok (.tuple #[]) (W1.setRow r L2.toArray) := fun ty => by
    rw [hL2]
    exact run_clear_row W1 34 ty 9 inf (.string ⟨#[]⟩) hu52 hi0 hz0 rfl rfl r (n - 1) (cap - (n - 1)) L1.toArray 9 hblk1 (by rw [List.size_toArray, hl1]; omega)
  have hfin : L2 = xs.eraseIdx i ++ (.string ⟨#[]⟩ :: rest) := by
    have a1 : (xs ++ rest).take i = xs.take i := List.take_append_of_le_length (by omega)
    have a2 : (xs ++ rest).drop (n - 1) = xs.drop (n - 1) ++ rest := by rw [List.drop_append, show n - 1 - xs.length = 0 by omega, List.drop_zero]
    have a3 : L1 = xs.eraseIdx i ++ (xs.drop (n - 1) ++ rest) := by
      rw [hL1, e1]
      show (xs ++ rest).take i ++ xs.drop (i + 1) ++ (xs ++ rest).drop (n - 1) = _
      rw [a1, a2, List.eraseIdx_eq_take_drop_succ]
    have a4 : (xs.eraseIdx i).length = n - 1 := by rw [List.length_eraseIdx, if_pos (by omega), hn]
    have a5 : (xs.drop (n - 1)).length = 1 := by rw [List.length_drop, hn]; omega
    rw [hL2]
    show L1.take (n - 1) ++ [.string ⟨#[]⟩] ++ L1.drop (n - 1 + 1) = _
    rw [a3, List.take_append_of_le_length (by omega), List.take_of_length_le (by omega), List.drop_append, List.drop_of_length_le (by omega : (xs.eraseIdx i).length ≤ n - 1 + 1), a4, show n - 1 + 1 - (n - 1) = 1 by omega, List.drop_append, List.drop_of_length_le (by omega : (xs.drop (n - 1)).length ≤ 1), a5]
    simp
  have hl2 : L2.length = cap := by
    rw [hfin]
    have a4 : (xs.eraseIdx i).length = n - 1 := by rw [List.length_eraseIdx, if_pos (by omega), hn]
    rw [List.length_append, List.length_cons, a4]
    rw [List.length_append, hn] at hcs
    omega
  have hres := Lib.hid (show RS (W1.setRow r L2.toArray) r cap (xs.eraseIdx i) ∧ Did (· = r) w (W1.setRow r L2.toArray) from ⟨⟨.string ⟨#[]⟩ :: rest, by rw [← hfin]; exact setRow_heap _ _ _ _ _ _ hblk1, by rw [← hfin]; exact hl2⟩, did_row W1 r _ hD1⟩)
  rw [e1] at hra
  have q7 : (0 : Int) ≤ ((n - 1 : Nat) : Int) := by omega
  have q8 : ((n - 1 : Nat) : Int) ≤ (n : Int) := by omega
  have q9 : n - (n - 1) = 1 := by omega
  have q10 : ¬ cap = n - 1 := by omega
  have q11 : n - 1 ≤ n := by omega
  have e2 : i + (n - (i + 1)) = n - 1 := e1
  clear hz0 hz1 hz2 hi0 hW1 hL1 hL2 hfin hl2 hl1 hblk1 hD1 hb hcs hblk0 e1
  go_enter Tryz.func28, Tryz.ntmps28
  go_wp2
  refine start_ (n := 8) (S := fun w' => True) (ds := []) (m_ 8 0) (by kernel_rfl) rfl (by kernel_rfl) trivial (fun hHeld => ?_)
  refine pq_ 0 20 8 1 ?_
  refine pq_ 1 21 8 3 ?_
  refine pq_ 2 22 8 7 ?_
  refine pq_ 3 23 8 15 ?_
  refine pq_ 4 24 8 31 ?_
  refine pq_ 5 25 8 63 ?_
  refine one_ (i := 6) (N := some 26) (m_ 8 127) rfl rfl (by kernel_rfl) (by decide) (fun K hK => ?_)
  refine step_append_row rfl (.tmp 22) (.tmp 25) 34 rfl _ _ rfl rfl _ _ hra ?_
  refine hK.out _ _ trivial (fun hHeld => ?_)
  clear hK K
  refine norm_ (a' := ?_) ?_ ?_
  rotate_left
  · show Act.put _ (some 26) _ = _
    simp only [Act.put, List.setIfInBounds_toArray, List.set_cons_zero, List.set_cons_succ, i64_w, i32_w]
    rfl
  refine pq_ 7 0 8 255 ?_
  refine done_ (by kernel_rfl) ?_
  go_wp2
  go_ret
  exact ⟨rfl, hres.out⟩
theorem deleteS_last (w : World) (r i : Nat) (xs : List Value) (hx : ∀ u ∈ xs, u.oneCell' = true) (hn : xs.length = i + 1) (h20 : i ≤ 40) (hr : RS w r (i + 1) xs) :
    Calls Tryz.prog 28 #[.slice (some ⟨r, 0, none⟩) (i + 1) (i + 1), .int .i64 i, .int .i64 ((i : Int) + 1)] w fun e w' =>
      e = .returned (.slice (some ⟨r, 0, none⟩) i (i + 1)) ∧ RS w' r (i + 1) (xs.eraseIdx i) ∧ Did (· = r) w w' := by
  obtain ⟨rest, hb, hcs⟩ := hr
  have hrest : rest = [] := by
    rw [List.length_append] at hcs
    exact List.length_eq_zero_iff.1 (by omega)
  subst hrest
  rw [List.append_nil] at hb hcs
  obtain ⟨inf, hi0, hz0, hz1, hz2⟩ := info_parts info_st
  have hu52 : Tryz.prog.underlying 34 = some (.slice 9) := Tryz.underlying34
  have hin : ((i : Int) == (i : Int) + 1) = false := by simp; omega
  have q1 : (i : Int) ≤ (i : Int) + 1 := by omega
  have q4 : (0 : Int) ≤ (i : Int) + 1 := by omega
  have q5 : ((i : Int) + 1).toNat = i + 1 := by omega
  have q9 : i + 1 - i = 1 := by omega
  have q10 : ¬ i + 1 = i := by omega
  have q11 : i ≤ i + 1 := by omega
  have hblk0 : w.drew.heap[r]? = some (.cells xs.toArray 9 (0, 0)) := hb
  obtain ⟨L1, hL1⟩ : ∃ L1, L1 = xs.toArray.toList.take i ++ ([] : List Value) ++ xs.toArray.toList.drop (i + 0) := ⟨_, rfl⟩
  have hra : ∀ ty, (Builtin.append_ #[34, 34] ty #[.slice (some ⟨r, 0, none⟩) i (i + 1), .slice (some ⟨r, 0, none⟩) 0 0]).run Tryz.prog w.drew = .ok (.slice (some ⟨r, 0, none⟩) i (i + 1)) (w.drew.setRow r L1.toArray) := fun ty => by
    rw [hL1]
    exact run_append_room_row w.drew 34 ty 9 inf hu52 hi0 hz1 r i (i + 1) ⟨r, 0, none⟩ 0 0 xs.toArray 9 [] rfl (fun j u hu => by simp at hu) (fun v hv => by cases hv) (by omega) hblk0 (by rw [List.size_toArray]; omega)
  obtain ⟨W1, hW1⟩ : ∃ W1, w.drew.setRow r L1.toArray = W1 := ⟨_, rfl⟩
  rw [hW1] at hra
  have hblk1 : W1.heap[r]? = some (.cells L1.toArray 9 (0, 0)) := by rw [← hW1]; exact setRow_heap _ _ _ _ _ _ hblk0
  have hD1 : Did (· = r) w W1 := by rw [← hW1]; exact did_row w.drew r _ (Did.refl _ _).drew
  have hL1' : L1 = xs := by rw [hL1, List.append_nil]; show xs.take i ++ xs.drop (i + 0) = xs; rw [Nat.add_zero, List.take_append_drop]
  obtain ⟨L2, hL2⟩ : ∃ L2, L2 = L1.toArray.toList.take i ++ [.string ⟨#[]⟩] ++ L1.toArray.toList.drop (i + 1) := ⟨_, rfl⟩
  have hcl : ∀ ty, (Builtin.clear_ #[34] ty #[.slice (some ⟨r, i, none⟩) 1 1]).run Tryz.prog W1 = .ok (.tuple #[]) (W1.setRow r L2.toArray) := fun ty => by
    rw [hL2]
    exact run_clear_row W1 34 ty 9 inf (.string ⟨#[]⟩) hu52 hi0 hz0 rfl rfl r i 1 L1.toArray 9 hblk1 (by rw [List.size_toArray, hL1']; omega)
  have hfin : L2 = xs.eraseIdx i ++ [.string ⟨#[]⟩] := by
    rw [hL2, hL1', List.eraseIdx_eq_take_drop_succ]
    show xs.take i ++ [.string ⟨#[]⟩] ++ xs.drop (i + 1) = _
    rw [List.drop_of_length_le (by omega : xs.length ≤ i + 1)]
    simp
  have hl2 : L2.length = i + 1 := by
    rw [hfin, List.length_append, List.length_eraseIdx, if_pos (by omega), hn]
    rfl
  have hres := Lib.hid (show RS (W1.setRow r L2.toArray) r (i + 1) (xs.eraseIdx i) ∧ Did (· = r) w (W1.setRow r L2.toArray) from ⟨⟨[.string ⟨#[]⟩], by rw [← hfin]; exact setRow_heap _ _ _ _ _ _ hblk1, by rw [← hfin]; exact hl2⟩, did_row W1 r _ hD1⟩)
  clear hz0 hz1 hz2 hi0 hW1 hL1 hL2 hfin hl2 hL1' hblk1 hD1 hb hcs hblk0
  go_enter Tryz.func28, Tryz.ntmps28
  go_wp2
  refine start_ (n := 8) (S := fun w' => True) (ds := []) (m_ 8 0) (by kernel_rfl) rfl (by kernel_rfl) trivial (fun hHeld => ?_)
  refine pq_ 0 20 8 1 ?_
  refine pq_ 1 21 8 3 ?_
  refine pq_ 2 22 8 7 ?_
  refine pq_ 3 23 8 15 ?_
  refine pq_ 4 24 8 31 ?_
  refine pq_ 5 25 8 63 ?_
  refine one_ (i := 6) (N := some 26) (m_ 8 127) rfl rfl (by kernel_rfl) (by decide) (fun K hK => ?_)
  refine step_append_row rfl (.tmp 22) (.tmp 25) 34 rfl _ _ rfl rfl _ _ hra ?_
  refine hK.out _ _ trivial (fun hHeld => ?_)
  clear hK K
  refine norm_ (a' := ?_) ?_ ?_
  rotate_left
  · show Act.put _ (some 26) _ = _
    simp only [Act.put, List.setIfInBounds_toArray, List.set_cons_zero, List.set_cons_succ, i64_w, i32_w]
    rfl
  refine pq_ 7 0 8 255 ?_
  refine done_ (by kernel_rfl) ?_
  go_wp2
  go_ret
  exact ⟨rfl, hres.out⟩
theorem deleteS_any (w : World) (r n cap i : Nat) (xs : List Value) (hx : ∀ u ∈ xs, u.oneCell' = true) (hn : xs.length = n) (hi : i < n) (h20 : n ≤ 40) (hcap : n ≤ cap) (hm : cap ≤ 9223372036854775807) (hr : RS w r cap xs) :
    Calls Tryz.prog 28 #[.slice (some ⟨r, 0, none⟩) n cap, .int .i64 i, .int .i64 ((i : Int) + 1)] w fun e w' =>
      e = .returned (.slice (some ⟨r, 0, none⟩) (n - 1) cap) ∧ RS w' r cap (xs.eraseIdx i) ∧ Did (· = r) w w' := by
  by_cases h : i + 1 < cap
  · exact deleteS_in w r n cap i xs hx hn hi h h20 hcap hm hr
  · have e1 : n = i + 1 := by omega
    have e2 : cap = i + 1 := by omega
    subst e1
    subst e2
    exact deleteS_last w r i xs hx hn (by omega) hr
def idxN (l : List ByteArray) (s : ByteArray) : Option Nat := l.findIdx? fun x => s.toList == x.toList
def idxI (l : List ByteArray) (s : ByteArray) : Int := match idxN l s with | some i => (i : Int) | none => -1
theorem idx_some {l : List ByteArray} {s : ByteArray} {k : Nat} {x : ByteArray} (h : ∀ j y, j < k → l[j]? = some y → (s.toList == y.toList) = false) (hx : l[k]? = some x) (he : (s.toList == x.toList) = true) : idxN l s = some k := by
  unfold idxN
  obtain ⟨hk, e⟩ := List.getElem?_eq_some_iff.1 hx
  rw [List.findIdx?_eq_some_iff_getElem]
  refine ⟨hk, by rw [e]; exact he, fun j hj => ?_⟩
  have := h j _ hj (List.getElem?_eq_getElem (by omega))
  simp only [this]
  decide
theorem idx_none {l : List ByteArray} {s : ByteArray} (h : ∀ j y, j < l.length → l[j]? = some y → (s.toList == y.toList) = false) : idxN l s = none := by
  unfold idxN
  rw [List.findIdx?_eq_none_iff]
  intro y hy
  obtain ⟨j, hj, e⟩ := List.getElem_of_mem hy
  exact h j y hj (by rw [List.getElem?_eq_getElem hj, e])
theorem idx_lt {l : List ByteArray} {s : ByteArray} {k : Nat} (h : idxN l s = some k) : k < l.length := by
  unfold idxN at h
  rw [List.findIdx?_eq_some_iff_getElem] at h
  exact h.1
def SR (w : World) (v : Value) (l : List ByteArray) : Prop := ∃ A cap, v = .slice A l.length cap ∧ (l ≠ [] → ∃ g o, A = some ⟨g, o, none⟩ ∧ ∀ j x, l[j]? = some x → w.cell? ⟨g, o + j, none⟩ = some (.string x))
theorem index_any (w : World) (v : Value) (l : List ByteArray) (s : ByteArray) (h : SR w v l) (hl : l.length ≤ 1000000) :
    Calls Tryz.prog 27 #[v, .string s] w fun e w' => e = .returned (.int .i64 (idxI l s)) ∧ w = w' := by
  obtain ⟨A, cap, rfl, hA⟩ := h
  go_enter Tryz.func27, Tryz.ntmps27
  go_wp2
  go_loopw [8] (fun iv wr => ∃ k : Nat, k ≤ l.length ∧ iv = .int .i64 k ∧ w = wr ∧ ∀ j y, j < k → l[j]? = some y → (s.toList == y.toList) = false) (fun iv _ => l.length - (intOf iv).toNat)
  case atStart => exact ⟨0, by omega, rfl, rfl, fun j y hj => absurd hj (by omega)⟩
  case round =>
    obtain ⟨k, hk, rfl, rfl, hno⟩ := hrel
    by_cases hlt : k < l.length
    · obtain ⟨g, o, rfl, hc⟩ := hA (by intro h; subst h; simp at hlt)
      have hx : l[k]? = some l[k] := List.getElem?_eq_getElem hlt
      have d0 := hc k _ hx
      generalize l[k] = z at *
      cases hz : (s.toList == z.toList) with
      | true =>
        have he := Lib.hid (show idxI l s = (k : Int) by unfold idxI; rw [idx_some hno hx hz])
        clear hno hx hc hA
        go_wp2
        go_ret
        exact ⟨by rw [he.out]; rfl, rfl⟩
      | false =>
        have hno2 := Lib.hid (show ∀ j y, j < k + 1 → l[j]? = some y → (s.toList == y.toList) = false from fun j y hj hy => by
          by_cases e : j = k
          · subst e
            rw [hx] at hy
            cases hy
            exact hz
          · exact hno j y (by omega) hy)
        clear hno hx hc hA
        go_wp2
        go_roundw
        case rel => exact ⟨k + 1, by omega, by go_num, by first | rfl | trivial, hno2.out⟩
        case measure => simp [intOf]; omega
    · have hk2 : k = l.length := by omega
      subst hk2
      have hnl : ¬ (l.length < l.length) := by omega
      have he := Lib.hid (show idxI l s = -1 by unfold idxI; rw [idx_none hno])
      clear hno hA
      go_wp2
      go_ret
      exact ⟨by rw [he.out]; rfl, rfl⟩
theorem contains_any (w : World) (v : Value) (l : List ByteArray) (s : ByteArray) (h : SR w v l) (hl : l.length ≤ 1000000) :
    Calls Tryz.prog 22 #[v, .string s] w fun e w' => e = .returned (.bool (idxN l s).isSome) ∧ w = w' := by
  have hh := Lib.hid (index_any w v l s h hl)
  clear h
  go_enter Tryz.func22, Tryz.ntmps22
  go_wp2_with fail
  refine hh.out.mono ?_
  rintro e w1 ⟨rfl, rfl⟩
  unfold idxI
  cases hq : idxN l s with
  | some i =>
    have h0 : (0 : Int) ≤ (i : Int) := by omega
    have hq' := Lib.hid hq
    clear hh hq
    go_wp2
    go_ret
    exact ⟨by rw [hq'.out]; rfl, rfl⟩
  | none =>
    have hq' := Lib.hid hq
    clear hh hq
    go_wp2
    go_ret
    exact ⟨by rw [hq'.out]; rfl, rfl⟩
def NV (w : World) (v : Value) (l : List ByteArray) : Prop :=
  (v = .slice none 0 0 ∧ l = []) ∨ ∃ g cap, v = .slice (some ⟨g, 0, none⟩) l.length cap ∧ RS w g cap (l.map Value.string) ∧ cap ≤ 9223372036854775807
theorem NV.sr {w : World} {v : Value} {l : List ByteArray} (h : NV w v l) : SR w v l := by
  rcases h with ⟨rfl, rfl⟩ | ⟨g, cap, rfl, ⟨rest, hb, hl⟩, hc⟩
  · exact ⟨none, 0, rfl, fun h => absurd rfl h⟩
  · refine ⟨_, cap, rfl, fun _ => ⟨g, 0, rfl, fun j x hx => ?_⟩⟩
    rw [Nat.zero_add]
    refine (hb.cell j).trans ?_
    rw [List.getElem?_toArray, List.getElem?_append_left (by rw [List.length_map]; exact (List.getElem?_eq_some_iff.1 hx).1), List.getElem?_map, hx]
    rfl
theorem NV.kept {w w' : World} {v : Value} {l : List ByteArray} (h : NV w v l) (hk : ∀ j, v.ownBlock = some j → w'.heap[j]? = w.heap[j]?) : NV w' v l := by
  rcases h with h | ⟨g, cap, rfl, ⟨rest, hb, hl⟩, hc⟩
  · exact .inl h
  · exact .inr ⟨g, cap, rfl, ⟨rest, (hk g rfl).trans hb, hl⟩, hc⟩
theorem NV.typed {w : World} {v : Value} {l : List ByteArray} (h : NV w v l) {j : Nat} (hj : v.ownBlock = some j) : ∃ cs, Blk w j 9 cs := by
  rcases h with ⟨rfl, rfl⟩ | ⟨g, cap, rfl, ⟨rest, hb, hl⟩, hc⟩
  · cases hj
  · have e : g = j := by simpa [Value.ownBlock] using hj
    subst e
    exact ⟨_, hb⟩
theorem NV.owns {w : World} {v : Value} {l : List ByteArray} (h : NV w v l) : w.ownsRow 0 9 1 v l.length (l.map Value.string) := by
  rcases h with ⟨rfl, rfl⟩ | ⟨g, cap, rfl, ⟨rest, hb, hl⟩, hc⟩
  · exact World.ownsRow_nil _ _ _ _
  · refine ⟨by rw [List.length_map, Nat.mul_one], .inr ⟨g, cap, _, rfl, Nat.zero_le _, hb, ?_, by unfold maxLen; omega, ?_, ?_⟩⟩
    · rw [List.length_append, List.length_map] at hl; omega
    · rw [List.size_toArray, hl, Nat.mul_one]
    · show (l.map Value.string ++ rest).take (l.length * 1) = _
      rw [Nat.mul_one, List.take_append_of_le_length (by rw [List.length_map]; exact Nat.le_refl _), List.take_of_length_le (by rw [List.length_map]; exact Nat.le_refl _)]
theorem NV.of_owns {w : World} {v : Value} {l : List ByteArray} {base : Nat} (h : w.ownsRow base 9 1 v l.length (l.map Value.string)) : NV w v l := by
  rcases h.2 with ⟨rfl, h0⟩ | ⟨g, cap, cur, rfl, hg, hh, hnc, hcap, hsz, htake⟩
  · exact .inl ⟨rfl, List.length_eq_zero_iff.1 h0⟩
  · refine .inr ⟨g, cap, rfl, ⟨cur.toList.drop l.length, ?_, ?_⟩, by unfold maxLen at hcap; omega⟩
    · rw [Nat.mul_one] at htake
      rw [← htake, List.take_append_drop]
      exact hh
    · have e : cur.toList.length = cur.size := Array.length_toList
      rw [List.length_append, List.length_map, List.length_drop, e, hsz]; omega
end Go.Proofs.YtnkgjnmhiedfoaaGreat.Link
namespace Go.Proofs.YtnkgjnmhiedfoaaGreat.Link
open Go.RowKit Mem Tick Cargo Toxic Stage Chain
set_option linter.unusedVariables false
set_option linter.unusedSimpArgs false
structure Lk where
  c : Ch
  names : List ByteArray
  up : Bool
  seed : Int
  drawn : Int
  sent : Int
  got : Int
  done : Bool
def sendK (x : Lk) (now : Int) (b : ByteArray) : Lk := { x with c := putC x.c now b, sent := x.sent + (putCN x.c now b : Int) }
def finishK (x : Lk) (now : Int) : Lk := { x with c := closeC x.c now }
def cutK (x : Lk) : Lk := { x with c := breakC x.c }
def stepX (x : Lk) (now win : Int) : Ch := stepC now (takeC (stepC now x.c) now win)
def stepB (x : Lk) (now win : Int) : ByteArray := takeCB (stepC now x.c) now win
def tellB (x : Lk) (now win : Int) : Bool := !(x.done || decide ((stepX x now win).state = 0))
def stepE (x : Lk) (now win : Int) : Int := if tellB x now win = true then (stepX x now win).state else 0
def stepK (x : Lk) (now win : Int) : Lk := { x with c := stepX x now win, got := x.got + (stepB x now win).size, done := x.done || tellB x now win }
def dieK (x : Lk) : Int := Ref02.streamI (Ref02.mixI (Ref02.stepI x.seed)) [x.drawn]
def drawK (x : Lk) (t : Tox) : Tox := if Ref02.hiI (dieK x) 100 < t.often then t else noTox
def addE (x : Lk) (t : Tox) : Int := if chk t ≠ 0 ∨ t.up ≠ x.up then chk t else if (idxN x.names t.name).isSome = true then 141 else if 8 ≤ x.names.length then 110 else 0
def addsB (x : Lk) (t : Tox) : Bool := decide (chk t = 0 ∧ t.up = x.up) && !(idxN x.names t.name).isSome && decide (x.names.length < 8)
def addK (x : Lk) (t : Tox) (now : Int) : Lk :=
  if addsB x t = true then { x with c := insC x.c x.names.length (drawK x t) (Ref02.stepI (dieK x)) now, names := x.names ++ [t.name], drawn := x.drawn + 1 } else x
def dropE (x : Lk) (n : ByteArray) : Int := match idxN x.names n with | some i => remE x.c i | none => 142
def dropK (x : Lk) (n : ByteArray) (now : Int) : Lk := match idxN x.names n with | some i => { x with c := remC x.c i now, names := x.names.eraseIdx i } | none => x
def chgB (x : Lk) (t : Tox) : Option Nat := if chk t ≠ 0 ∨ t.up ≠ x.up then none else match idxN x.names t.name with
  | some i => if ((toxs x.c)[i]?).elim true passB = true then none else some i
  | none => none
def chgE (x : Lk) (t : Tox) : Int := if chk t ≠ 0 ∨ t.up ≠ x.up then chk t else match idxN x.names t.name with
  | some i => if ((toxs x.c)[i]?).elim true passB = true then 0 else updCE x.c i t
  | none => 142
def chgK (x : Lk) (t : Tox) (now : Int) : Lk := match chgB x t with | some i => { x with c := updC x.c i t now } | none => x
structure Op where
  kind : Int
  now : Int
  n : Int
  s : ByteArray
  t : Tox
def doesK (x : Lk) (o : Op) : Lk :=
  if o.kind = 0 then sendK x o.now o.s else if o.kind = 1 then finishK x o.now else if o.kind = 2 then cutK x else if o.kind = 3 then stepK x o.now o.n
  else if o.kind = 4 then addK x o.t o.now else if o.kind = 5 then dropK x o.s o.now else if o.kind = 6 then chgK x o.t o.now else x
structure OkK (x : Lk) (M Q : Int) : Prop where
  c : OkC x.c M Q
  n : x.names.length + 2 = x.c.l.length
  d0 : 0 ≤ x.drawn
  d1 : x.drawn ≤ 1000000000
  s0 : 0 ≤ x.seed
  s1 : x.seed < 18446744073709551616
  g0 : 0 ≤ x.got
  t0 : 0 ≤ x.sent
structure KK (x : Lk) (i o : ByteArray) : Prop where
  km : KM x.c i o
  sent : x.sent = i.size
  got : x.got = o.size
def inK (x : Lk) (o : Op) : ByteArray := if o.kind = 0 then o.s.extract 0 (putCN x.c o.now o.s) else ⟨#[]⟩
def outK (x : Lk) (o : Op) : ByteArray := if o.kind = 3 then stepB x o.now o.n else ⟨#[]⟩
theorem putN_size (x : Ch) (now : Int) (b : ByteArray) : (b.extract 0 (putCN x now b)).size = putCN x now b := ext_size _ _ (putCN_le _ _ _)
variable {x : Lk} {M Q : Int} {i o : ByteArray}
theorem km_ins {c : Ch} (h : KM c i o) (at_ : Int) (t : Tox) (seed now : Int) : KM (insC c at_ t seed now) i o := by
  have := km_does h ⟨5, now, at_, ⟨#[]⟩, t, seed⟩
  have e : (Chain.doesA c ⟨5, now, at_, ⟨#[]⟩, t, seed⟩).2.1 = ⟨#[]⟩ := rfl
  have e2 : inC c ⟨5, now, at_, ⟨#[]⟩, t, seed⟩ = ⟨#[]⟩ := rfl
  rw [e, e2, app_nil, app_nil] at this
  exact this
theorem km_rem {c : Ch} (h : KM c i o) (at_ now : Int) : KM (remC c at_ now) i o := by
  have := km_does h ⟨6, now, at_, ⟨#[]⟩, ⟨⟨#[]⟩, 0, false, 0, 0, 0⟩, 0⟩
  have e : (Chain.doesA c ⟨6, now, at_, ⟨#[]⟩, ⟨⟨#[]⟩, 0, false, 0, 0, 0⟩, 0⟩).2.1 = ⟨#[]⟩ := rfl
  have e2 : inC c ⟨6, now, at_, ⟨#[]⟩, ⟨⟨#[]⟩, 0, false, 0, 0, 0⟩, 0⟩ = ⟨#[]⟩ := rfl
  rw [e, e2, app_nil, app_nil] at this
  exact this
theorem km_upd {c : Ch} (h : KM c i o) (at_ : Int) (t : Tox) (now : Int) : KM (updC c at_ t now) i o := by
  have := km_does h ⟨7, now, at_, ⟨#[]⟩, t, 0⟩
  have e : (Chain.doesA c ⟨7, now, at_, ⟨#[]⟩, t, 0⟩).2.1 = ⟨#[]⟩ := rfl
  have e2 : inC c ⟨7, now, at_, ⟨#[]⟩, t, 0⟩ = ⟨#[]⟩ := rfl
  rw [e, e2, app_nil, app_nil] at this
  exact this
theorem km_break {c : Ch} (h : KM c i o) : KM (breakC c) i o := by
  have := km_does h ⟨2, 0, 0, ⟨#[]⟩, ⟨⟨#[]⟩, 0, false, 0, 0, 0⟩, 0⟩
  have e : (Chain.doesA c ⟨2, 0, 0, ⟨#[]⟩, ⟨⟨#[]⟩, 0, false, 0, 0, 0⟩, 0⟩).2.1 = ⟨#[]⟩ := rfl
  have e2 : inC c ⟨2, 0, 0, ⟨#[]⟩, ⟨⟨#[]⟩, 0, false, 0, 0, 0⟩, 0⟩ = ⟨#[]⟩ := rfl
  rw [e, e2, app_nil, app_nil] at this
  exact this
theorem KK.does (h : KK x i o) (p : Op) : KK (doesK x p) (i ++ inK x p) (o ++ outK x p) := by
  obtain ⟨h1, h2, h3⟩ := h
  unfold doesK inK outK
  by_cases k0 : p.kind = 0
  · rw [if_pos k0, if_pos k0, if_neg (by omega), app_nil]
    exact ⟨km_put h1 _ _, by show x.sent + _ = _; rw [ByteArray.size_append, putN_size]; omega, h3⟩
  rw [if_neg k0, if_neg k0, app_nil]
  by_cases k1 : p.kind = 1
  · rw [if_pos k1, if_neg (by omega), app_nil]
    exact ⟨km_close h1 _, h2, h3⟩
  rw [if_neg k1]
  by_cases k2 : p.kind = 2
  · rw [if_pos k2, if_neg (by omega), app_nil]
    exact ⟨km_break h1, h2, h3⟩
  rw [if_neg k2]
  by_cases k3 : p.kind = 3
  · rw [if_pos k3, if_pos k3]
    exact ⟨km_step (km_take (km_step h1 _) _ _) _, h2, by show x.got + _ = _; rw [ByteArray.size_append]; omega⟩
  rw [if_neg k3, if_neg k3, app_nil]
  by_cases k4 : p.kind = 4
  · rw [if_pos k4]
    unfold addK
    split
    · exact ⟨km_ins h1 _ _ _ _, h2, h3⟩
    · exact ⟨h1, h2, h3⟩
  rw [if_neg k4]
  by_cases k5 : p.kind = 5
  · rw [if_pos k5]
    unfold dropK
    split
    · exact ⟨km_rem h1 _ _, h2, h3⟩
    · exact ⟨h1, h2, h3⟩
  rw [if_neg k5]
  by_cases k6 : p.kind = 6
  · rw [if_pos k6]
    unfold chgK
    split
    · exact ⟨km_upd h1 _ _ _, h2, h3⟩
    · exact ⟨h1, h2, h3⟩
  rw [if_neg k6]
  exact ⟨h1, h2, h3⟩
end Go.Proofs.YtnkgjnmhiedfoaaGreat.Link
namespace Go.Proofs.YtnkgjnmhiedfoaaGreat.Link
open Go.RowKit Mem Tick Cargo Toxic Stage Chain
set_option linter.unusedVariables false
set_option linter.unusedSimpArgs false
variable {x : Lk} {M Q : Int}
theorem ins_len {c : Ch} (ho : OkC c M Q) (n : Nat) (hn : n + 2 = c.l.length) (h8 : n < 8) (t : Tox) (seed now : Int) (ht : passB t = true ∨ chk t = 0) : (insC c n t seed now).l.length = c.l.length + 1 := by
  have h2 := ho.two
  have hp : noPlace c (n : Int) = false := by
    unfold noPlace
    simp
    omega
  have he : newE t c.room = 0 := by
    unfold newE
    rw [if_neg (by rintro ⟨e1, e2⟩; rcases ht with e | e; rw [e] at e1; cases e1; exact e2 e)]
    rw [if_neg]
    have := ho.r0
    have := ho.r1
    simp [roomOk]
    omega
  have hE : insE c n t = 0 := by unfold insE; rw [hp]; exact he
  have hb : c.l[(n : Int).toNat + 1]? = some c.l[n + 1] := List.getElem?_eq_getElem (by omega)
  unfold insC
  rw [hE, if_neg (by decide), hb]
  show (c.l.take (n + 1) ++ _ :: c.l.drop (n + 1)).length = _
  rw [List.length_append, List.length_cons, List.length_take, List.length_drop]
  omega
theorem rem_len {c : Ch} (ho : OkC c M Q) (n : Nat) (hn : n + 2 < c.l.length) (now : Int) : (remC c n now).l.length = c.l.length - 1 := by
  have hb : isB c (n : Int) = true := by simp [isB]; omega
  unfold remC
  rw [hb, if_pos rfl]
  unfold remAt
  rw [show (n : Int).toNat = n from rfl, List.getElem?_eq_getElem (by omega : n + 1 < c.l.length), List.getElem?_eq_getElem (by omega : n + 1 + 1 < c.l.length)]
  dsimp only
  rw [List.length_eraseIdx, List.length_set]
  have e : ∀ (p : Prop) [Decidable p] (l : List Pa), (if p then loseL (n + 1) l else l).length = l.length := fun p _ l => by split; exact loseL_length _ _; rfl
  rw [e, List.length_set, List.length_set, if_pos (by omega)]
theorem upd_len (c : Ch) (at_ : Int) (t : Tox) (now : Int) : (updC c at_ t now).l.length = c.l.length := by
  unfold updC
  split
  · split
    · show (c.l.set _ _).length = _; rw [List.length_set]
    · rfl
  · rfl
theorem put_len (c : Ch) (n : Int) (b : ByteArray) : (putC c n b).l.length = c.l.length := by
  unfold putC
  split
  · rfl
  split
  · show (c.l.set _ _).length = _; rw [List.length_set]
  · rfl
theorem close_len (c : Ch) (n : Int) : (closeC c n).l.length = c.l.length := by
  unfold closeC
  split
  · split
    · show (c.l.set _ _).length = _; rw [List.length_set]
    · rfl
  · rfl
theorem break_len (c : Ch) : (breakC c).l.length = c.l.length := by
  have := congrArg List.length (kd_break c)
  simpa using this
theorem take_len (c : Ch) (n m : Int) : (takeC c n m).l.length = c.l.length := by
  unfold takeC
  split
  · rfl
  split
  · show (c.l.set _ _).length = _; rw [List.length_set]
  · rfl
theorem stepX_len (x : Lk) (n m : Int) : (stepX x n m).l.length = x.c.l.length := by
  unfold stepX
  rw [two_step, take_len, two_step]
theorem draw_ok (x : Lk) (t : Tox) (h : chk t = 0) : passB (drawK x t) = true ∨ chk (drawK x t) = 0 := by
  unfold drawK
  split
  · exact .inr h
  · exact .inl (by simp [passB, sameT, noTox])
theorem OkK.add (ho : OkK x M Q) (hQ : 0 ≤ Q) (hd : x.drawn + 1 ≤ 1000000000) (t : Tox) (now : Int) : OkK (addK x t now) M Q := by
  unfold addK
  split
  · rename_i h
    unfold addsB at h
    simp only [Bool.and_eq_true, decide_eq_true_eq] at h
    refine ⟨ok_ins ho.c hQ _ _ _ _, ?_, by have := ho.d0; show 0 ≤ x.drawn + 1; omega, hd, ho.s0, ho.s1, ho.g0, ho.t0⟩
    show (x.names ++ [t.name]).length + 2 = (insC x.c x.names.length (drawK x t) (Ref02.stepI (dieK x)) now).l.length
    rw [ins_len ho.c x.names.length ho.n h.2 _ _ _ (draw_ok x t h.1.1.1), List.length_append, List.length_singleton]
    have := ho.n
    omega
  · exact ho
theorem OkK.drop (ho : OkK x M Q) (n : ByteArray) (now : Int) : OkK (dropK x n now) M Q := by
  unfold dropK
  split
  · rename_i i hi
    have hl := idx_lt hi
    have hn := ho.n
    refine ⟨ok_rem ho.c _ _, ?_, ho.d0, ho.d1, ho.s0, ho.s1, ho.g0, ho.t0⟩
    show (x.names.eraseIdx i).length + 2 = (remC x.c (i : Int) now).l.length
    rw [rem_len ho.c i (by omega), List.length_eraseIdx, if_pos hl]
    omega
  · exact ho
theorem OkK.chg (ho : OkK x M Q) (t : Tox) (now : Int) : OkK (chgK x t now) M Q := by
  unfold chgK
  split
  · rename_i i hi
    exact ⟨ok_upd ho.c _ _ _, by show x.names.length + 2 = (updC x.c (i : Int) t now).l.length; rw [upd_len]; exact ho.n, ho.d0, ho.d1, ho.s0, ho.s1, ho.g0, ho.t0⟩
  · exact ho
theorem OkK.send (ho : OkK x M Q) (now : Int) (b : ByteArray) : OkK (sendK x now b) (M + b.size) Q :=
  ⟨ok_put ho.c now b, by show x.names.length + 2 = (putC x.c now b).l.length; rw [put_len]; exact ho.n, ho.d0, ho.d1, ho.s0, ho.s1, ho.g0, by have := ho.t0; show 0 ≤ x.sent + _; omega⟩
theorem OkK.step (ho : OkK x M Q) (now win : Int) : OkK (stepK x now win) M (Q + 30 * M) := by
  have hM : 0 ≤ M := by have := ho.c.held; omega
  exact ⟨(ok_step (ok_take (ok_step ho.c now) hM now win) now).more (Int.le_refl _) (by omega), by show x.names.length + 2 = (stepX x now win).l.length; rw [stepX_len]; exact ho.n, ho.d0, ho.d1, ho.s0, ho.s1, by have := ho.g0; show 0 ≤ x.got + _; omega, ho.t0⟩
theorem OkK.more (ho : OkK x M Q) {M' Q' : Int} (hM : M ≤ M') (hQ : Q ≤ Q') : OkK x M' Q' := ⟨ho.c.more hM hQ, ho.n, ho.d0, ho.d1, ho.s0, ho.s1, ho.g0, ho.t0⟩
theorem OkK.does (ho : OkK x M Q) (hQ : 0 ≤ Q) (hd : x.drawn + 1 ≤ 1000000000) (o : Op) : OkK (doesK x o) (M + o.s.size) (Q + 30 * (M + o.s.size)) := by
  have hM : 0 ≤ M := by have := ho.c.held; omega
  unfold doesK
  split
  · exact (ho.send _ _).more (by omega) (by omega)
  split
  · exact ⟨(ok_close ho.c _).more (by omega) (by omega), by show x.names.length + 2 = (closeC x.c _).l.length; rw [close_len]; exact ho.n, ho.d0, ho.d1, ho.s0, ho.s1, ho.g0, ho.t0⟩
  split
  · exact ⟨(ok_break ho.c).more (by omega) (by omega), by show x.names.length + 2 = (breakC x.c).l.length; rw [break_len]; exact ho.n, ho.d0, ho.d1, ho.s0, ho.s1, ho.g0, ho.t0⟩
  split
  · exact (ho.step _ _).more (by omega) (by omega)
  split
  · exact (ho.add hQ hd _ _).more (by omega) (by omega)
  split
  · exact (ho.drop _ _).more (by omega) (by omega)
  split
  · exact (ho.chg _ _).more (by omega) (by omega)
  · exact ho.more (by omega) (by omega)
theorem drawn_does (x : Lk) (o : Op) : (doesK x o).drawn ≤ x.drawn + 1 ∧ (doesK x o).seed = x.seed ∧ (doesK x o).up = x.up := by
  unfold doesK
  split
  · exact ⟨by show x.drawn ≤ _; omega, rfl, rfl⟩
  split
  · exact ⟨by show x.drawn ≤ _; omega, rfl, rfl⟩
  split
  · exact ⟨by show x.drawn ≤ _; omega, rfl, rfl⟩
  split
  · exact ⟨by show x.drawn ≤ _; omega, rfl, rfl⟩
  split
  · unfold addK
    split
    · exact ⟨by show x.drawn + 1 ≤ _; omega, rfl, rfl⟩
    · exact ⟨by omega, rfl, rfl⟩
  split
  · unfold dropK
    split
    · exact ⟨by show x.drawn ≤ _; omega, rfl, rfl⟩
    · exact ⟨by omega, rfl, rfl⟩
  split
  · unfold chgK
    split
    · exact ⟨by show x.drawn ≤ _; omega, rfl, rfl⟩
    · exact ⟨by omega, rfl, rfl⟩
  · exact ⟨by omega, rfl, rfl⟩
end Go.Proofs.YtnkgjnmhiedfoaaGreat.Link
namespace Go.Proofs.YtnkgjnmhiedfoaaGreat.Link
open Go.RowKit Mem Tick Cargo Toxic Stage Chain
set_option maxRecDepth 100000
set_option linter.unusedVariables false
set_option linter.unusedSimpArgs false
def lcells (c : Nat) (v : Value) (x : Lk) : Array Value := #[ptr c, v, .bool x.up, .int .u64 x.seed, .int .i64 x.drawn, .int .i64 x.sent, .int .i64 x.got, .int .i64 0, .int .i64 0, .bool x.done]
abbrev lts : List TypeId := [83, 9, 106, 101, 103, 123, 144, 146]
def LKG (w : World) (F : Nat → Prop) (b : Nat) (x : Lk) (G : Nat → Prop) (c : Nat) (D : Lay) (v : Value) : Prop :=
  Blk w b 83 (lcells c v x) ∧ CH w G c D x.c ∧ D.cap ≤ 9223372036854775807 ∧ NV w v x.names ∧ ∀ j, F j ↔ (j = b ∨ G j ∨ v.ownBlock = some j)
def LK (w : World) (F : Nat → Prop) (b : Nat) (x : Lk) : Prop := ∃ G c D v, LKG w F b x G c D v
def LTu (w : World) (F : Nat → Prop) (w' : World) (b : Nat) (y : Lk) : Prop := ∃ F', LK w' F' b y ∧ Did F w w' ∧ Stem F F' w
variable {w w' w1 : World} {F : Nat → Prop} {b : Nat} {x y : Lk}
theorem LK.typed (h : LK w F b x) : Typed w F lts := by
  obtain ⟨G, c, D, v, hb, hc, hcap, hn, hF⟩ := h
  intro j hj
  rcases (hF j).1 hj with rfl | hg | hv
  · exact ⟨_, by simp, _, hb⟩
  · obtain ⟨t, ht, cs, hb⟩ := hc.typed j hg
    exact ⟨t, List.mem_cons_of_mem _ (List.mem_cons_of_mem _ ht), cs, hb⟩
  · obtain ⟨cs, hb⟩ := hn.typed hv
    exact ⟨_, by simp, _, hb⟩
theorem LK.lt (h : LK w F b x) {j : Nat} (hj : F j) : j < w.heap.size := h.typed.lt hj
theorem LK.off (h : LK w F b x) {g : Nat} {t : TypeId} {cs : Array Value} (hb : Blk w g t cs) (ht : t ∉ lts) : ¬ F g := h.typed.out hb ht
theorem LK.kept (h : LK w F b x) (hk : ∀ j, F j → w'.heap[j]? = w.heap[j]?) : LK w' F b x := by
  obtain ⟨G, c, D, v, hb, hc, hcap, hn, hF⟩ := h
  exact ⟨G, c, D, v, (hk _ ((hF _).2 (.inl rfl))).trans hb, hc.kept fun j hj => hk j ((hF j).2 (.inr (.inl hj))), hcap, hn.kept fun j hj => hk j ((hF j).2 (.inr (.inr hj))), hF⟩
theorem LK.below (h : LK w F b x) (hb : Below w.heap.size w w') : LK w' F b x := h.kept fun j hj => hb.block j (h.lt hj)
theorem LK.far (h : LK w F b x) {g : Nat} {t : TypeId} {cs : Array Value} (hb : Blk w g t cs) (ht : t ∉ lts) (i : Nat) (u : Value) : LK (w.setCell ⟨g, i, none⟩ u) F b x :=
  h.kept fun j hj => Below.heap_setCell w ⟨g, i, none⟩ u j fun e => h.off hb ht (by have e' : j = g := e; exact e' ▸ hj)
theorem LTu.refl (h : LK w F b x) : LTu w F w b x := ⟨F, h, Did.refl _ _, Stem.refl _ _⟩
theorem LTu.below (h : LK w F b x) (hb : Below w.heap.size w w') : LTu w F w' b x := ⟨F, h.below hb, Did.of_below hb, Stem.refl _ _⟩
theorem LTu.next {w2 : World} {F1 : Nat → Prop} (hD : Did F w w1) (hS : Stem F F1 w) (k : LTu w1 F1 w2 b y) : LTu w F w2 b y := by
  obtain ⟨F', hL, hd, hs⟩ := k
  exact ⟨F', hL, hD.trans hS hd, hS.trans hD.size hs⟩
theorem LTu.trans {w2 : World} {z : Lk} (h : LTu w F w1 b y) (k : ∀ F', LK w1 F' b y → LTu w1 F' w2 b z) : LTu w F w2 b z := by
  obtain ⟨F', hL, hd, hs⟩ := h
  exact LTu.next hd hs (k F' hL)
theorem LKG.chain {G : Nat → Prop} {c : Nat} {D : Lay} {v : Value} (h : LKG w F b x G c D v) {y : Ch} {D' : Lay} {G' : Nat → Prop} (hC : CH w' G' c D' y) (hd : Did G w w') (hs : Stem G G' w) (hcap : D'.cap ≤ 9223372036854775807) :
    LKG w' (fun j => j = b ∨ G' j ∨ v.ownBlock = some j) b { x with c := y } G' c D' v ∧ Did F w w' ∧ Stem F (fun j => j = b ∨ G' j ∨ v.ownBlock = some j) w := by
  obtain ⟨hb, hc, hcp, hn, hF⟩ := h
  have hbn : ¬ G b := hc.typed.out hb (by decide)
  have hvn : ∀ j, v.ownBlock = some j → ¬ G j := fun j hj => by
    obtain ⟨cs, hvb⟩ := hn.typed hj
    exact hc.typed.out hvb (by decide)
  refine ⟨⟨hb.did hd hbn, hC, hcap, hn.kept fun j hj => ?_, fun j => Iff.rfl⟩, hd.more fun j hj => .inl ((hF j).2 (.inr (.inl hj))), fun j hj => ?_⟩
  · obtain ⟨cs, hvb⟩ := hn.typed hj
    exact hd.block j hvb.lt (hvn j hj)
  · rcases hj with rfl | hj | hj
    · exact .inl ((hF _).2 (.inl rfl))
    · exact (hs j hj).imp (fun e => (hF j).2 (.inr (.inl e))) id
    · exact .inl ((hF j).2 (.inr (.inr hj)))
theorem LKG.turn {G : Nat → Prop} {c : Nat} {D : Lay} {v : Value} (h : LKG w F b x G c D v) {y : Ch} (hT : TuD w G w' c y) :
    ∃ F' G' D', LKG w' F' b { x with c := y } G' c D' v ∧ Did F w w' ∧ Stem F F' w := by
  obtain ⟨D', G', hC, hd, hs, hcap⟩ := hT
  obtain ⟨h1, h2, h3⟩ := h.chain hC hd hs hcap
  exact ⟨_, G', D', h1, h2, h3⟩
theorem LKG.cell {G : Nat → Prop} {c : Nat} {D : Lay} {v : Value} (h : LKG w F b x G c D v) (i : Nat) : w.cell? ⟨b, i, none⟩ = (lcells c v x)[i]? := h.1.cell i
theorem LKG.free {G : Nat → Prop} {c : Nat} {D : Lay} {v : Value} (h : LKG w F b x G c D v) (i : Nat) : w.frozen? ⟨b, i, none⟩ = false := h.1.free i
theorem LKG.set {G : Nat → Prop} {c : Nat} {D : Lay} {v : Value} (h : LKG w F b x G c D v) (i : Nat) (u : Value) (x' : Lk) (hs : (lcells c v x).setIfInBounds i u = lcells c v x') (hc : x'.c = x.c) (hn : x'.names = x.names) :
    LKG (w.setCell ⟨b, i, none⟩ u) F b x' G c D v ∧ F b := by
  obtain ⟨hb, hC, hcap, hN, hF⟩ := h
  have hb2 := hb.set_ i u
  rw [hs] at hb2
  refine ⟨⟨hb2, ?_, hcap, ?_, hF⟩, (hF b).2 (.inl rfl)⟩
  · rw [hc]
    exact hC.kept fun j hj => Below.heap_setCell _ _ _ j (by rintro rfl; exact hC.typed.out hb (by decide) hj)
  · rw [hn]
    refine hN.kept fun j hj => Below.heap_setCell _ _ _ j ?_
    rintro rfl
    obtain ⟨cs, hvb⟩ := hN.typed hj
    exact absurd (hb.ty hvb) (by decide)
theorem LKG.lk {G : Nat → Prop} {c : Nat} {D : Lay} {v : Value} (h : LKG w F b x G c D v) : LK w F b x := ⟨G, c, D, v, h⟩
theorem kDone_any (h : LK w F b x) :
    Calls Tryz.prog 32 #[ptr b] w fun e w' => e = .returned (.bool x.done) ∧ w = w' := by
  obtain ⟨G, c, D, v, h⟩ := h
  have c9 : w.cell? ⟨b, 9, none⟩ = some (.bool x.done) := (h.cell 9).trans rfl
  clear h
  go_enter Tryz.func32, Tryz.ntmps32
  go_wp2
  go_ret
  exact ⟨rfl, rfl⟩
theorem kFinish_any (h : LK w F b x) {M Q : Int} (ho : OkK x M Q) (now : Int) :
    Calls Tryz.prog 48 #[ptr b, .int .i64 now] w fun e w' => e = .returned (.tuple #[]) ∧ LTu w F w' b (finishK x now) := by
  obtain ⟨G, c, D, v, h⟩ := h
  have c0 : w.cell? ⟨b, 0, none⟩ = some (ptr c) := (h.cell 0).trans rfl
  have H := Lib.hid h
  have hh := Lib.hid (cClose_any h.2.1 ho.c.two ho.c.ten now)
  clear h ho
  go_enter Tryz.func48, Tryz.ntmps48
  go_wp2_with fail
  refine hh.out.mono ?_
  rintro e w1 ⟨rfl, hT⟩
  obtain ⟨F', G', D', h1, h2, h3⟩ := H.out.turn (hT.tuD H.out.2.2.1)
  have hr := Lib.hid (show LTu w F w1 b (finishK x now) from ⟨F', h1.lk, h2, h3⟩)
  clear hT h1 h2 h3 hh H
  go_wp2
  go_end0
  exact ⟨rfl, hr.out⟩
theorem kCut_any (h : LK w F b x) {M Q : Int} (ho : OkK x M Q) (hM : M ≤ 1000000000) (now : Int) :
    Calls Tryz.prog 40 #[ptr b, .int .i64 now] w fun e w' => e = .returned (.tuple #[]) ∧ LTu w F w' b (cutK x) := by
  obtain ⟨G, c, D, v, h⟩ := h
  have c0 : w.cell? ⟨b, 0, none⟩ = some (ptr c) := (h.cell 0).trans rfl
  have H := Lib.hid h
  have hh := Lib.hid (cBreak_any h.2.1 now ho.c.ten ho.c.lost0 (Int.le_trans ho.c.lost hM))
  clear h ho
  go_enter Tryz.func40, Tryz.ntmps40
  go_wp2_with fail
  refine hh.out.mono ?_
  rintro e w1 ⟨rfl, hT⟩
  obtain ⟨F', G', D', h1, h2, h3⟩ := H.out.turn (hT.tuD H.out.2.2.1)
  have hr := Lib.hid (show LTu w F w1 b (cutK x) from ⟨F', h1.lk, h2, h3⟩)
  clear hT h1 h2 h3 hh H
  go_wp2
  go_end0
  exact ⟨rfl, hr.out⟩
theorem w_sum (a : Int) (n : Nat) (h0 : 0 ≤ a) (h : a + n ≤ 1000000000) : wrap64 (a + (n : Int)) = a + (n : Int) := by unfold wrap64; omega
theorem kSend_any (h : LK w F b x) {M Q : Int} (ho : OkK x M Q) (now : Int) (A : Option Addr) (cap : Nat) (z : ByteArray) (hc : z.size ≤ cap) (hb : BS w A z) (hoff : BS.Off A F) (hM : M + z.size ≤ 1000000000) (hs : x.sent + z.size ≤ 1000000000) :
    Calls Tryz.prog 38 #[ptr b, .int .i64 now, .slice A z.size cap] w fun e w' => e = .returned (.int .i64 (putCN x.c now z)) ∧ LTu w F w' b (sendK x now z) := by
  obtain ⟨G, c, D, v, h⟩ := h
  have c0 : w.cell? ⟨b, 0, none⟩ = some (ptr c) := (h.cell 0).trans rfl
  have H := Lib.hid h
  have hw := Lib.hid (w_sum x.sent (putCN x.c now z) ho.t0 (by have := putCN_le x.c now z; omega))
  have hh := Lib.hid (cPut_any h.2.1 ho.c now A cap z hc hb (fun g o e hf => hoff g o e ((h.2.2.2.2 g).2 (.inr (.inl hf)))) hM)
  clear h ho hb hoff
  go_enter Tryz.func38, Tryz.ntmps38
  go_wp2_with fail
  refine hh.out.mono ?_
  rintro e w1 ⟨rfl, hT⟩
  obtain ⟨F', G', D', h1, h2, h3⟩ := H.out.turn (hT.tuD H.out.2.2.1)
  have d5 : w1.cell? ⟨b, 5, none⟩ = some (.int .i64 x.sent) := (h1.cell 5).trans rfl
  have f5 := h1.free 5
  have hset := h1.set 5 (.int .i64 (x.sent + (putCN x.c now z : Int))) (sendK x now z) rfl rfl rfl
  have hr := Lib.hid (show LTu w F (w1.setCell ⟨b, 5, none⟩ (.int .i64 (x.sent + (putCN x.c now z : Int)))) b (sendK x now z) from LTu.next h2 h3 ⟨F', hset.1.lk, (Did.refl F' w1).setCell (p := ⟨b, 5, none⟩) (.inl hset.2) _, Stem.refl _ _⟩)
  have hwo := hw.out
  clear hT h1 h2 h3 hh H hset hw
  go_wp2
  go_ret
  exact ⟨rfl, hr.out⟩
end Go.Proofs.YtnkgjnmhiedfoaaGreat.Link
namespace Go.Proofs.YtnkgjnmhiedfoaaGreat.Link
open Go.RowKit Mem Tick Cargo Toxic Stage Chain
open Go.Proofs.YtnkgjnmhiedfoaaGreatW.PrintLast Pu
set_option maxRecDepth 100000
set_option linter.unusedVariables false
set_option linter.unusedSimpArgs false
variable {w w' w1 : World} {F : Nat → Prop} {b : Nat} {x y : Lk} {M Q : Int}
theorem bs_lt {A : Option Addr} {s : ByteArray} (h : BS w A s) (hp : 0 < s.size) {g o : Nat} (e : A = some ⟨g, o, none⟩) : g < w.heap.size := by
  obtain ⟨g', o', e', hb⟩ := h hp
  rw [e] at e'
  injection e' with e'
  injection e' with e1 e2
  subst e1
  exact World.block_lt_of_cell? w _ (hb 0 hp)
set_option maxHeartbeats 1000000 in
theorem kStep_any (h : LK w F b x) (ho : OkK x M Q) (hM : M ≤ 1000000) (hQ : Q ≤ 100000000) (hg : x.got + M ≤ 1000000000) (now win : Int) :
    Calls Tryz.prog 39 #[ptr b, .int .i64 now, .int .i64 win] w fun e w' => ∃ A cap F', e = .returned (.tuple #[.slice A (stepB x now win).size cap, .int .i64 (stepE x now win)]) ∧ BS w' A (stepB x now win) ∧ Newly w A ∧ LK w' F' b (stepK x now win) ∧ Did F w w' ∧ Stem F F' w ∧ (0 < (stepB x now win).size → BS.Off A F') := by
  obtain ⟨G, c, D, v, h⟩ := h
  have c0 : w.cell? ⟨b, 0, none⟩ = some (ptr c) := (h.cell 0).trans rfl
  have H := Lib.hid h
  have ho1 := Lib.hid (ok_step ho.c now)
  have hM0 : 0 ≤ M := by have := ho.c.held; omega
  have ho2 := Lib.hid (ok_take ho1.out hM0 now win)
  have hsz : (stepB x now win).size ≤ M.toNat := by
    have h1 := (flow_massIO (flow_take (stepC now x.c) now win)).1
    have h2 := ho1.out.lost
    have h3 := ho2.out.lost0
    have e0 : ((⟨#[]⟩ : ByteArray).size : Int) = 0 := rfl
    rw [e0] at h1
    unfold stepB
    omega
  have hw := Lib.hid (w_sum x.got (stepB x now win).size ho.g0 (by omega))
  have hblt : b < w.heap.size := h.1.lt
  have hvlt := Lib.hid (show ∀ j, v.ownBlock = some j → j < w.heap.size from fun j hj => by obtain ⟨cs, hvb⟩ := h.2.2.2.1.typed hj; exact hvb.lt)
  have hh := Lib.hid (cStep_any h.2.1 ho.c (by omega) (by omega) now)
  clear h ho
  go_enter Tryz.func39, Tryz.ntmps39
  go_wp2_with fail
  refine hh.out.mono ?_
  rintro e w1 ⟨rfl, hT⟩
  obtain ⟨F1, G1, D1, h1, hd1, hs1⟩ := H.out.turn (hT.tuD H.out.2.2.1)
  have c1 : w1.cell? ⟨b, 0, none⟩ = some (ptr c) := (h1.cell 0).trans rfl
  have hh2 := Lib.hid (cTake_any h1.2.1 ho1.out now win (by omega) (by omega))
  have H1 := Lib.hid h1
  have hDS1 := Lib.hid (And.intro hd1 hs1)
  have hsz1 : w.heap.size ≤ w1.heap.size := hd1.size
  clear hT h1 hd1 hs1 hh H c0
  go_wp2_with fail
  refine hh2.out.mono ?_
  rintro e w2 ⟨A2, cp2, rfl, hb2, hn2, G2, hC2, hd2, hs2, hsub⟩
  have hoff := Lib.hid (show BS.Off A2 G2 from fun g o e hg => by have := hn2 g o e; have := H1.out.2.1.lt (hsub g hg); omega)
  have hne := Lib.hid (show ∀ g, (∃ o, A2 = some ⟨g, o, none⟩) → g ≠ b from fun g ⟨o, e⟩ hgb => by have := hn2 g o e; omega)
  have hnw := Lib.hid (show Newly w A2 from fun g o e => Nat.le_trans hsz1 (hn2 g o e))
  obtain ⟨h2, hd2', hs2'⟩ := H1.out.chain hC2 hd2 hs2 H1.out.2.2.1
  have hDS2 := Lib.hid (And.intro (hDS1.out.1.trans hDS1.out.2 hd2') (hDS1.out.2.trans hDS1.out.1.size hs2'))
  have d6 : w2.cell? ⟨b, 6, none⟩ = some (.int .i64 x.got) := (h2.cell 6).trans rfl
  have f6 := h2.free 6
  have c2 : w2.cell? ⟨b, 0, none⟩ = some (ptr c) := (h2.cell 0).trans rfl
  have hset := h2.set 6 (.int .i64 (x.got + ((stepB x now win).size : Int))) { x with c := takeC (stepC now x.c) now win, got := x.got + ((stepB x now win).size : Int) } rfl rfl rfl
  have hb3 := Lib.hid (show BS (w2.setCell ⟨b, 6, none⟩ (.int .i64 (x.got + ((stepB x now win).size : Int)))) A2 (stepB x now win) from BS.kept hb2 fun g hg _ => Below.heap_setCell _ _ _ g (hne.out g hg))
  have hDS3 := Lib.hid (show Did F w (w2.setCell ⟨b, 6, none⟩ (.int .i64 (x.got + ((stepB x now win).size : Int)))) from hDS2.out.1.trans hDS2.out.2 ((Did.refl _ w2).setCell (p := ⟨b, 6, none⟩) (.inl hset.2) _))
  have H3 := Lib.hid hset.1
  have hh3 := Lib.hid (cStep_any hset.1.2.1 ho2.out (by omega) (by omega) now)
  have hwo := hw.out
  have esz : (takeCB (stepC now x.c) now win).size = (stepB x now win).size := rfl
  rw [esz]
  clear hb2 hn2 hC2 hd2 hs2 hsub h2 hd2' hs2' hset hh2 H1 hDS1 c1 hw esz
  generalize hBB : stepB x now win = B at *
  go_wp2_with fail
  refine hh3.out.mono ?_
  rintro e w4 ⟨rfl, hT4⟩
  have hb4 : BS w4 A2 B := by
    obtain ⟨G4, _, hd4, _⟩ := hT4
    exact BS_did hb3.out hoff.out hd4
  obtain ⟨F4, G4, D4, h4, hd4, hs4⟩ := H3.out.turn (hT4.tuD H3.out.2.2.1)
  have d9 : w4.cell? ⟨b, 9, none⟩ = some (.bool x.done) := (h4.cell 9).trans rfl
  have f9 := h4.free 9
  have hDS4 := Lib.hid (And.intro (hDS3.out.trans hDS2.out.2 hd4) (hDS2.out.2.trans hDS2.out.1.size (fun j hj => by rcases hs4 j hj with q | q; exact .inl q; exact .inr (by simpa using q))))
  have H4 := Lib.hid h4
  have hoff4 := Lib.hid (show 0 < B.size → BS.Off A2 F4 from fun hp g o e hg => by
    have hlt := bs_lt hb3.out hp e
    rcases hs4 g hg with q | q
    · rcases q with q | q | q
      · exact hne.out g ⟨o, e⟩ q
      · exact hoff.out g o e q
      · have := hvlt.out g q
        have := hnw.out g o e
        omega
    · exact absurd hlt (Nat.not_lt.2 q))
  have hst : (stepC now (takeC (stepC now x.c) now win)).state = (stepX x now win).state := rfl
  have hb4' := Lib.hid hb4
  rw [hst]
  clear hb4 hT4 h4 hd4 hs4 hh3 H3 hDS3 hb3 hoff d6 f6 c2 hst hDS2 hwo
  cases hdn : x.done with
  | true =>
    have e1 : stepE x now win = 0 := by unfold stepE tellB; rw [hdn]; rfl
    have e2 : stepK x now win = { x with c := stepX x now win, got := x.got + (B.size : Int), done := x.done } := by unfold stepK; rw [hBB, hdn]; rfl
    have hr := Lib.hid (show LK w4 F4 b (stepK x now win) ∧ Did F w w4 ∧ Stem F F4 w from ⟨by rw [e2]; exact H4.out.lk, hDS4.out.1, hDS4.out.2⟩)
    rw [hdn] at d9
    have e1' := Lib.hid e1
    clear e1 e2 H4 hDS4 hdn
    go_wp2
    go_ret2
    exact ⟨A2, cp2, F4, by (rw [e1'.out, hBB]; try rfl), by rw [hBB]; exact hb4'.out, hnw.out, hr.out.1, hr.out.2.1, hr.out.2.2, by rw [hBB]; exact hoff4.out⟩
  | false =>
    rw [hdn] at d9
    by_cases hz : (stepX x now win).state = 0
    · have e1 : stepE x now win = 0 := by unfold stepE tellB; rw [hdn, hz]; rfl
      have e2 : stepK x now win = { x with c := stepX x now win, got := x.got + (B.size : Int), done := x.done } := by unfold stepK tellB; rw [hBB, hdn, hz]; rfl
      have hr := Lib.hid (show LK w4 F4 b (stepK x now win) ∧ Did F w w4 ∧ Stem F F4 w from ⟨by rw [e2]; exact H4.out.lk, hDS4.out.1, hDS4.out.2⟩)
      rw [hz]
      have e1' := Lib.hid e1
      clear e1 e2 H4 hDS4 hdn hz
      go_wp2
      go_ret2
      exact ⟨A2, cp2, F4, by (rw [e1'.out, hBB]; try rfl), by rw [hBB]; exact hb4'.out, hnw.out, hr.out.1, hr.out.2.1, hr.out.2.2, by rw [hBB]; exact hoff4.out⟩
    · have tb : tellB x now win = true := by unfold tellB; rw [hdn]; simp [hz]
      have e1 : stepE x now win = (stepX x now win).state := by unfold stepE; rw [if_pos tb]
      have e2 : stepK x now win = { x with c := stepX x now win, got := x.got + (B.size : Int), done := true } := by unfold stepK; rw [hBB, tb]; simp
      have hset := H4.out.set 9 (.bool true) (stepK x now win) (by rw [e2]; rfl) (by rw [e2]; rfl) (by rw [e2])
      have hr := Lib.hid (show LK (w4.setCell ⟨b, 9, none⟩ (.bool true)) F4 b (stepK x now win) ∧ Did F w (w4.setCell ⟨b, 9, none⟩ (.bool true)) ∧ Stem F F4 w from ⟨hset.1.lk, hDS4.out.1.trans hDS4.out.2 ((Did.refl F4 w4).setCell (p := ⟨b, 9, none⟩) (.inl hset.2) _), hDS4.out.2⟩)
      have hb5 := Lib.hid (show BS (w4.setCell ⟨b, 9, none⟩ (.bool true)) A2 B from BS.kept hb4'.out fun g hg _ => Below.heap_setCell _ _ _ g (hne.out g hg))
      have tz : ((stepX x now win).state == 0) = false := by simpa using hz
      have e1' := Lib.hid e1
      clear e1 e2 H4 hDS4 hdn hz tb hset
      go_wp2
      go_ret2
      exact ⟨A2, cp2, F4, by (rw [e1'.out, hBB]; try rfl), by rw [hBB]; exact hb5.out, hnw.out, hr.out.1, hr.out.2.1, hr.out.2.2, by rw [hBB]; exact hoff4.out⟩
theorem LKG.names {G : Nat → Prop} {c : Nat} {D : Lay} {v v' : Value} {l' : List ByteArray} (h : LKG w F b x G c D v) (hd : Did (fun j => v.ownBlock = some j) w w1) (hN : NV w1 v' l') (hv : ∀ j, v'.ownBlock = some j → v.ownBlock = some j ∨ w.heap.size ≤ j) :
    LKG (w1.setCell ⟨b, 1, none⟩ v') (fun j => j = b ∨ G j ∨ v'.ownBlock = some j) b { x with names := l' } G c D v' ∧ Did F w (w1.setCell ⟨b, 1, none⟩ v') ∧ Stem F (fun j => j = b ∨ G j ∨ v'.ownBlock = some j) w := by
  obtain ⟨hb, hC, hcap, hNV, hF⟩ := h
  have hbv : ¬ (v.ownBlock = some b) := fun e => by
    obtain ⟨cs, hvb⟩ := hNV.typed e
    exact absurd (hb.ty hvb) (by decide)
  have hGv : ∀ j, G j → ¬ (v.ownBlock = some j) := fun j hj e => by
    obtain ⟨cs, hvb⟩ := hNV.typed e
    exact hC.typed.out hvb (by decide) hj
  have hb1 : Blk w1 b 83 (lcells c v x) := hb.did hd hbv
  refine ⟨⟨?_, ?_, hcap, ?_, fun j => Iff.rfl⟩, ?_, fun j hj => ?_⟩
  · have := hb1.set_ 1 v'
    unfold lcells at this ⊢
    simpa using this
  · refine hC.kept fun j hj => (Below.heap_setCell _ _ _ j ?_).trans (hd.block j (hC.lt hj) (hGv j hj))
    rintro rfl
    exact hC.typed.out hb (by decide) hj
  · refine hN.kept fun j hj => Below.heap_setCell _ _ _ j ?_
    rintro rfl
    obtain ⟨cs, hvb⟩ := hN.typed hj
    exact absurd (hb1.ty hvb) (by decide)
  · exact (hd.more fun j hj => .inl ((hF j).2 (.inr (.inr hj)))).setCell (p := ⟨b, 1, none⟩) (.inl ((hF b).2 (.inl rfl))) _
  · rcases hj with rfl | hj | hj
    · exact .inl ((hF _).2 (.inl rfl))
    · exact .inl ((hF j).2 (.inr (.inl hj)))
    · exact (hv j hj).imp (fun e => (hF j).2 (.inr (.inr e))) id
theorem str_one (l : List ByteArray) : ∀ u ∈ l.map Value.string, u.oneCell' = true := fun u hu => by obtain ⟨q, _, rfl⟩ := List.mem_map.1 hu; rfl
theorem map_erase (l : List ByteArray) (i : Nat) : (l.map Value.string).eraseIdx i = (l.eraseIdx i).map Value.string := by
  rw [List.eraseIdx_eq_take_drop_succ, List.eraseIdx_eq_take_drop_succ, List.map_append, List.map_take, List.map_drop]
theorem kDrop_any (h : LK w F b x) (ho : OkK x M Q) (hM : M ≤ 1000000000) (n : ByteArray) (now : Int) :
    Calls Tryz.prog 26 #[ptr b, .string n, .int .i64 now] w fun e w' => e = .returned (.int .i64 (dropE x n)) ∧ LTu w F w' b (dropK x n now) := by
  obtain ⟨G, c, D, v, h⟩ := h
  have hnl : x.names.length ≤ 8 := by have := ho.n; have := ho.c.ten; omega
  have c1 : w.cell? ⟨b, 1, none⟩ = some v := (h.cell 1).trans rfl
  have hi := Lib.hid (index_any w v x.names n h.2.2.2.1.sr (by omega))
  have hoc := Lib.hid ho.c
  unfold dropE dropK
  unfold idxI at hi
  cases hix : idxN x.names n with
  | none =>
    rw [hix] at hi
    have hr := Lib.hid (LTu.refl h.lk)
    clear h ho hix
    go_enter Tryz.func26, Tryz.ntmps26
    go_wp2_with fail
    refine hi.out.mono ?_
    rintro e w1 ⟨rfl, rfl⟩
    clear hi
    go_wp2
    go_ret
    exact ⟨rfl, hr.out⟩
  | some i =>
    rw [hix] at hi
    have hilt := idx_lt hix
    have hN := h.2.2.2.1
    rcases hN with ⟨_, e⟩ | ⟨g, cap, hv, hRS, hcap2⟩
    · rw [e] at hilt
      simp at hilt
    · subst hv
      have hncap : x.names.length ≤ cap := by
        obtain ⟨rest, _, hl⟩ := hRS
        rw [List.length_append, List.length_map] at hl
        omega
      have hdel := Lib.hid (deleteS_any w g x.names.length cap i (x.names.map Value.string) (str_one _) (by rw [List.length_map]) hilt (by omega) hncap hcap2 hRS)
      have hw1 := Lib.hid (wr_at i (by omega))
      have hneg : decide ((i : Int) < 0) = false := decide_eq_false (by omega)
      have H := Lib.hid h
      have hlen := Lib.hid (show (x.names.eraseIdx i).length = x.names.length - 1 by rw [List.length_eraseIdx, if_pos hilt])
      clear h ho hix hRS
      generalize hnn : x.names.length = n1 at *
      go_enter Tryz.func26, Tryz.ntmps26
      go_wp2_with fail
      refine hi.out.mono ?_
      rintro e w1 ⟨rfl, rfl⟩
      clear hi
      have hw1' := hw1.out
      go_wp2_with fail
      refine hdel.out.mono ?_
      rintro e w2 ⟨rfl, hRS2, hD2⟩
      have hN2 : NV w2 (.slice (some ⟨g, 0, none⟩) (n1 - 1) cap) (x.names.eraseIdx i) := .inr ⟨g, cap, by rw [hlen.out], by rw [← map_erase]; exact hRS2, hcap2⟩
      have hD2' : Did (fun j => (Value.slice (some ⟨g, 0, none⟩) n1 cap).ownBlock = some j) w w2 := hD2.more fun j hj => .inl (by subst hj; rfl)
      have hset := H.out.names hD2' hN2 (fun j hj => .inl hj)
      have hb2 := H.out.1.did hD2' (fun e => by
        obtain ⟨cs, hvb⟩ := H.out.2.2.2.1.typed e
        exact absurd (H.out.1.ty hvb) (by decide))
      have d0 : w2.cell? ⟨b, 0, none⟩ = some (ptr c) := (hb2.cell 0).trans rfl
      have d1 : w2.cell? ⟨b, 1, none⟩ = some (.slice (some ⟨g, 0, none⟩) n1 cap) := (hb2.cell 1).trans rfl
      have f1 := hb2.free 1
      have hrem := Lib.hid (cRemove_any hset.1.2.1 hoc.out hM hset.1.2.2.1 (i : Int) now)
      have HS := Lib.hid hset
      clear hset hb2 hD2 hD2' hN2 hRS2 hdel H c1 hw1'
      go_wp2_with fail
      refine hrem.out.mono ?_
      rintro e w3 ⟨rfl, hT⟩
      obtain ⟨F3, G3, D3, h3, hd3, hs3⟩ := HS.out.1.turn hT
      have hr := Lib.hid (show LTu w F w3 b { x with c := remC x.c (i : Int) now, names := x.names.eraseIdx i } from LTu.next HS.out.2.1 HS.out.2.2 ⟨F3, h3.lk, hd3, hs3⟩)
      clear hT h3 hd3 hs3 hrem HS
      go_wp2
      go_ret
      exact ⟨rfl, hr.out⟩
def countsV (x : Lk) : Value := .agg #[.int .i64 x.sent, .int .i64 x.got, .int .i64 (heldL x.c.l), .int .i64 x.c.lost]
theorem kCounts_any (h : LK w F b x) (ho : OkK x M Q) (hM : M ≤ 1000000000) :
    Calls Tryz.prog 34 #[ptr b] w fun e w' => e = .returned (countsV x) ∧ Below w.heap.size w w' := by
  obtain ⟨G, c, D, v, h⟩ := h
  have hb := h.1
  have hlt := hb.lt
  obtain ⟨W, hW⟩ : ∃ W, W = (w.alloc (.cells #[.int .i64 0, .int .i64 0, .int .i64 0, .int .i64 0] 52)).alloc (.cells #[.int .i64 x.sent, .int .i64 x.got, .int .i64 0, .int .i64 0] 52) := ⟨_, rfl⟩
  have hB : Below w.heap.size w W := by rw [hW]; exact ((Below.refl _ _).alloc (Nat.le_refl _) _).alloc (by simp) _
  have hR : Blk W w.heap.size 52 #[.int .i64 0, .int .i64 0, .int .i64 0, .int .i64 0] := by rw [hW]; exact (Blk.new w _ _).below ((Below.refl _ _).alloc (Nat.le_refl _) _)
  have hX : Blk W (w.heap.size + 1) 52 #[.int .i64 x.sent, .int .i64 x.got, .int .i64 0, .int .i64 0] := by
    rw [hW]
    have := Blk.new (w.alloc (.cells #[.int .i64 0, .int .i64 0, .int .i64 0, .int .i64 0] 52)) 52 #[.int .i64 x.sent, .int .i64 x.got, .int .i64 0, .int .i64 0]
    simpa using this
  have HC := Lib.hid (show CH W G c D x.c from h.2.1.below hB)
  have hh := ho.c.held
  have hhe := Lib.hid (cHeld_any HC.out.drew (by omega) ho.c.ten)
  have c0 : w.cell? ⟨b, 0, none⟩ = some (ptr c) := (hb.cell 0).trans rfl
  have c5 : w.cell? ⟨b, 5, none⟩ = some (.int .i64 x.sent) := (hb.cell 5).trans rfl
  have c6 : w.cell? ⟨b, 6, none⟩ = some (.int .i64 x.got) := (hb.cell 6).trans rfl
  have c7 : w.cell? ⟨b, 7, none⟩ = some (.int .i64 0) := (hb.cell 7).trans rfl
  have c8 : w.cell? ⟨b, 8, none⟩ = some (.int .i64 0) := (hb.cell 8).trans rfl
  have hne : b ≠ w.heap.size := by omega
  have hWB := Lib.hid hB
  have hR' := Lib.hid hR
  have hX' := Lib.hid hX
  have d0 : W.cell? ⟨b, 0, none⟩ = some (ptr c) := (hb.below hB |>.cell 0).trans rfl
  clear h ho hB hR hX hh hb
  go_enter Tryz.func34, Tryz.ntmps34
  go_upto_region 2 with (fail)
  rw [← hW]
  clear hW c0 c5 c6 c7 c8 hne
  refine start_ (n := 14) (S := fun w' => w'.cell? ⟨b, 0, none⟩ = some (ptr c)) (ds := [11, 13]) (m_ 14 0) (by kernel_rfl) rfl (by kernel_rfl) (d0) (fun hHeld => ?_)
  refine pq_ 0 8 14 1 ?_
  refine pq_ 1 9 14 3 ?_
  refine pq_ 2 10 14 7 ?_
  refine pq_ 5 13 14 39 ?_
  refine pq_ 6 14 14 103 ?_
  refine pq_ 7 15 14 231 ?_
  refine tq_ 3 11 14 239 hHeld ?_
  refine tq_ 8 16 14 495 hHeld ?_
  refine one_ (i := 4) (N := some 12) (m_ 14 511) rfl rfl (by kernel_rfl) (by decide) (fun K hK => ?_)
  refine goes_ Tryz.func50 (by kernel_rfl) rfl #[ptr c] (by rfl) rfl rfl (by simp only [List.map_toArray, List.map_cons, List.map_nil]; rfl) ?_
  with_reducible refine (hhe.out).mono ?_
  rintro e w2 ⟨rfl, hB⟩
  have hB2 := Lib.hid (below_drew hB)
  have j0 := bcells (below_drew hB) d0
  have hX2 := hX'.out.below (below_drew hB)
  have x2 : w2.cell? ⟨w.heap.size + 1, 2, none⟩ = some (.int .i64 0) := (hX2.cell 2).trans rfl
  have x3 : w2.cell? ⟨w.heap.size + 1, 3, none⟩ = some (.int .i64 0) := (hX2.cell 3).trans rfl
  have g2 := hX2.free 2
  have g3 := hX2.free 3
  clear hB hX2
  refine ⟨_, rfl, ?_⟩
  refine hK.out _ _ (j0) (fun hHeld => ?_)
  clear hK K
  refine norm_ (a' := ?_) ?_ ?_
  rotate_left
  · show Act.put _ (some 12) _ = _
    simp only [Act.put, List.setIfInBounds_toArray, List.set_cons_zero, List.set_cons_succ, i64_w, i32_w]
    rfl
  refine pq_ 10 18 14 1535 ?_
  refine one_ (i := 9) (N := some 17) (m_ 14 2047) rfl rfl (by kernel_rfl) (by decide) (fun K hK => ?_)
  refine goes_ Tryz.func51 (by kernel_rfl) rfl #[ptr c] (by rfl) rfl rfl (by simp only [List.map_toArray, List.map_cons, List.map_nil]; rfl) ?_
  with_reducible refine ((cLost_any (HC.out.below hB2.out))).mono ?_
  rintro e w3 ⟨rfl, rfl⟩
  refine ⟨_, rfl, ?_⟩
  refine hK.out _ _ (j0) (fun hHeld => ?_)
  clear hK K
  refine norm_ (a' := ?_) ?_ ?_
  rotate_left
  · show Act.put _ (some 17) _ = _
    simp only [Act.put, List.setIfInBounds_toArray, List.set_cons_zero, List.set_cons_succ, i64_w, i32_w]
    rfl
  refine last_ (i := 11) (N := none) (m_ 14 4095) rfl rfl (by kernel_rfl) (by decide) (fun K hK => ?_)
  refine skip_ (w1 := ?_) (by rfl) rfl ?_ ?_
  rotate_left
  · go_simp
    rfl
  refine hK.out _ _ ?_
  clear hK K
  refine pq_ 12 19 14 8191 ?_
  refine last_ (i := 13) (N := none) (m_ 14 16383) rfl rfl (by kernel_rfl) (by decide) (fun K hK => ?_)
  refine skip_ (w1 := ?_) (by rfl) rfl ?_ ?_
  rotate_left
  · go_simp
    rfl
  refine hK.out _ _ ?_
  clear hK K
  refine done_ (by kernel_rfl) ?_
  have hBw := Lib.hid (hWB.out.trans (hB2.out.mono hWB.out.size))
  have hX3 := Lib.hid (((hX'.out.below hB2.out).set_ 2 (.int .i64 (heldL x.c.l))).set_ 3 (.int .i64 x.c.lost))
  have hR3 := Lib.hid (((hR'.out.below hB2.out).far (p := ⟨w.heap.size + 1, 2, none⟩) (by show w.heap.size ≠ w.heap.size + 1; omega) (.int .i64 (heldL x.c.l))).far (p := ⟨w.heap.size + 1, 3, none⟩) (by show w.heap.size ≠ w.heap.size + 1; omega) (.int .i64 x.c.lost))
  have hB3 := Lib.hid ((hBw.out.setCell (p := ⟨w.heap.size + 1, 2, none⟩) (by show w.heap.size ≤ w.heap.size + 1; omega) (.int .i64 (heldL x.c.l))).setCell (p := ⟨w.heap.size + 1, 3, none⟩) (by show w.heap.size ≤ w.heap.size + 1; omega) (.int .i64 x.c.lost))
  clear hHeld d0 j0 x2 x3 g2 g3 hX' hR' hBw hB2 hhe HC hWB
  generalize hw3 : (w2.setCell ⟨w.heap.size + 1, 2, none⟩ (.int .i64 (heldL x.c.l))).setCell ⟨w.heap.size + 1, 3, none⟩ (.int .i64 x.c.lost) = w3 at *
  have y0 : w3.cell? ⟨w.heap.size + 1, 0, none⟩ = some (.int .i64 x.sent) := (hX3.out.cell 0).trans rfl
  have y1 : w3.cell? ⟨w.heap.size + 1, 1, none⟩ = some (.int .i64 x.got) := (hX3.out.cell 1).trans rfl
  have y2 : w3.cell? ⟨w.heap.size + 1, 2, none⟩ = some (.int .i64 (heldL x.c.l)) := (hX3.out.cell 2).trans rfl
  have y3 : w3.cell? ⟨w.heap.size + 1, 3, none⟩ = some (.int .i64 x.c.lost) := (hX3.out.cell 3).trans rfl
  have z0 : w3.cell? ⟨w.heap.size, 0, none⟩ = some (.int .i64 0) := (hR3.out.cell 0).trans rfl
  have z1 : w3.cell? ⟨w.heap.size, 1, none⟩ = some (.int .i64 0) := (hR3.out.cell 1).trans rfl
  have z2 : w3.cell? ⟨w.heap.size, 2, none⟩ = some (.int .i64 0) := (hR3.out.cell 2).trans rfl
  have z3 : w3.cell? ⟨w.heap.size, 3, none⟩ = some (.int .i64 0) := (hR3.out.cell 3).trans rfl
  have g0 := hR3.out.free 0
  have g1 := hR3.out.free 1
  have g2 := hR3.out.free 2
  have g3 := hR3.out.free 3
  clear hw3
  go_wp2
  refine bodyPost_ret (v := countsV x) (results_cell_row Tryz.results34 _ _ w.heap.size 52 _ (0, 0) _ rfl ((((hR3.out.set_ 0 (.int .i64 x.sent)).set_ 1 (.int .i64 x.got)).set_ 2 (.int .i64 (heldL x.c.l))).set_ 3 (.int .i64 x.c.lost)) Tryz.underlying52 rfl (by kernel_rfl)) rfl ⟨rfl, ?_⟩
  exact (((hB3.out.setCell (p := ⟨w.heap.size, 0, none⟩) (Nat.le_refl _) _).setCell (p := ⟨w.heap.size, 1, none⟩) (Nat.le_refl _) _).setCell (p := ⟨w.heap.size, 2, none⟩) (Nat.le_refl _) _).setCell (p := ⟨w.heap.size, 3, none⟩) (Nat.le_refl _) _
end Go.Proofs.YtnkgjnmhiedfoaaGreat.Link
namespace Go.Proofs.YtnkgjnmhiedfoaaGreat.Link
open Go.RowKit Mem Tick Cargo Toxic Stage Chain
open Go.Proofs.YtnkgjnmhiedfoaaGreatW.PrintLast Pu
set_option maxRecDepth 100000
set_option linter.unusedVariables false
set_option linter.unusedSimpArgs false
variable {w w' w1 : World} {F : Nat → Prop} {b : Nat} {x y : Lk} {M Q : Int}
theorem LKG.below {G : Nat → Prop} {c : Nat} {D : Lay} {v : Value} (h : LKG w F b x G c D v) (hb : Below w.heap.size w w') : LKG w' F b x G c D v := by
  have hl : ∀ j, F j → j < w.heap.size := fun j hj => h.lk.lt hj
  obtain ⟨h1, h2, h3, h4, h5⟩ := h
  exact ⟨h1.below hb, h2.below hb, h3, h4.kept fun j hj => hb.block j (hl j ((h5 j).2 (.inr (.inr hj)))), h5⟩
theorem LKG.far {G : Nat → Prop} {c : Nat} {D : Lay} {v : Value} (h : LKG w F b x G c D v) {g : Nat} {t : TypeId} {cs : Array Value} (hb : Blk w g t cs) (ht : t ∉ lts) (i : Nat) (u : Value) : LKG (w.setCell ⟨g, i, none⟩ u) F b x G c D v := by
  have hg : ¬ F g := h.lk.off hb ht
  obtain ⟨h1, h2, h3, h4, h5⟩ := h
  have hk : ∀ j, F j → (w.setCell ⟨g, i, none⟩ u).heap[j]? = w.heap[j]? := fun j hj => Below.heap_setCell w ⟨g, i, none⟩ u j fun e => hg (by have e' : j = g := e; exact e' ▸ hj)
  exact ⟨(hk b ((h5 b).2 (.inl rfl))).trans h1, h2.kept fun j hj => hk j ((h5 j).2 (.inr (.inl hj))), h3, h4.kept fun j hj => hk j ((h5 j).2 (.inr (.inr hj))), h5⟩
theorem add_bad (h : LK w F b x) (ho : OkK x M Q) (t0 : ByteArray) (t1 : Int) (t2 : Bool) (t3 t4 t5 now : Int) (hz : chk ⟨t0, t1, t2, t3, t4, t5⟩ ≠ 0) :
    Calls Tryz.prog 24 #[ptr b, .agg #[.string t0, .int .i64 t1, .bool t2, .int .i64 t3, .int .i64 t4, .int .i64 t5], .int .i64 now] w fun e w' => e = .returned (.int .i64 (chk ⟨t0, t1, t2, t3, t4, t5⟩)) ∧ LTu w F w' b (x) := by
  obtain ⟨G, c, D, v, h⟩ := h
  have hb0 := (Below.refl w.heap.size w).alloc (Nat.le_refl _) (.cells #[.string t0, .int .i64 t1, .bool t2, .int .i64 t3, .int .i64 t4, .int .i64 t5] 27)
  have hblk0 := Lib.hid (Blk.new w 27 #[.string t0, .int .i64 t1, .bool t2, .int .i64 t3, .int .i64 t4, .int .i64 t5])
  have hH0 := Lib.hid (h.below hb0)
  have hb0' := Lib.hid hb0
  have hck := Lib.hid (fun wy => check_any ⟨t0, t1, t2, t3, t4, t5⟩ wy)
  have hl0 := Lib.hid (LTu.refl h.lk)
  have tz : (chk ⟨t0, t1, t2, t3, t4, t5⟩ != 0) = true := by simpa using hz
  clear h hb0 ho hz
  generalize hE : chk ⟨t0, t1, t2, t3, t4, t5⟩ = E at *
  go_enter Tryz.func24, Tryz.ntmps24
  go_wp2_with fail
  refine (hck.out _).mono ?_
  rintro e w1 ⟨rfl, hB⟩
  have hB1 := Lib.hid (bw_below hb0'.out hB)
  have hblk1 := Lib.hid (hblk0.out.below hB)
  have hH1 := Lib.hid (hH0.out.below hB)
  clear hB hb0' hblk0 hH0 hck
  go_wp2
  refine start_ (n := 12) (S := fun w' => True) (ds := []) (m_ 12 0) (by kernel_rfl) rfl (by kernel_rfl) trivial (fun hHeld => ?_)
  refine pq_ 0 14 12 1 ?_
  refine pq_ 1 15 12 3 ?_
  refine pq_ 2 16 12 7 ?_
  refine oq_ 3 17 12 15 ?_
  refine oq_ 4 18 12 31 ?_
  refine oq_ 5 19 12 63 ?_
  refine oq_ 6 20 12 127 ?_
  refine oq_ 7 21 12 255 ?_
  refine oq_ 8 22 12 511 ?_
  refine oq_ 9 23 12 1023 ?_
  refine pq_ 10 24 12 2047 ?_
  refine pq_ 11 13 12 4095 ?_
  refine done_ (by kernel_rfl) ?_
  clear hHeld
  have hr := Lib.hid (show LTu w F w1.drew b x from hl0.out.trans (fun F' hL => LTu.below (w := w) hL hB1.out.drew))
  clear hH1 hblk1 hB1
  go_wp2
  go_ret
  exact ⟨rfl, hr.out⟩
theorem add_other (h : LK w F b x) (ho : OkK x M Q) (t0 : ByteArray) (t1 : Int) (t2 : Bool) (t3 t4 t5 now : Int) (hz : chk ⟨t0, t1, t2, t3, t4, t5⟩ = 0) (hu : t2 ≠ x.up) :
    Calls Tryz.prog 24 #[ptr b, .agg #[.string t0, .int .i64 t1, .bool t2, .int .i64 t3, .int .i64 t4, .int .i64 t5], .int .i64 now] w fun e w' => e = .returned (.int .i64 (0)) ∧ LTu w F w' b (x) := by
  obtain ⟨G, c, D, v, h⟩ := h
  have hb0 := (Below.refl w.heap.size w).alloc (Nat.le_refl _) (.cells #[.string t0, .int .i64 t1, .bool t2, .int .i64 t3, .int .i64 t4, .int .i64 t5] 27)
  have hblk0 := Lib.hid (Blk.new w 27 #[.string t0, .int .i64 t1, .bool t2, .int .i64 t3, .int .i64 t4, .int .i64 t5])
  have hH0 := Lib.hid (h.below hb0)
  have hb0' := Lib.hid hb0
  have hck := Lib.hid (fun wy => check_any ⟨t0, t1, t2, t3, t4, t5⟩ wy)
  have hl0 := Lib.hid (LTu.refl h.lk)
  have tu : (t2 != x.up) = true := by simpa using hu
  have tu2 : (t2 == x.up) = false := by simpa using hu
  rw [hz] at hck
  clear h hb0 ho hz hu
  go_enter Tryz.func24, Tryz.ntmps24
  go_wp2_with fail
  refine (hck.out _).mono ?_
  rintro e w1 ⟨rfl, hB⟩
  have hB1 := Lib.hid (bw_below hb0'.out hB)
  have hblk1 := Lib.hid (hblk0.out.below hB)
  have hH1 := Lib.hid (hH0.out.below hB)
  clear hB hb0' hblk0 hH0 hck
  have e2 : w1.cell? ⟨w.heap.size, 2, none⟩ = some (.bool t2) := (hblk1.out.cell 2).trans rfl
  have d2 : w1.cell? ⟨b, 2, none⟩ = some (.bool x.up) := (hH1.out.cell 2).trans rfl
  go_wp2
  refine start_ (n := 12) (S := fun w' => w'.cell? ⟨w.heap.size, 2, none⟩ = some (.bool t2) ∧ w'.cell? ⟨b, 2, none⟩ = some (.bool x.up)) (ds := []) (m_ 12 0) (by kernel_rfl) rfl (by kernel_rfl) ⟨e2, d2⟩ (fun hHeld => ?_)
  refine pq_ 0 14 12 1 ?_
  refine pq_ 1 15 12 3 ?_
  refine pq_ 2 16 12 7 ?_
  refine pq_ 3 17 12 15 ?_
  refine pq_ 5 19 12 47 ?_
  refine pq_ 6 20 12 111 ?_
  refine pq_ 7 21 12 239 ?_
  refine tq_ 4 18 12 255 hHeld ?_
  refine tq_ 8 22 12 511 hHeld ?_
  refine pq_ 9 23 12 1023 ?_
  refine pq_ 10 24 12 2047 ?_
  refine pq_ 11 13 12 4095 ?_
  refine done_ (by kernel_rfl) ?_
  clear hHeld e2 d2
  have hr := Lib.hid (show LTu w F w1.drew b x from hl0.out.trans (fun F' hL => LTu.below (w := w) hL hB1.out.drew))
  clear hH1 hblk1 hB1
  go_wp2
  go_ret
  exact ⟨rfl, hr.out⟩
theorem add_there (h : LK w F b x) (ho : OkK x M Q) (t0 : ByteArray) (t1 : Int) (t2 : Bool) (t3 t4 t5 now : Int) (hz : chk ⟨t0, t1, t2, t3, t4, t5⟩ = 0) (hu : t2 = x.up) (hi : (idxN x.names t0).isSome = true) :
    Calls Tryz.prog 24 #[ptr b, .agg #[.string t0, .int .i64 t1, .bool t2, .int .i64 t3, .int .i64 t4, .int .i64 t5], .int .i64 now] w fun e w' => e = .returned (.int .i64 (141)) ∧ LTu w F w' b (x) := by
  obtain ⟨G, c, D, v, h⟩ := h
  have hb0 := (Below.refl w.heap.size w).alloc (Nat.le_refl _) (.cells #[.string t0, .int .i64 t1, .bool t2, .int .i64 t3, .int .i64 t4, .int .i64 t5] 27)
  have hblk0 := Lib.hid (Blk.new w 27 #[.string t0, .int .i64 t1, .bool t2, .int .i64 t3, .int .i64 t4, .int .i64 t5])
  have hH0 := Lib.hid (h.below hb0)
  have hb0' := Lib.hid hb0
  have hck := Lib.hid (fun wy => check_any ⟨t0, t1, t2, t3, t4, t5⟩ wy)
  have hl0 := Lib.hid (LTu.refl h.lk)
  have hvs := h.2.2.2.1.sr
  obtain ⟨A0, cp0, hv, _⟩ := hvs
  subst hv
  have tu : (t2 != x.up) = false := by rw [hu]; simp
  have tu2 : (t2 == x.up) = true := by rw [hu]; simp
  rw [hz] at hck
  have hnl : x.names.length ≤ 8 := by have := ho.n; have := ho.c.ten; omega
  have ho' := Lib.hid ho
  have his := hi
  clear h hb0 ho hz hu hi
  go_enter Tryz.func24, Tryz.ntmps24
  go_wp2_with fail
  refine (hck.out _).mono ?_
  rintro e w1 ⟨rfl, hB⟩
  have hB1 := Lib.hid (bw_below hb0'.out hB)
  have hblk1 := Lib.hid (hblk0.out.below hB)
  have hH1 := Lib.hid (hH0.out.below hB)
  clear hB hb0' hblk0 hH0 hck
  have e2 : w1.cell? ⟨w.heap.size, 2, none⟩ = some (.bool t2) := (hblk1.out.cell 2).trans rfl
  have d2 : w1.cell? ⟨b, 2, none⟩ = some (.bool x.up) := (hH1.out.cell 2).trans rfl
  have d1 : w1.cell? ⟨b, 1, none⟩ = some (.slice A0 x.names.length cp0) := (hH1.out.cell 1).trans rfl
  have e0 : w1.cell? ⟨w.heap.size, 0, none⟩ = some (.string t0) := (hblk1.out.cell 0).trans rfl
  have hco := Lib.hid (contains_any w1.drew.drew (.slice A0 x.names.length cp0) x.names t0 (show SR w1.drew.drew _ _ from (hH1.out.2.2.2.1).sr) (by omega))
  go_wp2
  refine start_ (n := 12) (S := fun w' => w'.cell? ⟨w.heap.size, 2, none⟩ = some (.bool t2) ∧ w'.cell? ⟨b, 2, none⟩ = some (.bool x.up)) (ds := []) (m_ 12 0) (by kernel_rfl) rfl (by kernel_rfl) ⟨e2, d2⟩ (fun hHeld => ?_)
  refine pq_ 0 14 12 1 ?_
  refine pq_ 1 15 12 3 ?_
  refine pq_ 2 16 12 7 ?_
  refine pq_ 3 17 12 15 ?_
  refine pq_ 5 19 12 47 ?_
  refine pq_ 6 20 12 111 ?_
  refine pq_ 7 21 12 239 ?_
  refine tq_ 4 18 12 255 hHeld ?_
  refine tq_ 8 22 12 511 hHeld ?_
  refine pq_ 9 23 12 1023 ?_
  refine pq_ 10 24 12 2047 ?_
  refine pq_ 11 13 12 4095 ?_
  refine done_ (by kernel_rfl) ?_
  clear hHeld
  go_wp2
  refine start_ (n := 8) (S := fun w' => w'.cell? ⟨b, 1, none⟩ = some (.slice A0 x.names.length cp0) ∧ w'.cell? ⟨w.heap.size, 0, none⟩ = some (.string t0)) (ds := []) (m_ 8 0) (by kernel_rfl) rfl (by kernel_rfl) ⟨d1, e0⟩ (fun hHeld => ?_)
  refine pq_ 0 27 8 1 ?_
  refine pq_ 1 28 8 3 ?_
  refine pq_ 2 29 8 7 ?_
  refine pq_ 4 31 8 23 ?_
  refine tq_ 3 30 8 31 hHeld ?_
  refine tq_ 5 32 8 63 hHeld ?_
  refine one_ (i := 6) (N := some 33) (m_ 8 127) rfl rfl (by kernel_rfl) (by decide) (fun K hK => ?_)
  refine goes_ Tryz.func22 (by kernel_rfl) rfl #[.slice A0 x.names.length cp0, .string t0] (by rfl) rfl rfl (by simp only [List.map_toArray, List.map_cons, List.map_nil]; rfl) ?_
  with_reducible refine (hco.out).mono ?_
  rintro e w2 ⟨rfl, rfl⟩
  rw [his]
  refine ⟨_, rfl, ?_⟩
  refine hK.out _ _ ⟨d1, e0⟩ (fun hHeld => ?_)
  clear hK K
  refine norm_ (a' := ?_) ?_ ?_
  rotate_left
  · show Act.put _ (some 33) _ = _
    simp only [Act.put, List.setIfInBounds_toArray, List.set_cons_zero, List.set_cons_succ, i64_w, i32_w]
    rfl
  refine pq_ 7 26 8 255 ?_
  refine done_ (by kernel_rfl) ?_
  clear hHeld e2 d2 d1 e0 hco
  have hr := Lib.hid (show LTu w F w1.drew.drew b x from hl0.out.trans (fun F' hL => LTu.below (w := w) hL hB1.out.drew.drew))
  clear hH1 hblk1 hB1
  go_wp2
  go_ret
  exact ⟨rfl, hr.out⟩
theorem add_full (h : LK w F b x) (ho : OkK x M Q) (t0 : ByteArray) (t1 : Int) (t2 : Bool) (t3 t4 t5 now : Int) (hz : chk ⟨t0, t1, t2, t3, t4, t5⟩ = 0) (hu : t2 = x.up) (hi : (idxN x.names t0).isSome = false) (hf : 8 ≤ x.names.length) :
    Calls Tryz.prog 24 #[ptr b, .agg #[.string t0, .int .i64 t1, .bool t2, .int .i64 t3, .int .i64 t4, .int .i64 t5], .int .i64 now] w fun e w' => e = .returned (.int .i64 (110)) ∧ LTu w F w' b (x) := by
  obtain ⟨G, c, D, v, h⟩ := h
  have hb0 := (Below.refl w.heap.size w).alloc (Nat.le_refl _) (.cells #[.string t0, .int .i64 t1, .bool t2, .int .i64 t3, .int .i64 t4, .int .i64 t5] 27)
  have hblk0 := Lib.hid (Blk.new w 27 #[.string t0, .int .i64 t1, .bool t2, .int .i64 t3, .int .i64 t4, .int .i64 t5])
  have hH0 := Lib.hid (h.below hb0)
  have hb0' := Lib.hid hb0
  have hck := Lib.hid (fun wy => check_any ⟨t0, t1, t2, t3, t4, t5⟩ wy)
  have hl0 := Lib.hid (LTu.refl h.lk)
  have hvs := h.2.2.2.1.sr
  obtain ⟨A0, cp0, hv, _⟩ := hvs
  subst hv
  have tu : (t2 != x.up) = false := by rw [hu]; simp
  have tu2 : (t2 == x.up) = true := by rw [hu]; simp
  rw [hz] at hck
  have hnl : x.names.length ≤ 8 := by have := ho.n; have := ho.c.ten; omega
  have ho' := Lib.hid ho
  have his := hi
  have tf : decide ((8 : Int) ≤ (x.names.length : Int)) = true := decide_eq_true (by omega)
  clear h hb0 ho hz hu hi
  go_enter Tryz.func24, Tryz.ntmps24
  go_wp2_with fail
  refine (hck.out _).mono ?_
  rintro e w1 ⟨rfl, hB⟩
  have hB1 := Lib.hid (bw_below hb0'.out hB)
  have hblk1 := Lib.hid (hblk0.out.below hB)
  have hH1 := Lib.hid (hH0.out.below hB)
  clear hB hb0' hblk0 hH0 hck
  have e2 : w1.cell? ⟨w.heap.size, 2, none⟩ = some (.bool t2) := (hblk1.out.cell 2).trans rfl
  have d2 : w1.cell? ⟨b, 2, none⟩ = some (.bool x.up) := (hH1.out.cell 2).trans rfl
  have d1 : w1.cell? ⟨b, 1, none⟩ = some (.slice A0 x.names.length cp0) := (hH1.out.cell 1).trans rfl
  have e0 : w1.cell? ⟨w.heap.size, 0, none⟩ = some (.string t0) := (hblk1.out.cell 0).trans rfl
  have hco := Lib.hid (contains_any w1.drew.drew (.slice A0 x.names.length cp0) x.names t0 (show SR w1.drew.drew _ _ from (hH1.out.2.2.2.1).sr) (by omega))
  go_wp2
  refine start_ (n := 12) (S := fun w' => w'.cell? ⟨w.heap.size, 2, none⟩ = some (.bool t2) ∧ w'.cell? ⟨b, 2, none⟩ = some (.bool x.up)) (ds := []) (m_ 12 0) (by kernel_rfl) rfl (by kernel_rfl) ⟨e2, d2⟩ (fun hHeld => ?_)
  refine pq_ 0 14 12 1 ?_
  refine pq_ 1 15 12 3 ?_
  refine pq_ 2 16 12 7 ?_
  refine pq_ 3 17 12 15 ?_
  refine pq_ 5 19 12 47 ?_
  refine pq_ 6 20 12 111 ?_
  refine pq_ 7 21 12 239 ?_
  refine tq_ 4 18 12 255 hHeld ?_
  refine tq_ 8 22 12 511 hHeld ?_
  refine pq_ 9 23 12 1023 ?_
  refine pq_ 10 24 12 2047 ?_
  refine pq_ 11 13 12 4095 ?_
  refine done_ (by kernel_rfl) ?_
  clear hHeld
  go_wp2
  refine start_ (n := 8) (S := fun w' => w'.cell? ⟨b, 1, none⟩ = some (.slice A0 x.names.length cp0) ∧ w'.cell? ⟨w.heap.size, 0, none⟩ = some (.string t0)) (ds := []) (m_ 8 0) (by kernel_rfl) rfl (by kernel_rfl) ⟨d1, e0⟩ (fun hHeld => ?_)
  refine pq_ 0 27 8 1 ?_
  refine pq_ 1 28 8 3 ?_
  refine pq_ 2 29 8 7 ?_
  refine pq_ 4 31 8 23 ?_
  refine tq_ 3 30 8 31 hHeld ?_
  refine tq_ 5 32 8 63 hHeld ?_
  refine one_ (i := 6) (N := some 33) (m_ 8 127) rfl rfl (by kernel_rfl) (by decide) (fun K hK => ?_)
  refine goes_ Tryz.func22 (by kernel_rfl) rfl #[.slice A0 x.names.length cp0, .string t0] (by rfl) rfl rfl (by simp only [List.map_toArray, List.map_cons, List.map_nil]; rfl) ?_
  with_reducible refine (hco.out).mono ?_
  rintro e w2 ⟨rfl, rfl⟩
  rw [his]
  refine ⟨_, rfl, ?_⟩
  refine hK.out _ _ ⟨d1, e0⟩ (fun hHeld => ?_)
  clear hK K
  refine norm_ (a' := ?_) ?_ ?_
  rotate_left
  · show Act.put _ (some 33) _ = _
    simp only [Act.put, List.setIfInBounds_toArray, List.set_cons_zero, List.set_cons_succ, i64_w, i32_w]
    rfl
  refine pq_ 7 26 8 255 ?_
  refine done_ (by kernel_rfl) ?_
  clear hHeld e2 d2 e0 hco
  have hr := Lib.hid (show LTu w F w1.drew.drew b x from hl0.out.trans (fun F' hL => LTu.below (w := w) hL hB1.out.drew.drew))
  clear hH1 hblk1 hB1
  go_wp2
  go_ret
  exact ⟨rfl, hr.out⟩
theorem LKG.drew {G : Nat → Prop} {c : Nat} {D : Lay} {v : Value} (h : LKG w F b x G c D v) : LKG w.drew F b x G c D v := h.below (Below.refl _ _).drew
theorem drawn_w (n : Int) (h0 : 0 ≤ n) (h1 : n ≤ 1000000000) : IntKind.u64.wrap n = n ∧ wrap64 (n + 1) = n + 1 := by
  constructor
  · rw [IntKind.wrap_u64]; omega
  · unfold wrap64; omega
theorem nums_one (w : World) (n : Int) (h0 : 0 ≤ n) (h1 : n ≤ 1000000000) : Ref02.Nums .u64 (w.alloc (.cells #[.int .u64 n] 23)) (.slice (some ⟨w.heap.size, 0, none⟩) 1 1) [n] := by
  refine ⟨_, 1, 1, rfl, rfl, (by show (1 : Nat) ≤ 9223372036854775807; decide), fun y hy => ?_, fun _ => ⟨w.heap.size, 0, rfl, fun j y hj => ?_⟩, fun e => by cases e⟩
  · rw [List.mem_singleton.1 hy]
    unfold Lit.wf
    rw [Bool.and_eq_true, decide_eq_true_eq, decide_eq_true_eq]
    have e1 : IntKind.u64.min = 0 := by decide
    have e2 : IntKind.u64.max = 18446744073709551615 := by decide
    rw [e1, e2]
    omega
  · rw [Nat.zero_add]
    rcases j with _ | j
    · cases hj
      exact (Blk.new w 23 #[.int .u64 n]).cell 0
    · simp at hj
theorem own_slice {base : Nat} {e : TypeId} {size : Nat} {v : Value} {n : Nat} {xs : List Value} (h : w.ownsRow base e size v n xs) : ∃ A c, v = .slice A n c := by
  rcases h.2 with ⟨rfl, h0⟩ | ⟨g, cap, cur, rfl, _⟩
  · exact ⟨none, 0, by rw [h0]⟩
  · exact ⟨_, cap, rfl⟩
theorem grow_b {G : Nat → Prop} {c : Nat} {D : Lay} {v : Value} {w8 : World} {o : Obj} (h : LKG w F b x G c D v) (hg : (w.alloc o).grownBy w8 v.ownBlock) : w8.heap[b]? = w.heap[b]? := by
  have hb := h.1
  refine (hg.block b (by simp; have := hb.lt; omega) (fun e => ?_)).trans (Below.heap_alloc w o b hb.lt)
  obtain ⟨cs, hvb⟩ := h.2.2.2.1.typed e.symm
  exact absurd (hb.ty hvb) (by decide)
theorem frozen_of_block {w8 : World} {i : Nat} (h : w8.heap[b]? = w.heap[b]?) : w8.frozen? ⟨b, i, none⟩ = w.frozen? ⟨b, i, none⟩ := by
  simp [World.frozen?, h]
set_option maxHeartbeats 2000000 in
theorem add_in (h : LK w F b x) (ho : OkK x M Q) (t0 : ByteArray) (t1 : Int) (t2 : Bool) (t3 t4 t5 now : Int) (hz : chk ⟨t0, t1, t2, t3, t4, t5⟩ = 0) (hu : t2 = x.up) (hi : (idxN x.names t0).isSome = false) (hf : x.names.length < 8) :
    Calls Tryz.prog 24 #[ptr b, .agg #[.string t0, .int .i64 t1, .bool t2, .int .i64 t3, .int .i64 t4, .int .i64 t5], .int .i64 now] w fun e w' => e = .returned (.int .i64 (0)) ∧ LTu w F w' b (addK x ⟨t0, t1, t2, t3, t4, t5⟩ now) := by
  obtain ⟨G, c, D, v, h⟩ := h
  have hb0 := (Below.refl w.heap.size w).alloc (Nat.le_refl _) (.cells #[.string t0, .int .i64 t1, .bool t2, .int .i64 t3, .int .i64 t4, .int .i64 t5] 27)
  have hblk0 := Lib.hid (Blk.new w 27 #[.string t0, .int .i64 t1, .bool t2, .int .i64 t3, .int .i64 t4, .int .i64 t5])
  have hH0 := Lib.hid (h.below hb0)
  have hb0' := Lib.hid hb0
  have hck := Lib.hid (fun wy => check_any ⟨t0, t1, t2, t3, t4, t5⟩ wy)
  have hl0 := Lib.hid (LTu.refl h.lk)
  have hvs := h.2.2.2.1.sr
  obtain ⟨A0, cp0, hv, _⟩ := hvs
  subst hv
  have tu : (t2 != x.up) = false := by rw [hu]; simp
  have tu2 : (t2 == x.up) = true := by rw [hu]; simp
  rw [hz] at hck
  have hnl : x.names.length ≤ 8 := by have := ho.n; have := ho.c.ten; omega
  have ho' := Lib.hid ho
  have his := hi
  have tf : decide ((8 : Int) ≤ (x.names.length : Int)) = false := decide_eq_false (by omega)
  have hdw := Lib.hid (drawn_w x.drawn ho.d0 ho.d1)
  have hoc := Lib.hid ho.c
  have hadds : addsB x ⟨t0, t1, t2, t3, t4, t5⟩ = true := by
    unfold addsB
    rw [decide_eq_true (show chk ⟨t0, t1, t2, t3, t4, t5⟩ = 0 ∧ t2 = x.up from ⟨hz, hu⟩), hi, decide_eq_true hf]
    rfl
  have hadd : Hid (∀ T, drawK x ⟨t0, t1, t2, t3, t4, t5⟩ = T → addK x ⟨t0, t1, t2, t3, t4, t5⟩ now = { x with c := insC x.c x.names.length T (Ref02.stepI (dieK x)) now, names := x.names ++ [t0], drawn := x.drawn + 1 }) := Lib.hid (fun T e => by unfold addK; rw [if_pos hadds, e])
  have hstr0 := Lib.hid (fun (wy : World) => Dice.stream_any x.seed (.slice (some ⟨wy.heap.size, 0, none⟩) 1 1) [x.drawn] (wy.alloc (.cells #[.int .u64 x.drawn] 23)).drew ho.s0 ho.s1 ((nums_one wy x.drawn ho.d0 ho.d1).below (Below.refl _ _).drew))
  clear h hb0 ho hz hu hi hadds
  go_enter Tryz.func24, Tryz.ntmps24
  go_wp2_with fail
  refine (hck.out _).mono ?_
  rintro e w1 ⟨rfl, hB⟩
  have hB1 := Lib.hid (bw_below hb0'.out hB)
  have hblk1 := Lib.hid (hblk0.out.below hB)
  have hH1 := Lib.hid (hH0.out.below hB)
  clear hB hb0' hblk0 hH0 hck
  have e2 : w1.cell? ⟨w.heap.size, 2, none⟩ = some (.bool t2) := (hblk1.out.cell 2).trans rfl
  have d2 : w1.cell? ⟨b, 2, none⟩ = some (.bool x.up) := (hH1.out.cell 2).trans rfl
  have d1 : w1.cell? ⟨b, 1, none⟩ = some (.slice A0 x.names.length cp0) := (hH1.out.cell 1).trans rfl
  have e0 : w1.cell? ⟨w.heap.size, 0, none⟩ = some (.string t0) := (hblk1.out.cell 0).trans rfl
  have hco := Lib.hid (contains_any w1.drew.drew (.slice A0 x.names.length cp0) x.names t0 (show SR w1.drew.drew _ _ from (hH1.out.2.2.2.1).sr) (by omega))
  go_wp2
  refine start_ (n := 12) (S := fun w' => w'.cell? ⟨w.heap.size, 2, none⟩ = some (.bool t2) ∧ w'.cell? ⟨b, 2, none⟩ = some (.bool x.up)) (ds := []) (m_ 12 0) (by kernel_rfl) rfl (by kernel_rfl) ⟨e2, d2⟩ (fun hHeld => ?_)
  refine pq_ 0 14 12 1 ?_
  refine pq_ 1 15 12 3 ?_
  refine pq_ 2 16 12 7 ?_
  refine pq_ 3 17 12 15 ?_
  refine pq_ 5 19 12 47 ?_
  refine pq_ 6 20 12 111 ?_
  refine pq_ 7 21 12 239 ?_
  refine tq_ 4 18 12 255 hHeld ?_
  refine tq_ 8 22 12 511 hHeld ?_
  refine pq_ 9 23 12 1023 ?_
  refine pq_ 10 24 12 2047 ?_
  refine pq_ 11 13 12 4095 ?_
  refine done_ (by kernel_rfl) ?_
  clear hHeld
  go_wp2
  refine start_ (n := 8) (S := fun w' => w'.cell? ⟨b, 1, none⟩ = some (.slice A0 x.names.length cp0) ∧ w'.cell? ⟨w.heap.size, 0, none⟩ = some (.string t0)) (ds := []) (m_ 8 0) (by kernel_rfl) rfl (by kernel_rfl) ⟨d1, e0⟩ (fun hHeld => ?_)
  refine pq_ 0 27 8 1 ?_
  refine pq_ 1 28 8 3 ?_
  refine pq_ 2 29 8 7 ?_
  refine pq_ 4 31 8 23 ?_
  refine tq_ 3 30 8 31 hHeld ?_
  refine tq_ 5 32 8 63 hHeld ?_
  refine one_ (i := 6) (N := some 33) (m_ 8 127) rfl rfl (by kernel_rfl) (by decide) (fun K hK => ?_)
  refine goes_ Tryz.func22 (by kernel_rfl) rfl #[.slice A0 x.names.length cp0, .string t0] (by rfl) rfl rfl (by simp only [List.map_toArray, List.map_cons, List.map_nil]; rfl) ?_
  with_reducible refine (hco.out).mono ?_
  rintro e w2 ⟨rfl, rfl⟩
  rw [his]
  refine ⟨_, rfl, ?_⟩
  refine hK.out _ _ ⟨d1, e0⟩ (fun hHeld => ?_)
  clear hK K
  refine norm_ (a' := ?_) ?_ ?_
  rotate_left
  · show Act.put _ (some 33) _ = _
    simp only [Act.put, List.setIfInBounds_toArray, List.set_cons_zero, List.set_cons_succ, i64_w, i32_w]
    rfl
  refine pq_ 7 26 8 255 ?_
  refine done_ (by kernel_rfl) ?_
  clear hHeld e2 d2 e0 hco
  have hB2 := Lib.hid (show Below w.heap.size w w1.drew.drew from hB1.out.drew.drew)
  have H2 := Lib.hid (hH1.out.drew.drew)
  have hq2 := Lib.hid (hblk1.out.below ((Below.refl _ _).drew.drew))
  clear hB1 hH1 hblk1 d1
  generalize w1.drew.drew = W1 at *
  have d1 : W1.cell? ⟨b, 1, none⟩ = some (.slice A0 x.names.length cp0) := (H2.out.cell 1).trans rfl
  have k3 : W1.cell? ⟨b, 3, none⟩ = some (.int .u64 x.seed) := (H2.out.cell 3).trans rfl
  have k4 : W1.cell? ⟨b, 4, none⟩ = some (.int .i64 x.drawn) := (H2.out.cell 4).trans rfl
  have k5 : W1.cell? ⟨w.heap.size, 3, none⟩ = some (.int .i64 t3) := (hq2.out.cell 3).trans rfl
  have hcw := hdw.out.1
  have hstr := Lib.hid (hstr0.out W1)
  go_wp2
  refine start_ (n := 19) (S := fun w' => w'.cell? ⟨b, 3, none⟩ = some (.int .u64 x.seed) ∧ w'.cell? ⟨b, 4, none⟩ = some (.int .i64 x.drawn) ∧ w'.cell? ⟨w.heap.size, 3, none⟩ = some (.int .i64 t3)) (ds := []) (m_ 19 0) (by kernel_rfl) rfl (by kernel_rfl) ⟨k3, k4, k5⟩ (fun hHeld => ?_)
  refine pq_ 0 42 19 1 ?_
  refine pq_ 1 43 19 3 ?_
  refine pq_ 2 44 19 7 ?_
  refine pq_ 4 46 19 23 ?_
  refine pq_ 5 47 19 55 ?_
  refine pq_ 6 48 19 119 ?_
  refine pq_ 11 53 19 2167 ?_
  refine tq_ 3 45 19 2175 hHeld ?_
  refine tq_ 7 49 19 2303 hHeld ?_
  refine pq_ 8 50 19 2559 ?_
  refine tq_ 12 54 19 6655 hHeld ?_
  refine one_ (i := 9) (N := some 51) (m_ 19 7167) rfl rfl (by kernel_rfl) (by decide) (fun K hK => ?_)
  refine value_ (w1 := ?_) (v := ?_) (by rfl) rfl ?_ ?_
  rotate_left 2
  · go_simp
    constructor
    · rfl
    · rfl
  have j3 := bcells (((Below.refl W1.heap.size W1).alloc (Nat.le_refl _) (.cells #[.int .u64 x.drawn] 23)).drew) k3
  have j4 := bcells (((Below.refl W1.heap.size W1).alloc (Nat.le_refl _) (.cells #[.int .u64 x.drawn] 23)).drew) k4
  have j5 := bcells (((Below.refl W1.heap.size W1).alloc (Nat.le_refl _) (.cells #[.int .u64 x.drawn] 23)).drew) k5
  refine hK.out _ _ ⟨j3, j4, j5⟩ (fun hHeld => ?_)
  clear hK K
  refine norm_ (a' := ?_) ?_ ?_
  rotate_left
  · show Act.put _ (some 51) _ = _
    simp only [Act.put, List.setIfInBounds_toArray, List.set_cons_zero, List.set_cons_succ, i64_w, i32_w]
    rfl
  refine one_ (i := 10) (N := some 52) (m_ 19 8191) rfl rfl (by kernel_rfl) (by decide) (fun K hK => ?_)
  refine goes_ Tryz.func17 (by kernel_rfl) rfl #[.int .u64 x.seed, .slice (some ⟨W1.heap.size, 0, none⟩) 1 1] (by rfl) rfl rfl (by simp only [List.map_toArray, List.map_cons, List.map_nil]; rfl) ?_
  with_reducible refine (hstr.out).mono ?_
  rintro e w3 ⟨rfl, hB⟩
  have i3 := bcells hB j3
  have i4 := bcells hB j4
  have i5 := bcells hB j5
  have hB3 := Lib.hid ((((Below.refl W1.heap.size W1).alloc (Nat.le_refl _) (.cells #[.int .u64 x.drawn] 23)).drew).trans (hB.mono (by show W1.heap.size ≤ (W1.alloc (.cells #[.int .u64 x.drawn] 23)).heap.size; simp)))
  clear hB j3 j4 j5
  refine ⟨_, rfl, ?_⟩
  refine hK.out _ _ ⟨i3, i4, i5⟩ (fun hHeld => ?_)
  clear hK K
  refine norm_ (a' := ?_) ?_ ?_
  rotate_left
  · show Act.put _ (some 52) _ = _
    simp only [Act.put, List.setIfInBounds_toArray, List.set_cons_zero, List.set_cons_succ, i64_w, i32_w]
    rfl
  refine one_ (i := 13) (N := some 55) (m_ 19 16383) rfl rfl (by kernel_rfl) (by decide) (fun K hK => ?_)
  refine goes_ Tryz.func44 (by kernel_rfl) rfl #[.int .u64 (Ref02.streamI (Ref02.mixI (Ref02.stepI x.seed)) [x.drawn]), .int .i64 t3] (by rfl) rfl rfl (by simp only [List.map_toArray, List.map_cons, List.map_nil]; rfl) ?_
  with_reducible refine ((Dice.percent_any _ t3 w3)).mono ?_
  rintro e w4 ⟨rfl, rfl⟩
  refine ⟨_, rfl, ?_⟩
  refine hK.out _ _ ⟨i3, i4, i5⟩ (fun hHeld => ?_)
  clear hK K
  refine norm_ (a' := ?_) ?_ ?_
  rotate_left
  · show Act.put _ (some 55) _ = _
    simp only [Act.put, List.setIfInBounds_toArray, List.set_cons_zero, List.set_cons_succ, i64_w, i32_w]
    rfl
  refine pq_ 14 41 19 32767 ?_
  refine pq_ 15 56 19 65535 ?_
  refine pq_ 16 57 19 131071 ?_
  refine pq_ 17 8 19 262143 ?_
  refine pq_ 18 9 19 524287 ?_
  refine done_ (by kernel_rfl) ?_
  clear hHeld k3 k4 k5 hstr hstr0 i3 i4 i5 d1
  have H3 := Lib.hid (H2.out.below hB3.out)
  have hq3 := Lib.hid (hq2.out.below hB3.out)
  have hBw := Lib.hid (hB2.out.trans (hB3.out.mono hB2.out.size))
  clear H2 hq2 hB2 hB3 hcw
  have d4 : w3.cell? ⟨b, 4, none⟩ = some (.int .i64 x.drawn) := (H3.out.cell 4).trans rfl
  have f4 := H3.out.free 4
  have u0 : w3.cell? ⟨w.heap.size, 0, none⟩ = some (.string t0) := (hq3.out.cell 0).trans rfl
  have hbne : b ≠ w.heap.size := H3.out.1.ne hq3.out (by decide)
  have hset5 := H3.out.set 4 (.int .i64 (x.drawn + 1)) { x with drawn := x.drawn + 1 } rfl rfl rfl
  have H5 := Lib.hid hset5.1
  have hq5 := Lib.hid (hq3.out.far (p := ⟨b, 4, none⟩) (fun e => hbne e.symm) (.int .i64 (x.drawn + 1)))
  have hD5 := Lib.hid (show Did F w (w3.setCell ⟨b, 4, none⟩ (.int .i64 (x.drawn + 1))) ∧ Stem F F w from by
    obtain ⟨F0, hL0, hd0, hs0⟩ := hl0.out
    exact ⟨(Did.of_below hBw.out).setCell (p := ⟨b, 4, none⟩) (.inl hset5.2) _, Stem.refl _ _⟩)
  have hdw2 := hdw.out.2
  have hdie0 : Hid (Ref02.hiI (Ref02.streamI (Ref02.mixI (Ref02.stepI x.seed)) [x.drawn]) 100 = Ref02.hiI (dieK x) 100) := Lib.hid rfl
  have hst0 : Hid (Ref02.stepI (Ref02.streamI (Ref02.mixI (Ref02.stepI x.seed)) [x.drawn]) = Ref02.stepI (dieK x)) := Lib.hid rfl
  rw [hdie0.out, hst0.out]
  clear H3 hq3 hset5 hBw
  generalize hst : Ref02.stepI (dieK x) = st
  have hst := Lib.hid hst
  by_cases hdie : Ref02.hiI (dieK x) 100 < t3
  · have td : decide (Ref02.hiI (dieK x) 100 < t3) = true := decide_eq_true hdie
    have hdk : Hid (drawK x ⟨t0, t1, t2, t3, t4, t5⟩ = ⟨t0, t1, t2, t3, t4, t5⟩) := Lib.hid (by unfold drawK; rw [if_pos hdie])
    clear hdie
    go_wp2
    have H6 := H5
    have hq6 := hq5
    have hD6 := hD5
    clear H5 hq5 hD5 d4 f4 u0 hdw2
    generalize w3.setCell ⟨b, 4, none⟩ (.int .i64 (x.drawn + 1)) = w6 at *
    have r0 : w6.cell? ⟨b, 0, none⟩ = some (ptr c) := (H6.out.cell 0).trans rfl
    have r1 : w6.cell? ⟨b, 1, none⟩ = some (.slice A0 x.names.length cp0) := (H6.out.cell 1).trans rfl
    have u0 : w6.cell? ⟨w.heap.size, 0, none⟩ = some (.string t0) := (hq6.out.cell 0).trans rfl
    have u1 : w6.cell? ⟨w.heap.size, 1, none⟩ = some (.int .i64 t1) := (hq6.out.cell 1).trans rfl
    have u2 : w6.cell? ⟨w.heap.size, 2, none⟩ = some (.bool t2) := (hq6.out.cell 2).trans rfl
    have u3 : w6.cell? ⟨w.heap.size, 3, none⟩ = some (.int .i64 t3) := (hq6.out.cell 3).trans rfl
    have u4 : w6.cell? ⟨w.heap.size, 4, none⟩ = some (.int .i64 t4) := (hq6.out.cell 4).trans rfl
    have u5 : w6.cell? ⟨w.heap.size, 5, none⟩ = some (.int .i64 t5) := (hq6.out.cell 5).trans rfl
    have hins := Lib.hid (cInsert_any H6.out.drew.2.1 hoc.out H6.out.2.2.1 (x.names.length : Int) ⟨t0, t1, t2, t3, t4, t5⟩ st now)
    have hqb7 := Lib.hid (fun (w7 : World) (hd : Did F w6.drew w7) => Blk.did (w := w6.drew) hq6.out hd (H6.out.lk.off hq6.out (by decide)))
    refine start_ (n := 13) (S := fun w' => w'.cell? ⟨b, 0, none⟩ = some (ptr c) ∧ w'.cell? ⟨b, 1, none⟩ = some (.slice A0 x.names.length cp0) ∧ w'.cell? ⟨w.heap.size, 0, none⟩ = some (.string t0) ∧ w'.cell? ⟨w.heap.size, 1, none⟩ = some (.int .i64 t1) ∧ w'.cell? ⟨w.heap.size, 2, none⟩ = some (.bool t2) ∧ w'.cell? ⟨w.heap.size, 3, none⟩ = some (.int .i64 t3) ∧ w'.cell? ⟨w.heap.size, 4, none⟩ = some (.int .i64 t4) ∧ w'.cell? ⟨w.heap.size, 5, none⟩ = some (.int .i64 t5)) (ds := []) (m_ 13 0) (by kernel_rfl) rfl (by kernel_rfl) ⟨r0, r1, u0, u1, u2, u3, u4, u5⟩ (fun hHeld => ?_)
    refine pq_ 0 70 13 1 ?_
    refine pq_ 1 71 13 3 ?_
    refine pq_ 2 72 13 7 ?_
    refine pq_ 4 74 13 23 ?_
    refine pq_ 5 75 13 55 ?_
    refine pq_ 6 76 13 119 ?_
    refine pq_ 10 80 13 1143 ?_
    refine pq_ 11 81 13 3191 ?_
    refine tq_ 3 73 13 3199 hHeld ?_
    refine tq_ 7 77 13 3327 hHeld ?_
    refine pq_ 8 78 13 3583 ?_
    refine tq_ 9 79 13 4095 hHeld ?_
    refine one_ (i := 12) (N := some 82) (m_ 13 8191) rfl rfl (by kernel_rfl) (by decide) (fun K hK => ?_)
    refine goes_ Tryz.func45 (by kernel_rfl) rfl #[ptr c, .int .i64 x.names.length, .agg #[.string t0, .int .i64 t1, .bool t2, .int .i64 t3, .int .i64 t4, .int .i64 t5], .int .u64 st, .int .i64 now] (by rfl) rfl rfl (by simp only [List.map_toArray, List.map_cons, List.map_nil]; rfl) ?_
    with_reducible refine (hins.out).mono ?_
    rintro e w7 ⟨rfl, hT⟩
    obtain ⟨F7, G7, D7, h7, hd7, hs7⟩ := H6.out.drew.turn hT
    have r0 : w7.cell? ⟨b, 0, none⟩ = some (ptr c) := (h7.cell 0).trans rfl
    have r1 : w7.cell? ⟨b, 1, none⟩ = some (.slice A0 x.names.length cp0) := (h7.cell 1).trans rfl
    have hq7 := hqb7.out w7 hd7
    have rq0 := (hq7.cell 0).trans rfl
    have rq1 := (hq7.cell 1).trans rfl
    have rq2 := (hq7.cell 2).trans rfl
    have rq3 := (hq7.cell 3).trans rfl
    have rq4 := (hq7.cell 4).trans rfl
    have rq5 := (hq7.cell 5).trans rfl
    simp only [List.getElem?_toArray, List.getElem?_cons_zero, List.getElem?_cons_succ] at rq0 rq1 rq2 rq3 rq4 rq5
    have H7 := Lib.hid h7
    have hDS7 := Lib.hid (And.intro hd7 hs7)
    clear hT h7 hd7 hs7 hq7
    refine ⟨_, rfl, ?_⟩
    refine hK.out _ _ ⟨r0, r1, rq0, rq1, rq2, rq3, rq4, rq5⟩ (fun hHeld => ?_)
    clear hK K
    refine norm_ (a' := ?_) ?_ ?_
    rotate_left
    · show Act.put _ (some 82) _ = _
      simp only [Act.put, List.setIfInBounds_toArray, List.set_cons_zero, List.set_cons_succ, i64_w, i32_w]
      rfl
    refine done_ (by kernel_rfl) ?_
    clear hHeld r0 r1 u0 u1 u2 u3 u4 u5 rq0 rq1 rq2 rq3 rq4 rq5
    have r1 : w7.cell? ⟨b, 1, none⟩ = some (.slice A0 x.names.length cp0) := (H7.out.cell 1).trans rfl
    have hown : w7.ownsRow 0 9 1 (.slice A0 x.names.length cp0) x.names.length (x.names.map Value.string) := (H7.out.2.2.2.1).owns
    have hsz7 : w.heap.size ≤ w7.heap.size := Nat.le_trans hD6.out.1.size hDS7.out.1.size
    obtain ⟨i0, hi1, hz0, hz1, hz2⟩ := info_parts info_st
    go_wp2_with (at_builtin; refine wpList_append_own_at _ rfl _ _ 34 rfl 0 9 i0 (.string ⟨#[]⟩) 1 16 Tryz.underlying34 hi1 hz0 hz1 hz2 rfl (by decide) _ _ _ rfl (hown.alloc _) ⟨w7.heap.size, 0, none⟩ 1 1 [.string t0] rfl rfl (cell_one_new _ _ _) (by simp [Value.oneCell']) (by unfold maxLen; omega) (by omega) (by omega) ?_; intro v' w8 hO hG _ hat; obtain ⟨A8, c8, rfl⟩ := own_slice hO; have hG' := Lib.hid hG; have hO' := Lib.hid hO; have hat' := Lib.hid hat; have b8 : w8.cell? ⟨b, 1, none⟩ = some (.slice A0 x.names.length cp0) := (World.cell?_of_block (a := ⟨b, 1, none⟩) (grow_b H7.out hG)).trans r1; have fb8 : w8.frozen? ⟨b, 1, none⟩ = false := (frozen_of_block (grow_b H7.out hG)).trans (H7.out.free 1); clear hG hO hat)
    have hD8 : Did (fun j => (Value.slice A0 x.names.length cp0).ownBlock = some j) w7 w8 := (((Did.refl _ w7).alloc _).trans (Stem.refl _ _) (Did.of_grown hG'.out (fun j e => .inl e)))
    have hN8 : NV w8 (.slice A8 (x.names.length + 1) c8) (x.names ++ [t0]) := NV.of_owns (base := 0) (by rw [List.length_append, List.map_append]; exact hO'.out)
    have hset := H7.out.names hD8 hN8 (fun j e => by
      rcases hat'.out with q | q
      · exact .inl (q ▸ e)
      · rw [q] at e
        injection e with e
        exact .inr (by rw [← e]; simp))
    have hr := Lib.hid (show LTu w F (w8.setCell ⟨b, 1, none⟩ (.slice A8 (x.names.length + 1) c8)) b (addK x ⟨t0, t1, t2, t3, t4, t5⟩ now) from by
      rw [hadd.out _ hdk.out, show Ref02.stepI (dieK x) = st from hst.out]
      exact LTu.next hD6.out.1 hD6.out.2 (LTu.next ((Did.refl F w6).drew.trans (Stem.refl _ _) hDS7.out.1) (show Stem F F7 w6 from fun j hj => hDS7.out.2 j hj) ⟨_, hset.1.lk, hset.2.1, hset.2.2⟩))
    clear hset hN8 hD8 hG' hO' hat' H7 hDS7 H6 hD6
    go_ret
    exact ⟨rfl, hr.out⟩
  · have td : decide (Ref02.hiI (dieK x) 100 < t3) = false := decide_eq_false hdie
    have hdk : Hid (drawK x ⟨t0, t1, t2, t3, t4, t5⟩ = ⟨⟨#[]⟩, 0, false, 0, 0, 0⟩) := Lib.hid (by unfold drawK; rw [if_neg hdie]; rfl)
    clear hdie
    have v0 := (hq5.out.cell 0).trans rfl
    have v1 := (hq5.out.cell 1).trans rfl
    have v2 := (hq5.out.cell 2).trans rfl
    have v3 := (hq5.out.cell 3).trans rfl
    have v4 := (hq5.out.cell 4).trans rfl
    have v5 := (hq5.out.cell 5).trans rfl
    simp only [List.getElem?_toArray, List.getElem?_cons_zero, List.getElem?_cons_succ] at v0 v1 v2 v3 v4 v5
    have fv0 := hq5.out.free 0
    have fv1 := hq5.out.free 1
    have fv2 := hq5.out.free 2
    have fv3 := hq5.out.free 3
    have fv4 := hq5.out.free 4
    have fv5 := hq5.out.free 5
    go_upto_region 12 with (fail)
    generalize hw5 : w3.setCell ⟨b, 4, none⟩ (.int .i64 (x.drawn + 1)) = w5 at *
    clear d4 f4 u0 hdw2
    have hb6 := (((((hq5.out.set_ 0 (.string ⟨#[]⟩)).set_ 1 (.int .i64 0)).set_ 2 (.bool false)).set_ 3 (.int .i64 0)).set_ 4 (.int .i64 0)).set_ 5 (.int .i64 0)
    have hq6 := Lib.hid (show Blk _ w.heap.size 27 #[.string ⟨#[]⟩, .int .i64 0, .bool false, .int .i64 0, .int .i64 0, .int .i64 0] from hb6)
    have k1 := H5.out.far hq5.out (by decide) 0 (.string ⟨#[]⟩)
    have b1 := hq5.out.set_ 0 (.string ⟨#[]⟩)
    have k2 := k1.far b1 (by decide) 1 (.int .i64 0)
    have b2 := b1.set_ 1 (.int .i64 0)
    have k3 := k2.far b2 (by decide) 2 (.bool false)
    have b3 := b2.set_ 2 (.bool false)
    have k4 := k3.far b3 (by decide) 3 (.int .i64 0)
    have b4 := b3.set_ 3 (.int .i64 0)
    have k5 := k4.far b4 (by decide) 4 (.int .i64 0)
    have b5 := b4.set_ 4 (.int .i64 0)
    have H6 := Lib.hid (k5.far b5 (by decide) 5 (.int .i64 0))
    have hD6 := Lib.hid (show Did F w _ ∧ Stem F F w from ⟨(((((hD5.out.1.setCell (p := ⟨w.heap.size, 0, none⟩) (.inr (Nat.le_refl _)) (.string ⟨#[]⟩)).setCell (p := ⟨w.heap.size, 1, none⟩) (.inr (Nat.le_refl _)) (.int .i64 0)).setCell (p := ⟨w.heap.size, 2, none⟩) (.inr (Nat.le_refl _)) (.bool false)).setCell (p := ⟨w.heap.size, 3, none⟩) (.inr (Nat.le_refl _)) (.int .i64 0)).setCell (p := ⟨w.heap.size, 4, none⟩) (.inr (Nat.le_refl _)) (.int .i64 0)).setCell (p := ⟨w.heap.size, 5, none⟩) (.inr (Nat.le_refl _)) (.int .i64 0), Stem.refl _ _⟩)
    clear hb6 k1 b1 k2 b2 k3 b3 k4 b4 k5 b5 H5 hq5 hD5
    go_wp2
    clear v0 v1 v2 v3 v4 v5 fv0 fv1 fv2 fv3 fv4 fv5
    generalize (((((w5.setCell ⟨w.heap.size, 0, none⟩ (.string ⟨#[]⟩)).setCell ⟨w.heap.size, 1, none⟩ (.int .i64 0)).setCell ⟨w.heap.size, 2, none⟩ (.bool false)).setCell ⟨w.heap.size, 3, none⟩ (.int .i64 0)).setCell ⟨w.heap.size, 4, none⟩ (.int .i64 0)).setCell ⟨w.heap.size, 5, none⟩ (.int .i64 0) = w6 at *
    have r0 : w6.cell? ⟨b, 0, none⟩ = some (ptr c) := (H6.out.cell 0).trans rfl
    have r1 : w6.cell? ⟨b, 1, none⟩ = some (.slice A0 x.names.length cp0) := (H6.out.cell 1).trans rfl
    have u0 : w6.cell? ⟨w.heap.size, 0, none⟩ = some (.string ⟨#[]⟩) := (hq6.out.cell 0).trans rfl
    have u1 : w6.cell? ⟨w.heap.size, 1, none⟩ = some (.int .i64 0) := (hq6.out.cell 1).trans rfl
    have u2 : w6.cell? ⟨w.heap.size, 2, none⟩ = some (.bool false) := (hq6.out.cell 2).trans rfl
    have u3 : w6.cell? ⟨w.heap.size, 3, none⟩ = some (.int .i64 0) := (hq6.out.cell 3).trans rfl
    have u4 : w6.cell? ⟨w.heap.size, 4, none⟩ = some (.int .i64 0) := (hq6.out.cell 4).trans rfl
    have u5 : w6.cell? ⟨w.heap.size, 5, none⟩ = some (.int .i64 0) := (hq6.out.cell 5).trans rfl
    have hins := Lib.hid (cInsert_any H6.out.drew.2.1 hoc.out H6.out.2.2.1 (x.names.length : Int) ⟨⟨#[]⟩, 0, false, 0, 0, 0⟩ st now)
    have hqb7 := Lib.hid (fun (w7 : World) (hd : Did F w6.drew w7) => Blk.did (w := w6.drew) hq6.out hd (H6.out.lk.off hq6.out (by decide)))
    refine start_ (n := 13) (S := fun w' => w'.cell? ⟨b, 0, none⟩ = some (ptr c) ∧ w'.cell? ⟨b, 1, none⟩ = some (.slice A0 x.names.length cp0) ∧ w'.cell? ⟨w.heap.size, 0, none⟩ = some (.string ⟨#[]⟩) ∧ w'.cell? ⟨w.heap.size, 1, none⟩ = some (.int .i64 0) ∧ w'.cell? ⟨w.heap.size, 2, none⟩ = some (.bool false) ∧ w'.cell? ⟨w.heap.size, 3, none⟩ = some (.int .i64 0) ∧ w'.cell? ⟨w.heap.size, 4, none⟩ = some (.int .i64 0) ∧ w'.cell? ⟨w.heap.size, 5, none⟩ = some (.int .i64 0)) (ds := []) (m_ 13 0) (by kernel_rfl) rfl (by kernel_rfl) ⟨r0, r1, u0, u1, u2, u3, u4, u5⟩ (fun hHeld => ?_)
    refine pq_ 0 70 13 1 ?_
    refine pq_ 1 71 13 3 ?_
    refine pq_ 2 72 13 7 ?_
    refine pq_ 4 74 13 23 ?_
    refine pq_ 5 75 13 55 ?_
    refine pq_ 6 76 13 119 ?_
    refine pq_ 10 80 13 1143 ?_
    refine pq_ 11 81 13 3191 ?_
    refine tq_ 3 73 13 3199 hHeld ?_
    refine tq_ 7 77 13 3327 hHeld ?_
    refine pq_ 8 78 13 3583 ?_
    refine tq_ 9 79 13 4095 hHeld ?_
    refine one_ (i := 12) (N := some 82) (m_ 13 8191) rfl rfl (by kernel_rfl) (by decide) (fun K hK => ?_)
    refine goes_ Tryz.func45 (by kernel_rfl) rfl #[ptr c, .int .i64 x.names.length, .agg #[.string ⟨#[]⟩, .int .i64 0, .bool false, .int .i64 0, .int .i64 0, .int .i64 0], .int .u64 st, .int .i64 now] (by rfl) rfl rfl (by simp only [List.map_toArray, List.map_cons, List.map_nil]; rfl) ?_
    with_reducible refine (hins.out).mono ?_
    rintro e w7 ⟨rfl, hT⟩
    obtain ⟨F7, G7, D7, h7, hd7, hs7⟩ := H6.out.drew.turn hT
    have r0 : w7.cell? ⟨b, 0, none⟩ = some (ptr c) := (h7.cell 0).trans rfl
    have r1 : w7.cell? ⟨b, 1, none⟩ = some (.slice A0 x.names.length cp0) := (h7.cell 1).trans rfl
    have hq7 := hqb7.out w7 hd7
    have rq0 := (hq7.cell 0).trans rfl
    have rq1 := (hq7.cell 1).trans rfl
    have rq2 := (hq7.cell 2).trans rfl
    have rq3 := (hq7.cell 3).trans rfl
    have rq4 := (hq7.cell 4).trans rfl
    have rq5 := (hq7.cell 5).trans rfl
    simp only [List.getElem?_toArray, List.getElem?_cons_zero, List.getElem?_cons_succ] at rq0 rq1 rq2 rq3 rq4 rq5
    have H7 := Lib.hid h7
    have hDS7 := Lib.hid (And.intro hd7 hs7)
    clear hT h7 hd7 hs7 hq7
    refine ⟨_, rfl, ?_⟩
    refine hK.out _ _ ⟨r0, r1, rq0, rq1, rq2, rq3, rq4, rq5⟩ (fun hHeld => ?_)
    clear hK K
    refine norm_ (a' := ?_) ?_ ?_
    rotate_left
    · show Act.put _ (some 82) _ = _
      simp only [Act.put, List.setIfInBounds_toArray, List.set_cons_zero, List.set_cons_succ, i64_w, i32_w]
      rfl
    refine done_ (by kernel_rfl) ?_
    clear hHeld r0 r1 u0 u1 u2 u3 u4 u5 rq0 rq1 rq2 rq3 rq4 rq5
    have r1 : w7.cell? ⟨b, 1, none⟩ = some (.slice A0 x.names.length cp0) := (H7.out.cell 1).trans rfl
    have hown : w7.ownsRow 0 9 1 (.slice A0 x.names.length cp0) x.names.length (x.names.map Value.string) := (H7.out.2.2.2.1).owns
    have hsz7 : w.heap.size ≤ w7.heap.size := Nat.le_trans hD6.out.1.size hDS7.out.1.size
    obtain ⟨i0, hi1, hz0, hz1, hz2⟩ := info_parts info_st
    go_wp2_with (at_builtin; refine wpList_append_own_at _ rfl _ _ 34 rfl 0 9 i0 (.string ⟨#[]⟩) 1 16 Tryz.underlying34 hi1 hz0 hz1 hz2 rfl (by decide) _ _ _ rfl (hown.alloc _) ⟨w7.heap.size, 0, none⟩ 1 1 [.string t0] rfl rfl (cell_one_new _ _ _) (by simp [Value.oneCell']) (by unfold maxLen; omega) (by omega) (by omega) ?_; intro v' w8 hO hG _ hat; obtain ⟨A8, c8, rfl⟩ := own_slice hO; have hG' := Lib.hid hG; have hO' := Lib.hid hO; have hat' := Lib.hid hat; have b8 : w8.cell? ⟨b, 1, none⟩ = some (.slice A0 x.names.length cp0) := (World.cell?_of_block (a := ⟨b, 1, none⟩) (grow_b H7.out hG)).trans r1; have fb8 : w8.frozen? ⟨b, 1, none⟩ = false := (frozen_of_block (grow_b H7.out hG)).trans (H7.out.free 1); clear hG hO hat)
    have hD8 : Did (fun j => (Value.slice A0 x.names.length cp0).ownBlock = some j) w7 w8 := (((Did.refl _ w7).alloc _).trans (Stem.refl _ _) (Did.of_grown hG'.out (fun j e => .inl e)))
    have hN8 : NV w8 (.slice A8 (x.names.length + 1) c8) (x.names ++ [t0]) := NV.of_owns (base := 0) (by rw [List.length_append, List.map_append]; exact hO'.out)
    have hset := H7.out.names hD8 hN8 (fun j e => by
      rcases hat'.out with q | q
      · exact .inl (q ▸ e)
      · rw [q] at e
        injection e with e
        exact .inr (by rw [← e]; simp))
    have hr := Lib.hid (show LTu w F (w8.setCell ⟨b, 1, none⟩ (.slice A8 (x.names.length + 1) c8)) b (addK x ⟨t0, t1, t2, t3, t4, t5⟩ now) from by
      rw [hadd.out _ hdk.out, show Ref02.stepI (dieK x) = st from hst.out]
      exact LTu.next hD6.out.1 hD6.out.2 (LTu.next ((Did.refl F w6).drew.trans (Stem.refl _ _) hDS7.out.1) (show Stem F F7 w6 from fun j hj => hDS7.out.2 j hj) ⟨_, hset.1.lk, hset.2.1, hset.2.2⟩))
    clear hset hN8 hD8 hG' hO' hat' H7 hDS7 H6 hD6
    go_ret
    exact ⟨rfl, hr.out⟩
theorem kAdd_any (h : LK w F b x) (ho : OkK x M Q) (t : Tox) (now : Int) :
    Calls Tryz.prog 24 #[ptr b, t.v, .int .i64 now] w fun e w' => e = .returned (.int .i64 (addE x t)) ∧ LTu w F w' b (addK x t now) := by
  obtain ⟨t0, t1, t2, t3, t4, t5⟩ := t
  have keep : ∀ (c1 : addsB x ⟨t0, t1, t2, t3, t4, t5⟩ = false), addK x ⟨t0, t1, t2, t3, t4, t5⟩ now = x := fun c1 => by unfold addK; rw [c1]; rfl
  by_cases hz : chk ⟨t0, t1, t2, t3, t4, t5⟩ = 0
  · by_cases hu : t2 = x.up
    · have hE : addE x ⟨t0, t1, t2, t3, t4, t5⟩ = if (idxN x.names t0).isSome = true then 141 else if 8 ≤ x.names.length then 110 else 0 := by
        unfold addE
        rw [if_neg (by rintro (e | e); exact e hz; exact e hu)]
      rw [hE]
      cases hi : (idxN x.names t0).isSome with
      | true =>
        rw [if_pos rfl, keep (by unfold addsB; rw [hi]; simp)]
        exact add_there h ho t0 t1 t2 t3 t4 t5 now hz hu hi
      | false =>
        rw [if_neg (by decide)]
        by_cases hf : 8 ≤ x.names.length
        · rw [if_pos hf, keep (by unfold addsB; rw [decide_eq_false (show ¬ x.names.length < 8 by omega)]; simp)]
          exact add_full h ho t0 t1 t2 t3 t4 t5 now hz hu hi hf
        · rw [if_neg hf]
          exact add_in h ho t0 t1 t2 t3 t4 t5 now hz hu hi (by omega)
    · have hE : addE x ⟨t0, t1, t2, t3, t4, t5⟩ = 0 := by unfold addE; rw [if_pos (.inr hu)]; exact hz
      rw [hE, keep (by unfold addsB; rw [decide_eq_false (show ¬ (chk ⟨t0, t1, t2, t3, t4, t5⟩ = 0 ∧ t2 = x.up) from fun e => hu e.2)]; rfl)]
      exact add_other h ho t0 t1 t2 t3 t4 t5 now hz hu
  · have hE : addE x ⟨t0, t1, t2, t3, t4, t5⟩ = chk ⟨t0, t1, t2, t3, t4, t5⟩ := by unfold addE; rw [if_pos (.inl hz)]
    rw [hE, keep (by unfold addsB; rw [decide_eq_false (show ¬ (chk ⟨t0, t1, t2, t3, t4, t5⟩ = 0 ∧ t2 = x.up) from fun e => hz e.1)]; rfl)]
    exact add_bad h ho t0 t1 t2 t3 t4 t5 now hz
end Go.Proofs.YtnkgjnmhiedfoaaGreat.Link
namespace Go.Proofs.YtnkgjnmhiedfoaaGreat.Link
open Go.RowKit Mem Tick Cargo Toxic Stage Chain
open Go.Proofs.YtnkgjnmhiedfoaaGreatW.PrintLast Pu
set_option maxRecDepth 100000
set_option linter.unusedVariables false
set_option linter.unusedSimpArgs false
variable {w w' w1 : World} {F : Nat → Prop} {b : Nat} {x y : Lk} {M Q : Int}
theorem chg_bad (h : LK w F b x) (ho : OkK x M Q) (hM : M ≤ 1000000000) (t0 : ByteArray) (t1 : Int) (t2 : Bool) (t3 t4 t5 now : Int) (hz : chk ⟨t0, t1, t2, t3, t4, t5⟩ ≠ 0) :
    Calls Tryz.prog 49 #[ptr b, .agg #[.string t0, .int .i64 t1, .bool t2, .int .i64 t3, .int .i64 t4, .int .i64 t5], .int .i64 now] w fun e w' => e = .returned (.int .i64 (chk ⟨t0, t1, t2, t3, t4, t5⟩)) ∧ LTu w F w' b (x) := by
  obtain ⟨G, c, D, v, h⟩ := h
  have hvs := h.2.2.2.1.sr
  obtain ⟨A0, cp0, hv, _⟩ := hvs
  subst hv
  have hnl : x.names.length ≤ 8 := by have := ho.n; have := ho.c.ten; omega
  have hb0 := (Below.refl w.heap.size w).alloc (Nat.le_refl _) (.cells #[.string t0, .int .i64 t1, .bool t2, .int .i64 t3, .int .i64 t4, .int .i64 t5] 27)
  have hblk0 := Lib.hid (Blk.new w 27 #[.string t0, .int .i64 t1, .bool t2, .int .i64 t3, .int .i64 t4, .int .i64 t5])
  have hH0 := Lib.hid (h.below hb0)
  have hb0' := Lib.hid hb0
  have hck := Lib.hid (fun wy => check_any ⟨t0, t1, t2, t3, t4, t5⟩ wy)
  have hl0 := Lib.hid (LTu.refl h.lk)
  have tz : (chk ⟨t0, t1, t2, t3, t4, t5⟩ != 0) = true := by simpa using hz
  obtain ⟨I0, hI0⟩ : ∃ I0, idxI x.names t0 = I0 := ⟨_, rfl⟩
  have his := Lib.hid hI0
  clear hI0
  clear h hb0 ho hz
  generalize hE : chk ⟨t0, t1, t2, t3, t4, t5⟩ = E at *
  go_enter Tryz.func49, Tryz.ntmps49
  go_wp2_with fail
  refine (hck.out _).mono ?_
  rintro e w1 ⟨rfl, hB⟩
  have hB1 := Lib.hid (bw_below hb0'.out hB)
  have hblk1 := Lib.hid (hblk0.out.below hB)
  have hH1 := Lib.hid (hH0.out.below hB)
  clear hB hb0' hblk0 hH0 hck
  have e2 : w1.cell? ⟨w.heap.size, 2, none⟩ = some (.bool t2) := (hblk1.out.cell 2).trans rfl
  have d2 : w1.cell? ⟨b, 2, none⟩ = some (.bool x.up) := (hH1.out.cell 2).trans rfl
  have d1 : w1.cell? ⟨b, 1, none⟩ = some (.slice A0 x.names.length cp0) := (hH1.out.cell 1).trans rfl
  have e0 : w1.cell? ⟨w.heap.size, 0, none⟩ = some (.string t0) := (hblk1.out.cell 0).trans rfl
  have hix := Lib.hid (index_any w1.drew (.slice A0 x.names.length cp0) x.names t0 (show SR w1.drew _ _ from (hH1.out.2.2.2.1).sr) (by omega))
  go_wp2
  refine start_ (n := 8) (S := fun w' => w'.cell? ⟨b, 1, none⟩ = some (.slice A0 x.names.length cp0) ∧ w'.cell? ⟨w.heap.size, 0, none⟩ = some (.string t0)) (ds := []) (m_ 8 0) (by kernel_rfl) rfl (by kernel_rfl) ⟨d1, e0⟩ (fun hHeld => ?_)
  refine pq_ 0 11 8 1 ?_
  refine pq_ 1 12 8 3 ?_
  refine pq_ 2 13 8 7 ?_
  refine pq_ 4 15 8 23 ?_
  refine tq_ 3 14 8 31 hHeld ?_
  refine tq_ 5 16 8 63 hHeld ?_
  refine one_ (i := 6) (N := some 17) (m_ 8 127) rfl rfl (by kernel_rfl) (by decide) (fun K hK => ?_)
  refine goes_ Tryz.func27 (by kernel_rfl) rfl #[.slice A0 x.names.length cp0, .string t0] (by rfl) rfl rfl (by simp only [List.map_toArray, List.map_cons, List.map_nil]; rfl) ?_
  with_reducible refine (hix.out).mono ?_
  rintro e w2 ⟨rfl, rfl⟩
  rw [his.out]
  refine ⟨_, rfl, ?_⟩
  refine hK.out _ _ ⟨d1, e0⟩ (fun hHeld => ?_)
  clear hK K
  refine norm_ (a' := ?_) ?_ ?_
  rotate_left
  · show Act.put _ (some 17) _ = _
    simp only [Act.put, List.setIfInBounds_toArray, List.set_cons_zero, List.set_cons_succ, i64_w, i32_w]
    rfl
  refine pq_ 7 8 8 255 ?_
  refine done_ (by kernel_rfl) ?_
  clear hHeld
  go_wp2
  refine start_ (n := 12) (S := fun w' => True) (ds := []) (m_ 12 0) (by kernel_rfl) rfl (by kernel_rfl) trivial (fun hHeld => ?_)
  refine pq_ 0 19 12 1 ?_
  refine pq_ 1 20 12 3 ?_
  refine pq_ 2 21 12 7 ?_
  refine oq_ 3 22 12 15 ?_
  refine oq_ 4 23 12 31 ?_
  refine oq_ 5 24 12 63 ?_
  refine oq_ 6 25 12 127 ?_
  refine oq_ 7 26 12 255 ?_
  refine oq_ 8 27 12 511 ?_
  refine oq_ 9 28 12 1023 ?_
  refine pq_ 10 29 12 2047 ?_
  refine pq_ 11 18 12 4095 ?_
  refine done_ (by kernel_rfl) ?_
  clear hHeld e2 d2 d1 e0 hix
  have hr := Lib.hid (show LTu w F w1.drew.drew b x from hl0.out.trans (fun F' hL => LTu.below (w := w) hL hB1.out.drew.drew))
  clear hH1 hblk1 hB1
  go_wp2
  go_ret
  exact ⟨rfl, hr.out⟩
theorem chg_other (h : LK w F b x) (ho : OkK x M Q) (hM : M ≤ 1000000000) (t0 : ByteArray) (t1 : Int) (t2 : Bool) (t3 t4 t5 now : Int) (hz : chk ⟨t0, t1, t2, t3, t4, t5⟩ = 0) (hu : t2 ≠ x.up) :
    Calls Tryz.prog 49 #[ptr b, .agg #[.string t0, .int .i64 t1, .bool t2, .int .i64 t3, .int .i64 t4, .int .i64 t5], .int .i64 now] w fun e w' => e = .returned (.int .i64 (0)) ∧ LTu w F w' b (x) := by
  obtain ⟨G, c, D, v, h⟩ := h
  have hvs := h.2.2.2.1.sr
  obtain ⟨A0, cp0, hv, _⟩ := hvs
  subst hv
  have hnl : x.names.length ≤ 8 := by have := ho.n; have := ho.c.ten; omega
  have hb0 := (Below.refl w.heap.size w).alloc (Nat.le_refl _) (.cells #[.string t0, .int .i64 t1, .bool t2, .int .i64 t3, .int .i64 t4, .int .i64 t5] 27)
  have hblk0 := Lib.hid (Blk.new w 27 #[.string t0, .int .i64 t1, .bool t2, .int .i64 t3, .int .i64 t4, .int .i64 t5])
  have hH0 := Lib.hid (h.below hb0)
  have hb0' := Lib.hid hb0
  have hck := Lib.hid (fun wy => check_any ⟨t0, t1, t2, t3, t4, t5⟩ wy)
  have hl0 := Lib.hid (LTu.refl h.lk)
  have tu : (t2 != x.up) = true := by simpa using hu
  have tu2 : (t2 == x.up) = false := by simpa using hu
  obtain ⟨I0, hI0⟩ : ∃ I0, idxI x.names t0 = I0 := ⟨_, rfl⟩
  have his := Lib.hid hI0
  clear hI0
  rw [hz] at hck
  clear h hb0 ho hz hu
  go_enter Tryz.func49, Tryz.ntmps49
  go_wp2_with fail
  refine (hck.out _).mono ?_
  rintro e w1 ⟨rfl, hB⟩
  have hB1 := Lib.hid (bw_below hb0'.out hB)
  have hblk1 := Lib.hid (hblk0.out.below hB)
  have hH1 := Lib.hid (hH0.out.below hB)
  clear hB hb0' hblk0 hH0 hck
  have e2 : w1.cell? ⟨w.heap.size, 2, none⟩ = some (.bool t2) := (hblk1.out.cell 2).trans rfl
  have d2 : w1.cell? ⟨b, 2, none⟩ = some (.bool x.up) := (hH1.out.cell 2).trans rfl
  have d1 : w1.cell? ⟨b, 1, none⟩ = some (.slice A0 x.names.length cp0) := (hH1.out.cell 1).trans rfl
  have e0 : w1.cell? ⟨w.heap.size, 0, none⟩ = some (.string t0) := (hblk1.out.cell 0).trans rfl
  have hix := Lib.hid (index_any w1.drew (.slice A0 x.names.length cp0) x.names t0 (show SR w1.drew _ _ from (hH1.out.2.2.2.1).sr) (by omega))
  go_wp2
  refine start_ (n := 8) (S := fun w' => w'.cell? ⟨b, 1, none⟩ = some (.slice A0 x.names.length cp0) ∧ w'.cell? ⟨w.heap.size, 0, none⟩ = some (.string t0)) (ds := []) (m_ 8 0) (by kernel_rfl) rfl (by kernel_rfl) ⟨d1, e0⟩ (fun hHeld => ?_)
  refine pq_ 0 11 8 1 ?_
  refine pq_ 1 12 8 3 ?_
  refine pq_ 2 13 8 7 ?_
  refine pq_ 4 15 8 23 ?_
  refine tq_ 3 14 8 31 hHeld ?_
  refine tq_ 5 16 8 63 hHeld ?_
  refine one_ (i := 6) (N := some 17) (m_ 8 127) rfl rfl (by kernel_rfl) (by decide) (fun K hK => ?_)
  refine goes_ Tryz.func27 (by kernel_rfl) rfl #[.slice A0 x.names.length cp0, .string t0] (by rfl) rfl rfl (by simp only [List.map_toArray, List.map_cons, List.map_nil]; rfl) ?_
  with_reducible refine (hix.out).mono ?_
  rintro e w2 ⟨rfl, rfl⟩
  rw [his.out]
  refine ⟨_, rfl, ?_⟩
  refine hK.out _ _ ⟨d1, e0⟩ (fun hHeld => ?_)
  clear hK K
  refine norm_ (a' := ?_) ?_ ?_
  rotate_left
  · show Act.put _ (some 17) _ = _
    simp only [Act.put, List.setIfInBounds_toArray, List.set_cons_zero, List.set_cons_succ, i64_w, i32_w]
    rfl
  refine pq_ 7 8 8 255 ?_
  refine done_ (by kernel_rfl) ?_
  clear hHeld
  go_wp2
  refine start_ (n := 12) (S := fun w' => w'.cell? ⟨w.heap.size, 2, none⟩ = some (.bool t2) ∧ w'.cell? ⟨b, 2, none⟩ = some (.bool x.up)) (ds := []) (m_ 12 0) (by kernel_rfl) rfl (by kernel_rfl) ⟨e2, d2⟩ (fun hHeld => ?_)
  refine pq_ 0 19 12 1 ?_
  refine pq_ 1 20 12 3 ?_
  refine pq_ 2 21 12 7 ?_
  refine pq_ 3 22 12 15 ?_
  refine pq_ 5 24 12 47 ?_
  refine pq_ 6 25 12 111 ?_
  refine pq_ 7 26 12 239 ?_
  refine tq_ 4 23 12 255 hHeld ?_
  refine tq_ 8 27 12 511 hHeld ?_
  refine pq_ 9 28 12 1023 ?_
  refine pq_ 10 29 12 2047 ?_
  refine pq_ 11 18 12 4095 ?_
  refine done_ (by kernel_rfl) ?_
  clear hHeld e2 d2 d1 e0 hix
  have hr := Lib.hid (show LTu w F w1.drew.drew b x from hl0.out.trans (fun F' hL => LTu.below (w := w) hL hB1.out.drew.drew))
  clear hH1 hblk1 hB1
  go_wp2
  go_ret
  exact ⟨rfl, hr.out⟩
theorem chg_none (h : LK w F b x) (ho : OkK x M Q) (hM : M ≤ 1000000000) (t0 : ByteArray) (t1 : Int) (t2 : Bool) (t3 t4 t5 now : Int) (hz : chk ⟨t0, t1, t2, t3, t4, t5⟩ = 0) (hu : t2 = x.up) (hi : idxN x.names t0 = none) :
    Calls Tryz.prog 49 #[ptr b, .agg #[.string t0, .int .i64 t1, .bool t2, .int .i64 t3, .int .i64 t4, .int .i64 t5], .int .i64 now] w fun e w' => e = .returned (.int .i64 (142)) ∧ LTu w F w' b (x) := by
  obtain ⟨G, c, D, v, h⟩ := h
  have hvs := h.2.2.2.1.sr
  obtain ⟨A0, cp0, hv, _⟩ := hvs
  subst hv
  have hnl : x.names.length ≤ 8 := by have := ho.n; have := ho.c.ten; omega
  have hb0 := (Below.refl w.heap.size w).alloc (Nat.le_refl _) (.cells #[.string t0, .int .i64 t1, .bool t2, .int .i64 t3, .int .i64 t4, .int .i64 t5] 27)
  have hblk0 := Lib.hid (Blk.new w 27 #[.string t0, .int .i64 t1, .bool t2, .int .i64 t3, .int .i64 t4, .int .i64 t5])
  have hH0 := Lib.hid (h.below hb0)
  have hb0' := Lib.hid hb0
  have hck := Lib.hid (fun wy => check_any ⟨t0, t1, t2, t3, t4, t5⟩ wy)
  have hl0 := Lib.hid (LTu.refl h.lk)
  have tu : (t2 != x.up) = false := by rw [hu]; simp
  have tu2 : (t2 == x.up) = true := by rw [hu]; simp
  have his : Hid (idxI x.names t0 = -1) := Lib.hid (by unfold idxI; rw [hi])
  rw [hz] at hck
  clear h hb0 ho hz hu hi
  go_enter Tryz.func49, Tryz.ntmps49
  go_wp2_with fail
  refine (hck.out _).mono ?_
  rintro e w1 ⟨rfl, hB⟩
  have hB1 := Lib.hid (bw_below hb0'.out hB)
  have hblk1 := Lib.hid (hblk0.out.below hB)
  have hH1 := Lib.hid (hH0.out.below hB)
  clear hB hb0' hblk0 hH0 hck
  have e2 : w1.cell? ⟨w.heap.size, 2, none⟩ = some (.bool t2) := (hblk1.out.cell 2).trans rfl
  have d2 : w1.cell? ⟨b, 2, none⟩ = some (.bool x.up) := (hH1.out.cell 2).trans rfl
  have d1 : w1.cell? ⟨b, 1, none⟩ = some (.slice A0 x.names.length cp0) := (hH1.out.cell 1).trans rfl
  have e0 : w1.cell? ⟨w.heap.size, 0, none⟩ = some (.string t0) := (hblk1.out.cell 0).trans rfl
  have hix := Lib.hid (index_any w1.drew (.slice A0 x.names.length cp0) x.names t0 (show SR w1.drew _ _ from (hH1.out.2.2.2.1).sr) (by omega))
  go_wp2
  refine start_ (n := 8) (S := fun w' => w'.cell? ⟨b, 1, none⟩ = some (.slice A0 x.names.length cp0) ∧ w'.cell? ⟨w.heap.size, 0, none⟩ = some (.string t0)) (ds := []) (m_ 8 0) (by kernel_rfl) rfl (by kernel_rfl) ⟨d1, e0⟩ (fun hHeld => ?_)
  refine pq_ 0 11 8 1 ?_
  refine pq_ 1 12 8 3 ?_
  refine pq_ 2 13 8 7 ?_
  refine pq_ 4 15 8 23 ?_
  refine tq_ 3 14 8 31 hHeld ?_
  refine tq_ 5 16 8 63 hHeld ?_
  refine one_ (i := 6) (N := some 17) (m_ 8 127) rfl rfl (by kernel_rfl) (by decide) (fun K hK => ?_)
  refine goes_ Tryz.func27 (by kernel_rfl) rfl #[.slice A0 x.names.length cp0, .string t0] (by rfl) rfl rfl (by simp only [List.map_toArray, List.map_cons, List.map_nil]; rfl) ?_
  with_reducible refine (hix.out).mono ?_
  rintro e w2 ⟨rfl, rfl⟩
  rw [his.out]
  refine ⟨_, rfl, ?_⟩
  refine hK.out _ _ ⟨d1, e0⟩ (fun hHeld => ?_)
  clear hK K
  refine norm_ (a' := ?_) ?_ ?_
  rotate_left
  · show Act.put _ (some 17) _ = _
    simp only [Act.put, List.setIfInBounds_toArray, List.set_cons_zero, List.set_cons_succ, i64_w, i32_w]
    rfl
  refine pq_ 7 8 8 255 ?_
  refine done_ (by kernel_rfl) ?_
  clear hHeld
  go_wp2
  refine start_ (n := 12) (S := fun w' => w'.cell? ⟨w.heap.size, 2, none⟩ = some (.bool t2) ∧ w'.cell? ⟨b, 2, none⟩ = some (.bool x.up)) (ds := []) (m_ 12 0) (by kernel_rfl) rfl (by kernel_rfl) ⟨e2, d2⟩ (fun hHeld => ?_)
  refine pq_ 0 19 12 1 ?_
  refine pq_ 1 20 12 3 ?_
  refine pq_ 2 21 12 7 ?_
  refine pq_ 3 22 12 15 ?_
  refine pq_ 5 24 12 47 ?_
  refine pq_ 6 25 12 111 ?_
  refine pq_ 7 26 12 239 ?_
  refine tq_ 4 23 12 255 hHeld ?_
  refine tq_ 8 27 12 511 hHeld ?_
  refine pq_ 9 28 12 1023 ?_
  refine pq_ 10 29 12 2047 ?_
  refine pq_ 11 18 12 4095 ?_
  refine done_ (by kernel_rfl) ?_
  clear hHeld e2 d2 d1 e0 hix
  have hr := Lib.hid (show LTu w F w1.drew.drew b x from hl0.out.trans (fun F' hL => LTu.below (w := w) hL hB1.out.drew.drew))
  clear hH1 hblk1 hB1
  go_wp2
  go_ret
  exact ⟨rfl, hr.out⟩
theorem chg_pass (h : LK w F b x) (ho : OkK x M Q) (hM : M ≤ 1000000000) (t0 : ByteArray) (t1 : Int) (t2 : Bool) (t3 t4 t5 now : Int) (hz : chk ⟨t0, t1, t2, t3, t4, t5⟩ = 0) (hu : t2 = x.up) (i : Nat) (hi : idxN x.names t0 = some i) (q0 : ByteArray) (q1 : Int) (q2 : Bool) (q3 q4 q5 : Int) (hti : (toxs x.c)[i]? = some ⟨q0, q1, q2, q3, q4, q5⟩) (hp : passB ⟨q0, q1, q2, q3, q4, q5⟩ = true) :
    Calls Tryz.prog 49 #[ptr b, .agg #[.string t0, .int .i64 t1, .bool t2, .int .i64 t3, .int .i64 t4, .int .i64 t5], .int .i64 now] w fun e w' => e = .returned (.int .i64 (0)) ∧ LTu w F w' b (x) := by
  obtain ⟨G, c, D, v, h⟩ := h
  have hvs := h.2.2.2.1.sr
  obtain ⟨A0, cp0, hv, _⟩ := hvs
  subst hv
  have hnl : x.names.length ≤ 8 := by have := ho.n; have := ho.c.ten; omega
  have hb0 := (Below.refl w.heap.size w).alloc (Nat.le_refl _) (.cells #[.string t0, .int .i64 t1, .bool t2, .int .i64 t3, .int .i64 t4, .int .i64 t5] 27)
  have hblk0 := Lib.hid (Blk.new w 27 #[.string t0, .int .i64 t1, .bool t2, .int .i64 t3, .int .i64 t4, .int .i64 t5])
  have hH0 := Lib.hid (h.below hb0)
  have hb0' := Lib.hid hb0
  have hck := Lib.hid (fun wy => check_any ⟨t0, t1, t2, t3, t4, t5⟩ wy)
  have hl0 := Lib.hid (LTu.refl h.lk)
  have tu : (t2 != x.up) = false := by rw [hu]; simp
  have tu2 : (t2 == x.up) = true := by rw [hu]; simp
  have his : Hid (idxI x.names t0 = (i : Int)) := Lib.hid (by unfold idxI; rw [hi])
  rw [hz] at hck
  have hilt := idx_lt hi
  have hneg : decide ((i : Int) < 0) = false := decide_eq_false (by omega)
  have hnames := ho.n
  have htl := toxs_length x.c ho.c.two
  have hoc := Lib.hid ho.c
  have hq : ∀ W : World, (binOp .eql 27 (.agg #[.string q0, .int .i64 q1, .bool q2, .int .i64 q3, .int .i64 q4, .int .i64 q5]) (.agg #[.string ⟨#[]⟩, .int .i64 0, .bool false, .int .i64 0, .int .i64 0, .int .i64 0])).run Tryz.prog W = .ok (.bool true) W := fun W => by
    rw [eql_tox]; unfold passB noTox at hp; rw [hp]
  have hguard := eqguard_tox
  clear h hb0 ho hz hu hi hp
  go_enter Tryz.func49, Tryz.ntmps49
  go_wp2_with fail
  refine (hck.out _).mono ?_
  rintro e w1 ⟨rfl, hB⟩
  have hB1 := Lib.hid (bw_below hb0'.out hB)
  have hblk1 := Lib.hid (hblk0.out.below hB)
  have hH1 := Lib.hid (hH0.out.below hB)
  clear hB hb0' hblk0 hH0 hck
  have e2 : w1.cell? ⟨w.heap.size, 2, none⟩ = some (.bool t2) := (hblk1.out.cell 2).trans rfl
  have d2 : w1.cell? ⟨b, 2, none⟩ = some (.bool x.up) := (hH1.out.cell 2).trans rfl
  have d1 : w1.cell? ⟨b, 1, none⟩ = some (.slice A0 x.names.length cp0) := (hH1.out.cell 1).trans rfl
  have e0 : w1.cell? ⟨w.heap.size, 0, none⟩ = some (.string t0) := (hblk1.out.cell 0).trans rfl
  have hix := Lib.hid (index_any w1.drew (.slice A0 x.names.length cp0) x.names t0 (show SR w1.drew _ _ from (hH1.out.2.2.2.1).sr) (by omega))
  go_wp2
  refine start_ (n := 8) (S := fun w' => w'.cell? ⟨b, 1, none⟩ = some (.slice A0 x.names.length cp0) ∧ w'.cell? ⟨w.heap.size, 0, none⟩ = some (.string t0)) (ds := []) (m_ 8 0) (by kernel_rfl) rfl (by kernel_rfl) ⟨d1, e0⟩ (fun hHeld => ?_)
  refine pq_ 0 11 8 1 ?_
  refine pq_ 1 12 8 3 ?_
  refine pq_ 2 13 8 7 ?_
  refine pq_ 4 15 8 23 ?_
  refine tq_ 3 14 8 31 hHeld ?_
  refine tq_ 5 16 8 63 hHeld ?_
  refine one_ (i := 6) (N := some 17) (m_ 8 127) rfl rfl (by kernel_rfl) (by decide) (fun K hK => ?_)
  refine goes_ Tryz.func27 (by kernel_rfl) rfl #[.slice A0 x.names.length cp0, .string t0] (by rfl) rfl rfl (by simp only [List.map_toArray, List.map_cons, List.map_nil]; rfl) ?_
  with_reducible refine (hix.out).mono ?_
  rintro e w2 ⟨rfl, rfl⟩
  rw [his.out]
  refine ⟨_, rfl, ?_⟩
  refine hK.out _ _ ⟨d1, e0⟩ (fun hHeld => ?_)
  clear hK K
  refine norm_ (a' := ?_) ?_ ?_
  rotate_left
  · show Act.put _ (some 17) _ = _
    simp only [Act.put, List.setIfInBounds_toArray, List.set_cons_zero, List.set_cons_succ, i64_w, i32_w]
    rfl
  refine pq_ 7 8 8 255 ?_
  refine done_ (by kernel_rfl) ?_
  clear hHeld
  go_wp2
  refine start_ (n := 12) (S := fun w' => w'.cell? ⟨w.heap.size, 2, none⟩ = some (.bool t2) ∧ w'.cell? ⟨b, 2, none⟩ = some (.bool x.up)) (ds := []) (m_ 12 0) (by kernel_rfl) rfl (by kernel_rfl) ⟨e2, d2⟩ (fun hHeld => ?_)
  refine pq_ 0 19 12 1 ?_
  refine pq_ 1 20 12 3 ?_
  refine pq_ 2 21 12 7 ?_
  refine pq_ 3 22 12 15 ?_
  refine pq_ 5 24 12 47 ?_
  refine pq_ 6 25 12 111 ?_
  refine pq_ 7 26 12 239 ?_
  refine tq_ 4 23 12 255 hHeld ?_
  refine tq_ 8 27 12 511 hHeld ?_
  refine pq_ 9 28 12 1023 ?_
  refine pq_ 10 29 12 2047 ?_
  refine pq_ 11 18 12 4095 ?_
  refine done_ (by kernel_rfl) ?_
  clear hHeld e2 d2 d1 e0 hix
  have H2 := Lib.hid (hH1.out.drew.drew)
  have hq2 := Lib.hid (hblk1.out.below ((Below.refl _ _).drew.drew))
  have hB2 := Lib.hid (show Below w.heap.size w w1.drew.drew from hB1.out.drew.drew)
  clear hH1 hblk1 hB1
  generalize w1.drew.drew = W1 at *
  have r0 : W1.cell? ⟨b, 0, none⟩ = some (ptr c) := (H2.out.cell 0).trans rfl
  have htx := Lib.hid (cToxics_any H2.out.2.1 hoc.out.two hoc.out.ten)
  go_wp2_with fail
  refine htx.out.mono ?_
  rintro e w3 ⟨A3, cp3, rfl, hTR, hnw, hB⟩
  obtain ⟨g3, rfl, -, htc⟩ := hTR (by intro e; rw [e] at htl; simp at htl; omega)
  have y0 : w3.cell? ⟨g3, i * 6, none⟩ = some (.string q0) := htc (i * 6 + 0) _ ((tcells_get _ i 0 _ hti (by decide)).trans rfl)
  have y1 : w3.cell? ⟨g3, i * 6 + 1, none⟩ = some (.int .i64 q1) := htc (i * 6 + 1) _ ((tcells_get _ i 1 _ hti (by decide)).trans rfl)
  have y2 : w3.cell? ⟨g3, i * 6 + 2, none⟩ = some (.bool q2) := htc (i * 6 + 2) _ ((tcells_get _ i 2 _ hti (by decide)).trans rfl)
  have y3 : w3.cell? ⟨g3, i * 6 + 3, none⟩ = some (.int .i64 q3) := htc (i * 6 + 3) _ ((tcells_get _ i 3 _ hti (by decide)).trans rfl)
  have y4 : w3.cell? ⟨g3, i * 6 + 4, none⟩ = some (.int .i64 q4) := htc (i * 6 + 4) _ ((tcells_get _ i 4 _ hti (by decide)).trans rfl)
  have y5 : w3.cell? ⟨g3, i * 6 + 5, none⟩ = some (.int .i64 q5) := htc (i * 6 + 5) _ ((tcells_get _ i 5 _ hti (by decide)).trans rfl)
  have H3 := Lib.hid (H2.out.below hB)
  have hq3 := Lib.hid (hq2.out.below hB)
  have hB3 := Lib.hid (hB2.out.trans (hB.mono hB2.out.size))
  have hin1 : i < x.c.l.length - 2 := by omega
  have hin2 : (i : Int) < ((x.c.l.length - 2 : Nat) : Int) := by omega
  have hin3 : (0 : Int) ≤ (i : Int) := by omega
  have hti' := Lib.hid hti
  clear hTR htc hB H2 hq2 hB2 htx hnw r0 hti htl hnames
  have hr := Lib.hid (show LTu w F w3 b x from hl0.out.trans (fun F' hL => LTu.below (w := w) hL hB3.out))
  clear H3 hq3 hB3
  go_wp2
  go_ret
  exact ⟨rfl, hr.out⟩
set_option maxHeartbeats 1000000 in
theorem chg_ok (h : LK w F b x) (ho : OkK x M Q) (hM : M ≤ 1000000000) (t0 : ByteArray) (t1 : Int) (t2 : Bool) (t3 t4 t5 now : Int) (hz : chk ⟨t0, t1, t2, t3, t4, t5⟩ = 0) (hu : t2 = x.up) (i : Nat) (hi : idxN x.names t0 = some i) (q0 : ByteArray) (q1 : Int) (q2 : Bool) (q3 q4 q5 : Int) (hti : (toxs x.c)[i]? = some ⟨q0, q1, q2, q3, q4, q5⟩) (hp : passB ⟨q0, q1, q2, q3, q4, q5⟩ = false) :
    Calls Tryz.prog 49 #[ptr b, .agg #[.string t0, .int .i64 t1, .bool t2, .int .i64 t3, .int .i64 t4, .int .i64 t5], .int .i64 now] w fun e w' => e = .returned (.int .i64 (updCE x.c i ⟨t0, t1, t2, t3, t4, t5⟩)) ∧ LTu w F w' b ({ x with c := updC x.c i ⟨t0, t1, t2, t3, t4, t5⟩ now }) := by
  obtain ⟨G, c, D, v, h⟩ := h
  have hvs := h.2.2.2.1.sr
  obtain ⟨A0, cp0, hv, _⟩ := hvs
  subst hv
  have hnl : x.names.length ≤ 8 := by have := ho.n; have := ho.c.ten; omega
  have hb0 := (Below.refl w.heap.size w).alloc (Nat.le_refl _) (.cells #[.string t0, .int .i64 t1, .bool t2, .int .i64 t3, .int .i64 t4, .int .i64 t5] 27)
  have hblk0 := Lib.hid (Blk.new w 27 #[.string t0, .int .i64 t1, .bool t2, .int .i64 t3, .int .i64 t4, .int .i64 t5])
  have hH0 := Lib.hid (h.below hb0)
  have hb0' := Lib.hid hb0
  have hck := Lib.hid (fun wy => check_any ⟨t0, t1, t2, t3, t4, t5⟩ wy)
  have hl0 := Lib.hid (LTu.refl h.lk)
  have tu : (t2 != x.up) = false := by rw [hu]; simp
  have tu2 : (t2 == x.up) = true := by rw [hu]; simp
  have his : Hid (idxI x.names t0 = (i : Int)) := Lib.hid (by unfold idxI; rw [hi])
  rw [hz] at hck
  have hilt := idx_lt hi
  have hneg : decide ((i : Int) < 0) = false := decide_eq_false (by omega)
  have hnames := ho.n
  have htl := toxs_length x.c ho.c.two
  have hoc := Lib.hid ho.c
  have hq : ∀ W : World, (binOp .eql 27 (.agg #[.string q0, .int .i64 q1, .bool q2, .int .i64 q3, .int .i64 q4, .int .i64 q5]) (.agg #[.string ⟨#[]⟩, .int .i64 0, .bool false, .int .i64 0, .int .i64 0, .int .i64 0])).run Tryz.prog W = .ok (.bool false) W := fun W => by
    rw [eql_tox]; unfold passB noTox at hp; rw [hp]
  have hguard := eqguard_tox
  clear h hb0 ho hz hu hi hp
  go_enter Tryz.func49, Tryz.ntmps49
  go_wp2_with fail
  refine (hck.out _).mono ?_
  rintro e w1 ⟨rfl, hB⟩
  have hB1 := Lib.hid (bw_below hb0'.out hB)
  have hblk1 := Lib.hid (hblk0.out.below hB)
  have hH1 := Lib.hid (hH0.out.below hB)
  clear hB hb0' hblk0 hH0 hck
  have e2 : w1.cell? ⟨w.heap.size, 2, none⟩ = some (.bool t2) := (hblk1.out.cell 2).trans rfl
  have d2 : w1.cell? ⟨b, 2, none⟩ = some (.bool x.up) := (hH1.out.cell 2).trans rfl
  have d1 : w1.cell? ⟨b, 1, none⟩ = some (.slice A0 x.names.length cp0) := (hH1.out.cell 1).trans rfl
  have e0 : w1.cell? ⟨w.heap.size, 0, none⟩ = some (.string t0) := (hblk1.out.cell 0).trans rfl
  have hix := Lib.hid (index_any w1.drew (.slice A0 x.names.length cp0) x.names t0 (show SR w1.drew _ _ from (hH1.out.2.2.2.1).sr) (by omega))
  go_wp2
  refine start_ (n := 8) (S := fun w' => w'.cell? ⟨b, 1, none⟩ = some (.slice A0 x.names.length cp0) ∧ w'.cell? ⟨w.heap.size, 0, none⟩ = some (.string t0)) (ds := []) (m_ 8 0) (by kernel_rfl) rfl (by kernel_rfl) ⟨d1, e0⟩ (fun hHeld => ?_)
  refine pq_ 0 11 8 1 ?_
  refine pq_ 1 12 8 3 ?_
  refine pq_ 2 13 8 7 ?_
  refine pq_ 4 15 8 23 ?_
  refine tq_ 3 14 8 31 hHeld ?_
  refine tq_ 5 16 8 63 hHeld ?_
  refine one_ (i := 6) (N := some 17) (m_ 8 127) rfl rfl (by kernel_rfl) (by decide) (fun K hK => ?_)
  refine goes_ Tryz.func27 (by kernel_rfl) rfl #[.slice A0 x.names.length cp0, .string t0] (by rfl) rfl rfl (by simp only [List.map_toArray, List.map_cons, List.map_nil]; rfl) ?_
  with_reducible refine (hix.out).mono ?_
  rintro e w2 ⟨rfl, rfl⟩
  rw [his.out]
  refine ⟨_, rfl, ?_⟩
  refine hK.out _ _ ⟨d1, e0⟩ (fun hHeld => ?_)
  clear hK K
  refine norm_ (a' := ?_) ?_ ?_
  rotate_left
  · show Act.put _ (some 17) _ = _
    simp only [Act.put, List.setIfInBounds_toArray, List.set_cons_zero, List.set_cons_succ, i64_w, i32_w]
    rfl
  refine pq_ 7 8 8 255 ?_
  refine done_ (by kernel_rfl) ?_
  clear hHeld
  go_wp2
  refine start_ (n := 12) (S := fun w' => w'.cell? ⟨w.heap.size, 2, none⟩ = some (.bool t2) ∧ w'.cell? ⟨b, 2, none⟩ = some (.bool x.up)) (ds := []) (m_ 12 0) (by kernel_rfl) rfl (by kernel_rfl) ⟨e2, d2⟩ (fun hHeld => ?_)
  refine pq_ 0 19 12 1 ?_
  refine pq_ 1 20 12 3 ?_
  refine pq_ 2 21 12 7 ?_
  refine pq_ 3 22 12 15 ?_
  refine pq_ 5 24 12 47 ?_
  refine pq_ 6 25 12 111 ?_
  refine pq_ 7 26 12 239 ?_
  refine tq_ 4 23 12 255 hHeld ?_
  refine tq_ 8 27 12 511 hHeld ?_
  refine pq_ 9 28 12 1023 ?_
  refine pq_ 10 29 12 2047 ?_
  refine pq_ 11 18 12 4095 ?_
  refine done_ (by kernel_rfl) ?_
  clear hHeld e2 d2 d1 e0 hix
  have H2 := Lib.hid (hH1.out.drew.drew)
  have hq2 := Lib.hid (hblk1.out.below ((Below.refl _ _).drew.drew))
  have hB2 := Lib.hid (show Below w.heap.size w w1.drew.drew from hB1.out.drew.drew)
  clear hH1 hblk1 hB1
  generalize w1.drew.drew = W1 at *
  have r0 : W1.cell? ⟨b, 0, none⟩ = some (ptr c) := (H2.out.cell 0).trans rfl
  have htx := Lib.hid (cToxics_any H2.out.2.1 hoc.out.two hoc.out.ten)
  go_wp2_with fail
  refine htx.out.mono ?_
  rintro e w3 ⟨A3, cp3, rfl, hTR, hnw, hB⟩
  obtain ⟨g3, rfl, -, htc⟩ := hTR (by intro e; rw [e] at htl; simp at htl; omega)
  have y0 : w3.cell? ⟨g3, i * 6, none⟩ = some (.string q0) := htc (i * 6 + 0) _ ((tcells_get _ i 0 _ hti (by decide)).trans rfl)
  have y1 : w3.cell? ⟨g3, i * 6 + 1, none⟩ = some (.int .i64 q1) := htc (i * 6 + 1) _ ((tcells_get _ i 1 _ hti (by decide)).trans rfl)
  have y2 : w3.cell? ⟨g3, i * 6 + 2, none⟩ = some (.bool q2) := htc (i * 6 + 2) _ ((tcells_get _ i 2 _ hti (by decide)).trans rfl)
  have y3 : w3.cell? ⟨g3, i * 6 + 3, none⟩ = some (.int .i64 q3) := htc (i * 6 + 3) _ ((tcells_get _ i 3 _ hti (by decide)).trans rfl)
  have y4 : w3.cell? ⟨g3, i * 6 + 4, none⟩ = some (.int .i64 q4) := htc (i * 6 + 4) _ ((tcells_get _ i 4 _ hti (by decide)).trans rfl)
  have y5 : w3.cell? ⟨g3, i * 6 + 5, none⟩ = some (.int .i64 q5) := htc (i * 6 + 5) _ ((tcells_get _ i 5 _ hti (by decide)).trans rfl)
  have H3 := Lib.hid (H2.out.below hB)
  have hq3 := Lib.hid (hq2.out.below hB)
  have hB3 := Lib.hid (hB2.out.trans (hB.mono hB2.out.size))
  have hin1 : i < x.c.l.length - 2 := by omega
  have hin2 : (i : Int) < ((x.c.l.length - 2 : Nat) : Int) := by omega
  have hin3 : (0 : Int) ≤ (i : Int) := by omega
  have hti' := Lib.hid hti
  clear hTR htc hB H2 hq2 hB2 htx hnw r0 hti htl hnames
  have r0 : w3.cell? ⟨b, 0, none⟩ = some (ptr c) := (H3.out.cell 0).trans rfl
  have u0 : w3.cell? ⟨w.heap.size, 0, none⟩ = some (.string t0) := (hq3.out.cell 0).trans rfl
  have u1 : w3.cell? ⟨w.heap.size, 1, none⟩ = some (.int .i64 t1) := (hq3.out.cell 1).trans rfl
  have u2 : w3.cell? ⟨w.heap.size, 2, none⟩ = some (.bool t2) := (hq3.out.cell 2).trans rfl
  have u3 : w3.cell? ⟨w.heap.size, 3, none⟩ = some (.int .i64 t3) := (hq3.out.cell 3).trans rfl
  have u4 : w3.cell? ⟨w.heap.size, 4, none⟩ = some (.int .i64 t4) := (hq3.out.cell 4).trans rfl
  have u5 : w3.cell? ⟨w.heap.size, 5, none⟩ = some (.int .i64 t5) := (hq3.out.cell 5).trans rfl
  have hup := Lib.hid (cUpdate_any H3.out.drew.2.1 hoc.out (i : Int) ⟨t0, t1, t2, t3, t4, t5⟩ now hM)
  go_wp2
  refine start_ (n := 9) (S := fun w' => w'.cell? ⟨b, 0, none⟩ = some (ptr c) ∧ w'.cell? ⟨w.heap.size, 0, none⟩ = some (.string t0) ∧ w'.cell? ⟨w.heap.size, 1, none⟩ = some (.int .i64 t1) ∧ w'.cell? ⟨w.heap.size, 2, none⟩ = some (.bool t2) ∧ w'.cell? ⟨w.heap.size, 3, none⟩ = some (.int .i64 t3) ∧ w'.cell? ⟨w.heap.size, 4, none⟩ = some (.int .i64 t4) ∧ w'.cell? ⟨w.heap.size, 5, none⟩ = some (.int .i64 t5)) (ds := []) (m_ 9 0) (by kernel_rfl) rfl (by kernel_rfl) ⟨r0, u0, u1, u2, u3, u4, u5⟩ (fun hHeld => ?_)
  refine pq_ 0 45 9 1 ?_
  refine pq_ 1 46 9 3 ?_
  refine pq_ 2 47 9 7 ?_
  refine pq_ 4 49 9 23 ?_
  refine pq_ 6 51 9 87 ?_
  refine tq_ 3 48 9 95 hHeld ?_
  refine tq_ 5 50 9 127 hHeld ?_
  refine one_ (i := 7) (N := some 52) (m_ 9 255) rfl rfl (by kernel_rfl) (by decide) (fun K hK => ?_)
  refine goes_ Tryz.func75 (by kernel_rfl) rfl #[ptr c, .int .i64 i, .agg #[.string t0, .int .i64 t1, .bool t2, .int .i64 t3, .int .i64 t4, .int .i64 t5], .int .i64 now] (by rfl) rfl rfl (by simp only [List.map_toArray, List.map_cons, List.map_nil]; rfl) ?_
  with_reducible refine (hup.out).mono ?_
  rintro e w7 ⟨rfl, hT⟩
  obtain ⟨F7, G7, D7, h7, hd7, hs7⟩ := H3.out.drew.turn (hT.tuD H3.out.2.2.1)
  have z0 : w7.cell? ⟨b, 0, none⟩ = some (ptr c) := (h7.cell 0).trans rfl
  have hq7 := Blk.did (w := w3.drew) hq3.out hd7 (H3.out.lk.off hq3.out (by decide))
  have zz0 := (hq7.cell 0).trans rfl
  have zz1 := (hq7.cell 1).trans rfl
  have zz2 := (hq7.cell 2).trans rfl
  have zz3 := (hq7.cell 3).trans rfl
  have zz4 := (hq7.cell 4).trans rfl
  have zz5 := (hq7.cell 5).trans rfl
  simp only [List.getElem?_toArray, List.getElem?_cons_zero, List.getElem?_cons_succ] at zz0 zz1 zz2 zz3 zz4 zz5
  have H7 := Lib.hid h7
  have hDS7 := Lib.hid (And.intro hd7 hs7)
  clear hT h7 hd7 hs7 hq7
  refine ⟨_, rfl, ?_⟩
  refine hK.out _ _ ⟨z0, zz0, zz1, zz2, zz3, zz4, zz5⟩ (fun hHeld => ?_)
  clear hK K
  refine norm_ (a' := ?_) ?_ ?_
  rotate_left
  · show Act.put _ (some 52) _ = _
    simp only [Act.put, List.setIfInBounds_toArray, List.set_cons_zero, List.set_cons_succ, i64_w, i32_w]
    rfl
  refine pq_ 8 6 9 511 ?_
  refine done_ (by kernel_rfl) ?_
  clear hHeld r0 u0 u1 u2 u3 u4 u5 z0 zz0 zz1 zz2 zz3 zz4 zz5 y0 y1 y2 y3 y4 y5
  have hr := Lib.hid (show LTu w F w7 b { x with c := updC x.c i ⟨t0, t1, t2, t3, t4, t5⟩ now } from by
    obtain ⟨F0, hL0, hd0, hs0⟩ := hl0.out
    exact LTu.next ((Did.of_below hB3.out).drew.trans (Stem.refl _ _) hDS7.out.1) (show Stem F F7 w from fun j hj => (hDS7.out.2 j hj).imp id (fun e => Nat.le_trans hB3.out.size e)) ⟨F7, H7.out.lk, Did.refl _ _, Stem.refl _ _⟩)
  clear H7 hDS7 H3 hq3 hB3 hup
  go_wp2
  go_ret
  exact ⟨rfl, hr.out⟩
theorem kChange_any (h : LK w F b x) (ho : OkK x M Q) (hM : M ≤ 1000000000) (t : Tox) (now : Int) :
    Calls Tryz.prog 49 #[ptr b, t.v, .int .i64 now] w fun e w' => e = .returned (.int .i64 (chgE x t)) ∧ LTu w F w' b (chgK x t now) := by
  obtain ⟨t0, t1, t2, t3, t4, t5⟩ := t
  unfold chgE chgK chgB
  by_cases hz : chk ⟨t0, t1, t2, t3, t4, t5⟩ = 0
  · by_cases hu : t2 = x.up
    · rw [if_neg (by rintro (e | e); exact e hz; exact e hu), if_neg (by rintro (e | e); exact e hz; exact e hu)]
      show Calls _ _ _ _ _
      cases hi : idxN x.names t0 with
      | none =>
        simp only [hi]
        exact chg_none h ho hM t0 t1 t2 t3 t4 t5 now hz hu hi
      | some i =>
        have hilt := idx_lt hi
        have hn := ho.n
        have htl := toxs_length x.c ho.c.two
        have hti : (toxs x.c)[i]? = some (toxs x.c)[i] := List.getElem?_eq_getElem (by omega)
        generalize (toxs x.c)[i]'(by omega) = T at *
        obtain ⟨q0, q1, q2, q3, q4, q5⟩ := T
        simp only [hi, hti]
        cases hp : passB ⟨q0, q1, q2, q3, q4, q5⟩ with
        | true => simp only [Option.elim, hp, if_true]; exact chg_pass h ho hM t0 t1 t2 t3 t4 t5 now hz hu i hi q0 q1 q2 q3 q4 q5 hti hp
        | false => simp only [Option.elim, hp]; exact chg_ok h ho hM t0 t1 t2 t3 t4 t5 now hz hu i hi q0 q1 q2 q3 q4 q5 hti hp
    · rw [if_pos (.inr hu), if_pos (.inr hu), hz]
      exact chg_other h ho hM t0 t1 t2 t3 t4 t5 now hz hu
  · rw [if_pos (.inl hz), if_pos (.inl hz)]
    exact chg_bad h ho hM t0 t1 t2 t3 t4 t5 now hz
end Go.Proofs.YtnkgjnmhiedfoaaGreat.Link
