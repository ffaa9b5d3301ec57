/- The chain's New, and Step whole (chapter 11). -/
import Derived.Test.YtoiibmcbjjnpbaaE23
import Derived.Test.YtoiibmcbjjnpbaaE22
import Derived.Test.YtoiibmcbjjnpbaaE16
import Derived.Lib.SlBytesConst
import Derived.Maps.AppendAt
namespace Go.Proofs.Ytoiibmcbjjnpbaa.Chain
open Go.RowKit Mem Tick Cargo Toxic Stage
open Go.Proofs.YtoiibmcbjjnpbaaW.PrintLast Pu
set_option maxRecDepth 100000
set_option linter.unusedVariables false
set_option linter.unusedSimpArgs false
variable {w w' : World} {F H : Nat → Prop} {t : Pt} {a : Pa} {c : Nat} {D : Lay} {x : Ch}
theorem cStep_any (h : CH w F c D x) {M Q : Int} (ho : OkC x M Q) (hM : M ≤ 1000000000) (hQ : Q + 20 * M ≤ 1000000000) (now : Int) :
    Calls Try.prog 22 #[ptr c, .int .i64 now] w fun e w' => e = .returned (.int .i64 (stepC now x).state) ∧ Tu w F w' c D (stepC now x) := by
  unfold stepC
  by_cases h1 : x.state = 0
  · rw [if_neg (fun e => e h1)]
    by_cases hb : brokenB (x.l.map (lookA now)) = true
    · rw [if_pos hb]; exact step_broken h ho hM now h1 hb
    · rw [if_neg hb]; exact step_go h ho hM hQ now h1 (by simpa using hb)
  · rw [if_pos h1]; exact step_shut h now h1
def newC (room now : Int) : Ch := ⟨[⟨newS noTox 0 room now, false⟩, ⟨newS noTox 0 room now, false⟩], room, 0, false, 0⟩
theorem newE_pass (room : Int) : newE noTox room = if roomOk room = false then 1 else 0 := by
  have hp : passB noTox = true := by simp [passB, sameT, noTox]
  unfold newE
  rw [if_neg (fun h => by rw [hp] at h; cases h.1)]
theorem ok_newC (room now : Int) (h : roomOk room = true) : OkC (newC room now) 0 0 := by
  have hr : 1 ≤ room ∧ room ≤ 4096 := by simpa [roomOk] using h
  have he : newE noTox room = 0 := by rw [newE_pass, h]; rfl
  have hs : (newS noTox 0 room now).c = ([], 0) ∧ (newS noTox 0 room now).passed = 0 := by unfold newS; split <;> exact ⟨rfl, rfl⟩
  have hh : held (newS noTox 0 room now) = 0 := by unfold held; rw [hs.1]; rfl
  refine ⟨Nat.le_refl 2, (by show 2 ≤ 10; decide), hr.1, hr.2, ?_, Int.le_refl 0, ?_, ?_⟩
  · show ((held _ + (held _ + 0) : Nat) : Int) ≤ 0; rw [hh]; decide
  · show (0 : Int) + ((held _ + (held _ + 0) : Nat) : Int) ≤ 0; rw [hh]; decide
  · intro a ha
    have : a = ⟨newS noTox 0 room now, false⟩ := by
      rcases List.mem_cons.1 ha with h | h
      · exact h
      · exact List.mem_singleton.1 h
    subst this
    exact ⟨Ok.new he, by show (newS noTox 0 room now).passed ≤ 0; rw [hs.2]; decide⟩
theorem cNew_bad (room now : Int) (w : World) (h : roomOk room = false) :
    Calls Try.prog 16 #[.int .i64 room, .int .i64 now] w fun e w' => e = .returned (.tuple #[.pointer none, .int .i64 1]) ∧ Below w.heap.size w w' := by
  have he : newE noTox room = 1 := by rw [newE_pass, if_pos h]
  have hn := fun wr => live_none (wr := wr) noTox 0 room now (by rw [he]; decide)
  rw [he] at hn
  have hn' := Lib.hid hn
  clear hn
  go_enter Try.func16, Try.ntmps16
  go_wp2_with fail
  refine (hn'.out _).mono ?_
  rintro e w1 ⟨rfl, hB1⟩
  go_wp2_with fail
  refine (hn'.out _).mono ?_
  rintro e w2 ⟨rfl, hB2⟩
  have hB := Lib.hid (bw_below hB1 hB2)
  clear hB1 hB2 hn'
  go_wp2
  go_ret2
  exact ⟨rfl, hB.out⟩
theorem ch_new {w2 : World} {F1 F2 : Nat → Prop} {b1 k1 b2 k2 : Nat} {s1 s2 : Sg} (room : Int) (h1 : SG w2 F1 b1 k1 s1) (h2 : SG w2 F2 b2 k2 s2) (hap : ∀ j, F1 j → ¬ F2 j) :
    CH ((((w2.alloc (.cells #[ptr b1, .bool false] 68)).alloc (.cells #[ptr b2, .bool false] 68)).alloc (.cells #[ptr w2.heap.size, ptr (w2.heap.size + 1)] 64)).alloc (.cells #[.slice (some ⟨w2.heap.size + 1 + 1, 0, none⟩) 2 2, .int .i64 room, .int .i64 0, .bool false, .int .i64 0] 73)) (fun j => j = w2.heap.size + 1 + 1 + 1 ∨ j = w2.heap.size + 1 + 1 ∨ ∃ i, i < 2 ∧ (if i = 0 then (j = w2.heap.size ∨ F1 j) else (j = w2.heap.size + 1 ∨ F2 j))) (w2.heap.size + 1 + 1 + 1)
      ⟨w2.heap.size + 1 + 1, 2, [⟨w2.heap.size, b1, k1⟩, ⟨w2.heap.size + 1, b2, k2⟩]⟩ ⟨[⟨s1, false⟩, ⟨s2, false⟩], room, 0, false, 0⟩ := by
  have hB : Below w2.heap.size w2 ((((w2.alloc (.cells #[ptr b1, .bool false] 68)).alloc (.cells #[ptr b2, .bool false] 68)).alloc (.cells #[ptr w2.heap.size, ptr (w2.heap.size + 1)] 64)).alloc (.cells #[.slice (some ⟨w2.heap.size + 1 + 1, 0, none⟩) 2 2, .int .i64 room, .int .i64 0, .bool false, .int .i64 0] 73)) := (((((Below.refl w2.heap.size w2).alloc (Nat.le_refl _) _).alloc (by simp only [World.size_alloc]; omega) _).alloc (by simp only [World.size_alloc]; omega) _).alloc (by simp only [World.size_alloc]; omega) _)
  have s1' := h1.below hB
  have s2' := h2.below hB
  have p1 : Blk ((((w2.alloc (.cells #[ptr b1, .bool false] 68)).alloc (.cells #[ptr b2, .bool false] 68)).alloc (.cells #[ptr w2.heap.size, ptr (w2.heap.size + 1)] 64)).alloc (.cells #[.slice (some ⟨w2.heap.size + 1 + 1, 0, none⟩) 2 2, .int .i64 room, .int .i64 0, .bool false, .int .i64 0] 73)) w2.heap.size 68 #[ptr b1, .bool false] := (Below.heap_alloc _ _ _ (by simp only [World.size_alloc]; omega)).trans ((Below.heap_alloc _ _ _ (by simp only [World.size_alloc]; omega)).trans ((Below.heap_alloc _ _ _ (by simp only [World.size_alloc]; omega)).trans (heap_alloc_new _ _)))
  have p2 : Blk ((((w2.alloc (.cells #[ptr b1, .bool false] 68)).alloc (.cells #[ptr b2, .bool false] 68)).alloc (.cells #[ptr w2.heap.size, ptr (w2.heap.size + 1)] 64)).alloc (.cells #[.slice (some ⟨w2.heap.size + 1 + 1, 0, none⟩) 2 2, .int .i64 room, .int .i64 0, .bool false, .int .i64 0] 73)) (w2.heap.size + 1) 68 #[ptr b2, .bool false] := by
    have := heap_alloc_new (w2.alloc (.cells #[ptr b1, .bool false] 68)) (.cells #[ptr b2, .bool false] 68)
    rw [World.size_alloc] at this
    exact (Below.heap_alloc _ _ _ (by simp only [World.size_alloc]; omega)).trans ((Below.heap_alloc _ _ _ (by simp only [World.size_alloc]; omega)).trans this)
  have pr : Blk ((((w2.alloc (.cells #[ptr b1, .bool false] 68)).alloc (.cells #[ptr b2, .bool false] 68)).alloc (.cells #[ptr w2.heap.size, ptr (w2.heap.size + 1)] 64)).alloc (.cells #[.slice (some ⟨w2.heap.size + 1 + 1, 0, none⟩) 2 2, .int .i64 room, .int .i64 0, .bool false, .int .i64 0] 73)) (w2.heap.size + 1 + 1) 64 #[ptr w2.heap.size, ptr (w2.heap.size + 1)] := by
    have := heap_alloc_new ((w2.alloc (.cells #[ptr b1, .bool false] 68)).alloc (.cells #[ptr b2, .bool false] 68)) (.cells #[ptr w2.heap.size, ptr (w2.heap.size + 1)] 64)
    rw [World.size_alloc, World.size_alloc] at this
    exact (Below.heap_alloc _ _ _ (by simp only [World.size_alloc]; omega)).trans this
  have pc : Blk ((((w2.alloc (.cells #[ptr b1, .bool false] 68)).alloc (.cells #[ptr b2, .bool false] 68)).alloc (.cells #[ptr w2.heap.size, ptr (w2.heap.size + 1)] 64)).alloc (.cells #[.slice (some ⟨w2.heap.size + 1 + 1, 0, none⟩) 2 2, .int .i64 room, .int .i64 0, .bool false, .int .i64 0] 73)) (w2.heap.size + 1 + 1 + 1) 73 #[.slice (some ⟨w2.heap.size + 1 + 1, 0, none⟩) 2 2, .int .i64 room, .int .i64 0, .bool false, .int .i64 0] := by
    have := heap_alloc_new (((w2.alloc (.cells #[ptr b1, .bool false] 68)).alloc (.cells #[ptr b2, .bool false] 68)).alloc (.cells #[ptr w2.heap.size, ptr (w2.heap.size + 1)] 64)) (.cells #[.slice (some ⟨w2.heap.size + 1 + 1, 0, none⟩) 2 2, .int .i64 room, .int .i64 0, .bool false, .int .i64 0] 73)
    rw [World.size_alloc, World.size_alloc, World.size_alloc] at this
    exact this
  refine ⟨fun i j => if i = 0 then (j = w2.heap.size ∨ F1 j) else (j = w2.heap.size + 1 ∨ F2 j), pc, ⟨_, pr, rfl, fun i t ht => ?_⟩, rfl, fun i t a ht ha => ?_, fun i j hi hj hne y hy hy' => ?_, fun j => Iff.rfl⟩
  · rcases i with _ | _ | i
    · cases ht; rfl
    · cases ht; rfl
    · simp at ht
  · rcases i with _ | _ | i
    · cases ht; cases ha; exact ⟨F1, p1, s1', fun j => Iff.rfl⟩
    · cases ht; cases ha; exact ⟨F2, p2, s2', fun j => Iff.rfl⟩
    · simp at ht
  · have hi2 : i < 2 := hi
    have hj2 : j < 2 := hj
    have l1 := fun (q : F1 y) => h1.lt q
    have l2 := fun (q : F2 y) => h2.lt q
    have cases_ : (i = 0 ∧ j = 1) ∨ (i = 1 ∧ j = 0) := by omega
    rcases cases_ with ⟨rfl, rfl⟩ | ⟨rfl, rfl⟩
    · rcases hy with rfl | hy <;> rcases hy' with hy' | hy'
      · omega
      · have := l2 hy'; omega
      · have := l1 hy; omega
      · exact hap y hy hy'
    · rcases hy with rfl | hy <;> rcases hy' with hy' | hy'
      · omega
      · have := l1 hy'; omega
      · have := l2 hy; omega
      · exact hap y hy' hy
theorem cNew_any (room now : Int) (w : World) (h : roomOk room = true) :
    Calls Try.prog 16 #[.int .i64 room, .int .i64 now] w fun e w' => ∃ c F D, e = .returned (.tuple #[ptr c, .int .i64 0]) ∧ CH w' F c D (newC room now) ∧ (∀ j, F j → w.heap.size ≤ j) ∧ D.cap ≤ 9223372036854775807 ∧ Below w.heap.size w w' := by
  have he : newE noTox room = 0 := by rw [newE_pass, h]; rfl
  have hn := Lib.hid (fun wr => (new_any noTox 0 room now wr).mono fun e w' hp => hp.1 he)
  go_enter Try.func16, Try.ntmps16
  go_wp2_with fail
  refine (hn.out _).mono ?_
  rintro e w1 ⟨b1, k1, F1, rfl, hS1, hF1, hB1⟩
  have h1 := Lib.hid (And.intro hS1 (And.intro hF1 hB1))
  clear hS1 hF1 hB1
  go_wp2_with fail
  refine (hn.out _).mono ?_
  rintro e w2 ⟨b2, k2, F2, rfl, hS2, hF2, hB2⟩
  have hC := Lib.hid (ch_new room (h1.out.1.below hB2) hS2 (fun j hj hj' => by have := h1.out.1.lt hj; have := hF2 j hj'; omega))
  have hw : w.heap.size ≤ w2.heap.size := Nat.le_trans h1.out.2.2.size hB2.size
  have hBw := Lib.hid (((((bw_below h1.out.2.2 hB2).alloc hw (.cells #[ptr b1, .bool false] 68)).alloc (by simp; omega) (.cells #[ptr b2, .bool false] 68)).alloc (by simp; omega) (.cells #[ptr w2.heap.size, ptr (w2.heap.size + 1)] 64)).alloc (by simp; omega) (.cells #[.slice (some ⟨w2.heap.size + 1 + 1, 0, none⟩) 2 2, .int .i64 room, .int .i64 0, .bool false, .int .i64 0] 73))
  have hFF := Lib.hid (show ∀ j, (j = w2.heap.size + 1 + 1 + 1 ∨ j = w2.heap.size + 1 + 1 ∨ ∃ i, i < 2 ∧ (if i = 0 then (j = w2.heap.size ∨ F1 j) else (j = w2.heap.size + 1 ∨ F2 j))) → w.heap.size ≤ j from by
    intro j hj
    rcases hj with rfl | rfl | ⟨i, hi, hj⟩
    · omega
    · omega
    · split at hj
      · rcases hj with rfl | hj
        · exact hw
        · exact h1.out.2.1 j hj
      · rcases hj with rfl | hj
        · omega
        · have := hF2 j hj; have := h1.out.2.2.size; omega)
  clear hS2 hF2 hB2 h1 hn he h hw
  go_wp2
  go_ret2
  exact ⟨_, _, _, rfl, hC.out, hFF.out, (show (2 : Nat) ≤ 9223372036854775807 by decide), hBw.out⟩
end Go.Proofs.Ytoiibmcbjjnpbaa.Chain
namespace Go.Proofs.Ytoiibmcbjjnpbaa.Chain
open Go.RowKit Mem Tick Cargo Toxic Stage
set_option maxRecDepth 100000
set_option linter.unusedVariables false
set_option linter.unusedSimpArgs false
variable {w w' w1 : World} {F H : Nat → Prop} {t : Pt} {a : Pa} {c : Nat} {D : Lay} {x : Ch}
theorem getIns {α : Type} (l : List α) (a : α) (i m : Nat) (hi : i ≤ l.length) : (l.take i ++ a :: l.drop i)[m]? = if m < i then l[m]? else if m = i then some a else l[m - 1]? := by
  have hl : (l.take i).length = i := by rw [List.length_take]; omega
  by_cases h1 : m < i
  · rw [if_pos h1, List.getElem?_append_left (by omega), List.getElem?_take, if_pos h1]
  · rw [if_neg h1, List.getElem?_append_right (by omega), hl]
    by_cases h2 : m = i
    · rw [if_pos h2, h2, Nat.sub_self]; rfl
    · rw [if_neg h2]
      obtain ⟨k, rfl⟩ : ∃ k, m = i + (k + 1) := ⟨m - i - 1, by omega⟩
      rw [show i + (k + 1) - i = k + 1 by omega, List.getElem?_cons_succ, List.getElem?_drop]
      congr 1
theorem insL_map (i : Nat) (t : Pt) (l : List Pt) : insL i (ptr t.p) (l.map fun q => ptr q.p) = (l.take i ++ t :: l.drop i).map fun q => ptr q.p := by
  simp [insL, List.map_take, List.map_drop]
theorem CH.rv (h : CH w F c D x) : RV w D.r D.cap (D.ps.map fun q => ptr q.p) := by
  have hcap := h.cap
  have hlen := h.len
  obtain ⟨H, h⟩ := h
  obtain ⟨cs, hb, hc, hr⟩ := h.row
  refine ⟨cs.toList.drop D.ps.length, ?_, ?_⟩
  · have e : (D.ps.map fun q => ptr q.p) ++ cs.toList.drop D.ps.length = cs.toList := by
      apply List.ext_getElem?
      intro j
      by_cases hj : j < D.ps.length
      · rw [List.getElem?_append_left (by rw [List.length_map]; exact hj), List.getElem?_map, List.getElem?_eq_getElem hj]
        have := hr j _ (List.getElem?_eq_getElem hj)
        rw [Array.getElem?_toList, this]
        rfl
      · rw [List.getElem?_append_right (by rw [List.length_map]; omega), List.length_map, List.getElem?_drop, show D.ps.length + (j - D.ps.length) = j by omega]
    rw [e]
    exact hb
  · rw [List.length_append, List.length_map, List.length_drop, Array.length_toList, hc]
    omega
theorem CH.ins (h : CH w F c D x) (hp : PG w H t a) (hH : ∀ j, H j → ¬ F j) {i : Nat} (hi : i ≤ x.l.length) {r' cap' : Nat} (hr : RV w1 r' cap' (insL i (ptr t.p) (D.ps.map fun q => ptr q.p))) (hd : Did (· = D.r) w w1) (hr' : r' = D.r ∨ w.heap.size ≤ r') :
    ∃ F', CH (w1.setCell ⟨c, 0, none⟩ (.slice (some ⟨r', 0, none⟩) (x.l.length + 1) cap')) F' c ⟨r', cap', D.ps.take i ++ t :: D.ps.drop i⟩ { x with l := x.l.take i ++ a :: x.l.drop i } ∧
      (∀ j, F' j → F j ∨ H j ∨ w.heap.size ≤ j) ∧ F c ∧ F D.r := by
  have hty := h.typed
  have hlen := h.len
  obtain ⟨Hs, h⟩ := h
  obtain ⟨cs, hb, hrest⟩ := h.row
  have hrc : D.r ≠ c := hb.ne h.blk (by decide)
  have hFc : F c := (h.own c).2 (.inl rfl)
  have hFr : F D.r := (h.own D.r).2 (.inr (.inl rfl))
  have hclt : c < w.heap.size := h.blk.lt
  have hr'c : r' ≠ c := by
    rcases hr' with e | e
    · rw [e]; exact hrc
    · omega
  have hFm : ∀ m j, m < x.l.length → Hs m j → F j := fun m j hm hj => (h.own j).2 (.inr (.inr ⟨m, hm, hj⟩))
  have keep : ∀ (G : Nat → Prop) (t' : Pt) (a' : Pa), PG w G t' a' → PG (w1.setCell ⟨c, 0, none⟩ (.slice (some ⟨r', 0, none⟩) (x.l.length + 1) cap')) G t' a' := fun G t' a' hg =>
    hg.kept fun j hj => by
      have n1 : j ≠ D.r := fun e => hg.typed.out hb (by decide) (e ▸ hj)
      have n2 : j ≠ c := fun e => hg.typed.out h.blk (by decide) (e ▸ hj)
      exact (Below.heap_setCell _ _ _ j n2).trans (hd.block j (hg.typed.lt hj) n1)
  have hl2 : (x.l.take i ++ a :: x.l.drop i).length = x.l.length + 1 := by simp; omega
  let H2 : Nat → Nat → Prop := fun m => if m < i then Hs m else if m = i then H else Hs (m - 1)
  have H2F : ∀ m j, m < x.l.length + 1 → H2 m j → (m ≠ i ∧ F j) ∨ (m = i ∧ H j) := by
    intro m j hm hj
    simp only [H2] at hj
    by_cases h1 : m < i
    · rw [if_pos h1] at hj; exact .inl ⟨by omega, hFm m j (by omega) hj⟩
    · rw [if_neg h1] at hj
      by_cases h2 : m = i
      · rw [if_pos h2] at hj; exact .inr ⟨h2, hj⟩
      · rw [if_neg h2] at hj; exact .inl ⟨h2, hFm (m - 1) j (by omega) hj⟩
  refine ⟨fun j => j = c ∨ j = r' ∨ ∃ m, m < x.l.length + 1 ∧ H2 m j, ⟨H2, ?_, ?_, ?_, ?_, ?_, ?_⟩, ?_, hFc, hFr⟩
  · have hb1 : Blk w1 c 73 (ccells D x) := h.blk.did hd (fun e => hrc e.symm)
    have := hb1.set_ 0 (.slice (some ⟨r', 0, none⟩) (x.l.length + 1) cap')
    unfold ccells at this ⊢
    simp only [hl2]
    simpa using this
  · obtain ⟨rest, hrb, hrl⟩ := hr
    rw [insL_map] at hrb hrl
    refine ⟨_, hrb.far (by exact hr'c) _, by simpa using hrl, fun m t' ht' => ?_⟩
    rw [List.getElem?_toArray, List.getElem?_append_left (by rw [List.length_map]; exact (List.getElem?_eq_some_iff.1 ht').1), List.getElem?_map, ht']
    rfl
  · rw [hl2]; simp; omega
  · intro m t' a' ht' ha'
    have ht2 := (getIns D.ps t i m (by omega)).symm.trans ht'
    have ha2 := (getIns x.l a i m hi).symm.trans ha'
    simp only [H2]
    by_cases h1 : m < i
    · rw [if_pos h1] at ht2 ha2 ⊢
      exact keep _ _ _ (h.part m t' a' ht2 ha2)
    · rw [if_neg h1] at ht2 ha2 ⊢
      by_cases h2 : m = i
      · rw [if_pos h2] at ht2 ha2 ⊢
        cases ht2; cases ha2
        exact keep _ _ _ hp
      · rw [if_neg h2] at ht2 ha2 ⊢
        exact keep _ _ _ (h.part (m - 1) t' a' ht2 ha2)
  · intro m m' hm hm' hne y hy hy'
    have hm : m < x.l.length + 1 := by rw [← hl2]; exact hm
    have hm' : m' < x.l.length + 1 := by rw [← hl2]; exact hm'
    rcases H2F m y hm hy with ⟨e1, f1⟩ | ⟨e1, f1⟩ <;> rcases H2F m' y hm' hy' with ⟨e2, f2⟩ | ⟨e2, f2⟩
    · simp only [H2] at hy hy'
      have k1 : ∃ q, q < x.l.length ∧ Hs q y ∧ (if m < i then m else m - 1) = q := by
        by_cases g : m < i
        · rw [if_pos g] at hy ⊢; exact ⟨m, by omega, hy, rfl⟩
        · rw [if_neg g, if_neg e1] at hy; rw [if_neg g]; exact ⟨m - 1, by omega, hy, rfl⟩
      have k2 : ∃ q, q < x.l.length ∧ Hs q y ∧ (if m' < i then m' else m' - 1) = q := by
        by_cases g : m' < i
        · rw [if_pos g] at hy' ⊢; exact ⟨m', by omega, hy', rfl⟩
        · rw [if_neg g, if_neg e2] at hy'; rw [if_neg g]; exact ⟨m' - 1, by omega, hy', rfl⟩
      obtain ⟨q1, l1, y1, z1⟩ := k1
      obtain ⟨q2, l2, y2, z2⟩ := k2
      refine h.apart q1 q2 l1 l2 ?_ y y1 y2
      split at z1 <;> split at z2 <;> omega
    · exact hH y f2 f1
    · exact hH y f1 f2
    · omega
  · intro j
    rw [hl2]
  · intro j hj
    rcases hj with rfl | rfl | ⟨m, hm, hj⟩
    · exact .inl hFc
    · rcases hr' with e | e
      · exact .inl (e ▸ hFr)
      · exact .inr (.inr e)
    · rcases H2F m j hm hj with ⟨_, f⟩ | ⟨_, f⟩
      · exact .inl f
      · exact .inr (.inl f)
end Go.Proofs.Ytoiibmcbjjnpbaa.Chain
namespace Go.Proofs.Ytoiibmcbjjnpbaa.Chain
open Go.RowKit Mem Tick Cargo Toxic Stage
set_option linter.unusedVariables false
set_option linter.unusedSimpArgs false
variable {x : Ch} {M Q : Int}
theorem flow_massIO {x y : Ch} {i o : ByteArray} (h : Flow x i o y) : y.lost + heldL y.l + o.size = x.lost + heldL x.l + i.size ∧ x.lost ≤ y.lost := by
  obtain ⟨L, h1, h2, _, _⟩ := h
  have h3 := congrArg ByteArray.size h1
  simp only [ByteArray.size_append, lineL_size] at h3
  constructor <;> omega
theorem OkC.flowIO {y : Ch} {i o : ByteArray} (ho : OkC x M Q) (h : Flow x i o y) (h2 : 2 ≤ y.l.length) (h10 : y.l.length ≤ 10) (hr : y.room = x.room) {Q' : Int} (hok : OkL y.l Q') : OkC y (M + i.size) Q' := by
  obtain ⟨h1, h3⟩ := flow_massIO h
  have a := ho.held
  have b := ho.lost0
  have c := ho.lost
  exact ⟨h2, h10, by rw [hr]; exact ho.r0, by rw [hr]; exact ho.r1, by omega, by omega, by omega, hok⟩
theorem OkC.more (ho : OkC x M Q) {M' Q' : Int} (hM : M ≤ M') (hQ : Q ≤ Q') : OkC x M' Q' :=
  ⟨ho.two, ho.ten, ho.r0, ho.r1, Int.le_trans ho.held hM, ho.lost0, Int.le_trans ho.lost hM, OkL.more ho.ok hQ⟩
theorem passed_put (s : Sg) (n : Int) (b : ByteArray) : (putS s n b).passed = s.passed := by
  unfold putS
  split
  · rfl
  · rw [passed_force]; rfl
theorem ok_put (ho : OkC x M Q) (now : Int) (b : ByteArray) : OkC (putC x now b) (M + b.size) Q := by
  have hf := flow_put x now b
  have hi : (b.extract 0 (putCN x now b)).size ≤ b.size := by rw [ByteArray.size_extract]; omega
  have h0 := ho.okL
  have hl : (putC x now b).l.length = x.l.length ∧ (putC x now b).room = x.room ∧ OkL (putC x now b).l Q := by
    unfold putC
    split
    · exact ⟨rfl, rfl, h0⟩
    split
    · rename_i a ha
      exact ⟨by simp, rfl, OkL.set h0 _ ⟨(h0.at_ ha).1.put _ _, by show (putS a.s now b).passed ≤ _; rw [passed_put]; exact (h0.at_ ha).2⟩⟩
    · exact ⟨rfl, rfl, h0⟩
  exact (ho.flowIO hf (by rw [hl.1]; exact ho.two) (by rw [hl.1]; exact ho.ten) hl.2.1 hl.2.2).more (by omega) (Int.le_refl _)
theorem ok_close (ho : OkC x M Q) (now : Int) : OkC (closeC x now) M Q := by
  have h0 := ho.okL
  have hl : (closeC x now).l.length = x.l.length ∧ (closeC x now).room = x.room ∧ OkL (closeC x now).l Q := by
    unfold closeC
    split
    · split
      · rename_i a ha
        exact ⟨by simp, rfl, OkL.set h0 _ (ok_end now (h0.at_ ha))⟩
      · exact ⟨rfl, rfl, h0⟩
    · exact ⟨rfl, rfl, h0⟩
  exact ho.flow (flow_close x now) hl.1 hl.2.1 hl.2.2
theorem ok_break (ho : OkC x M Q) : OkC (breakC x) M Q := by
  have hl : (breakC x).l.length = x.l.length ∧ (breakC x).room = x.room ∧ OkL (breakC x).l Q := by
    unfold breakC
    split
    · exact ⟨rfl, rfl, ho.okL⟩
    · exact ⟨loseL_length _ _, rfl, mapK_ok ho.okL _⟩
  exact ho.flow (flow_break x) hl.1 hl.2.1 hl.2.2
theorem ok_take (ho : OkC x M Q) (hM : 0 ≤ M) (now most : Int) : OkC (takeC x now most) M (Q + M) := by
  have h0 := ho.okL
  have hl : (takeC x now most).l.length = x.l.length ∧ (takeC x now most).room = x.room ∧ OkL (takeC x now most).l (Q + M) := by
    unfold takeC
    split
    · exact ⟨rfl, rfl, h0.more (by omega)⟩
    split
    · rename_i a ha
      refine ⟨by simp, rfl, OkL.set (h0.more (by omega)) _ ⟨(h0.at_ ha).1.take _ _, ?_⟩⟩
      show (takeS a.s now most).passed ≤ _
      rw [passed_take]
      have h1 := takeB_le a.s now most
      have h2 := held_le ha
      have h3 := (h0.at_ ha).2
      have h4 := ho.held
      omega
    · exact ⟨rfl, rfl, h0.more (by omega)⟩
  have := ho.flowIO (flow_take x now most) (by rw [hl.1]; exact ho.two) (by rw [hl.1]; exact ho.ten) hl.2.1 hl.2.2
  have e : ((⟨#[]⟩ : ByteArray).size : Int) = 0 := rfl
  rw [e, Int.add_zero] at this
  exact this
theorem ok_upd (ho : OkC x M Q) (at_ : Int) (t : Tox) (now : Int) : OkC (updC x at_ t now) M Q := by
  have h0 := ho.okL
  have hl : (updC x at_ t now).l.length = x.l.length ∧ (updC x at_ t now).room = x.room ∧ OkL (updC x at_ t now).l Q := by
    unfold updC
    split
    · split
      · rename_i a ha
        exact ⟨by simp, rfl, OkL.set h0 _ ⟨(h0.at_ ha).1.upd _ _, by show (updS a.s t now).passed ≤ _; rw [(upd_c a.s t now).2]; exact (h0.at_ ha).2⟩⟩
      · exact ⟨rfl, rfl, h0⟩
    · exact ⟨rfl, rfl, h0⟩
  exact ho.flow (flow_upd x at_ t now) hl.1 hl.2.1 hl.2.2
theorem ok_last (ho : OkC x M Q) (now : Int) : OkC (lastC now x) M Q := by
  have h0 := ho.okL
  have hl : (lastC now x).room = x.room ∧ OkL (lastC now x).l Q := by
    unfold lastC
    split
    · rename_i a ha
      exact ⟨rfl, OkL.set h0 _ (ok_look now (h0.at_ ha))⟩
    · exact ⟨rfl, h0⟩
  exact ho.flow (flow_last now x).1 (flow_last now x).2 hl.1 hl.2
theorem ok_step (ho : OkC x M Q) (now : Int) : OkC (stepC now x) M (Q + 10 * M) := by
  have hM : 0 ≤ M := by have := ho.held; omega
  unfold stepC
  split
  · exact ho.more (Int.le_refl _) (by omega)
  have hm : OkC { x with l := x.l.map (lookA now) } M Q := ho.list (by simp) (heldL_of_line (look_map now x.l)) (OkL.look ho.okL now)
  split
  · exact (ok_break hm).more (Int.le_refl _) (by omega)
  · have h1 := mfold_ok hm now (List.range (x.l.length - 1))
    have h10 := ho.ten
    have hpl : ((List.range (x.l.length - 1)).length : Int) * M ≤ 10 * M := Int.mul_le_mul_of_nonneg_right (by rw [List.length_range]; omega) hM
    have h2 : OkC { x with l := moves now (x.l.length - 1) (x.l.map (lookA now)) } M (Q + 10 * M) := by
      have := h1.1
      rw [mfold_range] at this
      exact this.more (Int.le_refl _) (by omega)
    have h3 := sfold_ok now (List.range (x.l.length - 1)) _ h2
    rw [sfold_range] at h3
    exact ok_last h3.1 now
theorem OkL.app {l l' : List Pa} (h : OkL l Q) (h' : OkL l' Q) : OkL (l ++ l') Q := fun a ha => (List.mem_append.1 ha).elim (h a) (h' a)
theorem OkL.cons {l : List Pa} {b : Pa} (hb : Ok b.s ∧ b.s.passed ≤ Q) (h : OkL l Q) : OkL (b :: l) Q := fun a ha => by
  rcases List.mem_cons.1 ha with e | e
  · subst e; exact hb
  · exact h a e
theorem OkL.take {l : List Pa} (h : OkL l Q) (n : Nat) : OkL (l.take n) Q := fun a ha => h a (List.mem_of_mem_take ha)
theorem OkL.drop {l : List Pa} (h : OkL l Q) (n : Nat) : OkL (l.drop n) Q := fun a ha => h a (List.mem_of_mem_drop ha)
theorem OkL.erase {l : List Pa} (h : OkL l Q) (n : Nat) : OkL (l.eraseIdx n) Q := fun a ha => h a (List.mem_of_mem_eraseIdx ha)
theorem ok_ins (ho : OkC x M Q) (hQ : 0 ≤ Q) (at_ : Int) (t : Tox) (seed now : Int) : OkC (insC x at_ t seed now) M Q := by
  have h0 := ho.okL
  have hl : (insC x at_ t seed now).l.length ≤ 10 ∧ 2 ≤ (insC x at_ t seed now).l.length ∧ (insC x at_ t seed now).room = x.room ∧ OkL (insC x at_ t seed now).l Q := by
    unfold insC
    split
    · exact ⟨ho.ten, ho.two, rfl, h0⟩
    rename_i hz
    split
    · rename_i b hb
      have hz2 : noPlace x at_ = false ∧ newE t x.room = 0 := by
        unfold insE at hz
        split at hz
        · exact absurd (by decide) hz
        · rename_i hn
          exact ⟨by simpa using hn, by simpa using hz⟩
      have hp : (x.l.length : Int) - 2 < 8 := by
        have := hz2.1
        simp [noPlace] at this
        omega
      have hi := (List.getElem?_eq_some_iff.1 hb).1
      have hok := Ok.new (seed := seed) (now := now) hz2.2
      have hpa : (newS t seed x.room now).passed = 0 := by unfold newS; split <;> rfl
      have h2 := ho.two
      refine ⟨?_, ?_, rfl, OkL.app (h0.take _) (OkL.cons ?_ (h0.drop _))⟩
      · show (x.l.take (at_.toNat + 1) ++ _ :: x.l.drop (at_.toNat + 1)).length ≤ 10
        simp; omega
      · show 2 ≤ (x.l.take (at_.toNat + 1) ++ _ :: x.l.drop (at_.toNat + 1)).length
        simp; omega
      · split
        · exact ok_end now ⟨hok, by show (newS t seed x.room now).passed ≤ _; rw [hpa]; exact hQ⟩
        · exact ⟨hok, by show (newS t seed x.room now).passed ≤ _; rw [hpa]; exact hQ⟩
    · exact ⟨ho.ten, ho.two, rfl, h0⟩
  have := ho.flowIO (flow_ins x at_ t seed now) hl.2.1 hl.1 hl.2.2.1 hl.2.2.2
  have e : ((⟨#[]⟩ : ByteArray).size : Int) = 0 := rfl
  rw [e, Int.add_zero] at this
  exact this
theorem ok_rem (ho : OkC x M Q) (at_ now : Int) : OkC (remC x at_ now) M Q := by
  have h0 := ho.okL
  have hl : (remC x at_ now).l.length ≤ 10 ∧ 2 ≤ (remC x at_ now).l.length ∧ (remC x at_ now).room = x.room ∧ OkL (remC x at_ now).l Q := by
    unfold remC
    split
    · rename_i hb
      have hb' : 0 ≤ at_ ∧ at_ < (x.l.length : Int) - 2 := by simpa [isB] using hb
      unfold remAt
      split
      · rename_i p q hp hq
        have kp := h0.at_ hp
        have kq := h0.at_ hq
        have kf : Ok (forceP q.s now (cat p.s.c.1)) ∧ (forceP q.s now (cat p.s.c.1)).passed ≤ Q := ⟨kq.1.force _ _, by rw [passed_force]; exact kq.2⟩
        have k1 : OkL ((x.l.set (at_.toNat + 1) (drainA p)).set (at_.toNat + 1 + 1) ⟨forceP q.s now (cat p.s.c.1), q.cl⟩) Q := OkL.set (OkL.set h0 _ (ok_drain kp)) _ kf
        have k2 : OkL (if (0 : Int) < (held p.s : Int) - ((held (forceP q.s now (cat p.s.c.1)) : Int) - held q.s) then loseL (at_.toNat + 1) ((x.l.set (at_.toNat + 1) (drainA p)).set (at_.toNat + 1 + 1) ⟨forceP q.s now (cat p.s.c.1), q.cl⟩) else (x.l.set (at_.toNat + 1) (drainA p)).set (at_.toNat + 1 + 1) ⟨forceP q.s now (cat p.s.c.1), q.cl⟩) Q ∧
            (if (0 : Int) < (held p.s : Int) - ((held (forceP q.s now (cat p.s.c.1)) : Int) - held q.s) then loseL (at_.toNat + 1) ((x.l.set (at_.toNat + 1) (drainA p)).set (at_.toNat + 1 + 1) ⟨forceP q.s now (cat p.s.c.1), q.cl⟩) else (x.l.set (at_.toNat + 1) (drainA p)).set (at_.toNat + 1 + 1) ⟨forceP q.s now (cat p.s.c.1), q.cl⟩).length = x.l.length := by
          split
          · exact ⟨mapK_ok k1 _, by rw [loseL_length]; simp⟩
          · exact ⟨k1, by simp⟩
        have kq2 : Ok (if p.cl = true then endA now ⟨forceP q.s now (cat p.s.c.1), q.cl⟩ else ⟨forceP q.s now (cat p.s.c.1), q.cl⟩ : Pa).s ∧ (if p.cl = true then endA now ⟨forceP q.s now (cat p.s.c.1), q.cl⟩ else ⟨forceP q.s now (cat p.s.c.1), q.cl⟩ : Pa).s.passed ≤ Q := by
          split
          · exact ok_end now kf
          · exact kf
        have h10 := ho.ten
        have h2 := ho.two
        have hi := (List.getElem?_eq_some_iff.1 hp).1
        refine ⟨?_, ?_, rfl, OkL.erase (OkL.set k2.1 _ kq2) _⟩
        · dsimp only
          rw [List.length_eraseIdx, List.length_set, k2.2]
          split <;> omega
        · dsimp only
          rw [List.length_eraseIdx, List.length_set, k2.2]
          split <;> omega
      · exact ⟨ho.ten, ho.two, rfl, h0⟩
    · exact ⟨ho.ten, ho.two, rfl, h0⟩
  have := ho.flowIO (flow_remC x at_ now) hl.2.1 hl.1 hl.2.2.1 hl.2.2.2
  have e : ((⟨#[]⟩ : ByteArray).size : Int) = 0 := rfl
  rw [e, Int.add_zero] at this
  exact this
end Go.Proofs.Ytoiibmcbjjnpbaa.Chain
namespace Go.Proofs.Ytoiibmcbjjnpbaa.Chain
open Go.RowKit Mem Tick Cargo Toxic Stage
open Go.Proofs.YtoiibmcbjjnpbaaW.PrintLast Pu
set_option maxRecDepth 100000
set_option linter.unusedVariables false
set_option linter.unusedSimpArgs false
variable {w w' w1 : World} {F H : Nat → Prop} {t : Pt} {a : Pa} {c : Nat} {D : Lay} {x : Ch}
theorem ins_no (h : CH w F c D x) (h2 : 2 ≤ x.l.length) (h10 : x.l.length ≤ 10) (at_ : Int) (t0 : ByteArray) (t1 : Int) (t2 : Bool) (t3 t4 t5 seed now : Int) (hno : noPlace x at_ = true) :
    Calls Try.prog 38 #[ptr c, .int .i64 at_, .agg #[.string t0, .int .i64 t1, .bool t2, .int .i64 t3, .int .i64 t4, .int .i64 t5], .int .u64 seed, .int .i64 now] w fun e w' => e = .returned (.int .i64 110) ∧ Below w.heap.size w w' := by
  have hb0 := (Below.refl w.heap.size w).alloc (Nat.le_refl _) (.cells #[.string t0, .int .i64 t1, .bool t2, .int .i64 t3, .int .i64 t4, .int .i64 t5] 29)
  have hi := Lib.hid (fun (wy : World) (hb : Below w.heap.size w wy) => inner_any (h.below hb) h2 h10)
  have hb0' := Lib.hid hb0
  clear h hb0
  by_cases g1 : at_ < 0
  · clear hno hi
    go_enter Try.func38, Try.ntmps38
    go_wp2
    go_ret
    exact ⟨rfl, hb0'.out⟩
  by_cases g2 : ((x.l.length - 2 : Nat) : Int) < at_
  · clear hno
    go_enter Try.func38, Try.ntmps38
    go_wp2_with fail
    refine (hi.out _ hb0'.out).mono ?_
    rintro e w1 ⟨rfl, hB⟩
    have hB1 := Lib.hid (bw_below hb0'.out hB)
    clear hB hi hb0'
    go_wp2
    go_ret
    exact ⟨rfl, hB1.out⟩
  · have g3 : (8 : Int) ≤ ((x.l.length - 2 : Nat) : Int) := by
      simp [noPlace] at hno
      omega
    have g2' : at_ ≤ ((x.l.length - 2 : Nat) : Int) := by omega
    clear hno g2
    go_enter Try.func38, Try.ntmps38
    go_wp2_with fail
    refine (hi.out _ hb0'.out).mono ?_
    rintro e w1 ⟨rfl, hB⟩
    have hB1 := Lib.hid (bw_below hb0'.out hB)
    clear hB hb0'
    go_wp2_with fail
    refine (hi.out _ hB1.out).mono ?_
    rintro e w2 ⟨rfl, hB⟩
    have hB2 := Lib.hid (bw_below hB1.out hB)
    clear hB hB1 hi
    go_wp2
    go_ret
    exact ⟨rfl, hB2.out⟩
theorem ins_err (h : CH w F c D x) (h2 : 2 ≤ x.l.length) (h10 : x.l.length ≤ 10) (at_ : Int) (t0 : ByteArray) (t1 : Int) (t2 : Bool) (t3 t4 t5 seed now : Int) (hno : noPlace x at_ = false) (he : newE ⟨t0, t1, t2, t3, t4, t5⟩ x.room ≠ 0) :
    Calls Try.prog 38 #[ptr c, .int .i64 at_, .agg #[.string t0, .int .i64 t1, .bool t2, .int .i64 t3, .int .i64 t4, .int .i64 t5], .int .u64 seed, .int .i64 now] w fun e w' => e = .returned (.int .i64 (newE ⟨t0, t1, t2, t3, t4, t5⟩ x.room)) ∧ Below w.heap.size w w' := by
  have hnew := Lib.hid (fun wr => live_none (wr := wr) ⟨t0, t1, t2, t3, t4, t5⟩ seed x.room now he)
  have te : (newE ⟨t0, t1, t2, t3, t4, t5⟩ x.room != 0) = true := by simpa using he
  have hh := Lib.hid h
  have hb0 := (Below.refl w.heap.size w).alloc (Nat.le_refl _) (.cells #[.string t0, .int .i64 t1, .bool t2, .int .i64 t3, .int .i64 t4, .int .i64 t5] 29)
  have hi := Lib.hid (fun (wy : World) (hb : Below w.heap.size w wy) => inner_any (h.below hb) h2 h10)
  have hb0' := Lib.hid hb0
  have hblk0 := Lib.hid (Blk.new w 29 #[.string t0, .int .i64 t1, .bool t2, .int .i64 t3, .int .i64 t4, .int .i64 t5])
  have g1 : ¬ at_ < 0 := by simp [noPlace] at hno; omega
  have g2' : at_ ≤ ((x.l.length - 2 : Nat) : Int) := by simp [noPlace] at hno; omega
  have g3 : ¬ (8 : Int) ≤ ((x.l.length - 2 : Nat) : Int) := by simp [noPlace] at hno; omega
  clear h hno hb0 he
  generalize newE ⟨t0, t1, t2, t3, t4, t5⟩ x.room = E at *
  go_enter Try.func38, Try.ntmps38
  go_wp2_with fail
  refine (hi.out _ hb0'.out).mono ?_
  rintro e w1 ⟨rfl, hB⟩
  have hB1 := Lib.hid (bw_below hb0'.out hB)
  have hblk1 := Lib.hid (hblk0.out.below hB)
  clear hB hb0' hblk0
  go_wp2_with fail
  refine (hi.out _ hB1.out).mono ?_
  rintro e w2 ⟨rfl, hB⟩
  have hB2 := Lib.hid (bw_below hB1.out hB)
  have hblk2 := Lib.hid (hblk1.out.below hB)
  clear hB hB1 hi hblk1
  have hC2 := Lib.hid (hh.out.below hB2.out)
  have d0 : w2.cell? ⟨w.heap.size, 0, none⟩ = some (.string t0) := (hblk2.out.cell 0).trans rfl
  have d1 : w2.cell? ⟨w.heap.size, 1, none⟩ = some (.int .i64 t1) := (hblk2.out.cell 1).trans rfl
  have d2 : w2.cell? ⟨w.heap.size, 2, none⟩ = some (.bool t2) := (hblk2.out.cell 2).trans rfl
  have d3 : w2.cell? ⟨w.heap.size, 3, none⟩ = some (.int .i64 t3) := (hblk2.out.cell 3).trans rfl
  have d4 : w2.cell? ⟨w.heap.size, 4, none⟩ = some (.int .i64 t4) := (hblk2.out.cell 4).trans rfl
  have d5 : w2.cell? ⟨w.heap.size, 5, none⟩ = some (.int .i64 t5) := (hblk2.out.cell 5).trans rfl
  have d6 : w2.cell? ⟨c, 1, none⟩ = some (.int .i64 x.room) := (hC2.out.blk.cell 1).trans rfl
  go_wp2
  refine start_ (n := 13) (S := fun w' => w'.cell? ⟨w.heap.size, 0, none⟩ = some (.string t0) ∧ w'.cell? ⟨w.heap.size, 1, none⟩ = some (.int .i64 t1) ∧ w'.cell? ⟨w.heap.size, 2, none⟩ = some (.bool t2) ∧ w'.cell? ⟨w.heap.size, 3, none⟩ = some (.int .i64 t3) ∧ w'.cell? ⟨w.heap.size, 4, none⟩ = some (.int .i64 t4) ∧ w'.cell? ⟨w.heap.size, 5, none⟩ = some (.int .i64 t5) ∧ w'.cell? ⟨c, 1, none⟩ = some (.int .i64 x.room)) (ds := []) (m_ 13 0) (by kernel_rfl) rfl (by kernel_rfl) ⟨d0, d1, d2, d3, d4, d5, d6⟩ (fun hHeld => ?_)
  refine pu_ 1 (some 31) (m_ 13 2) rfl rfl (by kernel_rfl) (fun _ _ _ h => h) (by rfl) (by intro w'; go_simp; with_reducible rfl) (by simp only [Act.put, List.setIfInBounds_toArray, List.set_cons_zero, List.set_cons_succ, i64_w, i32_w]; rfl) ?_
  refine pu_ 2 (some 32) (m_ 13 6) rfl rfl (by kernel_rfl) (fun _ _ _ h => h) (by rfl) (by intro w'; go_simp; with_reducible rfl) (by simp only [Act.put, List.setIfInBounds_toArray, List.set_cons_zero, List.set_cons_succ, i64_w, i32_w]; rfl) ?_
  refine pu_ 3 (some 33) (m_ 13 14) rfl rfl (by kernel_rfl) (fun _ _ _ h => h) (by rfl) (by intro w'; go_simp; with_reducible rfl) (by simp only [Act.put, List.setIfInBounds_toArray, List.set_cons_zero, List.set_cons_succ, i64_w, i32_w]; rfl) ?_
  refine pu_ 4 (some 34) (m_ 13 30) rfl rfl (by kernel_rfl) (fun _ _ _ h => h) (by rfl) (by intro w'; go_simp; with_reducible rfl) (by simp only [Act.put, List.setIfInBounds_toArray, List.set_cons_zero, List.set_cons_succ, i64_w, i32_w]; rfl) ?_
  refine pu_ 6 (some 36) (m_ 13 94) rfl rfl (by kernel_rfl) (fun _ _ _ h => h) (by rfl) (by intro w'; go_simp; with_reducible rfl) (by simp only [Act.put, List.setIfInBounds_toArray, List.set_cons_zero, List.set_cons_succ, i64_w, i32_w]; rfl) ?_
  refine tk_ 0 (some 30) (m_ 13 95) rfl rfl (by kernel_rfl) (fun _ _ _ h => h) (by rfl) (by rintro w' ⟨s0, s1, s2, s3, s4, s5, s6⟩; go_simp; with_reducible rfl) hHeld (by simp only [Act.put, List.setIfInBounds_toArray, List.set_cons_zero, List.set_cons_succ, i64_w, i32_w]; rfl) ?_
  refine tk_ 5 (some 35) (m_ 13 127) rfl rfl (by kernel_rfl) (fun _ _ _ h => h) (by rfl) (by rintro w' ⟨s0, s1, s2, s3, s4, s5, s6⟩; go_simp; with_reducible rfl) hHeld (by simp only [Act.put, List.setIfInBounds_toArray, List.set_cons_zero, List.set_cons_succ, i64_w, i32_w]; rfl) ?_
  refine one_ (i := 7) (N := some 37) (m_ 13 255) rfl rfl (by kernel_rfl) (by decide) (fun K hK => ?_)
  refine goes_ Try.func29 (by kernel_rfl) rfl #[.agg #[.string t0, .int .i64 t1, .bool t2, .int .i64 t3, .int .i64 t4, .int .i64 t5], .int .u64 seed, .int .i64 x.room, .int .i64 now] (by rfl) rfl rfl (by simp only [List.map_toArray, List.map_cons, List.map_nil]; rfl) ?_
  with_reducible refine (hnew.out w2.drew).mono ?_
  rintro e w4 ⟨rfl, hB⟩
  have hb4 := below_drew hB
  have e0 := bcells hb4 d0
  have e1 := bcells hb4 d1
  have e2 := bcells hb4 d2
  have e3 := bcells hb4 d3
  have e4 := bcells hb4 d4
  have e5 := bcells hb4 d5
  have e6 := bcells hb4 d6
  have hB4 := Lib.hid (bw_below hB2.out hb4)
  clear hB hb4
  refine ⟨_, rfl, ?_⟩
  refine hK.out _ _ ⟨e0, e1, e2, e3, e4, e5, e6⟩ (fun hHeld => ?_)
  clear hK K
  refine norm_ (a' := ?_) ?_ ?_
  rotate_left
  · show Act.put _ (some 37) _ = _
    simp only [Act.put, List.setIfInBounds_toArray, List.set_cons_zero, List.set_cons_succ, i64_w, i32_w]
    rfl
  refine pu_ 8 (some 29) (m_ 13 511) rfl rfl (by kernel_rfl) (fun _ _ _ h => h) (by rfl) (by intro w'; go_simp; with_reducible rfl) (by simp only [Act.put, List.setIfInBounds_toArray, List.set_cons_zero, List.set_cons_succ, i64_w, i32_w]; rfl) ?_
  refine pu_ 9 (some 38) (m_ 13 1023) rfl rfl (by kernel_rfl) (fun _ _ _ h => h) (by rfl) (by intro w'; go_simp; with_reducible rfl) (by simp only [Act.put, List.setIfInBounds_toArray, List.set_cons_zero, List.set_cons_succ, i64_w, i32_w]; rfl) ?_
  refine pu_ 10 (some 39) (m_ 13 2047) rfl rfl (by kernel_rfl) (fun _ _ _ h => h) (by rfl) (by intro w'; go_simp; with_reducible rfl) (by simp only [Act.put, List.setIfInBounds_toArray, List.set_cons_zero, List.set_cons_succ, i64_w, i32_w]; rfl) ?_
  refine pu_ 11 (some 11) (m_ 13 4095) rfl rfl (by kernel_rfl) (fun _ _ _ h => h) (by rfl) (by intro w'; go_simp; with_reducible rfl) (by simp only [Act.put, List.setIfInBounds_toArray, List.set_cons_zero, List.set_cons_succ, i64_w, i32_w]; rfl) ?_
  refine pu_ 12 (some 12) (m_ 13 8191) rfl rfl (by kernel_rfl) (fun _ _ _ h => h) (by rfl) (by intro w'; go_simp; with_reducible rfl) (by simp only [Act.put, List.setIfInBounds_toArray, List.set_cons_zero, List.set_cons_succ, i64_w, i32_w]; rfl) ?_
  refine done_ (by kernel_rfl) ?_
  clear hHeld d0 d1 d2 d3 d4 d5 d6 e0 e1 e2 e3 e4 e5 e6
  go_wp2
  go_ret
  exact ⟨rfl, hB4.out⟩
theorem ins_ok (h : CH w F c D x) (h2 : 2 ≤ x.l.length) (h10 : x.l.length ≤ 10) (hcap : D.cap ≤ 9223372036854775807) (k : Nat) (t0 : ByteArray) (t1 : Int) (t2 : Bool) (t3 t4 t5 seed now : Int) (hno : noPlace x (k : Int) = false) (he : newE ⟨t0, t1, t2, t3, t4, t5⟩ x.room = 0) (b0 : Pa) (hx : x.l[k + 1]? = some b0) :
    Calls Try.prog 38 #[ptr c, .int .i64 (k : Int), .agg #[.string t0, .int .i64 t1, .bool t2, .int .i64 t3, .int .i64 t4, .int .i64 t5], .int .u64 seed, .int .i64 now] w fun e w' => e = .returned (.int .i64 0) ∧ ∃ D' F', CH w' F' c D' { x with l := x.l.take (k + 1) ++ (if b0.cl = true then endA now ⟨newS ⟨t0, t1, t2, t3, t4, t5⟩ seed x.room now, false⟩ else ⟨newS ⟨t0, t1, t2, t3, t4, t5⟩ seed x.room now, false⟩) :: x.l.drop (k + 1) } ∧ Did F w w' ∧ Stem F F' w ∧ D'.cap ≤ 9223372036854775807 := by
  have hnew := Lib.hid (fun wr => (new_any ⟨t0, t1, t2, t3, t4, t5⟩ seed x.room now wr).mono fun e w' hp => hp.1 he)
  have hh := Lib.hid h
  have hb0 := (Below.refl w.heap.size w).alloc (Nat.le_refl _) (.cells #[.string t0, .int .i64 t1, .bool t2, .int .i64 t3, .int .i64 t4, .int .i64 t5] 29)
  have hi := Lib.hid (fun (wy : World) (hb : Below w.heap.size w wy) => inner_any (h.below hb) h2 h10)
  have hb0' := Lib.hid hb0
  have hblk0 := Lib.hid (Blk.new w 29 #[.string t0, .int .i64 t1, .bool t2, .int .i64 t3, .int .i64 t4, .int .i64 t5])
  have g1 : ¬ (k : Int) < 0 := by simp [noPlace] at hno; omega
  have g2' : (k : Int) ≤ ((x.l.length - 2 : Nat) : Int) := by simp [noPlace] at hno; omega
  have g3 : ¬ (8 : Int) ≤ ((x.l.length - 2 : Nat) : Int) := by simp [noPlace] at hno; omega
  have hk1 : k + 1 < x.l.length := (List.getElem?_eq_some_iff.1 hx).1
  have hkw := wr_at k (by omega)
  have hx' := Lib.hid hx
  have hnF := Lib.hid (fun j => h.lt (j := j))
  clear h hno hb0 he hx
  generalize newS ⟨t0, t1, t2, t3, t4, t5⟩ seed x.room now = sn at *
  have hkw' := Lib.hid hkw
  clear hkw
  go_enter Try.func38, Try.ntmps38
  go_wp2_with fail
  refine (hi.out _ hb0'.out).mono ?_
  rintro e w1 ⟨rfl, hB⟩
  have hB1 := Lib.hid (bw_below hb0'.out hB)
  have hblk1 := Lib.hid (hblk0.out.below hB)
  clear hB hb0' hblk0
  go_wp2_with fail
  refine (hi.out _ hB1.out).mono ?_
  rintro e w2 ⟨rfl, hB⟩
  have hB2 := Lib.hid (bw_below hB1.out hB)
  have hblk2 := Lib.hid (hblk1.out.below hB)
  clear hB hB1 hi hblk1
  have hC2 := Lib.hid (hh.out.below hB2.out)
  have d0 : w2.cell? ⟨w.heap.size, 0, none⟩ = some (.string t0) := (hblk2.out.cell 0).trans rfl
  have d1 : w2.cell? ⟨w.heap.size, 1, none⟩ = some (.int .i64 t1) := (hblk2.out.cell 1).trans rfl
  have d2 : w2.cell? ⟨w.heap.size, 2, none⟩ = some (.bool t2) := (hblk2.out.cell 2).trans rfl
  have d3 : w2.cell? ⟨w.heap.size, 3, none⟩ = some (.int .i64 t3) := (hblk2.out.cell 3).trans rfl
  have d4 : w2.cell? ⟨w.heap.size, 4, none⟩ = some (.int .i64 t4) := (hblk2.out.cell 4).trans rfl
  have d5 : w2.cell? ⟨w.heap.size, 5, none⟩ = some (.int .i64 t5) := (hblk2.out.cell 5).trans rfl
  have d6 : w2.cell? ⟨c, 1, none⟩ = some (.int .i64 x.room) := (hC2.out.blk.cell 1).trans rfl
  go_wp2
  refine start_ (n := 13) (S := fun w' => w'.cell? ⟨w.heap.size, 0, none⟩ = some (.string t0) ∧ w'.cell? ⟨w.heap.size, 1, none⟩ = some (.int .i64 t1) ∧ w'.cell? ⟨w.heap.size, 2, none⟩ = some (.bool t2) ∧ w'.cell? ⟨w.heap.size, 3, none⟩ = some (.int .i64 t3) ∧ w'.cell? ⟨w.heap.size, 4, none⟩ = some (.int .i64 t4) ∧ w'.cell? ⟨w.heap.size, 5, none⟩ = some (.int .i64 t5) ∧ w'.cell? ⟨c, 1, none⟩ = some (.int .i64 x.room)) (ds := []) (m_ 13 0) (by kernel_rfl) rfl (by kernel_rfl) ⟨d0, d1, d2, d3, d4, d5, d6⟩ (fun hHeld => ?_)
  refine pu_ 1 (some 31) (m_ 13 2) rfl rfl (by kernel_rfl) (fun _ _ _ h => h) (by rfl) (by intro w'; go_simp; with_reducible rfl) (by simp only [Act.put, List.setIfInBounds_toArray, List.set_cons_zero, List.set_cons_succ, i64_w, i32_w]; rfl) ?_
  refine pu_ 2 (some 32) (m_ 13 6) rfl rfl (by kernel_rfl) (fun _ _ _ h => h) (by rfl) (by intro w'; go_simp; with_reducible rfl) (by simp only [Act.put, List.setIfInBounds_toArray, List.set_cons_zero, List.set_cons_succ, i64_w, i32_w]; rfl) ?_
  refine pu_ 3 (some 33) (m_ 13 14) rfl rfl (by kernel_rfl) (fun _ _ _ h => h) (by rfl) (by intro w'; go_simp; with_reducible rfl) (by simp only [Act.put, List.setIfInBounds_toArray, List.set_cons_zero, List.set_cons_succ, i64_w, i32_w]; rfl) ?_
  refine pu_ 4 (some 34) (m_ 13 30) rfl rfl (by kernel_rfl) (fun _ _ _ h => h) (by rfl) (by intro w'; go_simp; with_reducible rfl) (by simp only [Act.put, List.setIfInBounds_toArray, List.set_cons_zero, List.set_cons_succ, i64_w, i32_w]; rfl) ?_
  refine pu_ 6 (some 36) (m_ 13 94) rfl rfl (by kernel_rfl) (fun _ _ _ h => h) (by rfl) (by intro w'; go_simp; with_reducible rfl) (by simp only [Act.put, List.setIfInBounds_toArray, List.set_cons_zero, List.set_cons_succ, i64_w, i32_w]; rfl) ?_
  refine tk_ 0 (some 30) (m_ 13 95) rfl rfl (by kernel_rfl) (fun _ _ _ h => h) (by rfl) (by rintro w' ⟨s0, s1, s2, s3, s4, s5, s6⟩; go_simp; with_reducible rfl) hHeld (by simp only [Act.put, List.setIfInBounds_toArray, List.set_cons_zero, List.set_cons_succ, i64_w, i32_w]; rfl) ?_
  refine tk_ 5 (some 35) (m_ 13 127) rfl rfl (by kernel_rfl) (fun _ _ _ h => h) (by rfl) (by rintro w' ⟨s0, s1, s2, s3, s4, s5, s6⟩; go_simp; with_reducible rfl) hHeld (by simp only [Act.put, List.setIfInBounds_toArray, List.set_cons_zero, List.set_cons_succ, i64_w, i32_w]; rfl) ?_
  refine one_ (i := 7) (N := some 37) (m_ 13 255) rfl rfl (by kernel_rfl) (by decide) (fun K hK => ?_)
  refine goes_ Try.func29 (by kernel_rfl) rfl #[.agg #[.string t0, .int .i64 t1, .bool t2, .int .i64 t3, .int .i64 t4, .int .i64 t5], .int .u64 seed, .int .i64 x.room, .int .i64 now] (by rfl) rfl rfl (by simp only [List.map_toArray, List.map_cons, List.map_nil]; rfl) ?_
  with_reducible refine (hnew.out w2.drew).mono ?_
  rintro e w4 ⟨bb, kk, F1, rfl, hS4, hF1, hB⟩
  have hb4 := below_drew hB
  have e0 := bcells hb4 d0
  have e1 := bcells hb4 d1
  have e2 := bcells hb4 d2
  have e3 := bcells hb4 d3
  have e4 := bcells hb4 d4
  have e5 := bcells hb4 d5
  have e6 := bcells hb4 d6
  have hB4 := Lib.hid (bw_below hB2.out hb4)
  have hS4' := Lib.hid hS4
  have hF1' := Lib.hid (show ∀ j, F1 j → w2.heap.size ≤ j from hF1)
  have hC4 := Lib.hid (hC2.out.below hb4)
  clear hB hb4 hS4 hF1
  refine ⟨_, rfl, ?_⟩
  refine hK.out _ _ ⟨e0, e1, e2, e3, e4, e5, e6⟩ (fun hHeld => ?_)
  clear hK K
  refine norm_ (a' := ?_) ?_ ?_
  rotate_left
  · show Act.put _ (some 37) _ = _
    simp only [Act.put, List.setIfInBounds_toArray, List.set_cons_zero, List.set_cons_succ, i64_w, i32_w]
    rfl
  refine pu_ 8 (some 29) (m_ 13 511) rfl rfl (by kernel_rfl) (fun _ _ _ h => h) (by rfl) (by intro w'; go_simp; with_reducible rfl) (by simp only [Act.put, List.setIfInBounds_toArray, List.set_cons_zero, List.set_cons_succ, i64_w, i32_w]; rfl) ?_
  refine pu_ 9 (some 38) (m_ 13 1023) rfl rfl (by kernel_rfl) (fun _ _ _ h => h) (by rfl) (by intro w'; go_simp; with_reducible rfl) (by simp only [Act.put, List.setIfInBounds_toArray, List.set_cons_zero, List.set_cons_succ, i64_w, i32_w]; rfl) ?_
  refine pu_ 10 (some 39) (m_ 13 2047) rfl rfl (by kernel_rfl) (fun _ _ _ h => h) (by rfl) (by intro w'; go_simp; with_reducible rfl) (by simp only [Act.put, List.setIfInBounds_toArray, List.set_cons_zero, List.set_cons_succ, i64_w, i32_w]; rfl) ?_
  refine pu_ 11 (some 11) (m_ 13 4095) rfl rfl (by kernel_rfl) (fun _ _ _ h => h) (by rfl) (by intro w'; go_simp; with_reducible rfl) (by simp only [Act.put, List.setIfInBounds_toArray, List.set_cons_zero, List.set_cons_succ, i64_w, i32_w]; rfl) ?_
  refine pu_ 12 (some 12) (m_ 13 8191) rfl rfl (by kernel_rfl) (fun _ _ _ h => h) (by rfl) (by intro w'; go_simp; with_reducible rfl) (by simp only [Act.put, List.setIfInBounds_toArray, List.set_cons_zero, List.set_cons_succ, i64_w, i32_w]; rfl) ?_
  refine done_ (by kernel_rfl) ?_
  clear hHeld d0 d1 d2 d3 d4 d5 d6 e0 e1 e2 e3 e4 e5 e6
  have hsz : w.heap.size ≤ w2.heap.size := hB2.out.size
  have hb5 := (Below.refl w4.heap.size w4).alloc (Nat.le_refl _) (.cells #[ptr bb, .bool false] 68)
  have hC5 := Lib.hid (hC4.out.below hb5)
  have hP5 := Lib.hid (show PG (w4.alloc (.cells #[ptr bb, .bool false] 68)) (fun j => j = w4.heap.size ∨ F1 j) ⟨w4.heap.size, bb, kk⟩ ⟨sn, false⟩ from ⟨F1, Blk.new _ _ _, hS4'.out.below hb5, fun j => Iff.rfl⟩)
  have hH5 := Lib.hid (show (∀ j, (j = w4.heap.size ∨ F1 j) → ¬ F j) ∧ ∀ j, (j = w4.heap.size ∨ F1 j) → w.heap.size ≤ j from by
    have z : ∀ j, (j = w4.heap.size ∨ F1 j) → w.heap.size ≤ j := by
      rintro j (rfl | h)
      · exact hB4.out.size
      · have := hF1'.out j h; omega
    exact ⟨fun j hj hf => by have := hnF.out j hf; have := z j hj; omega, z⟩)
  have hD5 := Lib.hid (show Did F w (w4.alloc (.cells #[ptr bb, .bool false] 68)) from (Did.of_below hB4.out).alloc _)
  obtain ⟨tt, htt⟩ := hC5.out.pt hx'.out
  have c0 : (w4.alloc (.cells #[ptr bb, .bool false] 68)).cell? ⟨c, 0, none⟩ = some (.slice (some ⟨D.r, 0, none⟩) x.l.length D.cap) := (hC5.out.blk.cell 0).trans rfl
  have r0 := hC5.out.rcell htt
  have p1 := (hC5.out.pcell htt hx'.out).2
  have hk2 : (k : Int) + 1 < (x.l.length : Int) := by omega
  have hk3 : (0 : Int) ≤ (k : Int) + 1 := by omega
  clear hC4 hS4' hF1' hC2 hB2 hb5 htt hblk2 hB4 hh hnew
  cases hcl : b0.cl with
  | true =>
    rw [hcl] at p1
    have hen := Lib.hid (end_any hP5.out now)
    go_wp2_with fail
    refine hen.out.mono ?_
    rintro e w6 ⟨rfl, H6, hP, hD6, hS6⟩
    have hC6 := Lib.hid (show CH w6 F c D x from hC5.out.kept fun j hj => hD6.block j (hC5.out.lt hj) (fun hh => hH5.out.1 j hh hj))
    have hP6 := Lib.hid hP
    have hH6 := Lib.hid (show (∀ j, H6 j → ¬ F j) ∧ ∀ j, H6 j → w.heap.size ≤ j from by
      have z : ∀ j, H6 j → w.heap.size ≤ j := by
        intro j hj
        rcases hS6 j hj with e | e
        · exact hH5.out.2 j e
        · have := hD5.out.size; omega
      exact ⟨fun j hj hf => by have := hnF.out j hf; have := z j hj; omega, z⟩)
    have hDw6 := Lib.hid (show Did F w w6 from hD5.out.trans (F' := fun j => F j ∨ (j = w4.heap.size ∨ F1 j)) (fun j hj => hj.imp id (hH5.out.2 j)) (hD6.more fun j hj => .inl (.inr hj)))
    clear hP hD6 hS6 hC5 hP5 hH5 hD5 hen c0 r0 p1
    have c0 : w6.cell? ⟨c, 0, none⟩ = some (.slice (some ⟨D.r, 0, none⟩) x.l.length D.cap) := (hC6.out.blk.cell 0).trans rfl
    have hC7 := Lib.hid (hC6.out.below ((Below.refl w6.heap.size w6).alloc (Nat.le_refl _) (.cells #[ptr w4.heap.size] 64)))
    have hP7 := Lib.hid (hP6.out.kept (w' := w6.alloc (.cells #[ptr w4.heap.size] 64)) fun j hj => Below.heap_alloc _ _ _ (hP6.out.typed.lt hj))
    have hins : Hid (Calls Try.prog 61 #[.slice (some ⟨D.r, 0, none⟩) x.l.length D.cap, .int .i64 ((k : Int) + 1), .slice (some ⟨w6.heap.size, 0, none⟩) 1 1] (w6.alloc (.cells #[ptr w4.heap.size] 64)) fun e w' =>
        ∃ r' cap', e = .returned (.slice (some ⟨r', 0, none⟩) (x.l.length + 1) cap') ∧ RV w' r' cap' (insL (k + 1) (ptr w4.heap.size) (D.ps.map fun q : Pt => ptr q.p)) ∧ Did (· = D.r) (w6.alloc (.cells #[ptr w4.heap.size] 64)) w' ∧ (r' = D.r ∨ (w6.alloc (.cells #[ptr w4.heap.size] 64)).heap.size ≤ r') ∧ cap' ≤ 9223372036854775807) :=
      Lib.hid (by
          rw [show (k : Int) + 1 = ((k + 1 : Nat) : Int) by omega]
          exact insert_any _ D.r w6.heap.size x.l.length D.cap (k + 1) w4.heap.size (D.ps.map fun q : Pt => ptr q.p) (fun u hu => by obtain ⟨q, _, rfl⟩ := List.mem_map.1 hu; rfl) (by rw [List.length_map]; exact hC6.out.len) (by omega) (by omega) (by omega) hC6.out.cap hcap hC7.out.rv (Blk.new w6 64 #[ptr w4.heap.size]) (fun e => by
        have : D.r < w6.heap.size := by obtain ⟨_, hq⟩ := hC6.out; obtain ⟨_, hb, _⟩ := hq.row; exact hb.lt
        try simp only [World.size_alloc] at this
        omega))
    clear hP6
    go_wp2_with fail
    refine hins.out.mono ?_
    rintro e w8 ⟨r', cap', rfl, hRV, hD8, hr', hcp⟩
    obtain ⟨F', hCf, hFf, hFc, hFr⟩ := hC7.out.ins hP7.out hH6.out.1 (i := k + 1) (by omega) hRV hD8 hr'
    have hcr : D.r ≠ c := by obtain ⟨_, hq⟩ := hC6.out; obtain ⟨_, hb, _⟩ := hq.row; exact hb.ne hq.blk (by decide)
    have hb8 : Blk w8 c 73 (ccells D x) := hC7.out.blk.did hD8 (fun e => hcr e.symm)
    have c8 : w8.cell? ⟨c, 0, none⟩ = some (.slice (some ⟨D.r, 0, none⟩) x.l.length D.cap) := (hb8.cell 0).trans rfl
    have f8 := hb8.free 0
    have hres := Lib.hid (show ∃ D' F', CH (w8.setCell ⟨c, 0, none⟩ (.slice (some ⟨r', 0, none⟩) (x.l.length + 1) cap')) F' c D' { x with l := x.l.take (k + 1) ++ (endA now ⟨sn, false⟩) :: x.l.drop (k + 1) } ∧ Did F w (w8.setCell ⟨c, 0, none⟩ (.slice (some ⟨r', 0, none⟩) (x.l.length + 1) cap')) ∧ Stem F F' w ∧ D'.cap ≤ 9223372036854775807 from
      ⟨_, F', hCf, ((hDw6.out.alloc _).trans (Stem.refl _ _) (hD8.more fun j hj => .inl (by subst hj; exact hFr))).setCell (p := ⟨c, 0, none⟩) (.inl hFc) _, fun j hj => by
        rcases hFf j hj with h | h | h
        · exact .inl h
        · exact .inr (hH6.out.2 j h)
        · have := hDw6.out.size
          simp only [World.size_alloc] at h
          try simp only [World.size_alloc] at this
          exact .inr (by omega), hcp⟩)
    clear hins hC6 hC7 hP7 hH6 hDw6 hRV hD8 hr' hCf hFf hFc hFr hb8 c0 hcr
    go_wp2
    all_goals (go_ret; exact ⟨rfl, hres.out⟩)

  | false =>
    rw [hcl] at p1
    have c0 : (w4.alloc (.cells #[ptr bb, .bool false] 68)).cell? ⟨c, 0, none⟩ = some (.slice (some ⟨D.r, 0, none⟩) x.l.length D.cap) := (hC5.out.blk.cell 0).trans rfl
    have hC7 := Lib.hid (hC5.out.below ((Below.refl (w4.alloc (.cells #[ptr bb, .bool false] 68)).heap.size (w4.alloc (.cells #[ptr bb, .bool false] 68))).alloc (Nat.le_refl _) (.cells #[ptr w4.heap.size] 64)))
    have hP7 := Lib.hid (hP5.out.kept (w' := (w4.alloc (.cells #[ptr bb, .bool false] 68)).alloc (.cells #[ptr w4.heap.size] 64)) fun j hj => Below.heap_alloc _ _ _ (hP5.out.typed.lt hj))
    have hins : Hid (Calls Try.prog 61 #[.slice (some ⟨D.r, 0, none⟩) x.l.length D.cap, .int .i64 ((k : Int) + 1), .slice (some ⟨(w4.heap.size + 1), 0, none⟩) 1 1] ((w4.alloc (.cells #[ptr bb, .bool false] 68)).alloc (.cells #[ptr w4.heap.size] 64)) fun e w' =>
        ∃ r' cap', e = .returned (.slice (some ⟨r', 0, none⟩) (x.l.length + 1) cap') ∧ RV w' r' cap' (insL (k + 1) (ptr w4.heap.size) (D.ps.map fun q : Pt => ptr q.p)) ∧ Did (· = D.r) ((w4.alloc (.cells #[ptr bb, .bool false] 68)).alloc (.cells #[ptr w4.heap.size] 64)) w' ∧ (r' = D.r ∨ ((w4.alloc (.cells #[ptr bb, .bool false] 68)).alloc (.cells #[ptr w4.heap.size] 64)).heap.size ≤ r') ∧ cap' ≤ 9223372036854775807) :=
      Lib.hid (by
          rw [show (k : Int) + 1 = ((k + 1 : Nat) : Int) by omega]
          exact insert_any _ D.r (w4.heap.size + 1) x.l.length D.cap (k + 1) w4.heap.size (D.ps.map fun q : Pt => ptr q.p) (fun u hu => by obtain ⟨q, _, rfl⟩ := List.mem_map.1 hu; rfl) (by rw [List.length_map]; exact hC5.out.len) (by omega) (by omega) (by omega) hC5.out.cap hcap hC7.out.rv (by have := Blk.new (w4.alloc (.cells #[ptr bb, .bool false] 68)) 64 #[ptr w4.heap.size]; rw [World.size_alloc] at this; exact this) (fun e => by
        have : D.r < (w4.alloc (.cells #[ptr bb, .bool false] 68)).heap.size := by obtain ⟨_, hq⟩ := hC5.out; obtain ⟨_, hb, _⟩ := hq.row; exact hb.lt
        try simp only [World.size_alloc] at this
        omega))
    clear hP5
    go_wp2_with fail
    refine hins.out.mono ?_
    rintro e w8 ⟨r', cap', rfl, hRV, hD8, hr', hcp⟩
    obtain ⟨F', hCf, hFf, hFc, hFr⟩ := hC7.out.ins hP7.out hH5.out.1 (i := k + 1) (by omega) hRV hD8 hr'
    have hcr : D.r ≠ c := by obtain ⟨_, hq⟩ := hC5.out; obtain ⟨_, hb, _⟩ := hq.row; exact hb.ne hq.blk (by decide)
    have hb8 : Blk w8 c 73 (ccells D x) := hC7.out.blk.did hD8 (fun e => hcr e.symm)
    have c8 : w8.cell? ⟨c, 0, none⟩ = some (.slice (some ⟨D.r, 0, none⟩) x.l.length D.cap) := (hb8.cell 0).trans rfl
    have f8 := hb8.free 0
    have hres := Lib.hid (show ∃ D' F', CH (w8.setCell ⟨c, 0, none⟩ (.slice (some ⟨r', 0, none⟩) (x.l.length + 1) cap')) F' c D' { x with l := x.l.take (k + 1) ++ (⟨sn, false⟩ : Pa) :: x.l.drop (k + 1) } ∧ Did F w (w8.setCell ⟨c, 0, none⟩ (.slice (some ⟨r', 0, none⟩) (x.l.length + 1) cap')) ∧ Stem F F' w ∧ D'.cap ≤ 9223372036854775807 from
      ⟨_, F', hCf, ((hD5.out.alloc _).trans (Stem.refl _ _) (hD8.more fun j hj => .inl (by subst hj; exact hFr))).setCell (p := ⟨c, 0, none⟩) (.inl hFc) _, fun j hj => by
        rcases hFf j hj with h | h | h
        · exact .inl h
        · exact .inr (hH5.out.2 j h)
        · have := hD5.out.size
          simp only [World.size_alloc] at h
          try simp only [World.size_alloc] at this
          exact .inr (by omega), hcp⟩)
    clear hins hC5 hC7 hP7 hH5 hD5 hRV hD8 hr' hCf hFf hFc hFr hb8 c0 hcr r0 p1
    go_wp2
    all_goals (go_ret; exact ⟨rfl, hres.out⟩)

def TuD (w : World) (F : Nat → Prop) (w' : World) (c : Nat) (y : Ch) : Prop := ∃ D' F', CH w' F' c D' y ∧ Did F w w' ∧ Stem F F' w ∧ D'.cap ≤ 9223372036854775807
theorem Tu.tuD {y : Ch} (h : Tu w F w' c D y) (hcap : D.cap ≤ 9223372036854775807) : TuD w F w' c y := by
  obtain ⟨F', a, b, d⟩ := h
  exact ⟨D, F', a, b, d, hcap⟩
theorem cInsert_any (h : CH w F c D x) {M Q : Int} (ho : OkC x M Q) (hcap : D.cap ≤ 9223372036854775807) (at_ : Int) (tx : Tox) (seed now : Int) :
    Calls Try.prog 38 #[ptr c, .int .i64 at_, tx.v, .int .u64 seed, .int .i64 now] w fun e w' => e = .returned (.int .i64 (insE x at_ tx)) ∧ TuD w F w' c (insC x at_ tx seed now) := by
  obtain ⟨t0, t1, t2, t3, t4, t5⟩ := tx
  cases hno : noPlace x at_ with
  | true =>
    have e1 : insE x at_ ⟨t0, t1, t2, t3, t4, t5⟩ = 110 := by unfold insE; rw [if_pos hno]
    have e2 : insC x at_ ⟨t0, t1, t2, t3, t4, t5⟩ seed now = x := by unfold insC; rw [e1, if_pos (by decide)]
    rw [e1, e2]
    exact (ins_no h ho.two ho.ten at_ t0 t1 t2 t3 t4 t5 seed now hno).mono fun e w' ⟨he, hb⟩ => ⟨he, (Tu.below h hb).tuD hcap⟩
  | false =>
    have e1 : insE x at_ ⟨t0, t1, t2, t3, t4, t5⟩ = newE ⟨t0, t1, t2, t3, t4, t5⟩ x.room := by unfold insE; rw [if_neg (by rw [hno]; decide)]
    by_cases hz : newE ⟨t0, t1, t2, t3, t4, t5⟩ x.room = 0
    · have hk : 0 ≤ at_ ∧ at_ ≤ (x.l.length : Int) - 2 := by simp [noPlace] at hno; omega
      obtain ⟨k, rfl⟩ : ∃ k : Nat, at_ = (k : Int) := ⟨at_.toNat, by omega⟩
      have h2 := ho.two
      have hx : x.l[k + 1]? = some x.l[k + 1] := List.getElem?_eq_getElem (by omega)
      have e2 : insC x (k : Int) ⟨t0, t1, t2, t3, t4, t5⟩ seed now = { x with l := x.l.take (k + 1) ++ (if (x.l[k + 1]'(by omega)).cl = true then endA now ⟨newS ⟨t0, t1, t2, t3, t4, t5⟩ seed x.room now, false⟩ else ⟨newS ⟨t0, t1, t2, t3, t4, t5⟩ seed x.room now, false⟩) :: x.l.drop (k + 1) } := by
        unfold insC
        rw [e1, hz, if_neg (by decide)]
        show (match x.l[k + 1]? with | some b => _ | none => x) = _
        rw [hx]
        rfl
      rw [e1, hz, e2]
      exact ins_ok h ho.two ho.ten hcap k t0 t1 t2 t3 t4 t5 seed now hno hz _ hx
    · have e2 : insC x at_ ⟨t0, t1, t2, t3, t4, t5⟩ seed now = x := by unfold insC; rw [e1, if_pos hz]
      rw [e1, e2]
      exact (ins_err h ho.two ho.ten at_ t0 t1 t2 t3 t4 t5 seed now hno hz).mono fun e w' ⟨he, hb⟩ => ⟨he, (Tu.below h hb).tuD hcap⟩
end Go.Proofs.Ytoiibmcbjjnpbaa.Chain
namespace Go.Proofs.Ytoiibmcbjjnpbaa.Chain
open Go.RowKit Mem Tick Cargo Toxic Stage
set_option maxRecDepth 100000
set_option linter.unusedVariables false
set_option linter.unusedSimpArgs false
variable {w w' w1 : World} {F H : Nat → Prop} {t : Pt} {a : Pa} {c : Nat} {D : Lay} {x : Ch}
def toxs (x : Ch) : List Tox := ((x.l.drop 1).take (x.l.length - 2)).map fun a => a.s.t
end Go.Proofs.Ytoiibmcbjjnpbaa.Chain
namespace Go.Proofs.Ytoiibmcbjjnpbaa.Chain
open Go.RowKit Mem Tick Cargo Toxic Stage
set_option maxRecDepth 100000
set_option linter.unusedVariables false
set_option linter.unusedSimpArgs false
structure Op where
  kind : Int
  now : Int
  n : Int
  s : ByteArray
  t : Tox
  seed : Int
variable {w w' : World} {F : Nat → Prop} {c : Nat} {D : Lay} {x : Ch}
abbrev Ans := Int × ByteArray × Int
def doesA (x : Ch) (o : Op) : Ans :=
  if o.kind = 0 then (putCN x o.now o.s, ⟨#[]⟩, 0) else if o.kind = 1 then (0, ⟨#[]⟩, 0) else if o.kind = 2 then (0, ⟨#[]⟩, 0) else if o.kind = 3 then ((stepC o.now x).state, ⟨#[]⟩, 0)
  else if o.kind = 4 then (0, takeCB x o.now o.n, 0) else if o.kind = 5 then (0, ⟨#[]⟩, insE x o.n o.t) else if o.kind = 6 then (0, ⟨#[]⟩, remE x o.n) else if o.kind = 7 then (0, ⟨#[]⟩, updCE x o.n o.t) else (0, ⟨#[]⟩, 0)
def doesC (x : Ch) (o : Op) : Ch :=
  if o.kind = 0 then putC x o.now o.s else if o.kind = 1 then closeC x o.now else if o.kind = 2 then breakC x else if o.kind = 3 then stepC o.now x
  else if o.kind = 4 then takeC x o.now o.n else if o.kind = 5 then insC x o.n o.t o.seed o.now else if o.kind = 6 then remC x o.n o.now else if o.kind = 7 then updC x o.n o.t o.now else x
end Go.Proofs.Ytoiibmcbjjnpbaa.Chain
namespace Go.Proofs.Ytoiibmcbjjnpbaa.Link
open Go.RowKit Mem Tick Cargo Toxic Stage Chain
open Go.Proofs.YtoiibmcbjjnpbaaW.PrintLast Pu
open Go.Proofs.YtoiibmcbjjnpbaaW.PrintWords (add_at)
set_option maxRecDepth 100000
set_option linter.unusedVariables false
set_option linter.unusedSimpArgs false
theorem info_st : (Try.prog.info? 9).map (fun i => (i.zero, i.size, i.bytes)) = some (some (.string ⟨#[]⟩), 1, 16) := by kernel_rfl
def RS (w : World) (r cap : Nat) (xs : List Value) : Prop := ∃ rest, Blk w r 9 (xs ++ rest).toArray ∧ (xs ++ rest).length = cap
def idxN (l : List ByteArray) (s : ByteArray) : Option Nat := l.findIdx? fun x => s.toList == x.toList
def idxI (l : List ByteArray) (s : ByteArray) : Int := match idxN l s with | some i => (i : Int) | none => -1
theorem idx_some {l : List ByteArray} {s : ByteArray} {k : Nat} {x : ByteArray} (h : ∀ j y, j < k → l[j]? = some y → (s.toList == y.toList) = false) (hx : l[k]? = some x) (he : (s.toList == x.toList) = true) : idxN l s = some k := by
  unfold idxN
  obtain ⟨hk, e⟩ := List.getElem?_eq_some_iff.1 hx
  rw [List.findIdx?_eq_some_iff_getElem]
  refine ⟨hk, by rw [e]; exact he, fun j hj => ?_⟩
  have := h j _ hj (List.getElem?_eq_getElem (by omega))
  simp only [this]
  decide
theorem idx_none {l : List ByteArray} {s : ByteArray} (h : ∀ j y, j < l.length → l[j]? = some y → (s.toList == y.toList) = false) : idxN l s = none := by
  unfold idxN
  rw [List.findIdx?_eq_none_iff]
  intro y hy
  obtain ⟨j, hj, e⟩ := List.getElem_of_mem hy
  exact h j y hj (by rw [List.getElem?_eq_getElem hj, e])
theorem idx_lt {l : List ByteArray} {s : ByteArray} {k : Nat} (h : idxN l s = some k) : k < l.length := by
  unfold idxN at h
  rw [List.findIdx?_eq_some_iff_getElem] at h
  exact h.1
def SR (w : World) (v : Value) (l : List ByteArray) : Prop := ∃ A cap, v = .slice A l.length cap ∧ (l ≠ [] → ∃ g o, A = some ⟨g, o, none⟩ ∧ ∀ j x, l[j]? = some x → w.cell? ⟨g, o + j, none⟩ = some (.string x))
theorem index_any (w : World) (v : Value) (l : List ByteArray) (s : ByteArray) (h : SR w v l) (hl : l.length ≤ 1000000) :
    Calls Try.prog 58 #[v, .string s] w fun e w' => e = .returned (.int .i64 (idxI l s)) ∧ w = w' := by
  obtain ⟨A, cap, rfl, hA⟩ := h
  go_enter Try.func58, Try.ntmps58
  go_wp2
  go_loopw [8] (fun iv wr => ∃ k : Nat, k ≤ l.length ∧ iv = .int .i64 k ∧ w = wr ∧ ∀ j y, j < k → l[j]? = some y → (s.toList == y.toList) = false) (fun iv _ => l.length - (intOf iv).toNat)
  case atStart => exact ⟨0, by omega, rfl, rfl, fun j y hj => absurd hj (by omega)⟩
  case round =>
    obtain ⟨k, hk, rfl, rfl, hno⟩ := hrel
    by_cases hlt : k < l.length
    · obtain ⟨g, o, rfl, hc⟩ := hA (by intro h; subst h; simp at hlt)
      have hx : l[k]? = some l[k] := List.getElem?_eq_getElem hlt
      have d0 := hc k _ hx
      generalize l[k] = z at *
      cases hz : (s.toList == z.toList) with
      | true =>
        have he := Lib.hid (show idxI l s = (k : Int) by unfold idxI; rw [idx_some hno hx hz])
        clear hno hx hc hA
        go_wp2
        go_ret
        exact ⟨by rw [he.out]; rfl, rfl⟩
      | false =>
        have hno2 := Lib.hid (show ∀ j y, j < k + 1 → l[j]? = some y → (s.toList == y.toList) = false from fun j y hj hy => by
          by_cases e : j = k
          · subst e
            rw [hx] at hy
            cases hy
            exact hz
          · exact hno j y (by omega) hy)
        clear hno hx hc hA
        go_wp2
        go_roundw
        case rel => exact ⟨k + 1, by omega, by go_num, by first | rfl | trivial, hno2.out⟩
        case measure => simp [intOf]; omega
    · have hk2 : k = l.length := by omega
      subst hk2
      have hnl : ¬ (l.length < l.length) := by omega
      have he := Lib.hid (show idxI l s = -1 by unfold idxI; rw [idx_none hno])
      clear hno hA
      go_wp2
      go_ret
      exact ⟨by rw [he.out]; rfl, rfl⟩
theorem contains_any (w : World) (v : Value) (l : List ByteArray) (s : ByteArray) (h : SR w v l) (hl : l.length ≤ 1000000) :
    Calls Try.prog 35 #[v, .string s] w fun e w' => e = .returned (.bool (idxN l s).isSome) ∧ w = w' := by
  have hh := Lib.hid (index_any w v l s h hl)
  clear h
  go_enter Try.func35, Try.ntmps35
  go_wp2_with fail
  refine hh.out.mono ?_
  rintro e w1 ⟨rfl, rfl⟩
  unfold idxI
  cases hq : idxN l s with
  | some i =>
    have h0 : (0 : Int) ≤ (i : Int) := by omega
    have hq' := Lib.hid hq
    clear hh hq
    go_wp2
    go_ret
    exact ⟨by rw [hq'.out]; rfl, rfl⟩
  | none =>
    have hq' := Lib.hid hq
    clear hh hq
    go_wp2
    go_ret
    exact ⟨by rw [hq'.out]; rfl, rfl⟩
def NV (w : World) (v : Value) (l : List ByteArray) : Prop :=
  (v = .slice none 0 0 ∧ l = []) ∨ ∃ g cap, v = .slice (some ⟨g, 0, none⟩) l.length cap ∧ RS w g cap (l.map Value.string) ∧ cap ≤ 9223372036854775807
theorem NV.sr {w : World} {v : Value} {l : List ByteArray} (h : NV w v l) : SR w v l := by
  rcases h with ⟨rfl, rfl⟩ | ⟨g, cap, rfl, ⟨rest, hb, hl⟩, hc⟩
  · exact ⟨none, 0, rfl, fun h => absurd rfl h⟩
  · refine ⟨_, cap, rfl, fun _ => ⟨g, 0, rfl, fun j x hx => ?_⟩⟩
    rw [Nat.zero_add]
    refine (hb.cell j).trans ?_
    rw [List.getElem?_toArray, List.getElem?_append_left (by rw [List.length_map]; exact (List.getElem?_eq_some_iff.1 hx).1), List.getElem?_map, hx]
    rfl
theorem NV.kept {w w' : World} {v : Value} {l : List ByteArray} (h : NV w v l) (hk : ∀ j, v.ownBlock = some j → w'.heap[j]? = w.heap[j]?) : NV w' v l := by
  rcases h with h | ⟨g, cap, rfl, ⟨rest, hb, hl⟩, hc⟩
  · exact .inl h
  · exact .inr ⟨g, cap, rfl, ⟨rest, (hk g rfl).trans hb, hl⟩, hc⟩
theorem NV.typed {w : World} {v : Value} {l : List ByteArray} (h : NV w v l) {j : Nat} (hj : v.ownBlock = some j) : ∃ cs, Blk w j 9 cs := by
  rcases h with ⟨rfl, rfl⟩ | ⟨g, cap, rfl, ⟨rest, hb, hl⟩, hc⟩
  · cases hj
  · have e : g = j := by simpa [Value.ownBlock] using hj
    subst e
    exact ⟨_, hb⟩
theorem NV.owns {w : World} {v : Value} {l : List ByteArray} (h : NV w v l) : w.ownsRow 0 9 1 v l.length (l.map Value.string) := by
  rcases h with ⟨rfl, rfl⟩ | ⟨g, cap, rfl, ⟨rest, hb, hl⟩, hc⟩
  · exact World.ownsRow_nil _ _ _ _
  · refine ⟨by rw [List.length_map, Nat.mul_one], .inr ⟨g, cap, _, rfl, Nat.zero_le _, hb, ?_, by unfold maxLen; omega, ?_, ?_⟩⟩
    · rw [List.length_append, List.length_map] at hl; omega
    · rw [List.size_toArray, hl, Nat.mul_one]
    · show (l.map Value.string ++ rest).take (l.length * 1) = _
      rw [Nat.mul_one, List.take_append_of_le_length (by rw [List.length_map]; exact Nat.le_refl _), List.take_of_length_le (by rw [List.length_map]; exact Nat.le_refl _)]
theorem NV.of_owns {w : World} {v : Value} {l : List ByteArray} {base : Nat} (h : w.ownsRow base 9 1 v l.length (l.map Value.string)) : NV w v l := by
  rcases h.2 with ⟨rfl, h0⟩ | ⟨g, cap, cur, rfl, hg, hh, hnc, hcap, hsz, htake⟩
  · exact .inl ⟨rfl, List.length_eq_zero_iff.1 h0⟩
  · refine .inr ⟨g, cap, rfl, ⟨cur.toList.drop l.length, ?_, ?_⟩, by unfold maxLen at hcap; omega⟩
    · rw [Nat.mul_one] at htake
      rw [← htake, List.take_append_drop]
      exact hh
    · have e : cur.toList.length = cur.size := Array.length_toList
      rw [List.length_append, List.length_map, List.length_drop, e, hsz]; omega
end Go.Proofs.Ytoiibmcbjjnpbaa.Link
namespace Go.Proofs.Ytoiibmcbjjnpbaa.Chain
open Go.RowKit Mem Tick Cargo Toxic Stage
set_option linter.unusedVariables false
set_option linter.unusedSimpArgs false
variable {x y : Ch} {P : Pa → Prop}
/-! one stage -/
theorem force_st (s : Sg) (n : Int) (b : ByteArray) : (forceP s n b).t = s.t ∧ (forceP s n b).closed = s.closed ∧ (forceP s n b).state = (lookP s n).state ∧ (forceP s n b).room = s.room ∧ (forceP s n b).clock = (lookP s n).clock := by
  unfold forceP
  split
  · exact ⟨rfl, rfl, rfl, rfl, rfl⟩
  · unfold putIn diceP
    split <;> exact ⟨rfl, rfl, rfl, rfl, rfl⟩
theorem put_st (s : Sg) (n : Int) (b : ByteArray) : (putS s n b).t = s.t ∧ (putS s n b).closed = s.closed ∧ (putS s n b).state = (lookP s n).state ∧ (putS s n b).room = s.room ∧ (putS s n b).clock = (lookP s n).clock := by
  unfold putS
  split
  · exact ⟨rfl, rfl, rfl, rfl, rfl⟩
  · have h := force_st (lookP s n) n (b.extract 0 (roomFor (lookP s n) b))
    rw [look_idem] at h
    exact h
theorem takeOut_st (s : Sg) (m : Int) : (takeOut s m).t = s.t ∧ (takeOut s m).closed = s.closed ∧ (takeOut s m).state = s.state ∧ (takeOut s m).room = s.room ∧ (takeOut s m).clock = s.clock := by
  unfold takeOut wayS someS sliceS
  split
  · exact ⟨rfl, rfl, rfl, rfl, rfl⟩
  · split
    · split <;> exact ⟨rfl, rfl, rfl, rfl, rfl⟩
    · exact ⟨rfl, rfl, rfl, rfl, rfl⟩
theorem take_st (s : Sg) (n m : Int) : (takeS s n m).t = s.t ∧ (takeS s n m).closed = s.closed ∧ (takeS s n m).state = (lookP s n).state ∧ (takeS s n m).room = s.room ∧ (takeS s n m).clock = (lookP s n).clock := by
  unfold takeS
  split
  · exact ⟨rfl, rfl, rfl, rfl, rfl⟩
  · exact takeOut_st (lookP s n) _
theorem close_st (s : Sg) (n : Int) : (closeP s n).t = s.t ∧ (closeP s n).closed = true ∧ (closeP s n).state = s.state ∧ (closeP s n).room = s.room ∧ (closeP s n).c = s.c := by
  unfold closeP
  split
  · rename_i h; exact ⟨rfl, h, rfl, rfl, rfl⟩
  · exact ⟨rfl, rfl, rfl, rfl, rfl⟩
theorem upd_st (s : Sg) (t : Tox) (n : Int) : (updS s t n).t.kind = s.t.kind ∧ (updS s t n).closed = s.closed ∧ ((updS s t n).state = s.state ∨ (updS s t n).state = (lookP s n).state) ∧ (updS s t n).room = s.room := by
  unfold updS
  split
  · exact ⟨rfl, rfl, .inl rfl, rfl⟩
  · rename_i h
    have hk : t.kind = s.t.kind := Decidable.byContradiction fun e => h (.inl e)
    split
    · exact ⟨hk, rfl, .inr rfl, rfl⟩
    · exact ⟨hk, rfl, .inr rfl, rfl⟩
theorem look_cases (s : Sg) (n : Int) : (lookP s n).state = s.state ∨ (s.state = 0 ∧ ((lookP s n).state = 0 ∨ ((lookP s n).state = 2 ∧ s.t.kind = 5) ∨ ((lookP s n).state = 1 ∧ (s.t.kind = 4 ∨ s.t.kind = 6 ∨ (s.closed = true ∧ held s = 0))))) := by
  show lookS (nowP s n) = s.state ∨ (s.state = 0 ∧ (lookS (nowP s n) = 0 ∨ (lookS (nowP s n) = 2 ∧ s.t.kind = 5) ∨ (lookS (nowP s n) = 1 ∧ (s.t.kind = 4 ∨ s.t.kind = 6 ∨ (s.closed = true ∧ held s = 0)))))
  unfold lookS
  by_cases h0 : s.state = 0
  · rw [if_neg (by show ¬ s.state ≠ 0; omega)]
    refine .inr ⟨h0, ?_⟩
    split
    · rename_i h; exact .inr (.inl ⟨rfl, h.1⟩)
    split
    · rename_i h
      split
      · exact .inr (.inr ⟨rfl, .inl h⟩)
      · exact .inl rfl
    split
    · rename_i h; exact .inr (.inr ⟨rfl, .inr (.inl h.1)⟩)
    split
    · rename_i h
      unfold endedB at h
      simp only [Bool.and_eq_true, decide_eq_true_eq] at h
      exact .inr (.inr ⟨rfl, .inr (.inr ⟨h.1.1, h.1.2⟩)⟩)
    · exact .inl rfl
  · rw [if_pos (show (nowP s n).state ≠ 0 from h0)]
    exact .inl rfl
/-! what each call keeps of each stage -/
structure Loc (P : Pa → Prop) : Prop where
  look : ∀ a n, P a → P (lookA n a)
  put : ∀ a n b, P a → P ⟨putS a.s n b, a.cl⟩
  force : ∀ a n b, P a → P ⟨forceP a.s n b, a.cl⟩
  take : ∀ a n m, P a → P ⟨takeS a.s n m, a.cl⟩
  fin : ∀ a n, P a → P (endA n a)
  drain : ∀ a, P a → P (drainA a)
  upd : ∀ a t n, P a → P ⟨updS a.s t n, a.cl⟩
def AllL (P : Pa → Prop) (l : List Pa) : Prop := ∀ a ∈ l, P a
theorem AllL.at_ {l : List Pa} (h : AllL P l) {i : Nat} {a : Pa} (hi : l[i]? = some a) : P a := h a (List.mem_of_getElem? hi)
theorem AllL.set {l : List Pa} (h : AllL P l) (i : Nat) {b : Pa} (hb : P b) : AllL P (l.set i b) := fun a ha => (List.mem_or_eq_of_mem_set ha).elim (h a) (fun e => e ▸ hb)
theorem AllL.map {l : List Pa} (h : AllL P l) {f : Pa → Pa} (hf : ∀ a, P a → P (f a)) : AllL P (l.map f) := fun a ha => by
  obtain ⟨b, hb, rfl⟩ := List.mem_map.1 ha
  exact hf b (h b hb)
theorem AllL.take {l : List Pa} (h : AllL P l) (n : Nat) : AllL P (l.take n) := fun a ha => h a (List.mem_of_mem_take ha)
theorem AllL.drop {l : List Pa} (h : AllL P l) (n : Nat) : AllL P (l.drop n) := fun a ha => h a (List.mem_of_mem_drop ha)
theorem AllL.app {l l' : List Pa} (h : AllL P l) (h' : AllL P l') : AllL P (l ++ l') := fun a ha => (List.mem_append.1 ha).elim (h a) (h' a)
theorem AllL.cons {l : List Pa} {b : Pa} (hb : P b) (h : AllL P l) : AllL P (b :: l) := fun a ha => by
  rcases List.mem_cons.1 ha with e | e
  · subst e; exact hb
  · exact h a e
theorem AllL.erase {l : List Pa} (h : AllL P l) (n : Nat) : AllL P (l.eraseIdx n) := fun a ha => h a (List.mem_of_mem_eraseIdx ha)
theorem AllL.lose {l : List Pa} (hP : Loc P) (h : AllL P l) (n : Nat) : AllL P (loseL n l) := ((h.take n).map hP.drain).app (h.drop n)
theorem AllL.moveAt {l : List Pa} (hP : Loc P) (h : AllL P l) (now : Int) (j : Nat) : AllL P (moveAt now j l) := by
  unfold Chain.moveAt
  split
  · rename_i a b ha hb
    split
    · exact (h.set _ (hP.take a now _ (h.at_ ha))).set _ (hP.force (lookA now b) now _ (hP.look b now (h.at_ hb)))
    · exact h.set _ (hP.look b now (h.at_ hb))
  · exact h
theorem AllL.moves {l : List Pa} (hP : Loc P) (h : AllL P l) (now : Int) : ∀ m, AllL P (moves now m l)
  | 0 => h
  | m + 1 => AllL.moveAt hP (AllL.moves hP h now m) now m
theorem AllL.shutAt (hP : Loc P) (h : AllL P x.l) (now : Int) (j : Nat) : AllL P (shutAt now j x).l := by
  unfold Chain.shutAt
  split
  · rename_i a b ha hb
    split
    · exact ((h.set _ (hP.look a now (h.at_ ha))).lose hP _).set _ (hP.fin b now (h.at_ hb))
    · exact h.set _ (hP.look a now (h.at_ ha))
  · exact h
theorem AllL.shuts (hP : Loc P) (h : AllL P x.l) (now : Int) : ∀ m, AllL P (shuts now m x).l
  | 0 => h
  | m + 1 => AllL.shutAt hP (AllL.shuts hP h now m) now m
theorem AllL.last (hP : Loc P) (h : AllL P x.l) (now : Int) : AllL P (lastC now x).l := by
  unfold Chain.lastC
  split
  · rename_i a ha
    exact h.set _ (hP.look a now (h.at_ ha))
  · exact h
theorem AllL.break_ (hP : Loc P) (h : AllL P x.l) : AllL P (breakC x).l := by
  unfold breakC
  split
  · exact h
  · exact h.lose hP _
theorem AllL.step (hP : Loc P) (h : AllL P x.l) (now : Int) : AllL P (stepC now x).l := by
  unfold stepC
  split
  · exact h
  split
  · exact AllL.break_ hP (x := { x with l := x.l.map (lookA now) }) (h.map fun a => hP.look a now)
  · exact AllL.last hP (AllL.shuts hP (x := { x with l := Chain.moves now (x.l.length - 1) (x.l.map (lookA now)) }) ((h.map fun a => hP.look a now).moves hP now _) now _) now
theorem loc_does (hP : Loc P) (o : Op) (hnew : o.kind = 5 → insE x o.n o.t = 0 → P ⟨newS o.t o.seed x.room o.now, false⟩) (h : AllL P x.l) : AllL P (doesC x o).l := by
  unfold doesC
  split
  · unfold putC
    split
    · exact h
    split
    · rename_i a ha; exact h.set _ (hP.put a _ _ (h.at_ ha))
    · exact h
  split
  · unfold closeC
    split
    · split
      · rename_i a ha; exact h.set _ (hP.fin a _ (h.at_ ha))
      · exact h
    · exact h
  split
  · exact AllL.break_ hP h
  split
  · exact AllL.step hP h _
  split
  · unfold takeC
    split
    · exact h
    split
    · rename_i a ha; exact h.set _ (hP.take a _ _ (h.at_ ha))
    · exact h
  split
  · rename_i k5
    unfold insC
    split
    · exact h
    rename_i hz
    split
    · have hn := hnew k5 (by omega)
      refine (h.take _).app (AllL.cons ?_ (h.drop _))
      split
      · exact hP.fin _ _ hn
      · exact hn
    · exact h
  split
  · unfold remC
    split
    · unfold remAt
      split
      · rename_i p q hp hq
        have h1 : AllL P ((x.l.set (o.n.toNat + 1) (drainA p)).set (o.n.toNat + 1 + 1) ⟨forceP q.s o.now (cat p.s.c.1), q.cl⟩) := (h.set _ (hP.drain p (h.at_ hp))).set _ (hP.force q _ _ (h.at_ hq))
        refine AllL.erase (AllL.set ?_ _ ?_) _
        · split
          · exact h1.lose hP _
          · exact h1
        · split
          · exact hP.fin _ _ (hP.force q _ _ (h.at_ hq))
          · exact hP.force q _ _ (h.at_ hq)
      · exact h
    · exact h
  split
  · unfold updC
    split
    · split
      · rename_i a ha; exact h.set _ (hP.upd a _ _ (h.at_ ha))
      · exact h
    · exact h
  · exact h
/-! the kinds stay as they are, but for Insert and Remove -/
def kd (a : Pa) : Int := a.s.t.kind
theorem kd_look (n : Int) (a : Pa) : kd (lookA n a) = kd a := rfl
theorem kd_end (n : Int) (a : Pa) : kd (endA n a) = kd a := congrArg Tox.kind (close_st a.s n).1
theorem map_set_same {l : List Pa} {f : Pa → Int} {i : Nat} {a b : Pa} (ha : l[i]? = some a) (hb : f b = f a) : (l.set i b).map f = l.map f := by
  rw [List.map_set, hb]
  obtain ⟨hi, he⟩ := List.getElem?_eq_some_iff.1 ha
  have : (l.map f)[i]'(by simpa using hi) = f a := by simp [he]
  rw [← this]
  exact List.set_getElem_self _
theorem kd_lose (n : Nat) (l : List Pa) : (loseL n l).map kd = l.map kd := by
  unfold loseL
  have e : (l.take n).map (kd ∘ drainA) = (l.take n).map kd := List.map_congr_left fun a _ => rfl
  rw [List.map_append, List.map_map, e, ← List.map_append, List.take_append_drop]
theorem kd_moveAt (now : Int) (j : Nat) (l : List Pa) : (moveAt now j l).map kd = l.map kd := by
  unfold moveAt
  split
  · rename_i a b ha hb
    split
    · have hb2 : (l.set j ⟨takeS a.s now (free (lookP b.s now)), a.cl⟩)[j + 1]? = some b := by rw [List.getElem?_set_ne (by omega)]; exact hb
      rw [map_set_same hb2 (by show (forceP (lookP b.s now) now _).t.kind = b.s.t.kind; rw [(force_st _ _ _).1]; rfl), map_set_same ha (by show (takeS a.s now _).t.kind = a.s.t.kind; rw [(take_st _ _ _).1])]
    · exact map_set_same hb rfl
  · rfl
theorem kd_moves (now : Int) (l : List Pa) : ∀ m, (moves now m l).map kd = l.map kd
  | 0 => rfl
  | m + 1 => (kd_moveAt now m _).trans (kd_moves now l m)
theorem kd_shutAt (now : Int) (j : Nat) (x : Ch) : (shutAt now j x).l.map kd = x.l.map kd := by
  unfold shutAt
  split
  · rename_i a b ha hb
    split
    · have hb2 : (loseL (j + 1) (x.l.set j (lookA now a)))[j + 1]? = some b := by rw [lose_get (Nat.le_refl _), List.getElem?_set_ne (by omega)]; exact hb
      show ((loseL (j + 1) (x.l.set j (lookA now a))).set (j + 1) (endA now b)).map kd = _
      rw [map_set_same hb2 (kd_end now b), kd_lose, map_set_same ha (kd_look now a)]
    · exact map_set_same ha rfl
  · rfl
theorem kd_shuts (now : Int) (x : Ch) : ∀ m, (shuts now m x).l.map kd = x.l.map kd
  | 0 => rfl
  | m + 1 => (kd_shutAt now m _).trans (kd_shuts now x m)
theorem kd_break (x : Ch) : (breakC x).l.map kd = x.l.map kd := by
  unfold breakC
  split
  · rfl
  · exact kd_lose _ _
theorem kd_lookMap (now : Int) (l : List Pa) : (l.map (lookA now)).map kd = l.map kd := by rw [List.map_map]; exact List.map_congr_left fun a _ => rfl
theorem kd_last (now : Int) (x : Ch) : (lastC now x).l.map kd = x.l.map kd := by
  unfold lastC
  split
  · rename_i a ha; exact map_set_same ha rfl
  · rfl
theorem kd_step (now : Int) (x : Ch) : (stepC now x).l.map kd = x.l.map kd := by
  unfold stepC
  split
  · rfl
  split
  · exact (kd_break _).trans (kd_lookMap now x.l)
  · rw [kd_last, kd_shuts, kd_moves, kd_lookMap]
end Go.Proofs.Ytoiibmcbjjnpbaa.Chain
namespace Go.Proofs.Ytoiibmcbjjnpbaa.Chain
open Go.RowKit Mem Tick Cargo Toxic Stage
set_option linter.unusedVariables false
set_option linter.unusedSimpArgs false
variable {x y : Ch} {M Q : Int}
def inC (x : Ch) (o : Op) : ByteArray := if o.kind = 0 then o.s.extract 0 (putCN x o.now o.s) else ⟨#[]⟩
theorem flow_does (x : Ch) (o : Op) : Flow x (inC x o) (doesA x o).2.1 (doesC x o) := by
  unfold inC doesA doesC
  by_cases h0 : o.kind = 0
  · simp only [if_pos h0]; exact flow_put x _ _
  simp only [if_neg h0]
  by_cases h1 : o.kind = 1
  · simp only [if_pos h1]; exact flow_close x _
  simp only [if_neg h1]
  by_cases h2 : o.kind = 2
  · simp only [if_pos h2]; exact flow_break x
  simp only [if_neg h2]
  by_cases h3 : o.kind = 3
  · simp only [if_pos h3]; exact flow_step _ x
  simp only [if_neg h3]
  by_cases h4 : o.kind = 4
  · simp only [if_pos h4]; exact flow_take x _ _
  simp only [if_neg h4]
  by_cases h5 : o.kind = 5
  · simp only [if_pos h5]; exact flow_ins x _ _ _ _
  simp only [if_neg h5]
  by_cases h6 : o.kind = 6
  · simp only [if_pos h6]; exact flow_remC x _ _
  simp only [if_neg h6]
  by_cases h7 : o.kind = 7
  · simp only [if_pos h7]; exact flow_upd x _ _ _
  simp only [if_neg h7]
  exact Flow.same rfl rfl id
theorem putCN_le (x : Ch) (now : Int) (b : ByteArray) : putCN x now b ≤ b.size := by
  unfold putCN
  split
  · exact Nat.zero_le _
  split
  · exact put_le _ _ _
  · exact Nat.zero_le _
theorem inC_size (x : Ch) (o : Op) : (inC x o).size = if o.kind = 0 then putCN x o.now o.s else 0 := by
  unfold inC
  split
  · exact ext_size _ _ (putCN_le _ _ _)
  · rfl
theorem putCN_shut (x : Ch) (now : Int) (b : ByteArray) (h : x.shut = true ∨ x.state ≠ 0) : putCN x now b = 0 := by unfold putCN; rw [if_pos h]
/-! Counts -/
theorem state_else (x : Ch) (o : Op) (h2 : o.kind ≠ 2) (h3 : o.kind ≠ 3) : (doesC x o).state = x.state := by
  unfold doesC putC closeC takeC insC remC remAt updC
  repeat' split
  all_goals first | rfl | (exfalso; omega)
/-! Keeps -/
def KeepI (x : Ch) (i o : ByteArray) : Prop := ∃ L : ByteArray, i = o ++ lineL x.l ++ L ∧ (0 < L.size → x.shut = true)
theorem empty_size {b : ByteArray} (h : b.size = 0) : b = ⟨#[]⟩ := empty_of (by omega)
theorem keep_does {i o : ByteArray} (h : KeepI x i o) (p : Op) : KeepI (doesC x p) (i ++ inC x p) (o ++ (doesA x p).2.1) := by
  obtain ⟨L, h1, h2⟩ := h
  obtain ⟨K, k1, k2, k3, k4⟩ := flow_does x p
  by_cases hz : L.size = 0
  · have e := empty_size hz
    subst e
    rw [app_nil] at h1
    refine ⟨K, ?_, k3⟩
    rw [h1, ByteArray.append_assoc, k1]
    simp only [ByteArray.append_assoc]
  · have hs := h2 (by omega)
    have e : inC x p = ⟨#[]⟩ := empty_size (by
      rw [inC_size]
      split
      · exact putCN_shut _ _ _ (.inl hs)
      · rfl)
    rw [e, app_nil] at k1
    rw [e, app_nil]
    refine ⟨K ++ L, ?_, fun _ => k4 hs⟩
    rw [h1, k1]
    simp only [ByteArray.append_assoc]
theorem keep_new (room now : Int) : KeepI (newC room now) ⟨#[]⟩ ⟨#[]⟩ := by
  have hc : (newS noTox 0 room now).c = ([], 0) := by unfold newS; split <;> rfl
  refine ⟨⟨#[]⟩, ?_, fun e => absurd e (by decide)⟩
  show (⟨#[]⟩ : ByteArray) = ⟨#[]⟩ ++ ((⟨#[]⟩ ++ cat (newS noTox 0 room now).c.1) ++ cat (newS noTox 0 room now).c.1) ++ ⟨#[]⟩
  rw [hc]
  rfl
theorem keep_pre {i o : ByteArray} (h : KeepI x i o) : o.size ≤ i.size ∧ i.extract 0 o.size = o := by
  obtain ⟨L, h1, _⟩ := h
  subst h1
  refine ⟨by simp only [ByteArray.size_append]; omega, ?_⟩
  rw [ByteArray.append_assoc]
  apply ByteArray.ext
  simp
/-! Safe -/
def Psf (a : Pa) : Prop := (a.s.t.kind ≠ 4 ∧ a.s.t.kind ≠ 5 ∧ a.s.t.kind ≠ 6) ∧ a.s.closed = a.cl ∧ (a.s.state = 0 ∨ (a.s.state = 1 ∧ a.cl = true ∧ held a.s = 0))
theorem psf_look {a : Pa} (h : Psf a) (n : Int) : (lookP a.s n).state = 0 ∨ ((lookP a.s n).state = 1 ∧ a.cl = true ∧ held a.s = 0) := by
  obtain ⟨h1, h2, h3⟩ := h
  rcases look_cases a.s n with e | ⟨e0, e | e | ⟨e, e2⟩⟩
  · rw [e]; exact h3
  · exact .inl e
  · omega
  · rcases e2 with e2 | e2 | ⟨e2, e3⟩
    · omega
    · omega
    · exact .inr ⟨e, h2 ▸ e2, e3⟩
theorem psf_of {a a' : Pa} (h : Psf a) (n : Int) (hk : a'.s.t.kind = a.s.t.kind) (hcl : a'.s.closed = a.s.closed) (hc : a'.cl = a.cl) (hs : a'.s.state = (lookP a.s n).state) (hh : (lookP a.s n).state ≠ 0 → held a'.s ≤ held a.s) : Psf a' := by
  have hl := psf_look h n
  obtain ⟨h1, h2, h3⟩ := h
  refine ⟨by rw [hk]; exact h1, by rw [hcl, hc]; exact h2, ?_⟩
  rw [hs, hc]
  rcases hl with e | ⟨e, e2, e3⟩
  · exact .inl e
  · have := hh (by omega)
    exact .inr ⟨e, e2, by omega⟩
theorem force_no {s : Sg} {n : Int} (b : ByteArray) (h : (lookP s n).state ≠ 0) : forceP s n b = lookP s n := by unfold forceP; rw [if_pos (.inl h)]
theorem put_no {s : Sg} {n : Int} (b : ByteArray) (h : (lookP s n).state ≠ 0) : putS s n b = lookP s n := by unfold putS; rw [if_pos (.inl h)]
theorem take_no {s : Sg} {n : Int} (m : Int) (h : (lookP s n).state ≠ 0) : takeS s n m = lookP s n := by unfold takeS; rw [if_pos (.inl h)]
theorem loc_psf : Loc Psf where
  look := fun a n h => psf_of h n rfl rfl rfl rfl (fun _ => Nat.le_refl _)
  put := fun a n b h => psf_of h n (by rw [(put_st _ _ _).1]) (put_st _ _ _).2.1 rfl (put_st _ _ _).2.2.1 (fun e => by show held (putS a.s n b) ≤ _; rw [put_no b e]; exact Nat.le_refl _)
  force := fun a n b h => psf_of h n (by rw [(force_st _ _ _).1]) (force_st _ _ _).2.1 rfl (force_st _ _ _).2.2.1 (fun e => by show held (forceP a.s n b) ≤ _; rw [force_no b e]; exact Nat.le_refl _)
  take := fun a n m h => psf_of h n (by rw [(take_st _ _ _).1]) (take_st _ _ _).2.1 rfl (take_st _ _ _).2.2.1 (fun e => by show held (takeS a.s n m) ≤ _; rw [take_no m e]; exact Nat.le_refl _)
  fin := fun a n h => by
    obtain ⟨h1, h2, h3⟩ := h
    have hs := close_st a.s n
    refine ⟨by show (closeP a.s n).t.kind ≠ 4 ∧ (closeP a.s n).t.kind ≠ 5 ∧ (closeP a.s n).t.kind ≠ 6; rw [hs.1]; exact h1, hs.2.1, ?_⟩
    show (closeP a.s n).state = 0 ∨ ((closeP a.s n).state = 1 ∧ true = true ∧ held (closeP a.s n) = 0)
    rw [hs.2.2.1, held_close]
    exact h3.imp id (fun e => ⟨e.1, rfl, e.2.2⟩)
  drain := fun a h => ⟨h.1, h.2.1, h.2.2.imp id (fun e => ⟨e.1, e.2.1, rfl⟩)⟩
  upd := fun a t n h => by
    have hs := upd_st a.s t n
    have hh : held (updS a.s t n) = held a.s := by unfold held; rw [(upd_c a.s t n).1]
    rcases hs.2.2.1 with e | e
    · obtain ⟨h1, h2, h3⟩ := h
      refine ⟨by show (updS a.s t n).t.kind ≠ 4 ∧ (updS a.s t n).t.kind ≠ 5 ∧ (updS a.s t n).t.kind ≠ 6; rw [hs.1]; exact h1, hs.2.1.trans h2, ?_⟩
      show (updS a.s t n).state = 0 ∨ ((updS a.s t n).state = 1 ∧ a.cl = true ∧ held (updS a.s t n) = 0)
      rw [e, hh]
      exact h3
    · exact psf_of h n hs.1 hs.2.1 rfl e (fun _ => Nat.le_of_eq hh)
theorem psf_new (t : Tox) (seed room now : Int) (h : t.kind ≠ 4 ∧ t.kind ≠ 5 ∧ t.kind ≠ 6) : Psf ⟨newS t seed room now, false⟩ := by
  have e : (newS t seed room now).t = t ∧ (newS t seed room now).closed = false ∧ (newS t seed room now).state = 0 := by unfold newS; split <;> exact ⟨rfl, rfl, rfl⟩
  exact ⟨by show (newS t seed room now).t.kind ≠ 4 ∧ (newS t seed room now).t.kind ≠ 5 ∧ (newS t seed room now).t.kind ≠ 6; rw [e.1]; exact h, e.2.1, .inl e.2.2⟩
def PE (l : List Pa) : Prop := ∀ (i : Nat) (a b : Pa), l[i]? = some a → l[i + 1]? = some b → b.cl = true → a.cl = true ∧ held a.s = 0
def Qt (a a' : Pa) : Prop := a'.cl = a.cl ∧ (a.cl = true → held a.s = 0 → held a'.s = 0)
theorem Qt.refl (a : Pa) : Qt a a := ⟨rfl, fun _ h => h⟩
theorem Qt.le {a a' : Pa} (h : a'.cl = a.cl) (hh : held a'.s ≤ held a.s) : Qt a a' := ⟨h, fun _ e => by omega⟩
theorem PE.pw {l l' : List Pa} (h : PE l) (hl : l'.length = l.length) (hq : ∀ (i : Nat) (a a' : Pa), l[i]? = some a → l'[i]? = some a' → Qt a a') : PE l' := by
  intro i a' b' ha' hb' hcl
  have h1 := (List.getElem?_eq_some_iff.1 hb').1
  have ha : l[i]? = some l[i] := List.getElem?_eq_getElem (by omega)
  have hb : l[i + 1]? = some l[i + 1] := List.getElem?_eq_getElem (by omega)
  obtain ⟨q1, q2⟩ := hq i _ _ ha ha'
  obtain ⟨r1, r2⟩ := hq (i + 1) _ _ hb hb'
  rw [r1] at hcl
  obtain ⟨z1, z2⟩ := h i _ _ ha hb hcl
  exact ⟨by rw [q1]; exact z1, q2 z1 z2⟩
theorem PE.set {l : List Pa} (h : PE l) {i : Nat} {a a' : Pa} (ha : l[i]? = some a) (hq : Qt a a') : PE (l.set i a') := by
  refine h.pw (by simp) fun j b b' hb hb' => ?_
  by_cases e : i = j
  · subst e
    rw [ha] at hb
    rw [List.getElem?_set_self (List.getElem?_eq_some_iff.1 ha).1] at hb'
    cases hb; cases hb'
    exact hq
  · rw [List.getElem?_set_ne e, hb] at hb'
    cases hb'
    exact Qt.refl _
theorem PE.map {l : List Pa} (h : PE l) {f : Pa → Pa} (hf : ∀ a, Qt a (f a)) : PE (l.map f) := by
  refine h.pw (by simp) fun j b b' hb hb' => ?_
  rw [List.getElem?_map, hb] at hb'
  cases hb'
  exact hf b
theorem PE.lose {l : List Pa} (h : PE l) (n : Nat) : PE (loseL n l) := by
  refine h.pw (loseL_length _ _) fun j b b' hb hb' => ?_
  unfold loseL at hb'
  by_cases e : j < n
  · have hj := (List.getElem?_eq_some_iff.1 hb).1
    rw [List.getElem?_append_left (by simp; omega), List.getElem?_map, List.getElem?_take, if_pos e, hb] at hb'
    cases hb'
    exact ⟨rfl, fun _ _ => rfl⟩
  · have e2 : (loseL n l)[j]? = l[j]? := lose_get (by omega)
    unfold loseL at e2
    rw [e2, hb] at hb'
    cases hb'
    exact Qt.refl _
theorem PE.empty {l : List Pa} (h : PE l) : ∀ (i : Nat) (a : Pa), l[i]? = some a → a.cl = true → heldL (l.take i) = 0
  | 0, a, ha, hc => rfl
  | i + 1, a, ha, hc => by
    have h1 := (List.getElem?_eq_some_iff.1 ha).1
    have hb : l[i]? = some l[i] := List.getElem?_eq_getElem (by omega)
    obtain ⟨z1, z2⟩ := h i _ _ hb ha hc
    rw [heldL_succ hb, PE.empty h i _ hb z1, z2]
theorem qt_look (n : Int) (a : Pa) : Qt a (lookA n a) := ⟨rfl, fun _ h => h⟩
theorem take_le_held (s : Sg) (n m : Int) : held (takeS s n m) ≤ held s ∧ (held s = 0 → (takeB s n m).size = 0) := by
  have := held_take s n m
  constructor <;> omega
theorem force_empty (s : Sg) (n : Int) (b : ByteArray) (h : b.size = 0) : held (forceP s n b) = held s := by
  unfold forceP
  rw [if_pos (.inr h)]
  rfl
theorem PE.moveAt {l : List Pa} (h : PE l) (now : Int) (j : Nat) : PE (moveAt now j l) := by
  unfold Chain.moveAt
  split
  · rename_i a b ha hb
    split
    · have h1 : PE (l.set (j + 1) ⟨forceP (lookP b.s now) now (takeB a.s now (free (lookP b.s now))), b.cl⟩) := h.set hb ⟨rfl, fun hc hh => by
        have z := h j a b ha hb hc
        show held (forceP (lookP b.s now) now _) = 0
        rw [force_empty _ _ _ ((take_le_held a.s now _).2 z.2)]
        exact hh⟩
      have ha2 : (l.set (j + 1) ⟨forceP (lookP b.s now) now (takeB a.s now (free (lookP b.s now))), b.cl⟩)[j]? = some a := by rw [List.getElem?_set_ne (by omega)]; exact ha
      have h2 := h1.set (a' := ⟨takeS a.s now (free (lookP b.s now)), a.cl⟩) ha2 (Qt.le rfl (take_le_held _ _ _).1)
      rw [List.set_comm _ _ (by omega : j + 1 ≠ j)] at h2
      exact h2
    · exact h.set hb (qt_look now b)
  · exact h
theorem PE.moves {l : List Pa} (h : PE l) (now : Int) : ∀ m, PE (moves now m l)
  | 0 => h
  | m + 1 => (PE.moves h now m).moveAt now m
structure SafeI (x : Ch) : Prop where
  psf : AllL Psf x.l
  pe : PE x.l
  lost : x.lost = 0
theorem SafeI.shutAt (h : SafeI x) (now : Int) (j : Nat) : SafeI (shutAt now j x) := by
  refine ⟨AllL.shutAt loc_psf h.psf now j, ?_, ?_⟩
  · unfold Chain.shutAt
    split
    · rename_i a b ha hb
      split
      · rename_i hs
        have hpa : Psf a := h.psf.at_ ha
        have hz : a.cl = true ∧ held a.s = 0 := by
          rcases psf_look hpa now with e | ⟨_, e⟩
          · omega
          · exact e
        have h1 : PE (loseL (j + 1) (x.l.set j (lookA now a))) := (h.pe.set ha (qt_look now a)).lose _
        intro i c d hc hd hcl
        have hbj : (loseL (j + 1) (x.l.set j (lookA now a)))[j + 1]? = some b := by rw [lose_get (Nat.le_refl _), List.getElem?_set_ne (by omega)]; exact hb
        have hlen : j + 1 < (loseL (j + 1) (x.l.set j (lookA now a))).length := (List.getElem?_eq_some_iff.1 hbj).1
        have hc : ((loseL (j + 1) (x.l.set j (lookA now a))).set (j + 1) (endA now b))[i]? = some c := hc
        have hd : ((loseL (j + 1) (x.l.set j (lookA now a))).set (j + 1) (endA now b))[i + 1]? = some d := hd
        by_cases e1 : i = j
        · subst e1
          rw [List.getElem?_set_ne (by omega)] at hc
          unfold loseL at hc
          have hi2 : i < x.l.length := (List.getElem?_eq_some_iff.1 ha).1
          rw [List.getElem?_append_left (by simp; omega), List.getElem?_map, List.getElem?_take, if_pos (by omega), List.getElem?_set_self hi2] at hc
          cases hc
          exact ⟨hz.1, rfl⟩
        · by_cases e2 : i = j + 1
          · subst e2
            rw [List.getElem?_set_self hlen] at hc
            rw [List.getElem?_set_ne (by omega)] at hd
            cases hc
            have := h1 (j + 1) b d hbj hd hcl
            exact ⟨rfl, by show held (closeP b.s now) = 0; rw [held_close]; exact this.2⟩
          · rw [List.getElem?_set_ne (by omega)] at hc hd
            exact h1 i c d hc hd hcl
      · exact h.pe.set ha (qt_look now a)
    · exact h.pe
  · unfold Chain.shutAt
    split
    · rename_i a b ha hb
      split
      · rename_i hs
        have hpa : Psf a := h.psf.at_ ha
        have hz : a.cl = true ∧ held a.s = 0 := by
          rcases psf_look hpa now with e | ⟨_, e⟩
          · omega
          · exact e
        have h0 := h.pe.empty j a ha hz.1
        show x.lost + (heldL ((x.l.set j (lookA now a)).take (j + 1)) : Int) = 0
        have hi2 : j < x.l.length := (List.getElem?_eq_some_iff.1 ha).1
        have e : heldL ((x.l.set j (lookA now a)).take (j + 1)) = heldL ((x.l.set j (lookA now a)).take j) + held (lookA now a).s := heldL_succ (by rw [List.getElem?_set_self hi2])
        have e2 : (x.l.set j (lookA now a)).take j = x.l.take j := by rw [List.take_set_of_le (Nat.le_refl _)]
        have e3 : held (lookA now a).s = held a.s := rfl
        rw [e, e2, e3, h0, hz.2, h.lost]
        rfl
      · exact h.lost
    · exact h.lost
theorem SafeI.shuts (h : SafeI x) (now : Int) : ∀ m, SafeI (shuts now m x)
  | 0 => h
  | m + 1 => (SafeI.shuts h now m).shutAt now m
theorem safe_notBroken (h : AllL Psf x.l) (now : Int) : brokenB (x.l.map (lookA now)) = false := by
  unfold brokenB
  rw [List.any_map, List.any_eq_false]
  intro a ha
  have := psf_look (h a ha) now
  show ¬ ((lookP a.s now).state == 2) = true
  rcases this with e | ⟨e, _⟩ <;> rw [e] <;> decide
theorem SafeI.last (h : SafeI x) (now : Int) : SafeI (lastC now x) := by
  refine ⟨AllL.last loc_psf h.psf now, ?_, ?_⟩
  · unfold lastC
    split
    · rename_i a ha; exact h.pe.set ha (qt_look now a)
    · exact h.pe
  · unfold lastC
    split <;> exact h.lost
theorem SafeI.step (h : SafeI x) (now : Int) : SafeI (stepC now x) := by
  unfold stepC
  split
  · exact h
  rw [safe_notBroken h.psf now, if_neg (by decide)]
  exact SafeI.last (SafeI.shuts (x := { x with l := moves now (x.l.length - 1) (x.l.map (lookA now)) }) ⟨AllL.moves loc_psf (h.psf.map fun a => loc_psf.look a now) now _, (h.pe.map (qt_look now)).moves now _, h.lost⟩ now _) now
theorem put_closed {s : Sg} {n : Int} (b : ByteArray) (h : s.closed = true) : putS s n b = lookP s n := by unfold putS; rw [if_pos (.inr h)]
theorem qt_put {a : Pa} (h : Psf a) (n : Int) (b : ByteArray) : Qt a ⟨putS a.s n b, a.cl⟩ := ⟨rfl, fun hc hh => by
  show held (putS a.s n b) = 0
  rw [put_closed b (h.2.1.trans hc)]
  exact hh⟩
theorem qt_upd (a : Pa) (t : Tox) (n : Int) : Qt a ⟨updS a.s t n, a.cl⟩ := Qt.le rfl (by show held (updS a.s t n) ≤ _; unfold held; rw [(upd_c a.s t n).1]; exact Nat.le_refl _)
theorem PE.ins {l : List Pa} (h : PE l) {i : Nat} {b p : Pa} (hb : l[i]? = some b) (hp : p.cl = b.cl) (hh : held p.s = 0) : PE (l.take i ++ p :: l.drop i) := by
  have hi := (List.getElem?_eq_some_iff.1 hb).1
  intro m c d hc hd hcl
  rw [getIns l p i m (by omega)] at hc
  rw [getIns l p i (m + 1) (by omega)] at hd
  by_cases e1 : m + 1 < i
  · rw [if_pos (by omega)] at hc; rw [if_pos e1] at hd
    exact h m c d hc hd hcl
  · by_cases e2 : m + 1 = i
    · rw [if_pos (by omega)] at hc; rw [if_neg e1, if_pos e2] at hd
      cases hd
      rw [hp] at hcl
      exact h m c b hc (by rw [e2]; exact hb) hcl
    · by_cases e3 : m = i
      · rw [if_neg (by omega), if_pos e3] at hc; rw [if_neg e1, if_neg e2, show m + 1 - 1 = i by omega, hb] at hd
        cases hc; cases hd
        exact ⟨hp.trans hcl, hh⟩
      · rw [if_neg (by omega), if_neg e3] at hc; rw [if_neg e1, if_neg e2] at hd
        exact h (m - 1) c d hc (by rw [← hd]; congr 1; omega) hcl
theorem safe_rem (h : SafeI x) (i : Nat) (now : Int) : SafeI (remAt x i now) := by
  unfold remAt
  split
  · rename_i p q hp hq
    have hpp : Psf p := h.psf.at_ hp
    have hqq : Psf q := h.psf.at_ hq
    have hR := h.pe i p q hp hq
    have hcatp := held_cat p.s
    have hgone : ¬ (0 : Int) < (held p.s : Int) - ((held (forceP q.s now (cat p.s.c.1)) : Int) - held q.s) := by
      by_cases hl : (lookP q.s now).state = 0
      · have h1 := congrArg ByteArray.size (cat_force q.s now (cat p.s.c.1))
        rw [if_neg (fun e => e hl), ← held_cat, ByteArray.size_append, ← held_cat, ← hcatp] at h1
        omega
      · have hc : q.cl = true := by
          rcases psf_look hqq now with e | ⟨_, e, _⟩
          · exact absurd e hl
          · exact e
        have h1 := hR hc
        rw [force_no _ hl]
        have : held (lookP q.s now) = held q.s := rfl
        omega
    simp only [if_neg hgone]
    have hpl := (List.getElem?_eq_some_iff.1 hp).1
    have hql := (List.getElem?_eq_some_iff.1 hq).1
    obtain ⟨q1, hq1⟩ : ∃ q1 : Pa, q1 = ⟨forceP q.s now (cat p.s.c.1), q.cl⟩ := ⟨_, rfl⟩
    rw [← hq1]
    have hpq1 : Psf q1 := by rw [hq1]; exact loc_psf.force q now _ hqq
    obtain ⟨q2, hq2⟩ : ∃ q2 : Pa, q2 = if p.cl = true then endA now q1 else q1 := ⟨_, rfl⟩
    rw [← hq2]
    have hpq2 : Psf q2 := by
      rw [hq2]
      split
      · exact loc_psf.fin q1 now hpq1
      · exact hpq1
    have hc2 : q2.cl = true → p.cl = true := by
      rw [hq2]
      split
      · rename_i e; exact fun _ => e
      · intro e
        rw [hq1] at e
        exact (hR e).1
    have hc3 : q.cl = true → held q.s = 0 → q2.cl = true ∧ held q2.s = 0 := by
      intro e e2
      have hz := hR e
      have h1 : held q1.s = 0 := by
        rw [hq1]
        show held (forceP q.s now (cat p.s.c.1)) = 0
        rw [force_empty _ _ _ (by omega)]
        exact e2
      rw [hq2, if_pos hz.1]
      exact ⟨rfl, by show held (closeP q1.s now) = 0; rw [held_close]; exact h1⟩
    rw [List.set_set]
    refine ⟨AllL.erase (AllL.set (AllL.set h.psf _ (loc_psf.drain p hpp)) _ hpq2) _, ?_, h.lost⟩
    intro m c d hc hd hcl
    have hc : (((x.l.set i (drainA p)).set (i + 1) q2).eraseIdx i)[m]? = some c := hc
    have hd : (((x.l.set i (drainA p)).set (i + 1) q2).eraseIdx i)[m + 1]? = some d := hd
    rw [List.getElem?_eraseIdx] at hc hd
    have g1 : ∀ k, k ≠ i → k ≠ i + 1 → ((x.l.set i (drainA p)).set (i + 1) q2)[k]? = x.l[k]? := fun k k1 k2 => by rw [List.getElem?_set_ne (by omega), List.getElem?_set_ne (by omega)]
    have g2 : ((x.l.set i (drainA p)).set (i + 1) q2)[i + 1]? = some q2 := List.getElem?_set_self (by rw [List.length_set]; exact hql)
    by_cases e1 : m + 1 < i
    · rw [if_pos (by omega), g1 _ (by omega) (by omega)] at hc
      rw [if_pos e1, g1 _ (by omega) (by omega)] at hd
      exact h.pe m c d hc hd hcl
    · by_cases e2 : m + 1 = i
      · subst e2
        rw [if_pos (by omega), g1 _ (by omega) (by omega)] at hc
        rw [if_neg e1, g2] at hd
        cases hd
        exact h.pe m c p hc hp (hc2 hcl)
      · by_cases e3 : m = i
        · subst e3
          rw [if_neg (by omega), g2] at hc
          rw [if_neg e1, g1 _ (by omega) (by omega)] at hd
          cases hc
          have hz := h.pe (m + 1) q d hq hd hcl
          exact hc3 hz.1 hz.2
        · rw [if_neg (by omega), g1 _ (by omega) (by omega)] at hc
          rw [if_neg e1, g1 _ (by omega) (by omega)] at hd
          exact h.pe (m + 1) c d hc hd hcl
  · exact h
theorem safe_does (h : SafeI x) (o : Op) (h2 : o.kind ≠ 2) (h5 : o.kind = 5 → o.t.kind ≠ 4 ∧ o.t.kind ≠ 5 ∧ o.t.kind ≠ 6) : SafeI (doesC x o) := by
  have hp : AllL Psf (doesC x o).l := loc_does loc_psf o (fun k _ => psf_new _ _ _ _ (h5 k)) h.psf
  have key : PE (doesC x o).l ∧ (doesC x o).lost = 0 := by
    unfold doesC
    split
    · unfold putC
      split
      · exact ⟨h.pe, h.lost⟩
      split
      · rename_i a ha; exact ⟨h.pe.set ha (qt_put (h.psf.at_ ha) _ _), h.lost⟩
      · exact ⟨h.pe, h.lost⟩
    split
    · unfold closeC
      split
      · split
        · rename_i a ha
          refine ⟨fun i c d hc hd hcl => ?_, h.lost⟩
          have hc : (x.l.set 0 (endA o.now a))[i]? = some c := hc
          have hd : (x.l.set 0 (endA o.now a))[i + 1]? = some d := hd
          have hlen := (List.getElem?_eq_some_iff.1 ha).1
          rw [List.getElem?_set_ne (by omega)] at hd
          by_cases e : i = 0
          · subst e
            rw [List.getElem?_set_self hlen] at hc
            cases hc
            have := h.pe 0 a d ha hd hcl
            exact ⟨rfl, by show held (closeP a.s o.now) = 0; rw [held_close]; exact this.2⟩
          · rw [List.getElem?_set_ne (by omega)] at hc
            exact h.pe i c d hc hd hcl
        · exact ⟨h.pe, h.lost⟩
      · exact ⟨h.pe, h.lost⟩
    split
    · exact ⟨(h.step _).pe, (h.step _).lost⟩
    split
    · unfold takeC
      split
      · exact ⟨h.pe, h.lost⟩
      split
      · rename_i a ha; exact ⟨h.pe.set ha (Qt.le rfl (take_le_held _ _ _).1), h.lost⟩
      · exact ⟨h.pe, h.lost⟩
    split
    · unfold insC
      split
      · exact ⟨h.pe, h.lost⟩
      split
      · rename_i b hb
        have hn : held (newS o.t o.seed x.room o.now) = 0 := by
          have : (newS o.t o.seed x.room o.now).c = ([], 0) := by unfold newS; split <;> rfl
          unfold held; rw [this]; rfl
        refine ⟨h.pe.ins hb ?_ ?_, h.lost⟩
        · split
          · rename_i e; exact e.symm
          · rename_i e; simpa using e
        · split
          · show held (closeP _ _) = 0; rw [held_close]; exact hn
          · exact hn
      · exact ⟨h.pe, h.lost⟩
    split
    · unfold remC
      split
      · exact ⟨(safe_rem h _ _).pe, (safe_rem h _ _).lost⟩
      · exact ⟨h.pe, h.lost⟩
    split
    · unfold updC
      split
      · split
        · rename_i a ha; exact ⟨h.pe.set ha (qt_upd a _ _), h.lost⟩
        · exact ⟨h.pe, h.lost⟩
      · exact ⟨h.pe, h.lost⟩
    · exact ⟨h.pe, h.lost⟩
  exact ⟨hp, key.1, key.2⟩
theorem safe_state (h : SafeI x) (hs : x.state = 0 ∨ (x.state = 1 ∧ heldL x.l = 0)) (o : Op) (h2 : o.kind ≠ 2) (h5 : o.kind = 5 → o.t.kind ≠ 4 ∧ o.t.kind ≠ 5 ∧ o.t.kind ≠ 6) : (doesC x o).state = 0 ∨ ((doesC x o).state = 1 ∧ heldL (doesC x o).l = 0) := by
  obtain ⟨hm1, hm2⟩ := flow_massIO (flow_does x o)
  have hsd := safe_does h o h2 h5
  by_cases h3 : o.kind = 3
  · have e : doesC x o = stepC o.now x := by unfold doesC; rw [if_neg (by omega), if_neg (by omega), if_neg (by omega), if_pos h3]
    rw [e] at hsd ⊢
    rcases hs with h0 | ⟨h1, h1'⟩
    · unfold stepC at hsd ⊢
      rw [if_neg (fun q => q h0), safe_notBroken h.psf o.now, if_neg (by decide)] at hsd ⊢
      have h1 : SafeI (shuts o.now (x.l.length - 1) { x with l := moves o.now (x.l.length - 1) (x.l.map (lookA o.now)) }) :=
        SafeI.shuts (x := { x with l := moves o.now (x.l.length - 1) (x.l.map (lookA o.now)) }) ⟨AllL.moves loc_psf (h.psf.map fun a => loc_psf.look a o.now) o.now _, (h.pe.map (qt_look o.now)).moves o.now _, h.lost⟩ o.now _
      have h0' : (shuts o.now (x.l.length - 1) { x with l := moves o.now (x.l.length - 1) (x.l.map (lookA o.now)) }).state = 0 := by
        have : ∀ m (z : Ch), (shuts o.now m z).state = z.state := by
          intro m
          induction m with
          | zero => intro z; rfl
          | succ m ih =>
            intro z
            show (shutAt o.now m (shuts o.now m z)).state = _
            unfold shutAt
            split
            · split <;> exact ih z
            · exact ih z
        rw [this]; exact h0
      generalize shuts o.now (x.l.length - 1) { x with l := moves o.now (x.l.length - 1) (x.l.map (lookA o.now)) } = x1 at *
      unfold lastC
      split
      · rename_i a ha
        rcases psf_look (h1.psf.at_ ha) o.now with e0 | ⟨e1, e2, e3⟩
        · exact .inl e0
        · refine .inr ⟨e1, ?_⟩
          have hz := h1.pe.empty _ a ha e2
          show heldL (x1.l.set (x1.l.length - 1) (lookA o.now a)) = 0
          have hs2 := heldL_set ha (lookA o.now a)
          have hsum := heldL_succ ha
          have hlen := (List.getElem?_eq_some_iff.1 ha).1
          rw [show x1.l.length - 1 + 1 = x1.l.length by omega, List.take_length] at hsum
          have : held (lookA o.now a).s = held a.s := rfl
          omega
      · exact .inl h0'
    · have e2 : stepC o.now x = x := by unfold stepC; rw [if_pos (by omega)]
      rw [e2]
      exact .inr ⟨h1, h1'⟩
  · rw [state_else x o h2 h3]
    rcases hs with h0 | ⟨h1, h1'⟩
    · exact .inl h0
    · refine .inr ⟨h1, ?_⟩
      have hin : (inC x o).size = 0 := by
        rw [inC_size]
        split
        · exact putCN_shut _ _ _ (.inr (by omega))
        · rfl
      omega
end Go.Proofs.Ytoiibmcbjjnpbaa.Chain
namespace Go.Proofs.Ytoiibmcbjjnpbaa.Chain
open Go.RowKit Mem Tick Cargo Toxic Stage
set_option linter.unusedVariables false
set_option linter.unusedSimpArgs false
variable {x y : Ch} {M Q : Int}
theorem two_step (now : Int) (x : Ch) : (stepC now x).l.length = x.l.length := by
  have := congrArg List.length (kd_step now x)
  simpa using this
def KM (x : Ch) (i o : ByteArray) : Prop := KeepI x i o ∧ (i.size : Int) = o.size + heldL x.l + x.lost
theorem km_new (room now : Int) : KM (newC room now) ⟨#[]⟩ ⟨#[]⟩ := by
  refine ⟨keep_new room now, ?_⟩
  have hc : (newS noTox 0 room now).c = ([], 0) := by unfold newS; split <;> rfl
  show (0 : Int) = 0 + ((held (newS noTox 0 room now) + (held (newS noTox 0 room now) + 0) : Nat) : Int) + 0
  have : held (newS noTox 0 room now) = 0 := by unfold held; rw [hc]; rfl
  rw [this]
  rfl
theorem km_does {i o : ByteArray} (h : KM x i o) (p : Op) : KM (doesC x p) (i ++ inC x p) (o ++ (doesA x p).2.1) := by
  refine ⟨keep_does h.1 p, ?_⟩
  have := (flow_massIO (flow_does x p)).1
  have h2 := h.2
  simp only [ByteArray.size_append]
  omega
theorem km_put {i o : ByteArray} (h : KM x i o) (n : Int) (b : ByteArray) : KM (putC x n b) (i ++ b.extract 0 (putCN x n b)) o := by
  have := km_does h ⟨0, n, 0, b, ⟨⟨#[]⟩, 0, false, 0, 0, 0⟩, 0⟩
  have e : (doesA x ⟨0, n, 0, b, ⟨⟨#[]⟩, 0, false, 0, 0, 0⟩, 0⟩).2.1 = ⟨#[]⟩ := rfl
  rw [e, app_nil] at this
  exact this
theorem km_step {i o : ByteArray} (h : KM x i o) (n : Int) : KM (stepC n x) i o := by
  have := km_does h ⟨3, n, 0, ⟨#[]⟩, ⟨⟨#[]⟩, 0, false, 0, 0, 0⟩, 0⟩
  have e : (doesA x ⟨3, n, 0, ⟨#[]⟩, ⟨⟨#[]⟩, 0, false, 0, 0, 0⟩, 0⟩).2.1 = ⟨#[]⟩ := rfl
  have e2 : inC x ⟨3, n, 0, ⟨#[]⟩, ⟨⟨#[]⟩, 0, false, 0, 0, 0⟩, 0⟩ = ⟨#[]⟩ := rfl
  rw [e, e2, app_nil, app_nil] at this
  exact this
theorem km_close {i o : ByteArray} (h : KM x i o) (n : Int) : KM (closeC x n) i o := by
  have := km_does h ⟨1, n, 0, ⟨#[]⟩, ⟨⟨#[]⟩, 0, false, 0, 0, 0⟩, 0⟩
  have e : (doesA x ⟨1, n, 0, ⟨#[]⟩, ⟨⟨#[]⟩, 0, false, 0, 0, 0⟩, 0⟩).2.1 = ⟨#[]⟩ := rfl
  have e2 : inC x ⟨1, n, 0, ⟨#[]⟩, ⟨⟨#[]⟩, 0, false, 0, 0, 0⟩, 0⟩ = ⟨#[]⟩ := rfl
  rw [e, e2, app_nil, app_nil] at this
  exact this
theorem km_take {i o : ByteArray} (h : KM x i o) (n m : Int) : KM (takeC x n m) i (o ++ takeCB x n m) := by
  have := km_does h ⟨4, n, m, ⟨#[]⟩, ⟨⟨#[]⟩, 0, false, 0, 0, 0⟩, 0⟩
  have e2 : inC x ⟨4, n, m, ⟨#[]⟩, ⟨⟨#[]⟩, 0, false, 0, 0, 0⟩, 0⟩ = ⟨#[]⟩ := rfl
  rw [e2, app_nil] at this
  exact this
theorem km_same {i o : ByteArray} (h : KM x i o) (hh : heldL x.l = 0) (hl : x.lost = 0) : i = o := by
  have h1 := keep_pre h.1
  have h2 := h.2
  have e : o.size = i.size := by omega
  rw [← h1.2, e]
  apply ByteArray.ext
  simp
theorem take_state (x : Ch) (n m : Int) : (takeC x n m).state = x.state := by
  unfold takeC
  split
  · rfl
  split <;> rfl
end Go.Proofs.Ytoiibmcbjjnpbaa.Chain
namespace Go.Proofs.Ytoiibmcbjjnpbaa.Link
open Go.RowKit Mem Tick Cargo Toxic Stage Chain
set_option linter.unusedVariables false
set_option linter.unusedSimpArgs false
structure Lk where
  c : Ch
  names : List ByteArray
  up : Bool
  seed : Int
  drawn : Int
  sent : Int
  got : Int
  done : Bool
def sendK (x : Lk) (now : Int) (b : ByteArray) : Lk := { x with c := putC x.c now b, sent := x.sent + (putCN x.c now b : Int) }
def finishK (x : Lk) (now : Int) : Lk := { x with c := closeC x.c now }
def cutK (x : Lk) : Lk := { x with c := breakC x.c }
def stepX (x : Lk) (now win : Int) : Ch := stepC now (takeC (stepC now x.c) now win)
def stepB (x : Lk) (now win : Int) : ByteArray := takeCB (stepC now x.c) now win
def tellB (x : Lk) (now win : Int) : Bool := !(x.done || decide ((stepX x now win).state = 0))
def stepE (x : Lk) (now win : Int) : Int := if tellB x now win = true then (stepX x now win).state else 0
def stepK (x : Lk) (now win : Int) : Lk := { x with c := stepX x now win, got := x.got + (stepB x now win).size, done := x.done || tellB x now win }
def dieK (x : Lk) : Int := Ref02.streamI (Ref02.mixI (Ref02.stepI x.seed)) [x.drawn]
def drawK (x : Lk) (t : Tox) : Tox := if Ref02.hiI (dieK x) 100 < t.often then t else noTox
def addE (x : Lk) (t : Tox) : Int := if chk t ≠ 0 ∨ t.up ≠ x.up then chk t else if (idxN x.names t.name).isSome = true then 141 else if 8 ≤ x.names.length then 110 else 0
def addsB (x : Lk) (t : Tox) : Bool := decide (chk t = 0 ∧ t.up = x.up) && !(idxN x.names t.name).isSome && decide (x.names.length < 8)
def addK (x : Lk) (t : Tox) (now : Int) : Lk :=
  if addsB x t = true then { x with c := insC x.c x.names.length (drawK x t) (Ref02.stepI (dieK x)) now, names := x.names ++ [t.name], drawn := x.drawn + 1 } else x
def dropK (x : Lk) (n : ByteArray) (now : Int) : Lk := match idxN x.names n with | some i => { x with c := remC x.c i now, names := x.names.eraseIdx i } | none => x
def chgB (x : Lk) (t : Tox) : Option Nat := if chk t ≠ 0 ∨ t.up ≠ x.up then none else match idxN x.names t.name with
  | some i => if ((toxs x.c)[i]?).elim true passB = true then none else some i
  | none => none
def chgK (x : Lk) (t : Tox) (now : Int) : Lk := match chgB x t with | some i => { x with c := updC x.c i t now } | none => x
structure Op where
  kind : Int
  now : Int
  n : Int
  s : ByteArray
  t : Tox
def doesK (x : Lk) (o : Op) : Lk :=
  if o.kind = 0 then sendK x o.now o.s else if o.kind = 1 then finishK x o.now else if o.kind = 2 then cutK x else if o.kind = 3 then stepK x o.now o.n
  else if o.kind = 4 then addK x o.t o.now else if o.kind = 5 then dropK x o.s o.now else if o.kind = 6 then chgK x o.t o.now else x
structure OkK (x : Lk) (M Q : Int) : Prop where
  c : OkC x.c M Q
  n : x.names.length + 2 = x.c.l.length
  d0 : 0 ≤ x.drawn
  d1 : x.drawn ≤ 1000000000
  s0 : 0 ≤ x.seed
  s1 : x.seed < 18446744073709551616
  g0 : 0 ≤ x.got
  t0 : 0 ≤ x.sent
structure KK (x : Lk) (i o : ByteArray) : Prop where
  km : KM x.c i o
  sent : x.sent = i.size
  got : x.got = o.size
def inK (x : Lk) (o : Op) : ByteArray := if o.kind = 0 then o.s.extract 0 (putCN x.c o.now o.s) else ⟨#[]⟩
def outK (x : Lk) (o : Op) : ByteArray := if o.kind = 3 then stepB x o.now o.n else ⟨#[]⟩
theorem putN_size (x : Ch) (now : Int) (b : ByteArray) : (b.extract 0 (putCN x now b)).size = putCN x now b := ext_size _ _ (putCN_le _ _ _)
variable {x : Lk} {M Q : Int} {i o : ByteArray}
theorem km_ins {c : Ch} (h : KM c i o) (at_ : Int) (t : Tox) (seed now : Int) : KM (insC c at_ t seed now) i o := by
  have := km_does h ⟨5, now, at_, ⟨#[]⟩, t, seed⟩
  have e : (Chain.doesA c ⟨5, now, at_, ⟨#[]⟩, t, seed⟩).2.1 = ⟨#[]⟩ := rfl
  have e2 : inC c ⟨5, now, at_, ⟨#[]⟩, t, seed⟩ = ⟨#[]⟩ := rfl
  rw [e, e2, app_nil, app_nil] at this
  exact this
theorem km_rem {c : Ch} (h : KM c i o) (at_ now : Int) : KM (remC c at_ now) i o := by
  have := km_does h ⟨6, now, at_, ⟨#[]⟩, ⟨⟨#[]⟩, 0, false, 0, 0, 0⟩, 0⟩
  have e : (Chain.doesA c ⟨6, now, at_, ⟨#[]⟩, ⟨⟨#[]⟩, 0, false, 0, 0, 0⟩, 0⟩).2.1 = ⟨#[]⟩ := rfl
  have e2 : inC c ⟨6, now, at_, ⟨#[]⟩, ⟨⟨#[]⟩, 0, false, 0, 0, 0⟩, 0⟩ = ⟨#[]⟩ := rfl
  rw [e, e2, app_nil, app_nil] at this
  exact this
theorem km_upd {c : Ch} (h : KM c i o) (at_ : Int) (t : Tox) (now : Int) : KM (updC c at_ t now) i o := by
  have := km_does h ⟨7, now, at_, ⟨#[]⟩, t, 0⟩
  have e : (Chain.doesA c ⟨7, now, at_, ⟨#[]⟩, t, 0⟩).2.1 = ⟨#[]⟩ := rfl
  have e2 : inC c ⟨7, now, at_, ⟨#[]⟩, t, 0⟩ = ⟨#[]⟩ := rfl
  rw [e, e2, app_nil, app_nil] at this
  exact this
theorem km_break {c : Ch} (h : KM c i o) : KM (breakC c) i o := by
  have := km_does h ⟨2, 0, 0, ⟨#[]⟩, ⟨⟨#[]⟩, 0, false, 0, 0, 0⟩, 0⟩
  have e : (Chain.doesA c ⟨2, 0, 0, ⟨#[]⟩, ⟨⟨#[]⟩, 0, false, 0, 0, 0⟩, 0⟩).2.1 = ⟨#[]⟩ := rfl
  have e2 : inC c ⟨2, 0, 0, ⟨#[]⟩, ⟨⟨#[]⟩, 0, false, 0, 0, 0⟩, 0⟩ = ⟨#[]⟩ := rfl
  rw [e, e2, app_nil, app_nil] at this
  exact this
theorem KK.does (h : KK x i o) (p : Op) : KK (doesK x p) (i ++ inK x p) (o ++ outK x p) := by
  obtain ⟨h1, h2, h3⟩ := h
  unfold doesK inK outK
  by_cases k0 : p.kind = 0
  · rw [if_pos k0, if_pos k0, if_neg (by omega), app_nil]
    exact ⟨km_put h1 _ _, by show x.sent + _ = _; rw [ByteArray.size_append, putN_size]; omega, h3⟩
  rw [if_neg k0, if_neg k0, app_nil]
  by_cases k1 : p.kind = 1
  · rw [if_pos k1, if_neg (by omega), app_nil]
    exact ⟨km_close h1 _, h2, h3⟩
  rw [if_neg k1]
  by_cases k2 : p.kind = 2
  · rw [if_pos k2, if_neg (by omega), app_nil]
    exact ⟨km_break h1, h2, h3⟩
  rw [if_neg k2]
  by_cases k3 : p.kind = 3
  · rw [if_pos k3, if_pos k3]
    exact ⟨km_step (km_take (km_step h1 _) _ _) _, h2, by show x.got + _ = _; rw [ByteArray.size_append]; omega⟩
  rw [if_neg k3, if_neg k3, app_nil]
  by_cases k4 : p.kind = 4
  · rw [if_pos k4]
    unfold addK
    split
    · exact ⟨km_ins h1 _ _ _ _, h2, h3⟩
    · exact ⟨h1, h2, h3⟩
  rw [if_neg k4]
  by_cases k5 : p.kind = 5
  · rw [if_pos k5]
    unfold dropK
    split
    · exact ⟨km_rem h1 _ _, h2, h3⟩
    · exact ⟨h1, h2, h3⟩
  rw [if_neg k5]
  by_cases k6 : p.kind = 6
  · rw [if_pos k6]
    unfold chgK
    split
    · exact ⟨km_upd h1 _ _ _, h2, h3⟩
    · exact ⟨h1, h2, h3⟩
  rw [if_neg k6]
  exact ⟨h1, h2, h3⟩
end Go.Proofs.Ytoiibmcbjjnpbaa.Link
namespace Go.Proofs.Ytoiibmcbjjnpbaa.Link
open Go.RowKit Mem Tick Cargo Toxic Stage Chain
set_option linter.unusedVariables false
set_option linter.unusedSimpArgs false
variable {x : Lk} {M Q : Int}
theorem ins_len {c : Ch} (ho : OkC c M Q) (n : Nat) (hn : n + 2 = c.l.length) (h8 : n < 8) (t : Tox) (seed now : Int) (ht : passB t = true ∨ chk t = 0) : (insC c n t seed now).l.length = c.l.length + 1 := by
  have h2 := ho.two
  have hp : noPlace c (n : Int) = false := by
    unfold noPlace
    simp
    omega
  have he : newE t c.room = 0 := by
    unfold newE
    rw [if_neg (by rintro ⟨e1, e2⟩; rcases ht with e | e; rw [e] at e1; cases e1; exact e2 e)]
    rw [if_neg]
    have := ho.r0
    have := ho.r1
    simp [roomOk]
    omega
  have hE : insE c n t = 0 := by unfold insE; rw [hp]; exact he
  have hb : c.l[(n : Int).toNat + 1]? = some c.l[n + 1] := List.getElem?_eq_getElem (by omega)
  unfold insC
  rw [hE, if_neg (by decide), hb]
  show (c.l.take (n + 1) ++ _ :: c.l.drop (n + 1)).length = _
  rw [List.length_append, List.length_cons, List.length_take, List.length_drop]
  omega
theorem rem_len {c : Ch} (ho : OkC c M Q) (n : Nat) (hn : n + 2 < c.l.length) (now : Int) : (remC c n now).l.length = c.l.length - 1 := by
  have hb : isB c (n : Int) = true := by simp [isB]; omega
  unfold remC
  rw [hb, if_pos rfl]
  unfold remAt
  rw [show (n : Int).toNat = n from rfl, List.getElem?_eq_getElem (by omega : n + 1 < c.l.length), List.getElem?_eq_getElem (by omega : n + 1 + 1 < c.l.length)]
  dsimp only
  rw [List.length_eraseIdx, List.length_set]
  have e : ∀ (p : Prop) [Decidable p] (l : List Pa), (if p then loseL (n + 1) l else l).length = l.length := fun p _ l => by split; exact loseL_length _ _; rfl
  rw [e, List.length_set, List.length_set, if_pos (by omega)]
theorem upd_len (c : Ch) (at_ : Int) (t : Tox) (now : Int) : (updC c at_ t now).l.length = c.l.length := by
  unfold updC
  split
  · split
    · show (c.l.set _ _).length = _; rw [List.length_set]
    · rfl
  · rfl
theorem put_len (c : Ch) (n : Int) (b : ByteArray) : (putC c n b).l.length = c.l.length := by
  unfold putC
  split
  · rfl
  split
  · show (c.l.set _ _).length = _; rw [List.length_set]
  · rfl
theorem close_len (c : Ch) (n : Int) : (closeC c n).l.length = c.l.length := by
  unfold closeC
  split
  · split
    · show (c.l.set _ _).length = _; rw [List.length_set]
    · rfl
  · rfl
theorem break_len (c : Ch) : (breakC c).l.length = c.l.length := by
  have := congrArg List.length (kd_break c)
  simpa using this
theorem take_len (c : Ch) (n m : Int) : (takeC c n m).l.length = c.l.length := by
  unfold takeC
  split
  · rfl
  split
  · show (c.l.set _ _).length = _; rw [List.length_set]
  · rfl
theorem stepX_len (x : Lk) (n m : Int) : (stepX x n m).l.length = x.c.l.length := by
  unfold stepX
  rw [two_step, take_len, two_step]
theorem draw_ok (x : Lk) (t : Tox) (h : chk t = 0) : passB (drawK x t) = true ∨ chk (drawK x t) = 0 := by
  unfold drawK
  split
  · exact .inr h
  · exact .inl (by simp [passB, sameT, noTox])
theorem OkK.add (ho : OkK x M Q) (hQ : 0 ≤ Q) (hd : x.drawn + 1 ≤ 1000000000) (t : Tox) (now : Int) : OkK (addK x t now) M Q := by
  unfold addK
  split
  · rename_i h
    unfold addsB at h
    simp only [Bool.and_eq_true, decide_eq_true_eq] at h
    refine ⟨ok_ins ho.c hQ _ _ _ _, ?_, by have := ho.d0; show 0 ≤ x.drawn + 1; omega, hd, ho.s0, ho.s1, ho.g0, ho.t0⟩
    show (x.names ++ [t.name]).length + 2 = (insC x.c x.names.length (drawK x t) (Ref02.stepI (dieK x)) now).l.length
    rw [ins_len ho.c x.names.length ho.n h.2 _ _ _ (draw_ok x t h.1.1.1), List.length_append, List.length_singleton]
    have := ho.n
    omega
  · exact ho
theorem OkK.drop (ho : OkK x M Q) (n : ByteArray) (now : Int) : OkK (dropK x n now) M Q := by
  unfold dropK
  split
  · rename_i i hi
    have hl := idx_lt hi
    have hn := ho.n
    refine ⟨ok_rem ho.c _ _, ?_, ho.d0, ho.d1, ho.s0, ho.s1, ho.g0, ho.t0⟩
    show (x.names.eraseIdx i).length + 2 = (remC x.c (i : Int) now).l.length
    rw [rem_len ho.c i (by omega), List.length_eraseIdx, if_pos hl]
    omega
  · exact ho
theorem OkK.chg (ho : OkK x M Q) (t : Tox) (now : Int) : OkK (chgK x t now) M Q := by
  unfold chgK
  split
  · rename_i i hi
    exact ⟨ok_upd ho.c _ _ _, by show x.names.length + 2 = (updC x.c (i : Int) t now).l.length; rw [upd_len]; exact ho.n, ho.d0, ho.d1, ho.s0, ho.s1, ho.g0, ho.t0⟩
  · exact ho
theorem OkK.send (ho : OkK x M Q) (now : Int) (b : ByteArray) : OkK (sendK x now b) (M + b.size) Q :=
  ⟨ok_put ho.c now b, by show x.names.length + 2 = (putC x.c now b).l.length; rw [put_len]; exact ho.n, ho.d0, ho.d1, ho.s0, ho.s1, ho.g0, by have := ho.t0; show 0 ≤ x.sent + _; omega⟩
theorem OkK.step (ho : OkK x M Q) (now win : Int) : OkK (stepK x now win) M (Q + 30 * M) := by
  have hM : 0 ≤ M := by have := ho.c.held; omega
  exact ⟨(ok_step (ok_take (ok_step ho.c now) hM now win) now).more (Int.le_refl _) (by omega), by show x.names.length + 2 = (stepX x now win).l.length; rw [stepX_len]; exact ho.n, ho.d0, ho.d1, ho.s0, ho.s1, by have := ho.g0; show 0 ≤ x.got + _; omega, ho.t0⟩
theorem OkK.more (ho : OkK x M Q) {M' Q' : Int} (hM : M ≤ M') (hQ : Q ≤ Q') : OkK x M' Q' := ⟨ho.c.more hM hQ, ho.n, ho.d0, ho.d1, ho.s0, ho.s1, ho.g0, ho.t0⟩
theorem OkK.does (ho : OkK x M Q) (hQ : 0 ≤ Q) (hd : x.drawn + 1 ≤ 1000000000) (o : Op) : OkK (doesK x o) (M + o.s.size) (Q + 30 * (M + o.s.size)) := by
  have hM : 0 ≤ M := by have := ho.c.held; omega
  unfold doesK
  split
  · exact (ho.send _ _).more (by omega) (by omega)
  split
  · exact ⟨(ok_close ho.c _).more (by omega) (by omega), by show x.names.length + 2 = (closeC x.c _).l.length; rw [close_len]; exact ho.n, ho.d0, ho.d1, ho.s0, ho.s1, ho.g0, ho.t0⟩
  split
  · exact ⟨(ok_break ho.c).more (by omega) (by omega), by show x.names.length + 2 = (breakC x.c).l.length; rw [break_len]; exact ho.n, ho.d0, ho.d1, ho.s0, ho.s1, ho.g0, ho.t0⟩
  split
  · exact (ho.step _ _).more (by omega) (by omega)
  split
  · exact (ho.add hQ hd _ _).more (by omega) (by omega)
  split
  · exact (ho.drop _ _).more (by omega) (by omega)
  split
  · exact (ho.chg _ _).more (by omega) (by omega)
  · exact ho.more (by omega) (by omega)
end Go.Proofs.Ytoiibmcbjjnpbaa.Link
namespace Go.Proofs.Ytoiibmcbjjnpbaa.Link
open Go.RowKit Mem Tick Cargo Toxic Stage Chain
set_option maxRecDepth 100000
set_option linter.unusedVariables false
set_option linter.unusedSimpArgs false
def lcells (c : Nat) (v : Value) (x : Lk) : Array Value := #[ptr c, v, .bool x.up, .int .u64 x.seed, .int .i64 x.drawn, .int .i64 x.sent, .int .i64 x.got, .int .i64 0, .int .i64 0, .bool x.done]
abbrev lts : List TypeId := [48, 9, 73, 64, 68, 93, 116, 126]
def LKG (w : World) (F : Nat → Prop) (b : Nat) (x : Lk) (G : Nat → Prop) (c : Nat) (D : Lay) (v : Value) : Prop :=
  Blk w b 48 (lcells c v x) ∧ CH w G c D x.c ∧ D.cap ≤ 9223372036854775807 ∧ NV w v x.names ∧ ∀ j, F j ↔ (j = b ∨ G j ∨ v.ownBlock = some j)
def LK (w : World) (F : Nat → Prop) (b : Nat) (x : Lk) : Prop := ∃ G c D v, LKG w F b x G c D v
def LTu (w : World) (F : Nat → Prop) (w' : World) (b : Nat) (y : Lk) : Prop := ∃ F', LK w' F' b y ∧ Did F w w' ∧ Stem F F' w
variable {w w' w1 : World} {F : Nat → Prop} {b : Nat} {x y : Lk}
theorem LK.typed (h : LK w F b x) : Typed w F lts := by
  obtain ⟨G, c, D, v, hb, hc, hcap, hn, hF⟩ := h
  intro j hj
  rcases (hF j).1 hj with rfl | hg | hv
  · exact ⟨_, by simp, _, hb⟩
  · obtain ⟨t, ht, cs, hb⟩ := hc.typed j hg
    exact ⟨t, List.mem_cons_of_mem _ (List.mem_cons_of_mem _ ht), cs, hb⟩
  · obtain ⟨cs, hb⟩ := hn.typed hv
    exact ⟨_, by simp, _, hb⟩
theorem LK.lt (h : LK w F b x) {j : Nat} (hj : F j) : j < w.heap.size := h.typed.lt hj
theorem LK.off (h : LK w F b x) {g : Nat} {t : TypeId} {cs : Array Value} (hb : Blk w g t cs) (ht : t ∉ lts) : ¬ F g := h.typed.out hb ht
theorem LK.kept (h : LK w F b x) (hk : ∀ j, F j → w'.heap[j]? = w.heap[j]?) : LK w' F b x := by
  obtain ⟨G, c, D, v, hb, hc, hcap, hn, hF⟩ := h
  exact ⟨G, c, D, v, (hk _ ((hF _).2 (.inl rfl))).trans hb, hc.kept fun j hj => hk j ((hF j).2 (.inr (.inl hj))), hcap, hn.kept fun j hj => hk j ((hF j).2 (.inr (.inr hj))), hF⟩
theorem LK.below (h : LK w F b x) (hb : Below w.heap.size w w') : LK w' F b x := h.kept fun j hj => hb.block j (h.lt hj)
theorem LTu.refl (h : LK w F b x) : LTu w F w b x := ⟨F, h, Did.refl _ _, Stem.refl _ _⟩
theorem LTu.below (h : LK w F b x) (hb : Below w.heap.size w w') : LTu w F w' b x := ⟨F, h.below hb, Did.of_below hb, Stem.refl _ _⟩
theorem LTu.next {w2 : World} {F1 : Nat → Prop} (hD : Did F w w1) (hS : Stem F F1 w) (k : LTu w1 F1 w2 b y) : LTu w F w2 b y := by
  obtain ⟨F', hL, hd, hs⟩ := k
  exact ⟨F', hL, hD.trans hS hd, hS.trans hD.size hs⟩
theorem LTu.trans {w2 : World} {z : Lk} (h : LTu w F w1 b y) (k : ∀ F', LK w1 F' b y → LTu w1 F' w2 b z) : LTu w F w2 b z := by
  obtain ⟨F', hL, hd, hs⟩ := h
  exact LTu.next hd hs (k F' hL)
theorem LKG.chain {G : Nat → Prop} {c : Nat} {D : Lay} {v : Value} (h : LKG w F b x G c D v) {y : Ch} {D' : Lay} {G' : Nat → Prop} (hC : CH w' G' c D' y) (hd : Did G w w') (hs : Stem G G' w) (hcap : D'.cap ≤ 9223372036854775807) :
    LKG w' (fun j => j = b ∨ G' j ∨ v.ownBlock = some j) b { x with c := y } G' c D' v ∧ Did F w w' ∧ Stem F (fun j => j = b ∨ G' j ∨ v.ownBlock = some j) w := by
  obtain ⟨hb, hc, hcp, hn, hF⟩ := h
  have hbn : ¬ G b := hc.typed.out hb (by decide)
  have hvn : ∀ j, v.ownBlock = some j → ¬ G j := fun j hj => by
    obtain ⟨cs, hvb⟩ := hn.typed hj
    exact hc.typed.out hvb (by decide)
  refine ⟨⟨hb.did hd hbn, hC, hcap, hn.kept fun j hj => ?_, fun j => Iff.rfl⟩, hd.more fun j hj => .inl ((hF j).2 (.inr (.inl hj))), fun j hj => ?_⟩
  · obtain ⟨cs, hvb⟩ := hn.typed hj
    exact hd.block j hvb.lt (hvn j hj)
  · rcases hj with rfl | hj | hj
    · exact .inl ((hF _).2 (.inl rfl))
    · exact (hs j hj).imp (fun e => (hF j).2 (.inr (.inl e))) id
    · exact .inl ((hF j).2 (.inr (.inr hj)))
theorem LKG.turn {G : Nat → Prop} {c : Nat} {D : Lay} {v : Value} (h : LKG w F b x G c D v) {y : Ch} (hT : TuD w G w' c y) :
    ∃ F' G' D', LKG w' F' b { x with c := y } G' c D' v ∧ Did F w w' ∧ Stem F F' w := by
  obtain ⟨D', G', hC, hd, hs, hcap⟩ := hT
  obtain ⟨h1, h2, h3⟩ := h.chain hC hd hs hcap
  exact ⟨_, G', D', h1, h2, h3⟩
theorem LKG.cell {G : Nat → Prop} {c : Nat} {D : Lay} {v : Value} (h : LKG w F b x G c D v) (i : Nat) : w.cell? ⟨b, i, none⟩ = (lcells c v x)[i]? := h.1.cell i
theorem LKG.free {G : Nat → Prop} {c : Nat} {D : Lay} {v : Value} (h : LKG w F b x G c D v) (i : Nat) : w.frozen? ⟨b, i, none⟩ = false := h.1.free i
theorem LKG.set {G : Nat → Prop} {c : Nat} {D : Lay} {v : Value} (h : LKG w F b x G c D v) (i : Nat) (u : Value) (x' : Lk) (hs : (lcells c v x).setIfInBounds i u = lcells c v x') (hc : x'.c = x.c) (hn : x'.names = x.names) :
    LKG (w.setCell ⟨b, i, none⟩ u) F b x' G c D v ∧ F b := by
  obtain ⟨hb, hC, hcap, hN, hF⟩ := h
  have hb2 := hb.set_ i u
  rw [hs] at hb2
  refine ⟨⟨hb2, ?_, hcap, ?_, hF⟩, (hF b).2 (.inl rfl)⟩
  · rw [hc]
    exact hC.kept fun j hj => Below.heap_setCell _ _ _ j (by rintro rfl; exact hC.typed.out hb (by decide) hj)
  · rw [hn]
    refine hN.kept fun j hj => Below.heap_setCell _ _ _ j ?_
    rintro rfl
    obtain ⟨cs, hvb⟩ := hN.typed hj
    exact absurd (hb.ty hvb) (by decide)
theorem LKG.lk {G : Nat → Prop} {c : Nat} {D : Lay} {v : Value} (h : LKG w F b x G c D v) : LK w F b x := ⟨G, c, D, v, h⟩
theorem kDone_any (h : LK w F b x) :
    Calls Try.prog 14 #[ptr b] w fun e w' => e = .returned (.bool x.done) ∧ w = w' := by
  obtain ⟨G, c, D, v, h⟩ := h
  have c9 : w.cell? ⟨b, 9, none⟩ = some (.bool x.done) := (h.cell 9).trans rfl
  clear h
  go_enter Try.func14, Try.ntmps14
  go_wp2
  go_ret
  exact ⟨rfl, rfl⟩
theorem kFinish_any (h : LK w F b x) {M Q : Int} (ho : OkK x M Q) (now : Int) :
    Calls Try.prog 10 #[ptr b, .int .i64 now] w fun e w' => e = .returned (.tuple #[]) ∧ LTu w F w' b (finishK x now) := by
  obtain ⟨G, c, D, v, h⟩ := h
  have c0 : w.cell? ⟨b, 0, none⟩ = some (ptr c) := (h.cell 0).trans rfl
  have H := Lib.hid h
  have hh := Lib.hid (cClose_any h.2.1 ho.c.two ho.c.ten now)
  clear h ho
  go_enter Try.func10, Try.ntmps10
  go_wp2_with fail
  refine hh.out.mono ?_
  rintro e w1 ⟨rfl, hT⟩
  obtain ⟨F', G', D', h1, h2, h3⟩ := H.out.turn (hT.tuD H.out.2.2.1)
  have hr := Lib.hid (show LTu w F w1 b (finishK x now) from ⟨F', h1.lk, h2, h3⟩)
  clear hT h1 h2 h3 hh H
  go_wp2
  go_end0
  exact ⟨rfl, hr.out⟩
theorem w_sum (a : Int) (n : Nat) (h0 : 0 ≤ a) (h : a + n ≤ 1000000000) : wrap64 (a + (n : Int)) = a + (n : Int) := by unfold wrap64; omega
theorem kSend_any (h : LK w F b x) {M Q : Int} (ho : OkK x M Q) (now : Int) (A : Option Addr) (cap : Nat) (z : ByteArray) (hc : z.size ≤ cap) (hb : BS w A z) (hoff : BS.Off A F) (hM : M + z.size ≤ 1000000000) (hs : x.sent + z.size ≤ 1000000000) :
    Calls Try.prog 9 #[ptr b, .int .i64 now, .slice A z.size cap] w fun e w' => e = .returned (.int .i64 (putCN x.c now z)) ∧ LTu w F w' b (sendK x now z) := by
  obtain ⟨G, c, D, v, h⟩ := h
  have c0 : w.cell? ⟨b, 0, none⟩ = some (ptr c) := (h.cell 0).trans rfl
  have H := Lib.hid h
  have hw := Lib.hid (w_sum x.sent (putCN x.c now z) ho.t0 (by have := putCN_le x.c now z; omega))
  have hh := Lib.hid (cPut_any h.2.1 ho.c now A cap z hc hb (fun g o e hf => hoff g o e ((h.2.2.2.2 g).2 (.inr (.inl hf)))) hM)
  clear h ho hb hoff
  go_enter Try.func9, Try.ntmps9
  go_wp2_with fail
  refine hh.out.mono ?_
  rintro e w1 ⟨rfl, hT⟩
  obtain ⟨F', G', D', h1, h2, h3⟩ := H.out.turn (hT.tuD H.out.2.2.1)
  have d5 : w1.cell? ⟨b, 5, none⟩ = some (.int .i64 x.sent) := (h1.cell 5).trans rfl
  have f5 := h1.free 5
  have hset := h1.set 5 (.int .i64 (x.sent + (putCN x.c now z : Int))) (sendK x now z) rfl rfl rfl
  have hr := Lib.hid (show LTu w F (w1.setCell ⟨b, 5, none⟩ (.int .i64 (x.sent + (putCN x.c now z : Int)))) b (sendK x now z) from LTu.next h2 h3 ⟨F', hset.1.lk, (Did.refl F' w1).setCell (p := ⟨b, 5, none⟩) (.inl hset.2) _, Stem.refl _ _⟩)
  have hwo := hw.out
  clear hT h1 h2 h3 hh H hset hw
  go_wp2
  go_ret
  exact ⟨rfl, hr.out⟩
end Go.Proofs.Ytoiibmcbjjnpbaa.Link
namespace Go.Proofs.Ytoiibmcbjjnpbaa.Chain
open Go.RowKit Mem Tick Cargo Toxic Stage
set_option linter.unusedVariables false
set_option linter.unusedSimpArgs false
def dues : List Pc → List Int
  | [] => []
  | p :: r => List.replicate p.2.size p.1 ++ dues r
theorem dues_len : ∀ ps : List Pc, (dues ps).length = tot ps
  | [] => rfl
  | p :: r => by rw [dues, List.length_append, List.length_replicate, dues_len r]; rfl
theorem dues_app : ∀ a b : List Pc, dues (a ++ b) = dues a ++ dues b
  | [], b => rfl
  | p :: r, b => by rw [List.cons_append, dues, dues, dues_app r b, List.append_assoc]
theorem dues_join : ∀ (ps : List Pc) (t : Int) (s : ByteArray), joinedB ps t = true → dues (joinP ps s) = dues ps ++ List.replicate s.size t
  | [], t, s, h => by simp [joinedB] at h
  | [p], t, s, h => by
    have hp : p.1 = t := by simpa [joinedB] using h
    simp [joinP, dues, ByteArray.size_append, hp, List.replicate_append_replicate]
  | p :: q :: r, t, s, h => by
    have h' : joinedB (q :: r) t = true := by simpa [joinedB] using h
    rw [joinP, dues, dues_join (q :: r) t s h', ← List.append_assoc, ← dues]
theorem dues_add (ps : List Pc) (t : Int) (s : ByteArray) : dues (addP ps t s) = dues ps ++ List.replicate s.size t := by
  unfold addP
  split
  · rename_i h
    rw [isEmpty_size] at h
    have : s.size = 0 := by simpa using h
    rw [this]; simp
  split
  · rename_i h; exact dues_join ps t s h
  · rw [dues_app]; simp [dues]
theorem dues_take : ∀ (n : Nat) (ps : List Pc), n ≤ tot ps → dues (takeP n ps).2 = (dues ps).drop n
  | n, [], h => by simp [takeP, dues]
  | n, p :: r, h => by
    unfold takeP
    split
    · rename_i h0; subst h0; rfl
    split
    · rename_i h1
      rw [dues, dues, List.drop_append_of_le_length (by rw [List.length_replicate]; omega), List.drop_replicate, ByteArray.size_extract, Nat.min_self]
    · rename_i h1
      have h2 : n - p.2.size ≤ tot r := by simp only [tot] at h; omega
      rw [dues, List.drop_append, List.length_replicate, List.drop_eq_nil_of_le (by rw [List.length_replicate]; omega), List.nil_append]
      exact dues_take _ r h2
theorem dues_out {now : Int} : ∀ (n : Nat) (ps : List Pc), (ats ps).Pairwise (· < ·) → n ≤ rdy now ps → ∀ d ∈ (dues ps).take n, d ≤ now
  | n, [], h, hn, d, hd => by simp [dues] at hd
  | n, p :: r, h, hn, d, hd => by
    have h' := List.pairwise_cons.1 (show (p.1 :: ats r).Pairwise (· < ·) from h)
    by_cases e : p.1 ≤ now
    · rw [dues, List.take_append] at hd
      rcases List.mem_append.1 hd with hd | hd
      · have := List.eq_of_mem_replicate (List.mem_of_mem_take hd); omega
      · rw [List.length_replicate] at hd
        refine dues_out (n - p.2.size) r h'.2 ?_ d hd
        simp only [rdy, if_pos e] at hn
        omega
    · have hz : rdy now (p :: r) = 0 := rdy_no fun a ha => by
        rcases List.mem_cons.1 (show a ∈ p.1 :: ats r from ha) with rfl | h2
        · omega
        · have := h'.1 a h2; omega
      have : n = 0 := by omega
      subst this
      simp at hd
inductive F2 (b : Int) : List Int → List Int → Prop
  | nil : F2 b [] []
  | cons {t d : Int} {A D : List Int} : min (t + b) 1099511627776 ≤ d → F2 b A D → F2 b (t :: A) (d :: D)
variable {b : Int}
theorem F2.len {A D : List Int} (h : F2 b A D) : A.length = D.length := by
  induction h with
  | nil => rfl
  | cons _ _ ih => simp [ih]
theorem F2.app {A D A' D' : List Int} (h : F2 b A D) (h' : F2 b A' D') : F2 b (A ++ A') (D ++ D') := by
  induction h with
  | nil => exact h'
  | cons h1 _ ih => exact .cons h1 ih
theorem F2.cut : ∀ {A D : List Int} (n : Nat), F2 b A D → F2 b (A.take n) (D.take n) ∧ F2 b (A.drop n) (D.drop n)
  | _, _, 0, h => ⟨by simpa using F2.nil, by simpa using h⟩
  | [], [], n + 1, h => ⟨F2.nil, F2.nil⟩
  | t :: A, d :: D, n + 1, .cons h1 h2 => by
    have := F2.cut n h2
    exact ⟨.cons h1 this.1, this.2⟩
theorem F2.now {N : Int} : ∀ {A D : List Int}, F2 b A D → (∀ d ∈ D, d ≤ N) → ∀ t ∈ A, min (t + b) 1099511627776 ≤ N
  | _, _, .cons h1 h2, hd, t, ht => by
    rcases List.mem_cons.1 ht with rfl | ht
    · have := hd _ (List.mem_cons_self ..); omega
    · exact F2.now h2 (fun d hd' => hd d (List.mem_cons_of_mem _ hd')) t ht
theorem F2.new {d : Int} : ∀ {A : List Int}, (∀ t ∈ A, min (t + b) 1099511627776 ≤ d) → F2 b A (List.replicate A.length d)
  | [], _ => F2.nil
  | t :: A, h => .cons (h t (List.mem_cons_self ..)) (F2.new fun u hu => h u (List.mem_cons_of_mem _ hu))
/-! one stage -/
def lagT (t : Tox) : Int := if t.kind = 1 then nr (t.a - t.b) else 0
theorem nr_mono {a b : Int} (h : a ≤ b) : nr a ≤ nr b := by
  unfold nr
  repeat' split
  all_goals omega
theorem lagT_nn (t : Tox) : 0 ≤ lagT t := by unfold lagT; have := nr_bd (t.a - t.b); split <;> omega
theorem rangeN_ge (d lo hi : Int) : lo ≤ Ref02.rangeN d lo hi := by
  unfold Ref02.rangeN
  split
  · omega
  · have := Ref02.hiI_bd d (hi - lo + 1) (by omega); omega
theorem tox_ab {s : Sg} (h : Ok s) : 0 ≤ s.t.a ∧ s.t.a ≤ 1099511627776 ∧ 0 ≤ s.t.b ∧ s.t.b ≤ 1099511627776 := by
  have h2 : Ok { s with passed := 0 } := ⟨h.good, h.tox, h.r0, h.r1, h.k0, h.k1, h.bk, Int.le_refl 0⟩
  have hf := h2.fit (show (0 : Int) ≤ 1000000000 by decide)
  exact ⟨hf.a0, hf.a1, hf.b0, hf.b1⟩
theorem when_ge {s : Sg} (h : Ok s) : min (s.clock + lagT s.t) 1099511627776 ≤ whenP s ∧ 0 ≤ whenP s ∧ whenP s ≤ 1099511627776 := by
  have h0 := h.k0
  have h1 := h.k1
  unfold whenP lagT
  split
  · have hab := tox_ab h
    have hlo : loP s = s.t.a - s.t.b := by unfold loP wrap64; omega
    have hr := rangeN_ge s.dice (loP s) (hiP s)
    rw [hlo] at hr ⊢
    generalize Ref02.rangeN s.dice (s.t.a - s.t.b) (hiP s) = R at *
    have b1 := nr_bd (nr s.clock + nr R)
    unfold Tick.add
    refine ⟨?_, b1.1, b1.2⟩
    rw [nr_in h0 h1]
    have hm : nr (s.t.a - s.t.b) ≤ nr R := nr_mono hr
    have b2 := nr_bd R
    generalize nr (s.t.a - s.t.b) = x at *
    generalize nr R = y at *
    unfold nr
    repeat' split
    all_goals omega
  · omega
theorem add_nr (n : Int) : Tick.add n 0 = nr n := by
  have := nr_bd n
  unfold Tick.add
  rw [show nr 0 = 0 from rfl, Int.add_zero, nr_in this.1 this.2]
theorem clk_look (s : Sg) (n : Int) : (lookP s n).clock = max s.clock (nr n) := by
  show max s.clock (Tick.add n 0) = _
  rw [add_nr]
theorem force_dues {s : Sg} (h : Ok s) {N : Int} (hN : 0 ≤ N) (hN1 : N ≤ 1099511627776) (hc : s.clock ≤ N) (x : ByteArray) (hs : (lookP s N).state = 0) {A : List Int} (hA : A.length = x.size) {B : List Int} {b0 : Int} (hB : F2 (b0 + lagT s.t) B (dues s.c.1)) (hb : ∀ t ∈ A, min (t + b0) 1099511627776 ≤ N) :
    F2 (b0 + lagT s.t) (B ++ A) (dues (forceP s N x).c.1) ∧ (forceP s N x).clock = N := by
  have hl := lagT_nn s.t
  have hclk : (lookP s N).clock = N := by rw [clk_look, nr_in hN hN1]; omega
  unfold forceP
  by_cases hz : x.size = 0
  · rw [if_pos (.inr hz)]
    have : A = [] := List.length_eq_zero_iff.1 (by omega)
    subst this
    rw [List.append_nil]
    exact ⟨hB, hclk⟩
  rw [if_neg (by rintro (e | e); exact e hs; exact hz e)]
  refine ⟨?_, ?_⟩
  · show F2 _ _ (dues (addP (diceP (lookP s N)).c.1 (putAt (diceP (lookP s N)).c.2 (whenP (lookP s N))) x))
    rw [dues_add, dice_c]
    refine F2.app hB ?_
    rw [← hA]
    refine F2.new fun t ht => ?_
    have hw := when_ge (h.look N)
    rw [hclk] at hw
    have ht2 := hb t ht
    have hlt : lagT (lookP s N).t = lagT s.t := rfl
    rw [hlt] at hw
    unfold putAt
    rw [add_nr, nr_in hw.2.1 hw.2.2]
    omega
  · show (putIn (diceP (lookP s N)) (whenP (lookP s N)) x).clock = N
    have : (putIn (diceP (lookP s N)) (whenP (lookP s N)) x).clock = (diceP (lookP s N)).clock := rfl
    rw [this]
    unfold diceP
    split <;> exact hclk
theorem take_dues {s : Sg} (h : Ok s) {N : Int} (hN : 0 ≤ N) (hN1 : N ≤ 1099511627776) (hc : s.clock ≤ N) (m : Int) {B : List Int} {b0 : Int} (hB : F2 b0 B (dues s.c.1)) :
    ∃ A B', B = A ++ B' ∧ A.length = (takeB s N m).size ∧ (∀ t ∈ A, min (t + b0) 1099511627776 ≤ N) ∧ F2 b0 B' (dues (takeS s N m).c.1) := by
  have hclk : (lookP s N).clock = N := by rw [clk_look, nr_in hN hN1]; omega
  unfold takeB takeS
  by_cases hcn : (lookP s N).state ≠ 0 ∨ m < 1
  · rw [if_pos hcn, if_pos hcn]
    exact ⟨[], B, rfl, rfl, fun t ht => by simp at ht, hB⟩
  rw [if_neg hcn, if_neg hcn]
  have hB' : F2 b0 B (dues (lookP s N).c.1) := hB
  have hg := (h.look N).good
  generalize lookP s N = s1 at *
  have hw := wayS_c s1 (readyN s1 m)
  unfold takeOutB takeOut outN
  dsimp only
  rw [hw.1]
  generalize hn : takeN s1.clock (wayN s1 (readyN s1 m)) s1.c.1 = n
  have hle : n ≤ rdy s1.clock s1.c.1 := by rw [← hn]; unfold takeN; omega
  have hle2 := Nat.le_trans hle (rdy_le _ _)
  have hcut := hB'.cut n
  have hlen := hB'.len
  rw [dues_len] at hlen
  refine ⟨B.take n, B.drop n, (List.take_append_drop n B).symm, ?_, ?_, ?_⟩
  · rw [size_takeP _ _ hle2, List.length_take]; omega
  · refine hcut.1.now fun d hd => ?_
    have := dues_out n s1.c.1 hg.2.1 hle d hd
    rw [hclk] at this
    exact this
  · rw [dues_take _ _ hle2]; exact hcut.2
/-! a row of stages: the sum of their lags behind each -/
def lagS : List Pa → Int
  | [] => 0
  | a :: r => lagT a.s.t + lagS r
theorem lagS_app : ∀ a b : List Pa, lagS (a ++ b) = lagS a + lagS b
  | [], b => by simp [lagS]
  | p :: r, b => by simp only [List.cons_append, lagS, lagS_app r b]; omega
def LagL (N : Int) : Int → List Pa → List Int → Prop
  | b, [], A => A = []
  | b, a :: r, A => (Ok a.s ∧ a.s.clock ≤ N) ∧ ∃ A1 A2, A = A1 ++ A2 ∧ LagL N (b + lagT a.s.t) r A1 ∧ F2 (b + lagT a.s.t) A2 (dues a.s.c.1)
theorem LagL.app {N : Int} : ∀ (l1 l2 : List Pa) (b : Int) (A : List Int), LagL N b (l1 ++ l2) A ↔ ∃ A1 A2, A = A1 ++ A2 ∧ LagL N (b + lagS l1) l2 A1 ∧ LagL N b l1 A2
  | [], l2, b, A => by
    rw [List.nil_append, lagS, Int.add_zero]
    exact ⟨fun h => ⟨A, [], by simp, h, rfl⟩, fun ⟨A1, A2, e, h, h2⟩ => by
      have : A2 = [] := h2
      subst this; rw [List.append_nil] at e; subst e; exact h⟩
  | a :: r, l2, b, A => by
    rw [List.cons_append]
    have e : b + lagS (a :: r) = b + lagT a.s.t + lagS r := by rw [lagS]; omega
    rw [e]
    constructor
    · rintro ⟨ho, A1, A2, rfl, h1, h2⟩
      obtain ⟨B1, B2, rfl, h3, h4⟩ := (LagL.app r l2 _ A1).1 h1
      exact ⟨B1, B2 ++ A2, by rw [List.append_assoc], h3, ho, B2, A2, rfl, h4, h2⟩
    · rintro ⟨A1, A2, rfl, h1, ho, B1, B2, rfl, h3, h4⟩
      exact ⟨ho, A1 ++ B1, B2, by rw [List.append_assoc], (LagL.app r l2 _ _).2 ⟨A1, B1, rfl, h1, h3⟩, h4⟩
def Rp (N : Int) (a a' : Pa) : Prop := (Ok a.s → a.s.clock ≤ N → Ok a'.s ∧ a'.s.clock ≤ N) ∧ lagT a'.s.t = lagT a.s.t ∧ dues a'.s.c.1 = dues a.s.c.1
theorem LagL.one {N b : Int} {a a' : Pa} {r : List Pa} {A : List Int} (h : Rp N a a') (hl : LagL N b (a :: r) A) : LagL N b (a' :: r) A := by
  obtain ⟨ho, A1, A2, e, h1, h2⟩ := hl
  obtain ⟨g1, g2, g3⟩ := h
  refine ⟨g1 ho.1 ho.2, A1, A2, e, ?_, ?_⟩
  · rw [g2]; exact h1
  · rw [g2, g3]; exact h2
theorem LagL.set {N b : Int} {l : List Pa} {i : Nat} {a a' : Pa} {A : List Int} (hi : l[i]? = some a) (h : Rp N a a') (hl : LagL N b l A) : LagL N b (l.set i a') A := by
  rw [set_at hi]
  rw [split_at hi] at hl
  obtain ⟨A1, A2, e, h1, h2⟩ := (LagL.app _ _ _ _).1 hl
  exact (LagL.app _ _ _ _).2 ⟨A1, A2, e, h1.one h, h2⟩
theorem lagS_set {l : List Pa} {i : Nat} {a a' : Pa} (hi : l[i]? = some a) (h : lagT a'.s.t = lagT a.s.t) : lagS (l.set i a') = lagS l := by
  rw [set_at hi]
  conv => rhs; rw [split_at hi]
  rw [lagS_app, lagS_app, lagS, lagS, h]
/-! moves -/
theorem LagL.move {N b : Int} {a c : Pa} {r : List Pa} {A : List Int} (hN : 0 ≤ N) (hN1 : N ≤ 1099511627776) (hs : (lookP c.s N).state = 0) (m : Int) (h : LagL N b (a :: c :: r) A) :
    LagL N b (⟨takeS a.s N m, a.cl⟩ :: ⟨forceP c.s N (takeB a.s N m), c.cl⟩ :: r) A := by
  obtain ⟨ho, A1, A2, rfl, ⟨hoc, C1, C2, rfl, h1, h2⟩, h3⟩ := h
  obtain ⟨X, Y, rfl, hx, hxt, hy⟩ := take_dues ho.1 hN hN1 ho.2 m h3
  have ht : (takeS a.s N m).t = a.s.t := (take_st _ _ _).1
  have hft : (forceP c.s N (takeB a.s N m)).t = c.s.t := (force_st _ _ _).1
  have hf := force_dues hoc.1 hN hN1 hoc.2 (takeB a.s N m) hs hx h2 hxt
  refine ⟨⟨ho.1.take N m, ?_⟩, C1 ++ (C2 ++ X), Y, by simp only [List.append_assoc], ⟨⟨hoc.1.force _ _, ?_⟩, C1, C2 ++ X, rfl, ?_, ?_⟩, ?_⟩
  · show (takeS a.s N m).clock ≤ N
    rw [(take_st _ _ _).2.2.2.2, clk_look, nr_in hN hN1]; have := ho.2; omega
  · show (forceP c.s N (takeB a.s N m)).clock ≤ N
    rw [(force_st _ _ _).2.2.2.2, clk_look, nr_in hN hN1]; have := hoc.2; omega
  · show LagL N (b + lagT (takeS a.s N m).t + lagT (forceP c.s N (takeB a.s N m)).t) r C1
    rw [ht, hft]; exact h1
  · show F2 (b + lagT (takeS a.s N m).t + lagT (forceP c.s N (takeB a.s N m)).t) _ _
    rw [ht, hft]; exact hf.1
  · show F2 (b + lagT (takeS a.s N m).t) _ _
    rw [ht]; exact hy
/-! the chain: A are the ticks of all bytes that came, k of them are out. -/
def LagC (N : Int) (x : Ch) (A : List Int) (k : Nat) : Prop := ∃ B L, A.drop k = B ++ L ∧ LagL N 0 x.l B ∧ (L ≠ [] → x.shut = true)
theorem LagC.put {N : Int} {x : Ch} {A : List Int} {k : Nat} (hN : 0 ≤ N) (hN1 : N ≤ 1099511627776) (hk : k ≤ A.length) (h : LagC N x A k) (b : ByteArray) : LagC N (putC x N b) (A ++ List.replicate (putCN x N b) N) k ∧ lagS (putC x N b).l = lagS x.l := by
  unfold putC putCN
  by_cases hc : x.shut = true ∨ x.state ≠ 0
  · rw [if_pos hc, if_pos hc]; simp; exact h
  rw [if_neg hc, if_neg hc]
  split
  · rename_i a ha
    obtain ⟨B, L, g1, g2, g3⟩ := h
    have hL : L = [] := Decidable.byContradiction fun e => hc (.inl (g3 e))
    subst hL
    rw [List.append_nil] at g1
    have hst := (put_st a.s N b).1
    refine ⟨⟨B ++ List.replicate (putN a.s N b) N, [], ?_, ?_, fun e => absurd rfl e⟩, lagS_set ha (by show lagT (putS a.s N b).t = _; rw [hst])⟩
    · rw [List.drop_append_of_le_length hk, g1, List.append_nil]
    · have h0 : x.l = a :: x.l.drop 1 := by
        cases hl : x.l with
        | nil => rw [hl] at ha; cases ha
        | cons p r => rw [hl] at ha; simp at ha; subst ha; rfl
      have hset : x.l.set 0 ⟨putS a.s N b, a.cl⟩ = ⟨putS a.s N b, a.cl⟩ :: x.l.drop 1 := by
        rw [h0]; rfl
      show LagL N 0 (x.l.set 0 ⟨putS a.s N b, a.cl⟩) _
      rw [hset]
      rw [h0] at g2
      obtain ⟨ho, A1, A2, rfl, q1, q2⟩ := g2
      refine ⟨⟨ho.1.put _ _, ?_⟩, A1, A2 ++ List.replicate (putN a.s N b) N, by rw [List.append_assoc], ?_, ?_⟩
      · show (putS a.s N b).clock ≤ N
        rw [(put_st _ _ _).2.2.2.2, clk_look, nr_in hN hN1]; have := ho.2; omega
      · show LagL N (0 + lagT (putS a.s N b).t) _ _
        rw [hst]; exact q1
      · show F2 (0 + lagT (putS a.s N b).t) _ (dues (putS a.s N b).c.1)
        rw [hst]
        unfold putS putN
        split
        · simp only [List.replicate_zero, List.append_nil]; exact q2
        · rename_i hno
          have hs0 : (lookP a.s N).state = 0 := Decidable.byContradiction fun e => hno (.inl e)
          have hclk : (lookP a.s N).clock ≤ N := by rw [clk_look, nr_in hN hN1]; have := ho.2; omega
          refine (force_dues (ho.1.look N) hN hN1 hclk _ (by rw [look_idem]; exact hs0) ?_ q2 ?_).1
          · rw [List.length_replicate, ByteArray.size_extract]; have := room_le (lookP a.s N) b; omega
          · intro t ht
            have := List.eq_of_mem_replicate ht
            omega
  · simp; exact h
theorem LagC.take {N : Int} {x : Ch} {A : List Int} {k : Nat} (hN : 0 ≤ N) (hN1 : N ≤ 1099511627776) (h : LagC N x A k) (m : Int) :
    LagC N (takeC x N m) A (k + (takeCB x N m).size) ∧ lagS (takeC x N m).l = lagS x.l ∧ (∀ j t, k ≤ j → j < k + (takeCB x N m).size → A[j]? = some t → min (t + lagS x.l) 1099511627776 ≤ N) ∧ (0 < (takeCB x N m).size → k + (takeCB x N m).size ≤ A.length) := by
  unfold takeC takeCB
  by_cases h2 : x.state = 2
  · rw [if_pos h2, if_pos h2]
    exact ⟨h, rfl, fun j t h1 h2 => absurd (show j < k from h2) (by omega), fun h => absurd (show (0 : Nat) < 0 from h) (by omega)⟩
  rw [if_neg h2, if_neg h2]
  split
  · rename_i a ha
    obtain ⟨B, L, g1, g2, g3⟩ := h
    have hlen := (List.getElem?_eq_some_iff.1 ha).1
    have hd : x.l.drop (x.l.length - 1 + 1) = [] := List.drop_eq_nil_of_le (by omega)
    have hsp := split_at ha
    rw [hd] at hsp
    have hst := (take_st a.s N m).1
    rw [hsp] at g2
    obtain ⟨A1, A2, rfl, ⟨ho, C1, C2, rfl, q1, q2⟩, q3⟩ := (LagL.app _ _ _ _).1 g2
    have hC1 : C1 = [] := q1
    subst hC1
    obtain ⟨X, Y, rfl, hx, hxt, hy⟩ := take_dues ho.1 hN hN1 ho.2 m q2
    have hls : lagS x.l = lagS (x.l.take (x.l.length - 1)) + lagT a.s.t := by
      conv => lhs; rw [hsp]
      rw [lagS_app, lagS, lagS]; omega
    simp only [List.nil_append, List.append_assoc] at g1
    have hdl := congrArg List.length g1
    simp only [List.length_drop, List.length_append] at hdl
    refine ⟨⟨Y ++ A2, L, ?_, ?_, g3⟩, lagS_set ha (by show lagT (takeS a.s N m).t = _; rw [hst]), ?_, ?_⟩
    · rw [← List.drop_drop, g1, List.append_assoc, ← hx, List.drop_left]
    · show LagL N 0 (x.l.set (x.l.length - 1) ⟨takeS a.s N m, a.cl⟩) _
      rw [set_at ha, hd]
      refine (LagL.app _ _ _ _).2 ⟨Y, A2, rfl, ⟨⟨ho.1.take N m, ?_⟩, [], Y, rfl, rfl, ?_⟩, q3⟩
      · show (takeS a.s N m).clock ≤ N
        rw [(take_st _ _ _).2.2.2.2, clk_look, nr_in hN hN1]; have := ho.2; omega
      · show F2 (0 + lagS (x.l.take (x.l.length - 1)) + lagT (takeS a.s N m).t) _ _
        rw [hst]; exact hy
    · intro j t hj1 hj2 hjt
      rw [← hx] at hj2
      have h3 : (A.drop k)[j - k]? = some t := by rw [List.getElem?_drop, show k + (j - k) = j from by omega]; exact hjt
      rw [g1, List.getElem?_append_left (by omega)] at h3
      have := hxt t (List.mem_of_getElem? h3)
      rw [hls]
      omega
    · intro h0
      rw [← hx] at h0 ⊢
      omega
  · exact ⟨h, rfl, fun j t h1 h2 => absurd (show j < k from h2) (by omega), fun h => absurd (show (0 : Nat) < 0 from h) (by omega)⟩
end Go.Proofs.Ytoiibmcbjjnpbaa.Chain
namespace Go.Proofs.Ytoiibmcbjjnpbaa.Link
open Go.RowKit Mem Tick Cargo Toxic Stage Chain
open Go.Proofs.YtoiibmcbjjnpbaaW.PrintLast Pu
set_option maxRecDepth 100000
set_option linter.unusedVariables false
set_option linter.unusedSimpArgs false
variable {w w' w1 : World} {F : Nat → Prop} {b : Nat} {x y : Lk} {M Q : Int}
theorem bs_lt {A : Option Addr} {s : ByteArray} (h : BS w A s) (hp : 0 < s.size) {g o : Nat} (e : A = some ⟨g, o, none⟩) : g < w.heap.size := by
  obtain ⟨g', o', e', hb⟩ := h hp
  rw [e] at e'
  injection e' with e'
  injection e' with e1 e2
  subst e1
  exact World.block_lt_of_cell? w _ (hb 0 hp)
set_option maxHeartbeats 1000000 in
theorem kStep_any (h : LK w F b x) (ho : OkK x M Q) (hM : M ≤ 1000000) (hQ : Q ≤ 100000000) (hg : x.got + M ≤ 1000000000) (now win : Int) :
    Calls Try.prog 11 #[ptr b, .int .i64 now, .int .i64 win] w fun e w' => ∃ A cap F', e = .returned (.tuple #[.slice A (stepB x now win).size cap, .int .i64 (stepE x now win)]) ∧ BS w' A (stepB x now win) ∧ Newly w A ∧ LK w' F' b (stepK x now win) ∧ Did F w w' ∧ Stem F F' w ∧ (0 < (stepB x now win).size → BS.Off A F') := by
  obtain ⟨G, c, D, v, h⟩ := h
  have c0 : w.cell? ⟨b, 0, none⟩ = some (ptr c) := (h.cell 0).trans rfl
  have H := Lib.hid h
  have ho1 := Lib.hid (ok_step ho.c now)
  have hM0 : 0 ≤ M := by have := ho.c.held; omega
  have ho2 := Lib.hid (ok_take ho1.out hM0 now win)
  have hsz : (stepB x now win).size ≤ M.toNat := by
    have h1 := (flow_massIO (flow_take (stepC now x.c) now win)).1
    have h2 := ho1.out.lost
    have h3 := ho2.out.lost0
    have e0 : ((⟨#[]⟩ : ByteArray).size : Int) = 0 := rfl
    rw [e0] at h1
    unfold stepB
    omega
  have hw := Lib.hid (w_sum x.got (stepB x now win).size ho.g0 (by omega))
  have hblt : b < w.heap.size := h.1.lt
  have hvlt := Lib.hid (show ∀ j, v.ownBlock = some j → j < w.heap.size from fun j hj => by obtain ⟨cs, hvb⟩ := h.2.2.2.1.typed hj; exact hvb.lt)
  have hh := Lib.hid (cStep_any h.2.1 ho.c (by omega) (by omega) now)
  clear h ho
  go_enter Try.func11, Try.ntmps11
  go_wp2_with fail
  refine hh.out.mono ?_
  rintro e w1 ⟨rfl, hT⟩
  obtain ⟨F1, G1, D1, h1, hd1, hs1⟩ := H.out.turn (hT.tuD H.out.2.2.1)
  have c1 : w1.cell? ⟨b, 0, none⟩ = some (ptr c) := (h1.cell 0).trans rfl
  have hh2 := Lib.hid (cTake_any h1.2.1 ho1.out now win (by omega) (by omega))
  have H1 := Lib.hid h1
  have hDS1 := Lib.hid (And.intro hd1 hs1)
  have hsz1 : w.heap.size ≤ w1.heap.size := hd1.size
  clear hT h1 hd1 hs1 hh H c0
  go_wp2_with fail
  refine hh2.out.mono ?_
  rintro e w2 ⟨A2, cp2, rfl, hb2, hn2, G2, hC2, hd2, hs2, hsub⟩
  have hoff := Lib.hid (show BS.Off A2 G2 from fun g o e hg => by have := hn2 g o e; have := H1.out.2.1.lt (hsub g hg); omega)
  have hne := Lib.hid (show ∀ g, (∃ o, A2 = some ⟨g, o, none⟩) → g ≠ b from fun g ⟨o, e⟩ hgb => by have := hn2 g o e; omega)
  have hnw := Lib.hid (show Newly w A2 from fun g o e => Nat.le_trans hsz1 (hn2 g o e))
  obtain ⟨h2, hd2', hs2'⟩ := H1.out.chain hC2 hd2 hs2 H1.out.2.2.1
  have hDS2 := Lib.hid (And.intro (hDS1.out.1.trans hDS1.out.2 hd2') (hDS1.out.2.trans hDS1.out.1.size hs2'))
  have d6 : w2.cell? ⟨b, 6, none⟩ = some (.int .i64 x.got) := (h2.cell 6).trans rfl
  have f6 := h2.free 6
  have c2 : w2.cell? ⟨b, 0, none⟩ = some (ptr c) := (h2.cell 0).trans rfl
  have hset := h2.set 6 (.int .i64 (x.got + ((stepB x now win).size : Int))) { x with c := takeC (stepC now x.c) now win, got := x.got + ((stepB x now win).size : Int) } rfl rfl rfl
  have hb3 := Lib.hid (show BS (w2.setCell ⟨b, 6, none⟩ (.int .i64 (x.got + ((stepB x now win).size : Int)))) A2 (stepB x now win) from BS.kept hb2 fun g hg _ => Below.heap_setCell _ _ _ g (hne.out g hg))
  have hDS3 := Lib.hid (show Did F w (w2.setCell ⟨b, 6, none⟩ (.int .i64 (x.got + ((stepB x now win).size : Int)))) from hDS2.out.1.trans hDS2.out.2 ((Did.refl _ w2).setCell (p := ⟨b, 6, none⟩) (.inl hset.2) _))
  have H3 := Lib.hid hset.1
  have hh3 := Lib.hid (cStep_any hset.1.2.1 ho2.out (by omega) (by omega) now)
  have hwo := hw.out
  have esz : (takeCB (stepC now x.c) now win).size = (stepB x now win).size := rfl
  rw [esz]
  clear hb2 hn2 hC2 hd2 hs2 hsub h2 hd2' hs2' hset hh2 H1 hDS1 c1 hw esz
  generalize hBB : stepB x now win = B at *
  go_wp2_with fail
  refine hh3.out.mono ?_
  rintro e w4 ⟨rfl, hT4⟩
  have hb4 : BS w4 A2 B := by
    obtain ⟨G4, _, hd4, _⟩ := hT4
    exact BS_did hb3.out hoff.out hd4
  obtain ⟨F4, G4, D4, h4, hd4, hs4⟩ := H3.out.turn (hT4.tuD H3.out.2.2.1)
  have d9 : w4.cell? ⟨b, 9, none⟩ = some (.bool x.done) := (h4.cell 9).trans rfl
  have f9 := h4.free 9
  have hDS4 := Lib.hid (And.intro (hDS3.out.trans hDS2.out.2 hd4) (hDS2.out.2.trans hDS2.out.1.size (fun j hj => by rcases hs4 j hj with q | q; exact .inl q; exact .inr (by simpa using q))))
  have H4 := Lib.hid h4
  have hoff4 := Lib.hid (show 0 < B.size → BS.Off A2 F4 from fun hp g o e hg => by
    have hlt := bs_lt hb3.out hp e
    rcases hs4 g hg with q | q
    · rcases q with q | q | q
      · exact hne.out g ⟨o, e⟩ q
      · exact hoff.out g o e q
      · have := hvlt.out g q
        have := hnw.out g o e
        omega
    · exact absurd hlt (Nat.not_lt.2 q))
  have hst : (stepC now (takeC (stepC now x.c) now win)).state = (stepX x now win).state := rfl
  have hb4' := Lib.hid hb4
  rw [hst]
  clear hb4 hT4 h4 hd4 hs4 hh3 H3 hDS3 hb3 hoff d6 f6 c2 hst hDS2 hwo
  cases hdn : x.done with
  | true =>
    have e1 : stepE x now win = 0 := by unfold stepE tellB; rw [hdn]; rfl
    have e2 : stepK x now win = { x with c := stepX x now win, got := x.got + (B.size : Int), done := x.done } := by unfold stepK; rw [hBB, hdn]; rfl
    have hr := Lib.hid (show LK w4 F4 b (stepK x now win) ∧ Did F w w4 ∧ Stem F F4 w from ⟨by rw [e2]; exact H4.out.lk, hDS4.out.1, hDS4.out.2⟩)
    rw [hdn] at d9
    have e1' := Lib.hid e1
    clear e1 e2 H4 hDS4 hdn
    go_wp2
    go_ret2
    exact ⟨A2, cp2, F4, by (rw [e1'.out, hBB]; try rfl), by rw [hBB]; exact hb4'.out, hnw.out, hr.out.1, hr.out.2.1, hr.out.2.2, by rw [hBB]; exact hoff4.out⟩
  | false =>
    rw [hdn] at d9
    by_cases hz : (stepX x now win).state = 0
    · have e1 : stepE x now win = 0 := by unfold stepE tellB; rw [hdn, hz]; rfl
      have e2 : stepK x now win = { x with c := stepX x now win, got := x.got + (B.size : Int), done := x.done } := by unfold stepK tellB; rw [hBB, hdn, hz]; rfl
      have hr := Lib.hid (show LK w4 F4 b (stepK x now win) ∧ Did F w w4 ∧ Stem F F4 w from ⟨by rw [e2]; exact H4.out.lk, hDS4.out.1, hDS4.out.2⟩)
      rw [hz]
      have e1' := Lib.hid e1
      clear e1 e2 H4 hDS4 hdn hz
      go_wp2
      go_ret2
      exact ⟨A2, cp2, F4, by (rw [e1'.out, hBB]; try rfl), by rw [hBB]; exact hb4'.out, hnw.out, hr.out.1, hr.out.2.1, hr.out.2.2, by rw [hBB]; exact hoff4.out⟩
    · have tb : tellB x now win = true := by unfold tellB; rw [hdn]; simp [hz]
      have e1 : stepE x now win = (stepX x now win).state := by unfold stepE; rw [if_pos tb]
      have e2 : stepK x now win = { x with c := stepX x now win, got := x.got + (B.size : Int), done := true } := by unfold stepK; rw [hBB, tb]; simp
      have hset := H4.out.set 9 (.bool true) (stepK x now win) (by rw [e2]; rfl) (by rw [e2]; rfl) (by rw [e2])
      have hr := Lib.hid (show LK (w4.setCell ⟨b, 9, none⟩ (.bool true)) F4 b (stepK x now win) ∧ Did F w (w4.setCell ⟨b, 9, none⟩ (.bool true)) ∧ Stem F F4 w from ⟨hset.1.lk, hDS4.out.1.trans hDS4.out.2 ((Did.refl F4 w4).setCell (p := ⟨b, 9, none⟩) (.inl hset.2) _), hDS4.out.2⟩)
      have hb5 := Lib.hid (show BS (w4.setCell ⟨b, 9, none⟩ (.bool true)) A2 B from BS.kept hb4'.out fun g hg _ => Below.heap_setCell _ _ _ g (hne.out g hg))
      have tz : ((stepX x now win).state == 0) = false := by simpa using hz
      have e1' := Lib.hid e1
      clear e1 e2 H4 hDS4 hdn hz tb hset
      go_wp2
      go_ret2
      exact ⟨A2, cp2, F4, by (rw [e1'.out, hBB]; try rfl), by rw [hBB]; exact hb5.out, hnw.out, hr.out.1, hr.out.2.1, hr.out.2.2, by rw [hBB]; exact hoff4.out⟩
theorem LKG.names {G : Nat → Prop} {c : Nat} {D : Lay} {v v' : Value} {l' : List ByteArray} (h : LKG w F b x G c D v) (hd : Did (fun j => v.ownBlock = some j) w w1) (hN : NV w1 v' l') (hv : ∀ j, v'.ownBlock = some j → v.ownBlock = some j ∨ w.heap.size ≤ j) :
    LKG (w1.setCell ⟨b, 1, none⟩ v') (fun j => j = b ∨ G j ∨ v'.ownBlock = some j) b { x with names := l' } G c D v' ∧ Did F w (w1.setCell ⟨b, 1, none⟩ v') ∧ Stem F (fun j => j = b ∨ G j ∨ v'.ownBlock = some j) w := by
  obtain ⟨hb, hC, hcap, hNV, hF⟩ := h
  have hbv : ¬ (v.ownBlock = some b) := fun e => by
    obtain ⟨cs, hvb⟩ := hNV.typed e
    exact absurd (hb.ty hvb) (by decide)
  have hGv : ∀ j, G j → ¬ (v.ownBlock = some j) := fun j hj e => by
    obtain ⟨cs, hvb⟩ := hNV.typed e
    exact hC.typed.out hvb (by decide) hj
  have hb1 : Blk w1 b 48 (lcells c v x) := hb.did hd hbv
  refine ⟨⟨?_, ?_, hcap, ?_, fun j => Iff.rfl⟩, ?_, fun j hj => ?_⟩
  · have := hb1.set_ 1 v'
    unfold lcells at this ⊢
    simpa using this
  · refine hC.kept fun j hj => (Below.heap_setCell _ _ _ j ?_).trans (hd.block j (hC.lt hj) (hGv j hj))
    rintro rfl
    exact hC.typed.out hb (by decide) hj
  · refine hN.kept fun j hj => Below.heap_setCell _ _ _ j ?_
    rintro rfl
    obtain ⟨cs, hvb⟩ := hN.typed hj
    exact absurd (hb1.ty hvb) (by decide)
  · exact (hd.more fun j hj => .inl ((hF j).2 (.inr (.inr hj)))).setCell (p := ⟨b, 1, none⟩) (.inl ((hF b).2 (.inl rfl))) _
  · rcases hj with rfl | hj | hj
    · exact .inl ((hF _).2 (.inl rfl))
    · exact .inl ((hF j).2 (.inr (.inl hj)))
    · exact (hv j hj).imp (fun e => (hF j).2 (.inr (.inr e))) id
def countsV (x : Lk) : Value := .agg #[.int .i64 x.sent, .int .i64 x.got, .int .i64 (heldL x.c.l), .int .i64 x.c.lost]
theorem kCounts_any (h : LK w F b x) (ho : OkK x M Q) (hM : M ≤ 1000000000) :
    Calls Try.prog 15 #[ptr b] w fun e w' => e = .returned (countsV x) ∧ Below w.heap.size w w' := by
  obtain ⟨G, c, D, v, h⟩ := h
  have hb := h.1
  have hlt := hb.lt
  obtain ⟨W, hW⟩ : ∃ W, W = (w.alloc (.cells #[.int .i64 0, .int .i64 0, .int .i64 0, .int .i64 0] 46)).alloc (.cells #[.int .i64 x.sent, .int .i64 x.got, .int .i64 0, .int .i64 0] 46) := ⟨_, rfl⟩
  have hB : Below w.heap.size w W := by rw [hW]; exact ((Below.refl _ _).alloc (Nat.le_refl _) _).alloc (by simp) _
  have hR : Blk W w.heap.size 46 #[.int .i64 0, .int .i64 0, .int .i64 0, .int .i64 0] := by rw [hW]; exact (Blk.new w _ _).below ((Below.refl _ _).alloc (Nat.le_refl _) _)
  have hX : Blk W (w.heap.size + 1) 46 #[.int .i64 x.sent, .int .i64 x.got, .int .i64 0, .int .i64 0] := by
    rw [hW]
    have := Blk.new (w.alloc (.cells #[.int .i64 0, .int .i64 0, .int .i64 0, .int .i64 0] 46)) 46 #[.int .i64 x.sent, .int .i64 x.got, .int .i64 0, .int .i64 0]
    simpa using this
  have HC := Lib.hid (show CH W G c D x.c from h.2.1.below hB)
  have hh := ho.c.held
  have hhe := Lib.hid (cHeld_any HC.out.drew (by omega) ho.c.ten)
  have c0 : w.cell? ⟨b, 0, none⟩ = some (ptr c) := (hb.cell 0).trans rfl
  have c5 : w.cell? ⟨b, 5, none⟩ = some (.int .i64 x.sent) := (hb.cell 5).trans rfl
  have c6 : w.cell? ⟨b, 6, none⟩ = some (.int .i64 x.got) := (hb.cell 6).trans rfl
  have c7 : w.cell? ⟨b, 7, none⟩ = some (.int .i64 0) := (hb.cell 7).trans rfl
  have c8 : w.cell? ⟨b, 8, none⟩ = some (.int .i64 0) := (hb.cell 8).trans rfl
  have hne : b ≠ w.heap.size := by omega
  have hWB := Lib.hid hB
  have hR' := Lib.hid hR
  have hX' := Lib.hid hX
  have d0 : W.cell? ⟨b, 0, none⟩ = some (ptr c) := (hb.below hB |>.cell 0).trans rfl
  clear h ho hB hR hX hh hb
  go_enter Try.func15, Try.ntmps15
  go_upto_region 2 with (fail)
  rw [← hW]
  clear hW c0 c5 c6 c7 c8 hne
  refine start_ (n := 14) (S := fun w' => w'.cell? ⟨b, 0, none⟩ = some (ptr c)) (ds := [11, 13]) (m_ 14 0) (by kernel_rfl) rfl (by kernel_rfl) (d0) (fun hHeld => ?_)
  refine pu_ 0 (some 8) (m_ 14 1) rfl rfl (by kernel_rfl) (fun _ _ _ h => h) (by rfl) (by intro w'; go_simp; with_reducible rfl) (by simp only [Act.put, List.setIfInBounds_toArray, List.set_cons_zero, List.set_cons_succ, i64_w, i32_w]; rfl) ?_
  refine pu_ 1 (some 9) (m_ 14 3) rfl rfl (by kernel_rfl) (fun _ _ _ h => h) (by rfl) (by intro w'; go_simp; with_reducible rfl) (by simp only [Act.put, List.setIfInBounds_toArray, List.set_cons_zero, List.set_cons_succ, i64_w, i32_w]; rfl) ?_
  refine pu_ 2 (some 10) (m_ 14 7) rfl rfl (by kernel_rfl) (fun _ _ _ h => h) (by rfl) (by intro w'; go_simp; with_reducible rfl) (by simp only [Act.put, List.setIfInBounds_toArray, List.set_cons_zero, List.set_cons_succ, i64_w, i32_w]; rfl) ?_
  refine pu_ 5 (some 13) (m_ 14 39) rfl rfl (by kernel_rfl) (fun _ _ _ h => h) (by rfl) (by intro w'; go_simp; with_reducible rfl) (by simp only [Act.put, List.setIfInBounds_toArray, List.set_cons_zero, List.set_cons_succ, i64_w, i32_w]; rfl) ?_
  refine pu_ 6 (some 14) (m_ 14 103) rfl rfl (by kernel_rfl) (fun _ _ _ h => h) (by rfl) (by intro w'; go_simp; with_reducible rfl) (by simp only [Act.put, List.setIfInBounds_toArray, List.set_cons_zero, List.set_cons_succ, i64_w, i32_w]; rfl) ?_
  refine pu_ 7 (some 15) (m_ 14 231) rfl rfl (by kernel_rfl) (fun _ _ _ h => h) (by rfl) (by intro w'; go_simp; with_reducible rfl) (by simp only [Act.put, List.setIfInBounds_toArray, List.set_cons_zero, List.set_cons_succ, i64_w, i32_w]; rfl) ?_
  refine tk_ 3 (some 11) (m_ 14 239) rfl rfl (by kernel_rfl) (fun _ _ _ h => h) (by rfl) (by intro w' s0; go_simp; with_reducible rfl) hHeld (by simp only [Act.put, List.setIfInBounds_toArray, List.set_cons_zero, List.set_cons_succ, i64_w, i32_w]; rfl) ?_
  refine tk_ 8 (some 16) (m_ 14 495) rfl rfl (by kernel_rfl) (fun _ _ _ h => h) (by rfl) (by intro w' s0; go_simp; with_reducible rfl) hHeld (by simp only [Act.put, List.setIfInBounds_toArray, List.set_cons_zero, List.set_cons_succ, i64_w, i32_w]; rfl) ?_
  refine one_ (i := 4) (N := some 12) (m_ 14 511) rfl rfl (by kernel_rfl) (by decide) (fun K hK => ?_)
  refine goes_ Try.func27 (by kernel_rfl) rfl #[ptr c] (by rfl) rfl rfl (by simp only [List.map_toArray, List.map_cons, List.map_nil]; rfl) ?_
  with_reducible refine (hhe.out).mono ?_
  rintro e w2 ⟨rfl, hB⟩
  have hB2 := Lib.hid (below_drew hB)
  have j0 := bcells (below_drew hB) d0
  have hX2 := hX'.out.below (below_drew hB)
  have x2 : w2.cell? ⟨w.heap.size + 1, 2, none⟩ = some (.int .i64 0) := (hX2.cell 2).trans rfl
  have x3 : w2.cell? ⟨w.heap.size + 1, 3, none⟩ = some (.int .i64 0) := (hX2.cell 3).trans rfl
  have g2 := hX2.free 2
  have g3 := hX2.free 3
  clear hB hX2
  refine ⟨_, rfl, ?_⟩
  refine hK.out _ _ (j0) (fun hHeld => ?_)
  clear hK K
  refine norm_ (a' := ?_) ?_ ?_
  rotate_left
  · show Act.put _ (some 12) _ = _
    simp only [Act.put, List.setIfInBounds_toArray, List.set_cons_zero, List.set_cons_succ, i64_w, i32_w]
    rfl
  refine pu_ 10 (some 18) (m_ 14 1535) rfl rfl (by kernel_rfl) (fun _ _ _ h => h) (by rfl) (by intro w'; go_simp; with_reducible rfl) (by simp only [Act.put, List.setIfInBounds_toArray, List.set_cons_zero, List.set_cons_succ, i64_w, i32_w]; rfl) ?_
  refine one_ (i := 9) (N := some 17) (m_ 14 2047) rfl rfl (by kernel_rfl) (by decide) (fun K hK => ?_)
  refine goes_ Try.func28 (by kernel_rfl) rfl #[ptr c] (by rfl) rfl rfl (by simp only [List.map_toArray, List.map_cons, List.map_nil]; rfl) ?_
  with_reducible refine ((cLost_any (HC.out.below hB2.out))).mono ?_
  rintro e w3 ⟨rfl, rfl⟩
  refine ⟨_, rfl, ?_⟩
  refine hK.out _ _ (j0) (fun hHeld => ?_)
  clear hK K
  refine norm_ (a' := ?_) ?_ ?_
  rotate_left
  · show Act.put _ (some 17) _ = _
    simp only [Act.put, List.setIfInBounds_toArray, List.set_cons_zero, List.set_cons_succ, i64_w, i32_w]
    rfl
  refine last_ (i := 11) (N := none) (m_ 14 4095) rfl rfl (by kernel_rfl) (by decide) (fun K hK => ?_)
  refine skip_ (w1 := ?_) (by rfl) rfl ?_ ?_
  rotate_left
  · go_simp
    rfl
  refine hK.out _ _ ?_
  clear hK K
  refine pu_ 12 (some 19) (m_ 14 8191) rfl rfl (by kernel_rfl) (fun _ _ _ h => h) (by rfl) (by intro w'; go_simp; with_reducible rfl) (by simp only [Act.put, List.setIfInBounds_toArray, List.set_cons_zero, List.set_cons_succ, i64_w, i32_w]; rfl) ?_
  refine last_ (i := 13) (N := none) (m_ 14 16383) rfl rfl (by kernel_rfl) (by decide) (fun K hK => ?_)
  refine skip_ (w1 := ?_) (by rfl) rfl ?_ ?_
  rotate_left
  · go_simp
    rfl
  refine hK.out _ _ ?_
  clear hK K
  refine done_ (by kernel_rfl) ?_
  have hBw := Lib.hid (hWB.out.trans (hB2.out.mono hWB.out.size))
  have hX3 := Lib.hid (((hX'.out.below hB2.out).set_ 2 (.int .i64 (heldL x.c.l))).set_ 3 (.int .i64 x.c.lost))
  have hR3 := Lib.hid (((hR'.out.below hB2.out).far (p := ⟨w.heap.size + 1, 2, none⟩) (by show w.heap.size ≠ w.heap.size + 1; omega) (.int .i64 (heldL x.c.l))).far (p := ⟨w.heap.size + 1, 3, none⟩) (by show w.heap.size ≠ w.heap.size + 1; omega) (.int .i64 x.c.lost))
  have hB3 := Lib.hid ((hBw.out.setCell (p := ⟨w.heap.size + 1, 2, none⟩) (by show w.heap.size ≤ w.heap.size + 1; omega) (.int .i64 (heldL x.c.l))).setCell (p := ⟨w.heap.size + 1, 3, none⟩) (by show w.heap.size ≤ w.heap.size + 1; omega) (.int .i64 x.c.lost))
  clear hHeld d0 j0 x2 x3 g2 g3 hX' hR' hBw hB2 hhe HC hWB
  generalize hw3 : (w2.setCell ⟨w.heap.size + 1, 2, none⟩ (.int .i64 (heldL x.c.l))).setCell ⟨w.heap.size + 1, 3, none⟩ (.int .i64 x.c.lost) = w3 at *
  have y0 : w3.cell? ⟨w.heap.size + 1, 0, none⟩ = some (.int .i64 x.sent) := (hX3.out.cell 0).trans rfl
  have y1 : w3.cell? ⟨w.heap.size + 1, 1, none⟩ = some (.int .i64 x.got) := (hX3.out.cell 1).trans rfl
  have y2 : w3.cell? ⟨w.heap.size + 1, 2, none⟩ = some (.int .i64 (heldL x.c.l)) := (hX3.out.cell 2).trans rfl
  have y3 : w3.cell? ⟨w.heap.size + 1, 3, none⟩ = some (.int .i64 x.c.lost) := (hX3.out.cell 3).trans rfl
  have z0 : w3.cell? ⟨w.heap.size, 0, none⟩ = some (.int .i64 0) := (hR3.out.cell 0).trans rfl
  have z1 : w3.cell? ⟨w.heap.size, 1, none⟩ = some (.int .i64 0) := (hR3.out.cell 1).trans rfl
  have z2 : w3.cell? ⟨w.heap.size, 2, none⟩ = some (.int .i64 0) := (hR3.out.cell 2).trans rfl
  have z3 : w3.cell? ⟨w.heap.size, 3, none⟩ = some (.int .i64 0) := (hR3.out.cell 3).trans rfl
  have g0 := hR3.out.free 0
  have g1 := hR3.out.free 1
  have g2 := hR3.out.free 2
  have g3 := hR3.out.free 3
  clear hw3
  go_wp2
  refine bodyPost_ret (v := countsV x) (results_cell_row Try.results15 _ _ w.heap.size 46 _ (0, 0) _ rfl ((((hR3.out.set_ 0 (.int .i64 x.sent)).set_ 1 (.int .i64 x.got)).set_ 2 (.int .i64 (heldL x.c.l))).set_ 3 (.int .i64 x.c.lost)) Try.underlying46 rfl (by kernel_rfl)) rfl ⟨rfl, ?_⟩
  exact (((hB3.out.setCell (p := ⟨w.heap.size, 0, none⟩) (Nat.le_refl _) _).setCell (p := ⟨w.heap.size, 1, none⟩) (Nat.le_refl _) _).setCell (p := ⟨w.heap.size, 2, none⟩) (Nat.le_refl _) _).setCell (p := ⟨w.heap.size, 3, none⟩) (Nat.le_refl _) _
end Go.Proofs.Ytoiibmcbjjnpbaa.Link
namespace Go.Proofs.Ytoiibmcbjjnpbaa.Link
open Go.RowKit Mem Tick Cargo Toxic Stage Chain
open Go.Proofs.YtoiibmcbjjnpbaaW.PrintLast Pu
set_option maxRecDepth 100000
set_option linter.unusedVariables false
set_option linter.unusedSimpArgs false
variable {w w' w1 : World} {F : Nat → Prop} {b : Nat} {x y : Lk} {M Q : Int}
theorem LKG.below {G : Nat → Prop} {c : Nat} {D : Lay} {v : Value} (h : LKG w F b x G c D v) (hb : Below w.heap.size w w') : LKG w' F b x G c D v := by
  have hl : ∀ j, F j → j < w.heap.size := fun j hj => h.lk.lt hj
  obtain ⟨h1, h2, h3, h4, h5⟩ := h
  exact ⟨h1.below hb, h2.below hb, h3, h4.kept fun j hj => hb.block j (hl j ((h5 j).2 (.inr (.inr hj)))), h5⟩
theorem LKG.far {G : Nat → Prop} {c : Nat} {D : Lay} {v : Value} (h : LKG w F b x G c D v) {g : Nat} {t : TypeId} {cs : Array Value} (hb : Blk w g t cs) (ht : t ∉ lts) (i : Nat) (u : Value) : LKG (w.setCell ⟨g, i, none⟩ u) F b x G c D v := by
  have hg : ¬ F g := h.lk.off hb ht
  obtain ⟨h1, h2, h3, h4, h5⟩ := h
  have hk : ∀ j, F j → (w.setCell ⟨g, i, none⟩ u).heap[j]? = w.heap[j]? := fun j hj => Below.heap_setCell w ⟨g, i, none⟩ u j fun e => hg (by have e' : j = g := e; exact e' ▸ hj)
  exact ⟨(hk b ((h5 b).2 (.inl rfl))).trans h1, h2.kept fun j hj => hk j ((h5 j).2 (.inr (.inl hj))), h3, h4.kept fun j hj => hk j ((h5 j).2 (.inr (.inr hj))), h5⟩
theorem add_bad (h : LK w F b x) (ho : OkK x M Q) (t0 : ByteArray) (t1 : Int) (t2 : Bool) (t3 t4 t5 now : Int) (hz : chk ⟨t0, t1, t2, t3, t4, t5⟩ ≠ 0) :
    Calls Try.prog 19 #[ptr b, .agg #[.string t0, .int .i64 t1, .bool t2, .int .i64 t3, .int .i64 t4, .int .i64 t5], .int .i64 now] w fun e w' => e = .returned (.int .i64 (chk ⟨t0, t1, t2, t3, t4, t5⟩)) ∧ LTu w F w' b (x) := by
  obtain ⟨G, c, D, v, h⟩ := h
  have hb0 := (Below.refl w.heap.size w).alloc (Nat.le_refl _) (.cells #[.string t0, .int .i64 t1, .bool t2, .int .i64 t3, .int .i64 t4, .int .i64 t5] 29)
  have hblk0 := Lib.hid (Blk.new w 29 #[.string t0, .int .i64 t1, .bool t2, .int .i64 t3, .int .i64 t4, .int .i64 t5])
  have hH0 := Lib.hid (h.below hb0)
  have hb0' := Lib.hid hb0
  have hck := Lib.hid (fun wy => check_any ⟨t0, t1, t2, t3, t4, t5⟩ wy)
  have hl0 := Lib.hid (LTu.refl h.lk)
  have tz : (chk ⟨t0, t1, t2, t3, t4, t5⟩ != 0) = true := by simpa using hz
  clear h hb0 ho hz
  generalize hE : chk ⟨t0, t1, t2, t3, t4, t5⟩ = E at *
  go_enter Try.func19, Try.ntmps19
  go_wp2_with fail
  refine (hck.out _).mono ?_
  rintro e w1 ⟨rfl, hB⟩
  have hB1 := Lib.hid (bw_below hb0'.out hB)
  have hblk1 := Lib.hid (hblk0.out.below hB)
  have hH1 := Lib.hid (hH0.out.below hB)
  clear hB hb0' hblk0 hH0 hck
  go_wp2
  refine start_ (n := 12) (S := fun w' => True) (ds := []) (m_ 12 0) (by kernel_rfl) rfl (by kernel_rfl) trivial (fun hHeld => ?_)
  refine pu_ 0 (some 14) (m_ 12 1) rfl rfl (by kernel_rfl) (fun _ _ _ h => h) (by rfl) (by intro w'; go_simp; with_reducible rfl) (by simp only [Act.put, List.setIfInBounds_toArray, List.set_cons_zero, List.set_cons_succ, i64_w, i32_w]; rfl) ?_
  refine pu_ 1 (some 15) (m_ 12 3) rfl rfl (by kernel_rfl) (fun _ _ _ h => h) (by rfl) (by intro w'; go_simp; with_reducible rfl) (by simp only [Act.put, List.setIfInBounds_toArray, List.set_cons_zero, List.set_cons_succ, i64_w, i32_w]; rfl) ?_
  refine pu_ 2 (some 16) (m_ 12 7) rfl rfl (by kernel_rfl) (fun _ _ _ h => h) (by rfl) (by intro w'; go_simp; with_reducible rfl) (by simp only [Act.put, List.setIfInBounds_toArray, List.set_cons_zero, List.set_cons_succ, i64_w, i32_w]; rfl) ?_
  refine po_ 3 (some 17) (m_ 12 15) rfl rfl (by kernel_rfl) (fun _ _ _ h => h) (by rfl) (by simp only [Act.put, List.setIfInBounds_toArray, List.set_cons_zero, List.set_cons_succ, i64_w, i32_w]; rfl) ?_
  refine po_ 4 (some 18) (m_ 12 31) rfl rfl (by kernel_rfl) (fun _ _ _ h => h) (by rfl) (by simp only [Act.put, List.setIfInBounds_toArray, List.set_cons_zero, List.set_cons_succ, i64_w, i32_w]; rfl) ?_
  refine po_ 5 (some 19) (m_ 12 63) rfl rfl (by kernel_rfl) (fun _ _ _ h => h) (by rfl) (by simp only [Act.put, List.setIfInBounds_toArray, List.set_cons_zero, List.set_cons_succ, i64_w, i32_w]; rfl) ?_
  refine po_ 6 (some 20) (m_ 12 127) rfl rfl (by kernel_rfl) (fun _ _ _ h => h) (by rfl) (by simp only [Act.put, List.setIfInBounds_toArray, List.set_cons_zero, List.set_cons_succ, i64_w, i32_w]; rfl) ?_
  refine po_ 7 (some 21) (m_ 12 255) rfl rfl (by kernel_rfl) (fun _ _ _ h => h) (by rfl) (by simp only [Act.put, List.setIfInBounds_toArray, List.set_cons_zero, List.set_cons_succ, i64_w, i32_w]; rfl) ?_
  refine po_ 8 (some 22) (m_ 12 511) rfl rfl (by kernel_rfl) (fun _ _ _ h => h) (by rfl) (by simp only [Act.put, List.setIfInBounds_toArray, List.set_cons_zero, List.set_cons_succ, i64_w, i32_w]; rfl) ?_
  refine po_ 9 (some 23) (m_ 12 1023) rfl rfl (by kernel_rfl) (fun _ _ _ h => h) (by rfl) (by simp only [Act.put, List.setIfInBounds_toArray, List.set_cons_zero, List.set_cons_succ, i64_w, i32_w]; rfl) ?_
  refine pu_ 10 (some 24) (m_ 12 2047) rfl rfl (by kernel_rfl) (fun _ _ _ h => h) (by rfl) (by intro w'; go_simp; with_reducible rfl) (by simp only [Act.put, List.setIfInBounds_toArray, List.set_cons_zero, List.set_cons_succ, i64_w, i32_w]; rfl) ?_
  refine pu_ 11 (some 13) (m_ 12 4095) rfl rfl (by kernel_rfl) (fun _ _ _ h => h) (by rfl) (by intro w'; go_simp; with_reducible rfl) (by simp only [Act.put, List.setIfInBounds_toArray, List.set_cons_zero, List.set_cons_succ, i64_w, i32_w]; rfl) ?_
  refine done_ (by kernel_rfl) ?_
  clear hHeld
  have hr := Lib.hid (show LTu w F w1.drew b x from hl0.out.trans (fun F' hL => LTu.below (w := w) hL hB1.out.drew))
  clear hH1 hblk1 hB1
  go_wp2
  go_ret
  exact ⟨rfl, hr.out⟩
theorem add_other (h : LK w F b x) (ho : OkK x M Q) (t0 : ByteArray) (t1 : Int) (t2 : Bool) (t3 t4 t5 now : Int) (hz : chk ⟨t0, t1, t2, t3, t4, t5⟩ = 0) (hu : t2 ≠ x.up) :
    Calls Try.prog 19 #[ptr b, .agg #[.string t0, .int .i64 t1, .bool t2, .int .i64 t3, .int .i64 t4, .int .i64 t5], .int .i64 now] w fun e w' => e = .returned (.int .i64 (0)) ∧ LTu w F w' b (x) := by
  obtain ⟨G, c, D, v, h⟩ := h
  have hb0 := (Below.refl w.heap.size w).alloc (Nat.le_refl _) (.cells #[.string t0, .int .i64 t1, .bool t2, .int .i64 t3, .int .i64 t4, .int .i64 t5] 29)
  have hblk0 := Lib.hid (Blk.new w 29 #[.string t0, .int .i64 t1, .bool t2, .int .i64 t3, .int .i64 t4, .int .i64 t5])
  have hH0 := Lib.hid (h.below hb0)
  have hb0' := Lib.hid hb0
  have hck := Lib.hid (fun wy => check_any ⟨t0, t1, t2, t3, t4, t5⟩ wy)
  have hl0 := Lib.hid (LTu.refl h.lk)
  have tu : (t2 != x.up) = true := by simpa using hu
  have tu2 : (t2 == x.up) = false := by simpa using hu
  rw [hz] at hck
  clear h hb0 ho hz hu
  go_enter Try.func19, Try.ntmps19
  go_wp2_with fail
  refine (hck.out _).mono ?_
  rintro e w1 ⟨rfl, hB⟩
  have hB1 := Lib.hid (bw_below hb0'.out hB)
  have hblk1 := Lib.hid (hblk0.out.below hB)
  have hH1 := Lib.hid (hH0.out.below hB)
  clear hB hb0' hblk0 hH0 hck
  have e2 : w1.cell? ⟨w.heap.size, 2, none⟩ = some (.bool t2) := (hblk1.out.cell 2).trans rfl
  have d2 : w1.cell? ⟨b, 2, none⟩ = some (.bool x.up) := (hH1.out.cell 2).trans rfl
  go_wp2
  refine start_ (n := 12) (S := fun w' => w'.cell? ⟨w.heap.size, 2, none⟩ = some (.bool t2) ∧ w'.cell? ⟨b, 2, none⟩ = some (.bool x.up)) (ds := []) (m_ 12 0) (by kernel_rfl) rfl (by kernel_rfl) ⟨e2, d2⟩ (fun hHeld => ?_)
  refine pu_ 0 (some 14) (m_ 12 1) rfl rfl (by kernel_rfl) (fun _ _ _ h => h) (by rfl) (by intro w'; go_simp; with_reducible rfl) (by simp only [Act.put, List.setIfInBounds_toArray, List.set_cons_zero, List.set_cons_succ, i64_w, i32_w]; rfl) ?_
  refine pu_ 1 (some 15) (m_ 12 3) rfl rfl (by kernel_rfl) (fun _ _ _ h => h) (by rfl) (by intro w'; go_simp; with_reducible rfl) (by simp only [Act.put, List.setIfInBounds_toArray, List.set_cons_zero, List.set_cons_succ, i64_w, i32_w]; rfl) ?_
  refine pu_ 2 (some 16) (m_ 12 7) rfl rfl (by kernel_rfl) (fun _ _ _ h => h) (by rfl) (by intro w'; go_simp; with_reducible rfl) (by simp only [Act.put, List.setIfInBounds_toArray, List.set_cons_zero, List.set_cons_succ, i64_w, i32_w]; rfl) ?_
  refine pu_ 3 (some 17) (m_ 12 15) rfl rfl (by kernel_rfl) (fun _ _ _ h => h) (by rfl) (by intro w'; go_simp; with_reducible rfl) (by simp only [Act.put, List.setIfInBounds_toArray, List.set_cons_zero, List.set_cons_succ, i64_w, i32_w]; rfl) ?_
  refine pu_ 5 (some 19) (m_ 12 47) rfl rfl (by kernel_rfl) (fun _ _ _ h => h) (by rfl) (by intro w'; go_simp; with_reducible rfl) (by simp only [Act.put, List.setIfInBounds_toArray, List.set_cons_zero, List.set_cons_succ, i64_w, i32_w]; rfl) ?_
  refine pu_ 6 (some 20) (m_ 12 111) rfl rfl (by kernel_rfl) (fun _ _ _ h => h) (by rfl) (by intro w'; go_simp; with_reducible rfl) (by simp only [Act.put, List.setIfInBounds_toArray, List.set_cons_zero, List.set_cons_succ, i64_w, i32_w]; rfl) ?_
  refine pu_ 7 (some 21) (m_ 12 239) rfl rfl (by kernel_rfl) (fun _ _ _ h => h) (by rfl) (by intro w'; go_simp; with_reducible rfl) (by simp only [Act.put, List.setIfInBounds_toArray, List.set_cons_zero, List.set_cons_succ, i64_w, i32_w]; rfl) ?_
  refine tk_ 4 (some 18) (m_ 12 255) rfl rfl (by kernel_rfl) (fun _ _ _ h => h) (by rfl) (by rintro w' ⟨s0, s1⟩; go_simp; with_reducible rfl) hHeld (by simp only [Act.put, List.setIfInBounds_toArray, List.set_cons_zero, List.set_cons_succ, i64_w, i32_w]; rfl) ?_
  refine tk_ 8 (some 22) (m_ 12 511) rfl rfl (by kernel_rfl) (fun _ _ _ h => h) (by rfl) (by rintro w' ⟨s0, s1⟩; go_simp; with_reducible rfl) hHeld (by simp only [Act.put, List.setIfInBounds_toArray, List.set_cons_zero, List.set_cons_succ, i64_w, i32_w]; rfl) ?_
  refine pu_ 9 (some 23) (m_ 12 1023) rfl rfl (by kernel_rfl) (fun _ _ _ h => h) (by rfl) (by intro w'; go_simp; with_reducible rfl) (by simp only [Act.put, List.setIfInBounds_toArray, List.set_cons_zero, List.set_cons_succ, i64_w, i32_w]; rfl) ?_
  refine pu_ 10 (some 24) (m_ 12 2047) rfl rfl (by kernel_rfl) (fun _ _ _ h => h) (by rfl) (by intro w'; go_simp; with_reducible rfl) (by simp only [Act.put, List.setIfInBounds_toArray, List.set_cons_zero, List.set_cons_succ, i64_w, i32_w]; rfl) ?_
  refine pu_ 11 (some 13) (m_ 12 4095) rfl rfl (by kernel_rfl) (fun _ _ _ h => h) (by rfl) (by intro w'; go_simp; with_reducible rfl) (by simp only [Act.put, List.setIfInBounds_toArray, List.set_cons_zero, List.set_cons_succ, i64_w, i32_w]; rfl) ?_
  refine done_ (by kernel_rfl) ?_
  clear hHeld e2 d2
  have hr := Lib.hid (show LTu w F w1.drew b x from hl0.out.trans (fun F' hL => LTu.below (w := w) hL hB1.out.drew))
  clear hH1 hblk1 hB1
  go_wp2
  go_ret
  exact ⟨rfl, hr.out⟩
theorem add_there (h : LK w F b x) (ho : OkK x M Q) (t0 : ByteArray) (t1 : Int) (t2 : Bool) (t3 t4 t5 now : Int) (hz : chk ⟨t0, t1, t2, t3, t4, t5⟩ = 0) (hu : t2 = x.up) (hi : (idxN x.names t0).isSome = true) :
    Calls Try.prog 19 #[ptr b, .agg #[.string t0, .int .i64 t1, .bool t2, .int .i64 t3, .int .i64 t4, .int .i64 t5], .int .i64 now] w fun e w' => e = .returned (.int .i64 (141)) ∧ LTu w F w' b (x) := by
  obtain ⟨G, c, D, v, h⟩ := h
  have hb0 := (Below.refl w.heap.size w).alloc (Nat.le_refl _) (.cells #[.string t0, .int .i64 t1, .bool t2, .int .i64 t3, .int .i64 t4, .int .i64 t5] 29)
  have hblk0 := Lib.hid (Blk.new w 29 #[.string t0, .int .i64 t1, .bool t2, .int .i64 t3, .int .i64 t4, .int .i64 t5])
  have hH0 := Lib.hid (h.below hb0)
  have hb0' := Lib.hid hb0
  have hck := Lib.hid (fun wy => check_any ⟨t0, t1, t2, t3, t4, t5⟩ wy)
  have hl0 := Lib.hid (LTu.refl h.lk)
  have hvs := h.2.2.2.1.sr
  obtain ⟨A0, cp0, hv, _⟩ := hvs
  subst hv
  have tu : (t2 != x.up) = false := by rw [hu]; simp
  have tu2 : (t2 == x.up) = true := by rw [hu]; simp
  rw [hz] at hck
  have hnl : x.names.length ≤ 8 := by have := ho.n; have := ho.c.ten; omega
  have ho' := Lib.hid ho
  have his := hi
  clear h hb0 ho hz hu hi
  go_enter Try.func19, Try.ntmps19
  go_wp2_with fail
  refine (hck.out _).mono ?_
  rintro e w1 ⟨rfl, hB⟩
  have hB1 := Lib.hid (bw_below hb0'.out hB)
  have hblk1 := Lib.hid (hblk0.out.below hB)
  have hH1 := Lib.hid (hH0.out.below hB)
  clear hB hb0' hblk0 hH0 hck
  have e2 : w1.cell? ⟨w.heap.size, 2, none⟩ = some (.bool t2) := (hblk1.out.cell 2).trans rfl
  have d2 : w1.cell? ⟨b, 2, none⟩ = some (.bool x.up) := (hH1.out.cell 2).trans rfl
  have d1 : w1.cell? ⟨b, 1, none⟩ = some (.slice A0 x.names.length cp0) := (hH1.out.cell 1).trans rfl
  have e0 : w1.cell? ⟨w.heap.size, 0, none⟩ = some (.string t0) := (hblk1.out.cell 0).trans rfl
  have hco := Lib.hid (contains_any w1.drew.drew (.slice A0 x.names.length cp0) x.names t0 (show SR w1.drew.drew _ _ from (hH1.out.2.2.2.1).sr) (by omega))
  go_wp2
  refine start_ (n := 12) (S := fun w' => w'.cell? ⟨w.heap.size, 2, none⟩ = some (.bool t2) ∧ w'.cell? ⟨b, 2, none⟩ = some (.bool x.up)) (ds := []) (m_ 12 0) (by kernel_rfl) rfl (by kernel_rfl) ⟨e2, d2⟩ (fun hHeld => ?_)
  refine pu_ 0 (some 14) (m_ 12 1) rfl rfl (by kernel_rfl) (fun _ _ _ h => h) (by rfl) (by intro w'; go_simp; with_reducible rfl) (by simp only [Act.put, List.setIfInBounds_toArray, List.set_cons_zero, List.set_cons_succ, i64_w, i32_w]; rfl) ?_
  refine pu_ 1 (some 15) (m_ 12 3) rfl rfl (by kernel_rfl) (fun _ _ _ h => h) (by rfl) (by intro w'; go_simp; with_reducible rfl) (by simp only [Act.put, List.setIfInBounds_toArray, List.set_cons_zero, List.set_cons_succ, i64_w, i32_w]; rfl) ?_
  refine pu_ 2 (some 16) (m_ 12 7) rfl rfl (by kernel_rfl) (fun _ _ _ h => h) (by rfl) (by intro w'; go_simp; with_reducible rfl) (by simp only [Act.put, List.setIfInBounds_toArray, List.set_cons_zero, List.set_cons_succ, i64_w, i32_w]; rfl) ?_
  refine pu_ 3 (some 17) (m_ 12 15) rfl rfl (by kernel_rfl) (fun _ _ _ h => h) (by rfl) (by intro w'; go_simp; with_reducible rfl) (by simp only [Act.put, List.setIfInBounds_toArray, List.set_cons_zero, List.set_cons_succ, i64_w, i32_w]; rfl) ?_
  refine pu_ 5 (some 19) (m_ 12 47) rfl rfl (by kernel_rfl) (fun _ _ _ h => h) (by rfl) (by intro w'; go_simp; with_reducible rfl) (by simp only [Act.put, List.setIfInBounds_toArray, List.set_cons_zero, List.set_cons_succ, i64_w, i32_w]; rfl) ?_
  refine pu_ 6 (some 20) (m_ 12 111) rfl rfl (by kernel_rfl) (fun _ _ _ h => h) (by rfl) (by intro w'; go_simp; with_reducible rfl) (by simp only [Act.put, List.setIfInBounds_toArray, List.set_cons_zero, List.set_cons_succ, i64_w, i32_w]; rfl) ?_
  refine pu_ 7 (some 21) (m_ 12 239) rfl rfl (by kernel_rfl) (fun _ _ _ h => h) (by rfl) (by intro w'; go_simp; with_reducible rfl) (by simp only [Act.put, List.setIfInBounds_toArray, List.set_cons_zero, List.set_cons_succ, i64_w, i32_w]; rfl) ?_
  refine tk_ 4 (some 18) (m_ 12 255) rfl rfl (by kernel_rfl) (fun _ _ _ h => h) (by rfl) (by rintro w' ⟨s0, s1⟩; go_simp; with_reducible rfl) hHeld (by simp only [Act.put, List.setIfInBounds_toArray, List.set_cons_zero, List.set_cons_succ, i64_w, i32_w]; rfl) ?_
  refine tk_ 8 (some 22) (m_ 12 511) rfl rfl (by kernel_rfl) (fun _ _ _ h => h) (by rfl) (by rintro w' ⟨s0, s1⟩; go_simp; with_reducible rfl) hHeld (by simp only [Act.put, List.setIfInBounds_toArray, List.set_cons_zero, List.set_cons_succ, i64_w, i32_w]; rfl) ?_
  refine pu_ 9 (some 23) (m_ 12 1023) rfl rfl (by kernel_rfl) (fun _ _ _ h => h) (by rfl) (by intro w'; go_simp; with_reducible rfl) (by simp only [Act.put, List.setIfInBounds_toArray, List.set_cons_zero, List.set_cons_succ, i64_w, i32_w]; rfl) ?_
  refine pu_ 10 (some 24) (m_ 12 2047) rfl rfl (by kernel_rfl) (fun _ _ _ h => h) (by rfl) (by intro w'; go_simp; with_reducible rfl) (by simp only [Act.put, List.setIfInBounds_toArray, List.set_cons_zero, List.set_cons_succ, i64_w, i32_w]; rfl) ?_
  refine pu_ 11 (some 13) (m_ 12 4095) rfl rfl (by kernel_rfl) (fun _ _ _ h => h) (by rfl) (by intro w'; go_simp; with_reducible rfl) (by simp only [Act.put, List.setIfInBounds_toArray, List.set_cons_zero, List.set_cons_succ, i64_w, i32_w]; rfl) ?_
  refine done_ (by kernel_rfl) ?_
  clear hHeld
  go_wp2
  refine start_ (n := 8) (S := fun w' => w'.cell? ⟨b, 1, none⟩ = some (.slice A0 x.names.length cp0) ∧ w'.cell? ⟨w.heap.size, 0, none⟩ = some (.string t0)) (ds := []) (m_ 8 0) (by kernel_rfl) rfl (by kernel_rfl) ⟨d1, e0⟩ (fun hHeld => ?_)
  refine pu_ 0 (some 27) (m_ 8 1) rfl rfl (by kernel_rfl) (fun _ _ _ h => h) (by rfl) (by intro w'; go_simp; with_reducible rfl) (by simp only [Act.put, List.setIfInBounds_toArray, List.set_cons_zero, List.set_cons_succ, i64_w, i32_w]; rfl) ?_
  refine pu_ 1 (some 28) (m_ 8 3) rfl rfl (by kernel_rfl) (fun _ _ _ h => h) (by rfl) (by intro w'; go_simp; with_reducible rfl) (by simp only [Act.put, List.setIfInBounds_toArray, List.set_cons_zero, List.set_cons_succ, i64_w, i32_w]; rfl) ?_
  refine pu_ 2 (some 29) (m_ 8 7) rfl rfl (by kernel_rfl) (fun _ _ _ h => h) (by rfl) (by intro w'; go_simp; with_reducible rfl) (by simp only [Act.put, List.setIfInBounds_toArray, List.set_cons_zero, List.set_cons_succ, i64_w, i32_w]; rfl) ?_
  refine pu_ 4 (some 31) (m_ 8 23) rfl rfl (by kernel_rfl) (fun _ _ _ h => h) (by rfl) (by intro w'; go_simp; with_reducible rfl) (by simp only [Act.put, List.setIfInBounds_toArray, List.set_cons_zero, List.set_cons_succ, i64_w, i32_w]; rfl) ?_
  refine tk_ 3 (some 30) (m_ 8 31) rfl rfl (by kernel_rfl) (fun _ _ _ h => h) (by rfl) (by rintro w' ⟨s0, s1⟩; go_simp; with_reducible rfl) hHeld (by simp only [Act.put, List.setIfInBounds_toArray, List.set_cons_zero, List.set_cons_succ, i64_w, i32_w]; rfl) ?_
  refine tk_ 5 (some 32) (m_ 8 63) rfl rfl (by kernel_rfl) (fun _ _ _ h => h) (by rfl) (by rintro w' ⟨s0, s1⟩; go_simp; with_reducible rfl) hHeld (by simp only [Act.put, List.setIfInBounds_toArray, List.set_cons_zero, List.set_cons_succ, i64_w, i32_w]; rfl) ?_
  refine one_ (i := 6) (N := some 33) (m_ 8 127) rfl rfl (by kernel_rfl) (by decide) (fun K hK => ?_)
  refine goes_ Try.func35 (by kernel_rfl) rfl #[.slice A0 x.names.length cp0, .string t0] (by rfl) rfl rfl (by simp only [List.map_toArray, List.map_cons, List.map_nil]; rfl) ?_
  with_reducible refine (hco.out).mono ?_
  rintro e w2 ⟨rfl, rfl⟩
  rw [his]
  refine ⟨_, rfl, ?_⟩
  refine hK.out _ _ ⟨d1, e0⟩ (fun hHeld => ?_)
  clear hK K
  refine norm_ (a' := ?_) ?_ ?_
  rotate_left
  · show Act.put _ (some 33) _ = _
    simp only [Act.put, List.setIfInBounds_toArray, List.set_cons_zero, List.set_cons_succ, i64_w, i32_w]
    rfl
  refine pu_ 7 (some 26) (m_ 8 255) rfl rfl (by kernel_rfl) (fun _ _ _ h => h) (by rfl) (by intro w'; go_simp; with_reducible rfl) (by simp only [Act.put, List.setIfInBounds_toArray, List.set_cons_zero, List.set_cons_succ, i64_w, i32_w]; rfl) ?_
  refine done_ (by kernel_rfl) ?_
  clear hHeld e2 d2 d1 e0 hco
  have hr := Lib.hid (show LTu w F w1.drew.drew b x from hl0.out.trans (fun F' hL => LTu.below (w := w) hL hB1.out.drew.drew))
  clear hH1 hblk1 hB1
  go_wp2
  go_ret
  exact ⟨rfl, hr.out⟩
theorem add_full (h : LK w F b x) (ho : OkK x M Q) (t0 : ByteArray) (t1 : Int) (t2 : Bool) (t3 t4 t5 now : Int) (hz : chk ⟨t0, t1, t2, t3, t4, t5⟩ = 0) (hu : t2 = x.up) (hi : (idxN x.names t0).isSome = false) (hf : 8 ≤ x.names.length) :
    Calls Try.prog 19 #[ptr b, .agg #[.string t0, .int .i64 t1, .bool t2, .int .i64 t3, .int .i64 t4, .int .i64 t5], .int .i64 now] w fun e w' => e = .returned (.int .i64 (110)) ∧ LTu w F w' b (x) := by
  obtain ⟨G, c, D, v, h⟩ := h
  have hb0 := (Below.refl w.heap.size w).alloc (Nat.le_refl _) (.cells #[.string t0, .int .i64 t1, .bool t2, .int .i64 t3, .int .i64 t4, .int .i64 t5] 29)
  have hblk0 := Lib.hid (Blk.new w 29 #[.string t0, .int .i64 t1, .bool t2, .int .i64 t3, .int .i64 t4, .int .i64 t5])
  have hH0 := Lib.hid (h.below hb0)
  have hb0' := Lib.hid hb0
  have hck := Lib.hid (fun wy => check_any ⟨t0, t1, t2, t3, t4, t5⟩ wy)
  have hl0 := Lib.hid (LTu.refl h.lk)
  have hvs := h.2.2.2.1.sr
  obtain ⟨A0, cp0, hv, _⟩ := hvs
  subst hv
  have tu : (t2 != x.up) = false := by rw [hu]; simp
  have tu2 : (t2 == x.up) = true := by rw [hu]; simp
  rw [hz] at hck
  have hnl : x.names.length ≤ 8 := by have := ho.n; have := ho.c.ten; omega
  have ho' := Lib.hid ho
  have his := hi
  have tf : decide ((8 : Int) ≤ (x.names.length : Int)) = true := decide_eq_true (by omega)
  clear h hb0 ho hz hu hi
  go_enter Try.func19, Try.ntmps19
  go_wp2_with fail
  refine (hck.out _).mono ?_
  rintro e w1 ⟨rfl, hB⟩
  have hB1 := Lib.hid (bw_below hb0'.out hB)
  have hblk1 := Lib.hid (hblk0.out.below hB)
  have hH1 := Lib.hid (hH0.out.below hB)
  clear hB hb0' hblk0 hH0 hck
  have e2 : w1.cell? ⟨w.heap.size, 2, none⟩ = some (.bool t2) := (hblk1.out.cell 2).trans rfl
  have d2 : w1.cell? ⟨b, 2, none⟩ = some (.bool x.up) := (hH1.out.cell 2).trans rfl
  have d1 : w1.cell? ⟨b, 1, none⟩ = some (.slice A0 x.names.length cp0) := (hH1.out.cell 1).trans rfl
  have e0 : w1.cell? ⟨w.heap.size, 0, none⟩ = some (.string t0) := (hblk1.out.cell 0).trans rfl
  have hco := Lib.hid (contains_any w1.drew.drew (.slice A0 x.names.length cp0) x.names t0 (show SR w1.drew.drew _ _ from (hH1.out.2.2.2.1).sr) (by omega))
  go_wp2
  refine start_ (n := 12) (S := fun w' => w'.cell? ⟨w.heap.size, 2, none⟩ = some (.bool t2) ∧ w'.cell? ⟨b, 2, none⟩ = some (.bool x.up)) (ds := []) (m_ 12 0) (by kernel_rfl) rfl (by kernel_rfl) ⟨e2, d2⟩ (fun hHeld => ?_)
  refine pu_ 0 (some 14) (m_ 12 1) rfl rfl (by kernel_rfl) (fun _ _ _ h => h) (by rfl) (by intro w'; go_simp; with_reducible rfl) (by simp only [Act.put, List.setIfInBounds_toArray, List.set_cons_zero, List.set_cons_succ, i64_w, i32_w]; rfl) ?_
  refine pu_ 1 (some 15) (m_ 12 3) rfl rfl (by kernel_rfl) (fun _ _ _ h => h) (by rfl) (by intro w'; go_simp; with_reducible rfl) (by simp only [Act.put, List.setIfInBounds_toArray, List.set_cons_zero, List.set_cons_succ, i64_w, i32_w]; rfl) ?_
  refine pu_ 2 (some 16) (m_ 12 7) rfl rfl (by kernel_rfl) (fun _ _ _ h => h) (by rfl) (by intro w'; go_simp; with_reducible rfl) (by simp only [Act.put, List.setIfInBounds_toArray, List.set_cons_zero, List.set_cons_succ, i64_w, i32_w]; rfl) ?_
  refine pu_ 3 (some 17) (m_ 12 15) rfl rfl (by kernel_rfl) (fun _ _ _ h => h) (by rfl) (by intro w'; go_simp; with_reducible rfl) (by simp only [Act.put, List.setIfInBounds_toArray, List.set_cons_zero, List.set_cons_succ, i64_w, i32_w]; rfl) ?_
  refine pu_ 5 (some 19) (m_ 12 47) rfl rfl (by kernel_rfl) (fun _ _ _ h => h) (by rfl) (by intro w'; go_simp; with_reducible rfl) (by simp only [Act.put, List.setIfInBounds_toArray, List.set_cons_zero, List.set_cons_succ, i64_w, i32_w]; rfl) ?_
  refine pu_ 6 (some 20) (m_ 12 111) rfl rfl (by kernel_rfl) (fun _ _ _ h => h) (by rfl) (by intro w'; go_simp; with_reducible rfl) (by simp only [Act.put, List.setIfInBounds_toArray, List.set_cons_zero, List.set_cons_succ, i64_w, i32_w]; rfl) ?_
  refine pu_ 7 (some 21) (m_ 12 239) rfl rfl (by kernel_rfl) (fun _ _ _ h => h) (by rfl) (by intro w'; go_simp; with_reducible rfl) (by simp only [Act.put, List.setIfInBounds_toArray, List.set_cons_zero, List.set_cons_succ, i64_w, i32_w]; rfl) ?_
  refine tk_ 4 (some 18) (m_ 12 255) rfl rfl (by kernel_rfl) (fun _ _ _ h => h) (by rfl) (by rintro w' ⟨s0, s1⟩; go_simp; with_reducible rfl) hHeld (by simp only [Act.put, List.setIfInBounds_toArray, List.set_cons_zero, List.set_cons_succ, i64_w, i32_w]; rfl) ?_
  refine tk_ 8 (some 22) (m_ 12 511) rfl rfl (by kernel_rfl) (fun _ _ _ h => h) (by rfl) (by rintro w' ⟨s0, s1⟩; go_simp; with_reducible rfl) hHeld (by simp only [Act.put, List.setIfInBounds_toArray, List.set_cons_zero, List.set_cons_succ, i64_w, i32_w]; rfl) ?_
  refine pu_ 9 (some 23) (m_ 12 1023) rfl rfl (by kernel_rfl) (fun _ _ _ h => h) (by rfl) (by intro w'; go_simp; with_reducible rfl) (by simp only [Act.put, List.setIfInBounds_toArray, List.set_cons_zero, List.set_cons_succ, i64_w, i32_w]; rfl) ?_
  refine pu_ 10 (some 24) (m_ 12 2047) rfl rfl (by kernel_rfl) (fun _ _ _ h => h) (by rfl) (by intro w'; go_simp; with_reducible rfl) (by simp only [Act.put, List.setIfInBounds_toArray, List.set_cons_zero, List.set_cons_succ, i64_w, i32_w]; rfl) ?_
  refine pu_ 11 (some 13) (m_ 12 4095) rfl rfl (by kernel_rfl) (fun _ _ _ h => h) (by rfl) (by intro w'; go_simp; with_reducible rfl) (by simp only [Act.put, List.setIfInBounds_toArray, List.set_cons_zero, List.set_cons_succ, i64_w, i32_w]; rfl) ?_
  refine done_ (by kernel_rfl) ?_
  clear hHeld
  go_wp2
  refine start_ (n := 8) (S := fun w' => w'.cell? ⟨b, 1, none⟩ = some (.slice A0 x.names.length cp0) ∧ w'.cell? ⟨w.heap.size, 0, none⟩ = some (.string t0)) (ds := []) (m_ 8 0) (by kernel_rfl) rfl (by kernel_rfl) ⟨d1, e0⟩ (fun hHeld => ?_)
  refine pu_ 0 (some 27) (m_ 8 1) rfl rfl (by kernel_rfl) (fun _ _ _ h => h) (by rfl) (by intro w'; go_simp; with_reducible rfl) (by simp only [Act.put, List.setIfInBounds_toArray, List.set_cons_zero, List.set_cons_succ, i64_w, i32_w]; rfl) ?_
  refine pu_ 1 (some 28) (m_ 8 3) rfl rfl (by kernel_rfl) (fun _ _ _ h => h) (by rfl) (by intro w'; go_simp; with_reducible rfl) (by simp only [Act.put, List.setIfInBounds_toArray, List.set_cons_zero, List.set_cons_succ, i64_w, i32_w]; rfl) ?_
  refine pu_ 2 (some 29) (m_ 8 7) rfl rfl (by kernel_rfl) (fun _ _ _ h => h) (by rfl) (by intro w'; go_simp; with_reducible rfl) (by simp only [Act.put, List.setIfInBounds_toArray, List.set_cons_zero, List.set_cons_succ, i64_w, i32_w]; rfl) ?_
  refine pu_ 4 (some 31) (m_ 8 23) rfl rfl (by kernel_rfl) (fun _ _ _ h => h) (by rfl) (by intro w'; go_simp; with_reducible rfl) (by simp only [Act.put, List.setIfInBounds_toArray, List.set_cons_zero, List.set_cons_succ, i64_w, i32_w]; rfl) ?_
  refine tk_ 3 (some 30) (m_ 8 31) rfl rfl (by kernel_rfl) (fun _ _ _ h => h) (by rfl) (by rintro w' ⟨s0, s1⟩; go_simp; with_reducible rfl) hHeld (by simp only [Act.put, List.setIfInBounds_toArray, List.set_cons_zero, List.set_cons_succ, i64_w, i32_w]; rfl) ?_
  refine tk_ 5 (some 32) (m_ 8 63) rfl rfl (by kernel_rfl) (fun _ _ _ h => h) (by rfl) (by rintro w' ⟨s0, s1⟩; go_simp; with_reducible rfl) hHeld (by simp only [Act.put, List.setIfInBounds_toArray, List.set_cons_zero, List.set_cons_succ, i64_w, i32_w]; rfl) ?_
  refine one_ (i := 6) (N := some 33) (m_ 8 127) rfl rfl (by kernel_rfl) (by decide) (fun K hK => ?_)
  refine goes_ Try.func35 (by kernel_rfl) rfl #[.slice A0 x.names.length cp0, .string t0] (by rfl) rfl rfl (by simp only [List.map_toArray, List.map_cons, List.map_nil]; rfl) ?_
  with_reducible refine (hco.out).mono ?_
  rintro e w2 ⟨rfl, rfl⟩
  rw [his]
  refine ⟨_, rfl, ?_⟩
  refine hK.out _ _ ⟨d1, e0⟩ (fun hHeld => ?_)
  clear hK K
  refine norm_ (a' := ?_) ?_ ?_
  rotate_left
  · show Act.put _ (some 33) _ = _
    simp only [Act.put, List.setIfInBounds_toArray, List.set_cons_zero, List.set_cons_succ, i64_w, i32_w]
    rfl
  refine pu_ 7 (some 26) (m_ 8 255) rfl rfl (by kernel_rfl) (fun _ _ _ h => h) (by rfl) (by intro w'; go_simp; with_reducible rfl) (by simp only [Act.put, List.setIfInBounds_toArray, List.set_cons_zero, List.set_cons_succ, i64_w, i32_w]; rfl) ?_
  refine done_ (by kernel_rfl) ?_
  clear hHeld e2 d2 e0 hco
  have hr := Lib.hid (show LTu w F w1.drew.drew b x from hl0.out.trans (fun F' hL => LTu.below (w := w) hL hB1.out.drew.drew))
  clear hH1 hblk1 hB1
  go_wp2
  go_ret
  exact ⟨rfl, hr.out⟩
theorem LKG.drew {G : Nat → Prop} {c : Nat} {D : Lay} {v : Value} (h : LKG w F b x G c D v) : LKG w.drew F b x G c D v := h.below (Below.refl _ _).drew
theorem drawn_w (n : Int) (h0 : 0 ≤ n) (h1 : n ≤ 1000000000) : IntKind.u64.wrap n = n ∧ wrap64 (n + 1) = n + 1 := by
  constructor
  · rw [IntKind.wrap_u64]; omega
  · unfold wrap64; omega
theorem nums_one (w : World) (n : Int) (h0 : 0 ≤ n) (h1 : n ≤ 1000000000) : Ref02.Nums .u64 (w.alloc (.cells #[.int .u64 n] 23)) (.slice (some ⟨w.heap.size, 0, none⟩) 1 1) [n] := by
  refine ⟨_, 1, 1, rfl, rfl, (by show (1 : Nat) ≤ 9223372036854775807; decide), fun y hy => ?_, fun _ => ⟨w.heap.size, 0, rfl, fun j y hj => ?_⟩, fun e => by cases e⟩
  · rw [List.mem_singleton.1 hy]
    unfold Lit.wf
    rw [Bool.and_eq_true, decide_eq_true_eq, decide_eq_true_eq]
    have e1 : IntKind.u64.min = 0 := by decide
    have e2 : IntKind.u64.max = 18446744073709551615 := by decide
    rw [e1, e2]
    omega
  · rw [Nat.zero_add]
    rcases j with _ | j
    · cases hj
      exact (Blk.new w 23 #[.int .u64 n]).cell 0
    · simp at hj
theorem own_slice {base : Nat} {e : TypeId} {size : Nat} {v : Value} {n : Nat} {xs : List Value} (h : w.ownsRow base e size v n xs) : ∃ A c, v = .slice A n c := by
  rcases h.2 with ⟨rfl, h0⟩ | ⟨g, cap, cur, rfl, _⟩
  · exact ⟨none, 0, by rw [h0]⟩
  · exact ⟨_, cap, rfl⟩
theorem grow_b {G : Nat → Prop} {c : Nat} {D : Lay} {v : Value} {w8 : World} {o : Obj} (h : LKG w F b x G c D v) (hg : (w.alloc o).grownBy w8 v.ownBlock) : w8.heap[b]? = w.heap[b]? := by
  have hb := h.1
  refine (hg.block b (by simp; have := hb.lt; omega) (fun e => ?_)).trans (Below.heap_alloc w o b hb.lt)
  obtain ⟨cs, hvb⟩ := h.2.2.2.1.typed e.symm
  exact absurd (hb.ty hvb) (by decide)
theorem frozen_of_block {w8 : World} {i : Nat} (h : w8.heap[b]? = w.heap[b]?) : w8.frozen? ⟨b, i, none⟩ = w.frozen? ⟨b, i, none⟩ := by
  simp [World.frozen?, h]
set_option maxHeartbeats 2000000 in
theorem add_in (h : LK w F b x) (ho : OkK x M Q) (t0 : ByteArray) (t1 : Int) (t2 : Bool) (t3 t4 t5 now : Int) (hz : chk ⟨t0, t1, t2, t3, t4, t5⟩ = 0) (hu : t2 = x.up) (hi : (idxN x.names t0).isSome = false) (hf : x.names.length < 8) :
    Calls Try.prog 19 #[ptr b, .agg #[.string t0, .int .i64 t1, .bool t2, .int .i64 t3, .int .i64 t4, .int .i64 t5], .int .i64 now] w fun e w' => e = .returned (.int .i64 (0)) ∧ LTu w F w' b (addK x ⟨t0, t1, t2, t3, t4, t5⟩ now) := by
  obtain ⟨G, c, D, v, h⟩ := h
  have hb0 := (Below.refl w.heap.size w).alloc (Nat.le_refl _) (.cells #[.string t0, .int .i64 t1, .bool t2, .int .i64 t3, .int .i64 t4, .int .i64 t5] 29)
  have hblk0 := Lib.hid (Blk.new w 29 #[.string t0, .int .i64 t1, .bool t2, .int .i64 t3, .int .i64 t4, .int .i64 t5])
  have hH0 := Lib.hid (h.below hb0)
  have hb0' := Lib.hid hb0
  have hck := Lib.hid (fun wy => check_any ⟨t0, t1, t2, t3, t4, t5⟩ wy)
  have hl0 := Lib.hid (LTu.refl h.lk)
  have hvs := h.2.2.2.1.sr
  obtain ⟨A0, cp0, hv, _⟩ := hvs
  subst hv
  have tu : (t2 != x.up) = false := by rw [hu]; simp
  have tu2 : (t2 == x.up) = true := by rw [hu]; simp
  rw [hz] at hck
  have hnl : x.names.length ≤ 8 := by have := ho.n; have := ho.c.ten; omega
  have ho' := Lib.hid ho
  have his := hi
  have tf : decide ((8 : Int) ≤ (x.names.length : Int)) = false := decide_eq_false (by omega)
  have hdw := Lib.hid (drawn_w x.drawn ho.d0 ho.d1)
  have hoc := Lib.hid ho.c
  have hadds : addsB x ⟨t0, t1, t2, t3, t4, t5⟩ = true := by
    unfold addsB
    rw [decide_eq_true (show chk ⟨t0, t1, t2, t3, t4, t5⟩ = 0 ∧ t2 = x.up from ⟨hz, hu⟩), hi, decide_eq_true hf]
    rfl
  have hadd : Hid (∀ T, drawK x ⟨t0, t1, t2, t3, t4, t5⟩ = T → addK x ⟨t0, t1, t2, t3, t4, t5⟩ now = { x with c := insC x.c x.names.length T (Ref02.stepI (dieK x)) now, names := x.names ++ [t0], drawn := x.drawn + 1 }) := Lib.hid (fun T e => by unfold addK; rw [if_pos hadds, e])
  have hstr0 := Lib.hid (fun (wy : World) => Dice.stream_any x.seed (.slice (some ⟨wy.heap.size, 0, none⟩) 1 1) [x.drawn] (wy.alloc (.cells #[.int .u64 x.drawn] 23)).drew ho.s0 ho.s1 ((nums_one wy x.drawn ho.d0 ho.d1).below (Below.refl _ _).drew))
  clear h hb0 ho hz hu hi hadds
  go_enter Try.func19, Try.ntmps19
  go_wp2_with fail
  refine (hck.out _).mono ?_
  rintro e w1 ⟨rfl, hB⟩
  have hB1 := Lib.hid (bw_below hb0'.out hB)
  have hblk1 := Lib.hid (hblk0.out.below hB)
  have hH1 := Lib.hid (hH0.out.below hB)
  clear hB hb0' hblk0 hH0 hck
  have e2 : w1.cell? ⟨w.heap.size, 2, none⟩ = some (.bool t2) := (hblk1.out.cell 2).trans rfl
  have d2 : w1.cell? ⟨b, 2, none⟩ = some (.bool x.up) := (hH1.out.cell 2).trans rfl
  have d1 : w1.cell? ⟨b, 1, none⟩ = some (.slice A0 x.names.length cp0) := (hH1.out.cell 1).trans rfl
  have e0 : w1.cell? ⟨w.heap.size, 0, none⟩ = some (.string t0) := (hblk1.out.cell 0).trans rfl
  have hco := Lib.hid (contains_any w1.drew.drew (.slice A0 x.names.length cp0) x.names t0 (show SR w1.drew.drew _ _ from (hH1.out.2.2.2.1).sr) (by omega))
  go_wp2
  refine start_ (n := 12) (S := fun w' => w'.cell? ⟨w.heap.size, 2, none⟩ = some (.bool t2) ∧ w'.cell? ⟨b, 2, none⟩ = some (.bool x.up)) (ds := []) (m_ 12 0) (by kernel_rfl) rfl (by kernel_rfl) ⟨e2, d2⟩ (fun hHeld => ?_)
  refine pu_ 0 (some 14) (m_ 12 1) rfl rfl (by kernel_rfl) (fun _ _ _ h => h) (by rfl) (by intro w'; go_simp; with_reducible rfl) (by simp only [Act.put, List.setIfInBounds_toArray, List.set_cons_zero, List.set_cons_succ, i64_w, i32_w]; rfl) ?_
  refine pu_ 1 (some 15) (m_ 12 3) rfl rfl (by kernel_rfl) (fun _ _ _ h => h) (by rfl) (by intro w'; go_simp; with_reducible rfl) (by simp only [Act.put, List.setIfInBounds_toArray, List.set_cons_zero, List.set_cons_succ, i64_w, i32_w]; rfl) ?_
  refine pu_ 2 (some 16) (m_ 12 7) rfl rfl (by kernel_rfl) (fun _ _ _ h => h) (by rfl) (by intro w'; go_simp; with_reducible rfl) (by simp only [Act.put, List.setIfInBounds_toArray, List.set_cons_zero, List.set_cons_succ, i64_w, i32_w]; rfl) ?_
  refine pu_ 3 (some 17) (m_ 12 15) rfl rfl (by kernel_rfl) (fun _ _ _ h => h) (by rfl) (by intro w'; go_simp; with_reducible rfl) (by simp only [Act.put, List.setIfInBounds_toArray, List.set_cons_zero, List.set_cons_succ, i64_w, i32_w]; rfl) ?_
  refine pu_ 5 (some 19) (m_ 12 47) rfl rfl (by kernel_rfl) (fun _ _ _ h => h) (by rfl) (by intro w'; go_simp; with_reducible rfl) (by simp only [Act.put, List.setIfInBounds_toArray, List.set_cons_zero, List.set_cons_succ, i64_w, i32_w]; rfl) ?_
  refine pu_ 6 (some 20) (m_ 12 111) rfl rfl (by kernel_rfl) (fun _ _ _ h => h) (by rfl) (by intro w'; go_simp; with_reducible rfl) (by simp only [Act.put, List.setIfInBounds_toArray, List.set_cons_zero, List.set_cons_succ, i64_w, i32_w]; rfl) ?_
  refine pu_ 7 (some 21) (m_ 12 239) rfl rfl (by kernel_rfl) (fun _ _ _ h => h) (by rfl) (by intro w'; go_simp; with_reducible rfl) (by simp only [Act.put, List.setIfInBounds_toArray, List.set_cons_zero, List.set_cons_succ, i64_w, i32_w]; rfl) ?_
  refine tk_ 4 (some 18) (m_ 12 255) rfl rfl (by kernel_rfl) (fun _ _ _ h => h) (by rfl) (by rintro w' ⟨s0, s1⟩; go_simp; with_reducible rfl) hHeld (by simp only [Act.put, List.setIfInBounds_toArray, List.set_cons_zero, List.set_cons_succ, i64_w, i32_w]; rfl) ?_
  refine tk_ 8 (some 22) (m_ 12 511) rfl rfl (by kernel_rfl) (fun _ _ _ h => h) (by rfl) (by rintro w' ⟨s0, s1⟩; go_simp; with_reducible rfl) hHeld (by simp only [Act.put, List.setIfInBounds_toArray, List.set_cons_zero, List.set_cons_succ, i64_w, i32_w]; rfl) ?_
  refine pu_ 9 (some 23) (m_ 12 1023) rfl rfl (by kernel_rfl) (fun _ _ _ h => h) (by rfl) (by intro w'; go_simp; with_reducible rfl) (by simp only [Act.put, List.setIfInBounds_toArray, List.set_cons_zero, List.set_cons_succ, i64_w, i32_w]; rfl) ?_
  refine pu_ 10 (some 24) (m_ 12 2047) rfl rfl (by kernel_rfl) (fun _ _ _ h => h) (by rfl) (by intro w'; go_simp; with_reducible rfl) (by simp only [Act.put, List.setIfInBounds_toArray, List.set_cons_zero, List.set_cons_succ, i64_w, i32_w]; rfl) ?_
  refine pu_ 11 (some 13) (m_ 12 4095) rfl rfl (by kernel_rfl) (fun _ _ _ h => h) (by rfl) (by intro w'; go_simp; with_reducible rfl) (by simp only [Act.put, List.setIfInBounds_toArray, List.set_cons_zero, List.set_cons_succ, i64_w, i32_w]; rfl) ?_
  refine done_ (by kernel_rfl) ?_
  clear hHeld
  go_wp2
  refine start_ (n := 8) (S := fun w' => w'.cell? ⟨b, 1, none⟩ = some (.slice A0 x.names.length cp0) ∧ w'.cell? ⟨w.heap.size, 0, none⟩ = some (.string t0)) (ds := []) (m_ 8 0) (by kernel_rfl) rfl (by kernel_rfl) ⟨d1, e0⟩ (fun hHeld => ?_)
  refine pu_ 0 (some 27) (m_ 8 1) rfl rfl (by kernel_rfl) (fun _ _ _ h => h) (by rfl) (by intro w'; go_simp; with_reducible rfl) (by simp only [Act.put, List.setIfInBounds_toArray, List.set_cons_zero, List.set_cons_succ, i64_w, i32_w]; rfl) ?_
  refine pu_ 1 (some 28) (m_ 8 3) rfl rfl (by kernel_rfl) (fun _ _ _ h => h) (by rfl) (by intro w'; go_simp; with_reducible rfl) (by simp only [Act.put, List.setIfInBounds_toArray, List.set_cons_zero, List.set_cons_succ, i64_w, i32_w]; rfl) ?_
  refine pu_ 2 (some 29) (m_ 8 7) rfl rfl (by kernel_rfl) (fun _ _ _ h => h) (by rfl) (by intro w'; go_simp; with_reducible rfl) (by simp only [Act.put, List.setIfInBounds_toArray, List.set_cons_zero, List.set_cons_succ, i64_w, i32_w]; rfl) ?_
  refine pu_ 4 (some 31) (m_ 8 23) rfl rfl (by kernel_rfl) (fun _ _ _ h => h) (by rfl) (by intro w'; go_simp; with_reducible rfl) (by simp only [Act.put, List.setIfInBounds_toArray, List.set_cons_zero, List.set_cons_succ, i64_w, i32_w]; rfl) ?_
  refine tk_ 3 (some 30) (m_ 8 31) rfl rfl (by kernel_rfl) (fun _ _ _ h => h) (by rfl) (by rintro w' ⟨s0, s1⟩; go_simp; with_reducible rfl) hHeld (by simp only [Act.put, List.setIfInBounds_toArray, List.set_cons_zero, List.set_cons_succ, i64_w, i32_w]; rfl) ?_
  refine tk_ 5 (some 32) (m_ 8 63) rfl rfl (by kernel_rfl) (fun _ _ _ h => h) (by rfl) (by rintro w' ⟨s0, s1⟩; go_simp; with_reducible rfl) hHeld (by simp only [Act.put, List.setIfInBounds_toArray, List.set_cons_zero, List.set_cons_succ, i64_w, i32_w]; rfl) ?_
  refine one_ (i := 6) (N := some 33) (m_ 8 127) rfl rfl (by kernel_rfl) (by decide) (fun K hK => ?_)
  refine goes_ Try.func35 (by kernel_rfl) rfl #[.slice A0 x.names.length cp0, .string t0] (by rfl) rfl rfl (by simp only [List.map_toArray, List.map_cons, List.map_nil]; rfl) ?_
  with_reducible refine (hco.out).mono ?_
  rintro e w2 ⟨rfl, rfl⟩
  rw [his]
  refine ⟨_, rfl, ?_⟩
  refine hK.out _ _ ⟨d1, e0⟩ (fun hHeld => ?_)
  clear hK K
  refine norm_ (a' := ?_) ?_ ?_
  rotate_left
  · show Act.put _ (some 33) _ = _
    simp only [Act.put, List.setIfInBounds_toArray, List.set_cons_zero, List.set_cons_succ, i64_w, i32_w]
    rfl
  refine pu_ 7 (some 26) (m_ 8 255) rfl rfl (by kernel_rfl) (fun _ _ _ h => h) (by rfl) (by intro w'; go_simp; with_reducible rfl) (by simp only [Act.put, List.setIfInBounds_toArray, List.set_cons_zero, List.set_cons_succ, i64_w, i32_w]; rfl) ?_
  refine done_ (by kernel_rfl) ?_
  clear hHeld e2 d2 e0 hco
  have hB2 := Lib.hid (show Below w.heap.size w w1.drew.drew from hB1.out.drew.drew)
  have H2 := Lib.hid (hH1.out.drew.drew)
  have hq2 := Lib.hid (hblk1.out.below ((Below.refl _ _).drew.drew))
  clear hB1 hH1 hblk1 d1
  generalize w1.drew.drew = W1 at *
  have d1 : W1.cell? ⟨b, 1, none⟩ = some (.slice A0 x.names.length cp0) := (H2.out.cell 1).trans rfl
  have k3 : W1.cell? ⟨b, 3, none⟩ = some (.int .u64 x.seed) := (H2.out.cell 3).trans rfl
  have k4 : W1.cell? ⟨b, 4, none⟩ = some (.int .i64 x.drawn) := (H2.out.cell 4).trans rfl
  have k5 : W1.cell? ⟨w.heap.size, 3, none⟩ = some (.int .i64 t3) := (hq2.out.cell 3).trans rfl
  have hcw := hdw.out.1
  have hstr := Lib.hid (hstr0.out W1)
  go_wp2
  refine start_ (n := 19) (S := fun w' => w'.cell? ⟨b, 3, none⟩ = some (.int .u64 x.seed) ∧ w'.cell? ⟨b, 4, none⟩ = some (.int .i64 x.drawn) ∧ w'.cell? ⟨w.heap.size, 3, none⟩ = some (.int .i64 t3)) (ds := []) (m_ 19 0) (by kernel_rfl) rfl (by kernel_rfl) ⟨k3, k4, k5⟩ (fun hHeld => ?_)
  refine pu_ 0 (some 42) (m_ 19 1) rfl rfl (by kernel_rfl) (fun _ _ _ h => h) (by rfl) (by intro w'; go_simp; with_reducible rfl) (by simp only [Act.put, List.setIfInBounds_toArray, List.set_cons_zero, List.set_cons_succ, i64_w, i32_w]; rfl) ?_
  refine pu_ 1 (some 43) (m_ 19 3) rfl rfl (by kernel_rfl) (fun _ _ _ h => h) (by rfl) (by intro w'; go_simp; with_reducible rfl) (by simp only [Act.put, List.setIfInBounds_toArray, List.set_cons_zero, List.set_cons_succ, i64_w, i32_w]; rfl) ?_
  refine pu_ 2 (some 44) (m_ 19 7) rfl rfl (by kernel_rfl) (fun _ _ _ h => h) (by rfl) (by intro w'; go_simp; with_reducible rfl) (by simp only [Act.put, List.setIfInBounds_toArray, List.set_cons_zero, List.set_cons_succ, i64_w, i32_w]; rfl) ?_
  refine pu_ 4 (some 46) (m_ 19 23) rfl rfl (by kernel_rfl) (fun _ _ _ h => h) (by rfl) (by intro w'; go_simp; with_reducible rfl) (by simp only [Act.put, List.setIfInBounds_toArray, List.set_cons_zero, List.set_cons_succ, i64_w, i32_w]; rfl) ?_
  refine pu_ 5 (some 47) (m_ 19 55) rfl rfl (by kernel_rfl) (fun _ _ _ h => h) (by rfl) (by intro w'; go_simp; with_reducible rfl) (by simp only [Act.put, List.setIfInBounds_toArray, List.set_cons_zero, List.set_cons_succ, i64_w, i32_w]; rfl) ?_
  refine pu_ 6 (some 48) (m_ 19 119) rfl rfl (by kernel_rfl) (fun _ _ _ h => h) (by rfl) (by intro w'; go_simp; with_reducible rfl) (by simp only [Act.put, List.setIfInBounds_toArray, List.set_cons_zero, List.set_cons_succ, i64_w, i32_w]; rfl) ?_
  refine pu_ 11 (some 53) (m_ 19 2167) rfl rfl (by kernel_rfl) (fun _ _ _ h => h) (by rfl) (by intro w'; go_simp; with_reducible rfl) (by simp only [Act.put, List.setIfInBounds_toArray, List.set_cons_zero, List.set_cons_succ, i64_w, i32_w]; rfl) ?_
  refine tk_ 3 (some 45) (m_ 19 2175) rfl rfl (by kernel_rfl) (fun _ _ _ h => h) (by rfl) (by rintro w' ⟨s0, s1, s2⟩; go_simp; with_reducible rfl) hHeld (by simp only [Act.put, List.setIfInBounds_toArray, List.set_cons_zero, List.set_cons_succ, i64_w, i32_w]; rfl) ?_
  refine tk_ 7 (some 49) (m_ 19 2303) rfl rfl (by kernel_rfl) (fun _ _ _ h => h) (by rfl) (by rintro w' ⟨s0, s1, s2⟩; go_simp; with_reducible rfl) hHeld (by simp only [Act.put, List.setIfInBounds_toArray, List.set_cons_zero, List.set_cons_succ, i64_w, i32_w]; rfl) ?_
  refine pu_ 8 (some 50) (m_ 19 2559) rfl rfl (by kernel_rfl) (fun _ _ _ h => h) (by rfl) (by intro w'; go_simp; with_reducible rfl) (by simp only [Act.put, List.setIfInBounds_toArray, List.set_cons_zero, List.set_cons_succ, i64_w, i32_w]; rfl) ?_
  refine tk_ 12 (some 54) (m_ 19 6655) rfl rfl (by kernel_rfl) (fun _ _ _ h => h) (by rfl) (by rintro w' ⟨s0, s1, s2⟩; go_simp; with_reducible rfl) hHeld (by simp only [Act.put, List.setIfInBounds_toArray, List.set_cons_zero, List.set_cons_succ, i64_w, i32_w]; rfl) ?_
  refine one_ (i := 9) (N := some 51) (m_ 19 7167) rfl rfl (by kernel_rfl) (by decide) (fun K hK => ?_)
  refine value_ (w1 := ?_) (v := ?_) (by rfl) rfl ?_ ?_
  rotate_left 2
  · go_simp
    constructor
    · rfl
    · rfl
  have j3 := bcells (((Below.refl W1.heap.size W1).alloc (Nat.le_refl _) (.cells #[.int .u64 x.drawn] 23)).drew) k3
  have j4 := bcells (((Below.refl W1.heap.size W1).alloc (Nat.le_refl _) (.cells #[.int .u64 x.drawn] 23)).drew) k4
  have j5 := bcells (((Below.refl W1.heap.size W1).alloc (Nat.le_refl _) (.cells #[.int .u64 x.drawn] 23)).drew) k5
  refine hK.out _ _ ⟨j3, j4, j5⟩ (fun hHeld => ?_)
  clear hK K
  refine norm_ (a' := ?_) ?_ ?_
  rotate_left
  · show Act.put _ (some 51) _ = _
    simp only [Act.put, List.setIfInBounds_toArray, List.set_cons_zero, List.set_cons_succ, i64_w, i32_w]
    rfl
  refine one_ (i := 10) (N := some 52) (m_ 19 8191) rfl rfl (by kernel_rfl) (by decide) (fun K hK => ?_)
  refine goes_ Try.func37 (by kernel_rfl) rfl #[.int .u64 x.seed, .slice (some ⟨W1.heap.size, 0, none⟩) 1 1] (by rfl) rfl rfl (by simp only [List.map_toArray, List.map_cons, List.map_nil]; rfl) ?_
  with_reducible refine (hstr.out).mono ?_
  rintro e w3 ⟨rfl, hB⟩
  have i3 := bcells hB j3
  have i4 := bcells hB j4
  have i5 := bcells hB j5
  have hB3 := Lib.hid ((((Below.refl W1.heap.size W1).alloc (Nat.le_refl _) (.cells #[.int .u64 x.drawn] 23)).drew).trans (hB.mono (by show W1.heap.size ≤ (W1.alloc (.cells #[.int .u64 x.drawn] 23)).heap.size; simp)))
  clear hB j3 j4 j5
  refine ⟨_, rfl, ?_⟩
  refine hK.out _ _ ⟨i3, i4, i5⟩ (fun hHeld => ?_)
  clear hK K
  refine norm_ (a' := ?_) ?_ ?_
  rotate_left
  · show Act.put _ (some 52) _ = _
    simp only [Act.put, List.setIfInBounds_toArray, List.set_cons_zero, List.set_cons_succ, i64_w, i32_w]
    rfl
  refine one_ (i := 13) (N := some 55) (m_ 19 16383) rfl rfl (by kernel_rfl) (by decide) (fun K hK => ?_)
  refine goes_ Try.func36 (by kernel_rfl) rfl #[.int .u64 (Ref02.streamI (Ref02.mixI (Ref02.stepI x.seed)) [x.drawn]), .int .i64 t3] (by rfl) rfl rfl (by simp only [List.map_toArray, List.map_cons, List.map_nil]; rfl) ?_
  with_reducible refine ((Dice.percent_any _ t3 w3)).mono ?_
  rintro e w4 ⟨rfl, rfl⟩
  refine ⟨_, rfl, ?_⟩
  refine hK.out _ _ ⟨i3, i4, i5⟩ (fun hHeld => ?_)
  clear hK K
  refine norm_ (a' := ?_) ?_ ?_
  rotate_left
  · show Act.put _ (some 55) _ = _
    simp only [Act.put, List.setIfInBounds_toArray, List.set_cons_zero, List.set_cons_succ, i64_w, i32_w]
    rfl
  refine pu_ 14 (some 41) (m_ 19 32767) rfl rfl (by kernel_rfl) (fun _ _ _ h => h) (by rfl) (by intro w'; go_simp; with_reducible rfl) (by simp only [Act.put, List.setIfInBounds_toArray, List.set_cons_zero, List.set_cons_succ, i64_w, i32_w]; rfl) ?_
  refine pu_ 15 (some 56) (m_ 19 65535) rfl rfl (by kernel_rfl) (fun _ _ _ h => h) (by rfl) (by intro w'; go_simp; with_reducible rfl) (by simp only [Act.put, List.setIfInBounds_toArray, List.set_cons_zero, List.set_cons_succ, i64_w, i32_w]; rfl) ?_
  refine pu_ 16 (some 57) (m_ 19 131071) rfl rfl (by kernel_rfl) (fun _ _ _ h => h) (by rfl) (by intro w'; go_simp; with_reducible rfl) (by simp only [Act.put, List.setIfInBounds_toArray, List.set_cons_zero, List.set_cons_succ, i64_w, i32_w]; rfl) ?_
  refine pu_ 17 (some 8) (m_ 19 262143) rfl rfl (by kernel_rfl) (fun _ _ _ h => h) (by rfl) (by intro w'; go_simp; with_reducible rfl) (by simp only [Act.put, List.setIfInBounds_toArray, List.set_cons_zero, List.set_cons_succ, i64_w, i32_w]; rfl) ?_
  refine pu_ 18 (some 9) (m_ 19 524287) rfl rfl (by kernel_rfl) (fun _ _ _ h => h) (by rfl) (by intro w'; go_simp; with_reducible rfl) (by simp only [Act.put, List.setIfInBounds_toArray, List.set_cons_zero, List.set_cons_succ, i64_w, i32_w]; rfl) ?_
  refine done_ (by kernel_rfl) ?_
  clear hHeld k3 k4 k5 hstr hstr0 i3 i4 i5 d1
  have H3 := Lib.hid (H2.out.below hB3.out)
  have hq3 := Lib.hid (hq2.out.below hB3.out)
  have hBw := Lib.hid (hB2.out.trans (hB3.out.mono hB2.out.size))
  clear H2 hq2 hB2 hB3 hcw
  have d4 : w3.cell? ⟨b, 4, none⟩ = some (.int .i64 x.drawn) := (H3.out.cell 4).trans rfl
  have f4 := H3.out.free 4
  have u0 : w3.cell? ⟨w.heap.size, 0, none⟩ = some (.string t0) := (hq3.out.cell 0).trans rfl
  have hbne : b ≠ w.heap.size := H3.out.1.ne hq3.out (by decide)
  have hset5 := H3.out.set 4 (.int .i64 (x.drawn + 1)) { x with drawn := x.drawn + 1 } rfl rfl rfl
  have H5 := Lib.hid hset5.1
  have hq5 := Lib.hid (hq3.out.far (p := ⟨b, 4, none⟩) (fun e => hbne e.symm) (.int .i64 (x.drawn + 1)))
  have hD5 := Lib.hid (show Did F w (w3.setCell ⟨b, 4, none⟩ (.int .i64 (x.drawn + 1))) ∧ Stem F F w from by
    obtain ⟨F0, hL0, hd0, hs0⟩ := hl0.out
    exact ⟨(Did.of_below hBw.out).setCell (p := ⟨b, 4, none⟩) (.inl hset5.2) _, Stem.refl _ _⟩)
  have hdw2 := hdw.out.2
  have hdie0 : Hid (Ref02.hiI (Ref02.streamI (Ref02.mixI (Ref02.stepI x.seed)) [x.drawn]) 100 = Ref02.hiI (dieK x) 100) := Lib.hid rfl
  have hst0 : Hid (Ref02.stepI (Ref02.streamI (Ref02.mixI (Ref02.stepI x.seed)) [x.drawn]) = Ref02.stepI (dieK x)) := Lib.hid rfl
  rw [hdie0.out, hst0.out]
  clear H3 hq3 hset5 hBw
  generalize hst : Ref02.stepI (dieK x) = st
  have hst := Lib.hid hst
  by_cases hdie : Ref02.hiI (dieK x) 100 < t3
  · have td : decide (Ref02.hiI (dieK x) 100 < t3) = true := decide_eq_true hdie
    have hdk : Hid (drawK x ⟨t0, t1, t2, t3, t4, t5⟩ = ⟨t0, t1, t2, t3, t4, t5⟩) := Lib.hid (by unfold drawK; rw [if_pos hdie])
    clear hdie
    go_wp2
    have H6 := H5
    have hq6 := hq5
    have hD6 := hD5
    clear H5 hq5 hD5 d4 f4 u0 hdw2
    generalize w3.setCell ⟨b, 4, none⟩ (.int .i64 (x.drawn + 1)) = w6 at *
    have r0 : w6.cell? ⟨b, 0, none⟩ = some (ptr c) := (H6.out.cell 0).trans rfl
    have r1 : w6.cell? ⟨b, 1, none⟩ = some (.slice A0 x.names.length cp0) := (H6.out.cell 1).trans rfl
    have u0 : w6.cell? ⟨w.heap.size, 0, none⟩ = some (.string t0) := (hq6.out.cell 0).trans rfl
    have u1 : w6.cell? ⟨w.heap.size, 1, none⟩ = some (.int .i64 t1) := (hq6.out.cell 1).trans rfl
    have u2 : w6.cell? ⟨w.heap.size, 2, none⟩ = some (.bool t2) := (hq6.out.cell 2).trans rfl
    have u3 : w6.cell? ⟨w.heap.size, 3, none⟩ = some (.int .i64 t3) := (hq6.out.cell 3).trans rfl
    have u4 : w6.cell? ⟨w.heap.size, 4, none⟩ = some (.int .i64 t4) := (hq6.out.cell 4).trans rfl
    have u5 : w6.cell? ⟨w.heap.size, 5, none⟩ = some (.int .i64 t5) := (hq6.out.cell 5).trans rfl
    have hins := Lib.hid (cInsert_any H6.out.drew.2.1 hoc.out H6.out.2.2.1 (x.names.length : Int) ⟨t0, t1, t2, t3, t4, t5⟩ st now)
    have hqb7 := Lib.hid (fun (w7 : World) (hd : Did F w6.drew w7) => Blk.did (w := w6.drew) hq6.out hd (H6.out.lk.off hq6.out (by decide)))
    refine start_ (n := 13) (S := fun w' => w'.cell? ⟨b, 0, none⟩ = some (ptr c) ∧ w'.cell? ⟨b, 1, none⟩ = some (.slice A0 x.names.length cp0) ∧ w'.cell? ⟨w.heap.size, 0, none⟩ = some (.string t0) ∧ w'.cell? ⟨w.heap.size, 1, none⟩ = some (.int .i64 t1) ∧ w'.cell? ⟨w.heap.size, 2, none⟩ = some (.bool t2) ∧ w'.cell? ⟨w.heap.size, 3, none⟩ = some (.int .i64 t3) ∧ w'.cell? ⟨w.heap.size, 4, none⟩ = some (.int .i64 t4) ∧ w'.cell? ⟨w.heap.size, 5, none⟩ = some (.int .i64 t5)) (ds := []) (m_ 13 0) (by kernel_rfl) rfl (by kernel_rfl) ⟨r0, r1, u0, u1, u2, u3, u4, u5⟩ (fun hHeld => ?_)
    refine pu_ 0 (some 70) (m_ 13 1) rfl rfl (by kernel_rfl) (fun _ _ _ h => h) (by rfl) (by intro w'; go_simp; with_reducible rfl) (by simp only [Act.put, List.setIfInBounds_toArray, List.set_cons_zero, List.set_cons_succ, i64_w, i32_w]; rfl) ?_
    refine pu_ 1 (some 71) (m_ 13 3) rfl rfl (by kernel_rfl) (fun _ _ _ h => h) (by rfl) (by intro w'; go_simp; with_reducible rfl) (by simp only [Act.put, List.setIfInBounds_toArray, List.set_cons_zero, List.set_cons_succ, i64_w, i32_w]; rfl) ?_
    refine pu_ 2 (some 72) (m_ 13 7) rfl rfl (by kernel_rfl) (fun _ _ _ h => h) (by rfl) (by intro w'; go_simp; with_reducible rfl) (by simp only [Act.put, List.setIfInBounds_toArray, List.set_cons_zero, List.set_cons_succ, i64_w, i32_w]; rfl) ?_
    refine pu_ 4 (some 74) (m_ 13 23) rfl rfl (by kernel_rfl) (fun _ _ _ h => h) (by rfl) (by intro w'; go_simp; with_reducible rfl) (by simp only [Act.put, List.setIfInBounds_toArray, List.set_cons_zero, List.set_cons_succ, i64_w, i32_w]; rfl) ?_
    refine pu_ 5 (some 75) (m_ 13 55) rfl rfl (by kernel_rfl) (fun _ _ _ h => h) (by rfl) (by intro w'; go_simp; with_reducible rfl) (by simp only [Act.put, List.setIfInBounds_toArray, List.set_cons_zero, List.set_cons_succ, i64_w, i32_w]; rfl) ?_
    refine pu_ 6 (some 76) (m_ 13 119) rfl rfl (by kernel_rfl) (fun _ _ _ h => h) (by rfl) (by intro w'; go_simp; with_reducible rfl) (by simp only [Act.put, List.setIfInBounds_toArray, List.set_cons_zero, List.set_cons_succ, i64_w, i32_w]; rfl) ?_
    refine pu_ 10 (some 80) (m_ 13 1143) rfl rfl (by kernel_rfl) (fun _ _ _ h => h) (by rfl) (by intro w'; go_simp; with_reducible rfl) (by simp only [Act.put, List.setIfInBounds_toArray, List.set_cons_zero, List.set_cons_succ, i64_w, i32_w]; rfl) ?_
    refine pu_ 11 (some 81) (m_ 13 3191) rfl rfl (by kernel_rfl) (fun _ _ _ h => h) (by rfl) (by intro w'; go_simp; with_reducible rfl) (by simp only [Act.put, List.setIfInBounds_toArray, List.set_cons_zero, List.set_cons_succ, i64_w, i32_w]; rfl) ?_
    refine tk_ 3 (some 73) (m_ 13 3199) rfl rfl (by kernel_rfl) (fun _ _ _ h => h) (by rfl) (by rintro w' ⟨s0, s1, s2, s3, s4, s5, s6, s7⟩; go_simp; with_reducible rfl) hHeld (by simp only [Act.put, List.setIfInBounds_toArray, List.set_cons_zero, List.set_cons_succ, i64_w, i32_w]; rfl) ?_
    refine tk_ 7 (some 77) (m_ 13 3327) rfl rfl (by kernel_rfl) (fun _ _ _ h => h) (by rfl) (by rintro w' ⟨s0, s1, s2, s3, s4, s5, s6, s7⟩; go_simp; with_reducible rfl) hHeld (by simp only [Act.put, List.setIfInBounds_toArray, List.set_cons_zero, List.set_cons_succ, i64_w, i32_w]; rfl) ?_
    refine pu_ 8 (some 78) (m_ 13 3583) rfl rfl (by kernel_rfl) (fun _ _ _ h => h) (by rfl) (by intro w'; go_simp; with_reducible rfl) (by simp only [Act.put, List.setIfInBounds_toArray, List.set_cons_zero, List.set_cons_succ, i64_w, i32_w]; rfl) ?_
    refine tk_ 9 (some 79) (m_ 13 4095) rfl rfl (by kernel_rfl) (fun _ _ _ h => h) (by rfl) (by rintro w' ⟨s0, s1, s2, s3, s4, s5, s6, s7⟩; go_simp; with_reducible rfl) hHeld (by simp only [Act.put, List.setIfInBounds_toArray, List.set_cons_zero, List.set_cons_succ, i64_w, i32_w]; rfl) ?_
    refine one_ (i := 12) (N := some 82) (m_ 13 8191) rfl rfl (by kernel_rfl) (by decide) (fun K hK => ?_)
    refine goes_ Try.func38 (by kernel_rfl) rfl #[ptr c, .int .i64 x.names.length, .agg #[.string t0, .int .i64 t1, .bool t2, .int .i64 t3, .int .i64 t4, .int .i64 t5], .int .u64 st, .int .i64 now] (by rfl) rfl rfl (by simp only [List.map_toArray, List.map_cons, List.map_nil]; rfl) ?_
    with_reducible refine (hins.out).mono ?_
    rintro e w7 ⟨rfl, hT⟩
    obtain ⟨F7, G7, D7, h7, hd7, hs7⟩ := H6.out.drew.turn hT
    have r0 : w7.cell? ⟨b, 0, none⟩ = some (ptr c) := (h7.cell 0).trans rfl
    have r1 : w7.cell? ⟨b, 1, none⟩ = some (.slice A0 x.names.length cp0) := (h7.cell 1).trans rfl
    have hq7 := hqb7.out w7 hd7
    have rq0 := (hq7.cell 0).trans rfl
    have rq1 := (hq7.cell 1).trans rfl
    have rq2 := (hq7.cell 2).trans rfl
    have rq3 := (hq7.cell 3).trans rfl
    have rq4 := (hq7.cell 4).trans rfl
    have rq5 := (hq7.cell 5).trans rfl
    simp only [List.getElem?_toArray, List.getElem?_cons_zero, List.getElem?_cons_succ] at rq0 rq1 rq2 rq3 rq4 rq5
    have H7 := Lib.hid h7
    have hDS7 := Lib.hid (And.intro hd7 hs7)
    clear hT h7 hd7 hs7 hq7
    refine ⟨_, rfl, ?_⟩
    refine hK.out _ _ ⟨r0, r1, rq0, rq1, rq2, rq3, rq4, rq5⟩ (fun hHeld => ?_)
    clear hK K
    refine norm_ (a' := ?_) ?_ ?_
    rotate_left
    · show Act.put _ (some 82) _ = _
      simp only [Act.put, List.setIfInBounds_toArray, List.set_cons_zero, List.set_cons_succ, i64_w, i32_w]
      rfl
    refine done_ (by kernel_rfl) ?_
    clear hHeld r0 r1 u0 u1 u2 u3 u4 u5 rq0 rq1 rq2 rq3 rq4 rq5
    have r1 : w7.cell? ⟨b, 1, none⟩ = some (.slice A0 x.names.length cp0) := (H7.out.cell 1).trans rfl
    have hown : w7.ownsRow 0 9 1 (.slice A0 x.names.length cp0) x.names.length (x.names.map Value.string) := (H7.out.2.2.2.1).owns
    have hsz7 : w.heap.size ≤ w7.heap.size := Nat.le_trans hD6.out.1.size hDS7.out.1.size
    obtain ⟨i0, hi1, hz0, hz1, hz2⟩ := info_parts info_st
    go_wp2_with (at_builtin; refine wpList_append_own_at _ rfl _ _ 41 rfl 0 9 i0 (.string ⟨#[]⟩) 1 16 Try.underlying41 hi1 hz0 hz1 hz2 rfl (by decide) _ _ _ rfl (hown.alloc _) ⟨w7.heap.size, 0, none⟩ 1 1 [.string t0] rfl rfl (cell_one_new _ _ _) (by simp [Value.oneCell']) (by unfold maxLen; omega) (by omega) (by omega) ?_; intro v' w8 hO hG _ hat; obtain ⟨A8, c8, rfl⟩ := own_slice hO; have hG' := Lib.hid hG; have hO' := Lib.hid hO; have hat' := Lib.hid hat; have b8 : w8.cell? ⟨b, 1, none⟩ = some (.slice A0 x.names.length cp0) := (World.cell?_of_block (a := ⟨b, 1, none⟩) (grow_b H7.out hG)).trans r1; have fb8 : w8.frozen? ⟨b, 1, none⟩ = false := (frozen_of_block (grow_b H7.out hG)).trans (H7.out.free 1); clear hG hO hat)
    have hD8 : Did (fun j => (Value.slice A0 x.names.length cp0).ownBlock = some j) w7 w8 := (((Did.refl _ w7).alloc _).trans (Stem.refl _ _) (Did.of_grown hG'.out (fun j e => .inl e)))
    have hN8 : NV w8 (.slice A8 (x.names.length + 1) c8) (x.names ++ [t0]) := NV.of_owns (base := 0) (by rw [List.length_append, List.map_append]; exact hO'.out)
    have hset := H7.out.names hD8 hN8 (fun j e => by
      rcases hat'.out with q | q
      · exact .inl (q ▸ e)
      · rw [q] at e
        injection e with e
        exact .inr (by rw [← e]; simp))
    have hr := Lib.hid (show LTu w F (w8.setCell ⟨b, 1, none⟩ (.slice A8 (x.names.length + 1) c8)) b (addK x ⟨t0, t1, t2, t3, t4, t5⟩ now) from by
      rw [hadd.out _ hdk.out, show Ref02.stepI (dieK x) = st from hst.out]
      exact LTu.next hD6.out.1 hD6.out.2 (LTu.next ((Did.refl F w6).drew.trans (Stem.refl _ _) hDS7.out.1) (show Stem F F7 w6 from fun j hj => hDS7.out.2 j hj) ⟨_, hset.1.lk, hset.2.1, hset.2.2⟩))
    clear hset hN8 hD8 hG' hO' hat' H7 hDS7 H6 hD6
    go_ret
    exact ⟨rfl, hr.out⟩
  · have td : decide (Ref02.hiI (dieK x) 100 < t3) = false := decide_eq_false hdie
    have hdk : Hid (drawK x ⟨t0, t1, t2, t3, t4, t5⟩ = ⟨⟨#[]⟩, 0, false, 0, 0, 0⟩) := Lib.hid (by unfold drawK; rw [if_neg hdie]; rfl)
    clear hdie
    have v0 := (hq5.out.cell 0).trans rfl
    have v1 := (hq5.out.cell 1).trans rfl
    have v2 := (hq5.out.cell 2).trans rfl
    have v3 := (hq5.out.cell 3).trans rfl
    have v4 := (hq5.out.cell 4).trans rfl
    have v5 := (hq5.out.cell 5).trans rfl
    simp only [List.getElem?_toArray, List.getElem?_cons_zero, List.getElem?_cons_succ] at v0 v1 v2 v3 v4 v5
    have fv0 := hq5.out.free 0
    have fv1 := hq5.out.free 1
    have fv2 := hq5.out.free 2
    have fv3 := hq5.out.free 3
    have fv4 := hq5.out.free 4
    have fv5 := hq5.out.free 5
    go_upto_region 12 with (fail)
    generalize hw5 : w3.setCell ⟨b, 4, none⟩ (.int .i64 (x.drawn + 1)) = w5 at *
    clear d4 f4 u0 hdw2
    have hb6 := (((((hq5.out.set_ 0 (.string ⟨#[]⟩)).set_ 1 (.int .i64 0)).set_ 2 (.bool false)).set_ 3 (.int .i64 0)).set_ 4 (.int .i64 0)).set_ 5 (.int .i64 0)
    have hq6 := Lib.hid (show Blk _ w.heap.size 29 #[.string ⟨#[]⟩, .int .i64 0, .bool false, .int .i64 0, .int .i64 0, .int .i64 0] from hb6)
    have k1 := H5.out.far hq5.out (by decide) 0 (.string ⟨#[]⟩)
    have b1 := hq5.out.set_ 0 (.string ⟨#[]⟩)
    have k2 := k1.far b1 (by decide) 1 (.int .i64 0)
    have b2 := b1.set_ 1 (.int .i64 0)
    have k3 := k2.far b2 (by decide) 2 (.bool false)
    have b3 := b2.set_ 2 (.bool false)
    have k4 := k3.far b3 (by decide) 3 (.int .i64 0)
    have b4 := b3.set_ 3 (.int .i64 0)
    have k5 := k4.far b4 (by decide) 4 (.int .i64 0)
    have b5 := b4.set_ 4 (.int .i64 0)
    have H6 := Lib.hid (k5.far b5 (by decide) 5 (.int .i64 0))
    have hD6 := Lib.hid (show Did F w _ ∧ Stem F F w from ⟨(((((hD5.out.1.setCell (p := ⟨w.heap.size, 0, none⟩) (.inr (Nat.le_refl _)) (.string ⟨#[]⟩)).setCell (p := ⟨w.heap.size, 1, none⟩) (.inr (Nat.le_refl _)) (.int .i64 0)).setCell (p := ⟨w.heap.size, 2, none⟩) (.inr (Nat.le_refl _)) (.bool false)).setCell (p := ⟨w.heap.size, 3, none⟩) (.inr (Nat.le_refl _)) (.int .i64 0)).setCell (p := ⟨w.heap.size, 4, none⟩) (.inr (Nat.le_refl _)) (.int .i64 0)).setCell (p := ⟨w.heap.size, 5, none⟩) (.inr (Nat.le_refl _)) (.int .i64 0), Stem.refl _ _⟩)
    clear hb6 k1 b1 k2 b2 k3 b3 k4 b4 k5 b5 H5 hq5 hD5
    go_wp2
    clear v0 v1 v2 v3 v4 v5 fv0 fv1 fv2 fv3 fv4 fv5
    generalize (((((w5.setCell ⟨w.heap.size, 0, none⟩ (.string ⟨#[]⟩)).setCell ⟨w.heap.size, 1, none⟩ (.int .i64 0)).setCell ⟨w.heap.size, 2, none⟩ (.bool false)).setCell ⟨w.heap.size, 3, none⟩ (.int .i64 0)).setCell ⟨w.heap.size, 4, none⟩ (.int .i64 0)).setCell ⟨w.heap.size, 5, none⟩ (.int .i64 0) = w6 at *
    have r0 : w6.cell? ⟨b, 0, none⟩ = some (ptr c) := (H6.out.cell 0).trans rfl
    have r1 : w6.cell? ⟨b, 1, none⟩ = some (.slice A0 x.names.length cp0) := (H6.out.cell 1).trans rfl
    have u0 : w6.cell? ⟨w.heap.size, 0, none⟩ = some (.string ⟨#[]⟩) := (hq6.out.cell 0).trans rfl
    have u1 : w6.cell? ⟨w.heap.size, 1, none⟩ = some (.int .i64 0) := (hq6.out.cell 1).trans rfl
    have u2 : w6.cell? ⟨w.heap.size, 2, none⟩ = some (.bool false) := (hq6.out.cell 2).trans rfl
    have u3 : w6.cell? ⟨w.heap.size, 3, none⟩ = some (.int .i64 0) := (hq6.out.cell 3).trans rfl
    have u4 : w6.cell? ⟨w.heap.size, 4, none⟩ = some (.int .i64 0) := (hq6.out.cell 4).trans rfl
    have u5 : w6.cell? ⟨w.heap.size, 5, none⟩ = some (.int .i64 0) := (hq6.out.cell 5).trans rfl
    have hins := Lib.hid (cInsert_any H6.out.drew.2.1 hoc.out H6.out.2.2.1 (x.names.length : Int) ⟨⟨#[]⟩, 0, false, 0, 0, 0⟩ st now)
    have hqb7 := Lib.hid (fun (w7 : World) (hd : Did F w6.drew w7) => Blk.did (w := w6.drew) hq6.out hd (H6.out.lk.off hq6.out (by decide)))
    refine start_ (n := 13) (S := fun w' => w'.cell? ⟨b, 0, none⟩ = some (ptr c) ∧ w'.cell? ⟨b, 1, none⟩ = some (.slice A0 x.names.length cp0) ∧ w'.cell? ⟨w.heap.size, 0, none⟩ = some (.string ⟨#[]⟩) ∧ w'.cell? ⟨w.heap.size, 1, none⟩ = some (.int .i64 0) ∧ w'.cell? ⟨w.heap.size, 2, none⟩ = some (.bool false) ∧ w'.cell? ⟨w.heap.size, 3, none⟩ = some (.int .i64 0) ∧ w'.cell? ⟨w.heap.size, 4, none⟩ = some (.int .i64 0) ∧ w'.cell? ⟨w.heap.size, 5, none⟩ = some (.int .i64 0)) (ds := []) (m_ 13 0) (by kernel_rfl) rfl (by kernel_rfl) ⟨r0, r1, u0, u1, u2, u3, u4, u5⟩ (fun hHeld => ?_)
    refine pu_ 0 (some 70) (m_ 13 1) rfl rfl (by kernel_rfl) (fun _ _ _ h => h) (by rfl) (by intro w'; go_simp; with_reducible rfl) (by simp only [Act.put, List.setIfInBounds_toArray, List.set_cons_zero, List.set_cons_succ, i64_w, i32_w]; rfl) ?_
    refine pu_ 1 (some 71) (m_ 13 3) rfl rfl (by kernel_rfl) (fun _ _ _ h => h) (by rfl) (by intro w'; go_simp; with_reducible rfl) (by simp only [Act.put, List.setIfInBounds_toArray, List.set_cons_zero, List.set_cons_succ, i64_w, i32_w]; rfl) ?_
    refine pu_ 2 (some 72) (m_ 13 7) rfl rfl (by kernel_rfl) (fun _ _ _ h => h) (by rfl) (by intro w'; go_simp; with_reducible rfl) (by simp only [Act.put, List.setIfInBounds_toArray, List.set_cons_zero, List.set_cons_succ, i64_w, i32_w]; rfl) ?_
    refine pu_ 4 (some 74) (m_ 13 23) rfl rfl (by kernel_rfl) (fun _ _ _ h => h) (by rfl) (by intro w'; go_simp; with_reducible rfl) (by simp only [Act.put, List.setIfInBounds_toArray, List.set_cons_zero, List.set_cons_succ, i64_w, i32_w]; rfl) ?_
    refine pu_ 5 (some 75) (m_ 13 55) rfl rfl (by kernel_rfl) (fun _ _ _ h => h) (by rfl) (by intro w'; go_simp; with_reducible rfl) (by simp only [Act.put, List.setIfInBounds_toArray, List.set_cons_zero, List.set_cons_succ, i64_w, i32_w]; rfl) ?_
    refine pu_ 6 (some 76) (m_ 13 119) rfl rfl (by kernel_rfl) (fun _ _ _ h => h) (by rfl) (by intro w'; go_simp; with_reducible rfl) (by simp only [Act.put, List.setIfInBounds_toArray, List.set_cons_zero, List.set_cons_succ, i64_w, i32_w]; rfl) ?_
    refine pu_ 10 (some 80) (m_ 13 1143) rfl rfl (by kernel_rfl) (fun _ _ _ h => h) (by rfl) (by intro w'; go_simp; with_reducible rfl) (by simp only [Act.put, List.setIfInBounds_toArray, List.set_cons_zero, List.set_cons_succ, i64_w, i32_w]; rfl) ?_
    refine pu_ 11 (some 81) (m_ 13 3191) rfl rfl (by kernel_rfl) (fun _ _ _ h => h) (by rfl) (by intro w'; go_simp; with_reducible rfl) (by simp only [Act.put, List.setIfInBounds_toArray, List.set_cons_zero, List.set_cons_succ, i64_w, i32_w]; rfl) ?_
    refine tk_ 3 (some 73) (m_ 13 3199) rfl rfl (by kernel_rfl) (fun _ _ _ h => h) (by rfl) (by rintro w' ⟨s0, s1, s2, s3, s4, s5, s6, s7⟩; go_simp; with_reducible rfl) hHeld (by simp only [Act.put, List.setIfInBounds_toArray, List.set_cons_zero, List.set_cons_succ, i64_w, i32_w]; rfl) ?_
    refine tk_ 7 (some 77) (m_ 13 3327) rfl rfl (by kernel_rfl) (fun _ _ _ h => h) (by rfl) (by rintro w' ⟨s0, s1, s2, s3, s4, s5, s6, s7⟩; go_simp; with_reducible rfl) hHeld (by simp only [Act.put, List.setIfInBounds_toArray, List.set_cons_zero, List.set_cons_succ, i64_w, i32_w]; rfl) ?_
    refine pu_ 8 (some 78) (m_ 13 3583) rfl rfl (by kernel_rfl) (fun _ _ _ h => h) (by rfl) (by intro w'; go_simp; with_reducible rfl) (by simp only [Act.put, List.setIfInBounds_toArray, List.set_cons_zero, List.set_cons_succ, i64_w, i32_w]; rfl) ?_
    refine tk_ 9 (some 79) (m_ 13 4095) rfl rfl (by kernel_rfl) (fun _ _ _ h => h) (by rfl) (by rintro w' ⟨s0, s1, s2, s3, s4, s5, s6, s7⟩; go_simp; with_reducible rfl) hHeld (by simp only [Act.put, List.setIfInBounds_toArray, List.set_cons_zero, List.set_cons_succ, i64_w, i32_w]; rfl) ?_
    refine one_ (i := 12) (N := some 82) (m_ 13 8191) rfl rfl (by kernel_rfl) (by decide) (fun K hK => ?_)
    refine goes_ Try.func38 (by kernel_rfl) rfl #[ptr c, .int .i64 x.names.length, .agg #[.string ⟨#[]⟩, .int .i64 0, .bool false, .int .i64 0, .int .i64 0, .int .i64 0], .int .u64 st, .int .i64 now] (by rfl) rfl rfl (by simp only [List.map_toArray, List.map_cons, List.map_nil]; rfl) ?_
    with_reducible refine (hins.out).mono ?_
    rintro e w7 ⟨rfl, hT⟩
    obtain ⟨F7, G7, D7, h7, hd7, hs7⟩ := H6.out.drew.turn hT
    have r0 : w7.cell? ⟨b, 0, none⟩ = some (ptr c) := (h7.cell 0).trans rfl
    have r1 : w7.cell? ⟨b, 1, none⟩ = some (.slice A0 x.names.length cp0) := (h7.cell 1).trans rfl
    have hq7 := hqb7.out w7 hd7
    have rq0 := (hq7.cell 0).trans rfl
    have rq1 := (hq7.cell 1).trans rfl
    have rq2 := (hq7.cell 2).trans rfl
    have rq3 := (hq7.cell 3).trans rfl
    have rq4 := (hq7.cell 4).trans rfl
    have rq5 := (hq7.cell 5).trans rfl
    simp only [List.getElem?_toArray, List.getElem?_cons_zero, List.getElem?_cons_succ] at rq0 rq1 rq2 rq3 rq4 rq5
    have H7 := Lib.hid h7
    have hDS7 := Lib.hid (And.intro hd7 hs7)
    clear hT h7 hd7 hs7 hq7
    refine ⟨_, rfl, ?_⟩
    refine hK.out _ _ ⟨r0, r1, rq0, rq1, rq2, rq3, rq4, rq5⟩ (fun hHeld => ?_)
    clear hK K
    refine norm_ (a' := ?_) ?_ ?_
    rotate_left
    · show Act.put _ (some 82) _ = _
      simp only [Act.put, List.setIfInBounds_toArray, List.set_cons_zero, List.set_cons_succ, i64_w, i32_w]
      rfl
    refine done_ (by kernel_rfl) ?_
    clear hHeld r0 r1 u0 u1 u2 u3 u4 u5 rq0 rq1 rq2 rq3 rq4 rq5
    have r1 : w7.cell? ⟨b, 1, none⟩ = some (.slice A0 x.names.length cp0) := (H7.out.cell 1).trans rfl
    have hown : w7.ownsRow 0 9 1 (.slice A0 x.names.length cp0) x.names.length (x.names.map Value.string) := (H7.out.2.2.2.1).owns
    have hsz7 : w.heap.size ≤ w7.heap.size := Nat.le_trans hD6.out.1.size hDS7.out.1.size
    obtain ⟨i0, hi1, hz0, hz1, hz2⟩ := info_parts info_st
    go_wp2_with (at_builtin; refine wpList_append_own_at _ rfl _ _ 41 rfl 0 9 i0 (.string ⟨#[]⟩) 1 16 Try.underlying41 hi1 hz0 hz1 hz2 rfl (by decide) _ _ _ rfl (hown.alloc _) ⟨w7.heap.size, 0, none⟩ 1 1 [.string t0] rfl rfl (cell_one_new _ _ _) (by simp [Value.oneCell']) (by unfold maxLen; omega) (by omega) (by omega) ?_; intro v' w8 hO hG _ hat; obtain ⟨A8, c8, rfl⟩ := own_slice hO; have hG' := Lib.hid hG; have hO' := Lib.hid hO; have hat' := Lib.hid hat; have b8 : w8.cell? ⟨b, 1, none⟩ = some (.slice A0 x.names.length cp0) := (World.cell?_of_block (a := ⟨b, 1, none⟩) (grow_b H7.out hG)).trans r1; have fb8 : w8.frozen? ⟨b, 1, none⟩ = false := (frozen_of_block (grow_b H7.out hG)).trans (H7.out.free 1); clear hG hO hat)
    have hD8 : Did (fun j => (Value.slice A0 x.names.length cp0).ownBlock = some j) w7 w8 := (((Did.refl _ w7).alloc _).trans (Stem.refl _ _) (Did.of_grown hG'.out (fun j e => .inl e)))
    have hN8 : NV w8 (.slice A8 (x.names.length + 1) c8) (x.names ++ [t0]) := NV.of_owns (base := 0) (by rw [List.length_append, List.map_append]; exact hO'.out)
    have hset := H7.out.names hD8 hN8 (fun j e => by
      rcases hat'.out with q | q
      · exact .inl (q ▸ e)
      · rw [q] at e
        injection e with e
        exact .inr (by rw [← e]; simp))
    have hr := Lib.hid (show LTu w F (w8.setCell ⟨b, 1, none⟩ (.slice A8 (x.names.length + 1) c8)) b (addK x ⟨t0, t1, t2, t3, t4, t5⟩ now) from by
      rw [hadd.out _ hdk.out, show Ref02.stepI (dieK x) = st from hst.out]
      exact LTu.next hD6.out.1 hD6.out.2 (LTu.next ((Did.refl F w6).drew.trans (Stem.refl _ _) hDS7.out.1) (show Stem F F7 w6 from fun j hj => hDS7.out.2 j hj) ⟨_, hset.1.lk, hset.2.1, hset.2.2⟩))
    clear hset hN8 hD8 hG' hO' hat' H7 hDS7 H6 hD6
    go_ret
    exact ⟨rfl, hr.out⟩
theorem kAdd_any (h : LK w F b x) (ho : OkK x M Q) (t : Tox) (now : Int) :
    Calls Try.prog 19 #[ptr b, t.v, .int .i64 now] w fun e w' => e = .returned (.int .i64 (addE x t)) ∧ LTu w F w' b (addK x t now) := by
  obtain ⟨t0, t1, t2, t3, t4, t5⟩ := t
  have keep : ∀ (c1 : addsB x ⟨t0, t1, t2, t3, t4, t5⟩ = false), addK x ⟨t0, t1, t2, t3, t4, t5⟩ now = x := fun c1 => by unfold addK; rw [c1]; rfl
  by_cases hz : chk ⟨t0, t1, t2, t3, t4, t5⟩ = 0
  · by_cases hu : t2 = x.up
    · have hE : addE x ⟨t0, t1, t2, t3, t4, t5⟩ = if (idxN x.names t0).isSome = true then 141 else if 8 ≤ x.names.length then 110 else 0 := by
        unfold addE
        rw [if_neg (by rintro (e | e); exact e hz; exact e hu)]
      rw [hE]
      cases hi : (idxN x.names t0).isSome with
      | true =>
        rw [if_pos rfl, keep (by unfold addsB; rw [hi]; simp)]
        exact add_there h ho t0 t1 t2 t3 t4 t5 now hz hu hi
      | false =>
        rw [if_neg (by decide)]
        by_cases hf : 8 ≤ x.names.length
        · rw [if_pos hf, keep (by unfold addsB; rw [decide_eq_false (show ¬ x.names.length < 8 by omega)]; simp)]
          exact add_full h ho t0 t1 t2 t3 t4 t5 now hz hu hi hf
        · rw [if_neg hf]
          exact add_in h ho t0 t1 t2 t3 t4 t5 now hz hu hi (by omega)
    · have hE : addE x ⟨t0, t1, t2, t3, t4, t5⟩ = 0 := by unfold addE; rw [if_pos (.inr hu)]; exact hz
      rw [hE, keep (by unfold addsB; rw [decide_eq_false (show ¬ (chk ⟨t0, t1, t2, t3, t4, t5⟩ = 0 ∧ t2 = x.up) from fun e => hu e.2)]; rfl)]
      exact add_other h ho t0 t1 t2 t3 t4 t5 now hz hu
  · have hE : addE x ⟨t0, t1, t2, t3, t4, t5⟩ = chk ⟨t0, t1, t2, t3, t4, t5⟩ := by unfold addE; rw [if_pos (.inl hz)]
    rw [hE, keep (by unfold addsB; rw [decide_eq_false (show ¬ (chk ⟨t0, t1, t2, t3, t4, t5⟩ = 0 ∧ t2 = x.up) from fun e => hz e.1)]; rfl)]
    exact add_bad h ho t0 t1 t2 t3 t4 t5 now hz
end Go.Proofs.Ytoiibmcbjjnpbaa.Link
namespace Go.Proofs.Ytoiibmcbjjnpbaa.Link
open Go.RowKit Mem Tick Cargo Toxic Stage Chain
set_option maxRecDepth 100000
set_option linter.unusedVariables false
set_option linter.unusedSimpArgs false
def Toxs (w : World) (v : Value) (l : List Tox) : Prop :=
  ∃ a cap, v = .slice a l.length cap ∧ l.length ≤ 9223372036854775807 ∧ l.length ≤ cap ∧ (l ≠ [] → ∃ g o, a = some ⟨g, o, none⟩ ∧ ∀ j t, l[j]? = some t → w.cell? ⟨g, o + j * 6, none⟩ = some (.string t.name) ∧ w.cell? ⟨g, o + j * 6 + 1, none⟩ = some (.int .i64 t.kind) ∧ w.cell? ⟨g, o + j * 6 + 2, none⟩ = some (.bool t.up) ∧ w.cell? ⟨g, o + j * 6 + 3, none⟩ = some (.int .i64 t.often) ∧ w.cell? ⟨g, o + j * 6 + 4, none⟩ = some (.int .i64 t.a) ∧ w.cell? ⟨g, o + j * 6 + 5, none⟩ = some (.int .i64 t.b))
theorem Toxs.below {w w' : World} {v : Value} {l : List Tox} (h : Toxs w v l) (hb : Below w.heap.size w w') : Toxs w' v l := by
  obtain ⟨a, cap, h1, h2, h3, h4⟩ := h
  refine ⟨a, cap, h1, h2, h3, fun hn => ?_⟩
  obtain ⟨g, o, e, hc⟩ := h4 hn
  refine ⟨g, o, e, fun j t ht => ?_⟩
  obtain ⟨c0, c1, c2, c3, c4, c5⟩ := hc j t ht
  exact ⟨bcells hb c0, bcells hb c1, bcells hb c2, bcells hb c3, bcells hb c4, bcells hb c5⟩
theorem same_any (t : Tox) (g : Nat) (n : ByteArray) (w : World) (hc : w.cell? ⟨g, 0, none⟩ = some (.string n)) :
    Calls Try.prog 34 #[t.v, ptr g] w fun e w' => e = .returned (.bool (t.name.toList == n.toList)) ∧ Below w.heap.size w w' := by
  obtain ⟨t0, t1, t2, t3, t4, t5⟩ := t
  have hl := World.block_lt_of_cell? w _ hc
  have hl2 : g < w.heap.size := hl
  have hne : g ≠ w.heap.size := by omega
  have hB := Lib.hid ((Below.refl w.heap.size w).alloc (Nat.le_refl _) (.cells #[.string t0, .int .i64 t1, .bool t2, .int .i64 t3, .int .i64 t4, .int .i64 t5] 29))
  have hc2 := bcells hB.out hc
  go_enter Try.func34, Try.ntmps34
  go_wp2
  go_ret
  exact ⟨rfl, hB.out⟩
def hasB (l : List Tox) (n : ByteArray) : Bool := l.any fun x => x.name.toList == n.toList
theorem hasB_succ {l : List Tox} {k : Nat} {t : Tox} (h : l[k]? = some t) (n : ByteArray) : hasB (l.take (k + 1)) n = (hasB (l.take k) n || (t.name.toList == n.toList)) := by
  unfold hasB
  rw [List.take_add_one, h, List.any_append]
  simp
theorem indexF_any (w : World) (v : Value) (l : List Tox) (g : Nat) (n : ByteArray) (hv : Toxs w v l) (hc : w.cell? ⟨g, 0, none⟩ = some (.string n)) :
    Calls Try.prog 57 #[v, .func (.func 34) #[] #[ptr g]] w fun e w' => (∃ i : Int, e = .returned (.int .i64 i) ∧ (decide (0 ≤ i) = hasB l n)) ∧ Below w.heap.size w w' := by
  obtain ⟨a, cap, rfl, hmx, hcp, hA⟩ := hv
  have hs := Lib.hid (fun (t : Tox) (wy : World) (hb : Below w.heap.size w wy) => same_any t g n wy (bcells hb hc))
  clear hc
  go_enter Try.func57, Try.ntmps57
  go_wp2
  go_loopw [8] (fun iv wr => ∃ k : Nat, k ≤ l.length ∧ iv = .int .i64 k ∧ Below w.heap.size w wr ∧ hasB (l.take k) n = false) (fun iv _ => l.length - (intOf iv).toNat)
  case atStart => exact ⟨0, by omega, rfl, Below.refl _ _, rfl⟩
  case round =>
    obtain ⟨k, hk, rfl, hB, hno⟩ := hrel
    by_cases hlt : k < l.length
    · obtain ⟨g2, o, rfl, hc⟩ := hA (by intro h; subst h; simp at hlt)
      have hx : l[k]? = some l[k] := List.getElem?_eq_getElem hlt
      obtain ⟨d0, d1, d2, d3, d4, d5⟩ := hc k _ hx
      have hsucc := Lib.hid (hasB_succ hx n)
      rw [hno, Bool.false_or] at hsucc
      have hmem := Lib.hid (show ∀ (t : Tox), l[k]? = some t → (t.name.toList == n.toList) = true → hasB l n = true from fun t ht e => List.any_eq_true.2 ⟨t, List.mem_of_getElem? ht, e⟩)
      have hx' := Lib.hid hx
      generalize l[k] = p at *
      obtain ⟨t0, t1, t2, t3, t4, t5⟩ := p
      dsimp only at *
      have d0' := bcells hB d0
      have d1' := bcells hB d1
      have d2' := bcells hB d2
      have d3' := bcells hB d3
      have d4' := bcells hB d4
      have d5' := bcells hB d5
      have hB' := Lib.hid hB
      clear hc hx hA d0 d1 d2 d3 d4 d5 hB hno
      go_wp2_with fail
      refine (hs.out ⟨t0, t1, t2, t3, t4, t5⟩ _ hB'.out).mono ?_
      rintro e w2 ⟨rfl, hB2⟩
      have hB3 := Lib.hid (bw_below hB'.out hB2)
      clear hB2
      cases he : (t0.toList == n.toList) with
      | true =>
        have hr := Lib.hid (show hasB l n = true from hmem.out _ hx'.out he)
        clear hsucc hmem he
        go_wp2
        go_ret
        exact ⟨⟨_, rfl, by rw [hr.out]; simp⟩, hB3.out⟩
      | false =>
        have hr := Lib.hid (show hasB (l.take (k + 1)) n = false from by rw [hsucc.out]; exact he)
        clear hsucc hmem he
        go_wp2
        go_roundw
        case rel => exact ⟨k + 1, by omega, by go_num, hB3.out, hr.out⟩
        case measure => simp [intOf]; omega
    · have hk2 : k = l.length := by omega
      subst hk2
      have hnl : ¬ (l.length < l.length) := by omega
      rw [List.take_length] at hno
      have hr := Lib.hid hno
      clear hno hA
      go_wp2
      go_ret
      exact ⟨⟨_, rfl, by rw [hr.out]; rfl⟩, hB⟩
theorem containsF_any (w : World) (v : Value) (l : List Tox) (g : Nat) (n : ByteArray) (hv : Toxs w v l) (hc : w.cell? ⟨g, 0, none⟩ = some (.string n)) :
    Calls Try.prog 33 #[v, .func (.func 34) #[] #[ptr g]] w fun e w' => e = .returned (.bool (hasB l n)) ∧ Below w.heap.size w w' := by
  have hh := Lib.hid (indexF_any w v l g n hv hc)
  clear hv hc
  go_enter Try.func33, Try.ntmps33
  go_wp2_with fail
  refine hh.out.mono ?_
  rintro e w2 ⟨⟨i, rfl, hi⟩, hB2⟩
  have hi' := Lib.hid hi
  have hB3 := Lib.hid hB2
  clear hh hi hB2
  go_wp2
  go_ret
  exact ⟨by rw [← hi'.out]; rfl, hB3.out⟩
theorem Toxs.take {w : World} {a : Option Addr} {cap : Nat} {l : List Tox} (h : Toxs w (.slice a l.length cap) l) {k : Nat} (hk : k ≤ l.length) : Toxs w (.slice a k cap) (l.take k) := by
  obtain ⟨a', cap', he, h2, h3, h4⟩ := h
  injection he with e1 e2 e3
  subst e1 e3
  have hl : (l.take k).length = k := by rw [List.length_take]; omega
  refine ⟨a, cap, by rw [hl], by omega, by omega, fun hn => ?_⟩
  obtain ⟨g, o, e, hc⟩ := h4 (by rintro rfl; simp at hn)
  refine ⟨g, o, e, fun j t ht => hc j t ?_⟩
  rw [List.getElem?_take] at ht
  split at ht
  · exact ht
  · cases ht
def dblN (l : List Tox) : Nat → Bool
  | 0 => false
  | k + 1 => dblN l k || (match l[k]? with | some t => hasB (l.take k) t.name | none => false)
def dblB (l : List Tox) : Bool := dblN l l.length
theorem dblN_mono {l : List Tox} {k m : Nat} (h : dblN l k = true) (hm : k ≤ m) : dblN l m = true := by
  induction m with
  | zero => have : k = 0 := by omega
            subst this; exact h
  | succ m ih =>
    by_cases e : k = m + 1
    · subst e; exact h
    · unfold dblN; rw [ih (by omega)]; rfl
theorem doubles_any (w : World) (v : Value) (l : List Tox) (hv : Toxs w v l) :
    Calls Try.prog 18 #[v] w fun e w' => e = .returned (.bool (dblB l)) ∧ Below w.heap.size w w' := by
  have hv0 := Lib.hid hv
  obtain ⟨a, cap, rfl, hmx, hcp, hA⟩ := hv
  go_enter Try.func18, Try.ntmps18
  go_wp2
  go_loopw [7] (fun iv wr => ∃ k : Nat, k ≤ l.length ∧ iv = .int .i64 k ∧ Below w.heap.size w wr ∧ dblN l k = false) (fun iv _ => l.length - (intOf iv).toNat)
  case atStart => exact ⟨0, by omega, rfl, Below.refl _ _, rfl⟩
  case round =>
    obtain ⟨k, hk, rfl, hB, hno⟩ := hrel
    by_cases hlt : k < l.length
    · have hpre := Lib.hid ((hv0.out.below hB).take hk)
      obtain ⟨g2, o, rfl, hc⟩ := hA (by intro h; subst h; simp at hlt)
      have hx : l[k]? = some l[k] := List.getElem?_eq_getElem hlt
      obtain ⟨d0, d1, d2, d3, d4, d5⟩ := hc k _ hx
      have hsucc := Lib.hid (show dblN l (k + 1) = hasB (l.take k) (l[k]).name from by show (dblN l k || _) = _; rw [hno, hx]; rfl)
      generalize l[k] = p at *
      obtain ⟨t0, t1, t2, t3, t4, t5⟩ := p
      dsimp only at *
      have d0' := bcells hB d0
      have d1' := bcells hB d1
      have d2' := bcells hB d2
      have d3' := bcells hB d3
      have d4' := bcells hB d4
      have d5' := bcells hB d5
      have hB1 := Lib.hid (hB.alloc hB.size (.cells #[.string t0, .int .i64 t1, .bool t2, .int .i64 t3, .int .i64 t4, .int .i64 t5] 29))
      have hcon := Lib.hid (containsF_any (wr.alloc (.cells #[.string t0, .int .i64 t1, .bool t2, .int .i64 t3, .int .i64 t4, .int .i64 t5] 29)) (.slice (some ⟨g2, o, none⟩) k cap) (l.take k) wr.heap.size t0 (hpre.out.below ((Below.refl _ _).alloc (Nat.le_refl _) _)) (((Blk.new wr 29 #[.string t0, .int .i64 t1, .bool t2, .int .i64 t3, .int .i64 t4, .int .i64 t5]).cell 0).trans rfl))
      have hkc : k ≤ cap := by omega
      have hkc2 : (k : Int) ≤ (cap : Int) := by omega
      have hmono := Lib.hid (fun h => show dblB l = true from dblN_mono (l := l) (k := k + 1) h (by omega))
      clear hc hx hA d0 d1 d2 d3 d4 d5 hB hno hpre
      go_wp2_with fail
      refine hcon.out.mono ?_
      rintro e w2 ⟨rfl, hB2⟩
      have hB3 := Lib.hid (bw_below hB1.out hB2)
      clear hB2 hB1
      cases he : hasB (l.take k) t0 with
      | true =>
        have hr := Lib.hid (hmono.out (by rw [hsucc.out]; exact he))
        clear hsucc hmono he hcon
        go_wp2
        go_ret
        exact ⟨by rw [hr.out]; rfl, hB3.out⟩
      | false =>
        have hr := Lib.hid (show dblN l (k + 1) = false from by rw [hsucc.out]; exact he)
        clear hsucc hmono he hcon
        go_wp2
        go_roundw
        case rel => exact ⟨k + 1, by omega, by go_num, hB3.out, hr.out⟩
        case measure => simp [intOf]; omega
    · have hk2 : k = l.length := by omega
      subst hk2
      have hnl : ¬ (l.length < l.length) := by omega
      have hr := Lib.hid (show dblB l = false from hno)
      clear hno hA
      go_wp2
      go_ret
      exact ⟨by rw [hr.out]; rfl, hB⟩
/-! what lives -/
def LiveK (w wr : World) (b : Nat) (x : Lk) : Prop := ∃ F, LK wr F b x ∧ (∀ j, F j → w.heap.size ≤ j) ∧ Below w.heap.size w wr
def KeepK (wr w2 : World) : Prop := ∀ g t cs, Blk wr g t cs → t ∉ lts → Blk w2 g t cs
variable {w wr w2 w1 : World} {F : Nat → Prop} {b : Nat} {x y : Lk} {M Q : Int}
theorem LiveK.old (h : LiveK w wr b x) : Below w.heap.size w wr := by obtain ⟨F, _, _, hb⟩ := h; exact hb
theorem LiveK.below (h : LiveK w wr b x) (hb : Below wr.heap.size wr w2) : LiveK w w2 b x := by
  obtain ⟨F, hC, hF, hB⟩ := h
  exact ⟨F, hC.below hb, hF, hB.trans (hb.mono hB.size)⟩
theorem LiveK.turn (hC : LK wr F b x) (hF : ∀ j, F j → w.heap.size ≤ j) (hB : Below w.heap.size w wr) (h : LTu wr F w2 b y) : LiveK w w2 b y ∧ KeepK wr w2 := by
  obtain ⟨F', hC2, hd, hs⟩ := h
  exact ⟨⟨F', hC2, fun j hj => (hs j hj).elim (hF j) (fun h => Nat.le_trans hB.size h), hB.trans (hd.below hB.size hF)⟩, fun g t cs hb ht => hb.did hd (hC.off hb ht)⟩
def firstE : List Tox → Int
  | [] => 0
  | t :: r => if chk t ≠ 0 then chk t else firstE r
theorem first_succ {l : List Tox} {k : Nat} {t : Tox} (h : l[k]? = some t) (hk : firstE (l.take k) = 0) : firstE (l.take (k + 1)) = chk t := by
  induction l generalizing k with
  | nil => simp at h
  | cons u r ih =>
    cases k with
    | zero =>
      injection h with h
      subst h
      simp [firstE]
      intro e
      omega
    | succ k =>
      simp only [List.take_succ_cons, firstE] at hk ⊢
      split at hk
      · omega
      · rename_i hu
        rw [if_neg hu]
        exact ih h hk
theorem first_mono {l : List Tox} {k : Nat} (h : firstE (l.take k) ≠ 0) : firstE l = firstE (l.take k) := by
  induction l generalizing k with
  | nil => simp
  | cons u r ih =>
    cases k with
    | zero => exact absurd rfl h
    | succ k =>
      simp only [List.take_succ_cons, firstE] at h ⊢
      split at h
      · rename_i hu; rw [if_pos hu, if_pos hu]
      · rename_i hu; rw [if_neg hu, if_neg hu]; exact ih h
def linkE (l : List Tox) (room : Int) : Int := if roomOk room = false ∨ 8 < l.length then 1 else if firstE l ≠ 0 then firstE l else if dblB l = true then 141 else 0
def link0 (up : Bool) (seed room now : Int) : Lk := ⟨newC room now, [], up, seed, 0, 0, 0, false⟩
def linkN (l : List Tox) (up : Bool) (seed room now : Int) : Lk := l.foldl (fun x t => addK x t now) (link0 up seed room now)
theorem ok_link0 (up : Bool) (seed room now : Int) (h : roomOk room = true) (h0 : 0 ≤ seed) (h1 : seed < 18446744073709551616) : OkK (link0 up seed room now) 0 0 :=
  ⟨ok_newC room now h, rfl, Int.le_refl 0, (by decide : (0 : Int) ≤ 1000000000), h0, h1, Int.le_refl 0, Int.le_refl 0⟩
theorem drawn_add (x : Lk) (t : Tox) (now : Int) : (addK x t now).drawn ≤ x.drawn + 1 := by
  unfold addK
  split
  · exact Int.le_refl _
  · omega
theorem ok_fold (now : Int) : ∀ (l : List Tox) (x : Lk), OkK x 0 0 → x.drawn + l.length ≤ 1000 → OkK (l.foldl (fun x t => addK x t now) x) 0 0 ∧ (l.foldl (fun x t => addK x t now) x).drawn ≤ x.drawn + l.length
  | [], x, h, hd => ⟨h, by simp⟩
  | t :: r, x, h, hd => by
    rw [List.length_cons] at hd
    have h1 := drawn_add x t now
    obtain ⟨h2, h3⟩ := ok_fold now r (addK x t now) (h.add (Int.le_refl 0) (by omega) t now) (by omega)
    exact ⟨h2, by rw [List.foldl_cons, List.length_cons]; omega⟩
theorem ok_linkN (l : List Tox) (up : Bool) (seed room now : Int) (h : roomOk room = true) (h0 : 0 ≤ seed) (h1 : seed < 18446744073709551616) (hl : l.length ≤ 8) : OkK (linkN l up seed room now) 0 0 ∧ (linkN l up seed room now).drawn ≤ 8 := by
  have := ok_fold now l _ (ok_link0 up seed room now h h0 h1) (by show (0 : Int) + l.length ≤ 1000; omega)
  exact ⟨this.1, by have h2 := this.2; have h3 : (link0 up seed room now).drawn = 0 := rfl; unfold linkN; omega⟩
theorem new_bad (v : Value) (l : List Tox) (up : Bool) (seed room now : Int) (w : World) (hv : Toxs w v l) (hr : roomOk room = false) :
    Calls Try.prog 7 #[v, .bool up, .int .u64 seed, .int .i64 room, .int .i64 now] w fun e w' => e = .returned (.tuple #[.pointer none, .int .i64 (1)]) ∧ Below w.heap.size w w' := by
  have hn := Lib.hid (cNew_bad room now w hr)
  clear hv
  go_enter Try.func7, Try.ntmps7
  go_wp2_with fail
  refine hn.out.mono ?_
  rintro e w1 ⟨rfl, hB⟩
  have hB1 := Lib.hid hB
  clear hn hB
  go_wp2
  go_ret2
  exact ⟨rfl, hB1.out⟩
theorem new_long (v : Value) (l : List Tox) (up : Bool) (seed room now : Int) (w : World) (hv : Toxs w v l) (hr : roomOk room = true) (hl : 8 < l.length) :
    Calls Try.prog 7 #[v, .bool up, .int .u64 seed, .int .i64 room, .int .i64 now] w fun e w' => e = .returned (.tuple #[.pointer none, .int .i64 (1)]) ∧ Below w.heap.size w w' := by
  have hn := Lib.hid (cNew_any room now w hr)
  obtain ⟨a, cap, rfl, hmx, hcp, hA⟩ := hv
  have tl : decide ((8 : Int) < (l.length : Int)) = true := decide_eq_true (by omega)
  clear hA
  go_enter Try.func7, Try.ntmps7
  go_wp2_with fail
  refine hn.out.mono ?_
  rintro e w1 ⟨c, F, D, rfl, hC, hF, hcp2, hB⟩
  have hB1 := Lib.hid hB
  clear hn hB hC hF hcp2
  go_wp2
  go_ret2
  exact ⟨rfl, hB1.out⟩
theorem new_chk (v : Value) (l : List Tox) (up : Bool) (seed room now : Int) (w : World) (hv : Toxs w v l) (hr : roomOk room = true) (hl : l.length ≤ 8) (hf : firstE l ≠ 0) :
    Calls Try.prog 7 #[v, .bool up, .int .u64 seed, .int .i64 room, .int .i64 now] w fun e w' => e = .returned (.tuple #[.pointer none, .int .i64 (firstE l)]) ∧ Below w.heap.size w w' := by
  have hn := Lib.hid (cNew_any room now w hr)
  have hv0 := Lib.hid hv
  obtain ⟨a, cap, rfl, hmx, hcp, hA⟩ := hv
  have tl : decide ((8 : Int) < (l.length : Int)) = false := decide_eq_false (by omega)
  go_enter Try.func7, Try.ntmps7
  go_wp2_with fail
  refine hn.out.mono ?_
  rintro e w1 ⟨c, F, D, rfl, hC, hF, hcp2, hB⟩
  have hBw1 := Lib.hid hB
  have hCh := Lib.hid (And.intro hC (And.intro hF hcp2))
  clear hn hB hC hF hcp2
  go_wp2
  go_loopw [35] (fun iv wr => ∃ k : Nat, k ≤ l.length ∧ iv = .int .i64 k ∧ Below w1.heap.size w1 wr ∧ firstE (l.take k) = 0) (fun iv _ => l.length - (intOf iv).toNat)
  case atStart => exact ⟨0, by omega, rfl, Below.refl _ _, rfl⟩
  case round =>
    obtain ⟨k, hk, rfl, hB, hno⟩ := hrel
    by_cases hlt : k < l.length
    · obtain ⟨g2, o, rfl, hc⟩ := hA (by intro h; subst h; simp at hlt)
      have hx : l[k]? = some l[k] := List.getElem?_eq_getElem hlt
      obtain ⟨d0, d1, d2, d3, d4, d5⟩ := hc k _ hx
      have hsucc := Lib.hid (first_succ hx hno)
      have hmono := Lib.hid (fun h => first_mono (l := l) (k := k + 1) h)
      generalize l[k] = p at *
      obtain ⟨t0, t1, t2, t3, t4, t5⟩ := p
      dsimp only at *
      have hBw := hBw1.out.trans (hB.mono hBw1.out.size)
      have d0' := bcells hBw d0
      have d1' := bcells hBw d1
      have d2' := bcells hBw d2
      have d3' := bcells hBw d3
      have d4' := bcells hBw d4
      have d5' := bcells hBw d5
      have hB' := Lib.hid (hB.alloc hB.size (.cells #[.string t0, .int .i64 t1, .bool t2, .int .i64 t3, .int .i64 t4, .int .i64 t5] 29))
      have hck := Lib.hid (fun wy => check_any ⟨t0, t1, t2, t3, t4, t5⟩ wy)
      clear hc hx hA d0 d1 d2 d3 d4 d5 hB hno hBw
      go_wp2_with fail
      refine (hck.out _).mono ?_
      rintro e w2 ⟨rfl, hB2⟩
      have hB3 := Lib.hid (bw_below hB'.out hB2)
      clear hB2 hB' hck
      by_cases he : chk ⟨t0, t1, t2, t3, t4, t5⟩ = 0
      · have hr := Lib.hid (show firstE (l.take (k + 1)) = 0 from by rw [hsucc.out]; exact he)
        rw [he]
        clear hsucc hmono he
        go_wp2
        go_roundw
        case rel => exact ⟨k + 1, by omega, by go_num, hB3.out, hr.out⟩
        case measure => simp [intOf]; omega
      · have te : (chk ⟨t0, t1, t2, t3, t4, t5⟩ != 0) = true := by simpa using he
        have hr := Lib.hid (show firstE l = chk ⟨t0, t1, t2, t3, t4, t5⟩ from by have := hmono.out (by rw [hsucc.out]; exact he); rw [hsucc.out] at this; exact this)
        clear hsucc hmono he
        go_wp2
        go_ret2
        exact ⟨by rw [hr.out]; rfl, bw_below hBw1.out hB3.out⟩
    · have hk2 : k = l.length := by omega
      subst hk2
      have hnl : ¬ (l.length < l.length) := by omega
      rw [List.take_length] at hno
      exact absurd hno hf
theorem new_dbl (v : Value) (l : List Tox) (up : Bool) (seed room now : Int) (w : World) (hv : Toxs w v l) (hr : roomOk room = true) (hl : l.length ≤ 8) (hf : firstE l = 0) (hd : dblB l = true) :
    Calls Try.prog 7 #[v, .bool up, .int .u64 seed, .int .i64 room, .int .i64 now] w fun e w' => e = .returned (.tuple #[.pointer none, .int .i64 (141)]) ∧ Below w.heap.size w w' := by
  have hn := Lib.hid (cNew_any room now w hr)
  have hv0 := Lib.hid hv
  obtain ⟨a, cap, rfl, hmx, hcp, hA⟩ := hv
  have tl : decide ((8 : Int) < (l.length : Int)) = false := decide_eq_false (by omega)
  go_enter Try.func7, Try.ntmps7
  go_wp2_with fail
  refine hn.out.mono ?_
  rintro e w1 ⟨c, F, D, rfl, hC, hF, hcp2, hB⟩
  have hBw1 := Lib.hid hB
  have hCh := Lib.hid (And.intro hC (And.intro hF hcp2))
  clear hn hB hC hF hcp2
  go_wp2
  go_loopw [35] (fun iv wr => ∃ k : Nat, k ≤ l.length ∧ iv = .int .i64 k ∧ Below w1.heap.size w1 wr ∧ firstE (l.take k) = 0) (fun iv _ => l.length - (intOf iv).toNat)
  case atStart => exact ⟨0, by omega, rfl, Below.refl _ _, rfl⟩
  case round =>
    obtain ⟨k, hk, rfl, hB, hno⟩ := hrel
    by_cases hlt : k < l.length
    · obtain ⟨g2, o, rfl, hc⟩ := hA (by intro h; subst h; simp at hlt)
      have hx : l[k]? = some l[k] := List.getElem?_eq_getElem hlt
      obtain ⟨d0, d1, d2, d3, d4, d5⟩ := hc k _ hx
      have hsucc := Lib.hid (first_succ hx hno)
      have hmono := Lib.hid (fun h => first_mono (l := l) (k := k + 1) h)
      generalize l[k] = p at *
      obtain ⟨t0, t1, t2, t3, t4, t5⟩ := p
      dsimp only at *
      have hBw := hBw1.out.trans (hB.mono hBw1.out.size)
      have d0' := bcells hBw d0
      have d1' := bcells hBw d1
      have d2' := bcells hBw d2
      have d3' := bcells hBw d3
      have d4' := bcells hBw d4
      have d5' := bcells hBw d5
      have hB' := Lib.hid (hB.alloc hB.size (.cells #[.string t0, .int .i64 t1, .bool t2, .int .i64 t3, .int .i64 t4, .int .i64 t5] 29))
      have hck := Lib.hid (fun wy => check_any ⟨t0, t1, t2, t3, t4, t5⟩ wy)
      clear hc hx hA d0 d1 d2 d3 d4 d5 hB hno hBw
      go_wp2_with fail
      refine (hck.out _).mono ?_
      rintro e w2 ⟨rfl, hB2⟩
      have hB3 := Lib.hid (bw_below hB'.out hB2)
      clear hB2 hB' hck
      by_cases he : chk ⟨t0, t1, t2, t3, t4, t5⟩ = 0
      · have hr := Lib.hid (show firstE (l.take (k + 1)) = 0 from by rw [hsucc.out]; exact he)
        rw [he]
        clear hsucc hmono he
        go_wp2
        go_roundw
        case rel => exact ⟨k + 1, by omega, by go_num, hB3.out, hr.out⟩
        case measure => simp [intOf]; omega
      · have te : (chk ⟨t0, t1, t2, t3, t4, t5⟩ != 0) = true := by simpa using he
        have hr := Lib.hid (show firstE l = chk ⟨t0, t1, t2, t3, t4, t5⟩ from by have := hmono.out (by rw [hsucc.out]; exact he); rw [hsucc.out] at this; exact this)
        clear hsucc hmono he
        exact absurd (hr.out.symm.trans hf) (by simpa using te)
    · have hk2 : k = l.length := by omega
      subst hk2
      have hnl : ¬ (l.length < l.length) := by omega
      rw [List.take_length] at hno
      have hdb := Lib.hid (doubles_any wr (.slice a l.length cap) l (hv0.out.below (hBw1.out.trans (hB.mono hBw1.out.size))))
      rw [hd] at hdb
      have hB' := Lib.hid (bw_below hBw1.out hB)
      clear hA hB hno
      go_wp2_with fail
      refine hdb.out.mono ?_
      rintro e w2 ⟨rfl, hB2⟩
      have hB3 := Lib.hid (bw_below hB'.out hB2)
      clear hB2 hdb
      go_wp2
      go_ret2
      exact ⟨rfl, hB3.out⟩
set_option maxHeartbeats 1000000 in
theorem new_ok (v : Value) (l : List Tox) (up : Bool) (seed room now : Int) (w : World) (hv : Toxs w v l) (hr : roomOk room = true) (hl : l.length ≤ 8) (hf : firstE l = 0) (hd : dblB l = false) (h0 : 0 ≤ seed) (h1 : seed < 18446744073709551616) :
    Calls Try.prog 7 #[v, .bool up, .int .u64 seed, .int .i64 room, .int .i64 now] w fun e w' => ∃ b, e = .returned (.tuple #[ptr b, .int .i64 0]) ∧ LiveK w w' b (linkN l up seed room now) := by
  have hn := Lib.hid (cNew_any room now w hr)
  have hv0 := Lib.hid hv
  obtain ⟨a, cap, rfl, hmx, hcp, hA⟩ := hv
  have tl : decide ((8 : Int) < (l.length : Int)) = false := decide_eq_false (by omega)
  go_enter Try.func7, Try.ntmps7
  go_wp2_with fail
  refine hn.out.mono ?_
  rintro e w1 ⟨c, F, D, rfl, hC, hF, hcp2, hB⟩
  have hBw1 := Lib.hid hB
  have hCh := Lib.hid (And.intro hC (And.intro hF hcp2))
  clear hn hB hC hF hcp2
  go_wp2
  go_loopw [35] (fun iv wr => ∃ k : Nat, k ≤ l.length ∧ iv = .int .i64 k ∧ Below w1.heap.size w1 wr ∧ firstE (l.take k) = 0) (fun iv _ => l.length - (intOf iv).toNat)
  case atStart => exact ⟨0, by omega, rfl, Below.refl _ _, rfl⟩
  case round =>
    obtain ⟨k, hk, rfl, hB, hno⟩ := hrel
    by_cases hlt : k < l.length
    · obtain ⟨g2, o, rfl, hc⟩ := hA (by intro h; subst h; simp at hlt)
      have hx : l[k]? = some l[k] := List.getElem?_eq_getElem hlt
      obtain ⟨d0, d1, d2, d3, d4, d5⟩ := hc k _ hx
      have hsucc := Lib.hid (first_succ hx hno)
      have hmono := Lib.hid (fun h => first_mono (l := l) (k := k + 1) h)
      generalize l[k] = p at *
      obtain ⟨t0, t1, t2, t3, t4, t5⟩ := p
      dsimp only at *
      have hBw := hBw1.out.trans (hB.mono hBw1.out.size)
      have d0' := bcells hBw d0
      have d1' := bcells hBw d1
      have d2' := bcells hBw d2
      have d3' := bcells hBw d3
      have d4' := bcells hBw d4
      have d5' := bcells hBw d5
      have hB' := Lib.hid (hB.alloc hB.size (.cells #[.string t0, .int .i64 t1, .bool t2, .int .i64 t3, .int .i64 t4, .int .i64 t5] 29))
      have hck := Lib.hid (fun wy => check_any ⟨t0, t1, t2, t3, t4, t5⟩ wy)
      clear hc hx hA d0 d1 d2 d3 d4 d5 hB hno hBw
      go_wp2_with fail
      refine (hck.out _).mono ?_
      rintro e w2 ⟨rfl, hB2⟩
      have hB3 := Lib.hid (bw_below hB'.out hB2)
      clear hB2 hB' hck
      by_cases he : chk ⟨t0, t1, t2, t3, t4, t5⟩ = 0
      · have hr := Lib.hid (show firstE (l.take (k + 1)) = 0 from by rw [hsucc.out]; exact he)
        rw [he]
        clear hsucc hmono he
        go_wp2
        go_roundw
        case rel => exact ⟨k + 1, by omega, by go_num, hB3.out, hr.out⟩
        case measure => simp [intOf]; omega
      · have te : (chk ⟨t0, t1, t2, t3, t4, t5⟩ != 0) = true := by simpa using he
        have hr := Lib.hid (show firstE l = chk ⟨t0, t1, t2, t3, t4, t5⟩ from by have := hmono.out (by rw [hsucc.out]; exact he); rw [hsucc.out] at this; exact this)
        clear hsucc hmono he
        exact absurd (hr.out.symm.trans hf) (by simpa using te)
    · have hk2 : k = l.length := by omega
      subst hk2
      have hnl : ¬ (l.length < l.length) := by omega
      rw [List.take_length] at hno
      have hdb := Lib.hid (doubles_any wr (.slice a l.length cap) l (hv0.out.below (hBw1.out.trans (hB.mono hBw1.out.size))))
      rw [hd] at hdb
      have hB' := Lib.hid (bw_below hBw1.out hB)
      have hCr := Lib.hid (hCh.out.1.below hB)
      clear hB hno
      go_wp2_with fail
      refine hdb.out.mono ?_
      rintro e w2 ⟨rfl, hB2⟩
      have hB3 := Lib.hid (bw_below hB'.out hB2)
      have hC2 := Lib.hid (hCr.out.below hB2)
      have hBL := (Below.refl w2.heap.size w2).alloc (Nat.le_refl _) (.cells #[ptr c, .slice none 0 0, .bool up, .int .u64 seed, .int .i64 0, .int .i64 0, .int .i64 0, .int .i64 0, .int .i64 0, .bool false] 48)
      have hL0 := Lib.hid (show LiveK w (w2.alloc (.cells #[ptr c, .slice none 0 0, .bool up, .int .u64 seed, .int .i64 0, .int .i64 0, .int .i64 0, .int .i64 0, .int .i64 0, .bool false] 48)) w2.heap.size (link0 up seed room now) from
        ⟨fun j => j = w2.heap.size ∨ F j ∨ (Value.slice none 0 0).ownBlock = some j, ⟨F, c, D, .slice none 0 0, Blk.new w2 _ _, hC2.out.below hBL, hCh.out.2.2, .inl ⟨rfl, rfl⟩, fun j => Iff.rfl⟩, (fun j hj => by
          rcases hj with rfl | hj | hj
          · exact hB3.out.size
          · exact hCh.out.2.1 j hj
          · cases hj), hB3.out.alloc hB3.out.size _⟩)
      clear hB2 hdb hBL hB' hCr
      go_wp2
      go_loopw [54] (fun iv wr => ∃ k : Nat, k ≤ l.length ∧ iv = .int .i64 k ∧ LiveK w wr w2.heap.size (linkN (l.take k) up seed room now)) (fun iv _ => l.length - (intOf iv).toNat)
      case atStart => exact ⟨0, by omega, rfl, hL0.out⟩
      case round =>
        obtain ⟨k, hk, rfl, hL⟩ := hrel
        clear hL0
        by_cases hlt : k < l.length
        · obtain ⟨g2, o, rfl, hc⟩ := hA (by intro h; subst h; simp at hlt)
          have hx : l[k]? = some l[k] := List.getElem?_eq_getElem hlt
          obtain ⟨d0, d1, d2, d3, d4, d5⟩ := hc k _ hx
          have hok := Lib.hid (ok_linkN (l.take k) up seed room now hr h0 h1 (by rw [List.length_take]; omega)).1
          have hsucc := Lib.hid (show linkN (l.take (k + 1)) up seed room now = addK (linkN (l.take k) up seed room now) l[k] now from by unfold linkN; rw [List.take_add_one, hx, List.foldl_append]; rfl)
          generalize l[k] = p at *
          obtain ⟨t0, t1, t2, t3, t4, t5⟩ := p
          dsimp only at *
          have hBw := hL.old
          have d0' := bcells hBw d0
          have d1' := bcells hBw d1
          have d2' := bcells hBw d2
          have d3' := bcells hBw d3
          have d4' := bcells hBw d4
          have d5' := bcells hBw d5
          have hL' := Lib.hid (hL.below ((Below.refl wr.heap.size wr).alloc (Nat.le_refl _) (.cells #[.string t0, .int .i64 t1, .bool t2, .int .i64 t3, .int .i64 t4, .int .i64 t5] 29)))
          clear hc hx hA d0 d1 d2 d3 d4 d5 hL hBw
          generalize linkN (l.take k) up seed room now = x0 at *
          obtain ⟨F0, hLK, hF0, hB0⟩ := hL'.out
          have hadd := Lib.hid (kAdd_any hLK hok.out ⟨t0, t1, t2, t3, t4, t5⟩ now)
          have hFB := Lib.hid (And.intro hLK (And.intro hF0 hB0))
          clear hLK hF0 hB0 hL'
          go_wp2_with fail
          refine hadd.out.mono ?_
          rintro e w4 ⟨rfl, hT⟩
          have hL4 := Lib.hid (LiveK.turn hFB.out.1 hFB.out.2.1 hFB.out.2.2 hT).1
          clear hT hadd hFB
          go_wp2
          go_roundw
          case rel => exact ⟨k + 1, by omega, by go_num, by rw [hsucc.out]; exact hL4.out⟩
          case measure => simp [intOf]; omega
        · have hk2 : k = l.length := by omega
          subst hk2
          have hnl : ¬ (l.length < l.length) := by omega
          rw [List.take_length] at hL
          have hr := Lib.hid hL
          clear hA hL
          go_wp2
          go_ret2
          exact ⟨_, rfl, hr.out⟩
end Go.Proofs.Ytoiibmcbjjnpbaa.Link
namespace Go.Proofs.Ytoiibmcbjjnpbaa.Link
open Go.RowKit Mem Tick Cargo Toxic Stage Chain
set_option linter.unusedVariables false
set_option linter.unusedSimpArgs false
def EndZ (x : Ch) : Prop := x.state ≠ 0 → x.state = 2 ∨ ∃ a, x.l[x.l.length - 1]? = some a ∧ a.s.state ≠ 0
theorem look_stays {s : Sg} (n : Int) (h : s.state ≠ 0) : (lookP s n).state ≠ 0 := by
  rcases look_cases s n with e | ⟨e, _⟩
  · rw [e]; exact h
  · exact absurd e h
variable {c : Ch}
theorem EndZ.none (h : EndZ c) (hs : c.state ≠ 0) (n m : Int) : takeCB c n m = ⟨#[]⟩ := by
  unfold takeCB
  rcases h hs with e | ⟨a, ha, h1⟩
  · rw [if_pos e]
  · split
    · rfl
    · rw [ha]
      show takeB a.s n m = _
      unfold takeB
      rw [if_pos (.inl (look_stays n h1))]
variable {x : Lk}
end Go.Proofs.Ytoiibmcbjjnpbaa.Link
