/- The chain's New, and Step whole (chapter 11). -/
import Derived.Test.YtoiibmcbjjnpbaaD23
import Derived.Test.YtoiibmcbjjnpbaaD22
import Derived.Test.YtoiibmcbjjnpbaaD16
import Derived.Lib.SlBytesConst
import Derived.Maps.AppendAt
namespace Go.Proofs.Ytoiibmcbjjnpbaa.Chain
open Go.RowKit Mem Tick Cargo Toxic Stage
open Go.Proofs.YtoiibmcbjjnpbaaW.PrintLast Pu
set_option maxRecDepth 100000
set_option linter.unusedVariables false
set_option linter.unusedSimpArgs false
variable {w w' : World} {F H : Nat → Prop} {t : Pt} {a : Pa} {c : Nat} {D : Lay} {x : Ch}
theorem cStep_any (h : CH w F c D x) {M Q : Int} (ho : OkC x M Q) (hM : M ≤ 1000000000) (hQ : Q + 20 * M ≤ 1000000000) (now : Int) :
    Calls Try.prog 22 #[ptr c, .int .i64 now] w fun e w' => e = .returned (.int .i64 (stepC now x).state) ∧ Tu w F w' c D (stepC now x) := by
  unfold stepC
  by_cases h1 : x.state = 0
  · rw [if_neg (fun e => e h1)]
    by_cases hb : brokenB (x.l.map (lookA now)) = true
    · rw [if_pos hb]; exact step_broken h ho hM now h1 hb
    · rw [if_neg hb]; exact step_go h ho hM hQ now h1 (by simpa using hb)
  · rw [if_pos h1]; exact step_shut h now h1
def newC (room now : Int) : Ch := ⟨[⟨newS noTox 0 room now, false⟩, ⟨newS noTox 0 room now, false⟩], room, 0, false, 0⟩
theorem newE_pass (room : Int) : newE noTox room = if roomOk room = false then 1 else 0 := by
  have hp : passB noTox = true := by simp [passB, sameT, noTox]
  unfold newE
  rw [if_neg (fun h => by rw [hp] at h; cases h.1)]
theorem ok_newC (room now : Int) (h : roomOk room = true) : OkC (newC room now) 0 0 := by
  have hr : 1 ≤ room ∧ room ≤ 4096 := by simpa [roomOk] using h
  have he : newE noTox room = 0 := by rw [newE_pass, h]; rfl
  have hs : (newS noTox 0 room now).c = ([], 0) ∧ (newS noTox 0 room now).passed = 0 := by unfold newS; split <;> exact ⟨rfl, rfl⟩
  have hh : held (newS noTox 0 room now) = 0 := by unfold held; rw [hs.1]; rfl
  refine ⟨Nat.le_refl 2, (by show 2 ≤ 10; decide), hr.1, hr.2, ?_, Int.le_refl 0, ?_, ?_⟩
  · show ((held _ + (held _ + 0) : Nat) : Int) ≤ 0; rw [hh]; decide
  · show (0 : Int) + ((held _ + (held _ + 0) : Nat) : Int) ≤ 0; rw [hh]; decide
  · intro a ha
    have : a = ⟨newS noTox 0 room now, false⟩ := by
      rcases List.mem_cons.1 ha with h | h
      · exact h
      · exact List.mem_singleton.1 h
    subst this
    exact ⟨Ok.new he, by show (newS noTox 0 room now).passed ≤ 0; rw [hs.2]; decide⟩
theorem cNew_bad (room now : Int) (w : World) (h : roomOk room = false) :
    Calls Try.prog 16 #[.int .i64 room, .int .i64 now] w fun e w' => e = .returned (.tuple #[.pointer none, .int .i64 1]) ∧ Below w.heap.size w w' := by
  have he : newE noTox room = 1 := by rw [newE_pass, if_pos h]
  have hn := fun wr => live_none (wr := wr) noTox 0 room now (by rw [he]; decide)
  rw [he] at hn
  have hn' := Lib.hid hn
  clear hn
  go_enter Try.func16, Try.ntmps16
  go_wp2_with fail
  refine (hn'.out _).mono ?_
  rintro e w1 ⟨rfl, hB1⟩
  go_wp2_with fail
  refine (hn'.out _).mono ?_
  rintro e w2 ⟨rfl, hB2⟩
  have hB := Lib.hid (bw_below hB1 hB2)
  clear hB1 hB2 hn'
  go_wp2
  go_ret2
  exact ⟨rfl, hB.out⟩
theorem ch_new {w2 : World} {F1 F2 : Nat → Prop} {b1 k1 b2 k2 : Nat} {s1 s2 : Sg} (room : Int) (h1 : SG w2 F1 b1 k1 s1) (h2 : SG w2 F2 b2 k2 s2) (hap : ∀ j, F1 j → ¬ F2 j) :
    CH ((((w2.alloc (.cells #[ptr b1, .bool false] 68)).alloc (.cells #[ptr b2, .bool false] 68)).alloc (.cells #[ptr w2.heap.size, ptr (w2.heap.size + 1)] 64)).alloc (.cells #[.slice (some ⟨w2.heap.size + 1 + 1, 0, none⟩) 2 2, .int .i64 room, .int .i64 0, .bool false, .int .i64 0] 73)) (fun j => j = w2.heap.size + 1 + 1 + 1 ∨ j = w2.heap.size + 1 + 1 ∨ ∃ i, i < 2 ∧ (if i = 0 then (j = w2.heap.size ∨ F1 j) else (j = w2.heap.size + 1 ∨ F2 j))) (w2.heap.size + 1 + 1 + 1)
      ⟨w2.heap.size + 1 + 1, 2, [⟨w2.heap.size, b1, k1⟩, ⟨w2.heap.size + 1, b2, k2⟩]⟩ ⟨[⟨s1, false⟩, ⟨s2, false⟩], room, 0, false, 0⟩ := by
  have hB : Below w2.heap.size w2 ((((w2.alloc (.cells #[ptr b1, .bool false] 68)).alloc (.cells #[ptr b2, .bool false] 68)).alloc (.cells #[ptr w2.heap.size, ptr (w2.heap.size + 1)] 64)).alloc (.cells #[.slice (some ⟨w2.heap.size + 1 + 1, 0, none⟩) 2 2, .int .i64 room, .int .i64 0, .bool false, .int .i64 0] 73)) := (((((Below.refl w2.heap.size w2).alloc (Nat.le_refl _) _).alloc (by simp only [World.size_alloc]; omega) _).alloc (by simp only [World.size_alloc]; omega) _).alloc (by simp only [World.size_alloc]; omega) _)
  have s1' := h1.below hB
  have s2' := h2.below hB
  have p1 : Blk ((((w2.alloc (.cells #[ptr b1, .bool false] 68)).alloc (.cells #[ptr b2, .bool false] 68)).alloc (.cells #[ptr w2.heap.size, ptr (w2.heap.size + 1)] 64)).alloc (.cells #[.slice (some ⟨w2.heap.size + 1 + 1, 0, none⟩) 2 2, .int .i64 room, .int .i64 0, .bool false, .int .i64 0] 73)) w2.heap.size 68 #[ptr b1, .bool false] := (Below.heap_alloc _ _ _ (by simp only [World.size_alloc]; omega)).trans ((Below.heap_alloc _ _ _ (by simp only [World.size_alloc]; omega)).trans ((Below.heap_alloc _ _ _ (by simp only [World.size_alloc]; omega)).trans (heap_alloc_new _ _)))
  have p2 : Blk ((((w2.alloc (.cells #[ptr b1, .bool false] 68)).alloc (.cells #[ptr b2, .bool false] 68)).alloc (.cells #[ptr w2.heap.size, ptr (w2.heap.size + 1)] 64)).alloc (.cells #[.slice (some ⟨w2.heap.size + 1 + 1, 0, none⟩) 2 2, .int .i64 room, .int .i64 0, .bool false, .int .i64 0] 73)) (w2.heap.size + 1) 68 #[ptr b2, .bool false] := by
    have := heap_alloc_new (w2.alloc (.cells #[ptr b1, .bool false] 68)) (.cells #[ptr b2, .bool false] 68)
    rw [World.size_alloc] at this
    exact (Below.heap_alloc _ _ _ (by simp only [World.size_alloc]; omega)).trans ((Below.heap_alloc _ _ _ (by simp only [World.size_alloc]; omega)).trans this)
  have pr : Blk ((((w2.alloc (.cells #[ptr b1, .bool false] 68)).alloc (.cells #[ptr b2, .bool false] 68)).alloc (.cells #[ptr w2.heap.size, ptr (w2.heap.size + 1)] 64)).alloc (.cells #[.slice (some ⟨w2.heap.size + 1 + 1, 0, none⟩) 2 2, .int .i64 room, .int .i64 0, .bool false, .int .i64 0] 73)) (w2.heap.size + 1 + 1) 64 #[ptr w2.heap.size, ptr (w2.heap.size + 1)] := by
    have := heap_alloc_new ((w2.alloc (.cells #[ptr b1, .bool false] 68)).alloc (.cells #[ptr b2, .bool false] 68)) (.cells #[ptr w2.heap.size, ptr (w2.heap.size + 1)] 64)
    rw [World.size_alloc, World.size_alloc] at this
    exact (Below.heap_alloc _ _ _ (by simp only [World.size_alloc]; omega)).trans this
  have pc : Blk ((((w2.alloc (.cells #[ptr b1, .bool false] 68)).alloc (.cells #[ptr b2, .bool false] 68)).alloc (.cells #[ptr w2.heap.size, ptr (w2.heap.size + 1)] 64)).alloc (.cells #[.slice (some ⟨w2.heap.size + 1 + 1, 0, none⟩) 2 2, .int .i64 room, .int .i64 0, .bool false, .int .i64 0] 73)) (w2.heap.size + 1 + 1 + 1) 73 #[.slice (some ⟨w2.heap.size + 1 + 1, 0, none⟩) 2 2, .int .i64 room, .int .i64 0, .bool false, .int .i64 0] := by
    have := heap_alloc_new (((w2.alloc (.cells #[ptr b1, .bool false] 68)).alloc (.cells #[ptr b2, .bool false] 68)).alloc (.cells #[ptr w2.heap.size, ptr (w2.heap.size + 1)] 64)) (.cells #[.slice (some ⟨w2.heap.size + 1 + 1, 0, none⟩) 2 2, .int .i64 room, .int .i64 0, .bool false, .int .i64 0] 73)
    rw [World.size_alloc, World.size_alloc, World.size_alloc] at this
    exact this
  refine ⟨fun i j => if i = 0 then (j = w2.heap.size ∨ F1 j) else (j = w2.heap.size + 1 ∨ F2 j), pc, ⟨_, pr, rfl, fun i t ht => ?_⟩, rfl, fun i t a ht ha => ?_, fun i j hi hj hne y hy hy' => ?_, fun j => Iff.rfl⟩
  · rcases i with _ | _ | i
    · cases ht; rfl
    · cases ht; rfl
    · simp at ht
  · rcases i with _ | _ | i
    · cases ht; cases ha; exact ⟨F1, p1, s1', fun j => Iff.rfl⟩
    · cases ht; cases ha; exact ⟨F2, p2, s2', fun j => Iff.rfl⟩
    · simp at ht
  · have hi2 : i < 2 := hi
    have hj2 : j < 2 := hj
    have l1 := fun (q : F1 y) => h1.lt q
    have l2 := fun (q : F2 y) => h2.lt q
    have cases_ : (i = 0 ∧ j = 1) ∨ (i = 1 ∧ j = 0) := by omega
    rcases cases_ with ⟨rfl, rfl⟩ | ⟨rfl, rfl⟩
    · rcases hy with rfl | hy <;> rcases hy' with hy' | hy'
      · omega
      · have := l2 hy'; omega
      · have := l1 hy; omega
      · exact hap y hy hy'
    · rcases hy with rfl | hy <;> rcases hy' with hy' | hy'
      · omega
      · have := l1 hy'; omega
      · have := l2 hy; omega
      · exact hap y hy' hy
theorem cNew_any (room now : Int) (w : World) (h : roomOk room = true) :
    Calls Try.prog 16 #[.int .i64 room, .int .i64 now] w fun e w' => ∃ c F D, e = .returned (.tuple #[ptr c, .int .i64 0]) ∧ CH w' F c D (newC room now) ∧ (∀ j, F j → w.heap.size ≤ j) ∧ D.cap ≤ 9223372036854775807 ∧ Below w.heap.size w w' := by
  have he : newE noTox room = 0 := by rw [newE_pass, h]; rfl
  have hn := Lib.hid (fun wr => (new_any noTox 0 room now wr).mono fun e w' hp => hp.1 he)
  go_enter Try.func16, Try.ntmps16
  go_wp2_with fail
  refine (hn.out _).mono ?_
  rintro e w1 ⟨b1, k1, F1, rfl, hS1, hF1, hB1⟩
  have h1 := Lib.hid (And.intro hS1 (And.intro hF1 hB1))
  clear hS1 hF1 hB1
  go_wp2_with fail
  refine (hn.out _).mono ?_
  rintro e w2 ⟨b2, k2, F2, rfl, hS2, hF2, hB2⟩
  have hC := Lib.hid (ch_new room (h1.out.1.below hB2) hS2 (fun j hj hj' => by have := h1.out.1.lt hj; have := hF2 j hj'; omega))
  have hw : w.heap.size ≤ w2.heap.size := Nat.le_trans h1.out.2.2.size hB2.size
  have hBw := Lib.hid (((((bw_below h1.out.2.2 hB2).alloc hw (.cells #[ptr b1, .bool false] 68)).alloc (by simp; omega) (.cells #[ptr b2, .bool false] 68)).alloc (by simp; omega) (.cells #[ptr w2.heap.size, ptr (w2.heap.size + 1)] 64)).alloc (by simp; omega) (.cells #[.slice (some ⟨w2.heap.size + 1 + 1, 0, none⟩) 2 2, .int .i64 room, .int .i64 0, .bool false, .int .i64 0] 73))
  have hFF := Lib.hid (show ∀ j, (j = w2.heap.size + 1 + 1 + 1 ∨ j = w2.heap.size + 1 + 1 ∨ ∃ i, i < 2 ∧ (if i = 0 then (j = w2.heap.size ∨ F1 j) else (j = w2.heap.size + 1 ∨ F2 j))) → w.heap.size ≤ j from by
    intro j hj
    rcases hj with rfl | rfl | ⟨i, hi, hj⟩
    · omega
    · omega
    · split at hj
      · rcases hj with rfl | hj
        · exact hw
        · exact h1.out.2.1 j hj
      · rcases hj with rfl | hj
        · omega
        · have := hF2 j hj; have := h1.out.2.2.size; omega)
  clear hS2 hF2 hB2 h1 hn he h hw
  go_wp2
  go_ret2
  exact ⟨_, _, _, rfl, hC.out, hFF.out, (show (2 : Nat) ≤ 9223372036854775807 by decide), hBw.out⟩
end Go.Proofs.Ytoiibmcbjjnpbaa.Chain
namespace Go.Proofs.Ytoiibmcbjjnpbaa.Chain
open Go.RowKit Mem Tick Cargo Toxic Stage
set_option maxRecDepth 100000
set_option linter.unusedVariables false
set_option linter.unusedSimpArgs false
variable {w w' w1 : World} {F H : Nat → Prop} {t : Pt} {a : Pa} {c : Nat} {D : Lay} {x : Ch}
theorem getIns {α : Type} (l : List α) (a : α) (i m : Nat) (hi : i ≤ l.length) : (l.take i ++ a :: l.drop i)[m]? = if m < i then l[m]? else if m = i then some a else l[m - 1]? := by
  have hl : (l.take i).length = i := by rw [List.length_take]; omega
  by_cases h1 : m < i
  · rw [if_pos h1, List.getElem?_append_left (by omega), List.getElem?_take, if_pos h1]
  · rw [if_neg h1, List.getElem?_append_right (by omega), hl]
    by_cases h2 : m = i
    · rw [if_pos h2, h2, Nat.sub_self]; rfl
    · rw [if_neg h2]
      obtain ⟨k, rfl⟩ : ∃ k, m = i + (k + 1) := ⟨m - i - 1, by omega⟩
      rw [show i + (k + 1) - i = k + 1 by omega, List.getElem?_cons_succ, List.getElem?_drop]
      congr 1
theorem insL_map (i : Nat) (t : Pt) (l : List Pt) : insL i (ptr t.p) (l.map fun q => ptr q.p) = (l.take i ++ t :: l.drop i).map fun q => ptr q.p := by
  simp [insL, List.map_take, List.map_drop]
theorem CH.rv (h : CH w F c D x) : RV w D.r D.cap (D.ps.map fun q => ptr q.p) := by
  have hcap := h.cap
  have hlen := h.len
  obtain ⟨H, h⟩ := h
  obtain ⟨cs, hb, hc, hr⟩ := h.row
  refine ⟨cs.toList.drop D.ps.length, ?_, ?_⟩
  · have e : (D.ps.map fun q => ptr q.p) ++ cs.toList.drop D.ps.length = cs.toList := by
      apply List.ext_getElem?
      intro j
      by_cases hj : j < D.ps.length
      · rw [List.getElem?_append_left (by rw [List.length_map]; exact hj), List.getElem?_map, List.getElem?_eq_getElem hj]
        have := hr j _ (List.getElem?_eq_getElem hj)
        rw [Array.getElem?_toList, this]
        rfl
      · rw [List.getElem?_append_right (by rw [List.length_map]; omega), List.length_map, List.getElem?_drop, show D.ps.length + (j - D.ps.length) = j by omega]
    rw [e]
    exact hb
  · rw [List.length_append, List.length_map, List.length_drop, Array.length_toList, hc]
    omega
theorem CH.ins (h : CH w F c D x) (hp : PG w H t a) (hH : ∀ j, H j → ¬ F j) {i : Nat} (hi : i ≤ x.l.length) {r' cap' : Nat} (hr : RV w1 r' cap' (insL i (ptr t.p) (D.ps.map fun q => ptr q.p))) (hd : Did (· = D.r) w w1) (hr' : r' = D.r ∨ w.heap.size ≤ r') :
    ∃ F', CH (w1.setCell ⟨c, 0, none⟩ (.slice (some ⟨r', 0, none⟩) (x.l.length + 1) cap')) F' c ⟨r', cap', D.ps.take i ++ t :: D.ps.drop i⟩ { x with l := x.l.take i ++ a :: x.l.drop i } ∧
      (∀ j, F' j → F j ∨ H j ∨ w.heap.size ≤ j) ∧ F c ∧ F D.r := by
  have hty := h.typed
  have hlen := h.len
  obtain ⟨Hs, h⟩ := h
  obtain ⟨cs, hb, hrest⟩ := h.row
  have hrc : D.r ≠ c := hb.ne h.blk (by decide)
  have hFc : F c := (h.own c).2 (.inl rfl)
  have hFr : F D.r := (h.own D.r).2 (.inr (.inl rfl))
  have hclt : c < w.heap.size := h.blk.lt
  have hr'c : r' ≠ c := by
    rcases hr' with e | e
    · rw [e]; exact hrc
    · omega
  have hFm : ∀ m j, m < x.l.length → Hs m j → F j := fun m j hm hj => (h.own j).2 (.inr (.inr ⟨m, hm, hj⟩))
  have keep : ∀ (G : Nat → Prop) (t' : Pt) (a' : Pa), PG w G t' a' → PG (w1.setCell ⟨c, 0, none⟩ (.slice (some ⟨r', 0, none⟩) (x.l.length + 1) cap')) G t' a' := fun G t' a' hg =>
    hg.kept fun j hj => by
      have n1 : j ≠ D.r := fun e => hg.typed.out hb (by decide) (e ▸ hj)
      have n2 : j ≠ c := fun e => hg.typed.out h.blk (by decide) (e ▸ hj)
      exact (Below.heap_setCell _ _ _ j n2).trans (hd.block j (hg.typed.lt hj) n1)
  have hl2 : (x.l.take i ++ a :: x.l.drop i).length = x.l.length + 1 := by simp; omega
  let H2 : Nat → Nat → Prop := fun m => if m < i then Hs m else if m = i then H else Hs (m - 1)
  have H2F : ∀ m j, m < x.l.length + 1 → H2 m j → (m ≠ i ∧ F j) ∨ (m = i ∧ H j) := by
    intro m j hm hj
    simp only [H2] at hj
    by_cases h1 : m < i
    · rw [if_pos h1] at hj; exact .inl ⟨by omega, hFm m j (by omega) hj⟩
    · rw [if_neg h1] at hj
      by_cases h2 : m = i
      · rw [if_pos h2] at hj; exact .inr ⟨h2, hj⟩
      · rw [if_neg h2] at hj; exact .inl ⟨h2, hFm (m - 1) j (by omega) hj⟩
  refine ⟨fun j => j = c ∨ j = r' ∨ ∃ m, m < x.l.length + 1 ∧ H2 m j, ⟨H2, ?_, ?_, ?_, ?_, ?_, ?_⟩, ?_, hFc, hFr⟩
  · have hb1 : Blk w1 c 73 (ccells D x) := h.blk.did hd (fun e => hrc e.symm)
    have := hb1.set_ 0 (.slice (some ⟨r', 0, none⟩) (x.l.length + 1) cap')
    unfold ccells at this ⊢
    simp only [hl2]
    simpa using this
  · obtain ⟨rest, hrb, hrl⟩ := hr
    rw [insL_map] at hrb hrl
    refine ⟨_, hrb.far (by exact hr'c) _, by simpa using hrl, fun m t' ht' => ?_⟩
    rw [List.getElem?_toArray, List.getElem?_append_left (by rw [List.length_map]; exact (List.getElem?_eq_some_iff.1 ht').1), List.getElem?_map, ht']
    rfl
  · rw [hl2]; simp; omega
  · intro m t' a' ht' ha'
    have ht2 := (getIns D.ps t i m (by omega)).symm.trans ht'
    have ha2 := (getIns x.l a i m hi).symm.trans ha'
    simp only [H2]
    by_cases h1 : m < i
    · rw [if_pos h1] at ht2 ha2 ⊢
      exact keep _ _ _ (h.part m t' a' ht2 ha2)
    · rw [if_neg h1] at ht2 ha2 ⊢
      by_cases h2 : m = i
      · rw [if_pos h2] at ht2 ha2 ⊢
        cases ht2; cases ha2
        exact keep _ _ _ hp
      · rw [if_neg h2] at ht2 ha2 ⊢
        exact keep _ _ _ (h.part (m - 1) t' a' ht2 ha2)
  · intro m m' hm hm' hne y hy hy'
    have hm : m < x.l.length + 1 := by rw [← hl2]; exact hm
    have hm' : m' < x.l.length + 1 := by rw [← hl2]; exact hm'
    rcases H2F m y hm hy with ⟨e1, f1⟩ | ⟨e1, f1⟩ <;> rcases H2F m' y hm' hy' with ⟨e2, f2⟩ | ⟨e2, f2⟩
    · simp only [H2] at hy hy'
      have k1 : ∃ q, q < x.l.length ∧ Hs q y ∧ (if m < i then m else m - 1) = q := by
        by_cases g : m < i
        · rw [if_pos g] at hy ⊢; exact ⟨m, by omega, hy, rfl⟩
        · rw [if_neg g, if_neg e1] at hy; rw [if_neg g]; exact ⟨m - 1, by omega, hy, rfl⟩
      have k2 : ∃ q, q < x.l.length ∧ Hs q y ∧ (if m' < i then m' else m' - 1) = q := by
        by_cases g : m' < i
        · rw [if_pos g] at hy' ⊢; exact ⟨m', by omega, hy', rfl⟩
        · rw [if_neg g, if_neg e2] at hy'; rw [if_neg g]; exact ⟨m' - 1, by omega, hy', rfl⟩
      obtain ⟨q1, l1, y1, z1⟩ := k1
      obtain ⟨q2, l2, y2, z2⟩ := k2
      refine h.apart q1 q2 l1 l2 ?_ y y1 y2
      split at z1 <;> split at z2 <;> omega
    · exact hH y f2 f1
    · exact hH y f1 f2
    · omega
  · intro j
    rw [hl2]
  · intro j hj
    rcases hj with rfl | rfl | ⟨m, hm, hj⟩
    · exact .inl hFc
    · rcases hr' with e | e
      · exact .inl (e ▸ hFr)
      · exact .inr (.inr e)
    · rcases H2F m j hm hj with ⟨_, f⟩ | ⟨_, f⟩
      · exact .inl f
      · exact .inr (.inl f)
end Go.Proofs.Ytoiibmcbjjnpbaa.Chain
namespace Go.Proofs.Ytoiibmcbjjnpbaa.Chain
open Go.RowKit Mem Tick Cargo Toxic Stage
set_option linter.unusedVariables false
set_option linter.unusedSimpArgs false
variable {x : Ch} {M Q : Int}
theorem flow_massIO {x y : Ch} {i o : ByteArray} (h : Flow x i o y) : y.lost + heldL y.l + o.size = x.lost + heldL x.l + i.size ∧ x.lost ≤ y.lost := by
  obtain ⟨L, h1, h2, _, _⟩ := h
  have h3 := congrArg ByteArray.size h1
  simp only [ByteArray.size_append, lineL_size] at h3
  constructor <;> omega
theorem OkC.flowIO {y : Ch} {i o : ByteArray} (ho : OkC x M Q) (h : Flow x i o y) (h2 : 2 ≤ y.l.length) (h10 : y.l.length ≤ 10) (hr : y.room = x.room) {Q' : Int} (hok : OkL y.l Q') : OkC y (M + i.size) Q' := by
  obtain ⟨h1, h3⟩ := flow_massIO h
  have a := ho.held
  have b := ho.lost0
  have c := ho.lost
  exact ⟨h2, h10, by rw [hr]; exact ho.r0, by rw [hr]; exact ho.r1, by omega, by omega, by omega, hok⟩
theorem OkC.more (ho : OkC x M Q) {M' Q' : Int} (hM : M ≤ M') (hQ : Q ≤ Q') : OkC x M' Q' :=
  ⟨ho.two, ho.ten, ho.r0, ho.r1, Int.le_trans ho.held hM, ho.lost0, Int.le_trans ho.lost hM, OkL.more ho.ok hQ⟩
theorem passed_put (s : Sg) (n : Int) (b : ByteArray) : (putS s n b).passed = s.passed := by
  unfold putS
  split
  · rfl
  · rw [passed_force]; rfl
theorem ok_put (ho : OkC x M Q) (now : Int) (b : ByteArray) : OkC (putC x now b) (M + b.size) Q := by
  have hf := flow_put x now b
  have hi : (b.extract 0 (putCN x now b)).size ≤ b.size := by rw [ByteArray.size_extract]; omega
  have h0 := ho.okL
  have hl : (putC x now b).l.length = x.l.length ∧ (putC x now b).room = x.room ∧ OkL (putC x now b).l Q := by
    unfold putC
    split
    · exact ⟨rfl, rfl, h0⟩
    split
    · rename_i a ha
      exact ⟨by simp, rfl, OkL.set h0 _ ⟨(h0.at_ ha).1.put _ _, by show (putS a.s now b).passed ≤ _; rw [passed_put]; exact (h0.at_ ha).2⟩⟩
    · exact ⟨rfl, rfl, h0⟩
  exact (ho.flowIO hf (by rw [hl.1]; exact ho.two) (by rw [hl.1]; exact ho.ten) hl.2.1 hl.2.2).more (by omega) (Int.le_refl _)
theorem ok_close (ho : OkC x M Q) (now : Int) : OkC (closeC x now) M Q := by
  have h0 := ho.okL
  have hl : (closeC x now).l.length = x.l.length ∧ (closeC x now).room = x.room ∧ OkL (closeC x now).l Q := by
    unfold closeC
    split
    · split
      · rename_i a ha
        exact ⟨by simp, rfl, OkL.set h0 _ (ok_end now (h0.at_ ha))⟩
      · exact ⟨rfl, rfl, h0⟩
    · exact ⟨rfl, rfl, h0⟩
  exact ho.flow (flow_close x now) hl.1 hl.2.1 hl.2.2
theorem ok_break (ho : OkC x M Q) : OkC (breakC x) M Q := by
  have hl : (breakC x).l.length = x.l.length ∧ (breakC x).room = x.room ∧ OkL (breakC x).l Q := by
    unfold breakC
    split
    · exact ⟨rfl, rfl, ho.okL⟩
    · exact ⟨loseL_length _ _, rfl, mapK_ok ho.okL _⟩
  exact ho.flow (flow_break x) hl.1 hl.2.1 hl.2.2
theorem ok_take (ho : OkC x M Q) (hM : 0 ≤ M) (now most : Int) : OkC (takeC x now most) M (Q + M) := by
  have h0 := ho.okL
  have hl : (takeC x now most).l.length = x.l.length ∧ (takeC x now most).room = x.room ∧ OkL (takeC x now most).l (Q + M) := by
    unfold takeC
    split
    · exact ⟨rfl, rfl, h0.more (by omega)⟩
    split
    · rename_i a ha
      refine ⟨by simp, rfl, OkL.set (h0.more (by omega)) _ ⟨(h0.at_ ha).1.take _ _, ?_⟩⟩
      show (takeS a.s now most).passed ≤ _
      rw [passed_take]
      have h1 := takeB_le a.s now most
      have h2 := held_le ha
      have h3 := (h0.at_ ha).2
      have h4 := ho.held
      omega
    · exact ⟨rfl, rfl, h0.more (by omega)⟩
  have := ho.flowIO (flow_take x now most) (by rw [hl.1]; exact ho.two) (by rw [hl.1]; exact ho.ten) hl.2.1 hl.2.2
  have e : ((⟨#[]⟩ : ByteArray).size : Int) = 0 := rfl
  rw [e, Int.add_zero] at this
  exact this
theorem ok_last (ho : OkC x M Q) (now : Int) : OkC (lastC now x) M Q := by
  have h0 := ho.okL
  have hl : (lastC now x).room = x.room ∧ OkL (lastC now x).l Q := by
    unfold lastC
    split
    · rename_i a ha
      exact ⟨rfl, OkL.set h0 _ (ok_look now (h0.at_ ha))⟩
    · exact ⟨rfl, h0⟩
  exact ho.flow (flow_last now x).1 (flow_last now x).2 hl.1 hl.2
theorem ok_step (ho : OkC x M Q) (now : Int) : OkC (stepC now x) M (Q + 10 * M) := by
  have hM : 0 ≤ M := by have := ho.held; omega
  unfold stepC
  split
  · exact ho.more (Int.le_refl _) (by omega)
  have hm : OkC { x with l := x.l.map (lookA now) } M Q := ho.list (by simp) (heldL_of_line (look_map now x.l)) (OkL.look ho.okL now)
  split
  · exact (ok_break hm).more (Int.le_refl _) (by omega)
  · have h1 := mfold_ok hm now (List.range (x.l.length - 1))
    have h10 := ho.ten
    have hpl : ((List.range (x.l.length - 1)).length : Int) * M ≤ 10 * M := Int.mul_le_mul_of_nonneg_right (by rw [List.length_range]; omega) hM
    have h2 : OkC { x with l := moves now (x.l.length - 1) (x.l.map (lookA now)) } M (Q + 10 * M) := by
      have := h1.1
      rw [mfold_range] at this
      exact this.more (Int.le_refl _) (by omega)
    have h3 := sfold_ok now (List.range (x.l.length - 1)) _ h2
    rw [sfold_range] at h3
    exact ok_last h3.1 now
theorem OkL.app {l l' : List Pa} (h : OkL l Q) (h' : OkL l' Q) : OkL (l ++ l') Q := fun a ha => (List.mem_append.1 ha).elim (h a) (h' a)
theorem OkL.cons {l : List Pa} {b : Pa} (hb : Ok b.s ∧ b.s.passed ≤ Q) (h : OkL l Q) : OkL (b :: l) Q := fun a ha => by
  rcases List.mem_cons.1 ha with e | e
  · subst e; exact hb
  · exact h a e
theorem OkL.take {l : List Pa} (h : OkL l Q) (n : Nat) : OkL (l.take n) Q := fun a ha => h a (List.mem_of_mem_take ha)
theorem OkL.drop {l : List Pa} (h : OkL l Q) (n : Nat) : OkL (l.drop n) Q := fun a ha => h a (List.mem_of_mem_drop ha)
theorem ok_ins (ho : OkC x M Q) (hQ : 0 ≤ Q) (at_ : Int) (t : Tox) (seed now : Int) : OkC (insC x at_ t seed now) M Q := by
  have h0 := ho.okL
  have hl : (insC x at_ t seed now).l.length ≤ 10 ∧ 2 ≤ (insC x at_ t seed now).l.length ∧ (insC x at_ t seed now).room = x.room ∧ OkL (insC x at_ t seed now).l Q := by
    unfold insC
    split
    · exact ⟨ho.ten, ho.two, rfl, h0⟩
    rename_i hz
    split
    · rename_i b hb
      have hz2 : noPlace x at_ = false ∧ newE t x.room = 0 := by
        unfold insE at hz
        split at hz
        · exact absurd (by decide) hz
        · rename_i hn
          exact ⟨by simpa using hn, by simpa using hz⟩
      have hp : (x.l.length : Int) - 2 < 8 := by
        have := hz2.1
        simp [noPlace] at this
        omega
      have hi := (List.getElem?_eq_some_iff.1 hb).1
      have hok := Ok.new (seed := seed) (now := now) hz2.2
      have hpa : (newS t seed x.room now).passed = 0 := by unfold newS; split <;> rfl
      have h2 := ho.two
      refine ⟨?_, ?_, rfl, OkL.app (h0.take _) (OkL.cons ?_ (h0.drop _))⟩
      · show (x.l.take (at_.toNat + 1) ++ _ :: x.l.drop (at_.toNat + 1)).length ≤ 10
        simp; omega
      · show 2 ≤ (x.l.take (at_.toNat + 1) ++ _ :: x.l.drop (at_.toNat + 1)).length
        simp; omega
      · split
        · exact ok_end now ⟨hok, by show (newS t seed x.room now).passed ≤ _; rw [hpa]; exact hQ⟩
        · exact ⟨hok, by show (newS t seed x.room now).passed ≤ _; rw [hpa]; exact hQ⟩
    · exact ⟨ho.ten, ho.two, rfl, h0⟩
  have := ho.flowIO (flow_ins x at_ t seed now) hl.2.1 hl.1 hl.2.2.1 hl.2.2.2
  have e : ((⟨#[]⟩ : ByteArray).size : Int) = 0 := rfl
  rw [e, Int.add_zero] at this
  exact this
end Go.Proofs.Ytoiibmcbjjnpbaa.Chain
namespace Go.Proofs.Ytoiibmcbjjnpbaa.Chain
open Go.RowKit Mem Tick Cargo Toxic Stage
open Go.Proofs.YtoiibmcbjjnpbaaW.PrintLast Pu
set_option maxRecDepth 100000
set_option linter.unusedVariables false
set_option linter.unusedSimpArgs false
variable {w w' w1 : World} {F H : Nat → Prop} {t : Pt} {a : Pa} {c : Nat} {D : Lay} {x : Ch}
theorem ins_no (h : CH w F c D x) (h2 : 2 ≤ x.l.length) (h10 : x.l.length ≤ 10) (at_ : Int) (t0 : ByteArray) (t1 : Int) (t2 : Bool) (t3 t4 t5 seed now : Int) (hno : noPlace x at_ = true) :
    Calls Try.prog 38 #[ptr c, .int .i64 at_, .agg #[.string t0, .int .i64 t1, .bool t2, .int .i64 t3, .int .i64 t4, .int .i64 t5], .int .u64 seed, .int .i64 now] w fun e w' => e = .returned (.int .i64 110) ∧ Below w.heap.size w w' := by
  have hb0 := (Below.refl w.heap.size w).alloc (Nat.le_refl _) (.cells #[.string t0, .int .i64 t1, .bool t2, .int .i64 t3, .int .i64 t4, .int .i64 t5] 29)
  have hi := Lib.hid (fun (wy : World) (hb : Below w.heap.size w wy) => inner_any (h.below hb) h2 h10)
  have hb0' := Lib.hid hb0
  clear h hb0
  by_cases g1 : at_ < 0
  · clear hno hi
    go_enter Try.func38, Try.ntmps38
    go_wp2
    go_ret
    exact ⟨rfl, hb0'.out⟩
  by_cases g2 : ((x.l.length - 2 : Nat) : Int) < at_
  · clear hno
    go_enter Try.func38, Try.ntmps38
    go_wp2_with fail
    refine (hi.out _ hb0'.out).mono ?_
    rintro e w1 ⟨rfl, hB⟩
    have hB1 := Lib.hid (bw_below hb0'.out hB)
    clear hB hi hb0'
    go_wp2
    go_ret
    exact ⟨rfl, hB1.out⟩
  · have g3 : (8 : Int) ≤ ((x.l.length - 2 : Nat) : Int) := by
      simp [noPlace] at hno
      omega
    have g2' : at_ ≤ ((x.l.length - 2 : Nat) : Int) := by omega
    clear hno g2
    go_enter Try.func38, Try.ntmps38
    go_wp2_with fail
    refine (hi.out _ hb0'.out).mono ?_
    rintro e w1 ⟨rfl, hB⟩
    have hB1 := Lib.hid (bw_below hb0'.out hB)
    clear hB hb0'
    go_wp2_with fail
    refine (hi.out _ hB1.out).mono ?_
    rintro e w2 ⟨rfl, hB⟩
    have hB2 := Lib.hid (bw_below hB1.out hB)
    clear hB hB1 hi
    go_wp2
    go_ret
    exact ⟨rfl, hB2.out⟩
theorem ins_err (h : CH w F c D x) (h2 : 2 ≤ x.l.length) (h10 : x.l.length ≤ 10) (at_ : Int) (t0 : ByteArray) (t1 : Int) (t2 : Bool) (t3 t4 t5 seed now : Int) (hno : noPlace x at_ = false) (he : newE ⟨t0, t1, t2, t3, t4, t5⟩ x.room ≠ 0) :
    Calls Try.prog 38 #[ptr c, .int .i64 at_, .agg #[.string t0, .int .i64 t1, .bool t2, .int .i64 t3, .int .i64 t4, .int .i64 t5], .int .u64 seed, .int .i64 now] w fun e w' => e = .returned (.int .i64 (newE ⟨t0, t1, t2, t3, t4, t5⟩ x.room)) ∧ Below w.heap.size w w' := by
  have hnew := Lib.hid (fun wr => live_none (wr := wr) ⟨t0, t1, t2, t3, t4, t5⟩ seed x.room now he)
  have te : (newE ⟨t0, t1, t2, t3, t4, t5⟩ x.room != 0) = true := by simpa using he
  have hh := Lib.hid h
  have hb0 := (Below.refl w.heap.size w).alloc (Nat.le_refl _) (.cells #[.string t0, .int .i64 t1, .bool t2, .int .i64 t3, .int .i64 t4, .int .i64 t5] 29)
  have hi := Lib.hid (fun (wy : World) (hb : Below w.heap.size w wy) => inner_any (h.below hb) h2 h10)
  have hb0' := Lib.hid hb0
  have hblk0 := Lib.hid (Blk.new w 29 #[.string t0, .int .i64 t1, .bool t2, .int .i64 t3, .int .i64 t4, .int .i64 t5])
  have g1 : ¬ at_ < 0 := by simp [noPlace] at hno; omega
  have g2' : at_ ≤ ((x.l.length - 2 : Nat) : Int) := by simp [noPlace] at hno; omega
  have g3 : ¬ (8 : Int) ≤ ((x.l.length - 2 : Nat) : Int) := by simp [noPlace] at hno; omega
  clear h hno hb0 he
  generalize newE ⟨t0, t1, t2, t3, t4, t5⟩ x.room = E at *
  go_enter Try.func38, Try.ntmps38
  go_wp2_with fail
  refine (hi.out _ hb0'.out).mono ?_
  rintro e w1 ⟨rfl, hB⟩
  have hB1 := Lib.hid (bw_below hb0'.out hB)
  have hblk1 := Lib.hid (hblk0.out.below hB)
  clear hB hb0' hblk0
  go_wp2_with fail
  refine (hi.out _ hB1.out).mono ?_
  rintro e w2 ⟨rfl, hB⟩
  have hB2 := Lib.hid (bw_below hB1.out hB)
  have hblk2 := Lib.hid (hblk1.out.below hB)
  clear hB hB1 hi hblk1
  have hC2 := Lib.hid (hh.out.below hB2.out)
  have d0 : w2.cell? ⟨w.heap.size, 0, none⟩ = some (.string t0) := (hblk2.out.cell 0).trans rfl
  have d1 : w2.cell? ⟨w.heap.size, 1, none⟩ = some (.int .i64 t1) := (hblk2.out.cell 1).trans rfl
  have d2 : w2.cell? ⟨w.heap.size, 2, none⟩ = some (.bool t2) := (hblk2.out.cell 2).trans rfl
  have d3 : w2.cell? ⟨w.heap.size, 3, none⟩ = some (.int .i64 t3) := (hblk2.out.cell 3).trans rfl
  have d4 : w2.cell? ⟨w.heap.size, 4, none⟩ = some (.int .i64 t4) := (hblk2.out.cell 4).trans rfl
  have d5 : w2.cell? ⟨w.heap.size, 5, none⟩ = some (.int .i64 t5) := (hblk2.out.cell 5).trans rfl
  have d6 : w2.cell? ⟨c, 1, none⟩ = some (.int .i64 x.room) := (hC2.out.blk.cell 1).trans rfl
  go_wp2
  refine start_ (n := 13) (S := fun w' => w'.cell? ⟨w.heap.size, 0, none⟩ = some (.string t0) ∧ w'.cell? ⟨w.heap.size, 1, none⟩ = some (.int .i64 t1) ∧ w'.cell? ⟨w.heap.size, 2, none⟩ = some (.bool t2) ∧ w'.cell? ⟨w.heap.size, 3, none⟩ = some (.int .i64 t3) ∧ w'.cell? ⟨w.heap.size, 4, none⟩ = some (.int .i64 t4) ∧ w'.cell? ⟨w.heap.size, 5, none⟩ = some (.int .i64 t5) ∧ w'.cell? ⟨c, 1, none⟩ = some (.int .i64 x.room)) (ds := []) (m_ 13 0) (by kernel_rfl) rfl (by kernel_rfl) ⟨d0, d1, d2, d3, d4, d5, d6⟩ (fun hHeld => ?_)
  refine pu_ 1 (some 31) (m_ 13 2) rfl rfl (by kernel_rfl) (fun _ _ _ h => h) (by rfl) (by intro w'; go_simp; with_reducible rfl) (by simp only [Act.put, List.setIfInBounds_toArray, List.set_cons_zero, List.set_cons_succ, i64_w, i32_w]; rfl) ?_
  refine pu_ 2 (some 32) (m_ 13 6) rfl rfl (by kernel_rfl) (fun _ _ _ h => h) (by rfl) (by intro w'; go_simp; with_reducible rfl) (by simp only [Act.put, List.setIfInBounds_toArray, List.set_cons_zero, List.set_cons_succ, i64_w, i32_w]; rfl) ?_
  refine pu_ 3 (some 33) (m_ 13 14) rfl rfl (by kernel_rfl) (fun _ _ _ h => h) (by rfl) (by intro w'; go_simp; with_reducible rfl) (by simp only [Act.put, List.setIfInBounds_toArray, List.set_cons_zero, List.set_cons_succ, i64_w, i32_w]; rfl) ?_
  refine pu_ 4 (some 34) (m_ 13 30) rfl rfl (by kernel_rfl) (fun _ _ _ h => h) (by rfl) (by intro w'; go_simp; with_reducible rfl) (by simp only [Act.put, List.setIfInBounds_toArray, List.set_cons_zero, List.set_cons_succ, i64_w, i32_w]; rfl) ?_
  refine pu_ 6 (some 36) (m_ 13 94) rfl rfl (by kernel_rfl) (fun _ _ _ h => h) (by rfl) (by intro w'; go_simp; with_reducible rfl) (by simp only [Act.put, List.setIfInBounds_toArray, List.set_cons_zero, List.set_cons_succ, i64_w, i32_w]; rfl) ?_
  refine tk_ 0 (some 30) (m_ 13 95) rfl rfl (by kernel_rfl) (fun _ _ _ h => h) (by rfl) (by rintro w' ⟨s0, s1, s2, s3, s4, s5, s6⟩; go_simp; with_reducible rfl) hHeld (by simp only [Act.put, List.setIfInBounds_toArray, List.set_cons_zero, List.set_cons_succ, i64_w, i32_w]; rfl) ?_
  refine tk_ 5 (some 35) (m_ 13 127) rfl rfl (by kernel_rfl) (fun _ _ _ h => h) (by rfl) (by rintro w' ⟨s0, s1, s2, s3, s4, s5, s6⟩; go_simp; with_reducible rfl) hHeld (by simp only [Act.put, List.setIfInBounds_toArray, List.set_cons_zero, List.set_cons_succ, i64_w, i32_w]; rfl) ?_
  refine one_ (i := 7) (N := some 37) (m_ 13 255) rfl rfl (by kernel_rfl) (by decide) (fun K hK => ?_)
  refine goes_ Try.func29 (by kernel_rfl) rfl #[.agg #[.string t0, .int .i64 t1, .bool t2, .int .i64 t3, .int .i64 t4, .int .i64 t5], .int .u64 seed, .int .i64 x.room, .int .i64 now] (by rfl) rfl rfl (by simp only [List.map_toArray, List.map_cons, List.map_nil]; rfl) ?_
  with_reducible refine (hnew.out w2.drew).mono ?_
  rintro e w4 ⟨rfl, hB⟩
  have hb4 := below_drew hB
  have e0 := bcells hb4 d0
  have e1 := bcells hb4 d1
  have e2 := bcells hb4 d2
  have e3 := bcells hb4 d3
  have e4 := bcells hb4 d4
  have e5 := bcells hb4 d5
  have e6 := bcells hb4 d6
  have hB4 := Lib.hid (bw_below hB2.out hb4)
  clear hB hb4
  refine ⟨_, rfl, ?_⟩
  refine hK.out _ _ ⟨e0, e1, e2, e3, e4, e5, e6⟩ (fun hHeld => ?_)
  clear hK K
  refine norm_ (a' := ?_) ?_ ?_
  rotate_left
  · show Act.put _ (some 37) _ = _
    simp only [Act.put, List.setIfInBounds_toArray, List.set_cons_zero, List.set_cons_succ, i64_w, i32_w]
    rfl
  refine pu_ 8 (some 29) (m_ 13 511) rfl rfl (by kernel_rfl) (fun _ _ _ h => h) (by rfl) (by intro w'; go_simp; with_reducible rfl) (by simp only [Act.put, List.setIfInBounds_toArray, List.set_cons_zero, List.set_cons_succ, i64_w, i32_w]; rfl) ?_
  refine pu_ 9 (some 38) (m_ 13 1023) rfl rfl (by kernel_rfl) (fun _ _ _ h => h) (by rfl) (by intro w'; go_simp; with_reducible rfl) (by simp only [Act.put, List.setIfInBounds_toArray, List.set_cons_zero, List.set_cons_succ, i64_w, i32_w]; rfl) ?_
  refine pu_ 10 (some 39) (m_ 13 2047) rfl rfl (by kernel_rfl) (fun _ _ _ h => h) (by rfl) (by intro w'; go_simp; with_reducible rfl) (by simp only [Act.put, List.setIfInBounds_toArray, List.set_cons_zero, List.set_cons_succ, i64_w, i32_w]; rfl) ?_
  refine pu_ 11 (some 11) (m_ 13 4095) rfl rfl (by kernel_rfl) (fun _ _ _ h => h) (by rfl) (by intro w'; go_simp; with_reducible rfl) (by simp only [Act.put, List.setIfInBounds_toArray, List.set_cons_zero, List.set_cons_succ, i64_w, i32_w]; rfl) ?_
  refine pu_ 12 (some 12) (m_ 13 8191) rfl rfl (by kernel_rfl) (fun _ _ _ h => h) (by rfl) (by intro w'; go_simp; with_reducible rfl) (by simp only [Act.put, List.setIfInBounds_toArray, List.set_cons_zero, List.set_cons_succ, i64_w, i32_w]; rfl) ?_
  refine done_ (by kernel_rfl) ?_
  clear hHeld d0 d1 d2 d3 d4 d5 d6 e0 e1 e2 e3 e4 e5 e6
  go_wp2
  go_ret
  exact ⟨rfl, hB4.out⟩
theorem ins_ok (h : CH w F c D x) (h2 : 2 ≤ x.l.length) (h10 : x.l.length ≤ 10) (hcap : D.cap ≤ 9223372036854775807) (k : Nat) (t0 : ByteArray) (t1 : Int) (t2 : Bool) (t3 t4 t5 seed now : Int) (hno : noPlace x (k : Int) = false) (he : newE ⟨t0, t1, t2, t3, t4, t5⟩ x.room = 0) (b0 : Pa) (hx : x.l[k + 1]? = some b0) :
    Calls Try.prog 38 #[ptr c, .int .i64 (k : Int), .agg #[.string t0, .int .i64 t1, .bool t2, .int .i64 t3, .int .i64 t4, .int .i64 t5], .int .u64 seed, .int .i64 now] w fun e w' => e = .returned (.int .i64 0) ∧ ∃ D' F', CH w' F' c D' { x with l := x.l.take (k + 1) ++ (if b0.cl = true then endA now ⟨newS ⟨t0, t1, t2, t3, t4, t5⟩ seed x.room now, false⟩ else ⟨newS ⟨t0, t1, t2, t3, t4, t5⟩ seed x.room now, false⟩) :: x.l.drop (k + 1) } ∧ Did F w w' ∧ Stem F F' w ∧ D'.cap ≤ 9223372036854775807 := by
  have hnew := Lib.hid (fun wr => (new_any ⟨t0, t1, t2, t3, t4, t5⟩ seed x.room now wr).mono fun e w' hp => hp.1 he)
  have hh := Lib.hid h
  have hb0 := (Below.refl w.heap.size w).alloc (Nat.le_refl _) (.cells #[.string t0, .int .i64 t1, .bool t2, .int .i64 t3, .int .i64 t4, .int .i64 t5] 29)
  have hi := Lib.hid (fun (wy : World) (hb : Below w.heap.size w wy) => inner_any (h.below hb) h2 h10)
  have hb0' := Lib.hid hb0
  have hblk0 := Lib.hid (Blk.new w 29 #[.string t0, .int .i64 t1, .bool t2, .int .i64 t3, .int .i64 t4, .int .i64 t5])
  have g1 : ¬ (k : Int) < 0 := by simp [noPlace] at hno; omega
  have g2' : (k : Int) ≤ ((x.l.length - 2 : Nat) : Int) := by simp [noPlace] at hno; omega
  have g3 : ¬ (8 : Int) ≤ ((x.l.length - 2 : Nat) : Int) := by simp [noPlace] at hno; omega
  have hk1 : k + 1 < x.l.length := (List.getElem?_eq_some_iff.1 hx).1
  have hkw := wr_at k (by omega)
  have hx' := Lib.hid hx
  have hnF := Lib.hid (fun j => h.lt (j := j))
  clear h hno hb0 he hx
  generalize newS ⟨t0, t1, t2, t3, t4, t5⟩ seed x.room now = sn at *
  have hkw' := Lib.hid hkw
  clear hkw
  go_enter Try.func38, Try.ntmps38
  go_wp2_with fail
  refine (hi.out _ hb0'.out).mono ?_
  rintro e w1 ⟨rfl, hB⟩
  have hB1 := Lib.hid (bw_below hb0'.out hB)
  have hblk1 := Lib.hid (hblk0.out.below hB)
  clear hB hb0' hblk0
  go_wp2_with fail
  refine (hi.out _ hB1.out).mono ?_
  rintro e w2 ⟨rfl, hB⟩
  have hB2 := Lib.hid (bw_below hB1.out hB)
  have hblk2 := Lib.hid (hblk1.out.below hB)
  clear hB hB1 hi hblk1
  have hC2 := Lib.hid (hh.out.below hB2.out)
  have d0 : w2.cell? ⟨w.heap.size, 0, none⟩ = some (.string t0) := (hblk2.out.cell 0).trans rfl
  have d1 : w2.cell? ⟨w.heap.size, 1, none⟩ = some (.int .i64 t1) := (hblk2.out.cell 1).trans rfl
  have d2 : w2.cell? ⟨w.heap.size, 2, none⟩ = some (.bool t2) := (hblk2.out.cell 2).trans rfl
  have d3 : w2.cell? ⟨w.heap.size, 3, none⟩ = some (.int .i64 t3) := (hblk2.out.cell 3).trans rfl
  have d4 : w2.cell? ⟨w.heap.size, 4, none⟩ = some (.int .i64 t4) := (hblk2.out.cell 4).trans rfl
  have d5 : w2.cell? ⟨w.heap.size, 5, none⟩ = some (.int .i64 t5) := (hblk2.out.cell 5).trans rfl
  have d6 : w2.cell? ⟨c, 1, none⟩ = some (.int .i64 x.room) := (hC2.out.blk.cell 1).trans rfl
  go_wp2
  refine start_ (n := 13) (S := fun w' => w'.cell? ⟨w.heap.size, 0, none⟩ = some (.string t0) ∧ w'.cell? ⟨w.heap.size, 1, none⟩ = some (.int .i64 t1) ∧ w'.cell? ⟨w.heap.size, 2, none⟩ = some (.bool t2) ∧ w'.cell? ⟨w.heap.size, 3, none⟩ = some (.int .i64 t3) ∧ w'.cell? ⟨w.heap.size, 4, none⟩ = some (.int .i64 t4) ∧ w'.cell? ⟨w.heap.size, 5, none⟩ = some (.int .i64 t5) ∧ w'.cell? ⟨c, 1, none⟩ = some (.int .i64 x.room)) (ds := []) (m_ 13 0) (by kernel_rfl) rfl (by kernel_rfl) ⟨d0, d1, d2, d3, d4, d5, d6⟩ (fun hHeld => ?_)
  refine pu_ 1 (some 31) (m_ 13 2) rfl rfl (by kernel_rfl) (fun _ _ _ h => h) (by rfl) (by intro w'; go_simp; with_reducible rfl) (by simp only [Act.put, List.setIfInBounds_toArray, List.set_cons_zero, List.set_cons_succ, i64_w, i32_w]; rfl) ?_
  refine pu_ 2 (some 32) (m_ 13 6) rfl rfl (by kernel_rfl) (fun _ _ _ h => h) (by rfl) (by intro w'; go_simp; with_reducible rfl) (by simp only [Act.put, List.setIfInBounds_toArray, List.set_cons_zero, List.set_cons_succ, i64_w, i32_w]; rfl) ?_
  refine pu_ 3 (some 33) (m_ 13 14) rfl rfl (by kernel_rfl) (fun _ _ _ h => h) (by rfl) (by intro w'; go_simp; with_reducible rfl) (by simp only [Act.put, List.setIfInBounds_toArray, List.set_cons_zero, List.set_cons_succ, i64_w, i32_w]; rfl) ?_
  refine pu_ 4 (some 34) (m_ 13 30) rfl rfl (by kernel_rfl) (fun _ _ _ h => h) (by rfl) (by intro w'; go_simp; with_reducible rfl) (by simp only [Act.put, List.setIfInBounds_toArray, List.set_cons_zero, List.set_cons_succ, i64_w, i32_w]; rfl) ?_
  refine pu_ 6 (some 36) (m_ 13 94) rfl rfl (by kernel_rfl) (fun _ _ _ h => h) (by rfl) (by intro w'; go_simp; with_reducible rfl) (by simp only [Act.put, List.setIfInBounds_toArray, List.set_cons_zero, List.set_cons_succ, i64_w, i32_w]; rfl) ?_
  refine tk_ 0 (some 30) (m_ 13 95) rfl rfl (by kernel_rfl) (fun _ _ _ h => h) (by rfl) (by rintro w' ⟨s0, s1, s2, s3, s4, s5, s6⟩; go_simp; with_reducible rfl) hHeld (by simp only [Act.put, List.setIfInBounds_toArray, List.set_cons_zero, List.set_cons_succ, i64_w, i32_w]; rfl) ?_
  refine tk_ 5 (some 35) (m_ 13 127) rfl rfl (by kernel_rfl) (fun _ _ _ h => h) (by rfl) (by rintro w' ⟨s0, s1, s2, s3, s4, s5, s6⟩; go_simp; with_reducible rfl) hHeld (by simp only [Act.put, List.setIfInBounds_toArray, List.set_cons_zero, List.set_cons_succ, i64_w, i32_w]; rfl) ?_
  refine one_ (i := 7) (N := some 37) (m_ 13 255) rfl rfl (by kernel_rfl) (by decide) (fun K hK => ?_)
  refine goes_ Try.func29 (by kernel_rfl) rfl #[.agg #[.string t0, .int .i64 t1, .bool t2, .int .i64 t3, .int .i64 t4, .int .i64 t5], .int .u64 seed, .int .i64 x.room, .int .i64 now] (by rfl) rfl rfl (by simp only [List.map_toArray, List.map_cons, List.map_nil]; rfl) ?_
  with_reducible refine (hnew.out w2.drew).mono ?_
  rintro e w4 ⟨bb, kk, F1, rfl, hS4, hF1, hB⟩
  have hb4 := below_drew hB
  have e0 := bcells hb4 d0
  have e1 := bcells hb4 d1
  have e2 := bcells hb4 d2
  have e3 := bcells hb4 d3
  have e4 := bcells hb4 d4
  have e5 := bcells hb4 d5
  have e6 := bcells hb4 d6
  have hB4 := Lib.hid (bw_below hB2.out hb4)
  have hS4' := Lib.hid hS4
  have hF1' := Lib.hid (show ∀ j, F1 j → w2.heap.size ≤ j from hF1)
  have hC4 := Lib.hid (hC2.out.below hb4)
  clear hB hb4 hS4 hF1
  refine ⟨_, rfl, ?_⟩
  refine hK.out _ _ ⟨e0, e1, e2, e3, e4, e5, e6⟩ (fun hHeld => ?_)
  clear hK K
  refine norm_ (a' := ?_) ?_ ?_
  rotate_left
  · show Act.put _ (some 37) _ = _
    simp only [Act.put, List.setIfInBounds_toArray, List.set_cons_zero, List.set_cons_succ, i64_w, i32_w]
    rfl
  refine pu_ 8 (some 29) (m_ 13 511) rfl rfl (by kernel_rfl) (fun _ _ _ h => h) (by rfl) (by intro w'; go_simp; with_reducible rfl) (by simp only [Act.put, List.setIfInBounds_toArray, List.set_cons_zero, List.set_cons_succ, i64_w, i32_w]; rfl) ?_
  refine pu_ 9 (some 38) (m_ 13 1023) rfl rfl (by kernel_rfl) (fun _ _ _ h => h) (by rfl) (by intro w'; go_simp; with_reducible rfl) (by simp only [Act.put, List.setIfInBounds_toArray, List.set_cons_zero, List.set_cons_succ, i64_w, i32_w]; rfl) ?_
  refine pu_ 10 (some 39) (m_ 13 2047) rfl rfl (by kernel_rfl) (fun _ _ _ h => h) (by rfl) (by intro w'; go_simp; with_reducible rfl) (by simp only [Act.put, List.setIfInBounds_toArray, List.set_cons_zero, List.set_cons_succ, i64_w, i32_w]; rfl) ?_
  refine pu_ 11 (some 11) (m_ 13 4095) rfl rfl (by kernel_rfl) (fun _ _ _ h => h) (by rfl) (by intro w'; go_simp; with_reducible rfl) (by simp only [Act.put, List.setIfInBounds_toArray, List.set_cons_zero, List.set_cons_succ, i64_w, i32_w]; rfl) ?_
  refine pu_ 12 (some 12) (m_ 13 8191) rfl rfl (by kernel_rfl) (fun _ _ _ h => h) (by rfl) (by intro w'; go_simp; with_reducible rfl) (by simp only [Act.put, List.setIfInBounds_toArray, List.set_cons_zero, List.set_cons_succ, i64_w, i32_w]; rfl) ?_
  refine done_ (by kernel_rfl) ?_
  clear hHeld d0 d1 d2 d3 d4 d5 d6 e0 e1 e2 e3 e4 e5 e6
  have hsz : w.heap.size ≤ w2.heap.size := hB2.out.size
  have hb5 := (Below.refl w4.heap.size w4).alloc (Nat.le_refl _) (.cells #[ptr bb, .bool false] 68)
  have hC5 := Lib.hid (hC4.out.below hb5)
  have hP5 := Lib.hid (show PG (w4.alloc (.cells #[ptr bb, .bool false] 68)) (fun j => j = w4.heap.size ∨ F1 j) ⟨w4.heap.size, bb, kk⟩ ⟨sn, false⟩ from ⟨F1, Blk.new _ _ _, hS4'.out.below hb5, fun j => Iff.rfl⟩)
  have hH5 := Lib.hid (show (∀ j, (j = w4.heap.size ∨ F1 j) → ¬ F j) ∧ ∀ j, (j = w4.heap.size ∨ F1 j) → w.heap.size ≤ j from by
    have z : ∀ j, (j = w4.heap.size ∨ F1 j) → w.heap.size ≤ j := by
      rintro j (rfl | h)
      · exact hB4.out.size
      · have := hF1'.out j h; omega
    exact ⟨fun j hj hf => by have := hnF.out j hf; have := z j hj; omega, z⟩)
  have hD5 := Lib.hid (show Did F w (w4.alloc (.cells #[ptr bb, .bool false] 68)) from (Did.of_below hB4.out).alloc _)
  obtain ⟨tt, htt⟩ := hC5.out.pt hx'.out
  have c0 : (w4.alloc (.cells #[ptr bb, .bool false] 68)).cell? ⟨c, 0, none⟩ = some (.slice (some ⟨D.r, 0, none⟩) x.l.length D.cap) := (hC5.out.blk.cell 0).trans rfl
  have r0 := hC5.out.rcell htt
  have p1 := (hC5.out.pcell htt hx'.out).2
  have hk2 : (k : Int) + 1 < (x.l.length : Int) := by omega
  have hk3 : (0 : Int) ≤ (k : Int) + 1 := by omega
  clear hC4 hS4' hF1' hC2 hB2 hb5 htt hblk2 hB4 hh hnew
  cases hcl : b0.cl with
  | true =>
    rw [hcl] at p1
    have hen := Lib.hid (end_any hP5.out now)
    go_wp2_with fail
    refine hen.out.mono ?_
    rintro e w6 ⟨rfl, H6, hP, hD6, hS6⟩
    have hC6 := Lib.hid (show CH w6 F c D x from hC5.out.kept fun j hj => hD6.block j (hC5.out.lt hj) (fun hh => hH5.out.1 j hh hj))
    have hP6 := Lib.hid hP
    have hH6 := Lib.hid (show (∀ j, H6 j → ¬ F j) ∧ ∀ j, H6 j → w.heap.size ≤ j from by
      have z : ∀ j, H6 j → w.heap.size ≤ j := by
        intro j hj
        rcases hS6 j hj with e | e
        · exact hH5.out.2 j e
        · have := hD5.out.size; omega
      exact ⟨fun j hj hf => by have := hnF.out j hf; have := z j hj; omega, z⟩)
    have hDw6 := Lib.hid (show Did F w w6 from hD5.out.trans (F' := fun j => F j ∨ (j = w4.heap.size ∨ F1 j)) (fun j hj => hj.imp id (hH5.out.2 j)) (hD6.more fun j hj => .inl (.inr hj)))
    clear hP hD6 hS6 hC5 hP5 hH5 hD5 hen c0 r0 p1
    have c0 : w6.cell? ⟨c, 0, none⟩ = some (.slice (some ⟨D.r, 0, none⟩) x.l.length D.cap) := (hC6.out.blk.cell 0).trans rfl
    have hC7 := Lib.hid (hC6.out.below ((Below.refl w6.heap.size w6).alloc (Nat.le_refl _) (.cells #[ptr w4.heap.size] 64)))
    have hP7 := Lib.hid (hP6.out.kept (w' := w6.alloc (.cells #[ptr w4.heap.size] 64)) fun j hj => Below.heap_alloc _ _ _ (hP6.out.typed.lt hj))
    have hins : Hid (Calls Try.prog 61 #[.slice (some ⟨D.r, 0, none⟩) x.l.length D.cap, .int .i64 ((k : Int) + 1), .slice (some ⟨w6.heap.size, 0, none⟩) 1 1] (w6.alloc (.cells #[ptr w4.heap.size] 64)) fun e w' =>
        ∃ r' cap', e = .returned (.slice (some ⟨r', 0, none⟩) (x.l.length + 1) cap') ∧ RV w' r' cap' (insL (k + 1) (ptr w4.heap.size) (D.ps.map fun q : Pt => ptr q.p)) ∧ Did (· = D.r) (w6.alloc (.cells #[ptr w4.heap.size] 64)) w' ∧ (r' = D.r ∨ (w6.alloc (.cells #[ptr w4.heap.size] 64)).heap.size ≤ r') ∧ cap' ≤ 9223372036854775807) :=
      Lib.hid (by
          rw [show (k : Int) + 1 = ((k + 1 : Nat) : Int) by omega]
          exact insert_any _ D.r w6.heap.size x.l.length D.cap (k + 1) w4.heap.size (D.ps.map fun q : Pt => ptr q.p) (fun u hu => by obtain ⟨q, _, rfl⟩ := List.mem_map.1 hu; rfl) (by rw [List.length_map]; exact hC6.out.len) (by omega) (by omega) (by omega) hC6.out.cap hcap hC7.out.rv (Blk.new w6 64 #[ptr w4.heap.size]) (fun e => by
        have : D.r < w6.heap.size := by obtain ⟨_, hq⟩ := hC6.out; obtain ⟨_, hb, _⟩ := hq.row; exact hb.lt
        try simp only [World.size_alloc] at this
        omega))
    clear hP6
    go_wp2_with fail
    refine hins.out.mono ?_
    rintro e w8 ⟨r', cap', rfl, hRV, hD8, hr', hcp⟩
    obtain ⟨F', hCf, hFf, hFc, hFr⟩ := hC7.out.ins hP7.out hH6.out.1 (i := k + 1) (by omega) hRV hD8 hr'
    have hcr : D.r ≠ c := by obtain ⟨_, hq⟩ := hC6.out; obtain ⟨_, hb, _⟩ := hq.row; exact hb.ne hq.blk (by decide)
    have hb8 : Blk w8 c 73 (ccells D x) := hC7.out.blk.did hD8 (fun e => hcr e.symm)
    have c8 : w8.cell? ⟨c, 0, none⟩ = some (.slice (some ⟨D.r, 0, none⟩) x.l.length D.cap) := (hb8.cell 0).trans rfl
    have f8 := hb8.free 0
    have hres := Lib.hid (show ∃ D' F', CH (w8.setCell ⟨c, 0, none⟩ (.slice (some ⟨r', 0, none⟩) (x.l.length + 1) cap')) F' c D' { x with l := x.l.take (k + 1) ++ (endA now ⟨sn, false⟩) :: x.l.drop (k + 1) } ∧ Did F w (w8.setCell ⟨c, 0, none⟩ (.slice (some ⟨r', 0, none⟩) (x.l.length + 1) cap')) ∧ Stem F F' w ∧ D'.cap ≤ 9223372036854775807 from
      ⟨_, F', hCf, ((hDw6.out.alloc _).trans (Stem.refl _ _) (hD8.more fun j hj => .inl (by subst hj; exact hFr))).setCell (p := ⟨c, 0, none⟩) (.inl hFc) _, fun j hj => by
        rcases hFf j hj with h | h | h
        · exact .inl h
        · exact .inr (hH6.out.2 j h)
        · have := hDw6.out.size
          simp only [World.size_alloc] at h
          try simp only [World.size_alloc] at this
          exact .inr (by omega), hcp⟩)
    clear hins hC6 hC7 hP7 hH6 hDw6 hRV hD8 hr' hCf hFf hFc hFr hb8 c0 hcr
    go_wp2
    all_goals (go_ret; exact ⟨rfl, hres.out⟩)

  | false =>
    rw [hcl] at p1
    have c0 : (w4.alloc (.cells #[ptr bb, .bool false] 68)).cell? ⟨c, 0, none⟩ = some (.slice (some ⟨D.r, 0, none⟩) x.l.length D.cap) := (hC5.out.blk.cell 0).trans rfl
    have hC7 := Lib.hid (hC5.out.below ((Below.refl (w4.alloc (.cells #[ptr bb, .bool false] 68)).heap.size (w4.alloc (.cells #[ptr bb, .bool false] 68))).alloc (Nat.le_refl _) (.cells #[ptr w4.heap.size] 64)))
    have hP7 := Lib.hid (hP5.out.kept (w' := (w4.alloc (.cells #[ptr bb, .bool false] 68)).alloc (.cells #[ptr w4.heap.size] 64)) fun j hj => Below.heap_alloc _ _ _ (hP5.out.typed.lt hj))
    have hins : Hid (Calls Try.prog 61 #[.slice (some ⟨D.r, 0, none⟩) x.l.length D.cap, .int .i64 ((k : Int) + 1), .slice (some ⟨(w4.heap.size + 1), 0, none⟩) 1 1] ((w4.alloc (.cells #[ptr bb, .bool false] 68)).alloc (.cells #[ptr w4.heap.size] 64)) fun e w' =>
        ∃ r' cap', e = .returned (.slice (some ⟨r', 0, none⟩) (x.l.length + 1) cap') ∧ RV w' r' cap' (insL (k + 1) (ptr w4.heap.size) (D.ps.map fun q : Pt => ptr q.p)) ∧ Did (· = D.r) ((w4.alloc (.cells #[ptr bb, .bool false] 68)).alloc (.cells #[ptr w4.heap.size] 64)) w' ∧ (r' = D.r ∨ ((w4.alloc (.cells #[ptr bb, .bool false] 68)).alloc (.cells #[ptr w4.heap.size] 64)).heap.size ≤ r') ∧ cap' ≤ 9223372036854775807) :=
      Lib.hid (by
          rw [show (k : Int) + 1 = ((k + 1 : Nat) : Int) by omega]
          exact insert_any _ D.r (w4.heap.size + 1) x.l.length D.cap (k + 1) w4.heap.size (D.ps.map fun q : Pt => ptr q.p) (fun u hu => by obtain ⟨q, _, rfl⟩ := List.mem_map.1 hu; rfl) (by rw [List.length_map]; exact hC5.out.len) (by omega) (by omega) (by omega) hC5.out.cap hcap hC7.out.rv (by have := Blk.new (w4.alloc (.cells #[ptr bb, .bool false] 68)) 64 #[ptr w4.heap.size]; rw [World.size_alloc] at this; exact this) (fun e => by
        have : D.r < (w4.alloc (.cells #[ptr bb, .bool false] 68)).heap.size := by obtain ⟨_, hq⟩ := hC5.out; obtain ⟨_, hb, _⟩ := hq.row; exact hb.lt
        try simp only [World.size_alloc] at this
        omega))
    clear hP5
    go_wp2_with fail
    refine hins.out.mono ?_
    rintro e w8 ⟨r', cap', rfl, hRV, hD8, hr', hcp⟩
    obtain ⟨F', hCf, hFf, hFc, hFr⟩ := hC7.out.ins hP7.out hH5.out.1 (i := k + 1) (by omega) hRV hD8 hr'
    have hcr : D.r ≠ c := by obtain ⟨_, hq⟩ := hC5.out; obtain ⟨_, hb, _⟩ := hq.row; exact hb.ne hq.blk (by decide)
    have hb8 : Blk w8 c 73 (ccells D x) := hC7.out.blk.did hD8 (fun e => hcr e.symm)
    have c8 : w8.cell? ⟨c, 0, none⟩ = some (.slice (some ⟨D.r, 0, none⟩) x.l.length D.cap) := (hb8.cell 0).trans rfl
    have f8 := hb8.free 0
    have hres := Lib.hid (show ∃ D' F', CH (w8.setCell ⟨c, 0, none⟩ (.slice (some ⟨r', 0, none⟩) (x.l.length + 1) cap')) F' c D' { x with l := x.l.take (k + 1) ++ (⟨sn, false⟩ : Pa) :: x.l.drop (k + 1) } ∧ Did F w (w8.setCell ⟨c, 0, none⟩ (.slice (some ⟨r', 0, none⟩) (x.l.length + 1) cap')) ∧ Stem F F' w ∧ D'.cap ≤ 9223372036854775807 from
      ⟨_, F', hCf, ((hD5.out.alloc _).trans (Stem.refl _ _) (hD8.more fun j hj => .inl (by subst hj; exact hFr))).setCell (p := ⟨c, 0, none⟩) (.inl hFc) _, fun j hj => by
        rcases hFf j hj with h | h | h
        · exact .inl h
        · exact .inr (hH5.out.2 j h)
        · have := hD5.out.size
          simp only [World.size_alloc] at h
          try simp only [World.size_alloc] at this
          exact .inr (by omega), hcp⟩)
    clear hins hC5 hC7 hP7 hH5 hD5 hRV hD8 hr' hCf hFf hFc hFr hb8 c0 hcr r0 p1
    go_wp2
    all_goals (go_ret; exact ⟨rfl, hres.out⟩)

def TuD (w : World) (F : Nat → Prop) (w' : World) (c : Nat) (y : Ch) : Prop := ∃ D' F', CH w' F' c D' y ∧ Did F w w' ∧ Stem F F' w ∧ D'.cap ≤ 9223372036854775807
theorem Tu.tuD {y : Ch} (h : Tu w F w' c D y) (hcap : D.cap ≤ 9223372036854775807) : TuD w F w' c y := by
  obtain ⟨F', a, b, d⟩ := h
  exact ⟨D, F', a, b, d, hcap⟩
theorem cInsert_any (h : CH w F c D x) {M Q : Int} (ho : OkC x M Q) (hcap : D.cap ≤ 9223372036854775807) (at_ : Int) (tx : Tox) (seed now : Int) :
    Calls Try.prog 38 #[ptr c, .int .i64 at_, tx.v, .int .u64 seed, .int .i64 now] w fun e w' => e = .returned (.int .i64 (insE x at_ tx)) ∧ TuD w F w' c (insC x at_ tx seed now) := by
  obtain ⟨t0, t1, t2, t3, t4, t5⟩ := tx
  cases hno : noPlace x at_ with
  | true =>
    have e1 : insE x at_ ⟨t0, t1, t2, t3, t4, t5⟩ = 110 := by unfold insE; rw [if_pos hno]
    have e2 : insC x at_ ⟨t0, t1, t2, t3, t4, t5⟩ seed now = x := by unfold insC; rw [e1, if_pos (by decide)]
    rw [e1, e2]
    exact (ins_no h ho.two ho.ten at_ t0 t1 t2 t3 t4 t5 seed now hno).mono fun e w' ⟨he, hb⟩ => ⟨he, (Tu.below h hb).tuD hcap⟩
  | false =>
    have e1 : insE x at_ ⟨t0, t1, t2, t3, t4, t5⟩ = newE ⟨t0, t1, t2, t3, t4, t5⟩ x.room := by unfold insE; rw [if_neg (by rw [hno]; decide)]
    by_cases hz : newE ⟨t0, t1, t2, t3, t4, t5⟩ x.room = 0
    · have hk : 0 ≤ at_ ∧ at_ ≤ (x.l.length : Int) - 2 := by simp [noPlace] at hno; omega
      obtain ⟨k, rfl⟩ : ∃ k : Nat, at_ = (k : Int) := ⟨at_.toNat, by omega⟩
      have h2 := ho.two
      have hx : x.l[k + 1]? = some x.l[k + 1] := List.getElem?_eq_getElem (by omega)
      have e2 : insC x (k : Int) ⟨t0, t1, t2, t3, t4, t5⟩ seed now = { x with l := x.l.take (k + 1) ++ (if (x.l[k + 1]'(by omega)).cl = true then endA now ⟨newS ⟨t0, t1, t2, t3, t4, t5⟩ seed x.room now, false⟩ else ⟨newS ⟨t0, t1, t2, t3, t4, t5⟩ seed x.room now, false⟩) :: x.l.drop (k + 1) } := by
        unfold insC
        rw [e1, hz, if_neg (by decide)]
        show (match x.l[k + 1]? with | some b => _ | none => x) = _
        rw [hx]
        rfl
      rw [e1, hz, e2]
      exact ins_ok h ho.two ho.ten hcap k t0 t1 t2 t3 t4 t5 seed now hno hz _ hx
    · have e2 : insC x at_ ⟨t0, t1, t2, t3, t4, t5⟩ seed now = x := by unfold insC; rw [e1, if_pos hz]
      rw [e1, e2]
      exact (ins_err h ho.two ho.ten at_ t0 t1 t2 t3 t4 t5 seed now hno hz).mono fun e w' ⟨he, hb⟩ => ⟨he, (Tu.below h hb).tuD hcap⟩
end Go.Proofs.Ytoiibmcbjjnpbaa.Chain
namespace Go.Proofs.Ytoiibmcbjjnpbaa.Link
open Go.RowKit Mem Tick Cargo Toxic Stage Chain
open Go.Proofs.YtoiibmcbjjnpbaaW.PrintLast Pu
open Go.Proofs.YtoiibmcbjjnpbaaW.PrintWords (add_at)
set_option maxRecDepth 100000
set_option linter.unusedVariables false
set_option linter.unusedSimpArgs false
theorem info_st : (Try.prog.info? 9).map (fun i => (i.zero, i.size, i.bytes)) = some (some (.string ⟨#[]⟩), 1, 16) := by kernel_rfl
def RS (w : World) (r cap : Nat) (xs : List Value) : Prop := ∃ rest, Blk w r 9 (xs ++ rest).toArray ∧ (xs ++ rest).length = cap
def idxN (l : List ByteArray) (s : ByteArray) : Option Nat := l.findIdx? fun x => s.toList == x.toList
def idxI (l : List ByteArray) (s : ByteArray) : Int := match idxN l s with | some i => (i : Int) | none => -1
theorem idx_some {l : List ByteArray} {s : ByteArray} {k : Nat} {x : ByteArray} (h : ∀ j y, j < k → l[j]? = some y → (s.toList == y.toList) = false) (hx : l[k]? = some x) (he : (s.toList == x.toList) = true) : idxN l s = some k := by
  unfold idxN
  obtain ⟨hk, e⟩ := List.getElem?_eq_some_iff.1 hx
  rw [List.findIdx?_eq_some_iff_getElem]
  refine ⟨hk, by rw [e]; exact he, fun j hj => ?_⟩
  have := h j _ hj (List.getElem?_eq_getElem (by omega))
  simp only [this]
  decide
theorem idx_none {l : List ByteArray} {s : ByteArray} (h : ∀ j y, j < l.length → l[j]? = some y → (s.toList == y.toList) = false) : idxN l s = none := by
  unfold idxN
  rw [List.findIdx?_eq_none_iff]
  intro y hy
  obtain ⟨j, hj, e⟩ := List.getElem_of_mem hy
  exact h j y hj (by rw [List.getElem?_eq_getElem hj, e])
def SR (w : World) (v : Value) (l : List ByteArray) : Prop := ∃ A cap, v = .slice A l.length cap ∧ (l ≠ [] → ∃ g o, A = some ⟨g, o, none⟩ ∧ ∀ j x, l[j]? = some x → w.cell? ⟨g, o + j, none⟩ = some (.string x))
theorem index_any (w : World) (v : Value) (l : List ByteArray) (s : ByteArray) (h : SR w v l) (hl : l.length ≤ 1000000) :
    Calls Try.prog 58 #[v, .string s] w fun e w' => e = .returned (.int .i64 (idxI l s)) ∧ w = w' := by
  obtain ⟨A, cap, rfl, hA⟩ := h
  go_enter Try.func58, Try.ntmps58
  go_wp2
  go_loopw [8] (fun iv wr => ∃ k : Nat, k ≤ l.length ∧ iv = .int .i64 k ∧ w = wr ∧ ∀ j y, j < k → l[j]? = some y → (s.toList == y.toList) = false) (fun iv _ => l.length - (intOf iv).toNat)
  case atStart => exact ⟨0, by omega, rfl, rfl, fun j y hj => absurd hj (by omega)⟩
  case round =>
    obtain ⟨k, hk, rfl, rfl, hno⟩ := hrel
    by_cases hlt : k < l.length
    · obtain ⟨g, o, rfl, hc⟩ := hA (by intro h; subst h; simp at hlt)
      have hx : l[k]? = some l[k] := List.getElem?_eq_getElem hlt
      have d0 := hc k _ hx
      generalize l[k] = z at *
      cases hz : (s.toList == z.toList) with
      | true =>
        have he := Lib.hid (show idxI l s = (k : Int) by unfold idxI; rw [idx_some hno hx hz])
        clear hno hx hc hA
        go_wp2
        go_ret
        exact ⟨by rw [he.out]; rfl, rfl⟩
      | false =>
        have hno2 := Lib.hid (show ∀ j y, j < k + 1 → l[j]? = some y → (s.toList == y.toList) = false from fun j y hj hy => by
          by_cases e : j = k
          · subst e
            rw [hx] at hy
            cases hy
            exact hz
          · exact hno j y (by omega) hy)
        clear hno hx hc hA
        go_wp2
        go_roundw
        case rel => exact ⟨k + 1, by omega, by go_num, by first | rfl | trivial, hno2.out⟩
        case measure => simp [intOf]; omega
    · have hk2 : k = l.length := by omega
      subst hk2
      have hnl : ¬ (l.length < l.length) := by omega
      have he := Lib.hid (show idxI l s = -1 by unfold idxI; rw [idx_none hno])
      clear hno hA
      go_wp2
      go_ret
      exact ⟨by rw [he.out]; rfl, rfl⟩
theorem contains_any (w : World) (v : Value) (l : List ByteArray) (s : ByteArray) (h : SR w v l) (hl : l.length ≤ 1000000) :
    Calls Try.prog 35 #[v, .string s] w fun e w' => e = .returned (.bool (idxN l s).isSome) ∧ w = w' := by
  have hh := Lib.hid (index_any w v l s h hl)
  clear h
  go_enter Try.func35, Try.ntmps35
  go_wp2_with fail
  refine hh.out.mono ?_
  rintro e w1 ⟨rfl, rfl⟩
  unfold idxI
  cases hq : idxN l s with
  | some i =>
    have h0 : (0 : Int) ≤ (i : Int) := by omega
    have hq' := Lib.hid hq
    clear hh hq
    go_wp2
    go_ret
    exact ⟨by rw [hq'.out]; rfl, rfl⟩
  | none =>
    have hq' := Lib.hid hq
    clear hh hq
    go_wp2
    go_ret
    exact ⟨by rw [hq'.out]; rfl, rfl⟩
def NV (w : World) (v : Value) (l : List ByteArray) : Prop :=
  (v = .slice none 0 0 ∧ l = []) ∨ ∃ g cap, v = .slice (some ⟨g, 0, none⟩) l.length cap ∧ RS w g cap (l.map Value.string) ∧ cap ≤ 9223372036854775807
theorem NV.sr {w : World} {v : Value} {l : List ByteArray} (h : NV w v l) : SR w v l := by
  rcases h with ⟨rfl, rfl⟩ | ⟨g, cap, rfl, ⟨rest, hb, hl⟩, hc⟩
  · exact ⟨none, 0, rfl, fun h => absurd rfl h⟩
  · refine ⟨_, cap, rfl, fun _ => ⟨g, 0, rfl, fun j x hx => ?_⟩⟩
    rw [Nat.zero_add]
    refine (hb.cell j).trans ?_
    rw [List.getElem?_toArray, List.getElem?_append_left (by rw [List.length_map]; exact (List.getElem?_eq_some_iff.1 hx).1), List.getElem?_map, hx]
    rfl
theorem NV.kept {w w' : World} {v : Value} {l : List ByteArray} (h : NV w v l) (hk : ∀ j, v.ownBlock = some j → w'.heap[j]? = w.heap[j]?) : NV w' v l := by
  rcases h with h | ⟨g, cap, rfl, ⟨rest, hb, hl⟩, hc⟩
  · exact .inl h
  · exact .inr ⟨g, cap, rfl, ⟨rest, (hk g rfl).trans hb, hl⟩, hc⟩
theorem NV.typed {w : World} {v : Value} {l : List ByteArray} (h : NV w v l) {j : Nat} (hj : v.ownBlock = some j) : ∃ cs, Blk w j 9 cs := by
  rcases h with ⟨rfl, rfl⟩ | ⟨g, cap, rfl, ⟨rest, hb, hl⟩, hc⟩
  · cases hj
  · have e : g = j := by simpa [Value.ownBlock] using hj
    subst e
    exact ⟨_, hb⟩
theorem NV.owns {w : World} {v : Value} {l : List ByteArray} (h : NV w v l) : w.ownsRow 0 9 1 v l.length (l.map Value.string) := by
  rcases h with ⟨rfl, rfl⟩ | ⟨g, cap, rfl, ⟨rest, hb, hl⟩, hc⟩
  · exact World.ownsRow_nil _ _ _ _
  · refine ⟨by rw [List.length_map, Nat.mul_one], .inr ⟨g, cap, _, rfl, Nat.zero_le _, hb, ?_, by unfold maxLen; omega, ?_, ?_⟩⟩
    · rw [List.length_append, List.length_map] at hl; omega
    · rw [List.size_toArray, hl, Nat.mul_one]
    · show (l.map Value.string ++ rest).take (l.length * 1) = _
      rw [Nat.mul_one, List.take_append_of_le_length (by rw [List.length_map]; exact Nat.le_refl _), List.take_of_length_le (by rw [List.length_map]; exact Nat.le_refl _)]
theorem NV.of_owns {w : World} {v : Value} {l : List ByteArray} {base : Nat} (h : w.ownsRow base 9 1 v l.length (l.map Value.string)) : NV w v l := by
  rcases h.2 with ⟨rfl, h0⟩ | ⟨g, cap, cur, rfl, hg, hh, hnc, hcap, hsz, htake⟩
  · exact .inl ⟨rfl, List.length_eq_zero_iff.1 h0⟩
  · refine .inr ⟨g, cap, rfl, ⟨cur.toList.drop l.length, ?_, ?_⟩, by unfold maxLen at hcap; omega⟩
    · rw [Nat.mul_one] at htake
      rw [← htake, List.take_append_drop]
      exact hh
    · have e : cur.toList.length = cur.size := Array.length_toList
      rw [List.length_append, List.length_map, List.length_drop, e, hsz]; omega
end Go.Proofs.Ytoiibmcbjjnpbaa.Link
namespace Go.Proofs.Ytoiibmcbjjnpbaa.Chain
open Go.RowKit Mem Tick Cargo Toxic Stage
set_option linter.unusedVariables false
set_option linter.unusedSimpArgs false
variable {x y : Ch} {P : Pa → Prop}
/-! one stage -/
theorem force_st (s : Sg) (n : Int) (b : ByteArray) : (forceP s n b).t = s.t ∧ (forceP s n b).closed = s.closed ∧ (forceP s n b).state = (lookP s n).state ∧ (forceP s n b).room = s.room ∧ (forceP s n b).clock = (lookP s n).clock := by
  unfold forceP
  split
  · exact ⟨rfl, rfl, rfl, rfl, rfl⟩
  · unfold putIn diceP
    split <;> exact ⟨rfl, rfl, rfl, rfl, rfl⟩
theorem put_st (s : Sg) (n : Int) (b : ByteArray) : (putS s n b).t = s.t ∧ (putS s n b).closed = s.closed ∧ (putS s n b).state = (lookP s n).state ∧ (putS s n b).room = s.room ∧ (putS s n b).clock = (lookP s n).clock := by
  unfold putS
  split
  · exact ⟨rfl, rfl, rfl, rfl, rfl⟩
  · have h := force_st (lookP s n) n (b.extract 0 (roomFor (lookP s n) b))
    rw [look_idem] at h
    exact h
theorem takeOut_st (s : Sg) (m : Int) : (takeOut s m).t = s.t ∧ (takeOut s m).closed = s.closed ∧ (takeOut s m).state = s.state ∧ (takeOut s m).room = s.room ∧ (takeOut s m).clock = s.clock := by
  unfold takeOut wayS someS sliceS
  split
  · exact ⟨rfl, rfl, rfl, rfl, rfl⟩
  · split
    · split <;> exact ⟨rfl, rfl, rfl, rfl, rfl⟩
    · exact ⟨rfl, rfl, rfl, rfl, rfl⟩
theorem take_st (s : Sg) (n m : Int) : (takeS s n m).t = s.t ∧ (takeS s n m).closed = s.closed ∧ (takeS s n m).state = (lookP s n).state ∧ (takeS s n m).room = s.room ∧ (takeS s n m).clock = (lookP s n).clock := by
  unfold takeS
  split
  · exact ⟨rfl, rfl, rfl, rfl, rfl⟩
  · exact takeOut_st (lookP s n) _
theorem close_st (s : Sg) (n : Int) : (closeP s n).t = s.t ∧ (closeP s n).closed = true ∧ (closeP s n).state = s.state ∧ (closeP s n).room = s.room ∧ (closeP s n).c = s.c := by
  unfold closeP
  split
  · rename_i h; exact ⟨rfl, h, rfl, rfl, rfl⟩
  · exact ⟨rfl, rfl, rfl, rfl, rfl⟩
theorem upd_st (s : Sg) (t : Tox) (n : Int) : (updS s t n).t.kind = s.t.kind ∧ (updS s t n).closed = s.closed ∧ ((updS s t n).state = s.state ∨ (updS s t n).state = (lookP s n).state) ∧ (updS s t n).room = s.room := by
  unfold updS
  split
  · exact ⟨rfl, rfl, .inl rfl, rfl⟩
  · rename_i h
    have hk : t.kind = s.t.kind := Decidable.byContradiction fun e => h (.inl e)
    split
    · exact ⟨hk, rfl, .inr rfl, rfl⟩
    · exact ⟨hk, rfl, .inr rfl, rfl⟩
theorem look_cases (s : Sg) (n : Int) : (lookP s n).state = s.state ∨ (s.state = 0 ∧ ((lookP s n).state = 0 ∨ ((lookP s n).state = 2 ∧ s.t.kind = 5) ∨ ((lookP s n).state = 1 ∧ (s.t.kind = 4 ∨ s.t.kind = 6 ∨ (s.closed = true ∧ held s = 0))))) := by
  show lookS (nowP s n) = s.state ∨ (s.state = 0 ∧ (lookS (nowP s n) = 0 ∨ (lookS (nowP s n) = 2 ∧ s.t.kind = 5) ∨ (lookS (nowP s n) = 1 ∧ (s.t.kind = 4 ∨ s.t.kind = 6 ∨ (s.closed = true ∧ held s = 0)))))
  unfold lookS
  by_cases h0 : s.state = 0
  · rw [if_neg (by show ¬ s.state ≠ 0; omega)]
    refine .inr ⟨h0, ?_⟩
    split
    · rename_i h; exact .inr (.inl ⟨rfl, h.1⟩)
    split
    · rename_i h
      split
      · exact .inr (.inr ⟨rfl, .inl h⟩)
      · exact .inl rfl
    split
    · rename_i h; exact .inr (.inr ⟨rfl, .inr (.inl h.1)⟩)
    split
    · rename_i h
      unfold endedB at h
      simp only [Bool.and_eq_true, decide_eq_true_eq] at h
      exact .inr (.inr ⟨rfl, .inr (.inr ⟨h.1.1, h.1.2⟩)⟩)
    · exact .inl rfl
  · rw [if_pos (show (nowP s n).state ≠ 0 from h0)]
    exact .inl rfl
/-! what each call keeps of each stage -/
structure Loc (P : Pa → Prop) : Prop where
  look : ∀ a n, P a → P (lookA n a)
  put : ∀ a n b, P a → P ⟨putS a.s n b, a.cl⟩
  force : ∀ a n b, P a → P ⟨forceP a.s n b, a.cl⟩
  take : ∀ a n m, P a → P ⟨takeS a.s n m, a.cl⟩
  fin : ∀ a n, P a → P (endA n a)
  drain : ∀ a, P a → P (drainA a)
  upd : ∀ a t n, P a → P ⟨updS a.s t n, a.cl⟩
def AllL (P : Pa → Prop) (l : List Pa) : Prop := ∀ a ∈ l, P a
theorem AllL.at_ {l : List Pa} (h : AllL P l) {i : Nat} {a : Pa} (hi : l[i]? = some a) : P a := h a (List.mem_of_getElem? hi)
theorem AllL.set {l : List Pa} (h : AllL P l) (i : Nat) {b : Pa} (hb : P b) : AllL P (l.set i b) := fun a ha => (List.mem_or_eq_of_mem_set ha).elim (h a) (fun e => e ▸ hb)
theorem AllL.map {l : List Pa} (h : AllL P l) {f : Pa → Pa} (hf : ∀ a, P a → P (f a)) : AllL P (l.map f) := fun a ha => by
  obtain ⟨b, hb, rfl⟩ := List.mem_map.1 ha
  exact hf b (h b hb)
theorem AllL.take {l : List Pa} (h : AllL P l) (n : Nat) : AllL P (l.take n) := fun a ha => h a (List.mem_of_mem_take ha)
theorem AllL.last (hP : Loc P) (h : AllL P x.l) (now : Int) : AllL P (lastC now x).l := by
  unfold Chain.lastC
  split
  · rename_i a ha
    exact h.set _ (hP.look a now (h.at_ ha))
  · exact h
/-! the kinds stay as they are, but for Insert and Remove -/
def kd (a : Pa) : Int := a.s.t.kind
theorem kd_look (n : Int) (a : Pa) : kd (lookA n a) = kd a := rfl
theorem kd_end (n : Int) (a : Pa) : kd (endA n a) = kd a := congrArg Tox.kind (close_st a.s n).1
theorem map_set_same {l : List Pa} {f : Pa → Int} {i : Nat} {a b : Pa} (ha : l[i]? = some a) (hb : f b = f a) : (l.set i b).map f = l.map f := by
  rw [List.map_set, hb]
  obtain ⟨hi, he⟩ := List.getElem?_eq_some_iff.1 ha
  have : (l.map f)[i]'(by simpa using hi) = f a := by simp [he]
  rw [← this]
  exact List.set_getElem_self _
theorem kd_lose (n : Nat) (l : List Pa) : (loseL n l).map kd = l.map kd := by
  unfold loseL
  have e : (l.take n).map (kd ∘ drainA) = (l.take n).map kd := List.map_congr_left fun a _ => rfl
  rw [List.map_append, List.map_map, e, ← List.map_append, List.take_append_drop]
theorem kd_moveAt (now : Int) (j : Nat) (l : List Pa) : (moveAt now j l).map kd = l.map kd := by
  unfold moveAt
  split
  · rename_i a b ha hb
    split
    · have hb2 : (l.set j ⟨takeS a.s now (free (lookP b.s now)), a.cl⟩)[j + 1]? = some b := by rw [List.getElem?_set_ne (by omega)]; exact hb
      rw [map_set_same hb2 (by show (forceP (lookP b.s now) now _).t.kind = b.s.t.kind; rw [(force_st _ _ _).1]; rfl), map_set_same ha (by show (takeS a.s now _).t.kind = a.s.t.kind; rw [(take_st _ _ _).1])]
    · exact map_set_same hb rfl
  · rfl
theorem kd_moves (now : Int) (l : List Pa) : ∀ m, (moves now m l).map kd = l.map kd
  | 0 => rfl
  | m + 1 => (kd_moveAt now m _).trans (kd_moves now l m)
theorem kd_shutAt (now : Int) (j : Nat) (x : Ch) : (shutAt now j x).l.map kd = x.l.map kd := by
  unfold shutAt
  split
  · rename_i a b ha hb
    split
    · have hb2 : (loseL (j + 1) (x.l.set j (lookA now a)))[j + 1]? = some b := by rw [lose_get (Nat.le_refl _), List.getElem?_set_ne (by omega)]; exact hb
      show ((loseL (j + 1) (x.l.set j (lookA now a))).set (j + 1) (endA now b)).map kd = _
      rw [map_set_same hb2 (kd_end now b), kd_lose, map_set_same ha (kd_look now a)]
    · exact map_set_same ha rfl
  · rfl
theorem kd_shuts (now : Int) (x : Ch) : ∀ m, (shuts now m x).l.map kd = x.l.map kd
  | 0 => rfl
  | m + 1 => (kd_shutAt now m _).trans (kd_shuts now x m)
theorem kd_break (x : Ch) : (breakC x).l.map kd = x.l.map kd := by
  unfold breakC
  split
  · rfl
  · exact kd_lose _ _
theorem kd_lookMap (now : Int) (l : List Pa) : (l.map (lookA now)).map kd = l.map kd := by rw [List.map_map]; exact List.map_congr_left fun a _ => rfl
theorem kd_last (now : Int) (x : Ch) : (lastC now x).l.map kd = x.l.map kd := by
  unfold lastC
  split
  · rename_i a ha; exact map_set_same ha rfl
  · rfl
theorem kd_step (now : Int) (x : Ch) : (stepC now x).l.map kd = x.l.map kd := by
  unfold stepC
  split
  · rfl
  split
  · exact (kd_break _).trans (kd_lookMap now x.l)
  · rw [kd_last, kd_shuts, kd_moves, kd_lookMap]
def LastZ (x : Ch) : Prop := ∃ l, x.l.map kd = l ++ [0]
theorem LastZ.at_ (h : LastZ x) {a : Pa} (ha : x.l[x.l.length - 1]? = some a) : kd a = 0 := by
  obtain ⟨l, hl⟩ := h
  have h1 := congrArg List.length hl
  simp only [List.length_map, List.length_append, List.length_singleton] at h1
  have h2 : (x.l.map kd)[x.l.length - 1]? = some (kd a) := by rw [List.getElem?_map, ha]; rfl
  rw [hl, show x.l.length - 1 = l.length by omega, List.getElem?_append_right (Nat.le_refl _), Nat.sub_self] at h2
  exact (Option.some.inj h2).symm
end Go.Proofs.Ytoiibmcbjjnpbaa.Chain
namespace Go.Proofs.Ytoiibmcbjjnpbaa.Chain
open Go.RowKit Mem Tick Cargo Toxic Stage
set_option linter.unusedVariables false
set_option linter.unusedSimpArgs false
variable {x y : Ch} {M Q : Int}
theorem putCN_le (x : Ch) (now : Int) (b : ByteArray) : putCN x now b ≤ b.size := by
  unfold putCN
  split
  · exact Nat.zero_le _
  split
  · exact put_le _ _ _
  · exact Nat.zero_le _
/-! Counts -/
/-! Keeps -/
/-! Safe -/
def Psf (a : Pa) : Prop := (a.s.t.kind ≠ 4 ∧ a.s.t.kind ≠ 5 ∧ a.s.t.kind ≠ 6) ∧ a.s.closed = a.cl ∧ (a.s.state = 0 ∨ (a.s.state = 1 ∧ a.cl = true ∧ held a.s = 0))
theorem psf_look {a : Pa} (h : Psf a) (n : Int) : (lookP a.s n).state = 0 ∨ ((lookP a.s n).state = 1 ∧ a.cl = true ∧ held a.s = 0) := by
  obtain ⟨h1, h2, h3⟩ := h
  rcases look_cases a.s n with e | ⟨e0, e | e | ⟨e, e2⟩⟩
  · rw [e]; exact h3
  · exact .inl e
  · omega
  · rcases e2 with e2 | e2 | ⟨e2, e3⟩
    · omega
    · omega
    · exact .inr ⟨e, h2 ▸ e2, e3⟩
theorem psf_of {a a' : Pa} (h : Psf a) (n : Int) (hk : a'.s.t.kind = a.s.t.kind) (hcl : a'.s.closed = a.s.closed) (hc : a'.cl = a.cl) (hs : a'.s.state = (lookP a.s n).state) (hh : (lookP a.s n).state ≠ 0 → held a'.s ≤ held a.s) : Psf a' := by
  have hl := psf_look h n
  obtain ⟨h1, h2, h3⟩ := h
  refine ⟨by rw [hk]; exact h1, by rw [hcl, hc]; exact h2, ?_⟩
  rw [hs, hc]
  rcases hl with e | ⟨e, e2, e3⟩
  · exact .inl e
  · have := hh (by omega)
    exact .inr ⟨e, e2, by omega⟩
theorem force_no {s : Sg} {n : Int} (b : ByteArray) (h : (lookP s n).state ≠ 0) : forceP s n b = lookP s n := by unfold forceP; rw [if_pos (.inl h)]
theorem put_no {s : Sg} {n : Int} (b : ByteArray) (h : (lookP s n).state ≠ 0) : putS s n b = lookP s n := by unfold putS; rw [if_pos (.inl h)]
theorem take_no {s : Sg} {n : Int} (m : Int) (h : (lookP s n).state ≠ 0) : takeS s n m = lookP s n := by unfold takeS; rw [if_pos (.inl h)]
theorem loc_psf : Loc Psf where
  look := fun a n h => psf_of h n rfl rfl rfl rfl (fun _ => Nat.le_refl _)
  put := fun a n b h => psf_of h n (by rw [(put_st _ _ _).1]) (put_st _ _ _).2.1 rfl (put_st _ _ _).2.2.1 (fun e => by show held (putS a.s n b) ≤ _; rw [put_no b e]; exact Nat.le_refl _)
  force := fun a n b h => psf_of h n (by rw [(force_st _ _ _).1]) (force_st _ _ _).2.1 rfl (force_st _ _ _).2.2.1 (fun e => by show held (forceP a.s n b) ≤ _; rw [force_no b e]; exact Nat.le_refl _)
  take := fun a n m h => psf_of h n (by rw [(take_st _ _ _).1]) (take_st _ _ _).2.1 rfl (take_st _ _ _).2.2.1 (fun e => by show held (takeS a.s n m) ≤ _; rw [take_no m e]; exact Nat.le_refl _)
  fin := fun a n h => by
    obtain ⟨h1, h2, h3⟩ := h
    have hs := close_st a.s n
    refine ⟨by show (closeP a.s n).t.kind ≠ 4 ∧ (closeP a.s n).t.kind ≠ 5 ∧ (closeP a.s n).t.kind ≠ 6; rw [hs.1]; exact h1, hs.2.1, ?_⟩
    show (closeP a.s n).state = 0 ∨ ((closeP a.s n).state = 1 ∧ true = true ∧ held (closeP a.s n) = 0)
    rw [hs.2.2.1, held_close]
    exact h3.imp id (fun e => ⟨e.1, rfl, e.2.2⟩)
  drain := fun a h => ⟨h.1, h.2.1, h.2.2.imp id (fun e => ⟨e.1, e.2.1, rfl⟩)⟩
  upd := fun a t n h => by
    have hs := upd_st a.s t n
    have hh : held (updS a.s t n) = held a.s := by unfold held; rw [(upd_c a.s t n).1]
    rcases hs.2.2.1 with e | e
    · obtain ⟨h1, h2, h3⟩ := h
      refine ⟨by show (updS a.s t n).t.kind ≠ 4 ∧ (updS a.s t n).t.kind ≠ 5 ∧ (updS a.s t n).t.kind ≠ 6; rw [hs.1]; exact h1, hs.2.1.trans h2, ?_⟩
      show (updS a.s t n).state = 0 ∨ ((updS a.s t n).state = 1 ∧ a.cl = true ∧ held (updS a.s t n) = 0)
      rw [e, hh]
      exact h3
    · exact psf_of h n hs.1 hs.2.1 rfl e (fun _ => Nat.le_of_eq hh)
def PE (l : List Pa) : Prop := ∀ (i : Nat) (a b : Pa), l[i]? = some a → l[i + 1]? = some b → b.cl = true → a.cl = true ∧ held a.s = 0
def Qt (a a' : Pa) : Prop := a'.cl = a.cl ∧ (a.cl = true → held a.s = 0 → held a'.s = 0)
theorem Qt.refl (a : Pa) : Qt a a := ⟨rfl, fun _ h => h⟩
theorem PE.pw {l l' : List Pa} (h : PE l) (hl : l'.length = l.length) (hq : ∀ (i : Nat) (a a' : Pa), l[i]? = some a → l'[i]? = some a' → Qt a a') : PE l' := by
  intro i a' b' ha' hb' hcl
  have h1 := (List.getElem?_eq_some_iff.1 hb').1
  have ha : l[i]? = some l[i] := List.getElem?_eq_getElem (by omega)
  have hb : l[i + 1]? = some l[i + 1] := List.getElem?_eq_getElem (by omega)
  obtain ⟨q1, q2⟩ := hq i _ _ ha ha'
  obtain ⟨r1, r2⟩ := hq (i + 1) _ _ hb hb'
  rw [r1] at hcl
  obtain ⟨z1, z2⟩ := h i _ _ ha hb hcl
  exact ⟨by rw [q1]; exact z1, q2 z1 z2⟩
theorem PE.set {l : List Pa} (h : PE l) {i : Nat} {a a' : Pa} (ha : l[i]? = some a) (hq : Qt a a') : PE (l.set i a') := by
  refine h.pw (by simp) fun j b b' hb hb' => ?_
  by_cases e : i = j
  · subst e
    rw [ha] at hb
    rw [List.getElem?_set_self (List.getElem?_eq_some_iff.1 ha).1] at hb'
    cases hb; cases hb'
    exact hq
  · rw [List.getElem?_set_ne e, hb] at hb'
    cases hb'
    exact Qt.refl _
theorem PE.empty {l : List Pa} (h : PE l) : ∀ (i : Nat) (a : Pa), l[i]? = some a → a.cl = true → heldL (l.take i) = 0
  | 0, a, ha, hc => rfl
  | i + 1, a, ha, hc => by
    have h1 := (List.getElem?_eq_some_iff.1 ha).1
    have hb : l[i]? = some l[i] := List.getElem?_eq_getElem (by omega)
    obtain ⟨z1, z2⟩ := h i _ _ hb ha hc
    rw [heldL_succ hb, PE.empty h i _ hb z1, z2]
theorem qt_look (n : Int) (a : Pa) : Qt a (lookA n a) := ⟨rfl, fun _ h => h⟩
structure SafeI (x : Ch) : Prop where
  psf : AllL Psf x.l
  pe : PE x.l
  lost : x.lost = 0
theorem SafeI.last (h : SafeI x) (now : Int) : SafeI (lastC now x) := by
  refine ⟨AllL.last loc_psf h.psf now, ?_, ?_⟩
  · unfold lastC
    split
    · rename_i a ha; exact h.pe.set ha (qt_look now a)
    · exact h.pe
  · unfold lastC
    split <;> exact h.lost
end Go.Proofs.Ytoiibmcbjjnpbaa.Chain
namespace Go.Proofs.Ytoiibmcbjjnpbaa.Chain
open Go.RowKit Mem Tick Cargo Toxic Stage
set_option linter.unusedVariables false
set_option linter.unusedSimpArgs false
variable {x y : Ch} {M Q : Int}
theorem two_step (now : Int) (x : Ch) : (stepC now x).l.length = x.l.length := by
  have := congrArg List.length (kd_step now x)
  simpa using this
end Go.Proofs.Ytoiibmcbjjnpbaa.Chain
namespace Go.Proofs.Ytoiibmcbjjnpbaa.Chain
open Go.RowKit Mem Tick Cargo Toxic Stage
set_option maxRecDepth 100000
set_option linter.unusedVariables false
set_option linter.unusedSimpArgs false
variable {w w' w1 : World} {F H : Nat → Prop} {t : Pt} {a : Pa} {c : Nat} {D : Lay} {x : Ch}
theorem toxic_any {b k : Nat} {s : Sg} (h : SG w F b k s) :
    Calls Try.prog 26 #[ptr b] w fun e w' => e = .returned s.t.v ∧ Below w.heap.size w w' := by
  have c1 : w.cell? ⟨b, 1, none⟩ = some (.string s.t.name) := (h.blk.cell 1).trans rfl
  have c2 : w.cell? ⟨b, 2, none⟩ = some (.int .i64 s.t.kind) := (h.blk.cell 2).trans rfl
  have c3 : w.cell? ⟨b, 3, none⟩ = some (.bool s.t.up) := (h.blk.cell 3).trans rfl
  have c4 : w.cell? ⟨b, 4, none⟩ = some (.int .i64 s.t.often) := (h.blk.cell 4).trans rfl
  have c5 : w.cell? ⟨b, 5, none⟩ = some (.int .i64 s.t.a) := (h.blk.cell 5).trans rfl
  have c6 : w.cell? ⟨b, 6, none⟩ = some (.int .i64 s.t.b) := (h.blk.cell 6).trans rfl
  have hl : b < w.heap.size := h.lt h.mine
  have hne : b ≠ w.heap.size := by omega
  clear h
  go_enter Try.func26, Try.ntmps26
  go_wp2
  exact bodyPost_ret (v := s.t.v) (results_cell_row Try.results26 _ _ w.heap.size 29 _ (0, 0) _ rfl (Blk.new w 29 #[.string s.t.name, .int .i64 s.t.kind, .bool s.t.up, .int .i64 s.t.often, .int .i64 s.t.a, .int .i64 s.t.b]) Try.underlying29 rfl (by kernel_rfl)) rfl ⟨rfl, (Below.refl w.heap.size w).alloc (Nat.le_refl _) _⟩
theorem cs_toxic (h : CH w F c D x) {i : Nat} (ht : D.ps[i]? = some t) (hi : x.l[i]? = some a) :
    Calls Try.prog 26 #[ptr t.b] w fun e w' => e = .returned a.s.t.v ∧ Below w.heap.size w w' := by
  obtain ⟨G, hs, _, _⟩ := h.stage ht hi
  exact toxic_any hs
def toxs (x : Ch) : List Tox := ((x.l.drop 1).take (x.l.length - 2)).map fun a => a.s.t
def tcells (l : List Tox) : List Value := l.flatMap fun t => t.cells.toList
theorem tcells_snoc (l : List Tox) (t : Tox) : tcells (l ++ [t]) = tcells l ++ t.cells.toList := by unfold tcells; rw [List.flatMap_append]; simp
theorem tcells_get (l : List Tox) (j i : Nat) (t : Tox) (h : l[j]? = some t) (hi : i < 6) : (tcells l)[j * 6 + i]? = t.cells[i]? := by
  induction l generalizing j with
  | nil => simp at h
  | cons u r ih =>
    have e : tcells (u :: r) = u.cells.toList ++ tcells r := by unfold tcells; rw [List.flatMap_cons]
    rw [e]
    have hu : u.cells.toList.length = 6 := rfl
    cases j with
    | zero =>
      injection h with h
      subst h
      rw [List.getElem?_append_left (by omega), Array.getElem?_toList]
      simp
    | succ j =>
      rw [List.getElem?_append_right (by omega), hu, show (j + 1) * 6 + i - 6 = j * 6 + i by omega]
      exact ih j h
def TR (w : World) (A : Option Addr) (l : List Tox) : Prop := l ≠ [] → ∃ g, A = some ⟨g, 0, none⟩ ∧ (∃ cs fr, w.heap[g]? = some (.cells cs 29 fr)) ∧ ∀ j u, (tcells l)[j]? = some u → w.cell? ⟨g, j, none⟩ = some u
theorem info_tox : (Try.prog.info? 29).map (fun i => (i.zero, i.size, i.bytes)) = some (some (.agg #[.string ⟨#[]⟩, .int .i64 0, .bool false, .int .i64 0, .int .i64 0, .int .i64 0]), 6, 56) := by kernel_rfl
theorem toxs_length (x : Ch) (h2 : 2 ≤ x.l.length) : (toxs x).length = x.l.length - 2 := by unfold toxs; rw [List.length_map, List.length_take, List.length_drop]; omega
theorem toxs_get {x : Ch} {k : Nat} {a : Pa} (h : x.l[k + 1]? = some a) (hk : k + 2 < x.l.length) : (toxs x)[k]? = some a.s.t := by
  unfold toxs
  rw [List.getElem?_map, List.getElem?_take, if_pos (by omega), List.getElem?_drop, show 1 + k = k + 1 by omega, h]
  rfl
theorem tox_one (t : Tox) : ∀ u ∈ t.cells.toList, u.oneCell' = true := by
  intro u hu
  simp [Tox.cells] at hu
  rcases hu with rfl | rfl | rfl | rfl | rfl | rfl <;> rfl
theorem tr_of_owns {w : World} {base : Nat} {v : Value} {l : List Tox} (h : w.ownsRow base 29 6 v l.length (tcells l)) : ∃ A cap, v = .slice A l.length cap ∧ TR w A l ∧ ∀ g o, A = some ⟨g, o, none⟩ → base ≤ g := by
  rcases h.2 with ⟨rfl, h0⟩ | ⟨g, cap, cur, rfl, hg, hh, hnc, hcap, hsz, htake⟩
  · refine ⟨none, 0, by rw [h0], fun hne => absurd (List.length_eq_zero_iff.1 h0) hne, fun g o e => by cases e⟩
  · refine ⟨_, cap, rfl, fun hne => ⟨g, rfl, ⟨_, _, hh⟩, fun j u hu => ?_⟩, fun g' o e => by injection e with e; injection e with e; omega⟩
    rw [← htake, List.getElem?_take] at hu
    split at hu
    · rw [Array.getElem?_toList] at hu
      simp only [World.cell?, hh]
      exact hu
    · cases hu
theorem owns_below {w w' : World} {base : Nat} {e : TypeId} {size : Nat} {v : Value} {n : Nat} {xs : List Value} (h : w.ownsRow base e size v n xs) (hb : Below w.heap.size w w') : w'.ownsRow base e size v n xs := by
  refine ⟨h.1, ?_⟩
  rcases h.2 with h0 | ⟨g, cap, cur, hv, hg, hh, rest⟩
  · exact .inl h0
  · exact .inr ⟨g, cap, cur, hv, hg, (hb.block g (Array.getElem?_eq_some_iff.1 hh).1).trans hh, rest⟩
theorem cells_one6 (w : World) (t0 : ByteArray) (t1 : Int) (t2 : Bool) (t3 t4 t5 : Int) : ∀ j u, (Tox.cells ⟨t0, t1, t2, t3, t4, t5⟩).toList[j]? = some u → (w.alloc (.cells #[.string t0, .int .i64 t1, .bool t2, .int .i64 t3, .int .i64 t4, .int .i64 t5] 29)).cell? ((⟨w.heap.size, 0, none⟩ : Addr).add j) = some u := by
  intro j u hu
  have e : ((⟨w.heap.size, 0, none⟩ : Addr).add j) = ⟨w.heap.size, j, none⟩ := by unfold Addr.add; split <;> simp_all
  rw [e]
  refine ((Blk.new w 29 #[.string t0, .int .i64 t1, .bool t2, .int .i64 t3, .int .i64 t4, .int .i64 t5]).cell j).trans ?_
  rw [← Array.getElem?_toList]
  exact hu
theorem cToxics_any (h : CH w F c D x) (h2 : 2 ≤ x.l.length) (h10 : x.l.length ≤ 10) :
    Calls Try.prog 13 #[ptr c] w fun e w' => ∃ A cap, e = .returned (.slice A (x.l.length - 2) cap) ∧ TR w' A (toxs x) ∧ (∀ g o, A = some ⟨g, o, none⟩ → w.heap.size ≤ g) ∧ Below w.heap.size w w' := by
  have hin := Lib.hid (inner_any h h2 h10)
  have hcap := h.cap
  have hh := Lib.hid h
  have htl := toxs_length x h2
  obtain ⟨i0, hi1, hz0, hz1, hz2⟩ := info_parts info_tox
  clear h
  go_enter Try.func13, Try.ntmps13
  go_wp2_with fail
  refine hin.out.mono ?_
  rintro e w1 ⟨rfl, hB1⟩
  have hB1' := Lib.hid hB1
  clear hB1 hin
  go_wp2
  go_loopw [3, 9] (fun av iv wr => ∃ k : Nat, k ≤ x.l.length - 2 ∧ iv = .int .i64 k ∧ wr.ownsRow w.heap.size 29 6 av ((toxs x).take k).length (tcells ((toxs x).take k)) ∧ Below w.heap.size w wr) (fun _ iv _ => (x.l.length - 2) - (intOf iv).toNat)
  case atStart => exact ⟨0, by omega, rfl, World.ownsRow_nil _ _ _ _, hB1'.out⟩
  case round =>
    obtain ⟨k, hk, rfl, hO, hB⟩ := hrel
    clear hB1'
    by_cases hlt : k < x.l.length - 2
    · have hx : x.l[k + 1]? = some x.l[k + 1] := List.getElem?_eq_getElem (by omega)
      generalize x.l[k + 1] = p at *
      have htx := toxs_get hx (by omega)
      have hC := hh.out.below hB
      obtain ⟨t, ht⟩ := hC.pt hx
      have d0 := hC.rcell ht
      rw [show k + 1 = 1 + k by omega] at d0
      have d1 := (hC.pcell ht hx).1
      have htk : (toxs x).take (k + 1) = (toxs x).take k ++ [p.s.t] := by rw [List.take_add_one, htx]; rfl
      have htk' := Lib.hid htk
      have hT := Lib.hid (cs_toxic hC ht hx)
      have hlen : ((toxs x).take k).length = k := by rw [List.length_take, htl]; omega
      rw [hlen] at hO
      have hOB := Lib.hid (And.intro hO hB)
      clear htx hC ht hx htk hO hB
      generalize hn : x.l.length - 2 = n at *
      go_wp2_with fail
      refine hT.out.mono ?_
      rintro e w2 ⟨rfl, hB2⟩
      have hO2 := hOB.out.1
      have hB3 := Lib.hid (hOB.out.2.trans (hB2.mono hOB.out.2.size))
      have hO3 := owns_below hO2 hB2
      have hsz := hB3.out.size
      have hlast : ∀ (v' : Value) (w3 : World), w3.ownsRow w.heap.size 29 6 v' (k + 1) (tcells ((toxs x).take k) ++ p.s.t.cells.toList) → w3.ownsRow w.heap.size 29 6 v' ((toxs x).take (k + 1)).length (tcells ((toxs x).take (k + 1))) := fun v' w3 hw => by
        rw [htk'.out, tcells_snoc, List.length_append, hlen]; exact hw
      have hlast' := Lib.hid hlast
      clear hO2 hB2 hOB hT d0 d1 hlast hlen
      generalize p.s.t = tt at *
      obtain ⟨t0, t1, t2, t3, t4, t5⟩ := tt
      go_wp2_with (at_builtin; refine wpList_append_own _ rfl _ _ 22 rfl w.heap.size 29 i0 _ 6 56 Try.underlying22 hi1 hz0 hz1 hz2 rfl (by decide) _ _ _ rfl (hO3.alloc _) ⟨w2.heap.size, 0, none⟩ 1 1 (Tox.cells ⟨t0, t1, t2, t3, t4, t5⟩).toList rfl rfl (cells_one6 w2 t0 t1 t2 t3 t4 t5) (tox_one ⟨t0, t1, t2, t3, t4, t5⟩) (by unfold maxLen; omega) (by omega) (by simp; omega) ?_; intro v' w3 hO4 hG _)
      go_roundw
      case rel => exact ⟨k + 1, by omega, by go_num, hlast'.out _ _ hO4, (hB3.out.alloc hsz _).grown hG (by simp; omega) (own_ge hO3)⟩
      case measure => simp [intOf]; omega
    · have hk2 : k = x.l.length - 2 := by omega
      subst hk2
      have hnl : ¬ (x.l.length - 2 < x.l.length - 2) := by omega
      have hfull : (toxs x).take (x.l.length - 2) = toxs x := List.take_of_length_le (by omega)
      rw [hfull] at hO
      obtain ⟨A, cap, rfl, hTR, hge⟩ := tr_of_owns hO
      rw [htl]
      have hR := Lib.hid (And.intro hTR (And.intro hge hB))
      clear hO hTR hge hB hfull hh
      go_wp2
      go_ret
      exact ⟨A, cap, rfl, hR.out.1, hR.out.2.1, hR.out.2.2⟩
end Go.Proofs.Ytoiibmcbjjnpbaa.Chain
namespace Go.Proofs.Ytoiibmcbjjnpbaa.Link
open Go.RowKit Mem Tick Cargo Toxic Stage Chain
set_option linter.unusedVariables false
set_option linter.unusedSimpArgs false
structure Lk where
  c : Ch
  names : List ByteArray
  up : Bool
  seed : Int
  drawn : Int
  sent : Int
  got : Int
  done : Bool
def sendK (x : Lk) (now : Int) (b : ByteArray) : Lk := { x with c := putC x.c now b, sent := x.sent + (putCN x.c now b : Int) }
def finishK (x : Lk) (now : Int) : Lk := { x with c := closeC x.c now }
def stepX (x : Lk) (now win : Int) : Ch := stepC now (takeC (stepC now x.c) now win)
def stepB (x : Lk) (now win : Int) : ByteArray := takeCB (stepC now x.c) now win
def tellB (x : Lk) (now win : Int) : Bool := !(x.done || decide ((stepX x now win).state = 0))
def stepE (x : Lk) (now win : Int) : Int := if tellB x now win = true then (stepX x now win).state else 0
def stepK (x : Lk) (now win : Int) : Lk := { x with c := stepX x now win, got := x.got + (stepB x now win).size, done := x.done || tellB x now win }
def dieK (x : Lk) : Int := Ref02.streamI (Ref02.mixI (Ref02.stepI x.seed)) [x.drawn]
def drawK (x : Lk) (t : Tox) : Tox := if Ref02.hiI (dieK x) 100 < t.often then t else noTox
def addE (x : Lk) (t : Tox) : Int := if chk t ≠ 0 ∨ t.up ≠ x.up then chk t else if (idxN x.names t.name).isSome = true then 141 else if 8 ≤ x.names.length then 110 else 0
def addsB (x : Lk) (t : Tox) : Bool := decide (chk t = 0 ∧ t.up = x.up) && !(idxN x.names t.name).isSome && decide (x.names.length < 8)
def addK (x : Lk) (t : Tox) (now : Int) : Lk :=
  if addsB x t = true then { x with c := insC x.c x.names.length (drawK x t) (Ref02.stepI (dieK x)) now, names := x.names ++ [t.name], drawn := x.drawn + 1 } else x
structure Op where
  kind : Int
  now : Int
  n : Int
  s : ByteArray
  t : Tox
structure OkK (x : Lk) (M Q : Int) : Prop where
  c : OkC x.c M Q
  n : x.names.length + 2 = x.c.l.length
  d0 : 0 ≤ x.drawn
  d1 : x.drawn ≤ 1000000000
  s0 : 0 ≤ x.seed
  s1 : x.seed < 18446744073709551616
  g0 : 0 ≤ x.got
  t0 : 0 ≤ x.sent
variable {x : Lk} {M Q : Int} {i o : ByteArray}
end Go.Proofs.Ytoiibmcbjjnpbaa.Link
namespace Go.Proofs.Ytoiibmcbjjnpbaa.Link
open Go.RowKit Mem Tick Cargo Toxic Stage Chain
set_option linter.unusedVariables false
set_option linter.unusedSimpArgs false
variable {x : Lk} {M Q : Int}
theorem ins_len {c : Ch} (ho : OkC c M Q) (n : Nat) (hn : n + 2 = c.l.length) (h8 : n < 8) (t : Tox) (seed now : Int) (ht : passB t = true ∨ chk t = 0) : (insC c n t seed now).l.length = c.l.length + 1 := by
  have h2 := ho.two
  have hp : noPlace c (n : Int) = false := by
    unfold noPlace
    simp
    omega
  have he : newE t c.room = 0 := by
    unfold newE
    rw [if_neg (by rintro ⟨e1, e2⟩; rcases ht with e | e; rw [e] at e1; cases e1; exact e2 e)]
    rw [if_neg]
    have := ho.r0
    have := ho.r1
    simp [roomOk]
    omega
  have hE : insE c n t = 0 := by unfold insE; rw [hp]; exact he
  have hb : c.l[(n : Int).toNat + 1]? = some c.l[n + 1] := List.getElem?_eq_getElem (by omega)
  unfold insC
  rw [hE, if_neg (by decide), hb]
  show (c.l.take (n + 1) ++ _ :: c.l.drop (n + 1)).length = _
  rw [List.length_append, List.length_cons, List.length_take, List.length_drop]
  omega
theorem put_len (c : Ch) (n : Int) (b : ByteArray) : (putC c n b).l.length = c.l.length := by
  unfold putC
  split
  · rfl
  split
  · show (c.l.set _ _).length = _; rw [List.length_set]
  · rfl
theorem close_len (c : Ch) (n : Int) : (closeC c n).l.length = c.l.length := by
  unfold closeC
  split
  · split
    · show (c.l.set _ _).length = _; rw [List.length_set]
    · rfl
  · rfl
theorem take_len (c : Ch) (n m : Int) : (takeC c n m).l.length = c.l.length := by
  unfold takeC
  split
  · rfl
  split
  · show (c.l.set _ _).length = _; rw [List.length_set]
  · rfl
theorem stepX_len (x : Lk) (n m : Int) : (stepX x n m).l.length = x.c.l.length := by
  unfold stepX
  rw [two_step, take_len, two_step]
theorem draw_ok (x : Lk) (t : Tox) (h : chk t = 0) : passB (drawK x t) = true ∨ chk (drawK x t) = 0 := by
  unfold drawK
  split
  · exact .inr h
  · exact .inl (by simp [passB, sameT, noTox])
theorem OkK.add (ho : OkK x M Q) (hQ : 0 ≤ Q) (hd : x.drawn + 1 ≤ 1000000000) (t : Tox) (now : Int) : OkK (addK x t now) M Q := by
  unfold addK
  split
  · rename_i h
    unfold addsB at h
    simp only [Bool.and_eq_true, decide_eq_true_eq] at h
    refine ⟨ok_ins ho.c hQ _ _ _ _, ?_, by have := ho.d0; show 0 ≤ x.drawn + 1; omega, hd, ho.s0, ho.s1, ho.g0, ho.t0⟩
    show (x.names ++ [t.name]).length + 2 = (insC x.c x.names.length (drawK x t) (Ref02.stepI (dieK x)) now).l.length
    rw [ins_len ho.c x.names.length ho.n h.2 _ _ _ (draw_ok x t h.1.1.1), List.length_append, List.length_singleton]
    have := ho.n
    omega
  · exact ho
theorem OkK.send (ho : OkK x M Q) (now : Int) (b : ByteArray) : OkK (sendK x now b) (M + b.size) Q :=
  ⟨ok_put ho.c now b, by show x.names.length + 2 = (putC x.c now b).l.length; rw [put_len]; exact ho.n, ho.d0, ho.d1, ho.s0, ho.s1, ho.g0, by have := ho.t0; show 0 ≤ x.sent + _; omega⟩
theorem OkK.step (ho : OkK x M Q) (now win : Int) : OkK (stepK x now win) M (Q + 30 * M) := by
  have hM : 0 ≤ M := by have := ho.c.held; omega
  exact ⟨(ok_step (ok_take (ok_step ho.c now) hM now win) now).more (Int.le_refl _) (by omega), by show x.names.length + 2 = (stepX x now win).l.length; rw [stepX_len]; exact ho.n, ho.d0, ho.d1, ho.s0, ho.s1, by have := ho.g0; show 0 ≤ x.got + _; omega, ho.t0⟩
theorem OkK.more (ho : OkK x M Q) {M' Q' : Int} (hM : M ≤ M') (hQ : Q ≤ Q') : OkK x M' Q' := ⟨ho.c.more hM hQ, ho.n, ho.d0, ho.d1, ho.s0, ho.s1, ho.g0, ho.t0⟩
end Go.Proofs.Ytoiibmcbjjnpbaa.Link
namespace Go.Proofs.Ytoiibmcbjjnpbaa.Link
open Go.RowKit Mem Tick Cargo Toxic Stage Chain
set_option maxRecDepth 100000
set_option linter.unusedVariables false
set_option linter.unusedSimpArgs false
def lcells (c : Nat) (v : Value) (x : Lk) : Array Value := #[ptr c, v, .bool x.up, .int .u64 x.seed, .int .i64 x.drawn, .int .i64 x.sent, .int .i64 x.got, .int .i64 0, .int .i64 0, .bool x.done]
abbrev lts : List TypeId := [48, 9, 73, 64, 68, 93, 116, 126]
def LKG (w : World) (F : Nat → Prop) (b : Nat) (x : Lk) (G : Nat → Prop) (c : Nat) (D : Lay) (v : Value) : Prop :=
  Blk w b 48 (lcells c v x) ∧ CH w G c D x.c ∧ D.cap ≤ 9223372036854775807 ∧ NV w v x.names ∧ ∀ j, F j ↔ (j = b ∨ G j ∨ v.ownBlock = some j)
def LK (w : World) (F : Nat → Prop) (b : Nat) (x : Lk) : Prop := ∃ G c D v, LKG w F b x G c D v
def LTu (w : World) (F : Nat → Prop) (w' : World) (b : Nat) (y : Lk) : Prop := ∃ F', LK w' F' b y ∧ Did F w w' ∧ Stem F F' w
variable {w w' w1 : World} {F : Nat → Prop} {b : Nat} {x y : Lk}
theorem LK.typed (h : LK w F b x) : Typed w F lts := by
  obtain ⟨G, c, D, v, hb, hc, hcap, hn, hF⟩ := h
  intro j hj
  rcases (hF j).1 hj with rfl | hg | hv
  · exact ⟨_, by simp, _, hb⟩
  · obtain ⟨t, ht, cs, hb⟩ := hc.typed j hg
    exact ⟨t, List.mem_cons_of_mem _ (List.mem_cons_of_mem _ ht), cs, hb⟩
  · obtain ⟨cs, hb⟩ := hn.typed hv
    exact ⟨_, by simp, _, hb⟩
theorem LK.lt (h : LK w F b x) {j : Nat} (hj : F j) : j < w.heap.size := h.typed.lt hj
theorem LK.off (h : LK w F b x) {g : Nat} {t : TypeId} {cs : Array Value} (hb : Blk w g t cs) (ht : t ∉ lts) : ¬ F g := h.typed.out hb ht
theorem LK.kept (h : LK w F b x) (hk : ∀ j, F j → w'.heap[j]? = w.heap[j]?) : LK w' F b x := by
  obtain ⟨G, c, D, v, hb, hc, hcap, hn, hF⟩ := h
  exact ⟨G, c, D, v, (hk _ ((hF _).2 (.inl rfl))).trans hb, hc.kept fun j hj => hk j ((hF j).2 (.inr (.inl hj))), hcap, hn.kept fun j hj => hk j ((hF j).2 (.inr (.inr hj))), hF⟩
theorem LK.below (h : LK w F b x) (hb : Below w.heap.size w w') : LK w' F b x := h.kept fun j hj => hb.block j (h.lt hj)
theorem LK.drew (h : LK w F b x) : LK w.drew F b x := h.kept fun _ _ => rfl
theorem LTu.refl (h : LK w F b x) : LTu w F w b x := ⟨F, h, Did.refl _ _, Stem.refl _ _⟩
theorem LTu.below (h : LK w F b x) (hb : Below w.heap.size w w') : LTu w F w' b x := ⟨F, h.below hb, Did.of_below hb, Stem.refl _ _⟩
theorem LTu.next {w2 : World} {F1 : Nat → Prop} (hD : Did F w w1) (hS : Stem F F1 w) (k : LTu w1 F1 w2 b y) : LTu w F w2 b y := by
  obtain ⟨F', hL, hd, hs⟩ := k
  exact ⟨F', hL, hD.trans hS hd, hS.trans hD.size hs⟩
theorem LTu.trans {w2 : World} {z : Lk} (h : LTu w F w1 b y) (k : ∀ F', LK w1 F' b y → LTu w1 F' w2 b z) : LTu w F w2 b z := by
  obtain ⟨F', hL, hd, hs⟩ := h
  exact LTu.next hd hs (k F' hL)
theorem LKG.chain {G : Nat → Prop} {c : Nat} {D : Lay} {v : Value} (h : LKG w F b x G c D v) {y : Ch} {D' : Lay} {G' : Nat → Prop} (hC : CH w' G' c D' y) (hd : Did G w w') (hs : Stem G G' w) (hcap : D'.cap ≤ 9223372036854775807) :
    LKG w' (fun j => j = b ∨ G' j ∨ v.ownBlock = some j) b { x with c := y } G' c D' v ∧ Did F w w' ∧ Stem F (fun j => j = b ∨ G' j ∨ v.ownBlock = some j) w := by
  obtain ⟨hb, hc, hcp, hn, hF⟩ := h
  have hbn : ¬ G b := hc.typed.out hb (by decide)
  have hvn : ∀ j, v.ownBlock = some j → ¬ G j := fun j hj => by
    obtain ⟨cs, hvb⟩ := hn.typed hj
    exact hc.typed.out hvb (by decide)
  refine ⟨⟨hb.did hd hbn, hC, hcap, hn.kept fun j hj => ?_, fun j => Iff.rfl⟩, hd.more fun j hj => .inl ((hF j).2 (.inr (.inl hj))), fun j hj => ?_⟩
  · obtain ⟨cs, hvb⟩ := hn.typed hj
    exact hd.block j hvb.lt (hvn j hj)
  · rcases hj with rfl | hj | hj
    · exact .inl ((hF _).2 (.inl rfl))
    · exact (hs j hj).imp (fun e => (hF j).2 (.inr (.inl e))) id
    · exact .inl ((hF j).2 (.inr (.inr hj)))
theorem LKG.turn {G : Nat → Prop} {c : Nat} {D : Lay} {v : Value} (h : LKG w F b x G c D v) {y : Ch} (hT : TuD w G w' c y) :
    ∃ F' G' D', LKG w' F' b { x with c := y } G' c D' v ∧ Did F w w' ∧ Stem F F' w := by
  obtain ⟨D', G', hC, hd, hs, hcap⟩ := hT
  obtain ⟨h1, h2, h3⟩ := h.chain hC hd hs hcap
  exact ⟨_, G', D', h1, h2, h3⟩
theorem LKG.cell {G : Nat → Prop} {c : Nat} {D : Lay} {v : Value} (h : LKG w F b x G c D v) (i : Nat) : w.cell? ⟨b, i, none⟩ = (lcells c v x)[i]? := h.1.cell i
theorem LKG.free {G : Nat → Prop} {c : Nat} {D : Lay} {v : Value} (h : LKG w F b x G c D v) (i : Nat) : w.frozen? ⟨b, i, none⟩ = false := h.1.free i
theorem LKG.set {G : Nat → Prop} {c : Nat} {D : Lay} {v : Value} (h : LKG w F b x G c D v) (i : Nat) (u : Value) (x' : Lk) (hs : (lcells c v x).setIfInBounds i u = lcells c v x') (hc : x'.c = x.c) (hn : x'.names = x.names) :
    LKG (w.setCell ⟨b, i, none⟩ u) F b x' G c D v ∧ F b := by
  obtain ⟨hb, hC, hcap, hN, hF⟩ := h
  have hb2 := hb.set_ i u
  rw [hs] at hb2
  refine ⟨⟨hb2, ?_, hcap, ?_, hF⟩, (hF b).2 (.inl rfl)⟩
  · rw [hc]
    exact hC.kept fun j hj => Below.heap_setCell _ _ _ j (by rintro rfl; exact hC.typed.out hb (by decide) hj)
  · rw [hn]
    refine hN.kept fun j hj => Below.heap_setCell _ _ _ j ?_
    rintro rfl
    obtain ⟨cs, hvb⟩ := hN.typed hj
    exact absurd (hb.ty hvb) (by decide)
theorem LKG.lk {G : Nat → Prop} {c : Nat} {D : Lay} {v : Value} (h : LKG w F b x G c D v) : LK w F b x := ⟨G, c, D, v, h⟩
theorem kDone_any (h : LK w F b x) :
    Calls Try.prog 14 #[ptr b] w fun e w' => e = .returned (.bool x.done) ∧ w = w' := by
  obtain ⟨G, c, D, v, h⟩ := h
  have c9 : w.cell? ⟨b, 9, none⟩ = some (.bool x.done) := (h.cell 9).trans rfl
  clear h
  go_enter Try.func14, Try.ntmps14
  go_wp2
  go_ret
  exact ⟨rfl, rfl⟩
theorem kFinish_any (h : LK w F b x) {M Q : Int} (ho : OkK x M Q) (now : Int) :
    Calls Try.prog 10 #[ptr b, .int .i64 now] w fun e w' => e = .returned (.tuple #[]) ∧ LTu w F w' b (finishK x now) := by
  obtain ⟨G, c, D, v, h⟩ := h
  have c0 : w.cell? ⟨b, 0, none⟩ = some (ptr c) := (h.cell 0).trans rfl
  have H := Lib.hid h
  have hh := Lib.hid (cClose_any h.2.1 ho.c.two ho.c.ten now)
  clear h ho
  go_enter Try.func10, Try.ntmps10
  go_wp2_with fail
  refine hh.out.mono ?_
  rintro e w1 ⟨rfl, hT⟩
  obtain ⟨F', G', D', h1, h2, h3⟩ := H.out.turn (hT.tuD H.out.2.2.1)
  have hr := Lib.hid (show LTu w F w1 b (finishK x now) from ⟨F', h1.lk, h2, h3⟩)
  clear hT h1 h2 h3 hh H
  go_wp2
  go_end0
  exact ⟨rfl, hr.out⟩
theorem w_sum (a : Int) (n : Nat) (h0 : 0 ≤ a) (h : a + n ≤ 1000000000) : wrap64 (a + (n : Int)) = a + (n : Int) := by unfold wrap64; omega
theorem kSend_any (h : LK w F b x) {M Q : Int} (ho : OkK x M Q) (now : Int) (A : Option Addr) (cap : Nat) (z : ByteArray) (hc : z.size ≤ cap) (hb : BS w A z) (hoff : BS.Off A F) (hM : M + z.size ≤ 1000000000) (hs : x.sent + z.size ≤ 1000000000) :
    Calls Try.prog 9 #[ptr b, .int .i64 now, .slice A z.size cap] w fun e w' => e = .returned (.int .i64 (putCN x.c now z)) ∧ LTu w F w' b (sendK x now z) := by
  obtain ⟨G, c, D, v, h⟩ := h
  have c0 : w.cell? ⟨b, 0, none⟩ = some (ptr c) := (h.cell 0).trans rfl
  have H := Lib.hid h
  have hw := Lib.hid (w_sum x.sent (putCN x.c now z) ho.t0 (by have := putCN_le x.c now z; omega))
  have hh := Lib.hid (cPut_any h.2.1 ho.c now A cap z hc hb (fun g o e hf => hoff g o e ((h.2.2.2.2 g).2 (.inr (.inl hf)))) hM)
  clear h ho hb hoff
  go_enter Try.func9, Try.ntmps9
  go_wp2_with fail
  refine hh.out.mono ?_
  rintro e w1 ⟨rfl, hT⟩
  obtain ⟨F', G', D', h1, h2, h3⟩ := H.out.turn (hT.tuD H.out.2.2.1)
  have d5 : w1.cell? ⟨b, 5, none⟩ = some (.int .i64 x.sent) := (h1.cell 5).trans rfl
  have f5 := h1.free 5
  have hset := h1.set 5 (.int .i64 (x.sent + (putCN x.c now z : Int))) (sendK x now z) rfl rfl rfl
  have hr := Lib.hid (show LTu w F (w1.setCell ⟨b, 5, none⟩ (.int .i64 (x.sent + (putCN x.c now z : Int)))) b (sendK x now z) from LTu.next h2 h3 ⟨F', hset.1.lk, (Did.refl F' w1).setCell (p := ⟨b, 5, none⟩) (.inl hset.2) _, Stem.refl _ _⟩)
  have hwo := hw.out
  clear hT h1 h2 h3 hh H hset hw
  go_wp2
  go_ret
  exact ⟨rfl, hr.out⟩
end Go.Proofs.Ytoiibmcbjjnpbaa.Link
namespace Go.Proofs.Ytoiibmcbjjnpbaa.Link
open Go.RowKit Mem Tick Cargo Toxic Stage Chain
open Go.Proofs.YtoiibmcbjjnpbaaW.PrintLast Pu
set_option maxRecDepth 100000
set_option linter.unusedVariables false
set_option linter.unusedSimpArgs false
variable {w w' w1 : World} {F : Nat → Prop} {b : Nat} {x y : Lk} {M Q : Int}
theorem bs_lt {A : Option Addr} {s : ByteArray} (h : BS w A s) (hp : 0 < s.size) {g o : Nat} (e : A = some ⟨g, o, none⟩) : g < w.heap.size := by
  obtain ⟨g', o', e', hb⟩ := h hp
  rw [e] at e'
  injection e' with e'
  injection e' with e1 e2
  subst e1
  exact World.block_lt_of_cell? w _ (hb 0 hp)
set_option maxHeartbeats 1000000 in
theorem kStep_any (h : LK w F b x) (ho : OkK x M Q) (hM : M ≤ 1000000) (hQ : Q ≤ 100000000) (hg : x.got + M ≤ 1000000000) (now win : Int) :
    Calls Try.prog 11 #[ptr b, .int .i64 now, .int .i64 win] w fun e w' => ∃ A cap F', e = .returned (.tuple #[.slice A (stepB x now win).size cap, .int .i64 (stepE x now win)]) ∧ BS w' A (stepB x now win) ∧ Newly w A ∧ LK w' F' b (stepK x now win) ∧ Did F w w' ∧ Stem F F' w ∧ (0 < (stepB x now win).size → BS.Off A F') := by
  obtain ⟨G, c, D, v, h⟩ := h
  have c0 : w.cell? ⟨b, 0, none⟩ = some (ptr c) := (h.cell 0).trans rfl
  have H := Lib.hid h
  have ho1 := Lib.hid (ok_step ho.c now)
  have hM0 : 0 ≤ M := by have := ho.c.held; omega
  have ho2 := Lib.hid (ok_take ho1.out hM0 now win)
  have hsz : (stepB x now win).size ≤ M.toNat := by
    have h1 := (flow_massIO (flow_take (stepC now x.c) now win)).1
    have h2 := ho1.out.lost
    have h3 := ho2.out.lost0
    have e0 : ((⟨#[]⟩ : ByteArray).size : Int) = 0 := rfl
    rw [e0] at h1
    unfold stepB
    omega
  have hw := Lib.hid (w_sum x.got (stepB x now win).size ho.g0 (by omega))
  have hblt : b < w.heap.size := h.1.lt
  have hvlt := Lib.hid (show ∀ j, v.ownBlock = some j → j < w.heap.size from fun j hj => by obtain ⟨cs, hvb⟩ := h.2.2.2.1.typed hj; exact hvb.lt)
  have hh := Lib.hid (cStep_any h.2.1 ho.c (by omega) (by omega) now)
  clear h ho
  go_enter Try.func11, Try.ntmps11
  go_wp2_with fail
  refine hh.out.mono ?_
  rintro e w1 ⟨rfl, hT⟩
  obtain ⟨F1, G1, D1, h1, hd1, hs1⟩ := H.out.turn (hT.tuD H.out.2.2.1)
  have c1 : w1.cell? ⟨b, 0, none⟩ = some (ptr c) := (h1.cell 0).trans rfl
  have hh2 := Lib.hid (cTake_any h1.2.1 ho1.out now win (by omega) (by omega))
  have H1 := Lib.hid h1
  have hDS1 := Lib.hid (And.intro hd1 hs1)
  have hsz1 : w.heap.size ≤ w1.heap.size := hd1.size
  clear hT h1 hd1 hs1 hh H c0
  go_wp2_with fail
  refine hh2.out.mono ?_
  rintro e w2 ⟨A2, cp2, rfl, hb2, hn2, G2, hC2, hd2, hs2, hsub⟩
  have hoff := Lib.hid (show BS.Off A2 G2 from fun g o e hg => by have := hn2 g o e; have := H1.out.2.1.lt (hsub g hg); omega)
  have hne := Lib.hid (show ∀ g, (∃ o, A2 = some ⟨g, o, none⟩) → g ≠ b from fun g ⟨o, e⟩ hgb => by have := hn2 g o e; omega)
  have hnw := Lib.hid (show Newly w A2 from fun g o e => Nat.le_trans hsz1 (hn2 g o e))
  obtain ⟨h2, hd2', hs2'⟩ := H1.out.chain hC2 hd2 hs2 H1.out.2.2.1
  have hDS2 := Lib.hid (And.intro (hDS1.out.1.trans hDS1.out.2 hd2') (hDS1.out.2.trans hDS1.out.1.size hs2'))
  have d6 : w2.cell? ⟨b, 6, none⟩ = some (.int .i64 x.got) := (h2.cell 6).trans rfl
  have f6 := h2.free 6
  have c2 : w2.cell? ⟨b, 0, none⟩ = some (ptr c) := (h2.cell 0).trans rfl
  have hset := h2.set 6 (.int .i64 (x.got + ((stepB x now win).size : Int))) { x with c := takeC (stepC now x.c) now win, got := x.got + ((stepB x now win).size : Int) } rfl rfl rfl
  have hb3 := Lib.hid (show BS (w2.setCell ⟨b, 6, none⟩ (.int .i64 (x.got + ((stepB x now win).size : Int)))) A2 (stepB x now win) from BS.kept hb2 fun g hg _ => Below.heap_setCell _ _ _ g (hne.out g hg))
  have hDS3 := Lib.hid (show Did F w (w2.setCell ⟨b, 6, none⟩ (.int .i64 (x.got + ((stepB x now win).size : Int)))) from hDS2.out.1.trans hDS2.out.2 ((Did.refl _ w2).setCell (p := ⟨b, 6, none⟩) (.inl hset.2) _))
  have H3 := Lib.hid hset.1
  have hh3 := Lib.hid (cStep_any hset.1.2.1 ho2.out (by omega) (by omega) now)
  have hwo := hw.out
  have esz : (takeCB (stepC now x.c) now win).size = (stepB x now win).size := rfl
  rw [esz]
  clear hb2 hn2 hC2 hd2 hs2 hsub h2 hd2' hs2' hset hh2 H1 hDS1 c1 hw esz
  generalize hBB : stepB x now win = B at *
  go_wp2_with fail
  refine hh3.out.mono ?_
  rintro e w4 ⟨rfl, hT4⟩
  have hb4 : BS w4 A2 B := by
    obtain ⟨G4, _, hd4, _⟩ := hT4
    exact BS_did hb3.out hoff.out hd4
  obtain ⟨F4, G4, D4, h4, hd4, hs4⟩ := H3.out.turn (hT4.tuD H3.out.2.2.1)
  have d9 : w4.cell? ⟨b, 9, none⟩ = some (.bool x.done) := (h4.cell 9).trans rfl
  have f9 := h4.free 9
  have hDS4 := Lib.hid (And.intro (hDS3.out.trans hDS2.out.2 hd4) (hDS2.out.2.trans hDS2.out.1.size (fun j hj => by rcases hs4 j hj with q | q; exact .inl q; exact .inr (by simpa using q))))
  have H4 := Lib.hid h4
  have hoff4 := Lib.hid (show 0 < B.size → BS.Off A2 F4 from fun hp g o e hg => by
    have hlt := bs_lt hb3.out hp e
    rcases hs4 g hg with q | q
    · rcases q with q | q | q
      · exact hne.out g ⟨o, e⟩ q
      · exact hoff.out g o e q
      · have := hvlt.out g q
        have := hnw.out g o e
        omega
    · exact absurd hlt (Nat.not_lt.2 q))
  have hst : (stepC now (takeC (stepC now x.c) now win)).state = (stepX x now win).state := rfl
  have hb4' := Lib.hid hb4
  rw [hst]
  clear hb4 hT4 h4 hd4 hs4 hh3 H3 hDS3 hb3 hoff d6 f6 c2 hst hDS2 hwo
  cases hdn : x.done with
  | true =>
    have e1 : stepE x now win = 0 := by unfold stepE tellB; rw [hdn]; rfl
    have e2 : stepK x now win = { x with c := stepX x now win, got := x.got + (B.size : Int), done := x.done } := by unfold stepK; rw [hBB, hdn]; rfl
    have hr := Lib.hid (show LK w4 F4 b (stepK x now win) ∧ Did F w w4 ∧ Stem F F4 w from ⟨by rw [e2]; exact H4.out.lk, hDS4.out.1, hDS4.out.2⟩)
    rw [hdn] at d9
    have e1' := Lib.hid e1
    clear e1 e2 H4 hDS4 hdn
    go_wp2
    go_ret2
    exact ⟨A2, cp2, F4, by (rw [e1'.out, hBB]; try rfl), by rw [hBB]; exact hb4'.out, hnw.out, hr.out.1, hr.out.2.1, hr.out.2.2, by rw [hBB]; exact hoff4.out⟩
  | false =>
    rw [hdn] at d9
    by_cases hz : (stepX x now win).state = 0
    · have e1 : stepE x now win = 0 := by unfold stepE tellB; rw [hdn, hz]; rfl
      have e2 : stepK x now win = { x with c := stepX x now win, got := x.got + (B.size : Int), done := x.done } := by unfold stepK tellB; rw [hBB, hdn, hz]; rfl
      have hr := Lib.hid (show LK w4 F4 b (stepK x now win) ∧ Did F w w4 ∧ Stem F F4 w from ⟨by rw [e2]; exact H4.out.lk, hDS4.out.1, hDS4.out.2⟩)
      rw [hz]
      have e1' := Lib.hid e1
      clear e1 e2 H4 hDS4 hdn hz
      go_wp2
      go_ret2
      exact ⟨A2, cp2, F4, by (rw [e1'.out, hBB]; try rfl), by rw [hBB]; exact hb4'.out, hnw.out, hr.out.1, hr.out.2.1, hr.out.2.2, by rw [hBB]; exact hoff4.out⟩
    · have tb : tellB x now win = true := by unfold tellB; rw [hdn]; simp [hz]
      have e1 : stepE x now win = (stepX x now win).state := by unfold stepE; rw [if_pos tb]
      have e2 : stepK x now win = { x with c := stepX x now win, got := x.got + (B.size : Int), done := true } := by unfold stepK; rw [hBB, tb]; simp
      have hset := H4.out.set 9 (.bool true) (stepK x now win) (by rw [e2]; rfl) (by rw [e2]; rfl) (by rw [e2])
      have hr := Lib.hid (show LK (w4.setCell ⟨b, 9, none⟩ (.bool true)) F4 b (stepK x now win) ∧ Did F w (w4.setCell ⟨b, 9, none⟩ (.bool true)) ∧ Stem F F4 w from ⟨hset.1.lk, hDS4.out.1.trans hDS4.out.2 ((Did.refl F4 w4).setCell (p := ⟨b, 9, none⟩) (.inl hset.2) _), hDS4.out.2⟩)
      have hb5 := Lib.hid (show BS (w4.setCell ⟨b, 9, none⟩ (.bool true)) A2 B from BS.kept hb4'.out fun g hg _ => Below.heap_setCell _ _ _ g (hne.out g hg))
      have tz : ((stepX x now win).state == 0) = false := by simpa using hz
      have e1' := Lib.hid e1
      clear e1 e2 H4 hDS4 hdn hz tb hset
      go_wp2
      go_ret2
      exact ⟨A2, cp2, F4, by (rw [e1'.out, hBB]; try rfl), by rw [hBB]; exact hb5.out, hnw.out, hr.out.1, hr.out.2.1, hr.out.2.2, by rw [hBB]; exact hoff4.out⟩
theorem LKG.names {G : Nat → Prop} {c : Nat} {D : Lay} {v v' : Value} {l' : List ByteArray} (h : LKG w F b x G c D v) (hd : Did (fun j => v.ownBlock = some j) w w1) (hN : NV w1 v' l') (hv : ∀ j, v'.ownBlock = some j → v.ownBlock = some j ∨ w.heap.size ≤ j) :
    LKG (w1.setCell ⟨b, 1, none⟩ v') (fun j => j = b ∨ G j ∨ v'.ownBlock = some j) b { x with names := l' } G c D v' ∧ Did F w (w1.setCell ⟨b, 1, none⟩ v') ∧ Stem F (fun j => j = b ∨ G j ∨ v'.ownBlock = some j) w := by
  obtain ⟨hb, hC, hcap, hNV, hF⟩ := h
  have hbv : ¬ (v.ownBlock = some b) := fun e => by
    obtain ⟨cs, hvb⟩ := hNV.typed e
    exact absurd (hb.ty hvb) (by decide)
  have hGv : ∀ j, G j → ¬ (v.ownBlock = some j) := fun j hj e => by
    obtain ⟨cs, hvb⟩ := hNV.typed e
    exact hC.typed.out hvb (by decide) hj
  have hb1 : Blk w1 b 48 (lcells c v x) := hb.did hd hbv
  refine ⟨⟨?_, ?_, hcap, ?_, fun j => Iff.rfl⟩, ?_, fun j hj => ?_⟩
  · have := hb1.set_ 1 v'
    unfold lcells at this ⊢
    simpa using this
  · refine hC.kept fun j hj => (Below.heap_setCell _ _ _ j ?_).trans (hd.block j (hC.lt hj) (hGv j hj))
    rintro rfl
    exact hC.typed.out hb (by decide) hj
  · refine hN.kept fun j hj => Below.heap_setCell _ _ _ j ?_
    rintro rfl
    obtain ⟨cs, hvb⟩ := hN.typed hj
    exact absurd (hb1.ty hvb) (by decide)
  · exact (hd.more fun j hj => .inl ((hF j).2 (.inr (.inr hj)))).setCell (p := ⟨b, 1, none⟩) (.inl ((hF b).2 (.inl rfl))) _
  · rcases hj with rfl | hj | hj
    · exact .inl ((hF _).2 (.inl rfl))
    · exact .inl ((hF j).2 (.inr (.inl hj)))
    · exact (hv j hj).imp (fun e => (hF j).2 (.inr (.inr e))) id
def countsV (x : Lk) : Value := .agg #[.int .i64 x.sent, .int .i64 x.got, .int .i64 (heldL x.c.l), .int .i64 x.c.lost]
theorem kCounts_any (h : LK w F b x) (ho : OkK x M Q) (hM : M ≤ 1000000000) :
    Calls Try.prog 15 #[ptr b] w fun e w' => e = .returned (countsV x) ∧ Below w.heap.size w w' := by
  obtain ⟨G, c, D, v, h⟩ := h
  have hb := h.1
  have hlt := hb.lt
  obtain ⟨W, hW⟩ : ∃ W, W = (w.alloc (.cells #[.int .i64 0, .int .i64 0, .int .i64 0, .int .i64 0] 46)).alloc (.cells #[.int .i64 x.sent, .int .i64 x.got, .int .i64 0, .int .i64 0] 46) := ⟨_, rfl⟩
  have hB : Below w.heap.size w W := by rw [hW]; exact ((Below.refl _ _).alloc (Nat.le_refl _) _).alloc (by simp) _
  have hR : Blk W w.heap.size 46 #[.int .i64 0, .int .i64 0, .int .i64 0, .int .i64 0] := by rw [hW]; exact (Blk.new w _ _).below ((Below.refl _ _).alloc (Nat.le_refl _) _)
  have hX : Blk W (w.heap.size + 1) 46 #[.int .i64 x.sent, .int .i64 x.got, .int .i64 0, .int .i64 0] := by
    rw [hW]
    have := Blk.new (w.alloc (.cells #[.int .i64 0, .int .i64 0, .int .i64 0, .int .i64 0] 46)) 46 #[.int .i64 x.sent, .int .i64 x.got, .int .i64 0, .int .i64 0]
    simpa using this
  have HC := Lib.hid (show CH W G c D x.c from h.2.1.below hB)
  have hh := ho.c.held
  have hhe := Lib.hid (cHeld_any HC.out.drew (by omega) ho.c.ten)
  have c0 : w.cell? ⟨b, 0, none⟩ = some (ptr c) := (hb.cell 0).trans rfl
  have c5 : w.cell? ⟨b, 5, none⟩ = some (.int .i64 x.sent) := (hb.cell 5).trans rfl
  have c6 : w.cell? ⟨b, 6, none⟩ = some (.int .i64 x.got) := (hb.cell 6).trans rfl
  have c7 : w.cell? ⟨b, 7, none⟩ = some (.int .i64 0) := (hb.cell 7).trans rfl
  have c8 : w.cell? ⟨b, 8, none⟩ = some (.int .i64 0) := (hb.cell 8).trans rfl
  have hne : b ≠ w.heap.size := by omega
  have hWB := Lib.hid hB
  have hR' := Lib.hid hR
  have hX' := Lib.hid hX
  have d0 : W.cell? ⟨b, 0, none⟩ = some (ptr c) := (hb.below hB |>.cell 0).trans rfl
  clear h ho hB hR hX hh hb
  go_enter Try.func15, Try.ntmps15
  go_upto_region 2 with (fail)
  rw [← hW]
  clear hW c0 c5 c6 c7 c8 hne
  refine start_ (n := 14) (S := fun w' => w'.cell? ⟨b, 0, none⟩ = some (ptr c)) (ds := [11, 13]) (m_ 14 0) (by kernel_rfl) rfl (by kernel_rfl) (d0) (fun hHeld => ?_)
  refine pu_ 0 (some 8) (m_ 14 1) rfl rfl (by kernel_rfl) (fun _ _ _ h => h) (by rfl) (by intro w'; go_simp; with_reducible rfl) (by simp only [Act.put, List.setIfInBounds_toArray, List.set_cons_zero, List.set_cons_succ, i64_w, i32_w]; rfl) ?_
  refine pu_ 1 (some 9) (m_ 14 3) rfl rfl (by kernel_rfl) (fun _ _ _ h => h) (by rfl) (by intro w'; go_simp; with_reducible rfl) (by simp only [Act.put, List.setIfInBounds_toArray, List.set_cons_zero, List.set_cons_succ, i64_w, i32_w]; rfl) ?_
  refine pu_ 2 (some 10) (m_ 14 7) rfl rfl (by kernel_rfl) (fun _ _ _ h => h) (by rfl) (by intro w'; go_simp; with_reducible rfl) (by simp only [Act.put, List.setIfInBounds_toArray, List.set_cons_zero, List.set_cons_succ, i64_w, i32_w]; rfl) ?_
  refine pu_ 5 (some 13) (m_ 14 39) rfl rfl (by kernel_rfl) (fun _ _ _ h => h) (by rfl) (by intro w'; go_simp; with_reducible rfl) (by simp only [Act.put, List.setIfInBounds_toArray, List.set_cons_zero, List.set_cons_succ, i64_w, i32_w]; rfl) ?_
  refine pu_ 6 (some 14) (m_ 14 103) rfl rfl (by kernel_rfl) (fun _ _ _ h => h) (by rfl) (by intro w'; go_simp; with_reducible rfl) (by simp only [Act.put, List.setIfInBounds_toArray, List.set_cons_zero, List.set_cons_succ, i64_w, i32_w]; rfl) ?_
  refine pu_ 7 (some 15) (m_ 14 231) rfl rfl (by kernel_rfl) (fun _ _ _ h => h) (by rfl) (by intro w'; go_simp; with_reducible rfl) (by simp only [Act.put, List.setIfInBounds_toArray, List.set_cons_zero, List.set_cons_succ, i64_w, i32_w]; rfl) ?_
  refine tk_ 3 (some 11) (m_ 14 239) rfl rfl (by kernel_rfl) (fun _ _ _ h => h) (by rfl) (by intro w' s0; go_simp; with_reducible rfl) hHeld (by simp only [Act.put, List.setIfInBounds_toArray, List.set_cons_zero, List.set_cons_succ, i64_w, i32_w]; rfl) ?_
  refine tk_ 8 (some 16) (m_ 14 495) rfl rfl (by kernel_rfl) (fun _ _ _ h => h) (by rfl) (by intro w' s0; go_simp; with_reducible rfl) hHeld (by simp only [Act.put, List.setIfInBounds_toArray, List.set_cons_zero, List.set_cons_succ, i64_w, i32_w]; rfl) ?_
  refine one_ (i := 4) (N := some 12) (m_ 14 511) rfl rfl (by kernel_rfl) (by decide) (fun K hK => ?_)
  refine goes_ Try.func27 (by kernel_rfl) rfl #[ptr c] (by rfl) rfl rfl (by simp only [List.map_toArray, List.map_cons, List.map_nil]; rfl) ?_
  with_reducible refine (hhe.out).mono ?_
  rintro e w2 ⟨rfl, hB⟩
  have hB2 := Lib.hid (below_drew hB)
  have j0 := bcells (below_drew hB) d0
  have hX2 := hX'.out.below (below_drew hB)
  have x2 : w2.cell? ⟨w.heap.size + 1, 2, none⟩ = some (.int .i64 0) := (hX2.cell 2).trans rfl
  have x3 : w2.cell? ⟨w.heap.size + 1, 3, none⟩ = some (.int .i64 0) := (hX2.cell 3).trans rfl
  have g2 := hX2.free 2
  have g3 := hX2.free 3
  clear hB hX2
  refine ⟨_, rfl, ?_⟩
  refine hK.out _ _ (j0) (fun hHeld => ?_)
  clear hK K
  refine norm_ (a' := ?_) ?_ ?_
  rotate_left
  · show Act.put _ (some 12) _ = _
    simp only [Act.put, List.setIfInBounds_toArray, List.set_cons_zero, List.set_cons_succ, i64_w, i32_w]
    rfl
  refine pu_ 10 (some 18) (m_ 14 1535) rfl rfl (by kernel_rfl) (fun _ _ _ h => h) (by rfl) (by intro w'; go_simp; with_reducible rfl) (by simp only [Act.put, List.setIfInBounds_toArray, List.set_cons_zero, List.set_cons_succ, i64_w, i32_w]; rfl) ?_
  refine one_ (i := 9) (N := some 17) (m_ 14 2047) rfl rfl (by kernel_rfl) (by decide) (fun K hK => ?_)
  refine goes_ Try.func28 (by kernel_rfl) rfl #[ptr c] (by rfl) rfl rfl (by simp only [List.map_toArray, List.map_cons, List.map_nil]; rfl) ?_
  with_reducible refine ((cLost_any (HC.out.below hB2.out))).mono ?_
  rintro e w3 ⟨rfl, rfl⟩
  refine ⟨_, rfl, ?_⟩
  refine hK.out _ _ (j0) (fun hHeld => ?_)
  clear hK K
  refine norm_ (a' := ?_) ?_ ?_
  rotate_left
  · show Act.put _ (some 17) _ = _
    simp only [Act.put, List.setIfInBounds_toArray, List.set_cons_zero, List.set_cons_succ, i64_w, i32_w]
    rfl
  refine last_ (i := 11) (N := none) (m_ 14 4095) rfl rfl (by kernel_rfl) (by decide) (fun K hK => ?_)
  refine skip_ (w1 := ?_) (by rfl) rfl ?_ ?_
  rotate_left
  · go_simp
    rfl
  refine hK.out _ _ ?_
  clear hK K
  refine pu_ 12 (some 19) (m_ 14 8191) rfl rfl (by kernel_rfl) (fun _ _ _ h => h) (by rfl) (by intro w'; go_simp; with_reducible rfl) (by simp only [Act.put, List.setIfInBounds_toArray, List.set_cons_zero, List.set_cons_succ, i64_w, i32_w]; rfl) ?_
  refine last_ (i := 13) (N := none) (m_ 14 16383) rfl rfl (by kernel_rfl) (by decide) (fun K hK => ?_)
  refine skip_ (w1 := ?_) (by rfl) rfl ?_ ?_
  rotate_left
  · go_simp
    rfl
  refine hK.out _ _ ?_
  clear hK K
  refine done_ (by kernel_rfl) ?_
  have hBw := Lib.hid (hWB.out.trans (hB2.out.mono hWB.out.size))
  have hX3 := Lib.hid (((hX'.out.below hB2.out).set_ 2 (.int .i64 (heldL x.c.l))).set_ 3 (.int .i64 x.c.lost))
  have hR3 := Lib.hid (((hR'.out.below hB2.out).far (p := ⟨w.heap.size + 1, 2, none⟩) (by show w.heap.size ≠ w.heap.size + 1; omega) (.int .i64 (heldL x.c.l))).far (p := ⟨w.heap.size + 1, 3, none⟩) (by show w.heap.size ≠ w.heap.size + 1; omega) (.int .i64 x.c.lost))
  have hB3 := Lib.hid ((hBw.out.setCell (p := ⟨w.heap.size + 1, 2, none⟩) (by show w.heap.size ≤ w.heap.size + 1; omega) (.int .i64 (heldL x.c.l))).setCell (p := ⟨w.heap.size + 1, 3, none⟩) (by show w.heap.size ≤ w.heap.size + 1; omega) (.int .i64 x.c.lost))
  clear hHeld d0 j0 x2 x3 g2 g3 hX' hR' hBw hB2 hhe HC hWB
  generalize hw3 : (w2.setCell ⟨w.heap.size + 1, 2, none⟩ (.int .i64 (heldL x.c.l))).setCell ⟨w.heap.size + 1, 3, none⟩ (.int .i64 x.c.lost) = w3 at *
  have y0 : w3.cell? ⟨w.heap.size + 1, 0, none⟩ = some (.int .i64 x.sent) := (hX3.out.cell 0).trans rfl
  have y1 : w3.cell? ⟨w.heap.size + 1, 1, none⟩ = some (.int .i64 x.got) := (hX3.out.cell 1).trans rfl
  have y2 : w3.cell? ⟨w.heap.size + 1, 2, none⟩ = some (.int .i64 (heldL x.c.l)) := (hX3.out.cell 2).trans rfl
  have y3 : w3.cell? ⟨w.heap.size + 1, 3, none⟩ = some (.int .i64 x.c.lost) := (hX3.out.cell 3).trans rfl
  have z0 : w3.cell? ⟨w.heap.size, 0, none⟩ = some (.int .i64 0) := (hR3.out.cell 0).trans rfl
  have z1 : w3.cell? ⟨w.heap.size, 1, none⟩ = some (.int .i64 0) := (hR3.out.cell 1).trans rfl
  have z2 : w3.cell? ⟨w.heap.size, 2, none⟩ = some (.int .i64 0) := (hR3.out.cell 2).trans rfl
  have z3 : w3.cell? ⟨w.heap.size, 3, none⟩ = some (.int .i64 0) := (hR3.out.cell 3).trans rfl
  have g0 := hR3.out.free 0
  have g1 := hR3.out.free 1
  have g2 := hR3.out.free 2
  have g3 := hR3.out.free 3
  clear hw3
  go_wp2
  refine bodyPost_ret (v := countsV x) (results_cell_row Try.results15 _ _ w.heap.size 46 _ (0, 0) _ rfl ((((hR3.out.set_ 0 (.int .i64 x.sent)).set_ 1 (.int .i64 x.got)).set_ 2 (.int .i64 (heldL x.c.l))).set_ 3 (.int .i64 x.c.lost)) Try.underlying46 rfl (by kernel_rfl)) rfl ⟨rfl, ?_⟩
  exact (((hB3.out.setCell (p := ⟨w.heap.size, 0, none⟩) (Nat.le_refl _) _).setCell (p := ⟨w.heap.size, 1, none⟩) (Nat.le_refl _) _).setCell (p := ⟨w.heap.size, 2, none⟩) (Nat.le_refl _) _).setCell (p := ⟨w.heap.size, 3, none⟩) (Nat.le_refl _) _
end Go.Proofs.Ytoiibmcbjjnpbaa.Link
namespace Go.Proofs.Ytoiibmcbjjnpbaa.Link
open Go.RowKit Mem Tick Cargo Toxic Stage Chain
open Go.Proofs.YtoiibmcbjjnpbaaW.PrintLast Pu
set_option maxRecDepth 100000
set_option linter.unusedVariables false
set_option linter.unusedSimpArgs false
variable {w w' w1 : World} {F : Nat → Prop} {b : Nat} {x y : Lk} {M Q : Int}
theorem LKG.below {G : Nat → Prop} {c : Nat} {D : Lay} {v : Value} (h : LKG w F b x G c D v) (hb : Below w.heap.size w w') : LKG w' F b x G c D v := by
  have hl : ∀ j, F j → j < w.heap.size := fun j hj => h.lk.lt hj
  obtain ⟨h1, h2, h3, h4, h5⟩ := h
  exact ⟨h1.below hb, h2.below hb, h3, h4.kept fun j hj => hb.block j (hl j ((h5 j).2 (.inr (.inr hj)))), h5⟩
theorem LKG.far {G : Nat → Prop} {c : Nat} {D : Lay} {v : Value} (h : LKG w F b x G c D v) {g : Nat} {t : TypeId} {cs : Array Value} (hb : Blk w g t cs) (ht : t ∉ lts) (i : Nat) (u : Value) : LKG (w.setCell ⟨g, i, none⟩ u) F b x G c D v := by
  have hg : ¬ F g := h.lk.off hb ht
  obtain ⟨h1, h2, h3, h4, h5⟩ := h
  have hk : ∀ j, F j → (w.setCell ⟨g, i, none⟩ u).heap[j]? = w.heap[j]? := fun j hj => Below.heap_setCell w ⟨g, i, none⟩ u j fun e => hg (by have e' : j = g := e; exact e' ▸ hj)
  exact ⟨(hk b ((h5 b).2 (.inl rfl))).trans h1, h2.kept fun j hj => hk j ((h5 j).2 (.inr (.inl hj))), h3, h4.kept fun j hj => hk j ((h5 j).2 (.inr (.inr hj))), h5⟩
theorem add_bad (h : LK w F b x) (ho : OkK x M Q) (t0 : ByteArray) (t1 : Int) (t2 : Bool) (t3 t4 t5 now : Int) (hz : chk ⟨t0, t1, t2, t3, t4, t5⟩ ≠ 0) :
    Calls Try.prog 19 #[ptr b, .agg #[.string t0, .int .i64 t1, .bool t2, .int .i64 t3, .int .i64 t4, .int .i64 t5], .int .i64 now] w fun e w' => e = .returned (.int .i64 (chk ⟨t0, t1, t2, t3, t4, t5⟩)) ∧ LTu w F w' b (x) := by
  obtain ⟨G, c, D, v, h⟩ := h
  have hb0 := (Below.refl w.heap.size w).alloc (Nat.le_refl _) (.cells #[.string t0, .int .i64 t1, .bool t2, .int .i64 t3, .int .i64 t4, .int .i64 t5] 29)
  have hblk0 := Lib.hid (Blk.new w 29 #[.string t0, .int .i64 t1, .bool t2, .int .i64 t3, .int .i64 t4, .int .i64 t5])
  have hH0 := Lib.hid (h.below hb0)
  have hb0' := Lib.hid hb0
  have hck := Lib.hid (fun wy => check_any ⟨t0, t1, t2, t3, t4, t5⟩ wy)
  have hl0 := Lib.hid (LTu.refl h.lk)
  have tz : (chk ⟨t0, t1, t2, t3, t4, t5⟩ != 0) = true := by simpa using hz
  clear h hb0 ho hz
  generalize hE : chk ⟨t0, t1, t2, t3, t4, t5⟩ = E at *
  go_enter Try.func19, Try.ntmps19
  go_wp2_with fail
  refine (hck.out _).mono ?_
  rintro e w1 ⟨rfl, hB⟩
  have hB1 := Lib.hid (bw_below hb0'.out hB)
  have hblk1 := Lib.hid (hblk0.out.below hB)
  have hH1 := Lib.hid (hH0.out.below hB)
  clear hB hb0' hblk0 hH0 hck
  go_wp2
  refine start_ (n := 12) (S := fun w' => True) (ds := []) (m_ 12 0) (by kernel_rfl) rfl (by kernel_rfl) trivial (fun hHeld => ?_)
  refine pu_ 0 (some 14) (m_ 12 1) rfl rfl (by kernel_rfl) (fun _ _ _ h => h) (by rfl) (by intro w'; go_simp; with_reducible rfl) (by simp only [Act.put, List.setIfInBounds_toArray, List.set_cons_zero, List.set_cons_succ, i64_w, i32_w]; rfl) ?_
  refine pu_ 1 (some 15) (m_ 12 3) rfl rfl (by kernel_rfl) (fun _ _ _ h => h) (by rfl) (by intro w'; go_simp; with_reducible rfl) (by simp only [Act.put, List.setIfInBounds_toArray, List.set_cons_zero, List.set_cons_succ, i64_w, i32_w]; rfl) ?_
  refine pu_ 2 (some 16) (m_ 12 7) rfl rfl (by kernel_rfl) (fun _ _ _ h => h) (by rfl) (by intro w'; go_simp; with_reducible rfl) (by simp only [Act.put, List.setIfInBounds_toArray, List.set_cons_zero, List.set_cons_succ, i64_w, i32_w]; rfl) ?_
  refine po_ 3 (some 17) (m_ 12 15) rfl rfl (by kernel_rfl) (fun _ _ _ h => h) (by rfl) (by simp only [Act.put, List.setIfInBounds_toArray, List.set_cons_zero, List.set_cons_succ, i64_w, i32_w]; rfl) ?_
  refine po_ 4 (some 18) (m_ 12 31) rfl rfl (by kernel_rfl) (fun _ _ _ h => h) (by rfl) (by simp only [Act.put, List.setIfInBounds_toArray, List.set_cons_zero, List.set_cons_succ, i64_w, i32_w]; rfl) ?_
  refine po_ 5 (some 19) (m_ 12 63) rfl rfl (by kernel_rfl) (fun _ _ _ h => h) (by rfl) (by simp only [Act.put, List.setIfInBounds_toArray, List.set_cons_zero, List.set_cons_succ, i64_w, i32_w]; rfl) ?_
  refine po_ 6 (some 20) (m_ 12 127) rfl rfl (by kernel_rfl) (fun _ _ _ h => h) (by rfl) (by simp only [Act.put, List.setIfInBounds_toArray, List.set_cons_zero, List.set_cons_succ, i64_w, i32_w]; rfl) ?_
  refine po_ 7 (some 21) (m_ 12 255) rfl rfl (by kernel_rfl) (fun _ _ _ h => h) (by rfl) (by simp only [Act.put, List.setIfInBounds_toArray, List.set_cons_zero, List.set_cons_succ, i64_w, i32_w]; rfl) ?_
  refine po_ 8 (some 22) (m_ 12 511) rfl rfl (by kernel_rfl) (fun _ _ _ h => h) (by rfl) (by simp only [Act.put, List.setIfInBounds_toArray, List.set_cons_zero, List.set_cons_succ, i64_w, i32_w]; rfl) ?_
  refine po_ 9 (some 23) (m_ 12 1023) rfl rfl (by kernel_rfl) (fun _ _ _ h => h) (by rfl) (by simp only [Act.put, List.setIfInBounds_toArray, List.set_cons_zero, List.set_cons_succ, i64_w, i32_w]; rfl) ?_
  refine pu_ 10 (some 24) (m_ 12 2047) rfl rfl (by kernel_rfl) (fun _ _ _ h => h) (by rfl) (by intro w'; go_simp; with_reducible rfl) (by simp only [Act.put, List.setIfInBounds_toArray, List.set_cons_zero, List.set_cons_succ, i64_w, i32_w]; rfl) ?_
  refine pu_ 11 (some 13) (m_ 12 4095) rfl rfl (by kernel_rfl) (fun _ _ _ h => h) (by rfl) (by intro w'; go_simp; with_reducible rfl) (by simp only [Act.put, List.setIfInBounds_toArray, List.set_cons_zero, List.set_cons_succ, i64_w, i32_w]; rfl) ?_
  refine done_ (by kernel_rfl) ?_
  clear hHeld
  have hr := Lib.hid (show LTu w F w1.drew b x from hl0.out.trans (fun F' hL => LTu.below (w := w) hL hB1.out.drew))
  clear hH1 hblk1 hB1
  go_wp2
  go_ret
  exact ⟨rfl, hr.out⟩
theorem add_other (h : LK w F b x) (ho : OkK x M Q) (t0 : ByteArray) (t1 : Int) (t2 : Bool) (t3 t4 t5 now : Int) (hz : chk ⟨t0, t1, t2, t3, t4, t5⟩ = 0) (hu : t2 ≠ x.up) :
    Calls Try.prog 19 #[ptr b, .agg #[.string t0, .int .i64 t1, .bool t2, .int .i64 t3, .int .i64 t4, .int .i64 t5], .int .i64 now] w fun e w' => e = .returned (.int .i64 (0)) ∧ LTu w F w' b (x) := by
  obtain ⟨G, c, D, v, h⟩ := h
  have hb0 := (Below.refl w.heap.size w).alloc (Nat.le_refl _) (.cells #[.string t0, .int .i64 t1, .bool t2, .int .i64 t3, .int .i64 t4, .int .i64 t5] 29)
  have hblk0 := Lib.hid (Blk.new w 29 #[.string t0, .int .i64 t1, .bool t2, .int .i64 t3, .int .i64 t4, .int .i64 t5])
  have hH0 := Lib.hid (h.below hb0)
  have hb0' := Lib.hid hb0
  have hck := Lib.hid (fun wy => check_any ⟨t0, t1, t2, t3, t4, t5⟩ wy)
  have hl0 := Lib.hid (LTu.refl h.lk)
  have tu : (t2 != x.up) = true := by simpa using hu
  have tu2 : (t2 == x.up) = false := by simpa using hu
  rw [hz] at hck
  clear h hb0 ho hz hu
  go_enter Try.func19, Try.ntmps19
  go_wp2_with fail
  refine (hck.out _).mono ?_
  rintro e w1 ⟨rfl, hB⟩
  have hB1 := Lib.hid (bw_below hb0'.out hB)
  have hblk1 := Lib.hid (hblk0.out.below hB)
  have hH1 := Lib.hid (hH0.out.below hB)
  clear hB hb0' hblk0 hH0 hck
  have e2 : w1.cell? ⟨w.heap.size, 2, none⟩ = some (.bool t2) := (hblk1.out.cell 2).trans rfl
  have d2 : w1.cell? ⟨b, 2, none⟩ = some (.bool x.up) := (hH1.out.cell 2).trans rfl
  go_wp2
  refine start_ (n := 12) (S := fun w' => w'.cell? ⟨w.heap.size, 2, none⟩ = some (.bool t2) ∧ w'.cell? ⟨b, 2, none⟩ = some (.bool x.up)) (ds := []) (m_ 12 0) (by kernel_rfl) rfl (by kernel_rfl) ⟨e2, d2⟩ (fun hHeld => ?_)
  refine pu_ 0 (some 14) (m_ 12 1) rfl rfl (by kernel_rfl) (fun _ _ _ h => h) (by rfl) (by intro w'; go_simp; with_reducible rfl) (by simp only [Act.put, List.setIfInBounds_toArray, List.set_cons_zero, List.set_cons_succ, i64_w, i32_w]; rfl) ?_
  refine pu_ 1 (some 15) (m_ 12 3) rfl rfl (by kernel_rfl) (fun _ _ _ h => h) (by rfl) (by intro w'; go_simp; with_reducible rfl) (by simp only [Act.put, List.setIfInBounds_toArray, List.set_cons_zero, List.set_cons_succ, i64_w, i32_w]; rfl) ?_
  refine pu_ 2 (some 16) (m_ 12 7) rfl rfl (by kernel_rfl) (fun _ _ _ h => h) (by rfl) (by intro w'; go_simp; with_reducible rfl) (by simp only [Act.put, List.setIfInBounds_toArray, List.set_cons_zero, List.set_cons_succ, i64_w, i32_w]; rfl) ?_
  refine pu_ 3 (some 17) (m_ 12 15) rfl rfl (by kernel_rfl) (fun _ _ _ h => h) (by rfl) (by intro w'; go_simp; with_reducible rfl) (by simp only [Act.put, List.setIfInBounds_toArray, List.set_cons_zero, List.set_cons_succ, i64_w, i32_w]; rfl) ?_
  refine pu_ 5 (some 19) (m_ 12 47) rfl rfl (by kernel_rfl) (fun _ _ _ h => h) (by rfl) (by intro w'; go_simp; with_reducible rfl) (by simp only [Act.put, List.setIfInBounds_toArray, List.set_cons_zero, List.set_cons_succ, i64_w, i32_w]; rfl) ?_
  refine pu_ 6 (some 20) (m_ 12 111) rfl rfl (by kernel_rfl) (fun _ _ _ h => h) (by rfl) (by intro w'; go_simp; with_reducible rfl) (by simp only [Act.put, List.setIfInBounds_toArray, List.set_cons_zero, List.set_cons_succ, i64_w, i32_w]; rfl) ?_
  refine pu_ 7 (some 21) (m_ 12 239) rfl rfl (by kernel_rfl) (fun _ _ _ h => h) (by rfl) (by intro w'; go_simp; with_reducible rfl) (by simp only [Act.put, List.setIfInBounds_toArray, List.set_cons_zero, List.set_cons_succ, i64_w, i32_w]; rfl) ?_
  refine tk_ 4 (some 18) (m_ 12 255) rfl rfl (by kernel_rfl) (fun _ _ _ h => h) (by rfl) (by rintro w' ⟨s0, s1⟩; go_simp; with_reducible rfl) hHeld (by simp only [Act.put, List.setIfInBounds_toArray, List.set_cons_zero, List.set_cons_succ, i64_w, i32_w]; rfl) ?_
  refine tk_ 8 (some 22) (m_ 12 511) rfl rfl (by kernel_rfl) (fun _ _ _ h => h) (by rfl) (by rintro w' ⟨s0, s1⟩; go_simp; with_reducible rfl) hHeld (by simp only [Act.put, List.setIfInBounds_toArray, List.set_cons_zero, List.set_cons_succ, i64_w, i32_w]; rfl) ?_
  refine pu_ 9 (some 23) (m_ 12 1023) rfl rfl (by kernel_rfl) (fun _ _ _ h => h) (by rfl) (by intro w'; go_simp; with_reducible rfl) (by simp only [Act.put, List.setIfInBounds_toArray, List.set_cons_zero, List.set_cons_succ, i64_w, i32_w]; rfl) ?_
  refine pu_ 10 (some 24) (m_ 12 2047) rfl rfl (by kernel_rfl) (fun _ _ _ h => h) (by rfl) (by intro w'; go_simp; with_reducible rfl) (by simp only [Act.put, List.setIfInBounds_toArray, List.set_cons_zero, List.set_cons_succ, i64_w, i32_w]; rfl) ?_
  refine pu_ 11 (some 13) (m_ 12 4095) rfl rfl (by kernel_rfl) (fun _ _ _ h => h) (by rfl) (by intro w'; go_simp; with_reducible rfl) (by simp only [Act.put, List.setIfInBounds_toArray, List.set_cons_zero, List.set_cons_succ, i64_w, i32_w]; rfl) ?_
  refine done_ (by kernel_rfl) ?_
  clear hHeld e2 d2
  have hr := Lib.hid (show LTu w F w1.drew b x from hl0.out.trans (fun F' hL => LTu.below (w := w) hL hB1.out.drew))
  clear hH1 hblk1 hB1
  go_wp2
  go_ret
  exact ⟨rfl, hr.out⟩
theorem add_there (h : LK w F b x) (ho : OkK x M Q) (t0 : ByteArray) (t1 : Int) (t2 : Bool) (t3 t4 t5 now : Int) (hz : chk ⟨t0, t1, t2, t3, t4, t5⟩ = 0) (hu : t2 = x.up) (hi : (idxN x.names t0).isSome = true) :
    Calls Try.prog 19 #[ptr b, .agg #[.string t0, .int .i64 t1, .bool t2, .int .i64 t3, .int .i64 t4, .int .i64 t5], .int .i64 now] w fun e w' => e = .returned (.int .i64 (141)) ∧ LTu w F w' b (x) := by
  obtain ⟨G, c, D, v, h⟩ := h
  have hb0 := (Below.refl w.heap.size w).alloc (Nat.le_refl _) (.cells #[.string t0, .int .i64 t1, .bool t2, .int .i64 t3, .int .i64 t4, .int .i64 t5] 29)
  have hblk0 := Lib.hid (Blk.new w 29 #[.string t0, .int .i64 t1, .bool t2, .int .i64 t3, .int .i64 t4, .int .i64 t5])
  have hH0 := Lib.hid (h.below hb0)
  have hb0' := Lib.hid hb0
  have hck := Lib.hid (fun wy => check_any ⟨t0, t1, t2, t3, t4, t5⟩ wy)
  have hl0 := Lib.hid (LTu.refl h.lk)
  have hvs := h.2.2.2.1.sr
  obtain ⟨A0, cp0, hv, _⟩ := hvs
  subst hv
  have tu : (t2 != x.up) = false := by rw [hu]; simp
  have tu2 : (t2 == x.up) = true := by rw [hu]; simp
  rw [hz] at hck
  have hnl : x.names.length ≤ 8 := by have := ho.n; have := ho.c.ten; omega
  have ho' := Lib.hid ho
  have his := hi
  clear h hb0 ho hz hu hi
  go_enter Try.func19, Try.ntmps19
  go_wp2_with fail
  refine (hck.out _).mono ?_
  rintro e w1 ⟨rfl, hB⟩
  have hB1 := Lib.hid (bw_below hb0'.out hB)
  have hblk1 := Lib.hid (hblk0.out.below hB)
  have hH1 := Lib.hid (hH0.out.below hB)
  clear hB hb0' hblk0 hH0 hck
  have e2 : w1.cell? ⟨w.heap.size, 2, none⟩ = some (.bool t2) := (hblk1.out.cell 2).trans rfl
  have d2 : w1.cell? ⟨b, 2, none⟩ = some (.bool x.up) := (hH1.out.cell 2).trans rfl
  have d1 : w1.cell? ⟨b, 1, none⟩ = some (.slice A0 x.names.length cp0) := (hH1.out.cell 1).trans rfl
  have e0 : w1.cell? ⟨w.heap.size, 0, none⟩ = some (.string t0) := (hblk1.out.cell 0).trans rfl
  have hco := Lib.hid (contains_any w1.drew.drew (.slice A0 x.names.length cp0) x.names t0 (show SR w1.drew.drew _ _ from (hH1.out.2.2.2.1).sr) (by omega))
  go_wp2
  refine start_ (n := 12) (S := fun w' => w'.cell? ⟨w.heap.size, 2, none⟩ = some (.bool t2) ∧ w'.cell? ⟨b, 2, none⟩ = some (.bool x.up)) (ds := []) (m_ 12 0) (by kernel_rfl) rfl (by kernel_rfl) ⟨e2, d2⟩ (fun hHeld => ?_)
  refine pu_ 0 (some 14) (m_ 12 1) rfl rfl (by kernel_rfl) (fun _ _ _ h => h) (by rfl) (by intro w'; go_simp; with_reducible rfl) (by simp only [Act.put, List.setIfInBounds_toArray, List.set_cons_zero, List.set_cons_succ, i64_w, i32_w]; rfl) ?_
  refine pu_ 1 (some 15) (m_ 12 3) rfl rfl (by kernel_rfl) (fun _ _ _ h => h) (by rfl) (by intro w'; go_simp; with_reducible rfl) (by simp only [Act.put, List.setIfInBounds_toArray, List.set_cons_zero, List.set_cons_succ, i64_w, i32_w]; rfl) ?_
  refine pu_ 2 (some 16) (m_ 12 7) rfl rfl (by kernel_rfl) (fun _ _ _ h => h) (by rfl) (by intro w'; go_simp; with_reducible rfl) (by simp only [Act.put, List.setIfInBounds_toArray, List.set_cons_zero, List.set_cons_succ, i64_w, i32_w]; rfl) ?_
  refine pu_ 3 (some 17) (m_ 12 15) rfl rfl (by kernel_rfl) (fun _ _ _ h => h) (by rfl) (by intro w'; go_simp; with_reducible rfl) (by simp only [Act.put, List.setIfInBounds_toArray, List.set_cons_zero, List.set_cons_succ, i64_w, i32_w]; rfl) ?_
  refine pu_ 5 (some 19) (m_ 12 47) rfl rfl (by kernel_rfl) (fun _ _ _ h => h) (by rfl) (by intro w'; go_simp; with_reducible rfl) (by simp only [Act.put, List.setIfInBounds_toArray, List.set_cons_zero, List.set_cons_succ, i64_w, i32_w]; rfl) ?_
  refine pu_ 6 (some 20) (m_ 12 111) rfl rfl (by kernel_rfl) (fun _ _ _ h => h) (by rfl) (by intro w'; go_simp; with_reducible rfl) (by simp only [Act.put, List.setIfInBounds_toArray, List.set_cons_zero, List.set_cons_succ, i64_w, i32_w]; rfl) ?_
  refine pu_ 7 (some 21) (m_ 12 239) rfl rfl (by kernel_rfl) (fun _ _ _ h => h) (by rfl) (by intro w'; go_simp; with_reducible rfl) (by simp only [Act.put, List.setIfInBounds_toArray, List.set_cons_zero, List.set_cons_succ, i64_w, i32_w]; rfl) ?_
  refine tk_ 4 (some 18) (m_ 12 255) rfl rfl (by kernel_rfl) (fun _ _ _ h => h) (by rfl) (by rintro w' ⟨s0, s1⟩; go_simp; with_reducible rfl) hHeld (by simp only [Act.put, List.setIfInBounds_toArray, List.set_cons_zero, List.set_cons_succ, i64_w, i32_w]; rfl) ?_
  refine tk_ 8 (some 22) (m_ 12 511) rfl rfl (by kernel_rfl) (fun _ _ _ h => h) (by rfl) (by rintro w' ⟨s0, s1⟩; go_simp; with_reducible rfl) hHeld (by simp only [Act.put, List.setIfInBounds_toArray, List.set_cons_zero, List.set_cons_succ, i64_w, i32_w]; rfl) ?_
  refine pu_ 9 (some 23) (m_ 12 1023) rfl rfl (by kernel_rfl) (fun _ _ _ h => h) (by rfl) (by intro w'; go_simp; with_reducible rfl) (by simp only [Act.put, List.setIfInBounds_toArray, List.set_cons_zero, List.set_cons_succ, i64_w, i32_w]; rfl) ?_
  refine pu_ 10 (some 24) (m_ 12 2047) rfl rfl (by kernel_rfl) (fun _ _ _ h => h) (by rfl) (by intro w'; go_simp; with_reducible rfl) (by simp only [Act.put, List.setIfInBounds_toArray, List.set_cons_zero, List.set_cons_succ, i64_w, i32_w]; rfl) ?_
  refine pu_ 11 (some 13) (m_ 12 4095) rfl rfl (by kernel_rfl) (fun _ _ _ h => h) (by rfl) (by intro w'; go_simp; with_reducible rfl) (by simp only [Act.put, List.setIfInBounds_toArray, List.set_cons_zero, List.set_cons_succ, i64_w, i32_w]; rfl) ?_
  refine done_ (by kernel_rfl) ?_
  clear hHeld
  go_wp2
  refine start_ (n := 8) (S := fun w' => w'.cell? ⟨b, 1, none⟩ = some (.slice A0 x.names.length cp0) ∧ w'.cell? ⟨w.heap.size, 0, none⟩ = some (.string t0)) (ds := []) (m_ 8 0) (by kernel_rfl) rfl (by kernel_rfl) ⟨d1, e0⟩ (fun hHeld => ?_)
  refine pu_ 0 (some 27) (m_ 8 1) rfl rfl (by kernel_rfl) (fun _ _ _ h => h) (by rfl) (by intro w'; go_simp; with_reducible rfl) (by simp only [Act.put, List.setIfInBounds_toArray, List.set_cons_zero, List.set_cons_succ, i64_w, i32_w]; rfl) ?_
  refine pu_ 1 (some 28) (m_ 8 3) rfl rfl (by kernel_rfl) (fun _ _ _ h => h) (by rfl) (by intro w'; go_simp; with_reducible rfl) (by simp only [Act.put, List.setIfInBounds_toArray, List.set_cons_zero, List.set_cons_succ, i64_w, i32_w]; rfl) ?_
  refine pu_ 2 (some 29) (m_ 8 7) rfl rfl (by kernel_rfl) (fun _ _ _ h => h) (by rfl) (by intro w'; go_simp; with_reducible rfl) (by simp only [Act.put, List.setIfInBounds_toArray, List.set_cons_zero, List.set_cons_succ, i64_w, i32_w]; rfl) ?_
  refine pu_ 4 (some 31) (m_ 8 23) rfl rfl (by kernel_rfl) (fun _ _ _ h => h) (by rfl) (by intro w'; go_simp; with_reducible rfl) (by simp only [Act.put, List.setIfInBounds_toArray, List.set_cons_zero, List.set_cons_succ, i64_w, i32_w]; rfl) ?_
  refine tk_ 3 (some 30) (m_ 8 31) rfl rfl (by kernel_rfl) (fun _ _ _ h => h) (by rfl) (by rintro w' ⟨s0, s1⟩; go_simp; with_reducible rfl) hHeld (by simp only [Act.put, List.setIfInBounds_toArray, List.set_cons_zero, List.set_cons_succ, i64_w, i32_w]; rfl) ?_
  refine tk_ 5 (some 32) (m_ 8 63) rfl rfl (by kernel_rfl) (fun _ _ _ h => h) (by rfl) (by rintro w' ⟨s0, s1⟩; go_simp; with_reducible rfl) hHeld (by simp only [Act.put, List.setIfInBounds_toArray, List.set_cons_zero, List.set_cons_succ, i64_w, i32_w]; rfl) ?_
  refine one_ (i := 6) (N := some 33) (m_ 8 127) rfl rfl (by kernel_rfl) (by decide) (fun K hK => ?_)
  refine goes_ Try.func35 (by kernel_rfl) rfl #[.slice A0 x.names.length cp0, .string t0] (by rfl) rfl rfl (by simp only [List.map_toArray, List.map_cons, List.map_nil]; rfl) ?_
  with_reducible refine (hco.out).mono ?_
  rintro e w2 ⟨rfl, rfl⟩
  rw [his]
  refine ⟨_, rfl, ?_⟩
  refine hK.out _ _ ⟨d1, e0⟩ (fun hHeld => ?_)
  clear hK K
  refine norm_ (a' := ?_) ?_ ?_
  rotate_left
  · show Act.put _ (some 33) _ = _
    simp only [Act.put, List.setIfInBounds_toArray, List.set_cons_zero, List.set_cons_succ, i64_w, i32_w]
    rfl
  refine pu_ 7 (some 26) (m_ 8 255) rfl rfl (by kernel_rfl) (fun _ _ _ h => h) (by rfl) (by intro w'; go_simp; with_reducible rfl) (by simp only [Act.put, List.setIfInBounds_toArray, List.set_cons_zero, List.set_cons_succ, i64_w, i32_w]; rfl) ?_
  refine done_ (by kernel_rfl) ?_
  clear hHeld e2 d2 d1 e0 hco
  have hr := Lib.hid (show LTu w F w1.drew.drew b x from hl0.out.trans (fun F' hL => LTu.below (w := w) hL hB1.out.drew.drew))
  clear hH1 hblk1 hB1
  go_wp2
  go_ret
  exact ⟨rfl, hr.out⟩
theorem add_full (h : LK w F b x) (ho : OkK x M Q) (t0 : ByteArray) (t1 : Int) (t2 : Bool) (t3 t4 t5 now : Int) (hz : chk ⟨t0, t1, t2, t3, t4, t5⟩ = 0) (hu : t2 = x.up) (hi : (idxN x.names t0).isSome = false) (hf : 8 ≤ x.names.length) :
    Calls Try.prog 19 #[ptr b, .agg #[.string t0, .int .i64 t1, .bool t2, .int .i64 t3, .int .i64 t4, .int .i64 t5], .int .i64 now] w fun e w' => e = .returned (.int .i64 (110)) ∧ LTu w F w' b (x) := by
  obtain ⟨G, c, D, v, h⟩ := h
  have hb0 := (Below.refl w.heap.size w).alloc (Nat.le_refl _) (.cells #[.string t0, .int .i64 t1, .bool t2, .int .i64 t3, .int .i64 t4, .int .i64 t5] 29)
  have hblk0 := Lib.hid (Blk.new w 29 #[.string t0, .int .i64 t1, .bool t2, .int .i64 t3, .int .i64 t4, .int .i64 t5])
  have hH0 := Lib.hid (h.below hb0)
  have hb0' := Lib.hid hb0
  have hck := Lib.hid (fun wy => check_any ⟨t0, t1, t2, t3, t4, t5⟩ wy)
  have hl0 := Lib.hid (LTu.refl h.lk)
  have hvs := h.2.2.2.1.sr
  obtain ⟨A0, cp0, hv, _⟩ := hvs
  subst hv
  have tu : (t2 != x.up) = false := by rw [hu]; simp
  have tu2 : (t2 == x.up) = true := by rw [hu]; simp
  rw [hz] at hck
  have hnl : x.names.length ≤ 8 := by have := ho.n; have := ho.c.ten; omega
  have ho' := Lib.hid ho
  have his := hi
  have tf : decide ((8 : Int) ≤ (x.names.length : Int)) = true := decide_eq_true (by omega)
  clear h hb0 ho hz hu hi
  go_enter Try.func19, Try.ntmps19
  go_wp2_with fail
  refine (hck.out _).mono ?_
  rintro e w1 ⟨rfl, hB⟩
  have hB1 := Lib.hid (bw_below hb0'.out hB)
  have hblk1 := Lib.hid (hblk0.out.below hB)
  have hH1 := Lib.hid (hH0.out.below hB)
  clear hB hb0' hblk0 hH0 hck
  have e2 : w1.cell? ⟨w.heap.size, 2, none⟩ = some (.bool t2) := (hblk1.out.cell 2).trans rfl
  have d2 : w1.cell? ⟨b, 2, none⟩ = some (.bool x.up) := (hH1.out.cell 2).trans rfl
  have d1 : w1.cell? ⟨b, 1, none⟩ = some (.slice A0 x.names.length cp0) := (hH1.out.cell 1).trans rfl
  have e0 : w1.cell? ⟨w.heap.size, 0, none⟩ = some (.string t0) := (hblk1.out.cell 0).trans rfl
  have hco := Lib.hid (contains_any w1.drew.drew (.slice A0 x.names.length cp0) x.names t0 (show SR w1.drew.drew _ _ from (hH1.out.2.2.2.1).sr) (by omega))
  go_wp2
  refine start_ (n := 12) (S := fun w' => w'.cell? ⟨w.heap.size, 2, none⟩ = some (.bool t2) ∧ w'.cell? ⟨b, 2, none⟩ = some (.bool x.up)) (ds := []) (m_ 12 0) (by kernel_rfl) rfl (by kernel_rfl) ⟨e2, d2⟩ (fun hHeld => ?_)
  refine pu_ 0 (some 14) (m_ 12 1) rfl rfl (by kernel_rfl) (fun _ _ _ h => h) (by rfl) (by intro w'; go_simp; with_reducible rfl) (by simp only [Act.put, List.setIfInBounds_toArray, List.set_cons_zero, List.set_cons_succ, i64_w, i32_w]; rfl) ?_
  refine pu_ 1 (some 15) (m_ 12 3) rfl rfl (by kernel_rfl) (fun _ _ _ h => h) (by rfl) (by intro w'; go_simp; with_reducible rfl) (by simp only [Act.put, List.setIfInBounds_toArray, List.set_cons_zero, List.set_cons_succ, i64_w, i32_w]; rfl) ?_
  refine pu_ 2 (some 16) (m_ 12 7) rfl rfl (by kernel_rfl) (fun _ _ _ h => h) (by rfl) (by intro w'; go_simp; with_reducible rfl) (by simp only [Act.put, List.setIfInBounds_toArray, List.set_cons_zero, List.set_cons_succ, i64_w, i32_w]; rfl) ?_
  refine pu_ 3 (some 17) (m_ 12 15) rfl rfl (by kernel_rfl) (fun _ _ _ h => h) (by rfl) (by intro w'; go_simp; with_reducible rfl) (by simp only [Act.put, List.setIfInBounds_toArray, List.set_cons_zero, List.set_cons_succ, i64_w, i32_w]; rfl) ?_
  refine pu_ 5 (some 19) (m_ 12 47) rfl rfl (by kernel_rfl) (fun _ _ _ h => h) (by rfl) (by intro w'; go_simp; with_reducible rfl) (by simp only [Act.put, List.setIfInBounds_toArray, List.set_cons_zero, List.set_cons_succ, i64_w, i32_w]; rfl) ?_
  refine pu_ 6 (some 20) (m_ 12 111) rfl rfl (by kernel_rfl) (fun _ _ _ h => h) (by rfl) (by intro w'; go_simp; with_reducible rfl) (by simp only [Act.put, List.setIfInBounds_toArray, List.set_cons_zero, List.set_cons_succ, i64_w, i32_w]; rfl) ?_
  refine pu_ 7 (some 21) (m_ 12 239) rfl rfl (by kernel_rfl) (fun _ _ _ h => h) (by rfl) (by intro w'; go_simp; with_reducible rfl) (by simp only [Act.put, List.setIfInBounds_toArray, List.set_cons_zero, List.set_cons_succ, i64_w, i32_w]; rfl) ?_
  refine tk_ 4 (some 18) (m_ 12 255) rfl rfl (by kernel_rfl) (fun _ _ _ h => h) (by rfl) (by rintro w' ⟨s0, s1⟩; go_simp; with_reducible rfl) hHeld (by simp only [Act.put, List.setIfInBounds_toArray, List.set_cons_zero, List.set_cons_succ, i64_w, i32_w]; rfl) ?_
  refine tk_ 8 (some 22) (m_ 12 511) rfl rfl (by kernel_rfl) (fun _ _ _ h => h) (by rfl) (by rintro w' ⟨s0, s1⟩; go_simp; with_reducible rfl) hHeld (by simp only [Act.put, List.setIfInBounds_toArray, List.set_cons_zero, List.set_cons_succ, i64_w, i32_w]; rfl) ?_
  refine pu_ 9 (some 23) (m_ 12 1023) rfl rfl (by kernel_rfl) (fun _ _ _ h => h) (by rfl) (by intro w'; go_simp; with_reducible rfl) (by simp only [Act.put, List.setIfInBounds_toArray, List.set_cons_zero, List.set_cons_succ, i64_w, i32_w]; rfl) ?_
  refine pu_ 10 (some 24) (m_ 12 2047) rfl rfl (by kernel_rfl) (fun _ _ _ h => h) (by rfl) (by intro w'; go_simp; with_reducible rfl) (by simp only [Act.put, List.setIfInBounds_toArray, List.set_cons_zero, List.set_cons_succ, i64_w, i32_w]; rfl) ?_
  refine pu_ 11 (some 13) (m_ 12 4095) rfl rfl (by kernel_rfl) (fun _ _ _ h => h) (by rfl) (by intro w'; go_simp; with_reducible rfl) (by simp only [Act.put, List.setIfInBounds_toArray, List.set_cons_zero, List.set_cons_succ, i64_w, i32_w]; rfl) ?_
  refine done_ (by kernel_rfl) ?_
  clear hHeld
  go_wp2
  refine start_ (n := 8) (S := fun w' => w'.cell? ⟨b, 1, none⟩ = some (.slice A0 x.names.length cp0) ∧ w'.cell? ⟨w.heap.size, 0, none⟩ = some (.string t0)) (ds := []) (m_ 8 0) (by kernel_rfl) rfl (by kernel_rfl) ⟨d1, e0⟩ (fun hHeld => ?_)
  refine pu_ 0 (some 27) (m_ 8 1) rfl rfl (by kernel_rfl) (fun _ _ _ h => h) (by rfl) (by intro w'; go_simp; with_reducible rfl) (by simp only [Act.put, List.setIfInBounds_toArray, List.set_cons_zero, List.set_cons_succ, i64_w, i32_w]; rfl) ?_
  refine pu_ 1 (some 28) (m_ 8 3) rfl rfl (by kernel_rfl) (fun _ _ _ h => h) (by rfl) (by intro w'; go_simp; with_reducible rfl) (by simp only [Act.put, List.setIfInBounds_toArray, List.set_cons_zero, List.set_cons_succ, i64_w, i32_w]; rfl) ?_
  refine pu_ 2 (some 29) (m_ 8 7) rfl rfl (by kernel_rfl) (fun _ _ _ h => h) (by rfl) (by intro w'; go_simp; with_reducible rfl) (by simp only [Act.put, List.setIfInBounds_toArray, List.set_cons_zero, List.set_cons_succ, i64_w, i32_w]; rfl) ?_
  refine pu_ 4 (some 31) (m_ 8 23) rfl rfl (by kernel_rfl) (fun _ _ _ h => h) (by rfl) (by intro w'; go_simp; with_reducible rfl) (by simp only [Act.put, List.setIfInBounds_toArray, List.set_cons_zero, List.set_cons_succ, i64_w, i32_w]; rfl) ?_
  refine tk_ 3 (some 30) (m_ 8 31) rfl rfl (by kernel_rfl) (fun _ _ _ h => h) (by rfl) (by rintro w' ⟨s0, s1⟩; go_simp; with_reducible rfl) hHeld (by simp only [Act.put, List.setIfInBounds_toArray, List.set_cons_zero, List.set_cons_succ, i64_w, i32_w]; rfl) ?_
  refine tk_ 5 (some 32) (m_ 8 63) rfl rfl (by kernel_rfl) (fun _ _ _ h => h) (by rfl) (by rintro w' ⟨s0, s1⟩; go_simp; with_reducible rfl) hHeld (by simp only [Act.put, List.setIfInBounds_toArray, List.set_cons_zero, List.set_cons_succ, i64_w, i32_w]; rfl) ?_
  refine one_ (i := 6) (N := some 33) (m_ 8 127) rfl rfl (by kernel_rfl) (by decide) (fun K hK => ?_)
  refine goes_ Try.func35 (by kernel_rfl) rfl #[.slice A0 x.names.length cp0, .string t0] (by rfl) rfl rfl (by simp only [List.map_toArray, List.map_cons, List.map_nil]; rfl) ?_
  with_reducible refine (hco.out).mono ?_
  rintro e w2 ⟨rfl, rfl⟩
  rw [his]
  refine ⟨_, rfl, ?_⟩
  refine hK.out _ _ ⟨d1, e0⟩ (fun hHeld => ?_)
  clear hK K
  refine norm_ (a' := ?_) ?_ ?_
  rotate_left
  · show Act.put _ (some 33) _ = _
    simp only [Act.put, List.setIfInBounds_toArray, List.set_cons_zero, List.set_cons_succ, i64_w, i32_w]
    rfl
  refine pu_ 7 (some 26) (m_ 8 255) rfl rfl (by kernel_rfl) (fun _ _ _ h => h) (by rfl) (by intro w'; go_simp; with_reducible rfl) (by simp only [Act.put, List.setIfInBounds_toArray, List.set_cons_zero, List.set_cons_succ, i64_w, i32_w]; rfl) ?_
  refine done_ (by kernel_rfl) ?_
  clear hHeld e2 d2 e0 hco
  have hr := Lib.hid (show LTu w F w1.drew.drew b x from hl0.out.trans (fun F' hL => LTu.below (w := w) hL hB1.out.drew.drew))
  clear hH1 hblk1 hB1
  go_wp2
  go_ret
  exact ⟨rfl, hr.out⟩
theorem LKG.drew {G : Nat → Prop} {c : Nat} {D : Lay} {v : Value} (h : LKG w F b x G c D v) : LKG w.drew F b x G c D v := h.below (Below.refl _ _).drew
theorem drawn_w (n : Int) (h0 : 0 ≤ n) (h1 : n ≤ 1000000000) : IntKind.u64.wrap n = n ∧ wrap64 (n + 1) = n + 1 := by
  constructor
  · rw [IntKind.wrap_u64]; omega
  · unfold wrap64; omega
theorem nums_one (w : World) (n : Int) (h0 : 0 ≤ n) (h1 : n ≤ 1000000000) : Ref02.Nums .u64 (w.alloc (.cells #[.int .u64 n] 23)) (.slice (some ⟨w.heap.size, 0, none⟩) 1 1) [n] := by
  refine ⟨_, 1, 1, rfl, rfl, (by show (1 : Nat) ≤ 9223372036854775807; decide), fun y hy => ?_, fun _ => ⟨w.heap.size, 0, rfl, fun j y hj => ?_⟩, fun e => by cases e⟩
  · rw [List.mem_singleton.1 hy]
    unfold Lit.wf
    rw [Bool.and_eq_true, decide_eq_true_eq, decide_eq_true_eq]
    have e1 : IntKind.u64.min = 0 := by decide
    have e2 : IntKind.u64.max = 18446744073709551615 := by decide
    rw [e1, e2]
    omega
  · rw [Nat.zero_add]
    rcases j with _ | j
    · cases hj
      exact (Blk.new w 23 #[.int .u64 n]).cell 0
    · simp at hj
theorem own_slice {base : Nat} {e : TypeId} {size : Nat} {v : Value} {n : Nat} {xs : List Value} (h : w.ownsRow base e size v n xs) : ∃ A c, v = .slice A n c := by
  rcases h.2 with ⟨rfl, h0⟩ | ⟨g, cap, cur, rfl, _⟩
  · exact ⟨none, 0, by rw [h0]⟩
  · exact ⟨_, cap, rfl⟩
theorem grow_b {G : Nat → Prop} {c : Nat} {D : Lay} {v : Value} {w8 : World} {o : Obj} (h : LKG w F b x G c D v) (hg : (w.alloc o).grownBy w8 v.ownBlock) : w8.heap[b]? = w.heap[b]? := by
  have hb := h.1
  refine (hg.block b (by simp; have := hb.lt; omega) (fun e => ?_)).trans (Below.heap_alloc w o b hb.lt)
  obtain ⟨cs, hvb⟩ := h.2.2.2.1.typed e.symm
  exact absurd (hb.ty hvb) (by decide)
theorem frozen_of_block {w8 : World} {i : Nat} (h : w8.heap[b]? = w.heap[b]?) : w8.frozen? ⟨b, i, none⟩ = w.frozen? ⟨b, i, none⟩ := by
  simp [World.frozen?, h]
set_option maxHeartbeats 2000000 in
theorem add_in (h : LK w F b x) (ho : OkK x M Q) (t0 : ByteArray) (t1 : Int) (t2 : Bool) (t3 t4 t5 now : Int) (hz : chk ⟨t0, t1, t2, t3, t4, t5⟩ = 0) (hu : t2 = x.up) (hi : (idxN x.names t0).isSome = false) (hf : x.names.length < 8) :
    Calls Try.prog 19 #[ptr b, .agg #[.string t0, .int .i64 t1, .bool t2, .int .i64 t3, .int .i64 t4, .int .i64 t5], .int .i64 now] w fun e w' => e = .returned (.int .i64 (0)) ∧ LTu w F w' b (addK x ⟨t0, t1, t2, t3, t4, t5⟩ now) := by
  obtain ⟨G, c, D, v, h⟩ := h
  have hb0 := (Below.refl w.heap.size w).alloc (Nat.le_refl _) (.cells #[.string t0, .int .i64 t1, .bool t2, .int .i64 t3, .int .i64 t4, .int .i64 t5] 29)
  have hblk0 := Lib.hid (Blk.new w 29 #[.string t0, .int .i64 t1, .bool t2, .int .i64 t3, .int .i64 t4, .int .i64 t5])
  have hH0 := Lib.hid (h.below hb0)
  have hb0' := Lib.hid hb0
  have hck := Lib.hid (fun wy => check_any ⟨t0, t1, t2, t3, t4, t5⟩ wy)
  have hl0 := Lib.hid (LTu.refl h.lk)
  have hvs := h.2.2.2.1.sr
  obtain ⟨A0, cp0, hv, _⟩ := hvs
  subst hv
  have tu : (t2 != x.up) = false := by rw [hu]; simp
  have tu2 : (t2 == x.up) = true := by rw [hu]; simp
  rw [hz] at hck
  have hnl : x.names.length ≤ 8 := by have := ho.n; have := ho.c.ten; omega
  have ho' := Lib.hid ho
  have his := hi
  have tf : decide ((8 : Int) ≤ (x.names.length : Int)) = false := decide_eq_false (by omega)
  have hdw := Lib.hid (drawn_w x.drawn ho.d0 ho.d1)
  have hoc := Lib.hid ho.c
  have hadds : addsB x ⟨t0, t1, t2, t3, t4, t5⟩ = true := by
    unfold addsB
    rw [decide_eq_true (show chk ⟨t0, t1, t2, t3, t4, t5⟩ = 0 ∧ t2 = x.up from ⟨hz, hu⟩), hi, decide_eq_true hf]
    rfl
  have hadd : Hid (∀ T, drawK x ⟨t0, t1, t2, t3, t4, t5⟩ = T → addK x ⟨t0, t1, t2, t3, t4, t5⟩ now = { x with c := insC x.c x.names.length T (Ref02.stepI (dieK x)) now, names := x.names ++ [t0], drawn := x.drawn + 1 }) := Lib.hid (fun T e => by unfold addK; rw [if_pos hadds, e])
  have hstr0 := Lib.hid (fun (wy : World) => Dice.stream_any x.seed (.slice (some ⟨wy.heap.size, 0, none⟩) 1 1) [x.drawn] (wy.alloc (.cells #[.int .u64 x.drawn] 23)).drew ho.s0 ho.s1 ((nums_one wy x.drawn ho.d0 ho.d1).below (Below.refl _ _).drew))
  clear h hb0 ho hz hu hi hadds
  go_enter Try.func19, Try.ntmps19
  go_wp2_with fail
  refine (hck.out _).mono ?_
  rintro e w1 ⟨rfl, hB⟩
  have hB1 := Lib.hid (bw_below hb0'.out hB)
  have hblk1 := Lib.hid (hblk0.out.below hB)
  have hH1 := Lib.hid (hH0.out.below hB)
  clear hB hb0' hblk0 hH0 hck
  have e2 : w1.cell? ⟨w.heap.size, 2, none⟩ = some (.bool t2) := (hblk1.out.cell 2).trans rfl
  have d2 : w1.cell? ⟨b, 2, none⟩ = some (.bool x.up) := (hH1.out.cell 2).trans rfl
  have d1 : w1.cell? ⟨b, 1, none⟩ = some (.slice A0 x.names.length cp0) := (hH1.out.cell 1).trans rfl
  have e0 : w1.cell? ⟨w.heap.size, 0, none⟩ = some (.string t0) := (hblk1.out.cell 0).trans rfl
  have hco := Lib.hid (contains_any w1.drew.drew (.slice A0 x.names.length cp0) x.names t0 (show SR w1.drew.drew _ _ from (hH1.out.2.2.2.1).sr) (by omega))
  go_wp2
  refine start_ (n := 12) (S := fun w' => w'.cell? ⟨w.heap.size, 2, none⟩ = some (.bool t2) ∧ w'.cell? ⟨b, 2, none⟩ = some (.bool x.up)) (ds := []) (m_ 12 0) (by kernel_rfl) rfl (by kernel_rfl) ⟨e2, d2⟩ (fun hHeld => ?_)
  refine pu_ 0 (some 14) (m_ 12 1) rfl rfl (by kernel_rfl) (fun _ _ _ h => h) (by rfl) (by intro w'; go_simp; with_reducible rfl) (by simp only [Act.put, List.setIfInBounds_toArray, List.set_cons_zero, List.set_cons_succ, i64_w, i32_w]; rfl) ?_
  refine pu_ 1 (some 15) (m_ 12 3) rfl rfl (by kernel_rfl) (fun _ _ _ h => h) (by rfl) (by intro w'; go_simp; with_reducible rfl) (by simp only [Act.put, List.setIfInBounds_toArray, List.set_cons_zero, List.set_cons_succ, i64_w, i32_w]; rfl) ?_
  refine pu_ 2 (some 16) (m_ 12 7) rfl rfl (by kernel_rfl) (fun _ _ _ h => h) (by rfl) (by intro w'; go_simp; with_reducible rfl) (by simp only [Act.put, List.setIfInBounds_toArray, List.set_cons_zero, List.set_cons_succ, i64_w, i32_w]; rfl) ?_
  refine pu_ 3 (some 17) (m_ 12 15) rfl rfl (by kernel_rfl) (fun _ _ _ h => h) (by rfl) (by intro w'; go_simp; with_reducible rfl) (by simp only [Act.put, List.setIfInBounds_toArray, List.set_cons_zero, List.set_cons_succ, i64_w, i32_w]; rfl) ?_
  refine pu_ 5 (some 19) (m_ 12 47) rfl rfl (by kernel_rfl) (fun _ _ _ h => h) (by rfl) (by intro w'; go_simp; with_reducible rfl) (by simp only [Act.put, List.setIfInBounds_toArray, List.set_cons_zero, List.set_cons_succ, i64_w, i32_w]; rfl) ?_
  refine pu_ 6 (some 20) (m_ 12 111) rfl rfl (by kernel_rfl) (fun _ _ _ h => h) (by rfl) (by intro w'; go_simp; with_reducible rfl) (by simp only [Act.put, List.setIfInBounds_toArray, List.set_cons_zero, List.set_cons_succ, i64_w, i32_w]; rfl) ?_
  refine pu_ 7 (some 21) (m_ 12 239) rfl rfl (by kernel_rfl) (fun _ _ _ h => h) (by rfl) (by intro w'; go_simp; with_reducible rfl) (by simp only [Act.put, List.setIfInBounds_toArray, List.set_cons_zero, List.set_cons_succ, i64_w, i32_w]; rfl) ?_
  refine tk_ 4 (some 18) (m_ 12 255) rfl rfl (by kernel_rfl) (fun _ _ _ h => h) (by rfl) (by rintro w' ⟨s0, s1⟩; go_simp; with_reducible rfl) hHeld (by simp only [Act.put, List.setIfInBounds_toArray, List.set_cons_zero, List.set_cons_succ, i64_w, i32_w]; rfl) ?_
  refine tk_ 8 (some 22) (m_ 12 511) rfl rfl (by kernel_rfl) (fun _ _ _ h => h) (by rfl) (by rintro w' ⟨s0, s1⟩; go_simp; with_reducible rfl) hHeld (by simp only [Act.put, List.setIfInBounds_toArray, List.set_cons_zero, List.set_cons_succ, i64_w, i32_w]; rfl) ?_
  refine pu_ 9 (some 23) (m_ 12 1023) rfl rfl (by kernel_rfl) (fun _ _ _ h => h) (by rfl) (by intro w'; go_simp; with_reducible rfl) (by simp only [Act.put, List.setIfInBounds_toArray, List.set_cons_zero, List.set_cons_succ, i64_w, i32_w]; rfl) ?_
  refine pu_ 10 (some 24) (m_ 12 2047) rfl rfl (by kernel_rfl) (fun _ _ _ h => h) (by rfl) (by intro w'; go_simp; with_reducible rfl) (by simp only [Act.put, List.setIfInBounds_toArray, List.set_cons_zero, List.set_cons_succ, i64_w, i32_w]; rfl) ?_
  refine pu_ 11 (some 13) (m_ 12 4095) rfl rfl (by kernel_rfl) (fun _ _ _ h => h) (by rfl) (by intro w'; go_simp; with_reducible rfl) (by simp only [Act.put, List.setIfInBounds_toArray, List.set_cons_zero, List.set_cons_succ, i64_w, i32_w]; rfl) ?_
  refine done_ (by kernel_rfl) ?_
  clear hHeld
  go_wp2
  refine start_ (n := 8) (S := fun w' => w'.cell? ⟨b, 1, none⟩ = some (.slice A0 x.names.length cp0) ∧ w'.cell? ⟨w.heap.size, 0, none⟩ = some (.string t0)) (ds := []) (m_ 8 0) (by kernel_rfl) rfl (by kernel_rfl) ⟨d1, e0⟩ (fun hHeld => ?_)
  refine pu_ 0 (some 27) (m_ 8 1) rfl rfl (by kernel_rfl) (fun _ _ _ h => h) (by rfl) (by intro w'; go_simp; with_reducible rfl) (by simp only [Act.put, List.setIfInBounds_toArray, List.set_cons_zero, List.set_cons_succ, i64_w, i32_w]; rfl) ?_
  refine pu_ 1 (some 28) (m_ 8 3) rfl rfl (by kernel_rfl) (fun _ _ _ h => h) (by rfl) (by intro w'; go_simp; with_reducible rfl) (by simp only [Act.put, List.setIfInBounds_toArray, List.set_cons_zero, List.set_cons_succ, i64_w, i32_w]; rfl) ?_
  refine pu_ 2 (some 29) (m_ 8 7) rfl rfl (by kernel_rfl) (fun _ _ _ h => h) (by rfl) (by intro w'; go_simp; with_reducible rfl) (by simp only [Act.put, List.setIfInBounds_toArray, List.set_cons_zero, List.set_cons_succ, i64_w, i32_w]; rfl) ?_
  refine pu_ 4 (some 31) (m_ 8 23) rfl rfl (by kernel_rfl) (fun _ _ _ h => h) (by rfl) (by intro w'; go_simp; with_reducible rfl) (by simp only [Act.put, List.setIfInBounds_toArray, List.set_cons_zero, List.set_cons_succ, i64_w, i32_w]; rfl) ?_
  refine tk_ 3 (some 30) (m_ 8 31) rfl rfl (by kernel_rfl) (fun _ _ _ h => h) (by rfl) (by rintro w' ⟨s0, s1⟩; go_simp; with_reducible rfl) hHeld (by simp only [Act.put, List.setIfInBounds_toArray, List.set_cons_zero, List.set_cons_succ, i64_w, i32_w]; rfl) ?_
  refine tk_ 5 (some 32) (m_ 8 63) rfl rfl (by kernel_rfl) (fun _ _ _ h => h) (by rfl) (by rintro w' ⟨s0, s1⟩; go_simp; with_reducible rfl) hHeld (by simp only [Act.put, List.setIfInBounds_toArray, List.set_cons_zero, List.set_cons_succ, i64_w, i32_w]; rfl) ?_
  refine one_ (i := 6) (N := some 33) (m_ 8 127) rfl rfl (by kernel_rfl) (by decide) (fun K hK => ?_)
  refine goes_ Try.func35 (by kernel_rfl) rfl #[.slice A0 x.names.length cp0, .string t0] (by rfl) rfl rfl (by simp only [List.map_toArray, List.map_cons, List.map_nil]; rfl) ?_
  with_reducible refine (hco.out).mono ?_
  rintro e w2 ⟨rfl, rfl⟩
  rw [his]
  refine ⟨_, rfl, ?_⟩
  refine hK.out _ _ ⟨d1, e0⟩ (fun hHeld => ?_)
  clear hK K
  refine norm_ (a' := ?_) ?_ ?_
  rotate_left
  · show Act.put _ (some 33) _ = _
    simp only [Act.put, List.setIfInBounds_toArray, List.set_cons_zero, List.set_cons_succ, i64_w, i32_w]
    rfl
  refine pu_ 7 (some 26) (m_ 8 255) rfl rfl (by kernel_rfl) (fun _ _ _ h => h) (by rfl) (by intro w'; go_simp; with_reducible rfl) (by simp only [Act.put, List.setIfInBounds_toArray, List.set_cons_zero, List.set_cons_succ, i64_w, i32_w]; rfl) ?_
  refine done_ (by kernel_rfl) ?_
  clear hHeld e2 d2 e0 hco
  have hB2 := Lib.hid (show Below w.heap.size w w1.drew.drew from hB1.out.drew.drew)
  have H2 := Lib.hid (hH1.out.drew.drew)
  have hq2 := Lib.hid (hblk1.out.below ((Below.refl _ _).drew.drew))
  clear hB1 hH1 hblk1 d1
  generalize w1.drew.drew = W1 at *
  have d1 : W1.cell? ⟨b, 1, none⟩ = some (.slice A0 x.names.length cp0) := (H2.out.cell 1).trans rfl
  have k3 : W1.cell? ⟨b, 3, none⟩ = some (.int .u64 x.seed) := (H2.out.cell 3).trans rfl
  have k4 : W1.cell? ⟨b, 4, none⟩ = some (.int .i64 x.drawn) := (H2.out.cell 4).trans rfl
  have k5 : W1.cell? ⟨w.heap.size, 3, none⟩ = some (.int .i64 t3) := (hq2.out.cell 3).trans rfl
  have hcw := hdw.out.1
  have hstr := Lib.hid (hstr0.out W1)
  go_wp2
  refine start_ (n := 19) (S := fun w' => w'.cell? ⟨b, 3, none⟩ = some (.int .u64 x.seed) ∧ w'.cell? ⟨b, 4, none⟩ = some (.int .i64 x.drawn) ∧ w'.cell? ⟨w.heap.size, 3, none⟩ = some (.int .i64 t3)) (ds := []) (m_ 19 0) (by kernel_rfl) rfl (by kernel_rfl) ⟨k3, k4, k5⟩ (fun hHeld => ?_)
  refine pu_ 0 (some 42) (m_ 19 1) rfl rfl (by kernel_rfl) (fun _ _ _ h => h) (by rfl) (by intro w'; go_simp; with_reducible rfl) (by simp only [Act.put, List.setIfInBounds_toArray, List.set_cons_zero, List.set_cons_succ, i64_w, i32_w]; rfl) ?_
  refine pu_ 1 (some 43) (m_ 19 3) rfl rfl (by kernel_rfl) (fun _ _ _ h => h) (by rfl) (by intro w'; go_simp; with_reducible rfl) (by simp only [Act.put, List.setIfInBounds_toArray, List.set_cons_zero, List.set_cons_succ, i64_w, i32_w]; rfl) ?_
  refine pu_ 2 (some 44) (m_ 19 7) rfl rfl (by kernel_rfl) (fun _ _ _ h => h) (by rfl) (by intro w'; go_simp; with_reducible rfl) (by simp only [Act.put, List.setIfInBounds_toArray, List.set_cons_zero, List.set_cons_succ, i64_w, i32_w]; rfl) ?_
  refine pu_ 4 (some 46) (m_ 19 23) rfl rfl (by kernel_rfl) (fun _ _ _ h => h) (by rfl) (by intro w'; go_simp; with_reducible rfl) (by simp only [Act.put, List.setIfInBounds_toArray, List.set_cons_zero, List.set_cons_succ, i64_w, i32_w]; rfl) ?_
  refine pu_ 5 (some 47) (m_ 19 55) rfl rfl (by kernel_rfl) (fun _ _ _ h => h) (by rfl) (by intro w'; go_simp; with_reducible rfl) (by simp only [Act.put, List.setIfInBounds_toArray, List.set_cons_zero, List.set_cons_succ, i64_w, i32_w]; rfl) ?_
  refine pu_ 6 (some 48) (m_ 19 119) rfl rfl (by kernel_rfl) (fun _ _ _ h => h) (by rfl) (by intro w'; go_simp; with_reducible rfl) (by simp only [Act.put, List.setIfInBounds_toArray, List.set_cons_zero, List.set_cons_succ, i64_w, i32_w]; rfl) ?_
  refine pu_ 11 (some 53) (m_ 19 2167) rfl rfl (by kernel_rfl) (fun _ _ _ h => h) (by rfl) (by intro w'; go_simp; with_reducible rfl) (by simp only [Act.put, List.setIfInBounds_toArray, List.set_cons_zero, List.set_cons_succ, i64_w, i32_w]; rfl) ?_
  refine tk_ 3 (some 45) (m_ 19 2175) rfl rfl (by kernel_rfl) (fun _ _ _ h => h) (by rfl) (by rintro w' ⟨s0, s1, s2⟩; go_simp; with_reducible rfl) hHeld (by simp only [Act.put, List.setIfInBounds_toArray, List.set_cons_zero, List.set_cons_succ, i64_w, i32_w]; rfl) ?_
  refine tk_ 7 (some 49) (m_ 19 2303) rfl rfl (by kernel_rfl) (fun _ _ _ h => h) (by rfl) (by rintro w' ⟨s0, s1, s2⟩; go_simp; with_reducible rfl) hHeld (by simp only [Act.put, List.setIfInBounds_toArray, List.set_cons_zero, List.set_cons_succ, i64_w, i32_w]; rfl) ?_
  refine pu_ 8 (some 50) (m_ 19 2559) rfl rfl (by kernel_rfl) (fun _ _ _ h => h) (by rfl) (by intro w'; go_simp; with_reducible rfl) (by simp only [Act.put, List.setIfInBounds_toArray, List.set_cons_zero, List.set_cons_succ, i64_w, i32_w]; rfl) ?_
  refine tk_ 12 (some 54) (m_ 19 6655) rfl rfl (by kernel_rfl) (fun _ _ _ h => h) (by rfl) (by rintro w' ⟨s0, s1, s2⟩; go_simp; with_reducible rfl) hHeld (by simp only [Act.put, List.setIfInBounds_toArray, List.set_cons_zero, List.set_cons_succ, i64_w, i32_w]; rfl) ?_
  refine one_ (i := 9) (N := some 51) (m_ 19 7167) rfl rfl (by kernel_rfl) (by decide) (fun K hK => ?_)
  refine value_ (w1 := ?_) (v := ?_) (by rfl) rfl ?_ ?_
  rotate_left 2
  · go_simp
    constructor
    · rfl
    · rfl
  have j3 := bcells (((Below.refl W1.heap.size W1).alloc (Nat.le_refl _) (.cells #[.int .u64 x.drawn] 23)).drew) k3
  have j4 := bcells (((Below.refl W1.heap.size W1).alloc (Nat.le_refl _) (.cells #[.int .u64 x.drawn] 23)).drew) k4
  have j5 := bcells (((Below.refl W1.heap.size W1).alloc (Nat.le_refl _) (.cells #[.int .u64 x.drawn] 23)).drew) k5
  refine hK.out _ _ ⟨j3, j4, j5⟩ (fun hHeld => ?_)
  clear hK K
  refine norm_ (a' := ?_) ?_ ?_
  rotate_left
  · show Act.put _ (some 51) _ = _
    simp only [Act.put, List.setIfInBounds_toArray, List.set_cons_zero, List.set_cons_succ, i64_w, i32_w]
    rfl
  refine one_ (i := 10) (N := some 52) (m_ 19 8191) rfl rfl (by kernel_rfl) (by decide) (fun K hK => ?_)
  refine goes_ Try.func37 (by kernel_rfl) rfl #[.int .u64 x.seed, .slice (some ⟨W1.heap.size, 0, none⟩) 1 1] (by rfl) rfl rfl (by simp only [List.map_toArray, List.map_cons, List.map_nil]; rfl) ?_
  with_reducible refine (hstr.out).mono ?_
  rintro e w3 ⟨rfl, hB⟩
  have i3 := bcells hB j3
  have i4 := bcells hB j4
  have i5 := bcells hB j5
  have hB3 := Lib.hid ((((Below.refl W1.heap.size W1).alloc (Nat.le_refl _) (.cells #[.int .u64 x.drawn] 23)).drew).trans (hB.mono (by show W1.heap.size ≤ (W1.alloc (.cells #[.int .u64 x.drawn] 23)).heap.size; simp)))
  clear hB j3 j4 j5
  refine ⟨_, rfl, ?_⟩
  refine hK.out _ _ ⟨i3, i4, i5⟩ (fun hHeld => ?_)
  clear hK K
  refine norm_ (a' := ?_) ?_ ?_
  rotate_left
  · show Act.put _ (some 52) _ = _
    simp only [Act.put, List.setIfInBounds_toArray, List.set_cons_zero, List.set_cons_succ, i64_w, i32_w]
    rfl
  refine one_ (i := 13) (N := some 55) (m_ 19 16383) rfl rfl (by kernel_rfl) (by decide) (fun K hK => ?_)
  refine goes_ Try.func36 (by kernel_rfl) rfl #[.int .u64 (Ref02.streamI (Ref02.mixI (Ref02.stepI x.seed)) [x.drawn]), .int .i64 t3] (by rfl) rfl rfl (by simp only [List.map_toArray, List.map_cons, List.map_nil]; rfl) ?_
  with_reducible refine ((Dice.percent_any _ t3 w3)).mono ?_
  rintro e w4 ⟨rfl, rfl⟩
  refine ⟨_, rfl, ?_⟩
  refine hK.out _ _ ⟨i3, i4, i5⟩ (fun hHeld => ?_)
  clear hK K
  refine norm_ (a' := ?_) ?_ ?_
  rotate_left
  · show Act.put _ (some 55) _ = _
    simp only [Act.put, List.setIfInBounds_toArray, List.set_cons_zero, List.set_cons_succ, i64_w, i32_w]
    rfl
  refine pu_ 14 (some 41) (m_ 19 32767) rfl rfl (by kernel_rfl) (fun _ _ _ h => h) (by rfl) (by intro w'; go_simp; with_reducible rfl) (by simp only [Act.put, List.setIfInBounds_toArray, List.set_cons_zero, List.set_cons_succ, i64_w, i32_w]; rfl) ?_
  refine pu_ 15 (some 56) (m_ 19 65535) rfl rfl (by kernel_rfl) (fun _ _ _ h => h) (by rfl) (by intro w'; go_simp; with_reducible rfl) (by simp only [Act.put, List.setIfInBounds_toArray, List.set_cons_zero, List.set_cons_succ, i64_w, i32_w]; rfl) ?_
  refine pu_ 16 (some 57) (m_ 19 131071) rfl rfl (by kernel_rfl) (fun _ _ _ h => h) (by rfl) (by intro w'; go_simp; with_reducible rfl) (by simp only [Act.put, List.setIfInBounds_toArray, List.set_cons_zero, List.set_cons_succ, i64_w, i32_w]; rfl) ?_
  refine pu_ 17 (some 8) (m_ 19 262143) rfl rfl (by kernel_rfl) (fun _ _ _ h => h) (by rfl) (by intro w'; go_simp; with_reducible rfl) (by simp only [Act.put, List.setIfInBounds_toArray, List.set_cons_zero, List.set_cons_succ, i64_w, i32_w]; rfl) ?_
  refine pu_ 18 (some 9) (m_ 19 524287) rfl rfl (by kernel_rfl) (fun _ _ _ h => h) (by rfl) (by intro w'; go_simp; with_reducible rfl) (by simp only [Act.put, List.setIfInBounds_toArray, List.set_cons_zero, List.set_cons_succ, i64_w, i32_w]; rfl) ?_
  refine done_ (by kernel_rfl) ?_
  clear hHeld k3 k4 k5 hstr hstr0 i3 i4 i5 d1
  have H3 := Lib.hid (H2.out.below hB3.out)
  have hq3 := Lib.hid (hq2.out.below hB3.out)
  have hBw := Lib.hid (hB2.out.trans (hB3.out.mono hB2.out.size))
  clear H2 hq2 hB2 hB3 hcw
  have d4 : w3.cell? ⟨b, 4, none⟩ = some (.int .i64 x.drawn) := (H3.out.cell 4).trans rfl
  have f4 := H3.out.free 4
  have u0 : w3.cell? ⟨w.heap.size, 0, none⟩ = some (.string t0) := (hq3.out.cell 0).trans rfl
  have hbne : b ≠ w.heap.size := H3.out.1.ne hq3.out (by decide)
  have hset5 := H3.out.set 4 (.int .i64 (x.drawn + 1)) { x with drawn := x.drawn + 1 } rfl rfl rfl
  have H5 := Lib.hid hset5.1
  have hq5 := Lib.hid (hq3.out.far (p := ⟨b, 4, none⟩) (fun e => hbne e.symm) (.int .i64 (x.drawn + 1)))
  have hD5 := Lib.hid (show Did F w (w3.setCell ⟨b, 4, none⟩ (.int .i64 (x.drawn + 1))) ∧ Stem F F w from by
    obtain ⟨F0, hL0, hd0, hs0⟩ := hl0.out
    exact ⟨(Did.of_below hBw.out).setCell (p := ⟨b, 4, none⟩) (.inl hset5.2) _, Stem.refl _ _⟩)
  have hdw2 := hdw.out.2
  have hdie0 : Hid (Ref02.hiI (Ref02.streamI (Ref02.mixI (Ref02.stepI x.seed)) [x.drawn]) 100 = Ref02.hiI (dieK x) 100) := Lib.hid rfl
  have hst0 : Hid (Ref02.stepI (Ref02.streamI (Ref02.mixI (Ref02.stepI x.seed)) [x.drawn]) = Ref02.stepI (dieK x)) := Lib.hid rfl
  rw [hdie0.out, hst0.out]
  clear H3 hq3 hset5 hBw
  generalize hst : Ref02.stepI (dieK x) = st
  have hst := Lib.hid hst
  by_cases hdie : Ref02.hiI (dieK x) 100 < t3
  · have td : decide (Ref02.hiI (dieK x) 100 < t3) = true := decide_eq_true hdie
    have hdk : Hid (drawK x ⟨t0, t1, t2, t3, t4, t5⟩ = ⟨t0, t1, t2, t3, t4, t5⟩) := Lib.hid (by unfold drawK; rw [if_pos hdie])
    clear hdie
    go_wp2
    have H6 := H5
    have hq6 := hq5
    have hD6 := hD5
    clear H5 hq5 hD5 d4 f4 u0 hdw2
    generalize w3.setCell ⟨b, 4, none⟩ (.int .i64 (x.drawn + 1)) = w6 at *
    have r0 : w6.cell? ⟨b, 0, none⟩ = some (ptr c) := (H6.out.cell 0).trans rfl
    have r1 : w6.cell? ⟨b, 1, none⟩ = some (.slice A0 x.names.length cp0) := (H6.out.cell 1).trans rfl
    have u0 : w6.cell? ⟨w.heap.size, 0, none⟩ = some (.string t0) := (hq6.out.cell 0).trans rfl
    have u1 : w6.cell? ⟨w.heap.size, 1, none⟩ = some (.int .i64 t1) := (hq6.out.cell 1).trans rfl
    have u2 : w6.cell? ⟨w.heap.size, 2, none⟩ = some (.bool t2) := (hq6.out.cell 2).trans rfl
    have u3 : w6.cell? ⟨w.heap.size, 3, none⟩ = some (.int .i64 t3) := (hq6.out.cell 3).trans rfl
    have u4 : w6.cell? ⟨w.heap.size, 4, none⟩ = some (.int .i64 t4) := (hq6.out.cell 4).trans rfl
    have u5 : w6.cell? ⟨w.heap.size, 5, none⟩ = some (.int .i64 t5) := (hq6.out.cell 5).trans rfl
    have hins := Lib.hid (cInsert_any H6.out.drew.2.1 hoc.out H6.out.2.2.1 (x.names.length : Int) ⟨t0, t1, t2, t3, t4, t5⟩ st now)
    have hqb7 := Lib.hid (fun (w7 : World) (hd : Did F w6.drew w7) => Blk.did (w := w6.drew) hq6.out hd (H6.out.lk.off hq6.out (by decide)))
    refine start_ (n := 13) (S := fun w' => w'.cell? ⟨b, 0, none⟩ = some (ptr c) ∧ w'.cell? ⟨b, 1, none⟩ = some (.slice A0 x.names.length cp0) ∧ w'.cell? ⟨w.heap.size, 0, none⟩ = some (.string t0) ∧ w'.cell? ⟨w.heap.size, 1, none⟩ = some (.int .i64 t1) ∧ w'.cell? ⟨w.heap.size, 2, none⟩ = some (.bool t2) ∧ w'.cell? ⟨w.heap.size, 3, none⟩ = some (.int .i64 t3) ∧ w'.cell? ⟨w.heap.size, 4, none⟩ = some (.int .i64 t4) ∧ w'.cell? ⟨w.heap.size, 5, none⟩ = some (.int .i64 t5)) (ds := []) (m_ 13 0) (by kernel_rfl) rfl (by kernel_rfl) ⟨r0, r1, u0, u1, u2, u3, u4, u5⟩ (fun hHeld => ?_)
    refine pu_ 0 (some 70) (m_ 13 1) rfl rfl (by kernel_rfl) (fun _ _ _ h => h) (by rfl) (by intro w'; go_simp; with_reducible rfl) (by simp only [Act.put, List.setIfInBounds_toArray, List.set_cons_zero, List.set_cons_succ, i64_w, i32_w]; rfl) ?_
    refine pu_ 1 (some 71) (m_ 13 3) rfl rfl (by kernel_rfl) (fun _ _ _ h => h) (by rfl) (by intro w'; go_simp; with_reducible rfl) (by simp only [Act.put, List.setIfInBounds_toArray, List.set_cons_zero, List.set_cons_succ, i64_w, i32_w]; rfl) ?_
    refine pu_ 2 (some 72) (m_ 13 7) rfl rfl (by kernel_rfl) (fun _ _ _ h => h) (by rfl) (by intro w'; go_simp; with_reducible rfl) (by simp only [Act.put, List.setIfInBounds_toArray, List.set_cons_zero, List.set_cons_succ, i64_w, i32_w]; rfl) ?_
    refine pu_ 4 (some 74) (m_ 13 23) rfl rfl (by kernel_rfl) (fun _ _ _ h => h) (by rfl) (by intro w'; go_simp; with_reducible rfl) (by simp only [Act.put, List.setIfInBounds_toArray, List.set_cons_zero, List.set_cons_succ, i64_w, i32_w]; rfl) ?_
    refine pu_ 5 (some 75) (m_ 13 55) rfl rfl (by kernel_rfl) (fun _ _ _ h => h) (by rfl) (by intro w'; go_simp; with_reducible rfl) (by simp only [Act.put, List.setIfInBounds_toArray, List.set_cons_zero, List.set_cons_succ, i64_w, i32_w]; rfl) ?_
    refine pu_ 6 (some 76) (m_ 13 119) rfl rfl (by kernel_rfl) (fun _ _ _ h => h) (by rfl) (by intro w'; go_simp; with_reducible rfl) (by simp only [Act.put, List.setIfInBounds_toArray, List.set_cons_zero, List.set_cons_succ, i64_w, i32_w]; rfl) ?_
    refine pu_ 10 (some 80) (m_ 13 1143) rfl rfl (by kernel_rfl) (fun _ _ _ h => h) (by rfl) (by intro w'; go_simp; with_reducible rfl) (by simp only [Act.put, List.setIfInBounds_toArray, List.set_cons_zero, List.set_cons_succ, i64_w, i32_w]; rfl) ?_
    refine pu_ 11 (some 81) (m_ 13 3191) rfl rfl (by kernel_rfl) (fun _ _ _ h => h) (by rfl) (by intro w'; go_simp; with_reducible rfl) (by simp only [Act.put, List.setIfInBounds_toArray, List.set_cons_zero, List.set_cons_succ, i64_w, i32_w]; rfl) ?_
    refine tk_ 3 (some 73) (m_ 13 3199) rfl rfl (by kernel_rfl) (fun _ _ _ h => h) (by rfl) (by rintro w' ⟨s0, s1, s2, s3, s4, s5, s6, s7⟩; go_simp; with_reducible rfl) hHeld (by simp only [Act.put, List.setIfInBounds_toArray, List.set_cons_zero, List.set_cons_succ, i64_w, i32_w]; rfl) ?_
    refine tk_ 7 (some 77) (m_ 13 3327) rfl rfl (by kernel_rfl) (fun _ _ _ h => h) (by rfl) (by rintro w' ⟨s0, s1, s2, s3, s4, s5, s6, s7⟩; go_simp; with_reducible rfl) hHeld (by simp only [Act.put, List.setIfInBounds_toArray, List.set_cons_zero, List.set_cons_succ, i64_w, i32_w]; rfl) ?_
    refine pu_ 8 (some 78) (m_ 13 3583) rfl rfl (by kernel_rfl) (fun _ _ _ h => h) (by rfl) (by intro w'; go_simp; with_reducible rfl) (by simp only [Act.put, List.setIfInBounds_toArray, List.set_cons_zero, List.set_cons_succ, i64_w, i32_w]; rfl) ?_
    refine tk_ 9 (some 79) (m_ 13 4095) rfl rfl (by kernel_rfl) (fun _ _ _ h => h) (by rfl) (by rintro w' ⟨s0, s1, s2, s3, s4, s5, s6, s7⟩; go_simp; with_reducible rfl) hHeld (by simp only [Act.put, List.setIfInBounds_toArray, List.set_cons_zero, List.set_cons_succ, i64_w, i32_w]; rfl) ?_
    refine one_ (i := 12) (N := some 82) (m_ 13 8191) rfl rfl (by kernel_rfl) (by decide) (fun K hK => ?_)
    refine goes_ Try.func38 (by kernel_rfl) rfl #[ptr c, .int .i64 x.names.length, .agg #[.string t0, .int .i64 t1, .bool t2, .int .i64 t3, .int .i64 t4, .int .i64 t5], .int .u64 st, .int .i64 now] (by rfl) rfl rfl (by simp only [List.map_toArray, List.map_cons, List.map_nil]; rfl) ?_
    with_reducible refine (hins.out).mono ?_
    rintro e w7 ⟨rfl, hT⟩
    obtain ⟨F7, G7, D7, h7, hd7, hs7⟩ := H6.out.drew.turn hT
    have r0 : w7.cell? ⟨b, 0, none⟩ = some (ptr c) := (h7.cell 0).trans rfl
    have r1 : w7.cell? ⟨b, 1, none⟩ = some (.slice A0 x.names.length cp0) := (h7.cell 1).trans rfl
    have hq7 := hqb7.out w7 hd7
    have rq0 := (hq7.cell 0).trans rfl
    have rq1 := (hq7.cell 1).trans rfl
    have rq2 := (hq7.cell 2).trans rfl
    have rq3 := (hq7.cell 3).trans rfl
    have rq4 := (hq7.cell 4).trans rfl
    have rq5 := (hq7.cell 5).trans rfl
    simp only [List.getElem?_toArray, List.getElem?_cons_zero, List.getElem?_cons_succ] at rq0 rq1 rq2 rq3 rq4 rq5
    have H7 := Lib.hid h7
    have hDS7 := Lib.hid (And.intro hd7 hs7)
    clear hT h7 hd7 hs7 hq7
    refine ⟨_, rfl, ?_⟩
    refine hK.out _ _ ⟨r0, r1, rq0, rq1, rq2, rq3, rq4, rq5⟩ (fun hHeld => ?_)
    clear hK K
    refine norm_ (a' := ?_) ?_ ?_
    rotate_left
    · show Act.put _ (some 82) _ = _
      simp only [Act.put, List.setIfInBounds_toArray, List.set_cons_zero, List.set_cons_succ, i64_w, i32_w]
      rfl
    refine done_ (by kernel_rfl) ?_
    clear hHeld r0 r1 u0 u1 u2 u3 u4 u5 rq0 rq1 rq2 rq3 rq4 rq5
    have r1 : w7.cell? ⟨b, 1, none⟩ = some (.slice A0 x.names.length cp0) := (H7.out.cell 1).trans rfl
    have hown : w7.ownsRow 0 9 1 (.slice A0 x.names.length cp0) x.names.length (x.names.map Value.string) := (H7.out.2.2.2.1).owns
    have hsz7 : w.heap.size ≤ w7.heap.size := Nat.le_trans hD6.out.1.size hDS7.out.1.size
    obtain ⟨i0, hi1, hz0, hz1, hz2⟩ := info_parts info_st
    go_wp2_with (at_builtin; refine wpList_append_own_at _ rfl _ _ 41 rfl 0 9 i0 (.string ⟨#[]⟩) 1 16 Try.underlying41 hi1 hz0 hz1 hz2 rfl (by decide) _ _ _ rfl (hown.alloc _) ⟨w7.heap.size, 0, none⟩ 1 1 [.string t0] rfl rfl (cell_one_new _ _ _) (by simp [Value.oneCell']) (by unfold maxLen; omega) (by omega) (by omega) ?_; intro v' w8 hO hG _ hat; obtain ⟨A8, c8, rfl⟩ := own_slice hO; have hG' := Lib.hid hG; have hO' := Lib.hid hO; have hat' := Lib.hid hat; have b8 : w8.cell? ⟨b, 1, none⟩ = some (.slice A0 x.names.length cp0) := (World.cell?_of_block (a := ⟨b, 1, none⟩) (grow_b H7.out hG)).trans r1; have fb8 : w8.frozen? ⟨b, 1, none⟩ = false := (frozen_of_block (grow_b H7.out hG)).trans (H7.out.free 1); clear hG hO hat)
    have hD8 : Did (fun j => (Value.slice A0 x.names.length cp0).ownBlock = some j) w7 w8 := (((Did.refl _ w7).alloc _).trans (Stem.refl _ _) (Did.of_grown hG'.out (fun j e => .inl e)))
    have hN8 : NV w8 (.slice A8 (x.names.length + 1) c8) (x.names ++ [t0]) := NV.of_owns (base := 0) (by rw [List.length_append, List.map_append]; exact hO'.out)
    have hset := H7.out.names hD8 hN8 (fun j e => by
      rcases hat'.out with q | q
      · exact .inl (q ▸ e)
      · rw [q] at e
        injection e with e
        exact .inr (by rw [← e]; simp))
    have hr := Lib.hid (show LTu w F (w8.setCell ⟨b, 1, none⟩ (.slice A8 (x.names.length + 1) c8)) b (addK x ⟨t0, t1, t2, t3, t4, t5⟩ now) from by
      rw [hadd.out _ hdk.out, show Ref02.stepI (dieK x) = st from hst.out]
      exact LTu.next hD6.out.1 hD6.out.2 (LTu.next ((Did.refl F w6).drew.trans (Stem.refl _ _) hDS7.out.1) (show Stem F F7 w6 from fun j hj => hDS7.out.2 j hj) ⟨_, hset.1.lk, hset.2.1, hset.2.2⟩))
    clear hset hN8 hD8 hG' hO' hat' H7 hDS7 H6 hD6
    go_ret
    exact ⟨rfl, hr.out⟩
  · have td : decide (Ref02.hiI (dieK x) 100 < t3) = false := decide_eq_false hdie
    have hdk : Hid (drawK x ⟨t0, t1, t2, t3, t4, t5⟩ = ⟨⟨#[]⟩, 0, false, 0, 0, 0⟩) := Lib.hid (by unfold drawK; rw [if_neg hdie]; rfl)
    clear hdie
    have v0 := (hq5.out.cell 0).trans rfl
    have v1 := (hq5.out.cell 1).trans rfl
    have v2 := (hq5.out.cell 2).trans rfl
    have v3 := (hq5.out.cell 3).trans rfl
    have v4 := (hq5.out.cell 4).trans rfl
    have v5 := (hq5.out.cell 5).trans rfl
    simp only [List.getElem?_toArray, List.getElem?_cons_zero, List.getElem?_cons_succ] at v0 v1 v2 v3 v4 v5
    have fv0 := hq5.out.free 0
    have fv1 := hq5.out.free 1
    have fv2 := hq5.out.free 2
    have fv3 := hq5.out.free 3
    have fv4 := hq5.out.free 4
    have fv5 := hq5.out.free 5
    go_upto_region 12 with (fail)
    generalize hw5 : w3.setCell ⟨b, 4, none⟩ (.int .i64 (x.drawn + 1)) = w5 at *
    clear d4 f4 u0 hdw2
    have hb6 := (((((hq5.out.set_ 0 (.string ⟨#[]⟩)).set_ 1 (.int .i64 0)).set_ 2 (.bool false)).set_ 3 (.int .i64 0)).set_ 4 (.int .i64 0)).set_ 5 (.int .i64 0)
    have hq6 := Lib.hid (show Blk _ w.heap.size 29 #[.string ⟨#[]⟩, .int .i64 0, .bool false, .int .i64 0, .int .i64 0, .int .i64 0] from hb6)
    have k1 := H5.out.far hq5.out (by decide) 0 (.string ⟨#[]⟩)
    have b1 := hq5.out.set_ 0 (.string ⟨#[]⟩)
    have k2 := k1.far b1 (by decide) 1 (.int .i64 0)
    have b2 := b1.set_ 1 (.int .i64 0)
    have k3 := k2.far b2 (by decide) 2 (.bool false)
    have b3 := b2.set_ 2 (.bool false)
    have k4 := k3.far b3 (by decide) 3 (.int .i64 0)
    have b4 := b3.set_ 3 (.int .i64 0)
    have k5 := k4.far b4 (by decide) 4 (.int .i64 0)
    have b5 := b4.set_ 4 (.int .i64 0)
    have H6 := Lib.hid (k5.far b5 (by decide) 5 (.int .i64 0))
    have hD6 := Lib.hid (show Did F w _ ∧ Stem F F w from ⟨(((((hD5.out.1.setCell (p := ⟨w.heap.size, 0, none⟩) (.inr (Nat.le_refl _)) (.string ⟨#[]⟩)).setCell (p := ⟨w.heap.size, 1, none⟩) (.inr (Nat.le_refl _)) (.int .i64 0)).setCell (p := ⟨w.heap.size, 2, none⟩) (.inr (Nat.le_refl _)) (.bool false)).setCell (p := ⟨w.heap.size, 3, none⟩) (.inr (Nat.le_refl _)) (.int .i64 0)).setCell (p := ⟨w.heap.size, 4, none⟩) (.inr (Nat.le_refl _)) (.int .i64 0)).setCell (p := ⟨w.heap.size, 5, none⟩) (.inr (Nat.le_refl _)) (.int .i64 0), Stem.refl _ _⟩)
    clear hb6 k1 b1 k2 b2 k3 b3 k4 b4 k5 b5 H5 hq5 hD5
    go_wp2
    clear v0 v1 v2 v3 v4 v5 fv0 fv1 fv2 fv3 fv4 fv5
    generalize (((((w5.setCell ⟨w.heap.size, 0, none⟩ (.string ⟨#[]⟩)).setCell ⟨w.heap.size, 1, none⟩ (.int .i64 0)).setCell ⟨w.heap.size, 2, none⟩ (.bool false)).setCell ⟨w.heap.size, 3, none⟩ (.int .i64 0)).setCell ⟨w.heap.size, 4, none⟩ (.int .i64 0)).setCell ⟨w.heap.size, 5, none⟩ (.int .i64 0) = w6 at *
    have r0 : w6.cell? ⟨b, 0, none⟩ = some (ptr c) := (H6.out.cell 0).trans rfl
    have r1 : w6.cell? ⟨b, 1, none⟩ = some (.slice A0 x.names.length cp0) := (H6.out.cell 1).trans rfl
    have u0 : w6.cell? ⟨w.heap.size, 0, none⟩ = some (.string ⟨#[]⟩) := (hq6.out.cell 0).trans rfl
    have u1 : w6.cell? ⟨w.heap.size, 1, none⟩ = some (.int .i64 0) := (hq6.out.cell 1).trans rfl
    have u2 : w6.cell? ⟨w.heap.size, 2, none⟩ = some (.bool false) := (hq6.out.cell 2).trans rfl
    have u3 : w6.cell? ⟨w.heap.size, 3, none⟩ = some (.int .i64 0) := (hq6.out.cell 3).trans rfl
    have u4 : w6.cell? ⟨w.heap.size, 4, none⟩ = some (.int .i64 0) := (hq6.out.cell 4).trans rfl
    have u5 : w6.cell? ⟨w.heap.size, 5, none⟩ = some (.int .i64 0) := (hq6.out.cell 5).trans rfl
    have hins := Lib.hid (cInsert_any H6.out.drew.2.1 hoc.out H6.out.2.2.1 (x.names.length : Int) ⟨⟨#[]⟩, 0, false, 0, 0, 0⟩ st now)
    have hqb7 := Lib.hid (fun (w7 : World) (hd : Did F w6.drew w7) => Blk.did (w := w6.drew) hq6.out hd (H6.out.lk.off hq6.out (by decide)))
    refine start_ (n := 13) (S := fun w' => w'.cell? ⟨b, 0, none⟩ = some (ptr c) ∧ w'.cell? ⟨b, 1, none⟩ = some (.slice A0 x.names.length cp0) ∧ w'.cell? ⟨w.heap.size, 0, none⟩ = some (.string ⟨#[]⟩) ∧ w'.cell? ⟨w.heap.size, 1, none⟩ = some (.int .i64 0) ∧ w'.cell? ⟨w.heap.size, 2, none⟩ = some (.bool false) ∧ w'.cell? ⟨w.heap.size, 3, none⟩ = some (.int .i64 0) ∧ w'.cell? ⟨w.heap.size, 4, none⟩ = some (.int .i64 0) ∧ w'.cell? ⟨w.heap.size, 5, none⟩ = some (.int .i64 0)) (ds := []) (m_ 13 0) (by kernel_rfl) rfl (by kernel_rfl) ⟨r0, r1, u0, u1, u2, u3, u4, u5⟩ (fun hHeld => ?_)
    refine pu_ 0 (some 70) (m_ 13 1) rfl rfl (by kernel_rfl) (fun _ _ _ h => h) (by rfl) (by intro w'; go_simp; with_reducible rfl) (by simp only [Act.put, List.setIfInBounds_toArray, List.set_cons_zero, List.set_cons_succ, i64_w, i32_w]; rfl) ?_
    refine pu_ 1 (some 71) (m_ 13 3) rfl rfl (by kernel_rfl) (fun _ _ _ h => h) (by rfl) (by intro w'; go_simp; with_reducible rfl) (by simp only [Act.put, List.setIfInBounds_toArray, List.set_cons_zero, List.set_cons_succ, i64_w, i32_w]; rfl) ?_
    refine pu_ 2 (some 72) (m_ 13 7) rfl rfl (by kernel_rfl) (fun _ _ _ h => h) (by rfl) (by intro w'; go_simp; with_reducible rfl) (by simp only [Act.put, List.setIfInBounds_toArray, List.set_cons_zero, List.set_cons_succ, i64_w, i32_w]; rfl) ?_
    refine pu_ 4 (some 74) (m_ 13 23) rfl rfl (by kernel_rfl) (fun _ _ _ h => h) (by rfl) (by intro w'; go_simp; with_reducible rfl) (by simp only [Act.put, List.setIfInBounds_toArray, List.set_cons_zero, List.set_cons_succ, i64_w, i32_w]; rfl) ?_
    refine pu_ 5 (some 75) (m_ 13 55) rfl rfl (by kernel_rfl) (fun _ _ _ h => h) (by rfl) (by intro w'; go_simp; with_reducible rfl) (by simp only [Act.put, List.setIfInBounds_toArray, List.set_cons_zero, List.set_cons_succ, i64_w, i32_w]; rfl) ?_
    refine pu_ 6 (some 76) (m_ 13 119) rfl rfl (by kernel_rfl) (fun _ _ _ h => h) (by rfl) (by intro w'; go_simp; with_reducible rfl) (by simp only [Act.put, List.setIfInBounds_toArray, List.set_cons_zero, List.set_cons_succ, i64_w, i32_w]; rfl) ?_
    refine pu_ 10 (some 80) (m_ 13 1143) rfl rfl (by kernel_rfl) (fun _ _ _ h => h) (by rfl) (by intro w'; go_simp; with_reducible rfl) (by simp only [Act.put, List.setIfInBounds_toArray, List.set_cons_zero, List.set_cons_succ, i64_w, i32_w]; rfl) ?_
    refine pu_ 11 (some 81) (m_ 13 3191) rfl rfl (by kernel_rfl) (fun _ _ _ h => h) (by rfl) (by intro w'; go_simp; with_reducible rfl) (by simp only [Act.put, List.setIfInBounds_toArray, List.set_cons_zero, List.set_cons_succ, i64_w, i32_w]; rfl) ?_
    refine tk_ 3 (some 73) (m_ 13 3199) rfl rfl (by kernel_rfl) (fun _ _ _ h => h) (by rfl) (by rintro w' ⟨s0, s1, s2, s3, s4, s5, s6, s7⟩; go_simp; with_reducible rfl) hHeld (by simp only [Act.put, List.setIfInBounds_toArray, List.set_cons_zero, List.set_cons_succ, i64_w, i32_w]; rfl) ?_
    refine tk_ 7 (some 77) (m_ 13 3327) rfl rfl (by kernel_rfl) (fun _ _ _ h => h) (by rfl) (by rintro w' ⟨s0, s1, s2, s3, s4, s5, s6, s7⟩; go_simp; with_reducible rfl) hHeld (by simp only [Act.put, List.setIfInBounds_toArray, List.set_cons_zero, List.set_cons_succ, i64_w, i32_w]; rfl) ?_
    refine pu_ 8 (some 78) (m_ 13 3583) rfl rfl (by kernel_rfl) (fun _ _ _ h => h) (by rfl) (by intro w'; go_simp; with_reducible rfl) (by simp only [Act.put, List.setIfInBounds_toArray, List.set_cons_zero, List.set_cons_succ, i64_w, i32_w]; rfl) ?_
    refine tk_ 9 (some 79) (m_ 13 4095) rfl rfl (by kernel_rfl) (fun _ _ _ h => h) (by rfl) (by rintro w' ⟨s0, s1, s2, s3, s4, s5, s6, s7⟩; go_simp; with_reducible rfl) hHeld (by simp only [Act.put, List.setIfInBounds_toArray, List.set_cons_zero, List.set_cons_succ, i64_w, i32_w]; rfl) ?_
    refine one_ (i := 12) (N := some 82) (m_ 13 8191) rfl rfl (by kernel_rfl) (by decide) (fun K hK => ?_)
    refine goes_ Try.func38 (by kernel_rfl) rfl #[ptr c, .int .i64 x.names.length, .agg #[.string ⟨#[]⟩, .int .i64 0, .bool false, .int .i64 0, .int .i64 0, .int .i64 0], .int .u64 st, .int .i64 now] (by rfl) rfl rfl (by simp only [List.map_toArray, List.map_cons, List.map_nil]; rfl) ?_
    with_reducible refine (hins.out).mono ?_
    rintro e w7 ⟨rfl, hT⟩
    obtain ⟨F7, G7, D7, h7, hd7, hs7⟩ := H6.out.drew.turn hT
    have r0 : w7.cell? ⟨b, 0, none⟩ = some (ptr c) := (h7.cell 0).trans rfl
    have r1 : w7.cell? ⟨b, 1, none⟩ = some (.slice A0 x.names.length cp0) := (h7.cell 1).trans rfl
    have hq7 := hqb7.out w7 hd7
    have rq0 := (hq7.cell 0).trans rfl
    have rq1 := (hq7.cell 1).trans rfl
    have rq2 := (hq7.cell 2).trans rfl
    have rq3 := (hq7.cell 3).trans rfl
    have rq4 := (hq7.cell 4).trans rfl
    have rq5 := (hq7.cell 5).trans rfl
    simp only [List.getElem?_toArray, List.getElem?_cons_zero, List.getElem?_cons_succ] at rq0 rq1 rq2 rq3 rq4 rq5
    have H7 := Lib.hid h7
    have hDS7 := Lib.hid (And.intro hd7 hs7)
    clear hT h7 hd7 hs7 hq7
    refine ⟨_, rfl, ?_⟩
    refine hK.out _ _ ⟨r0, r1, rq0, rq1, rq2, rq3, rq4, rq5⟩ (fun hHeld => ?_)
    clear hK K
    refine norm_ (a' := ?_) ?_ ?_
    rotate_left
    · show Act.put _ (some 82) _ = _
      simp only [Act.put, List.setIfInBounds_toArray, List.set_cons_zero, List.set_cons_succ, i64_w, i32_w]
      rfl
    refine done_ (by kernel_rfl) ?_
    clear hHeld r0 r1 u0 u1 u2 u3 u4 u5 rq0 rq1 rq2 rq3 rq4 rq5
    have r1 : w7.cell? ⟨b, 1, none⟩ = some (.slice A0 x.names.length cp0) := (H7.out.cell 1).trans rfl
    have hown : w7.ownsRow 0 9 1 (.slice A0 x.names.length cp0) x.names.length (x.names.map Value.string) := (H7.out.2.2.2.1).owns
    have hsz7 : w.heap.size ≤ w7.heap.size := Nat.le_trans hD6.out.1.size hDS7.out.1.size
    obtain ⟨i0, hi1, hz0, hz1, hz2⟩ := info_parts info_st
    go_wp2_with (at_builtin; refine wpList_append_own_at _ rfl _ _ 41 rfl 0 9 i0 (.string ⟨#[]⟩) 1 16 Try.underlying41 hi1 hz0 hz1 hz2 rfl (by decide) _ _ _ rfl (hown.alloc _) ⟨w7.heap.size, 0, none⟩ 1 1 [.string t0] rfl rfl (cell_one_new _ _ _) (by simp [Value.oneCell']) (by unfold maxLen; omega) (by omega) (by omega) ?_; intro v' w8 hO hG _ hat; obtain ⟨A8, c8, rfl⟩ := own_slice hO; have hG' := Lib.hid hG; have hO' := Lib.hid hO; have hat' := Lib.hid hat; have b8 : w8.cell? ⟨b, 1, none⟩ = some (.slice A0 x.names.length cp0) := (World.cell?_of_block (a := ⟨b, 1, none⟩) (grow_b H7.out hG)).trans r1; have fb8 : w8.frozen? ⟨b, 1, none⟩ = false := (frozen_of_block (grow_b H7.out hG)).trans (H7.out.free 1); clear hG hO hat)
    have hD8 : Did (fun j => (Value.slice A0 x.names.length cp0).ownBlock = some j) w7 w8 := (((Did.refl _ w7).alloc _).trans (Stem.refl _ _) (Did.of_grown hG'.out (fun j e => .inl e)))
    have hN8 : NV w8 (.slice A8 (x.names.length + 1) c8) (x.names ++ [t0]) := NV.of_owns (base := 0) (by rw [List.length_append, List.map_append]; exact hO'.out)
    have hset := H7.out.names hD8 hN8 (fun j e => by
      rcases hat'.out with q | q
      · exact .inl (q ▸ e)
      · rw [q] at e
        injection e with e
        exact .inr (by rw [← e]; simp))
    have hr := Lib.hid (show LTu w F (w8.setCell ⟨b, 1, none⟩ (.slice A8 (x.names.length + 1) c8)) b (addK x ⟨t0, t1, t2, t3, t4, t5⟩ now) from by
      rw [hadd.out _ hdk.out, show Ref02.stepI (dieK x) = st from hst.out]
      exact LTu.next hD6.out.1 hD6.out.2 (LTu.next ((Did.refl F w6).drew.trans (Stem.refl _ _) hDS7.out.1) (show Stem F F7 w6 from fun j hj => hDS7.out.2 j hj) ⟨_, hset.1.lk, hset.2.1, hset.2.2⟩))
    clear hset hN8 hD8 hG' hO' hat' H7 hDS7 H6 hD6
    go_ret
    exact ⟨rfl, hr.out⟩
theorem kAdd_any (h : LK w F b x) (ho : OkK x M Q) (t : Tox) (now : Int) :
    Calls Try.prog 19 #[ptr b, t.v, .int .i64 now] w fun e w' => e = .returned (.int .i64 (addE x t)) ∧ LTu w F w' b (addK x t now) := by
  obtain ⟨t0, t1, t2, t3, t4, t5⟩ := t
  have keep : ∀ (c1 : addsB x ⟨t0, t1, t2, t3, t4, t5⟩ = false), addK x ⟨t0, t1, t2, t3, t4, t5⟩ now = x := fun c1 => by unfold addK; rw [c1]; rfl
  by_cases hz : chk ⟨t0, t1, t2, t3, t4, t5⟩ = 0
  · by_cases hu : t2 = x.up
    · have hE : addE x ⟨t0, t1, t2, t3, t4, t5⟩ = if (idxN x.names t0).isSome = true then 141 else if 8 ≤ x.names.length then 110 else 0 := by
        unfold addE
        rw [if_neg (by rintro (e | e); exact e hz; exact e hu)]
      rw [hE]
      cases hi : (idxN x.names t0).isSome with
      | true =>
        rw [if_pos rfl, keep (by unfold addsB; rw [hi]; simp)]
        exact add_there h ho t0 t1 t2 t3 t4 t5 now hz hu hi
      | false =>
        rw [if_neg (by decide)]
        by_cases hf : 8 ≤ x.names.length
        · rw [if_pos hf, keep (by unfold addsB; rw [decide_eq_false (show ¬ x.names.length < 8 by omega)]; simp)]
          exact add_full h ho t0 t1 t2 t3 t4 t5 now hz hu hi hf
        · rw [if_neg hf]
          exact add_in h ho t0 t1 t2 t3 t4 t5 now hz hu hi (by omega)
    · have hE : addE x ⟨t0, t1, t2, t3, t4, t5⟩ = 0 := by unfold addE; rw [if_pos (.inr hu)]; exact hz
      rw [hE, keep (by unfold addsB; rw [decide_eq_false (show ¬ (chk ⟨t0, t1, t2, t3, t4, t5⟩ = 0 ∧ t2 = x.up) from fun e => hu e.2)]; rfl)]
      exact add_other h ho t0 t1 t2 t3 t4 t5 now hz hu
  · have hE : addE x ⟨t0, t1, t2, t3, t4, t5⟩ = chk ⟨t0, t1, t2, t3, t4, t5⟩ := by unfold addE; rw [if_pos (.inl hz)]
    rw [hE, keep (by unfold addsB; rw [decide_eq_false (show ¬ (chk ⟨t0, t1, t2, t3, t4, t5⟩ = 0 ∧ t2 = x.up) from fun e => hz e.1)]; rfl)]
    exact add_bad h ho t0 t1 t2 t3 t4 t5 now hz
end Go.Proofs.Ytoiibmcbjjnpbaa.Link
namespace Go.Proofs.Ytoiibmcbjjnpbaa.Link
open Go.RowKit Mem Tick Cargo Toxic Stage Chain
set_option maxRecDepth 100000
set_option linter.unusedVariables false
set_option linter.unusedSimpArgs false
def Toxs (w : World) (v : Value) (l : List Tox) : Prop :=
  ∃ a cap, v = .slice a l.length cap ∧ l.length ≤ 9223372036854775807 ∧ l.length ≤ cap ∧ (l ≠ [] → ∃ g o, a = some ⟨g, o, none⟩ ∧ ∀ j t, l[j]? = some t → w.cell? ⟨g, o + j * 6, none⟩ = some (.string t.name) ∧ w.cell? ⟨g, o + j * 6 + 1, none⟩ = some (.int .i64 t.kind) ∧ w.cell? ⟨g, o + j * 6 + 2, none⟩ = some (.bool t.up) ∧ w.cell? ⟨g, o + j * 6 + 3, none⟩ = some (.int .i64 t.often) ∧ w.cell? ⟨g, o + j * 6 + 4, none⟩ = some (.int .i64 t.a) ∧ w.cell? ⟨g, o + j * 6 + 5, none⟩ = some (.int .i64 t.b))
theorem Toxs.below {w w' : World} {v : Value} {l : List Tox} (h : Toxs w v l) (hb : Below w.heap.size w w') : Toxs w' v l := by
  obtain ⟨a, cap, h1, h2, h3, h4⟩ := h
  refine ⟨a, cap, h1, h2, h3, fun hn => ?_⟩
  obtain ⟨g, o, e, hc⟩ := h4 hn
  refine ⟨g, o, e, fun j t ht => ?_⟩
  obtain ⟨c0, c1, c2, c3, c4, c5⟩ := hc j t ht
  exact ⟨bcells hb c0, bcells hb c1, bcells hb c2, bcells hb c3, bcells hb c4, bcells hb c5⟩
theorem same_any (t : Tox) (g : Nat) (n : ByteArray) (w : World) (hc : w.cell? ⟨g, 0, none⟩ = some (.string n)) :
    Calls Try.prog 34 #[t.v, ptr g] w fun e w' => e = .returned (.bool (t.name.toList == n.toList)) ∧ Below w.heap.size w w' := by
  obtain ⟨t0, t1, t2, t3, t4, t5⟩ := t
  have hl := World.block_lt_of_cell? w _ hc
  have hl2 : g < w.heap.size := hl
  have hne : g ≠ w.heap.size := by omega
  have hB := Lib.hid ((Below.refl w.heap.size w).alloc (Nat.le_refl _) (.cells #[.string t0, .int .i64 t1, .bool t2, .int .i64 t3, .int .i64 t4, .int .i64 t5] 29))
  have hc2 := bcells hB.out hc
  go_enter Try.func34, Try.ntmps34
  go_wp2
  go_ret
  exact ⟨rfl, hB.out⟩
def hasB (l : List Tox) (n : ByteArray) : Bool := l.any fun x => x.name.toList == n.toList
theorem hasB_succ {l : List Tox} {k : Nat} {t : Tox} (h : l[k]? = some t) (n : ByteArray) : hasB (l.take (k + 1)) n = (hasB (l.take k) n || (t.name.toList == n.toList)) := by
  unfold hasB
  rw [List.take_add_one, h, List.any_append]
  simp
theorem indexF_any (w : World) (v : Value) (l : List Tox) (g : Nat) (n : ByteArray) (hv : Toxs w v l) (hc : w.cell? ⟨g, 0, none⟩ = some (.string n)) :
    Calls Try.prog 57 #[v, .func (.func 34) #[] #[ptr g]] w fun e w' => (∃ i : Int, e = .returned (.int .i64 i) ∧ (decide (0 ≤ i) = hasB l n)) ∧ Below w.heap.size w w' := by
  obtain ⟨a, cap, rfl, hmx, hcp, hA⟩ := hv
  have hs := Lib.hid (fun (t : Tox) (wy : World) (hb : Below w.heap.size w wy) => same_any t g n wy (bcells hb hc))
  clear hc
  go_enter Try.func57, Try.ntmps57
  go_wp2
  go_loopw [8] (fun iv wr => ∃ k : Nat, k ≤ l.length ∧ iv = .int .i64 k ∧ Below w.heap.size w wr ∧ hasB (l.take k) n = false) (fun iv _ => l.length - (intOf iv).toNat)
  case atStart => exact ⟨0, by omega, rfl, Below.refl _ _, rfl⟩
  case round =>
    obtain ⟨k, hk, rfl, hB, hno⟩ := hrel
    by_cases hlt : k < l.length
    · obtain ⟨g2, o, rfl, hc⟩ := hA (by intro h; subst h; simp at hlt)
      have hx : l[k]? = some l[k] := List.getElem?_eq_getElem hlt
      obtain ⟨d0, d1, d2, d3, d4, d5⟩ := hc k _ hx
      have hsucc := Lib.hid (hasB_succ hx n)
      rw [hno, Bool.false_or] at hsucc
      have hmem := Lib.hid (show ∀ (t : Tox), l[k]? = some t → (t.name.toList == n.toList) = true → hasB l n = true from fun t ht e => List.any_eq_true.2 ⟨t, List.mem_of_getElem? ht, e⟩)
      have hx' := Lib.hid hx
      generalize l[k] = p at *
      obtain ⟨t0, t1, t2, t3, t4, t5⟩ := p
      dsimp only at *
      have d0' := bcells hB d0
      have d1' := bcells hB d1
      have d2' := bcells hB d2
      have d3' := bcells hB d3
      have d4' := bcells hB d4
      have d5' := bcells hB d5
      have hB' := Lib.hid hB
      clear hc hx hA d0 d1 d2 d3 d4 d5 hB hno
      go_wp2_with fail
      refine (hs.out ⟨t0, t1, t2, t3, t4, t5⟩ _ hB'.out).mono ?_
      rintro e w2 ⟨rfl, hB2⟩
      have hB3 := Lib.hid (bw_below hB'.out hB2)
      clear hB2
      cases he : (t0.toList == n.toList) with
      | true =>
        have hr := Lib.hid (show hasB l n = true from hmem.out _ hx'.out he)
        clear hsucc hmem he
        go_wp2
        go_ret
        exact ⟨⟨_, rfl, by rw [hr.out]; simp⟩, hB3.out⟩
      | false =>
        have hr := Lib.hid (show hasB (l.take (k + 1)) n = false from by rw [hsucc.out]; exact he)
        clear hsucc hmem he
        go_wp2
        go_roundw
        case rel => exact ⟨k + 1, by omega, by go_num, hB3.out, hr.out⟩
        case measure => simp [intOf]; omega
    · have hk2 : k = l.length := by omega
      subst hk2
      have hnl : ¬ (l.length < l.length) := by omega
      rw [List.take_length] at hno
      have hr := Lib.hid hno
      clear hno hA
      go_wp2
      go_ret
      exact ⟨⟨_, rfl, by rw [hr.out]; rfl⟩, hB⟩
theorem containsF_any (w : World) (v : Value) (l : List Tox) (g : Nat) (n : ByteArray) (hv : Toxs w v l) (hc : w.cell? ⟨g, 0, none⟩ = some (.string n)) :
    Calls Try.prog 33 #[v, .func (.func 34) #[] #[ptr g]] w fun e w' => e = .returned (.bool (hasB l n)) ∧ Below w.heap.size w w' := by
  have hh := Lib.hid (indexF_any w v l g n hv hc)
  clear hv hc
  go_enter Try.func33, Try.ntmps33
  go_wp2_with fail
  refine hh.out.mono ?_
  rintro e w2 ⟨⟨i, rfl, hi⟩, hB2⟩
  have hi' := Lib.hid hi
  have hB3 := Lib.hid hB2
  clear hh hi hB2
  go_wp2
  go_ret
  exact ⟨by rw [← hi'.out]; rfl, hB3.out⟩
theorem Toxs.take {w : World} {a : Option Addr} {cap : Nat} {l : List Tox} (h : Toxs w (.slice a l.length cap) l) {k : Nat} (hk : k ≤ l.length) : Toxs w (.slice a k cap) (l.take k) := by
  obtain ⟨a', cap', he, h2, h3, h4⟩ := h
  injection he with e1 e2 e3
  subst e1 e3
  have hl : (l.take k).length = k := by rw [List.length_take]; omega
  refine ⟨a, cap, by rw [hl], by omega, by omega, fun hn => ?_⟩
  obtain ⟨g, o, e, hc⟩ := h4 (by rintro rfl; simp at hn)
  refine ⟨g, o, e, fun j t ht => hc j t ?_⟩
  rw [List.getElem?_take] at ht
  split at ht
  · exact ht
  · cases ht
def dblN (l : List Tox) : Nat → Bool
  | 0 => false
  | k + 1 => dblN l k || (match l[k]? with | some t => hasB (l.take k) t.name | none => false)
def dblB (l : List Tox) : Bool := dblN l l.length
theorem dblN_mono {l : List Tox} {k m : Nat} (h : dblN l k = true) (hm : k ≤ m) : dblN l m = true := by
  induction m with
  | zero => have : k = 0 := by omega
            subst this; exact h
  | succ m ih =>
    by_cases e : k = m + 1
    · subst e; exact h
    · unfold dblN; rw [ih (by omega)]; rfl
theorem doubles_any (w : World) (v : Value) (l : List Tox) (hv : Toxs w v l) :
    Calls Try.prog 18 #[v] w fun e w' => e = .returned (.bool (dblB l)) ∧ Below w.heap.size w w' := by
  have hv0 := Lib.hid hv
  obtain ⟨a, cap, rfl, hmx, hcp, hA⟩ := hv
  go_enter Try.func18, Try.ntmps18
  go_wp2
  go_loopw [7] (fun iv wr => ∃ k : Nat, k ≤ l.length ∧ iv = .int .i64 k ∧ Below w.heap.size w wr ∧ dblN l k = false) (fun iv _ => l.length - (intOf iv).toNat)
  case atStart => exact ⟨0, by omega, rfl, Below.refl _ _, rfl⟩
  case round =>
    obtain ⟨k, hk, rfl, hB, hno⟩ := hrel
    by_cases hlt : k < l.length
    · have hpre := Lib.hid ((hv0.out.below hB).take hk)
      obtain ⟨g2, o, rfl, hc⟩ := hA (by intro h; subst h; simp at hlt)
      have hx : l[k]? = some l[k] := List.getElem?_eq_getElem hlt
      obtain ⟨d0, d1, d2, d3, d4, d5⟩ := hc k _ hx
      have hsucc := Lib.hid (show dblN l (k + 1) = hasB (l.take k) (l[k]).name from by show (dblN l k || _) = _; rw [hno, hx]; rfl)
      generalize l[k] = p at *
      obtain ⟨t0, t1, t2, t3, t4, t5⟩ := p
      dsimp only at *
      have d0' := bcells hB d0
      have d1' := bcells hB d1
      have d2' := bcells hB d2
      have d3' := bcells hB d3
      have d4' := bcells hB d4
      have d5' := bcells hB d5
      have hB1 := Lib.hid (hB.alloc hB.size (.cells #[.string t0, .int .i64 t1, .bool t2, .int .i64 t3, .int .i64 t4, .int .i64 t5] 29))
      have hcon := Lib.hid (containsF_any (wr.alloc (.cells #[.string t0, .int .i64 t1, .bool t2, .int .i64 t3, .int .i64 t4, .int .i64 t5] 29)) (.slice (some ⟨g2, o, none⟩) k cap) (l.take k) wr.heap.size t0 (hpre.out.below ((Below.refl _ _).alloc (Nat.le_refl _) _)) (((Blk.new wr 29 #[.string t0, .int .i64 t1, .bool t2, .int .i64 t3, .int .i64 t4, .int .i64 t5]).cell 0).trans rfl))
      have hkc : k ≤ cap := by omega
      have hkc2 : (k : Int) ≤ (cap : Int) := by omega
      have hmono := Lib.hid (fun h => show dblB l = true from dblN_mono (l := l) (k := k + 1) h (by omega))
      clear hc hx hA d0 d1 d2 d3 d4 d5 hB hno hpre
      go_wp2_with fail
      refine hcon.out.mono ?_
      rintro e w2 ⟨rfl, hB2⟩
      have hB3 := Lib.hid (bw_below hB1.out hB2)
      clear hB2 hB1
      cases he : hasB (l.take k) t0 with
      | true =>
        have hr := Lib.hid (hmono.out (by rw [hsucc.out]; exact he))
        clear hsucc hmono he hcon
        go_wp2
        go_ret
        exact ⟨by rw [hr.out]; rfl, hB3.out⟩
      | false =>
        have hr := Lib.hid (show dblN l (k + 1) = false from by rw [hsucc.out]; exact he)
        clear hsucc hmono he hcon
        go_wp2
        go_roundw
        case rel => exact ⟨k + 1, by omega, by go_num, hB3.out, hr.out⟩
        case measure => simp [intOf]; omega
    · have hk2 : k = l.length := by omega
      subst hk2
      have hnl : ¬ (l.length < l.length) := by omega
      have hr := Lib.hid (show dblB l = false from hno)
      clear hno hA
      go_wp2
      go_ret
      exact ⟨by rw [hr.out]; rfl, hB⟩
/-! what lives -/
def LiveK (w wr : World) (b : Nat) (x : Lk) : Prop := ∃ F, LK wr F b x ∧ (∀ j, F j → w.heap.size ≤ j) ∧ Below w.heap.size w wr
def KeepK (wr w2 : World) : Prop := ∀ g t cs, Blk wr g t cs → t ∉ lts → Blk w2 g t cs
variable {w wr w2 w1 : World} {F : Nat → Prop} {b : Nat} {x y : Lk} {M Q : Int}
theorem LiveK.old (h : LiveK w wr b x) : Below w.heap.size w wr := by obtain ⟨F, _, _, hb⟩ := h; exact hb
theorem LiveK.below (h : LiveK w wr b x) (hb : Below wr.heap.size wr w2) : LiveK w w2 b x := by
  obtain ⟨F, hC, hF, hB⟩ := h
  exact ⟨F, hC.below hb, hF, hB.trans (hb.mono hB.size)⟩
theorem LiveK.turn (hC : LK wr F b x) (hF : ∀ j, F j → w.heap.size ≤ j) (hB : Below w.heap.size w wr) (h : LTu wr F w2 b y) : LiveK w w2 b y ∧ KeepK wr w2 := by
  obtain ⟨F', hC2, hd, hs⟩ := h
  exact ⟨⟨F', hC2, fun j hj => (hs j hj).elim (hF j) (fun h => Nat.le_trans hB.size h), hB.trans (hd.below hB.size hF)⟩, fun g t cs hb ht => hb.did hd (hC.off hb ht)⟩
def firstE : List Tox → Int
  | [] => 0
  | t :: r => if chk t ≠ 0 then chk t else firstE r
theorem first_succ {l : List Tox} {k : Nat} {t : Tox} (h : l[k]? = some t) (hk : firstE (l.take k) = 0) : firstE (l.take (k + 1)) = chk t := by
  induction l generalizing k with
  | nil => simp at h
  | cons u r ih =>
    cases k with
    | zero =>
      injection h with h
      subst h
      simp [firstE]
      intro e
      omega
    | succ k =>
      simp only [List.take_succ_cons, firstE] at hk ⊢
      split at hk
      · omega
      · rename_i hu
        rw [if_neg hu]
        exact ih h hk
theorem first_mono {l : List Tox} {k : Nat} (h : firstE (l.take k) ≠ 0) : firstE l = firstE (l.take k) := by
  induction l generalizing k with
  | nil => simp
  | cons u r ih =>
    cases k with
    | zero => exact absurd rfl h
    | succ k =>
      simp only [List.take_succ_cons, firstE] at h ⊢
      split at h
      · rename_i hu; rw [if_pos hu, if_pos hu]
      · rename_i hu; rw [if_neg hu, if_neg hu]; exact ih h
def linkE (l : List Tox) (room : Int) : Int := if roomOk room = false ∨ 8 < l.length then 1 else if firstE l ≠ 0 then firstE l else if dblB l = true then 141 else 0
def link0 (up : Bool) (seed room now : Int) : Lk := ⟨newC room now, [], up, seed, 0, 0, 0, false⟩
def linkN (l : List Tox) (up : Bool) (seed room now : Int) : Lk := l.foldl (fun x t => addK x t now) (link0 up seed room now)
theorem ok_link0 (up : Bool) (seed room now : Int) (h : roomOk room = true) (h0 : 0 ≤ seed) (h1 : seed < 18446744073709551616) : OkK (link0 up seed room now) 0 0 :=
  ⟨ok_newC room now h, rfl, Int.le_refl 0, (by decide : (0 : Int) ≤ 1000000000), h0, h1, Int.le_refl 0, Int.le_refl 0⟩
theorem drawn_add (x : Lk) (t : Tox) (now : Int) : (addK x t now).drawn ≤ x.drawn + 1 := by
  unfold addK
  split
  · exact Int.le_refl _
  · omega
theorem ok_fold (now : Int) : ∀ (l : List Tox) (x : Lk), OkK x 0 0 → x.drawn + l.length ≤ 1000 → OkK (l.foldl (fun x t => addK x t now) x) 0 0 ∧ (l.foldl (fun x t => addK x t now) x).drawn ≤ x.drawn + l.length
  | [], x, h, hd => ⟨h, by simp⟩
  | t :: r, x, h, hd => by
    rw [List.length_cons] at hd
    have h1 := drawn_add x t now
    obtain ⟨h2, h3⟩ := ok_fold now r (addK x t now) (h.add (Int.le_refl 0) (by omega) t now) (by omega)
    exact ⟨h2, by rw [List.foldl_cons, List.length_cons]; omega⟩
theorem ok_linkN (l : List Tox) (up : Bool) (seed room now : Int) (h : roomOk room = true) (h0 : 0 ≤ seed) (h1 : seed < 18446744073709551616) (hl : l.length ≤ 8) : OkK (linkN l up seed room now) 0 0 ∧ (linkN l up seed room now).drawn ≤ 8 := by
  have := ok_fold now l _ (ok_link0 up seed room now h h0 h1) (by show (0 : Int) + l.length ≤ 1000; omega)
  exact ⟨this.1, by have h2 := this.2; have h3 : (link0 up seed room now).drawn = 0 := rfl; unfold linkN; omega⟩
theorem new_bad (v : Value) (l : List Tox) (up : Bool) (seed room now : Int) (w : World) (hv : Toxs w v l) (hr : roomOk room = false) :
    Calls Try.prog 7 #[v, .bool up, .int .u64 seed, .int .i64 room, .int .i64 now] w fun e w' => e = .returned (.tuple #[.pointer none, .int .i64 (1)]) ∧ Below w.heap.size w w' := by
  have hn := Lib.hid (cNew_bad room now w hr)
  clear hv
  go_enter Try.func7, Try.ntmps7
  go_wp2_with fail
  refine hn.out.mono ?_
  rintro e w1 ⟨rfl, hB⟩
  have hB1 := Lib.hid hB
  clear hn hB
  go_wp2
  go_ret2
  exact ⟨rfl, hB1.out⟩
theorem new_long (v : Value) (l : List Tox) (up : Bool) (seed room now : Int) (w : World) (hv : Toxs w v l) (hr : roomOk room = true) (hl : 8 < l.length) :
    Calls Try.prog 7 #[v, .bool up, .int .u64 seed, .int .i64 room, .int .i64 now] w fun e w' => e = .returned (.tuple #[.pointer none, .int .i64 (1)]) ∧ Below w.heap.size w w' := by
  have hn := Lib.hid (cNew_any room now w hr)
  obtain ⟨a, cap, rfl, hmx, hcp, hA⟩ := hv
  have tl : decide ((8 : Int) < (l.length : Int)) = true := decide_eq_true (by omega)
  clear hA
  go_enter Try.func7, Try.ntmps7
  go_wp2_with fail
  refine hn.out.mono ?_
  rintro e w1 ⟨c, F, D, rfl, hC, hF, hcp2, hB⟩
  have hB1 := Lib.hid hB
  clear hn hB hC hF hcp2
  go_wp2
  go_ret2
  exact ⟨rfl, hB1.out⟩
theorem new_chk (v : Value) (l : List Tox) (up : Bool) (seed room now : Int) (w : World) (hv : Toxs w v l) (hr : roomOk room = true) (hl : l.length ≤ 8) (hf : firstE l ≠ 0) :
    Calls Try.prog 7 #[v, .bool up, .int .u64 seed, .int .i64 room, .int .i64 now] w fun e w' => e = .returned (.tuple #[.pointer none, .int .i64 (firstE l)]) ∧ Below w.heap.size w w' := by
  have hn := Lib.hid (cNew_any room now w hr)
  have hv0 := Lib.hid hv
  obtain ⟨a, cap, rfl, hmx, hcp, hA⟩ := hv
  have tl : decide ((8 : Int) < (l.length : Int)) = false := decide_eq_false (by omega)
  go_enter Try.func7, Try.ntmps7
  go_wp2_with fail
  refine hn.out.mono ?_
  rintro e w1 ⟨c, F, D, rfl, hC, hF, hcp2, hB⟩
  have hBw1 := Lib.hid hB
  have hCh := Lib.hid (And.intro hC (And.intro hF hcp2))
  clear hn hB hC hF hcp2
  go_wp2
  go_loopw [35] (fun iv wr => ∃ k : Nat, k ≤ l.length ∧ iv = .int .i64 k ∧ Below w1.heap.size w1 wr ∧ firstE (l.take k) = 0) (fun iv _ => l.length - (intOf iv).toNat)
  case atStart => exact ⟨0, by omega, rfl, Below.refl _ _, rfl⟩
  case round =>
    obtain ⟨k, hk, rfl, hB, hno⟩ := hrel
    by_cases hlt : k < l.length
    · obtain ⟨g2, o, rfl, hc⟩ := hA (by intro h; subst h; simp at hlt)
      have hx : l[k]? = some l[k] := List.getElem?_eq_getElem hlt
      obtain ⟨d0, d1, d2, d3, d4, d5⟩ := hc k _ hx
      have hsucc := Lib.hid (first_succ hx hno)
      have hmono := Lib.hid (fun h => first_mono (l := l) (k := k + 1) h)
      generalize l[k] = p at *
      obtain ⟨t0, t1, t2, t3, t4, t5⟩ := p
      dsimp only at *
      have hBw := hBw1.out.trans (hB.mono hBw1.out.size)
      have d0' := bcells hBw d0
      have d1' := bcells hBw d1
      have d2' := bcells hBw d2
      have d3' := bcells hBw d3
      have d4' := bcells hBw d4
      have d5' := bcells hBw d5
      have hB' := Lib.hid (hB.alloc hB.size (.cells #[.string t0, .int .i64 t1, .bool t2, .int .i64 t3, .int .i64 t4, .int .i64 t5] 29))
      have hck := Lib.hid (fun wy => check_any ⟨t0, t1, t2, t3, t4, t5⟩ wy)
      clear hc hx hA d0 d1 d2 d3 d4 d5 hB hno hBw
      go_wp2_with fail
      refine (hck.out _).mono ?_
      rintro e w2 ⟨rfl, hB2⟩
      have hB3 := Lib.hid (bw_below hB'.out hB2)
      clear hB2 hB' hck
      by_cases he : chk ⟨t0, t1, t2, t3, t4, t5⟩ = 0
      · have hr := Lib.hid (show firstE (l.take (k + 1)) = 0 from by rw [hsucc.out]; exact he)
        rw [he]
        clear hsucc hmono he
        go_wp2
        go_roundw
        case rel => exact ⟨k + 1, by omega, by go_num, hB3.out, hr.out⟩
        case measure => simp [intOf]; omega
      · have te : (chk ⟨t0, t1, t2, t3, t4, t5⟩ != 0) = true := by simpa using he
        have hr := Lib.hid (show firstE l = chk ⟨t0, t1, t2, t3, t4, t5⟩ from by have := hmono.out (by rw [hsucc.out]; exact he); rw [hsucc.out] at this; exact this)
        clear hsucc hmono he
        go_wp2
        go_ret2
        exact ⟨by rw [hr.out]; rfl, bw_below hBw1.out hB3.out⟩
    · have hk2 : k = l.length := by omega
      subst hk2
      have hnl : ¬ (l.length < l.length) := by omega
      rw [List.take_length] at hno
      exact absurd hno hf
theorem new_dbl (v : Value) (l : List Tox) (up : Bool) (seed room now : Int) (w : World) (hv : Toxs w v l) (hr : roomOk room = true) (hl : l.length ≤ 8) (hf : firstE l = 0) (hd : dblB l = true) :
    Calls Try.prog 7 #[v, .bool up, .int .u64 seed, .int .i64 room, .int .i64 now] w fun e w' => e = .returned (.tuple #[.pointer none, .int .i64 (141)]) ∧ Below w.heap.size w w' := by
  have hn := Lib.hid (cNew_any room now w hr)
  have hv0 := Lib.hid hv
  obtain ⟨a, cap, rfl, hmx, hcp, hA⟩ := hv
  have tl : decide ((8 : Int) < (l.length : Int)) = false := decide_eq_false (by omega)
  go_enter Try.func7, Try.ntmps7
  go_wp2_with fail
  refine hn.out.mono ?_
  rintro e w1 ⟨c, F, D, rfl, hC, hF, hcp2, hB⟩
  have hBw1 := Lib.hid hB
  have hCh := Lib.hid (And.intro hC (And.intro hF hcp2))
  clear hn hB hC hF hcp2
  go_wp2
  go_loopw [35] (fun iv wr => ∃ k : Nat, k ≤ l.length ∧ iv = .int .i64 k ∧ Below w1.heap.size w1 wr ∧ firstE (l.take k) = 0) (fun iv _ => l.length - (intOf iv).toNat)
  case atStart => exact ⟨0, by omega, rfl, Below.refl _ _, rfl⟩
  case round =>
    obtain ⟨k, hk, rfl, hB, hno⟩ := hrel
    by_cases hlt : k < l.length
    · obtain ⟨g2, o, rfl, hc⟩ := hA (by intro h; subst h; simp at hlt)
      have hx : l[k]? = some l[k] := List.getElem?_eq_getElem hlt
      obtain ⟨d0, d1, d2, d3, d4, d5⟩ := hc k _ hx
      have hsucc := Lib.hid (first_succ hx hno)
      have hmono := Lib.hid (fun h => first_mono (l := l) (k := k + 1) h)
      generalize l[k] = p at *
      obtain ⟨t0, t1, t2, t3, t4, t5⟩ := p
      dsimp only at *
      have hBw := hBw1.out.trans (hB.mono hBw1.out.size)
      have d0' := bcells hBw d0
      have d1' := bcells hBw d1
      have d2' := bcells hBw d2
      have d3' := bcells hBw d3
      have d4' := bcells hBw d4
      have d5' := bcells hBw d5
      have hB' := Lib.hid (hB.alloc hB.size (.cells #[.string t0, .int .i64 t1, .bool t2, .int .i64 t3, .int .i64 t4, .int .i64 t5] 29))
      have hck := Lib.hid (fun wy => check_any ⟨t0, t1, t2, t3, t4, t5⟩ wy)
      clear hc hx hA d0 d1 d2 d3 d4 d5 hB hno hBw
      go_wp2_with fail
      refine (hck.out _).mono ?_
      rintro e w2 ⟨rfl, hB2⟩
      have hB3 := Lib.hid (bw_below hB'.out hB2)
      clear hB2 hB' hck
      by_cases he : chk ⟨t0, t1, t2, t3, t4, t5⟩ = 0
      · have hr := Lib.hid (show firstE (l.take (k + 1)) = 0 from by rw [hsucc.out]; exact he)
        rw [he]
        clear hsucc hmono he
        go_wp2
        go_roundw
        case rel => exact ⟨k + 1, by omega, by go_num, hB3.out, hr.out⟩
        case measure => simp [intOf]; omega
      · have te : (chk ⟨t0, t1, t2, t3, t4, t5⟩ != 0) = true := by simpa using he
        have hr := Lib.hid (show firstE l = chk ⟨t0, t1, t2, t3, t4, t5⟩ from by have := hmono.out (by rw [hsucc.out]; exact he); rw [hsucc.out] at this; exact this)
        clear hsucc hmono he
        exact absurd (hr.out.symm.trans hf) (by simpa using te)
    · have hk2 : k = l.length := by omega
      subst hk2
      have hnl : ¬ (l.length < l.length) := by omega
      rw [List.take_length] at hno
      have hdb := Lib.hid (doubles_any wr (.slice a l.length cap) l (hv0.out.below (hBw1.out.trans (hB.mono hBw1.out.size))))
      rw [hd] at hdb
      have hB' := Lib.hid (bw_below hBw1.out hB)
      clear hA hB hno
      go_wp2_with fail
      refine hdb.out.mono ?_
      rintro e w2 ⟨rfl, hB2⟩
      have hB3 := Lib.hid (bw_below hB'.out hB2)
      clear hB2 hdb
      go_wp2
      go_ret2
      exact ⟨rfl, hB3.out⟩
set_option maxHeartbeats 1000000 in
theorem new_ok (v : Value) (l : List Tox) (up : Bool) (seed room now : Int) (w : World) (hv : Toxs w v l) (hr : roomOk room = true) (hl : l.length ≤ 8) (hf : firstE l = 0) (hd : dblB l = false) (h0 : 0 ≤ seed) (h1 : seed < 18446744073709551616) :
    Calls Try.prog 7 #[v, .bool up, .int .u64 seed, .int .i64 room, .int .i64 now] w fun e w' => ∃ b, e = .returned (.tuple #[ptr b, .int .i64 0]) ∧ LiveK w w' b (linkN l up seed room now) := by
  have hn := Lib.hid (cNew_any room now w hr)
  have hv0 := Lib.hid hv
  obtain ⟨a, cap, rfl, hmx, hcp, hA⟩ := hv
  have tl : decide ((8 : Int) < (l.length : Int)) = false := decide_eq_false (by omega)
  go_enter Try.func7, Try.ntmps7
  go_wp2_with fail
  refine hn.out.mono ?_
  rintro e w1 ⟨c, F, D, rfl, hC, hF, hcp2, hB⟩
  have hBw1 := Lib.hid hB
  have hCh := Lib.hid (And.intro hC (And.intro hF hcp2))
  clear hn hB hC hF hcp2
  go_wp2
  go_loopw [35] (fun iv wr => ∃ k : Nat, k ≤ l.length ∧ iv = .int .i64 k ∧ Below w1.heap.size w1 wr ∧ firstE (l.take k) = 0) (fun iv _ => l.length - (intOf iv).toNat)
  case atStart => exact ⟨0, by omega, rfl, Below.refl _ _, rfl⟩
  case round =>
    obtain ⟨k, hk, rfl, hB, hno⟩ := hrel
    by_cases hlt : k < l.length
    · obtain ⟨g2, o, rfl, hc⟩ := hA (by intro h; subst h; simp at hlt)
      have hx : l[k]? = some l[k] := List.getElem?_eq_getElem hlt
      obtain ⟨d0, d1, d2, d3, d4, d5⟩ := hc k _ hx
      have hsucc := Lib.hid (first_succ hx hno)
      have hmono := Lib.hid (fun h => first_mono (l := l) (k := k + 1) h)
      generalize l[k] = p at *
      obtain ⟨t0, t1, t2, t3, t4, t5⟩ := p
      dsimp only at *
      have hBw := hBw1.out.trans (hB.mono hBw1.out.size)
      have d0' := bcells hBw d0
      have d1' := bcells hBw d1
      have d2' := bcells hBw d2
      have d3' := bcells hBw d3
      have d4' := bcells hBw d4
      have d5' := bcells hBw d5
      have hB' := Lib.hid (hB.alloc hB.size (.cells #[.string t0, .int .i64 t1, .bool t2, .int .i64 t3, .int .i64 t4, .int .i64 t5] 29))
      have hck := Lib.hid (fun wy => check_any ⟨t0, t1, t2, t3, t4, t5⟩ wy)
      clear hc hx hA d0 d1 d2 d3 d4 d5 hB hno hBw
      go_wp2_with fail
      refine (hck.out _).mono ?_
      rintro e w2 ⟨rfl, hB2⟩
      have hB3 := Lib.hid (bw_below hB'.out hB2)
      clear hB2 hB' hck
      by_cases he : chk ⟨t0, t1, t2, t3, t4, t5⟩ = 0
      · have hr := Lib.hid (show firstE (l.take (k + 1)) = 0 from by rw [hsucc.out]; exact he)
        rw [he]
        clear hsucc hmono he
        go_wp2
        go_roundw
        case rel => exact ⟨k + 1, by omega, by go_num, hB3.out, hr.out⟩
        case measure => simp [intOf]; omega
      · have te : (chk ⟨t0, t1, t2, t3, t4, t5⟩ != 0) = true := by simpa using he
        have hr := Lib.hid (show firstE l = chk ⟨t0, t1, t2, t3, t4, t5⟩ from by have := hmono.out (by rw [hsucc.out]; exact he); rw [hsucc.out] at this; exact this)
        clear hsucc hmono he
        exact absurd (hr.out.symm.trans hf) (by simpa using te)
    · have hk2 : k = l.length := by omega
      subst hk2
      have hnl : ¬ (l.length < l.length) := by omega
      rw [List.take_length] at hno
      have hdb := Lib.hid (doubles_any wr (.slice a l.length cap) l (hv0.out.below (hBw1.out.trans (hB.mono hBw1.out.size))))
      rw [hd] at hdb
      have hB' := Lib.hid (bw_below hBw1.out hB)
      have hCr := Lib.hid (hCh.out.1.below hB)
      clear hB hno
      go_wp2_with fail
      refine hdb.out.mono ?_
      rintro e w2 ⟨rfl, hB2⟩
      have hB3 := Lib.hid (bw_below hB'.out hB2)
      have hC2 := Lib.hid (hCr.out.below hB2)
      have hBL := (Below.refl w2.heap.size w2).alloc (Nat.le_refl _) (.cells #[ptr c, .slice none 0 0, .bool up, .int .u64 seed, .int .i64 0, .int .i64 0, .int .i64 0, .int .i64 0, .int .i64 0, .bool false] 48)
      have hL0 := Lib.hid (show LiveK w (w2.alloc (.cells #[ptr c, .slice none 0 0, .bool up, .int .u64 seed, .int .i64 0, .int .i64 0, .int .i64 0, .int .i64 0, .int .i64 0, .bool false] 48)) w2.heap.size (link0 up seed room now) from
        ⟨fun j => j = w2.heap.size ∨ F j ∨ (Value.slice none 0 0).ownBlock = some j, ⟨F, c, D, .slice none 0 0, Blk.new w2 _ _, hC2.out.below hBL, hCh.out.2.2, .inl ⟨rfl, rfl⟩, fun j => Iff.rfl⟩, (fun j hj => by
          rcases hj with rfl | hj | hj
          · exact hB3.out.size
          · exact hCh.out.2.1 j hj
          · cases hj), hB3.out.alloc hB3.out.size _⟩)
      clear hB2 hdb hBL hB' hCr
      go_wp2
      go_loopw [54] (fun iv wr => ∃ k : Nat, k ≤ l.length ∧ iv = .int .i64 k ∧ LiveK w wr w2.heap.size (linkN (l.take k) up seed room now)) (fun iv _ => l.length - (intOf iv).toNat)
      case atStart => exact ⟨0, by omega, rfl, hL0.out⟩
      case round =>
        obtain ⟨k, hk, rfl, hL⟩ := hrel
        clear hL0
        by_cases hlt : k < l.length
        · obtain ⟨g2, o, rfl, hc⟩ := hA (by intro h; subst h; simp at hlt)
          have hx : l[k]? = some l[k] := List.getElem?_eq_getElem hlt
          obtain ⟨d0, d1, d2, d3, d4, d5⟩ := hc k _ hx
          have hok := Lib.hid (ok_linkN (l.take k) up seed room now hr h0 h1 (by rw [List.length_take]; omega)).1
          have hsucc := Lib.hid (show linkN (l.take (k + 1)) up seed room now = addK (linkN (l.take k) up seed room now) l[k] now from by unfold linkN; rw [List.take_add_one, hx, List.foldl_append]; rfl)
          generalize l[k] = p at *
          obtain ⟨t0, t1, t2, t3, t4, t5⟩ := p
          dsimp only at *
          have hBw := hL.old
          have d0' := bcells hBw d0
          have d1' := bcells hBw d1
          have d2' := bcells hBw d2
          have d3' := bcells hBw d3
          have d4' := bcells hBw d4
          have d5' := bcells hBw d5
          have hL' := Lib.hid (hL.below ((Below.refl wr.heap.size wr).alloc (Nat.le_refl _) (.cells #[.string t0, .int .i64 t1, .bool t2, .int .i64 t3, .int .i64 t4, .int .i64 t5] 29)))
          clear hc hx hA d0 d1 d2 d3 d4 d5 hL hBw
          generalize linkN (l.take k) up seed room now = x0 at *
          obtain ⟨F0, hLK, hF0, hB0⟩ := hL'.out
          have hadd := Lib.hid (kAdd_any hLK hok.out ⟨t0, t1, t2, t3, t4, t5⟩ now)
          have hFB := Lib.hid (And.intro hLK (And.intro hF0 hB0))
          clear hLK hF0 hB0 hL'
          go_wp2_with fail
          refine hadd.out.mono ?_
          rintro e w4 ⟨rfl, hT⟩
          have hL4 := Lib.hid (LiveK.turn hFB.out.1 hFB.out.2.1 hFB.out.2.2 hT).1
          clear hT hadd hFB
          go_wp2
          go_roundw
          case rel => exact ⟨k + 1, by omega, by go_num, by rw [hsucc.out]; exact hL4.out⟩
          case measure => simp [intOf]; omega
        · have hk2 : k = l.length := by omega
          subst hk2
          have hnl : ¬ (l.length < l.length) := by omega
          rw [List.take_length] at hL
          have hr := Lib.hid hL
          clear hA hL
          go_wp2
          go_ret2
          exact ⟨_, rfl, hr.out⟩
end Go.Proofs.Ytoiibmcbjjnpbaa.Link
namespace Go.Proofs.Ytoiibmcbjjnpbaa.Link
open Go.RowKit Mem Tick Cargo Toxic Stage Chain
set_option linter.unusedVariables false
set_option linter.unusedSimpArgs false
def EndZ (x : Ch) : Prop := x.state ≠ 0 → x.state = 2 ∨ ∃ a, x.l[x.l.length - 1]? = some a ∧ a.s.state ≠ 0
theorem look_stays {s : Sg} (n : Int) (h : s.state ≠ 0) : (lookP s n).state ≠ 0 := by
  rcases look_cases s n with e | ⟨e, _⟩
  · rw [e]; exact h
  · exact absurd e h
variable {c : Ch}
theorem EndZ.none (h : EndZ c) (hs : c.state ≠ 0) (n m : Int) : takeCB c n m = ⟨#[]⟩ := by
  unfold takeCB
  rcases h hs with e | ⟨a, ha, h1⟩
  · rw [if_pos e]
  · split
    · rfl
    · rw [ha]
      show takeB a.s n m = _
      unfold takeB
      rw [if_pos (.inl (look_stays n h1))]
variable {x : Lk}
end Go.Proofs.Ytoiibmcbjjnpbaa.Link
namespace Go.Proofs.Ytoiibmcbjjnpbaa.Link
open Go.RowKit Mem Tick Cargo Toxic Stage Chain
set_option linter.unusedVariables false
set_option linter.unusedSimpArgs false
def ofWay (L : List Tox) (up : Bool) : List Tox := L.filter fun t => t.up == up
theorem ofWay_snoc (L : List Tox) (t : Tox) (up : Bool) : ofWay (L ++ [t]) up = if t.up = up then ofWay L up ++ [t] else ofWay L up := by
  unfold ofWay
  rw [List.filter_append]
  by_cases h : t.up = up
  · rw [if_pos h]; simp [h]
  · rw [if_neg h]; simp [h]
def DrR (t d : Tox) : Prop := (d = t ∨ d = noTox) ∧ (t.often = 100 → d = t) ∧ (t.often = 0 → d = noTox)
def DrL (l d : List Tox) : Prop := d.length = l.length ∧ ∀ (i : Nat) (t u : Tox), l[i]? = some t → d[i]? = some u → DrR t u
theorem DrL.snoc {l d : List Tox} (h : DrL l d) {t u : Tox} (hr : DrR t u) : DrL (l ++ [t]) (d ++ [u]) := by
  refine ⟨by simp [h.1], fun i t' u' h1 h2 => ?_⟩
  by_cases hi : i < l.length
  · rw [List.getElem?_append_left hi] at h1
    rw [List.getElem?_append_left (by rw [h.1]; exact hi)] at h2
    exact h.2 i t' u' h1 h2
  · rw [List.getElem?_append_right (by omega)] at h1
    rw [List.getElem?_append_right (by rw [h.1]; omega), h.1] at h2
    have : i - l.length = 0 := Decidable.byContradiction fun e => by
      rw [List.getElem?_eq_none (by simp; omega)] at h1; cases h1
    rw [this] at h1 h2
    simp at h1 h2
    subst h1 h2
    exact hr
theorem draw_drr (x : Lk) (t : Tox) : DrR t (drawK x t) := by
  have hb := Ref02.hiI_bd (dieK x) 100 (by decide)
  unfold drawK
  split
  · rename_i h
    exact ⟨.inl rfl, fun _ => rfl, fun e => by omega⟩
  · rename_i h
    exact ⟨.inr rfl, fun e => by omega, fun _ => rfl⟩
def fresh (room now : Int) (p : Tox × Int) : Pa := ⟨newS p.1 p.2 room now, false⟩
structure NewI (L : List Tox) (up : Bool) (room now : Int) (x : Lk) : Prop where
  up_ : x.up = up
  names : x.names = (ofWay L up).map fun t => t.name
  l : ∃ ds : List (Tox × Int), x.c.l = ((noTox, 0) :: ds ++ [(noTox, 0)]).map (fresh room now) ∧ DrL (ofWay L up) (ds.map fun p => p.1)
  st : x.c.state = 0
  sh : x.c.shut = false
  lost : x.c.lost = 0
  rm : x.c.room = room
  dn : x.done = false
theorem newI_0 (up : Bool) (seed room now : Int) : NewI [] up room now (link0 up seed room now) :=
  ⟨rfl, rfl, ⟨[], rfl, rfl, fun i t u h => by simp [ofWay] at h⟩, rfl, rfl, rfl, rfl, rfl⟩
theorem newE_ok {t : Tox} {room : Int} (h : passB t = true ∨ chk t = 0) (hr : roomOk room = true) : newE t room = 0 := by
  unfold newE
  rw [if_neg (by rintro ⟨e1, e2⟩; rcases h with e | e; rw [e] at e1; cases e1; exact e2 e), if_neg (by rw [hr]; simp)]
theorem NewI.add {L : List Tox} {up : Bool} {room now : Int} {x : Lk} (h : NewI L up room now x) (hr : roomOk room = true) (t : Tox) (hc : chk t = 0) (hb : hasB L t.name = false) (h8 : L.length < 8) : NewI (L ++ [t]) up room now (addK x t now) := by
  obtain ⟨ds, hl, hd⟩ := h.l
  have hlen : (ofWay L up).length ≤ L.length := List.length_filter_le _ _
  have hnl : x.names.length = (ofWay L up).length := by rw [h.names, List.length_map]
  have hdl : ds.length = (ofWay L up).length := by have := hd.1; simpa using this
  by_cases hu : t.up = up
  · have hn : idxN x.names t.name = none := by
      apply idx_none
      intro j y hj hy
      rw [h.names, List.getElem?_map] at hy
      obtain ⟨u, hu1, rfl⟩ := Option.map_eq_some_iff.1 hy
      have hm : u ∈ L := (List.mem_filter.1 (List.mem_of_getElem? hu1)).1
      unfold hasB at hb
      have := List.any_eq_false.1 hb u hm
      simp only [beq_iff_eq] at this ⊢
      simp
      exact fun e => this e.symm
    have ha : addsB x t = true := by
      unfold addsB
      rw [hn, decide_eq_true (show chk t = 0 ∧ t.up = x.up from ⟨hc, by rw [h.up_]; exact hu⟩), decide_eq_true (show x.names.length < 8 by omega)]
      rfl
    have hadd : addK x t now = { x with c := insC x.c x.names.length (drawK x t) (Ref02.stepI (dieK x)) now, names := x.names ++ [t.name], drawn := x.drawn + 1 } := by unfold addK; rw [if_pos ha]
    have hE : insE x.c (x.names.length : Int) (drawK x t) = 0 := by
      unfold insE
      have hp : noPlace x.c (x.names.length : Int) = false := by
        unfold noPlace
        rw [hl]
        simp
        omega
      rw [hp, h.rm]
      exact newE_ok (draw_ok x t hc) hr
    have hbk : x.c.l[(x.names.length : Int).toNat + 1]? = some (fresh room now (noTox, 0)) := by
      rw [hl, List.getElem?_map, show (x.names.length : Int).toNat + 1 = ((noTox, (0 : Int)) :: ds).length from by simp; omega, List.getElem?_append_right (Nat.le_refl _), Nat.sub_self]
      rfl
    have hins : insC x.c x.names.length (drawK x t) (Ref02.stepI (dieK x)) now = { x.c with l := ((noTox, 0) :: (ds ++ [(drawK x t, Ref02.stepI (dieK x))]) ++ [(noTox, 0)]).map (fresh room now) } := by
      unfold insC
      rw [hE, if_neg (by decide), hbk]
      dsimp only
      rw [show (fresh room now (noTox, 0)).cl = false from rfl, if_neg (by decide), h.rm]
      congr 1
      rw [hl, ← List.map_take, ← List.map_drop, show (x.names.length : Int).toNat + 1 = ((noTox, (0 : Int)) :: ds).length from by simp; omega, List.take_left, List.drop_left]
      simp [fresh]
    rw [hadd, hins]
    refine ⟨h.up_, ?_, ⟨ds ++ [(drawK x t, Ref02.stepI (dieK x))], rfl, ?_⟩, h.st, h.sh, h.lost, h.rm, h.dn⟩
    · show x.names ++ [t.name] = _
      rw [ofWay_snoc, if_pos hu, h.names, List.map_append]; rfl
    · rw [ofWay_snoc, if_pos hu, List.map_append]
      exact hd.snoc (draw_drr x t)
  · have ha : addsB x t = false := by
      unfold addsB
      rw [decide_eq_false (show ¬ (chk t = 0 ∧ t.up = x.up) from fun e => hu (by rw [← h.up_]; exact e.2))]
      rfl
    have hadd : addK x t now = x := by unfold addK; rw [ha]; rfl
    rw [hadd]
    refine ⟨h.up_, ?_, ⟨ds, hl, ?_⟩, h.st, h.sh, h.lost, h.rm, h.dn⟩
    · rw [ofWay_snoc, if_neg hu]; exact h.names
    · rw [ofWay_snoc, if_neg hu]; exact hd
theorem first_all : ∀ {l : List Tox}, firstE l = 0 → ∀ t ∈ l, chk t = 0
  | u :: r, h, t, ht => by
    unfold firstE at h
    split at h
    · rename_i e; exact absurd h e
    · rename_i e
      rcases List.mem_cons.1 ht with rfl | ht
      · exact Decidable.byContradiction e
      · exact first_all h t ht
theorem dbl_none {l : List Tox} (h : dblB l = false) {k : Nat} {t : Tox} (hk : l[k]? = some t) : hasB (l.take k) t.name = false := by
  cases e : hasB (l.take k) t.name with
  | false => rfl
  | true =>
    have h1 : dblN l (k + 1) = true := by unfold dblN; rw [hk]; simp [e]
    have := dblN_mono h1 (show k + 1 ≤ l.length from (List.getElem?_eq_some_iff.1 hk).1)
    unfold dblB at h
    rw [this] at h
    cases h
theorem linkE_0 {l : List Tox} {room : Int} (h : linkE l room = 0) : roomOk room = true ∧ l.length ≤ 8 ∧ firstE l = 0 ∧ dblB l = false := by
  unfold linkE at h
  split at h
  · exact absurd h (by decide)
  rename_i h2
  split at h
  · rename_i h3; exact absurd h h3
  rename_i h3
  split at h
  · exact absurd h (by decide)
  rename_i h4
  refine ⟨?_, by omega, by simpa using h3, by simpa using h4⟩
  cases e : roomOk room with
  | true => rfl
  | false => exact absurd (.inl e) h2
theorem newI_linkN (L : List Tox) (up : Bool) (seed room now : Int) (h : linkE L room = 0) : NewI L up room now (linkN L up seed room now) := by
  obtain ⟨hr, h8, hf, hd⟩ := linkE_0 h
  have key : ∀ k, k ≤ L.length → NewI (L.take k) up room now (linkN (L.take k) up seed room now) := by
    intro k
    induction k with
    | zero => intro _; exact newI_0 up seed room now
    | succ k ih =>
      intro hk
      have hx : L[k]? = some L[k] := List.getElem?_eq_getElem (by omega)
      have e : L.take (k + 1) = L.take k ++ [L[k]] := by rw [List.take_add_one, hx]; rfl
      rw [e]
      have e2 : linkN (L.take k ++ [L[k]]) up seed room now = addK (linkN (L.take k) up seed room now) L[k] now := by unfold linkN; rw [List.foldl_append]; rfl
      rw [e2]
      exact (ih (by omega)).add hr _ (first_all hf _ (List.mem_of_getElem? hx)) (dbl_none hd hx) (by rw [List.length_take]; omega)
  have := key L.length (Nat.le_refl _)
  rwa [List.take_length] at this
/-! lags -/
/-! a link's calls without toxics -/
end Go.Proofs.Ytoiibmcbjjnpbaa.Link
namespace Go.Proofs.Ytoiibmcbjjnpbaa.Link
open Go.RowKit Mem Tick Cargo Toxic Stage Chain
set_option maxRecDepth 100000
set_option linter.unusedVariables false
set_option linter.unusedSimpArgs false
def opBytes (x : Op) : Nat := x.s.size + x.t.name.size
def Script (w : World) (v : Value) (l : List Op) : Prop :=
  ∃ a cap, v = .slice a l.length cap ∧ l.length ≤ 9223372036854775807 ∧ (∀ x ∈ l, x.s.size ≤ 140737488351232 ∧ x.t.name.size ≤ 140737488351232) ∧
    (l ≠ [] → ∃ b o, a = some ⟨b, o, none⟩ ∧ ∀ j x, l[j]? = some x → w.cell? ⟨b, o + j * 10, none⟩ = some (.int .i64 x.kind) ∧ w.cell? ⟨b, o + j * 10 + 1, none⟩ = some (.int .i64 x.now) ∧ w.cell? ⟨b, o + j * 10 + 2, none⟩ = some (.int .i64 x.n) ∧ w.cell? ⟨b, o + j * 10 + 3, none⟩ = some (.string x.s) ∧ w.cell? ⟨b, o + j * 10 + 4, none⟩ = some (.string x.t.name) ∧ w.cell? ⟨b, o + j * 10 + 5, none⟩ = some (.int .i64 x.t.kind) ∧ w.cell? ⟨b, o + j * 10 + 6, none⟩ = some (.bool x.t.up) ∧ w.cell? ⟨b, o + j * 10 + 7, none⟩ = some (.int .i64 x.t.often) ∧ w.cell? ⟨b, o + j * 10 + 8, none⟩ = some (.int .i64 x.t.a) ∧ w.cell? ⟨b, o + j * 10 + 9, none⟩ = some (.int .i64 x.t.b))
def bytesOf : List Op → Nat
  | [] => 0
  | x :: r => opBytes x + bytesOf r
theorem bytesOf_append (a b : List Op) : bytesOf (a ++ b) = bytesOf a + bytesOf b := by induction a with | nil => simp [bytesOf] | cons p r ih => simp [bytesOf, ih]; omega
theorem bytesOf_take (l : List Op) (k : Nat) (x : Op) (h : l[k]? = some x) : bytesOf (l.take (k + 1)) = bytesOf (l.take k) + opBytes x := by
  rw [List.take_add_one, h, bytesOf_append]; simp [bytesOf]
theorem bytesOf_le (l : List Op) (k : Nat) : bytesOf (l.take k) ≤ bytesOf l := by
  have := bytesOf_append (l.take k) (l.drop k)
  rw [List.take_append_drop] at this; omega
theorem bytesOf_max (l : List Op) (h : ∀ x ∈ l, x.s.size ≤ 140737488351232 ∧ x.t.name.size ≤ 140737488351232) : bytesOf l ≤ l.length * 281474976702464 := by
  induction l with
  | nil => simp [bytesOf]
  | cons x r ih =>
    have h1 := h x (List.mem_cons_self ..)
    have h2 := ih fun y hy => h y (List.mem_cons_of_mem _ hy)
    simp only [bytesOf, List.length_cons, opBytes]; omega
theorem bytes_s (l : List Op) (k : Nat) (p : Op) (h : l[k]? = some p) : bytesOf (l.take (k + 1)) = bytesOf (l.take k) + (p.s.size + p.t.name.size) := bytesOf_take l k p h
def fewK (n : Nat) (l : List Op) : Bool := decide (n ≤ 12) && (decide (l.length ≤ 60) && decide (bytesOf l ≤ 2000))
theorem few_short (sa : Option Addr) (sn sc : Nat) (up : Bool) (seed room : Int) (v : Value) (l : List Op) (w : World) (hsn : sn ≤ 9223372036854775807) (hv : Script w v l) (hsmall : l.length ≤ 60) :
    Calls Try.prog 5 #[.agg #[.slice sa sn sc, .bool up, .int .u64 seed, .int .i64 room], v] w fun e w' => e = .returned (.bool (fewK sn l)) ∧ Below w.heap.size w w' := by
  obtain ⟨a, cap, rfl, hm, hs, hA⟩ := hv
  have hmx := bytesOf_max l hs
  have hd : decide ((l.length : Int) ≤ 60) = true := decide_eq_true (by omega)
  have hB0 := Lib.hid ((Below.refl w.heap.size w).alloc (Nat.le_refl _) (.cells #[.slice sa sn sc, .bool up, .int .u64 seed, .int .i64 room] 25))
  have hX0 := Lib.hid (Blk.new w 25 #[.slice sa sn sc, .bool up, .int .u64 seed, .int .i64 room])
  clear hs
  go_enter Try.func5, Try.ntmps5
  go_wp2
  go_loopw [5, 10] (fun nv iv wr => ∃ k : Nat, k ≤ l.length ∧ iv = .int .i64 k ∧ nv = .int .i64 (bytesOf (l.take k)) ∧ Below w.heap.size w wr ∧ Blk wr w.heap.size 25 #[.slice sa sn sc, .bool up, .int .u64 seed, .int .i64 room]) (fun _ iv _ => l.length - (intOf iv).toNat)
  case atStart => exact ⟨0, by omega, rfl, by simp [bytesOf], hB0.out, hX0.out⟩
  case round =>
    obtain ⟨k, hk, rfl, rfl, hB, hX⟩ := hrel
    by_cases hlt : k < l.length
    · obtain ⟨g, o, rfl, hc⟩ := hA (by intro h; subst h; simp at hlt)
      have hx : l[k]? = some l[k] := List.getElem?_eq_getElem hlt
      obtain ⟨d0, d1, d2, d3, d4, d5, d6, d7, d8, d9⟩ := hc k _ hx
      have hs := Lib.hid (bytes_s l k _ hx)
      have hle := bytesOf_le l (k + 1)
      rw [hs.out] at hle
      generalize l[k] = p at *
      obtain ⟨p0, p1, p2, p3, ⟨t0, t1, t2, t3, t4, t5⟩⟩ := p
      dsimp only at *
      have d0' := bcells hB d0
      have d1' := bcells hB d1
      have d2' := bcells hB d2
      have d3' := bcells hB d3
      have d4' := bcells hB d4
      have d5' := bcells hB d5
      have d6' := bcells hB d6
      have d7' := bcells hB d7
      have d8' := bcells hB d8
      have d9' := bcells hB d9
      generalize hs1 : bytesOf (l.take (k + 1)) = s1 at *
      have hs1' := Lib.hid hs1
      generalize bytesOf (l.take k) = s0 at *
      have hsz := hB.size
      have hX' := Lib.hid hX
      clear hc hx hA d0 d1 d2 d3 d4 d5 d6 d7 d8 d9 hs1 hX
      go_wp2
      go_roundw
      case rel => exact ⟨k + 1, by omega, by go_num, by rw [hs1'.out, hs.out]; go_num, hB.alloc hB.size _, hX'.out.below ((Below.refl _ _).alloc (Nat.le_refl _) _)⟩
      case measure => simp [intOf]; omega
    · have hk2 : k = l.length := by omega
      subst hk2
      have hnl : ¬ (l.length < l.length) := by omega
      rw [List.take_length]
      have c0 : wr.cell? ⟨w.heap.size, 0, none⟩ = some (.slice sa sn sc) := (hX.cell 0).trans rfl
      clear hA hX
      by_cases h12 : sn ≤ 12
      · have t12 : decide ((sn : Int) ≤ 12) = true := decide_eq_true (by omega)
        have e1 : fewK sn l = decide (bytesOf l ≤ 2000) := by unfold fewK; rw [decide_eq_true h12, decide_eq_true hsmall]; simp
        have e1' := Lib.hid e1
        clear e1
        go_wp2
        go_ret
        exact ⟨by rw [e1'.out]; simp; omega, hB⟩
      · have t12 : decide ((sn : Int) ≤ 12) = false := decide_eq_false (by omega)
        have e1 : fewK sn l = false := by unfold fewK; rw [decide_eq_false h12]; rfl
        have e1' := Lib.hid e1
        clear e1
        go_wp2
        go_ret
        exact ⟨by rw [e1'.out]; rfl, hB⟩
theorem few_long (sa : Option Addr) (sn sc : Nat) (up : Bool) (seed room : Int) (v : Value) (l : List Op) (w : World) (hsn : sn ≤ 9223372036854775807) (hv : Script w v l) (hbig : 60 < l.length) :
    Calls Try.prog 5 #[.agg #[.slice sa sn sc, .bool up, .int .u64 seed, .int .i64 room], v] w fun e w' => e = .returned (.bool false) ∧ Below w.heap.size w w' := by
  obtain ⟨a, cap, rfl, hm, hs, hA⟩ := hv
  have hd : decide ((l.length : Int) ≤ 60) = false := decide_eq_false (by omega)
  have hB0 := Lib.hid ((Below.refl w.heap.size w).alloc (Nat.le_refl _) (.cells #[.slice sa sn sc, .bool up, .int .u64 seed, .int .i64 room] 25))
  have hX0 := Lib.hid (Blk.new w 25 #[.slice sa sn sc, .bool up, .int .u64 seed, .int .i64 room])
  clear hs
  go_enter Try.func5, Try.ntmps5
  go_wp2
  go_loopw [5, 10] (fun nv iv wr => ∃ (k : Nat) (y : Int), k ≤ l.length ∧ iv = .int .i64 k ∧ nv = .int .i64 y ∧ Below w.heap.size w wr ∧ Blk wr w.heap.size 25 #[.slice sa sn sc, .bool up, .int .u64 seed, .int .i64 room]) (fun _ iv _ => l.length - (intOf iv).toNat)
  case atStart => exact ⟨0, 0, by omega, rfl, rfl, hB0.out, hX0.out⟩
  case round =>
    obtain ⟨k, y, hk, rfl, rfl, hB, hX⟩ := hrel
    by_cases hlt : k < l.length
    · obtain ⟨g, o, rfl, hc⟩ := hA (by intro h; subst h; simp at hlt)
      have hx : l[k]? = some l[k] := List.getElem?_eq_getElem hlt
      obtain ⟨d0, d1, d2, d3, d4, d5, d6, d7, d8, d9⟩ := hc k _ hx
      generalize l[k] = p at *
      obtain ⟨p0, p1, p2, p3, ⟨t0, t1, t2, t3, t4, t5⟩⟩ := p
      dsimp only at *
      have d0' := bcells hB d0
      have d1' := bcells hB d1
      have d2' := bcells hB d2
      have d3' := bcells hB d3
      have d4' := bcells hB d4
      have d5' := bcells hB d5
      have d6' := bcells hB d6
      have d7' := bcells hB d7
      have d8' := bcells hB d8
      have d9' := bcells hB d9
      have hsz := hB.size
      have hX' := Lib.hid hX
      clear hc hx hA d0 d1 d2 d3 d4 d5 d6 d7 d8 d9 hX
      go_wp2
      go_roundw
      case rel => exact ⟨k + 1, _, by omega, by go_num, rfl, hB.alloc hB.size _, hX'.out.below ((Below.refl _ _).alloc (Nat.le_refl _) _)⟩
      case measure => simp [intOf]; omega
    · have hk2 : k = l.length := by omega
      subst hk2
      have hnl : ¬ (l.length < l.length) := by omega
      have c0 : wr.cell? ⟨w.heap.size, 0, none⟩ = some (.slice sa sn sc) := (hX.cell 0).trans rfl
      clear hA hX
      by_cases h12 : sn ≤ 12
      · have t12 : decide ((sn : Int) ≤ 12) = true := decide_eq_true (by omega)
        go_wp2
        go_ret
        exact ⟨rfl, hB⟩
      · have t12 : decide ((sn : Int) ≤ 12) = false := decide_eq_false (by omega)
        go_wp2
        go_ret
        exact ⟨rfl, hB⟩
theorem few_any (sa : Option Addr) (sn sc : Nat) (up : Bool) (seed room : Int) (v : Value) (l : List Op) (w : World) (hsn : sn ≤ 9223372036854775807) (hv : Script w v l) :
    Calls Try.prog 5 #[.agg #[.slice sa sn sc, .bool up, .int .u64 seed, .int .i64 room], v] w fun e w' => e = .returned (.bool (fewK sn l)) ∧ Below w.heap.size w w' := by
  by_cases h : l.length ≤ 60
  · exact few_short sa sn sc up seed room v l w hsn hv h
  · have e : fewK sn l = false := by unfold fewK; rw [decide_eq_false h]; simp
    rw [e]
    exact few_long sa sn sc up seed room v l w hsn hv (by omega)
variable {w w' : World} {F : Nat → Prop} {b : Nat} {x : Lk}
end Go.Proofs.Ytoiibmcbjjnpbaa.Link
namespace Go.Proofs.Ytoiibmcbjjnpbaa.Link
open Go.RowKit Mem Tick Cargo Toxic Stage Chain
set_option maxRecDepth 100000
set_option linter.unusedVariables false
set_option linter.unusedSimpArgs false
variable {w wr w2 w1 : World} {F : Nat → Prop} {b : Nat} {x y : Lk} {M Q : Int}
theorem live_counts (h : LiveK w wr b x) (ho : OkK x M Q) (hM : M ≤ 1000000000) :
    Calls Try.prog 15 #[ptr b] wr fun e w2 => e = .returned (countsV x) ∧ LiveK w w2 b x ∧ Below wr.heap.size wr w2 := by
  have h' := h
  obtain ⟨F, hC, _⟩ := h
  exact (kCounts_any hC ho hM).mono fun e w2 ⟨he, hb⟩ => ⟨he, h'.below hb, hb⟩
theorem live_done (h : LiveK w wr b x) :
    Calls Try.prog 14 #[ptr b] wr fun e w2 => e = .returned (.bool x.done) ∧ wr = w2 := by
  obtain ⟨F, hC, _⟩ := h
  exact kDone_any hC
theorem off_later {A : Option Addr} {s : ByteArray} {F' : Nat → Prop} (hb : BS w A s) (hp : 0 < s.size) (ho : BS.Off A F) (hs : Stem F F' w) : BS.Off A F' := fun g o e hg => by
  rcases hs g hg with q | q
  · exact ho g o e q
  · exact absurd (bs_lt hb hp e) (Nat.not_lt.2 q)
/-! alive -/
def K0 : Lk := link0 true 7 9 0
def K1 : Lk := sendK K0 0 sAB
def K2 : Lk := finishK K1 0
def K3 : Lk := stepK K2 0 1
def K4 : Lk := stepK K3 0 9
def K5 : Lk := stepK K4 0 9
theorem al1 : putCN K0.c 0 sAB = 2 := by kernel_rfl
theorem al2 : stepB K2 0 1 = ⟨#[97]⟩ ∧ stepE K2 0 1 = 0 := by constructor <;> kernel_rfl
theorem al3 : stepB K3 0 9 = ⟨#[98]⟩ ∧ stepE K3 0 9 = 1 := by constructor <;> kernel_rfl
theorem al4 : (stepB K4 0 9).size = 0 ∧ stepE K4 0 9 = 0 := by constructor <;> kernel_rfl
theorem al5 : K5.done = true ∧ K5.sent = 2 ∧ K5.got = 2 ∧ heldL K5.c.l = 0 ∧ K5.c.lost = 0 := by refine ⟨?_, ?_, ?_, ?_, ?_⟩ <;> kernel_rfl
theorem al6 : K0.sent = 0 ∧ K2.got = 0 ∧ K3.got = 1 ∧ K4.got = 2 := by refine ⟨?_, ?_, ?_, ?_⟩ <;> kernel_rfl
theorem ok0 : OkK K0 0 0 := ok_link0 true 7 9 0 (by decide) (by decide) (by decide)
theorem ok1 : OkK K1 2 0 := (ok0.send 0 sAB).more (by decide) (by decide)
theorem ok2 : OkK K2 2 0 := ⟨ok_close ok1.c 0, by show K1.names.length + 2 = (closeC K1.c 0).l.length; rw [close_len]; exact ok1.n, ok1.d0, ok1.d1, ok1.s0, ok1.s1, ok1.g0, ok1.t0⟩
theorem ok3 : OkK K3 2 60 := (ok2.step 0 1).more (by decide) (by decide)
theorem ok4 : OkK K4 2 120 := (ok3.step 0 9).more (by decide) (by decide)
theorem ok5 : OkK K5 2 180 := (ok4.step 0 9).more (by decide) (by decide)
theorem toxs_nil (w : World) : Toxs w (.slice none 0 0) [] := ⟨none, 0, rfl, by decide, Nat.le_refl _, fun h => absurd rfl h⟩
set_option maxHeartbeats 1000000 in
theorem alive_any (w : World) : Calls Try.prog 6 #[] w fun e w' => e = .returned (.bool true) ∧ Below w.heap.size w w' := by
  have hn := Lib.hid (new_ok (.slice none 0 0) [] true 7 9 0 w (toxs_nil w) (by decide) (by decide) rfl rfl (by decide) (by decide))
  go_enter Try.func6, Try.ntmps6
  go_wp2_with fail
  refine hn.out.mono ?_
  rintro e w0 ⟨b, rfl, F0, hL, hF, hB⟩
  have HL := Lib.hid (show LK w0 F0 b K0 from hL)
  have HF := Lib.hid (And.intro hF hB)
  clear hn hL hF hB
  have k1 := Lib.run_convert_bytes_const (P := Try.prog) w0 36 5 #[.int .u8 97, .int .u8 98] 2 2 Try.underlying36 Try.underlying5
  go_wp2_with fail
  refine (kSend_any (HL.out.below ((Below.refl w0.heap.size w0).alloc (Nat.le_refl _) _)) ok0 0 _ 2 sAB (by decide) (sAB_of w0) (fun g o e hg => by injection e with e; injection e with e; have := HL.out.lt hg; omega) (by decide) (by rw [al6.1]; decide)).mono ?_
  rintro e w1 ⟨rfl, F1, hL1, hD1, hS1⟩
  rw [al1]
  have HL1 := Lib.hid (show LK w1 F1 b K1 from hL1)
  have hD1' := Lib.hid (show Did F0 w0 w1 from ((Did.refl F0 w0).alloc _).trans (Stem.refl _ _) hD1)
  have hS1' := Lib.hid (show Stem F0 F1 w0 from fun j hj => (hS1 j hj).imp id (fun e => by have := (Below.heap_alloc w0); simp at e; omega))
  clear k1 hL1 hD1 hS1 HL
  go_wp2_with fail
  refine (kFinish_any HL1.out ok1 0).mono ?_
  rintro e w2 ⟨rfl, F2, hL2, hD2, hS2⟩
  have HL2 := Lib.hid (show LK w2 F2 b K2 from hL2)
  have hD2' := Lib.hid (hD1'.out.trans hS1'.out hD2)
  have hS2' := Lib.hid (hS1'.out.trans hD1'.out.size hS2)
  clear hL2 hD2 hS2 HL1 hD1' hS1'
  go_wp2_with fail
  refine (kStep_any HL2.out ok2 (by decide) (by decide) (by rw [al6.2.1]; decide) 0 1).mono ?_
  rintro e w3 ⟨A3, c3, F3, rfl, hb3, hn3, hL3, hD3, hS3, ho3⟩
  rw [al2.1] at hb3 ho3 ⊢
  rw [al2.2]
  have HL3 := Lib.hid (show LK w3 F3 b K3 from hL3)
  have hD3' := Lib.hid (hD2'.out.trans hS2'.out hD3)
  have hS3' := Lib.hid (hS2'.out.trans hD2'.out.size hS3)
  have HB3 := Lib.hid (And.intro hb3 (ho3 (by decide)))
  clear hL3 hD3 hS3 HL2 hD2' hS2' hb3 ho3 hn3
  go_wp2_with fail
  refine (kStep_any HL3.out ok3 (by decide) (by decide) (by rw [al6.2.2.1]; decide) 0 9).mono ?_
  rintro e w4 ⟨A4, c4, F4, rfl, hb4, hn4, hL4, hD4, hS4, ho4⟩
  rw [al3.1] at hb4 ho4 ⊢
  rw [al3.2]
  have HL4 := Lib.hid (show LK w4 F4 b K4 from hL4)
  have hD4' := Lib.hid (hD3'.out.trans hS3'.out hD4)
  have hS4' := Lib.hid (hS3'.out.trans hD3'.out.size hS4)
  have HB4 := Lib.hid (And.intro hb4 (ho4 (by decide)))
  have HB34 := Lib.hid (And.intro (BS_did HB3.out.1 HB3.out.2 hD4) (off_later HB3.out.1 (by decide) HB3.out.2 hS4))
  clear hL4 hD4 hS4 HL3 hD3' hS3' hb4 ho4 hn4 HB3
  go_wp2_with fail
  refine (kStep_any HL4.out ok4 (by decide) (by decide) (by rw [al6.2.2.2]; decide) 0 9).mono ?_
  rintro e w5 ⟨A5, c5, F5, rfl, -, -, hL5, hD5, hS5, -⟩
  rw [al4.1, al4.2]
  have HL5 := Lib.hid (show LiveK w w5 b K5 from ⟨F5, hL5, fun j hj => (hS4'.out.trans hD4'.out.size hS5 j hj).elim (HF.out.1 j) (fun e => Nat.le_trans HF.out.2.size e), HF.out.2.trans ((hD4'.out.trans hS4'.out hD5).below HF.out.2.size HF.out.1)⟩)
  have hcv3 : (convert 36 9 (.slice A3 1 c3)).run Try.prog w5 = .ok (.string ⟨#[97]⟩) w5 := conv_bytes c3 (BS_did HB34.out.1 HB34.out.2 hD5)
  have hcv4 : (convert 36 9 (.slice A4 1 c4)).run Try.prog w5 = .ok (.string ⟨#[98]⟩) w5 := conv_bytes c4 (BS_did HB4.out.1 HB4.out.2 hD5)
  have l1 : K5.done = true := al5.1
  have l2 : countsV K5 = .agg #[.int .i64 2, .int .i64 2, .int .i64 0, .int .i64 0] := by unfold countsV; rw [al5.2.1, al5.2.2.1, al5.2.2.2.1, al5.2.2.2.2]; rfl
  clear hL5 hD5 hS5 HL4 hD4' hS4' HB4 HB34
  go_wp2_with (first
    | (go_at_call 14; (with_reducible refine (live_done HL5.out).mono ?_); rintro e w6 ⟨rfl, rfl⟩; rw [l1])
    | (go_at_call 15; (with_reducible refine (live_counts HL5.out ok5 (by decide)).mono ?_); rintro e w7 ⟨rfl, hL, -⟩; rw [l2]; have H7 := Lib.hid hL; clear hL))
  go_ret
  exact ⟨by simp, H7.out.old⟩
end Go.Proofs.Ytoiibmcbjjnpbaa.Link
namespace Go.Proofs.Ytoiibmcbjjnpbaa.Link
open Go.RowKit Mem Tick Cargo Toxic Stage Chain
set_option maxRecDepth 100000
set_option linter.unusedVariables false
set_option linter.unusedSimpArgs false
def Seats (w : World) (v : Value) (L : List Tox) (up : Bool) (seed room : Int) : Prop :=
  ∃ sa sc, v = .agg #[.slice sa L.length sc, .bool up, .int .u64 seed, .int .i64 room] ∧ Toxs w (.slice sa L.length sc) L ∧ 0 ≤ seed ∧ seed < 18446744073709551616
theorem live_new {w wr : World} {sa : Option Addr} {sc : Nat} {L : List Tox} (up : Bool) (seed room now : Int) (hv : Toxs w (.slice sa L.length sc) L) (h : linkE L room = 0) (h0 : 0 ≤ seed) (h1 : seed < 18446744073709551616) (hB : Below w.heap.size w wr) :
    Calls Try.prog 7 #[.slice sa L.length sc, .bool up, .int .u64 seed, .int .i64 room, .int .i64 now] wr fun e w' => ∃ b, e = .returned (.tuple #[ptr b, .int .i64 0]) ∧ LiveK w w' b (linkN L up seed room now) := by
  unfold linkE at h
  split at h
  · exact absurd h (by decide)
  rename_i h2
  split at h
  · rename_i h3; exact absurd h h3
  rename_i h3
  split at h
  · exact absurd h (by decide)
  rename_i h4
  have hr : roomOk room = true := by cases e : roomOk room with | true => rfl | false => exact absurd (.inl e) h2
  refine (new_ok _ L up seed room now wr (hv.below hB) hr (by omega) (by simpa using h3) (by simpa using h4) h0 h1).mono ?_
  rintro e w1 ⟨b, rfl, F, hL, hF, hB1⟩
  exact ⟨b, rfl, F, hL, fun j hj => Nat.le_trans hB.size (hF j hj), bw_below hB hB1⟩
theorem bad_new {wr : World} {v : Value} {L : List Tox} (up : Bool) (seed room now : Int) (hv : Toxs wr v L) (h : linkE L room ≠ 0) :
    Calls Try.prog 7 #[v, .bool up, .int .u64 seed, .int .i64 room, .int .i64 now] wr fun e w' => e = .returned (.tuple #[.pointer none, .int .i64 (linkE L room)]) ∧ Below wr.heap.size wr w' := by
  unfold linkE at h ⊢
  cases hr : roomOk room with
  | false => rw [if_pos (.inl rfl)]; exact new_bad v L up seed room now wr hv hr
  | true =>
    by_cases hl : 8 < L.length
    · rw [if_pos (.inr hl)]; exact new_long v L up seed room now wr hv hr hl
    have e1 : ¬ ((true = false) ∨ 8 < L.length) := by rintro (e | e); cases e; exact hl e
    rw [hr, if_neg e1] at h
    rw [if_neg e1]
    by_cases hf : firstE L = 0
    · rw [if_neg (by simpa using hf)] at h ⊢
      cases hd : dblB L with
      | true => rw [if_pos rfl]; exact new_dbl v L up seed room now wr hv hr (by omega) hf hd
      | false => rw [hd] at h; exact absurd rfl h
    · rw [if_pos hf]; exact new_chk v L up seed room now wr hv hr (by omega) hf
structure OkJ (x : Lk) (l : List Op) (k : Nat) : Prop where
  ok : OkK x (bytesOf (l.take k)) (60000 * k)
  dr : x.drawn ≤ 8 + k
theorem okJ_linkN (L : List Tox) (up : Bool) (seed room now : Int) (h : linkE L room = 0) (h0 : 0 ≤ seed) (h1 : seed < 18446744073709551616) (l : List Op) : OkJ (linkN L up seed room now) l 0 := by
  unfold linkE at h
  split at h
  · exact absurd h (by decide)
  rename_i h2
  have hr : roomOk room = true := by cases e : roomOk room with | true => rfl | false => exact absurd (.inl e) h2
  have := ok_linkN L up seed room now hr h0 h1 (by omega)
  exact ⟨this.1.more (by simp [bytesOf]) (by omega), by have := this.2; omega⟩
end Go.Proofs.Ytoiibmcbjjnpbaa.Link
namespace Go.Proofs.Ytoiibmcbjjnpbaa.Link
open Go.RowKit Mem Tick Cargo Toxic Stage Chain
set_option maxRecDepth 100000
set_option linter.unusedVariables false
set_option linter.unusedSimpArgs false
def FreshN (w w' : World) (v : Value) (l : List ByteArray) : Prop := NV w' v l ∧ (∀ k, v.ownBlock = some k → w.heap.size ≤ k) ∧ Below w.heap.size w w'
theorem cloneS_none {w : World} {c : Nat} :
    Calls Try.prog 24 #[.slice none 0 c] w fun e w' => e = .returned (.slice none 0 0) ∧ w = w' := by
  have he := fun W => Lib.run_eql_slice_nil (P := Try.prog) W 41 9 none 0 c 0 0 Try.underlying41
  go_enter Try.func24, Try.ntmps24
  go_wp2
  go_ret
  exact ⟨rfl, rfl⟩
theorem cloneS_zero {w : World} {a : Addr} {c : Nat} :
    Calls Try.prog 24 #[.slice (some a) 0 c] w fun e w' => e = .returned (.slice (some ⟨w.heap.size, 0, none⟩) 0 0) ∧ w.alloc (.cells #[] 9) = w' := by
  have he := fun W => Lib.run_eql_slice_nil (P := Try.prog) W 41 9 (some a) 0 c 0 0 Try.underlying41
  go_enter Try.func24, Try.ntmps24
  go_wp2
  go_ret
  exact ⟨rfl, rfl⟩
theorem heap_new' (w : World) (cs : Array Value) (t : TypeId) : (w.alloc (.cells cs t)).heap[w.heap.size]? = some (.cells cs t) := Blk.new w t cs
theorem cloneS_some {w : World} {g c n : Nat} {l : List ByteArray} (hn : l.length = n) (h0 : 0 < n) (h : ∀ j u, (l.map Value.string)[j]? = some u → w.cell? ⟨g, j, none⟩ = some u) (hn' : n ≤ 1000) :
    Calls Try.prog 24 #[.slice (some ⟨g, 0, none⟩) n c] w fun e w' => ∃ v, e = .returned v ∧ FreshN w w' v l := by
  have H := Lib.hid h
  have hN := Lib.hid hn
  clear h hn
  have he := fun W => Lib.run_eql_slice_nil (P := Try.prog) W 41 9 (some ⟨g, 0, none⟩) n c 0 0 Try.underlying41
  obtain ⟨i0, hi, hz0, hz1, hz2⟩ := info_parts info_st
  have hq0 : (w.alloc (.cells #[] 9)).ownsRow w.heap.size 9 1 (.slice (some ⟨w.heap.size, 0, none⟩) 0 0) 0 [] := ⟨rfl, .inr ⟨w.heap.size, 0, #[], rfl, Nat.le_refl _, heap_new' w _ _, Nat.le_refl _, Nat.zero_le _, rfl, rfl⟩⟩
  have hq1 := Lib.hid hq0
  clear hq0
  go_enter Try.func24, Try.ntmps24
  have hcl : ∀ j u, (l.map Value.string)[j]? = some u → (w.alloc (.cells #[] 9)).cell? ((⟨g, 0, none⟩ : Addr).add j) = some u := fun j u hu => by
    have z := H.out j u hu
    have e : ((⟨g, 0, none⟩ : Addr).add j) = ⟨g, j, none⟩ := by unfold Addr.add; split <;> simp_all
    rw [e]
    exact (World.cell?_of_block (Below.heap_alloc _ _ _ (World.block_lt_of_cell? w _ z))).trans z
  have hHc := Lib.hid hcl
  clear hcl
  go_wp2_with (at_builtin; refine wpList_append_own_at _ rfl (.tmp 5) (.tmp 6) 41 rfl w.heap.size 9 i0 (.string ⟨#[]⟩) 1 16 Try.underlying41 hi hz0 hz1 hz2 rfl (by decide) _ 0 [] rfl hq1.out ⟨g, 0, none⟩ n c (l.map Value.string) rfl (by rw [List.length_map, hN.out, Nat.mul_one]) hHc.out (fun u hu => by obtain ⟨s, _, rfl⟩ := List.mem_map.1 hu; rfl) (by unfold maxLen; omega) (by omega) (by simp) ?_; intro v1 w1 hq hg hnn hat)
  go_ret
  refine ⟨_, rfl, ?_, ?_, ?_⟩
  · refine NV.of_owns (base := w.heap.size) ?_
    rw [hN.out]
    simpa using hq
  · intro k hk
    exact (hq.lt k hk).1
  · exact ((Below.refl w.heap.size w).alloc (Nat.le_refl _) _).grown hg (by simp) fun j c => (hq1.out.lt j c).1
theorem clone_str {w : World} {v : Value} {l : List ByteArray} (h : NV w v l) (hn : l.length ≤ 1000) :
    Calls Try.prog 24 #[v] w fun e w' => ∃ v', e = .returned v' ∧ FreshN w w' v' l := by
  rcases h with ⟨rfl, rfl⟩ | ⟨g, cap, rfl, ⟨rest, hb, hl⟩, hc⟩
  · exact cloneS_none.mono fun e w' ⟨he, hw⟩ => ⟨_, he, hw ▸ ⟨.inl ⟨rfl, rfl⟩, fun k hk => by simp [Value.ownBlock] at hk, Below.refl _ _⟩⟩
  by_cases h0 : 0 < l.length
  · refine cloneS_some rfl h0 (fun j u hu => ?_) hn
    refine (hb.cell j).trans ?_
    rw [List.getElem?_toArray, List.getElem?_append_left (List.getElem?_eq_some_iff.1 hu).1, hu]
  · have hp : l = [] := List.eq_nil_of_length_eq_zero (by omega)
    subst hp
    refine cloneS_zero.mono fun e w' ⟨he, hw⟩ => ⟨_, he, ?_⟩
    subst hw
    refine ⟨.inr ⟨w.heap.size, 0, rfl, ⟨[], Blk.new w 9 #[], rfl⟩, by decide⟩, fun k hk => ?_, (Below.refl _ _).alloc (Nat.le_refl _) _⟩
    have : w.heap.size = k := by simpa [Value.ownBlock] using hk
    omega
theorem kNames_any {w : World} {F : Nat → Prop} {b : Nat} {x : Lk} (h : LK w F b x) (hn : x.names.length ≤ 1000) :
    Calls Try.prog 12 #[ptr b] w fun e w' => ∃ v', e = .returned v' ∧ FreshN w w' v' x.names := by
  obtain ⟨G, c, D, v, h⟩ := h
  have c1 : w.cell? ⟨b, 1, none⟩ = some v := (h.cell 1).trans rfl
  have hC := Lib.hid (clone_str h.2.2.2.1 hn)
  clear h
  go_enter Try.func12, Try.ntmps12
  go_wp2_with fail
  refine hC.out.mono ?_
  rintro e w1 ⟨v', rfl, hF⟩
  have hF' := Lib.hid hF
  clear hF
  go_wp2
  go_ret
  exact ⟨v', rfl, hF'.out⟩
end Go.Proofs.Ytoiibmcbjjnpbaa.Link
