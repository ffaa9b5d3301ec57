/- A stage (chapter 10): what it is in memory; its small functions. Conditions: the bytes are fewer than 2^45. -/
import Derived.Test.YtehpliclknfmoaaGreatC19
import Derived.Test.YtehpliclknfmoaaGreatC12
import Derived.Test.YtehpliclknfmoaaGreatC8
import Derived.Test.YtehpliclknfmoaaGreatC4
import Derived.Test.YtehpliclknfmoaaGreatC5
import Derived.Deep.DeepCutAuto
import Derived.Deep.MidRow
import Derived.Test.YtehpliclknfmoaaGreatC20
import Derived.Test.YtehpliclknfmoaaGreatC16
import Derived.BigQuiet
namespace Go.Proofs.YtehpliclknfmoaaGreat.Stage
open Go.RowKit Mem Tick Cargo Toxic
open Go.Proofs.YtehpliclknfmoaaGreatW.PrintLast
set_option maxRecDepth 100000
set_option linter.unusedVariables false
set_option linter.unusedSimpArgs false
structure Sg where
  t : Tox
  dice : Int
  b0 : Int
  b1 : Int
  b2 : Int
  b3 : Int
  c : St
  room : Int
  began : Int
  clock : Int
  pause : Int
  passed : Int
  closed : Bool
  at_ : Int
  state : Int
def scells (k : Nat) (s : Sg) : Array Value := #[.pointer (some ⟨k, 0, none⟩), .string s.t.name, .int .i64 s.t.kind, .bool s.t.up, .int .i64 s.t.often, .int .i64 s.t.a, .int .i64 s.t.b, .int .u64 s.dice, .int .i64 s.b0, .int .i64 s.b1, .int .i64 s.b2, .int .i64 s.b3,
  .int .i64 s.room, .int .i64 s.began, .int .i64 s.clock, .int .i64 s.pause, .int .i64 s.passed, .bool s.closed, .int .i64 s.at_, .int .i64 s.state]
def SG (w : World) (F : Nat → Prop) (b k : Nat) (s : Sg) : Prop :=
  ∃ G, Blk w b 59 (scells k s) ∧ CG w G k s.c.1 s.c.2 ∧ ∀ j, F j ↔ (j = b ∨ G j)
variable {w w' : World} {F : Nat → Prop} {b k : Nat} {s : Sg}
theorem SG.blk (h : SG w F b k s) : Blk w b 59 (scells k s) := by obtain ⟨G, h, _⟩ := h; exact h
theorem SG.typed (h : SG w F b k s) : Typed w F [59, 83, 100] := by
  obtain ⟨G, hb, hc, hF⟩ := h
  intro j hj
  rcases (hF j).1 hj with rfl | hg
  · exact ⟨_, by simp, _, hb⟩
  · obtain ⟨t, ht, cs, hb⟩ := hc.typed j hg
    exact ⟨t, List.mem_cons_of_mem _ ht, cs, hb⟩
theorem SG.lt (h : SG w F b k s) {j : Nat} (hj : F j) : j < w.heap.size := h.typed.lt hj
theorem SG.mine (h : SG w F b k s) : F b := by obtain ⟨G, _, _, hF⟩ := h; exact (hF b).2 (.inl rfl)
theorem SG.kept (h : SG w F b k s) (hk : ∀ j, F j → w'.heap[j]? = w.heap[j]?) : SG w' F b k s := by
  obtain ⟨G, hb, hc, hF⟩ := h
  exact ⟨G, (hk b ((hF b).2 (.inl rfl))).trans hb, hc.kept fun j hj => hk j ((hF j).2 (.inr hj)), hF⟩
theorem SG.below (h : SG w F b k s) (hb : Below w.heap.size w w') : SG w' F b k s := h.kept fun j hj => hb.block j (h.lt hj)
theorem SG.drew (h : SG w F b k s) : SG w.drew F b k s := h.kept fun _ _ => rfl
theorem SG.set (h : SG w F b k s) (i : Nat) (u : Value) (s' : Sg) (hs : (scells k s).setIfInBounds i u = scells k s') (hc : s'.c = s.c) : SG (w.setCell ⟨b, i, none⟩ u) F b k s' := by
  obtain ⟨G, hb, hg, hF⟩ := h
  have hb2 := hb.set_ i u
  rw [hs] at hb2
  refine ⟨G, hb2, ?_, hF⟩
  rw [hc]
  refine hg.kept fun j hj => Below.heap_setCell _ _ _ j ?_
  rintro rfl
  exact hg.typed.out hb (by decide) hj
theorem SG.cargo {G : Nat → Prop} {w' : World} {s' : Sg} (hb : Blk w b 59 (scells k s)) (hc : CG w G k s.c.1 s.c.2) (hF : ∀ j, F j ↔ (j = b ∨ G j)) {G' : Nat → Prop} (hc' : CG w' G' k s'.c.1 s'.c.2) (hd : Did G w w') (hs : Stem G G' w)
    (he : scells k s = scells k s') : SG w' (fun j => j = b ∨ G' j) b k s' ∧ Did F w w' ∧ Stem F (fun j => j = b ∨ G' j) w := by
  refine ⟨⟨G', ?_, hc', fun j => Iff.rfl⟩, hd.more fun j hj => .inl ((hF j).2 (.inr hj)), fun j hj => ?_⟩
  · rw [← he]; exact hb.did hd (hc.typed.out hb (by decide))
  · rcases hj with rfl | hj
    · exact .inl ((hF j).2 (.inl rfl))
    · exact (hs j hj).imp (fun h => (hF j).2 (.inr h)) id
def held (s : Sg) : Nat := tot s.c.1
theorem held_any (h : SG w F b k s) (ht : held s ≤ 1000000000000) :
    Calls Tryz.prog 11 #[.pointer (some ⟨b, 0, none⟩)] w fun e w' => e = .returned (.int .i64 (held s)) ∧ Below w.heap.size w w' := by
  obtain ⟨G, hb, hc, hF⟩ := h
  have c0 : w.cell? ⟨b, 0, none⟩ = some (.pointer (some ⟨k, 0, none⟩)) := (hb.cell 0).trans rfl
  have hC := Lib.hid hc
  unfold held at ht ⊢
  clear hb hF hc
  go_enter Tryz.func11, Tryz.ntmps11
  go_wp2_with fail
  refine (len_any hC.out (by omega)).mono ?_
  rintro e w1 ⟨rfl, hB⟩
  have hB' := Lib.hid hB
  clear hB
  go_wp2
  go_ret
  exact ⟨rfl, hB'.out⟩
theorem passed_any (h : SG w F b k s) :
    Calls Tryz.prog 12 #[.pointer (some ⟨b, 0, none⟩)] w fun e w' => e = .returned (.int .i64 s.passed) ∧ w = w' := by
  have c0 : w.cell? ⟨b, 16, none⟩ = some (.int .i64 s.passed) := (h.blk.cell 16).trans rfl
  clear h
  go_enter Tryz.func12, Tryz.ntmps12
  go_wp2
  go_ret
  exact ⟨rfl, rfl⟩
end Go.Proofs.YtehpliclknfmoaaGreat.Stage
namespace Go.Proofs.YtehpliclknfmoaaGreat.Stage
open Go.RowKit Mem Tick Cargo Toxic
open Go.Proofs.YtehpliclknfmoaaGreatW.PrintLast Pu
set_option maxRecDepth 100000
set_option linter.unusedVariables false
set_option linter.unusedSimpArgs false
variable {w w' : World} {F : Nat → Prop} {b k : Nat} {s : Sg}
def nowP (s : Sg) (n : Int) : Sg := { s with clock := max s.clock (add n 0) }
def lateB (s : Sg) (since n : Int) : Bool := decide (add since n ≤ s.clock)
def endedB (s : Sg) : Bool := s.closed && decide (held s = 0) && (decide (s.t.kind ≠ 7) || lateB s s.at_ s.t.a)
def lookS (s : Sg) : Int :=
  if s.state ≠ 0 then s.state else if s.t.kind = 5 ∧ lateB s s.began s.t.a = true then 2 else if s.t.kind = 4 then (if lateB s s.began s.t.a = true then 1 else 0)
  else if s.t.kind = 6 ∧ s.t.a ≤ s.passed then 1 else if endedB s = true then 1 else 0
def lookP (s : Sg) (n : Int) : Sg := { nowP s n with state := lookS (nowP s n) }
theorem below_drew {w w1 : World} (hB : Below w.drew.heap.size w.drew w1) : Below w.heap.size w w1 := ⟨hB.os, hB.tape, hB.output, hB.size, hB.block⟩
theorem now_any (h : SG w F b k s) (n : Int) :
    Calls Tryz.prog 49 #[.pointer (some ⟨b, 0, none⟩), .int .i64 n] w fun e w' => e = .returned (.int .i64 (nowP s n).clock) ∧ SG w' F b k (nowP s n) ∧ Did F w w' := by
  have c14 : w.cell? ⟨b, 14, none⟩ = some (.int .i64 s.clock) := (h.blk.cell 14).trans rfl
  have f14 := h.blk.free 14
  have H := Lib.hid h
  have hbl : b < w.heap.size := h.lt h.mine
  clear h
  go_enter Tryz.func49, Tryz.ntmps49
  go_wp2
  refine start_ (n := 11) (S := fun w' => w'.cell? ⟨b, 14, none⟩ = some (.int .i64 s.clock)) (ds := [10]) (m_ 11 0) (by kernel_rfl) rfl (by kernel_rfl) (c14) (fun hHeld => ?_)
  refine pq_ 0 5 11 1 ?_
  refine pq_ 1 6 11 3 ?_
  refine pq_ 2 7 11 7 ?_
  refine pq_ 3 8 11 15 ?_
  refine pq_ 5 10 11 47 ?_
  refine tq_ 4 9 11 63 hHeld ?_
  refine one_ (i := 6) (N := some 11) (m_ 11 127) rfl rfl (by kernel_rfl) (by decide) (fun K hK => ?_)
  refine goes_ Tryz.func14 (by kernel_rfl) rfl #[.int .i64 n, .int .i64 0] (by rfl) rfl rfl (by simp only [List.map_toArray, List.map_cons, List.map_nil]; rfl) ?_
  with_reducible refine (add_any n 0 w.drew).mono ?_
  rintro e w1 ⟨rfl, rfl⟩
  refine ⟨_, rfl, ?_⟩
  refine hK.out _ _ (c14) (fun hHeld => ?_)
  clear hK K
  refine norm_ (a' := ?_) ?_ ?_
  rotate_left
  · show Act.put _ (some 11) _ = _
    simp only [Act.put, List.setIfInBounds_toArray, List.set_cons_zero, List.set_cons_succ, i64_w, i32_w]
    rfl
  refine pq_ 7 12 11 255 ?_
  refine pq_ 8 13 11 511 ?_
  refine pq_ 9 14 11 1023 ?_
  refine last_ (i := 10) (N := none) (m_ 11 2047) rfl rfl (by kernel_rfl) (by decide) (fun K hK => ?_)
  refine skip_ (w1 := ?_) (by rfl) rfl ?_ ?_
  rotate_left
  · go_simp
    rfl
  refine hK.out _ _ ?_
  clear hK K
  refine done_ (by kernel_rfl) ?_
  go_wp2
  go_ret
  refine ⟨rfl, H.out.drew.set 14 _ (nowP s n) rfl rfl, ((Did.refl F w).drew).setCell (.inl H.out.mine) _⟩
theorem over_any (h : SG w F b k s) (since n : Int) :
    Calls Tryz.prog 50 #[.pointer (some ⟨b, 0, none⟩), .int .i64 since, .int .i64 n] w fun e w' => e = .returned (.bool (lateB s since n)) ∧ Below w.heap.size w w' := by
  have c14 : w.cell? ⟨b, 14, none⟩ = some (.int .i64 s.clock) := (h.blk.cell 14).trans rfl
  have H := Lib.hid h
  clear h
  go_enter Tryz.func50, Tryz.ntmps50
  go_wp2
  refine start_ (n := 9) (S := fun w' => w'.cell? ⟨b, 14, none⟩ = some (.int .i64 s.clock)) (ds := []) (m_ 9 0) (by kernel_rfl) rfl (by kernel_rfl) (c14) (fun hHeld => ?_)
  refine pq_ 0 7 9 1 ?_
  refine pq_ 1 8 9 3 ?_
  refine pq_ 2 9 9 7 ?_
  refine pq_ 4 11 9 23 ?_
  refine pq_ 5 12 9 55 ?_
  refine tq_ 3 10 9 63 hHeld ?_
  refine one_ (i := 6) (N := some 13) (m_ 9 127) rfl rfl (by kernel_rfl) (by decide) (fun K hK => ?_)
  refine goes_ Tryz.func14 (by kernel_rfl) rfl #[.int .i64 since, .int .i64 n] (by rfl) rfl rfl (by simp only [List.map_toArray, List.map_cons, List.map_nil]; rfl) ?_
  with_reducible refine (add_any since n w.drew).mono ?_
  rintro e w1 ⟨rfl, rfl⟩
  refine ⟨_, rfl, ?_⟩
  refine hK.out _ _ (c14) (fun hHeld => ?_)
  clear hK K
  refine norm_ (a' := ?_) ?_ ?_
  rotate_left
  · show Act.put _ (some 13) _ = _
    simp only [Act.put, List.setIfInBounds_toArray, List.set_cons_zero, List.set_cons_succ, i64_w, i32_w]
    rfl
  refine pq_ 7 14 9 255 ?_
  refine pq_ 8 6 9 511 ?_
  refine done_ (by kernel_rfl) ?_
  go_wp2
  go_ret
  exact ⟨rfl, (Below.refl _ _).drew⟩
theorem wr_room (r : Int) (h : Nat) (h0 : 0 ≤ r) (h1 : r ≤ 1000000000000) (h2 : h ≤ 1000000000000) : wrap64 (r - (h : Int)) = r - (h : Int) := by unfold wrap64; omega
def free (s : Sg) : Int := max (s.room - (held s : Int)) 0
theorem free_any (h : SG w F b k s) (ht : held s ≤ 1000000000000) (h0 : 0 ≤ s.room) (h1 : s.room ≤ 1000000000000) :
    Calls Tryz.prog 45 #[.pointer (some ⟨b, 0, none⟩)] w fun e w' => e = .returned (.int .i64 (free s)) ∧ Below w.heap.size w w' := by
  have c12 : w.cell? ⟨b, 12, none⟩ = some (.int .i64 s.room) := (h.blk.cell 12).trans rfl
  have H := Lib.hid h
  have hfd := Lib.hid (show free s = max (s.room - (held s : Int)) 0 from rfl)
  clear h
  go_enter Tryz.func45, Tryz.ntmps45
  go_wp2
  refine start_ (n := 9) (S := fun w' => w'.cell? ⟨b, 12, none⟩ = some (.int .i64 s.room)) (ds := []) (m_ 9 0) (by kernel_rfl) rfl (by kernel_rfl) (c12) (fun hHeld => ?_)
  refine pq_ 0 3 9 1 ?_
  refine pq_ 1 4 9 3 ?_
  refine pq_ 2 5 9 7 ?_
  refine pq_ 4 7 9 23 ?_
  refine tq_ 3 6 9 31 hHeld ?_
  refine one_ (i := 5) (N := some 8) (m_ 9 63) rfl rfl (by kernel_rfl) (by decide) (fun K hK => ?_)
  refine goes_ Tryz.func11 (by kernel_rfl) rfl #[.pointer (some ⟨b, 0, none⟩)] (by rfl) rfl rfl (by simp only [List.map_toArray, List.map_cons, List.map_nil]; rfl) ?_
  with_reducible refine (held_any (w := w.drew) H.out.drew ht).mono ?_
  rintro e w1 ⟨rfl, hB⟩
  have hB1 := below_drew hB
  have c12b := bcells hB1 c12
  have HB := Lib.hid hB1
  clear hB hB1
  refine ⟨_, rfl, ?_⟩
  refine hK.out _ _ (c12b) (fun hHeld => ?_)
  clear hK K
  refine norm_ (a' := ?_) ?_ ?_
  rotate_left
  · show Act.put _ (some 8) _ = _
    simp only [Act.put, List.setIfInBounds_toArray, List.set_cons_zero, List.set_cons_succ, i64_w, i32_w]
    rfl
  refine pq_ 6 9 9 127 ?_
  refine pq_ 7 10 9 255 ?_
  refine pq_ 8 2 9 511 ?_
  refine done_ (by kernel_rfl) ?_
  go_wp2
  go_ret
  refine ⟨?_, HB.out⟩
  rw [hfd.out]
  show Ending.returned (.int .i64 (max (wrap64 (s.room - (held s : Int))) 0)) = _
  rw [wr_room s.room (held s) h0 h1 ht]
end Go.Proofs.YtehpliclknfmoaaGreat.Stage
namespace Go.Proofs.YtehpliclknfmoaaGreat.Stage
open Go.RowKit Mem Tick Cargo Toxic
open Go.Proofs.YtehpliclknfmoaaGreatW.PrintLast Pu
set_option maxRecDepth 100000
set_option linter.unusedVariables false
set_option linter.unusedSimpArgs false
variable {w w' : World} {F : Nat → Prop} {b k : Nat} {s : Sg}
set_option maxHeartbeats 4000000 in
theorem state_any (h : SG w F b k s) (ht : held s ≤ 1000000000000) (n : Int) :
    Calls Tryz.prog 24 #[.pointer (some ⟨b, 0, none⟩), .int .i64 n] w fun e w' => e = .returned (.int .i64 (lookP s n).state) ∧ SG w' F b k (lookP s n) ∧ Did F w w' := by
  have H := Lib.hid h
  have hlp := Lib.hid (show lookP s n = { nowP s n with state := lookS (nowP s n) } from rfl)
  have hth : held (nowP s n) ≤ 1000000000000 := ht
  clear h ht
  generalize lookP s n = sL at *
  go_enter Tryz.func24, Tryz.ntmps24
  go_wp2_with fail
  refine (now_any H.out n).mono ?_
  rintro e w1 ⟨rfl, HS, HD⟩
  have hsl := hlp.out
  clear hlp
  generalize nowP s n = s1 at *
  subst hsl
  replace HS := Lib.hid HS
  replace HD := Lib.hid HD
  clear H
  go_wp2
  go_cut [5] (fun v wx => ∃ E : Bool, v = .bool E ∧ Hid (endedB s1 = E) ∧ SG wx F b k s1 ∧ Did F w wx)
  case first =>
    by_cases hc : s1.closed = true
    · have hclosed := Lib.hid hc
      by_cases hz : held s1 = 0
      · have hzz : (((held s1 : Nat) : Int) == 0) = true := by rw [hz]; rfl
        by_cases k7 : s1.t.kind = 7
        · have hkind := k7
          have hE := Lib.hid (show endedB s1 = lateB s1 s1.at_ s1.t.a by unfold endedB; rw [hclosed.out, hz, hkind]; simp)
          clear hc hz k7
          have c17 : w1.cell? ⟨b, 17, none⟩ = some (.bool true) := (HS.out.blk.cell 17).trans (by rw [show (scells k s1)[17]? = some (.bool s1.closed) from rfl, hclosed.out])
          have c2 : w1.cell? ⟨b, 2, none⟩ = some (.int .i64 7) := (HS.out.blk.cell 2).trans (by rw [show (scells k s1)[2]? = some (.int .i64 s1.t.kind) from rfl, hkind])
          have c18 : w1.cell? ⟨b, 18, none⟩ = some (.int .i64 s1.at_) := (HS.out.blk.cell 18).trans rfl
          have c5 : w1.cell? ⟨b, 5, none⟩ = some (.int .i64 s1.t.a) := (HS.out.blk.cell 5).trans rfl
          refine start_ (n := 31) (S := fun w' => w'.cell? ⟨b, 17, none⟩ = some (.bool true) ∧ w'.cell? ⟨b, 2, none⟩ = some (.int .i64 7) ∧ w'.cell? ⟨b, 18, none⟩ = some (.int .i64 s1.at_) ∧ w'.cell? ⟨b, 5, none⟩ = some (.int .i64 s1.t.a)) (ds := []) (m_ 31 0) (by kernel_rfl) rfl (by kernel_rfl) ⟨c17, c2, c18, c5⟩ (fun hHeld => ?_)
          refine pq_ 0 9 31 1 ?_
          refine pq_ 1 10 31 3 ?_
          refine pq_ 2 11 31 7 ?_
          refine tq_ 3 12 31 15 hHeld ?_
          refine pq_ 4 13 31 31 ?_
          refine pq_ 5 14 31 63 ?_
          refine one_ (i := 6) (N := some 15) (m_ 31 127) rfl rfl (by kernel_rfl) (by decide) (fun K hK => ?_)
          refine goes_ Tryz.func11 (by kernel_rfl) rfl #[.pointer (some ⟨b, 0, none⟩)] (by rfl) rfl rfl (by simp only [List.map_toArray, List.map_cons, List.map_nil]; rfl) ?_
          with_reducible refine (held_any (w := w1.drew) HS.out.drew hth).mono ?_
          rintro e w2 ⟨rfl, hB⟩
          have hB1 := below_drew hB
          have HS1 := Lib.hid (HS.out.below hB1)
          have HD1 := Lib.hid (HD.out.trans (Stem.refl F _) (Did.of_below hB1))
          have d0_17 := bcells hB1 c17
          have d0_2 := bcells hB1 c2
          have d0_18 := bcells hB1 c18
          have d0_5 := bcells hB1 c5
          clear hB hB1
          refine ⟨_, rfl, ?_⟩
          refine hK.out _ _ ⟨d0_17, d0_2, d0_18, d0_5⟩ (fun hHeld => ?_)
          clear hK K
          refine norm_ (a' := ?_) ?_ ?_
          rotate_left
          · show Act.put _ (some 15) _ = _
            simp only [Act.put, List.setIfInBounds_toArray, List.set_cons_zero, List.set_cons_succ, i64_w, i32_w]
            rfl
          refine pq_ 7 16 31 255 ?_
          refine pq_ 8 17 31 511 ?_
          refine pq_ 9 18 31 1023 ?_
          refine pq_ 10 19 31 2047 ?_
          refine pq_ 11 20 31 4095 ?_
          refine pq_ 12 21 31 8191 ?_
          refine pq_ 13 22 31 16383 ?_
          refine tq_ 14 23 31 32767 hHeld ?_
          refine pq_ 15 24 31 65535 ?_
          refine pq_ 16 25 31 131071 ?_
          refine pq_ 17 26 31 262143 ?_
          refine pq_ 18 27 31 524287 ?_
          refine pq_ 19 28 31 1048575 ?_
          refine pq_ 20 29 31 2097151 ?_
          refine pq_ 22 31 31 6291455 ?_
          refine pq_ 23 32 31 14680063 ?_
          refine pq_ 24 33 31 31457279 ?_
          refine pq_ 25 34 31 65011711 ?_
          refine tq_ 21 30 31 67108863 hHeld ?_
          refine tq_ 26 35 31 134217727 hHeld ?_
          refine one_ (i := 27) (N := some 36) (m_ 31 268435455) rfl rfl (by kernel_rfl) (by decide) (fun K hK => ?_)
          refine goes_ Tryz.func50 (by kernel_rfl) rfl #[.pointer (some ⟨b, 0, none⟩), .int .i64 s1.at_, .int .i64 s1.t.a] (by rfl) rfl rfl (by simp only [List.map_toArray, List.map_cons, List.map_nil]; rfl) ?_
          with_reducible refine (over_any (w := w2) HS1.out s1.at_ s1.t.a).mono ?_
          rintro e w3 ⟨rfl, hB⟩
          have hB1 := hB
          have HS2 := Lib.hid (HS1.out.below hB1)
          have HD2 := Lib.hid (HD1.out.trans (Stem.refl F _) (Did.of_below hB1))
          have d1_17 := bcells hB1 d0_17
          have d1_2 := bcells hB1 d0_2
          have d1_18 := bcells hB1 d0_18
          have d1_5 := bcells hB1 d0_5
          clear hB hB1
          refine ⟨_, rfl, ?_⟩
          refine hK.out _ _ ⟨d1_17, d1_2, d1_18, d1_5⟩ (fun hHeld => ?_)
          clear hK K
          refine norm_ (a' := ?_) ?_ ?_
          rotate_left
          · show Act.put _ (some 36) _ = _
            simp only [Act.put, List.setIfInBounds_toArray, List.set_cons_zero, List.set_cons_succ, i64_w, i32_w]
            rfl
          refine pq_ 28 37 31 536870911 ?_
          refine pq_ 29 38 31 1073741823 ?_
          refine pq_ 30 5 31 2147483647 ?_
          refine done_ (by kernel_rfl) ?_
          replace HS := HS2
          replace HD := HD2
          clear HS1 HD1
          clear HS2 HD2
          clear d0_17 d0_2 d0_18 d0_5
          clear d1_17 d1_2 d1_18 d1_5
          clear hHeld
          clear c17 c2 c18 c5
          go_wp2_with fail
          go_meet
          exact ⟨_, rfl, hE, HS.out, HD.out⟩
        · have t7 : (s1.t.kind != 7) = true := by simpa using k7
          have hE := Lib.hid (show endedB s1 = true by unfold endedB; rw [hclosed.out, hz, decide_eq_true k7]; simp)
          clear hc hz k7
          have c17 : w1.cell? ⟨b, 17, none⟩ = some (.bool true) := (HS.out.blk.cell 17).trans (by rw [show (scells k s1)[17]? = some (.bool s1.closed) from rfl, hclosed.out])
          have c2 : w1.cell? ⟨b, 2, none⟩ = some (.int .i64 s1.t.kind) := (HS.out.blk.cell 2).trans rfl
          refine start_ (n := 31) (S := fun w' => w'.cell? ⟨b, 17, none⟩ = some (.bool true) ∧ w'.cell? ⟨b, 2, none⟩ = some (.int .i64 s1.t.kind)) (ds := []) (m_ 31 0) (by kernel_rfl) rfl (by kernel_rfl) ⟨c17, c2⟩ (fun hHeld => ?_)
          refine pq_ 0 9 31 1 ?_
          refine pq_ 1 10 31 3 ?_
          refine pq_ 2 11 31 7 ?_
          refine tq_ 3 12 31 15 hHeld ?_
          refine pq_ 4 13 31 31 ?_
          refine pq_ 5 14 31 63 ?_
          refine one_ (i := 6) (N := some 15) (m_ 31 127) rfl rfl (by kernel_rfl) (by decide) (fun K hK => ?_)
          refine goes_ Tryz.func11 (by kernel_rfl) rfl #[.pointer (some ⟨b, 0, none⟩)] (by rfl) rfl rfl (by simp only [List.map_toArray, List.map_cons, List.map_nil]; rfl) ?_
          with_reducible refine (held_any (w := w1.drew) HS.out.drew hth).mono ?_
          rintro e w4 ⟨rfl, hB⟩
          have hB1 := below_drew hB
          have HS1 := Lib.hid (HS.out.below hB1)
          have HD1 := Lib.hid (HD.out.trans (Stem.refl F _) (Did.of_below hB1))
          have d0_17 := bcells hB1 c17
          have d0_2 := bcells hB1 c2
          clear hB hB1
          refine ⟨_, rfl, ?_⟩
          refine hK.out _ _ ⟨d0_17, d0_2⟩ (fun hHeld => ?_)
          clear hK K
          refine norm_ (a' := ?_) ?_ ?_
          rotate_left
          · show Act.put _ (some 15) _ = _
            simp only [Act.put, List.setIfInBounds_toArray, List.set_cons_zero, List.set_cons_succ, i64_w, i32_w]
            rfl
          refine pq_ 7 16 31 255 ?_
          refine pq_ 8 17 31 511 ?_
          refine pq_ 9 18 31 1023 ?_
          refine pq_ 10 19 31 2047 ?_
          refine pq_ 11 20 31 4095 ?_
          refine pq_ 12 21 31 8191 ?_
          refine pq_ 13 22 31 16383 ?_
          refine tq_ 14 23 31 32767 hHeld ?_
          refine pq_ 15 24 31 65535 ?_
          refine pq_ 16 25 31 131071 ?_
          refine oq_ 17 26 31 262143 ?_
          refine oq_ 18 27 31 524287 ?_
          refine oq_ 19 28 31 1048575 ?_
          refine oq_ 20 29 31 2097151 ?_
          refine oq_ 21 30 31 4194303 ?_
          refine oq_ 22 31 31 8388607 ?_
          refine oq_ 23 32 31 16777215 ?_
          refine oq_ 24 33 31 33554431 ?_
          refine oq_ 25 34 31 67108863 ?_
          refine oq_ 26 35 31 134217727 ?_
          refine oq_ 27 36 31 268435455 ?_
          refine pq_ 28 37 31 536870911 ?_
          refine pq_ 29 38 31 1073741823 ?_
          refine pq_ 30 5 31 2147483647 ?_
          refine done_ (by kernel_rfl) ?_
          replace HS := HS1
          replace HD := HD1
          clear HS1 HD1
          clear d0_17 d0_2
          clear hHeld
          clear c17 c2
          go_wp2_with fail
          go_meet
          exact ⟨true, rfl, hE, HS.out, HD.out⟩
      · have hzz : (((held s1 : Nat) : Int) == 0) = false := by simpa using hz
        have hE := Lib.hid (show endedB s1 = false by unfold endedB; rw [hclosed.out, decide_eq_false hz]; rfl)
        clear hc hz
        have c17 : w1.cell? ⟨b, 17, none⟩ = some (.bool true) := (HS.out.blk.cell 17).trans (by rw [show (scells k s1)[17]? = some (.bool s1.closed) from rfl, hclosed.out])
        refine start_ (n := 31) (S := fun w' => w'.cell? ⟨b, 17, none⟩ = some (.bool true)) (ds := []) (m_ 31 0) (by kernel_rfl) rfl (by kernel_rfl) (c17) (fun hHeld => ?_)
        refine pq_ 0 9 31 1 ?_
        refine pq_ 1 10 31 3 ?_
        refine pq_ 2 11 31 7 ?_
        refine tq_ 3 12 31 15 hHeld ?_
        refine pq_ 4 13 31 31 ?_
        refine pq_ 5 14 31 63 ?_
        refine one_ (i := 6) (N := some 15) (m_ 31 127) rfl rfl (by kernel_rfl) (by decide) (fun K hK => ?_)
        refine goes_ Tryz.func11 (by kernel_rfl) rfl #[.pointer (some ⟨b, 0, none⟩)] (by rfl) rfl rfl (by simp only [List.map_toArray, List.map_cons, List.map_nil]; rfl) ?_
        with_reducible refine (held_any (w := w1.drew) HS.out.drew hth).mono ?_
        rintro e w5 ⟨rfl, hB⟩
        have hB1 := below_drew hB
        have HS1 := Lib.hid (HS.out.below hB1)
        have HD1 := Lib.hid (HD.out.trans (Stem.refl F _) (Did.of_below hB1))
        have d0_17 := bcells hB1 c17
        clear hB hB1
        refine ⟨_, rfl, ?_⟩
        refine hK.out _ _ (d0_17) (fun hHeld => ?_)
        clear hK K
        refine norm_ (a' := ?_) ?_ ?_
        rotate_left
        · show Act.put _ (some 15) _ = _
          simp only [Act.put, List.setIfInBounds_toArray, List.set_cons_zero, List.set_cons_succ, i64_w, i32_w]
          rfl
        refine pq_ 7 16 31 255 ?_
        refine pq_ 8 17 31 511 ?_
        refine pq_ 9 18 31 1023 ?_
        refine oq_ 10 19 31 2047 ?_
        refine oq_ 11 20 31 4095 ?_
        refine oq_ 12 21 31 8191 ?_
        refine oq_ 13 22 31 16383 ?_
        refine oq_ 14 23 31 32767 ?_
        refine oq_ 15 24 31 65535 ?_
        refine oq_ 16 25 31 131071 ?_
        refine oq_ 17 26 31 262143 ?_
        refine oq_ 18 27 31 524287 ?_
        refine oq_ 19 28 31 1048575 ?_
        refine oq_ 20 29 31 2097151 ?_
        refine oq_ 21 30 31 4194303 ?_
        refine oq_ 22 31 31 8388607 ?_
        refine oq_ 23 32 31 16777215 ?_
        refine oq_ 24 33 31 33554431 ?_
        refine oq_ 25 34 31 67108863 ?_
        refine oq_ 26 35 31 134217727 ?_
        refine oq_ 27 36 31 268435455 ?_
        refine oq_ 28 37 31 536870911 ?_
        refine pq_ 29 38 31 1073741823 ?_
        refine pq_ 30 5 31 2147483647 ?_
        refine done_ (by kernel_rfl) ?_
        replace HS := HS1
        replace HD := HD1
        clear HS1 HD1
        clear d0_17
        clear hHeld
        clear c17
        go_wp2_with fail
        go_meet
        exact ⟨false, rfl, hE, HS.out, HD.out⟩
    · have hclosed := Lib.hid (show s1.closed = false by simpa using hc)
      have hE := Lib.hid (show endedB s1 = false by unfold endedB; rw [hclosed.out]; rfl)
      clear hc
      have c17 : w1.cell? ⟨b, 17, none⟩ = some (.bool false) := (HS.out.blk.cell 17).trans (by rw [show (scells k s1)[17]? = some (.bool s1.closed) from rfl, hclosed.out])
      refine start_ (n := 31) (S := fun w' => w'.cell? ⟨b, 17, none⟩ = some (.bool false)) (ds := []) (m_ 31 0) (by kernel_rfl) rfl (by kernel_rfl) (c17) (fun hHeld => ?_)
      refine pq_ 0 9 31 1 ?_
      refine pq_ 1 10 31 3 ?_
      refine pq_ 2 11 31 7 ?_
      refine tq_ 3 12 31 15 hHeld ?_
      refine pq_ 4 13 31 31 ?_
      refine oq_ 5 14 31 63 ?_
      refine oq_ 6 15 31 127 ?_
      refine oq_ 7 16 31 255 ?_
      refine pq_ 8 17 31 511 ?_
      refine pq_ 9 18 31 1023 ?_
      refine oq_ 10 19 31 2047 ?_
      refine oq_ 11 20 31 4095 ?_
      refine oq_ 12 21 31 8191 ?_
      refine oq_ 13 22 31 16383 ?_
      refine oq_ 14 23 31 32767 ?_
      refine oq_ 15 24 31 65535 ?_
      refine oq_ 16 25 31 131071 ?_
      refine oq_ 17 26 31 262143 ?_
      refine oq_ 18 27 31 524287 ?_
      refine oq_ 19 28 31 1048575 ?_
      refine oq_ 20 29 31 2097151 ?_
      refine oq_ 21 30 31 4194303 ?_
      refine oq_ 22 31 31 8388607 ?_
      refine oq_ 23 32 31 16777215 ?_
      refine oq_ 24 33 31 33554431 ?_
      refine oq_ 25 34 31 67108863 ?_
      refine oq_ 26 35 31 134217727 ?_
      refine oq_ 27 36 31 268435455 ?_
      refine oq_ 28 37 31 536870911 ?_
      refine pq_ 29 38 31 1073741823 ?_
      refine pq_ 30 5 31 2147483647 ?_
      refine done_ (by kernel_rfl) ?_
      replace HS := Lib.hid HS.out.drew
      replace HD := Lib.hid HD.out.drew
      clear hHeld
      clear c17
      generalize w1.drew = w6 at *
      go_wp2_with fail
      go_meet
      exact ⟨false, rfl, hE, HS.out, HD.out⟩
  case rest =>
    obtain ⟨E, rfl, hE, HS2, HD2⟩ := hcut
    replace HS := Lib.hid HS2
    replace HD := Lib.hid HD2
    clear HS2 HD2
    generalize wc = w9 at *
    have c19 : w9.cell? ⟨b, 19, none⟩ = some (.int .i64 s1.state) := (HS.out.blk.cell 19).trans rfl
    by_cases hst : s1.state = 0
    · rw [hst] at c19
      go_wp2
      clear c19
      by_cases k5 : s1.t.kind = 5
      · have hkind := k5
        have c2 : w9.cell? ⟨b, 2, none⟩ = some (.int .i64 5) := (HS.out.blk.cell 2).trans (by rw [show (scells k s1)[2]? = some (.int .i64 s1.t.kind) from rfl, hkind])
        have c13 : w9.cell? ⟨b, 13, none⟩ = some (.int .i64 s1.began) := (HS.out.blk.cell 13).trans rfl
        have c5 : w9.cell? ⟨b, 5, none⟩ = some (.int .i64 s1.t.a) := (HS.out.blk.cell 5).trans rfl
        refine start_ (n := 20) (S := fun w' => w'.cell? ⟨b, 2, none⟩ = some (.int .i64 5) ∧ w'.cell? ⟨b, 13, none⟩ = some (.int .i64 s1.began) ∧ w'.cell? ⟨b, 5, none⟩ = some (.int .i64 s1.t.a)) (ds := []) (m_ 20 0) (by kernel_rfl) rfl (by kernel_rfl) ⟨c2, c13, c5⟩ (fun hHeld => ?_)
        refine pq_ 0 46 20 1 ?_
        refine pq_ 1 47 20 3 ?_
        refine pq_ 2 48 20 7 ?_
        refine pq_ 3 49 20 15 ?_
        refine tq_ 4 50 20 31 hHeld ?_
        refine pq_ 5 51 20 63 ?_
        refine pq_ 6 52 20 127 ?_
        refine pq_ 7 53 20 255 ?_
        refine pq_ 8 54 20 511 ?_
        refine pq_ 9 55 20 1023 ?_
        refine pq_ 10 56 20 2047 ?_
        refine pq_ 12 58 20 6143 ?_
        refine pq_ 13 59 20 14335 ?_
        refine pq_ 14 60 20 30719 ?_
        refine pq_ 15 61 20 63487 ?_
        refine tq_ 11 57 20 65535 hHeld ?_
        refine tq_ 16 62 20 131071 hHeld ?_
        refine one_ (i := 17) (N := some 63) (m_ 20 262143) rfl rfl (by kernel_rfl) (by decide) (fun K hK => ?_)
        refine goes_ Tryz.func50 (by kernel_rfl) rfl #[.pointer (some ⟨b, 0, none⟩), .int .i64 s1.began, .int .i64 s1.t.a] (by rfl) rfl rfl (by simp only [List.map_toArray, List.map_cons, List.map_nil]; rfl) ?_
        with_reducible refine (over_any (w := w9.drew) HS.out.drew s1.began s1.t.a).mono ?_
        rintro e w10 ⟨rfl, hB⟩
        have hB1 := below_drew hB
        have HS1 := Lib.hid (HS.out.below hB1)
        have HD1 := Lib.hid (HD.out.trans (Stem.refl F _) (Did.of_below hB1))
        have d0_2 := bcells hB1 c2
        have d0_13 := bcells hB1 c13
        have d0_5 := bcells hB1 c5
        clear hB hB1
        refine ⟨_, rfl, ?_⟩
        refine hK.out _ _ ⟨d0_2, d0_13, d0_5⟩ (fun hHeld => ?_)
        clear hK K
        refine norm_ (a' := ?_) ?_ ?_
        rotate_left
        · show Act.put _ (some 63) _ = _
          simp only [Act.put, List.setIfInBounds_toArray, List.set_cons_zero, List.set_cons_succ, i64_w, i32_w]
          rfl
        refine pq_ 18 64 20 524287 ?_
        refine pq_ 19 45 20 1048575 ?_
        refine done_ (by kernel_rfl) ?_
        replace HS := HS1
        replace HD := HD1
        clear HS1 HD1
        clear d0_2 d0_13 d0_5
        clear hHeld
        clear c2 c13 c5
        by_cases hl : lateB s1 s1.began s1.t.a = true
        · skip
          rw [hl]
          have hv := Lib.hid (show lookS s1 = 2 by unfold lookS; rw [if_neg (by rw [hst]; decide), if_pos ⟨hkind, hl⟩])
          have f19 := HS.out.blk.free 19
          have hbl : b < w10.heap.size := HS.out.lt HS.out.mine
          have c19 : w10.cell? ⟨b, 19, none⟩ = some (.int .i64 s1.state) := (HS.out.blk.cell 19).trans rfl
          go_wp2
          go_ret
          exact ⟨by rw [hv.out]; rfl, HS.out.set 19 _ _ (by rw [hv.out]; rfl) rfl, HD.out.setCell (.inl HS.out.mine) _⟩
        · skip
          rw [show lateB s1 s1.began s1.t.a = false by simpa using hl]
          go_wp2
          have c2 : w10.cell? ⟨b, 2, none⟩ = some (.int .i64 5) := (HS.out.blk.cell 2).trans (by rw [show (scells k s1)[2]? = some (.int .i64 s1.t.kind) from rfl, hkind])
          refine start_ (n := 21) (S := fun w' => w'.cell? ⟨b, 2, none⟩ = some (.int .i64 5)) (ds := []) (m_ 21 0) (by kernel_rfl) rfl (by kernel_rfl) (c2) (fun hHeld => ?_)
          refine pq_ 0 69 21 1 ?_
          refine pq_ 1 70 21 3 ?_
          refine pq_ 2 71 21 7 ?_
          refine pq_ 3 72 21 15 ?_
          refine tq_ 4 73 21 31 hHeld ?_
          refine pq_ 5 74 21 63 ?_
          refine pq_ 6 75 21 127 ?_
          refine oq_ 7 76 21 255 ?_
          refine oq_ 8 77 21 511 ?_
          refine oq_ 9 78 21 1023 ?_
          refine oq_ 10 79 21 2047 ?_
          refine oq_ 11 80 21 4095 ?_
          refine oq_ 12 81 21 8191 ?_
          refine oq_ 13 82 21 16383 ?_
          refine oq_ 14 83 21 32767 ?_
          refine oq_ 15 84 21 65535 ?_
          refine oq_ 16 85 21 131071 ?_
          refine oq_ 17 86 21 262143 ?_
          refine oq_ 18 87 21 524287 ?_
          refine pq_ 19 88 21 1048575 ?_
          refine pq_ 20 68 21 2097151 ?_
          refine done_ (by kernel_rfl) ?_
          replace HS := Lib.hid HS.out.drew
          replace HD := Lib.hid HD.out.drew
          clear hHeld
          clear c2
          generalize w10.drew = w11 at *
          go_wp2
          have c2 : w11.cell? ⟨b, 2, none⟩ = some (.int .i64 5) := (HS.out.blk.cell 2).trans (by rw [show (scells k s1)[2]? = some (.int .i64 s1.t.kind) from rfl, hkind])
          refine start_ (n := 30) (S := fun w' => w'.cell? ⟨b, 2, none⟩ = some (.int .i64 5)) (ds := []) (m_ 30 0) (by kernel_rfl) rfl (by kernel_rfl) (c2) (fun hHeld => ?_)
          refine pq_ 0 90 30 1 ?_
          refine pq_ 1 91 30 3 ?_
          refine pq_ 2 92 30 7 ?_
          refine pq_ 3 93 30 15 ?_
          refine tq_ 4 94 30 31 hHeld ?_
          refine pq_ 5 95 30 63 ?_
          refine pq_ 6 96 30 127 ?_
          refine pq_ 7 97 30 255 ?_
          refine pq_ 8 98 30 511 ?_
          refine pq_ 9 99 30 1023 ?_
          refine pq_ 10 100 30 2047 ?_
          refine tq_ 11 101 30 4095 hHeld ?_
          refine pq_ 12 102 30 8191 ?_
          refine pq_ 13 103 30 16383 ?_
          refine oq_ 14 104 30 32767 ?_
          refine oq_ 15 105 30 65535 ?_
          refine oq_ 16 106 30 131071 ?_
          refine oq_ 17 107 30 262143 ?_
          refine oq_ 18 108 30 524287 ?_
          refine oq_ 19 109 30 1048575 ?_
          refine oq_ 20 110 30 2097151 ?_
          refine oq_ 21 111 30 4194303 ?_
          refine oq_ 22 112 30 8388607 ?_
          refine oq_ 23 113 30 16777215 ?_
          refine pq_ 24 114 30 33554431 ?_
          refine pq_ 25 115 30 67108863 ?_
          refine pq_ 26 116 30 134217727 ?_
          refine pq_ 27 117 30 268435455 ?_
          refine pq_ 28 118 30 536870911 ?_
          refine pq_ 29 89 30 1073741823 ?_
          refine done_ (by kernel_rfl) ?_
          replace HS := Lib.hid HS.out.drew
          replace HD := Lib.hid HD.out.drew
          clear hHeld
          clear c2
          generalize w11.drew = w12 at *
          cases E with
          | false =>
            have hv := Lib.hid (show lookS s1 = s1.state by rw [hst]; unfold lookS; rw [if_neg (by rw [hst]; decide), if_neg (fun h => hl h.2), if_neg (by rw [hkind]; decide), if_neg (by rw [hkind]; omega), if_neg (by rw [hE.out]; decide)])
            have c19 : w12.cell? ⟨b, 19, none⟩ = some (.int .i64 s1.state) := (HS.out.blk.cell 19).trans rfl
            go_wp2
            go_ret
            have he : ({ s1 with state := lookS s1 } : Sg) = s1 := by rw [hv.out]
            rw [he]
            exact ⟨by rw [hv.out]; first | rfl | (rw [hst]; rfl), HS.out, HD.out⟩
          | true =>
            have hv := Lib.hid (show lookS s1 = 1 by unfold lookS; rw [if_neg (by rw [hst]; decide), if_neg (fun h => hl h.2), if_neg (by rw [hkind]; decide), if_neg (by rw [hkind]; omega), if_pos hE.out])
            have f19 := HS.out.blk.free 19
            have hbl : b < w12.heap.size := HS.out.lt HS.out.mine
            have c19 : w12.cell? ⟨b, 19, none⟩ = some (.int .i64 s1.state) := (HS.out.blk.cell 19).trans rfl
            go_wp2
            go_ret
            exact ⟨by rw [hv.out]; rfl, HS.out.set 19 _ _ (by rw [hv.out]; rfl) rfl, HD.out.setCell (.inl HS.out.mine) _⟩
      · skip
        by_cases k4 : s1.t.kind = 4
        · have hkind := k4
          have c2 : w9.cell? ⟨b, 2, none⟩ = some (.int .i64 4) := (HS.out.blk.cell 2).trans (by rw [show (scells k s1)[2]? = some (.int .i64 s1.t.kind) from rfl, hkind])
          refine start_ (n := 20) (S := fun w' => w'.cell? ⟨b, 2, none⟩ = some (.int .i64 4)) (ds := []) (m_ 20 0) (by kernel_rfl) rfl (by kernel_rfl) (c2) (fun hHeld => ?_)
          refine pq_ 0 46 20 1 ?_
          refine pq_ 1 47 20 3 ?_
          refine pq_ 2 48 20 7 ?_
          refine pq_ 3 49 20 15 ?_
          refine tq_ 4 50 20 31 hHeld ?_
          refine pq_ 5 51 20 63 ?_
          refine pq_ 6 52 20 127 ?_
          refine oq_ 7 53 20 255 ?_
          refine oq_ 8 54 20 511 ?_
          refine oq_ 9 55 20 1023 ?_
          refine oq_ 10 56 20 2047 ?_
          refine oq_ 11 57 20 4095 ?_
          refine oq_ 12 58 20 8191 ?_
          refine oq_ 13 59 20 16383 ?_
          refine oq_ 14 60 20 32767 ?_
          refine oq_ 15 61 20 65535 ?_
          refine oq_ 16 62 20 131071 ?_
          refine oq_ 17 63 20 262143 ?_
          refine pq_ 18 64 20 524287 ?_
          refine pq_ 19 45 20 1048575 ?_
          refine done_ (by kernel_rfl) ?_
          replace HS := Lib.hid HS.out.drew
          replace HD := Lib.hid HD.out.drew
          clear hHeld
          clear c2
          generalize w9.drew = w13 at *
          go_wp2
          have c2 : w13.cell? ⟨b, 2, none⟩ = some (.int .i64 4) := (HS.out.blk.cell 2).trans (by rw [show (scells k s1)[2]? = some (.int .i64 s1.t.kind) from rfl, hkind])
          have c13 : w13.cell? ⟨b, 13, none⟩ = some (.int .i64 s1.began) := (HS.out.blk.cell 13).trans rfl
          have c5 : w13.cell? ⟨b, 5, none⟩ = some (.int .i64 s1.t.a) := (HS.out.blk.cell 5).trans rfl
          refine start_ (n := 21) (S := fun w' => w'.cell? ⟨b, 2, none⟩ = some (.int .i64 4) ∧ w'.cell? ⟨b, 13, none⟩ = some (.int .i64 s1.began) ∧ w'.cell? ⟨b, 5, none⟩ = some (.int .i64 s1.t.a)) (ds := []) (m_ 21 0) (by kernel_rfl) rfl (by kernel_rfl) ⟨c2, c13, c5⟩ (fun hHeld => ?_)
          refine pq_ 0 69 21 1 ?_
          refine pq_ 1 70 21 3 ?_
          refine pq_ 2 71 21 7 ?_
          refine pq_ 3 72 21 15 ?_
          refine tq_ 4 73 21 31 hHeld ?_
          refine pq_ 5 74 21 63 ?_
          refine pq_ 6 75 21 127 ?_
          refine pq_ 7 76 21 255 ?_
          refine pq_ 8 77 21 511 ?_
          refine pq_ 9 78 21 1023 ?_
          refine pq_ 10 79 21 2047 ?_
          refine pq_ 12 81 21 6143 ?_
          refine pq_ 13 82 21 14335 ?_
          refine pq_ 14 83 21 30719 ?_
          refine pq_ 15 84 21 63487 ?_
          refine tq_ 11 80 21 65535 hHeld ?_
          refine tq_ 16 85 21 131071 hHeld ?_
          refine one_ (i := 17) (N := some 86) (m_ 21 262143) rfl rfl (by kernel_rfl) (by decide) (fun K hK => ?_)
          refine goes_ Tryz.func50 (by kernel_rfl) rfl #[.pointer (some ⟨b, 0, none⟩), .int .i64 s1.began, .int .i64 s1.t.a] (by rfl) rfl rfl (by simp only [List.map_toArray, List.map_cons, List.map_nil]; rfl) ?_
          with_reducible refine (over_any (w := w13.drew) HS.out.drew s1.began s1.t.a).mono ?_
          rintro e w14 ⟨rfl, hB⟩
          have hB1 := below_drew hB
          have HS1 := Lib.hid (HS.out.below hB1)
          have HD1 := Lib.hid (HD.out.trans (Stem.refl F _) (Did.of_below hB1))
          have d0_2 := bcells hB1 c2
          have d0_13 := bcells hB1 c13
          have d0_5 := bcells hB1 c5
          clear hB hB1
          refine ⟨_, rfl, ?_⟩
          refine hK.out _ _ ⟨d0_2, d0_13, d0_5⟩ (fun hHeld => ?_)
          clear hK K
          refine norm_ (a' := ?_) ?_ ?_
          rotate_left
          · show Act.put _ (some 86) _ = _
            simp only [Act.put, List.setIfInBounds_toArray, List.set_cons_zero, List.set_cons_succ, i64_w, i32_w]
            rfl
          refine pq_ 18 87 21 524287 ?_
          refine pq_ 19 88 21 1048575 ?_
          refine pq_ 20 68 21 2097151 ?_
          refine done_ (by kernel_rfl) ?_
          replace HS := HS1
          replace HD := HD1
          clear HS1 HD1
          clear d0_2 d0_13 d0_5
          clear hHeld
          clear c2 c13 c5
          by_cases hl : lateB s1 s1.began s1.t.a = true
          · skip
            rw [hl]
            go_wp2
            have c2 : w14.cell? ⟨b, 2, none⟩ = some (.int .i64 4) := (HS.out.blk.cell 2).trans (by rw [show (scells k s1)[2]? = some (.int .i64 s1.t.kind) from rfl, hkind])
            refine start_ (n := 30) (S := fun w' => w'.cell? ⟨b, 2, none⟩ = some (.int .i64 4)) (ds := []) (m_ 30 0) (by kernel_rfl) rfl (by kernel_rfl) (c2) (fun hHeld => ?_)
            refine pq_ 0 90 30 1 ?_
            refine pq_ 1 91 30 3 ?_
            refine pq_ 2 92 30 7 ?_
            refine pq_ 3 93 30 15 ?_
            refine tq_ 4 94 30 31 hHeld ?_
            refine pq_ 5 95 30 63 ?_
            refine pq_ 6 96 30 127 ?_
            refine oq_ 7 97 30 255 ?_
            refine oq_ 8 98 30 511 ?_
            refine oq_ 9 99 30 1023 ?_
            refine oq_ 10 100 30 2047 ?_
            refine oq_ 11 101 30 4095 ?_
            refine oq_ 12 102 30 8191 ?_
            refine oq_ 13 103 30 16383 ?_
            refine oq_ 14 104 30 32767 ?_
            refine oq_ 15 105 30 65535 ?_
            refine oq_ 16 106 30 131071 ?_
            refine oq_ 17 107 30 262143 ?_
            refine oq_ 18 108 30 524287 ?_
            refine oq_ 19 109 30 1048575 ?_
            refine oq_ 20 110 30 2097151 ?_
            refine oq_ 21 111 30 4194303 ?_
            refine oq_ 22 112 30 8388607 ?_
            refine oq_ 23 113 30 16777215 ?_
            refine oq_ 24 114 30 33554431 ?_
            refine pq_ 25 115 30 67108863 ?_
            refine pq_ 26 116 30 134217727 ?_
            refine oq_ 27 117 30 268435455 ?_
            refine pq_ 28 118 30 536870911 ?_
            refine pq_ 29 89 30 1073741823 ?_
            refine done_ (by kernel_rfl) ?_
            replace HS := Lib.hid HS.out.drew
            replace HD := Lib.hid HD.out.drew
            clear hHeld
            clear c2
            generalize w14.drew = w15 at *
            have hv := Lib.hid (show lookS s1 = 1 by unfold lookS; rw [if_neg (by rw [hst]; decide), if_neg (by rw [hkind]; omega), if_pos hkind, if_pos hl])
            have f19 := HS.out.blk.free 19
            have hbl : b < w15.heap.size := HS.out.lt HS.out.mine
            have c19 : w15.cell? ⟨b, 19, none⟩ = some (.int .i64 s1.state) := (HS.out.blk.cell 19).trans rfl
            go_wp2
            go_ret
            exact ⟨by rw [hv.out]; rfl, HS.out.set 19 _ _ (by rw [hv.out]; rfl) rfl, HD.out.setCell (.inl HS.out.mine) _⟩
          · skip
            rw [show lateB s1 s1.began s1.t.a = false by simpa using hl]
            have hv := Lib.hid (show lookS s1 = s1.state by rw [hst]; unfold lookS; rw [if_neg (by rw [hst]; decide), if_neg (by rw [hkind]; omega), if_pos hkind, if_neg hl])
            have c19 : w14.cell? ⟨b, 19, none⟩ = some (.int .i64 s1.state) := (HS.out.blk.cell 19).trans rfl
            go_wp2
            go_ret
            have he : ({ s1 with state := lookS s1 } : Sg) = s1 := by rw [hv.out]
            rw [he]
            exact ⟨by rw [hv.out]; first | rfl | (rw [hst]; rfl), HS.out, HD.out⟩
        · skip
          by_cases k6 : s1.t.kind = 6
          · have hkind := k6
            have c2 : w9.cell? ⟨b, 2, none⟩ = some (.int .i64 6) := (HS.out.blk.cell 2).trans (by rw [show (scells k s1)[2]? = some (.int .i64 s1.t.kind) from rfl, hkind])
            refine start_ (n := 20) (S := fun w' => w'.cell? ⟨b, 2, none⟩ = some (.int .i64 6)) (ds := []) (m_ 20 0) (by kernel_rfl) rfl (by kernel_rfl) (c2) (fun hHeld => ?_)
            refine pq_ 0 46 20 1 ?_
            refine pq_ 1 47 20 3 ?_
            refine pq_ 2 48 20 7 ?_
            refine pq_ 3 49 20 15 ?_
            refine tq_ 4 50 20 31 hHeld ?_
            refine pq_ 5 51 20 63 ?_
            refine pq_ 6 52 20 127 ?_
            refine oq_ 7 53 20 255 ?_
            refine oq_ 8 54 20 511 ?_
            refine oq_ 9 55 20 1023 ?_
            refine oq_ 10 56 20 2047 ?_
            refine oq_ 11 57 20 4095 ?_
            refine oq_ 12 58 20 8191 ?_
            refine oq_ 13 59 20 16383 ?_
            refine oq_ 14 60 20 32767 ?_
            refine oq_ 15 61 20 65535 ?_
            refine oq_ 16 62 20 131071 ?_
            refine oq_ 17 63 20 262143 ?_
            refine pq_ 18 64 20 524287 ?_
            refine pq_ 19 45 20 1048575 ?_
            refine done_ (by kernel_rfl) ?_
            replace HS := Lib.hid HS.out.drew
            replace HD := Lib.hid HD.out.drew
            clear hHeld
            clear c2
            generalize w9.drew = w16 at *
            go_wp2
            have c2 : w16.cell? ⟨b, 2, none⟩ = some (.int .i64 6) := (HS.out.blk.cell 2).trans (by rw [show (scells k s1)[2]? = some (.int .i64 s1.t.kind) from rfl, hkind])
            refine start_ (n := 21) (S := fun w' => w'.cell? ⟨b, 2, none⟩ = some (.int .i64 6)) (ds := []) (m_ 21 0) (by kernel_rfl) rfl (by kernel_rfl) (c2) (fun hHeld => ?_)
            refine pq_ 0 69 21 1 ?_
            refine pq_ 1 70 21 3 ?_
            refine pq_ 2 71 21 7 ?_
            refine pq_ 3 72 21 15 ?_
            refine tq_ 4 73 21 31 hHeld ?_
            refine pq_ 5 74 21 63 ?_
            refine pq_ 6 75 21 127 ?_
            refine oq_ 7 76 21 255 ?_
            refine oq_ 8 77 21 511 ?_
            refine oq_ 9 78 21 1023 ?_
            refine oq_ 10 79 21 2047 ?_
            refine oq_ 11 80 21 4095 ?_
            refine oq_ 12 81 21 8191 ?_
            refine oq_ 13 82 21 16383 ?_
            refine oq_ 14 83 21 32767 ?_
            refine oq_ 15 84 21 65535 ?_
            refine oq_ 16 85 21 131071 ?_
            refine oq_ 17 86 21 262143 ?_
            refine oq_ 18 87 21 524287 ?_
            refine pq_ 19 88 21 1048575 ?_
            refine pq_ 20 68 21 2097151 ?_
            refine done_ (by kernel_rfl) ?_
            replace HS := Lib.hid HS.out.drew
            replace HD := Lib.hid HD.out.drew
            clear hHeld
            clear c2
            generalize w16.drew = w17 at *
            go_wp2
            by_cases hpa : s1.t.a ≤ s1.passed
            · skip
              have tq : decide (s1.t.a ≤ s1.passed) = true := decide_eq_true hpa
              have c2 : w17.cell? ⟨b, 2, none⟩ = some (.int .i64 6) := (HS.out.blk.cell 2).trans (by rw [show (scells k s1)[2]? = some (.int .i64 s1.t.kind) from rfl, hkind])
              have c16 : w17.cell? ⟨b, 16, none⟩ = some (.int .i64 s1.passed) := (HS.out.blk.cell 16).trans rfl
              have c5 : w17.cell? ⟨b, 5, none⟩ = some (.int .i64 s1.t.a) := (HS.out.blk.cell 5).trans rfl
              refine start_ (n := 30) (S := fun w' => w'.cell? ⟨b, 2, none⟩ = some (.int .i64 6) ∧ w'.cell? ⟨b, 16, none⟩ = some (.int .i64 s1.passed) ∧ w'.cell? ⟨b, 5, none⟩ = some (.int .i64 s1.t.a)) (ds := []) (m_ 30 0) (by kernel_rfl) rfl (by kernel_rfl) ⟨c2, c16, c5⟩ (fun hHeld => ?_)
              refine pq_ 0 90 30 1 ?_
              refine pq_ 1 91 30 3 ?_
              refine pq_ 2 92 30 7 ?_
              refine pq_ 3 93 30 15 ?_
              refine tq_ 4 94 30 31 hHeld ?_
              refine pq_ 5 95 30 63 ?_
              refine pq_ 6 96 30 127 ?_
              refine pq_ 7 97 30 255 ?_
              refine pq_ 8 98 30 511 ?_
              refine pq_ 9 99 30 1023 ?_
              refine pq_ 10 100 30 2047 ?_
              refine tq_ 11 101 30 4095 hHeld ?_
              refine pq_ 12 102 30 8191 ?_
              refine pq_ 13 103 30 16383 ?_
              refine pq_ 14 104 30 32767 ?_
              refine pq_ 15 105 30 65535 ?_
              refine pq_ 16 106 30 131071 ?_
              refine pq_ 18 108 30 393215 ?_
              refine pq_ 19 109 30 917503 ?_
              refine pq_ 20 110 30 1966079 ?_
              refine pq_ 21 111 30 4063231 ?_
              refine tq_ 17 107 30 4194303 hHeld ?_
              refine tq_ 22 112 30 8388607 hHeld ?_
              refine pq_ 23 113 30 16777215 ?_
              refine pq_ 24 114 30 33554431 ?_
              refine pq_ 25 115 30 67108863 ?_
              refine pq_ 26 116 30 134217727 ?_
              refine oq_ 27 117 30 268435455 ?_
              refine pq_ 28 118 30 536870911 ?_
              refine pq_ 29 89 30 1073741823 ?_
              refine done_ (by kernel_rfl) ?_
              replace HS := Lib.hid HS.out.drew
              replace HD := Lib.hid HD.out.drew
              clear hHeld
              clear c2 c16 c5
              generalize w17.drew = w18 at *
              have t1 := tq
              have hv := Lib.hid (show lookS s1 = 1 by unfold lookS; rw [if_neg (by rw [hst]; decide), if_neg (by rw [hkind]; omega), if_neg (by rw [hkind]; decide), if_pos ⟨hkind, hpa⟩])
              have f19 := HS.out.blk.free 19
              have hbl : b < w18.heap.size := HS.out.lt HS.out.mine
              have c19 : w18.cell? ⟨b, 19, none⟩ = some (.int .i64 s1.state) := (HS.out.blk.cell 19).trans rfl
              go_wp2
              go_ret
              exact ⟨by rw [hv.out]; rfl, HS.out.set 19 _ _ (by rw [hv.out]; rfl) rfl, HD.out.setCell (.inl HS.out.mine) _⟩
            · skip
              have tq : decide (s1.t.a ≤ s1.passed) = false := decide_eq_false hpa
              have c2 : w17.cell? ⟨b, 2, none⟩ = some (.int .i64 6) := (HS.out.blk.cell 2).trans (by rw [show (scells k s1)[2]? = some (.int .i64 s1.t.kind) from rfl, hkind])
              have c16 : w17.cell? ⟨b, 16, none⟩ = some (.int .i64 s1.passed) := (HS.out.blk.cell 16).trans rfl
              have c5 : w17.cell? ⟨b, 5, none⟩ = some (.int .i64 s1.t.a) := (HS.out.blk.cell 5).trans rfl
              refine start_ (n := 30) (S := fun w' => w'.cell? ⟨b, 2, none⟩ = some (.int .i64 6) ∧ w'.cell? ⟨b, 16, none⟩ = some (.int .i64 s1.passed) ∧ w'.cell? ⟨b, 5, none⟩ = some (.int .i64 s1.t.a)) (ds := []) (m_ 30 0) (by kernel_rfl) rfl (by kernel_rfl) ⟨c2, c16, c5⟩ (fun hHeld => ?_)
              refine pq_ 0 90 30 1 ?_
              refine pq_ 1 91 30 3 ?_
              refine pq_ 2 92 30 7 ?_
              refine pq_ 3 93 30 15 ?_
              refine tq_ 4 94 30 31 hHeld ?_
              refine pq_ 5 95 30 63 ?_
              refine pq_ 6 96 30 127 ?_
              refine pq_ 7 97 30 255 ?_
              refine pq_ 8 98 30 511 ?_
              refine pq_ 9 99 30 1023 ?_
              refine pq_ 10 100 30 2047 ?_
              refine tq_ 11 101 30 4095 hHeld ?_
              refine pq_ 12 102 30 8191 ?_
              refine pq_ 13 103 30 16383 ?_
              refine pq_ 14 104 30 32767 ?_
              refine pq_ 15 105 30 65535 ?_
              refine pq_ 16 106 30 131071 ?_
              refine pq_ 18 108 30 393215 ?_
              refine pq_ 19 109 30 917503 ?_
              refine pq_ 20 110 30 1966079 ?_
              refine pq_ 21 111 30 4063231 ?_
              refine tq_ 17 107 30 4194303 hHeld ?_
              refine tq_ 22 112 30 8388607 hHeld ?_
              refine pq_ 23 113 30 16777215 ?_
              refine pq_ 24 114 30 33554431 ?_
              refine pq_ 25 115 30 67108863 ?_
              refine pq_ 26 116 30 134217727 ?_
              refine pq_ 27 117 30 268435455 ?_
              refine pq_ 28 118 30 536870911 ?_
              refine pq_ 29 89 30 1073741823 ?_
              refine done_ (by kernel_rfl) ?_
              replace HS := Lib.hid HS.out.drew
              replace HD := Lib.hid HD.out.drew
              clear hHeld
              clear c2 c16 c5
              generalize w17.drew = w19 at *
              cases E with
              | false =>
                have hv := Lib.hid (show lookS s1 = s1.state by rw [hst]; unfold lookS; rw [if_neg (by rw [hst]; decide), if_neg (by rw [hkind]; omega), if_neg (by rw [hkind]; decide), if_neg (fun h => hpa h.2), if_neg (by rw [hE.out]; decide)])
                have c19 : w19.cell? ⟨b, 19, none⟩ = some (.int .i64 s1.state) := (HS.out.blk.cell 19).trans rfl
                go_wp2
                go_ret
                have he : ({ s1 with state := lookS s1 } : Sg) = s1 := by rw [hv.out]
                rw [he]
                exact ⟨by rw [hv.out]; first | rfl | (rw [hst]; rfl), HS.out, HD.out⟩
              | true =>
                have hv := Lib.hid (show lookS s1 = 1 by unfold lookS; rw [if_neg (by rw [hst]; decide), if_neg (by rw [hkind]; omega), if_neg (by rw [hkind]; decide), if_neg (fun h => hpa h.2), if_pos hE.out])
                have f19 := HS.out.blk.free 19
                have hbl : b < w19.heap.size := HS.out.lt HS.out.mine
                have c19 : w19.cell? ⟨b, 19, none⟩ = some (.int .i64 s1.state) := (HS.out.blk.cell 19).trans rfl
                go_wp2
                go_ret
                exact ⟨by rw [hv.out]; rfl, HS.out.set 19 _ _ (by rw [hv.out]; rfl) rfl, HD.out.setCell (.inl HS.out.mine) _⟩
          · skip
            have t5 : (s1.t.kind == 5) = false := by simpa using k5
            have t4 : (s1.t.kind == 4) = false := by simpa using k4
            have t6 : (s1.t.kind == 6) = false := by simpa using k6
            have c2 : w9.cell? ⟨b, 2, none⟩ = some (.int .i64 s1.t.kind) := (HS.out.blk.cell 2).trans rfl
            refine start_ (n := 20) (S := fun w' => w'.cell? ⟨b, 2, none⟩ = some (.int .i64 s1.t.kind)) (ds := []) (m_ 20 0) (by kernel_rfl) rfl (by kernel_rfl) (c2) (fun hHeld => ?_)
            refine pq_ 0 46 20 1 ?_
            refine pq_ 1 47 20 3 ?_
            refine pq_ 2 48 20 7 ?_
            refine pq_ 3 49 20 15 ?_
            refine tq_ 4 50 20 31 hHeld ?_
            refine pq_ 5 51 20 63 ?_
            refine pq_ 6 52 20 127 ?_
            refine oq_ 7 53 20 255 ?_
            refine oq_ 8 54 20 511 ?_
            refine oq_ 9 55 20 1023 ?_
            refine oq_ 10 56 20 2047 ?_
            refine oq_ 11 57 20 4095 ?_
            refine oq_ 12 58 20 8191 ?_
            refine oq_ 13 59 20 16383 ?_
            refine oq_ 14 60 20 32767 ?_
            refine oq_ 15 61 20 65535 ?_
            refine oq_ 16 62 20 131071 ?_
            refine oq_ 17 63 20 262143 ?_
            refine pq_ 18 64 20 524287 ?_
            refine pq_ 19 45 20 1048575 ?_
            refine done_ (by kernel_rfl) ?_
            replace HS := Lib.hid HS.out.drew
            replace HD := Lib.hid HD.out.drew
            clear hHeld
            clear c2
            generalize w9.drew = w20 at *
            go_wp2
            have c2 : w20.cell? ⟨b, 2, none⟩ = some (.int .i64 s1.t.kind) := (HS.out.blk.cell 2).trans rfl
            refine start_ (n := 21) (S := fun w' => w'.cell? ⟨b, 2, none⟩ = some (.int .i64 s1.t.kind)) (ds := []) (m_ 21 0) (by kernel_rfl) rfl (by kernel_rfl) (c2) (fun hHeld => ?_)
            refine pq_ 0 69 21 1 ?_
            refine pq_ 1 70 21 3 ?_
            refine pq_ 2 71 21 7 ?_
            refine pq_ 3 72 21 15 ?_
            refine tq_ 4 73 21 31 hHeld ?_
            refine pq_ 5 74 21 63 ?_
            refine pq_ 6 75 21 127 ?_
            refine oq_ 7 76 21 255 ?_
            refine oq_ 8 77 21 511 ?_
            refine oq_ 9 78 21 1023 ?_
            refine oq_ 10 79 21 2047 ?_
            refine oq_ 11 80 21 4095 ?_
            refine oq_ 12 81 21 8191 ?_
            refine oq_ 13 82 21 16383 ?_
            refine oq_ 14 83 21 32767 ?_
            refine oq_ 15 84 21 65535 ?_
            refine oq_ 16 85 21 131071 ?_
            refine oq_ 17 86 21 262143 ?_
            refine oq_ 18 87 21 524287 ?_
            refine pq_ 19 88 21 1048575 ?_
            refine pq_ 20 68 21 2097151 ?_
            refine done_ (by kernel_rfl) ?_
            replace HS := Lib.hid HS.out.drew
            replace HD := Lib.hid HD.out.drew
            clear hHeld
            clear c2
            generalize w20.drew = w21 at *
            go_wp2
            have c2 : w21.cell? ⟨b, 2, none⟩ = some (.int .i64 s1.t.kind) := (HS.out.blk.cell 2).trans rfl
            refine start_ (n := 30) (S := fun w' => w'.cell? ⟨b, 2, none⟩ = some (.int .i64 s1.t.kind)) (ds := []) (m_ 30 0) (by kernel_rfl) rfl (by kernel_rfl) (c2) (fun hHeld => ?_)
            refine pq_ 0 90 30 1 ?_
            refine pq_ 1 91 30 3 ?_
            refine pq_ 2 92 30 7 ?_
            refine pq_ 3 93 30 15 ?_
            refine tq_ 4 94 30 31 hHeld ?_
            refine pq_ 5 95 30 63 ?_
            refine pq_ 6 96 30 127 ?_
            refine pq_ 7 97 30 255 ?_
            refine pq_ 8 98 30 511 ?_
            refine pq_ 9 99 30 1023 ?_
            refine pq_ 10 100 30 2047 ?_
            refine tq_ 11 101 30 4095 hHeld ?_
            refine pq_ 12 102 30 8191 ?_
            refine pq_ 13 103 30 16383 ?_
            refine oq_ 14 104 30 32767 ?_
            refine oq_ 15 105 30 65535 ?_
            refine oq_ 16 106 30 131071 ?_
            refine oq_ 17 107 30 262143 ?_
            refine oq_ 18 108 30 524287 ?_
            refine oq_ 19 109 30 1048575 ?_
            refine oq_ 20 110 30 2097151 ?_
            refine oq_ 21 111 30 4194303 ?_
            refine oq_ 22 112 30 8388607 ?_
            refine oq_ 23 113 30 16777215 ?_
            refine pq_ 24 114 30 33554431 ?_
            refine pq_ 25 115 30 67108863 ?_
            refine pq_ 26 116 30 134217727 ?_
            refine pq_ 27 117 30 268435455 ?_
            refine pq_ 28 118 30 536870911 ?_
            refine pq_ 29 89 30 1073741823 ?_
            refine done_ (by kernel_rfl) ?_
            replace HS := Lib.hid HS.out.drew
            replace HD := Lib.hid HD.out.drew
            clear hHeld
            clear c2
            generalize w21.drew = w22 at *
            cases E with
            | false =>
              have hv := Lib.hid (show lookS s1 = s1.state by rw [hst]; unfold lookS; rw [if_neg (by rw [hst]; decide), if_neg (fun h => k5 h.1), if_neg k4, if_neg (fun h => k6 h.1), if_neg (by rw [hE.out]; decide)])
              have c19 : w22.cell? ⟨b, 19, none⟩ = some (.int .i64 s1.state) := (HS.out.blk.cell 19).trans rfl
              go_wp2
              go_ret
              have he : ({ s1 with state := lookS s1 } : Sg) = s1 := by rw [hv.out]
              rw [he]
              exact ⟨by rw [hv.out]; first | rfl | (rw [hst]; rfl), HS.out, HD.out⟩
            | true =>
              have hv := Lib.hid (show lookS s1 = 1 by unfold lookS; rw [if_neg (by rw [hst]; decide), if_neg (fun h => k5 h.1), if_neg k4, if_neg (fun h => k6 h.1), if_pos hE.out])
              have f19 := HS.out.blk.free 19
              have hbl : b < w22.heap.size := HS.out.lt HS.out.mine
              have c19 : w22.cell? ⟨b, 19, none⟩ = some (.int .i64 s1.state) := (HS.out.blk.cell 19).trans rfl
              go_wp2
              go_ret
              exact ⟨by rw [hv.out]; rfl, HS.out.set 19 _ _ (by rw [hv.out]; rfl) rfl, HD.out.setCell (.inl HS.out.mine) _⟩
    · have tn : (s1.state != 0) = true := by simpa using hst
      clear c19
      have hv := Lib.hid (show lookS s1 = s1.state by unfold lookS; rw [if_pos hst])
      have c19 : w9.cell? ⟨b, 19, none⟩ = some (.int .i64 s1.state) := (HS.out.blk.cell 19).trans rfl
      go_wp2
      go_ret
      have he : ({ s1 with state := lookS s1 } : Sg) = s1 := by rw [hv.out]
      rw [he]
      exact ⟨by rw [hv.out]; first | rfl | (rw [hst]; rfl), HS.out, HD.out⟩
end Go.Proofs.YtehpliclknfmoaaGreat.Stage
namespace Go.Proofs.YtehpliclknfmoaaGreat.Stage
open Go.RowKit Mem Tick Cargo Toxic
open Go.Proofs.YtehpliclknfmoaaGreatW.PrintLast
set_option maxRecDepth 100000
set_option linter.unusedVariables false
set_option linter.unusedSimpArgs false
variable {w w' : World} {F : Nat → Prop} {b k : Nat} {s : Sg}
def loP (s : Sg) : Int := wrap64 (s.t.a - s.t.b)
def hiP (s : Sg) : Int := wrap64 (s.t.a + s.t.b)
def diceP (s : Sg) : Sg := if s.t.kind = 1 then { s with dice := Ref02.rangeS s.dice (loP s) (hiP s) } else s
def whenP (s : Sg) : Int := if s.t.kind = 1 then add s.clock (Ref02.rangeN s.dice (loP s) (hiP s)) else s.clock
def putIn (s : Sg) (t : Int) (x : ByteArray) : Sg := { s with c := (addP s.c.1 (putAt s.c.2 t) x, putLast s.c.2 t x) }
def forceP (s : Sg) (n : Int) (x : ByteArray) : Sg := if (lookP s n).state ≠ 0 ∨ x.size = 0 then lookP s n else putIn (diceP (lookP s n)) (whenP (lookP s n)) x
theorem BS_did {A : Option Addr} {x : ByteArray} (h : BS w A x) (ho : BS.Off A F) (hd : Did F w w') : BS w' A x := h.kept fun g ⟨o, e⟩ hg => hd.block g hg (ho g o e)
theorem putIn_any (h : SG w F b k s) (hg : Full s.c.1) (t : Int) (A : Option Addr) (cap : Nat) (x : ByteArray) (hb : BS w A x) (ht : held s + x.size ≤ 1000000000) :
    Calls Tryz.prog 59 #[.pointer (some ⟨k, 0, none⟩), .int .i64 t, .slice A x.size cap] w fun e w' => e = .returned (.int .i64 (putAt s.c.2 t)) ∧ ∃ F', SG w' F' b k (putIn s t x) ∧ Did F w w' ∧ Stem F F' w := by
  obtain ⟨G, hB, hC, hF⟩ := h
  have hl := len_tot hg
  unfold held at ht
  exact (put_any t A cap x hC hb (by omega) (by omega)).mono fun e w' ⟨he, G', hC', hd, hs⟩ => ⟨he, _, SG.cargo (s' := putIn s t x) hB hC hF hC' hd hs rfl⟩
set_option maxHeartbeats 1000000 in
theorem force_any (h : SG w F b k s) (hg : Full s.c.1) (n : Int) (A : Option Addr) (cap : Nat) (x : ByteArray) (hb : BS w A x) (ho : BS.Off A F) (ht : held s + x.size ≤ 1000000000) :
    Calls Tryz.prog 31 #[.pointer (some ⟨b, 0, none⟩), .int .i64 n, .slice A x.size cap] w fun e w' => e = .returned (.tuple #[]) ∧ ∃ F', SG w' F' b k (forceP s n x) ∧ Did F w w' ∧ Stem F F' w := by
  have H := Lib.hid h
  have HB := Lib.hid hb
  have HO := Lib.hid ho
  have hfp := Lib.hid (show forceP s n x = if (lookP s n).state ≠ 0 ∨ x.size = 0 then lookP s n else putIn (diceP (lookP s n)) (whenP (lookP s n)) x from rfl)
  have hg1 := Lib.hid (show Full (lookP s n).c.1 from hg)
  have ht1 : held (lookP s n) + x.size ≤ 1000000000 := ht
  have hs := state_any h (by omega) n
  have HS0 := Lib.hid hs
  clear h hb ho hg ht hs
  generalize forceP s n x = sL at *
  go_enter Tryz.func31, Tryz.ntmps31
  go_wp2_with fail
  refine HS0.out.mono ?_
  rintro e w1 ⟨rfl, HS, HD⟩
  clear HS0
  generalize lookP s n = s1 at *
  have HS' := Lib.hid HS
  have HD' := Lib.hid HD
  have HB' := Lib.hid (BS_did HB.out HO.out HD)
  clear HS HD H HB
  by_cases hst : s1.state = 0
  · by_cases hx : x.size = 0
    · have he := Lib.hid (show sL = s1 by rw [hfp.out, if_pos (.inr hx)])
      have tz : ((x.size : Int) == 0) = true := by simpa using hx
      rw [hst]
      clear hfp hx
      go_wp2
      (try simp only [Exit.inBlock, Exit.then])
      refine bodyPost_ret (results_none rfl _ _ _) rfl ?_
      rw [he.out]
      exact ⟨rfl, F, HS'.out, HD'.out, Stem.refl _ _⟩
    · have he := Lib.hid (show sL = putIn (diceP s1) (whenP s1) x by rw [hfp.out, if_neg (by rintro (h | h); exact h hst; exact hx h)])
      have tz : ((x.size : Int) == 0) = false := by simpa using hx
      have c14 : w1.cell? ⟨b, 14, none⟩ = some (.int .i64 s1.clock) := (HS'.out.blk.cell 14).trans rfl
      have c2 : w1.cell? ⟨b, 2, none⟩ = some (.int .i64 s1.t.kind) := (HS'.out.blk.cell 2).trans rfl
      have c0 : w1.cell? ⟨b, 0, none⟩ = some (.pointer (some ⟨k, 0, none⟩)) := (HS'.out.blk.cell 0).trans rfl
      rw [hst]
      clear hfp hx
      by_cases hk : s1.t.kind = 1
      · have hd1 := Lib.hid (show diceP s1 = { s1 with dice := Ref02.rangeS s1.dice (loP s1) (hiP s1) } from if_pos hk)
        have hw1 := Lib.hid (show whenP s1 = add s1.clock (Ref02.rangeN s1.dice (loP s1) (hiP s1)) from if_pos hk)
        have hl1 := Lib.hid (show wrap64 (s1.t.a - s1.t.b) = loP s1 from rfl)
        have hh1 := Lib.hid (show wrap64 (s1.t.a + s1.t.b) = hiP s1 from rfl)
        have c5 : w1.cell? ⟨b, 5, none⟩ = some (.int .i64 s1.t.a) := (HS'.out.blk.cell 5).trans rfl
        have c6 : w1.cell? ⟨b, 6, none⟩ = some (.int .i64 s1.t.b) := (HS'.out.blk.cell 6).trans rfl
        have c7 : w1.cell? ⟨b, 7, none⟩ = some (.int .u64 s1.dice) := (HS'.out.blk.cell 7).trans rfl
        rw [hk] at c2
        go_wp2
        refine start_ (n := 32) (S := fun w' => w'.cell? ⟨b, 7, none⟩ = some (.int .u64 s1.dice) ∧ w'.cell? ⟨b, 5, none⟩ = some (.int .i64 s1.t.a) ∧ w'.cell? ⟨b, 6, none⟩ = some (.int .i64 s1.t.b)) (ds := []) #[false, false, false, false, false, false, false, false, false, false, false, false, false, false, false, false, false, false, false, false, false, false, false, false, false, false, false, false, false, false, false, false] (by kernel_rfl) rfl rfl ⟨c7, c5, c6⟩ (fun hHeld => ?_)
        refine pure_ (i := 0) (N := some 29) (v := ?_) (a' := ?_) #[true, false, false, false, false, false, false, false, false, false, false, false, false, false, false, false, false, false, false, false, false, false, false, false, false, false, false, false, false, false, false, false] rfl rfl (by kernel_rfl) (fun _ _ _ h => h) (Or.inl ⟨by rfl, ?_⟩) ?_ ?_
        rotate_left
        · intro w'
          go_simp
          with_reducible rfl
        rotate_left
        · simp only [Act.put, List.setIfInBounds_toArray, List.set_cons_zero, List.set_cons_succ, i64_w, i32_w]
          rfl
        refine pure_ (i := 1) (N := some 30) (v := ?_) (a' := ?_) #[true, true, false, false, false, false, false, false, false, false, false, false, false, false, false, false, false, false, false, false, false, false, false, false, false, false, false, false, false, false, false, false] rfl rfl (by kernel_rfl) (fun _ _ _ h => h) (Or.inl ⟨by rfl, ?_⟩) ?_ ?_
        rotate_left
        · intro w'
          go_simp
          with_reducible rfl
        rotate_left
        · simp only [Act.put, List.setIfInBounds_toArray, List.set_cons_zero, List.set_cons_succ, i64_w, i32_w]
          rfl
        refine pure_ (i := 2) (N := some 31) (v := ?_) (a' := ?_) #[true, true, true, false, false, false, false, false, false, false, false, false, false, false, false, false, false, false, false, false, false, false, false, false, false, false, false, false, false, false, false, false] rfl rfl (by kernel_rfl) (fun _ _ _ h => h) (Or.inl ⟨by rfl, ?_⟩) ?_ ?_
        rotate_left
        · intro w'
          go_simp
          with_reducible rfl
        rotate_left
        · simp only [Act.put, List.setIfInBounds_toArray, List.set_cons_zero, List.set_cons_succ, i64_w, i32_w]
          rfl
        refine pure_ (i := 4) (N := some 33) (v := ?_) (a' := ?_) #[true, true, true, false, true, false, false, false, false, false, false, false, false, false, false, false, false, false, false, false, false, false, false, false, false, false, false, false, false, false, false, false] rfl rfl (by kernel_rfl) (fun _ _ _ h => h) (Or.inl ⟨by rfl, ?_⟩) ?_ ?_
        rotate_left
        · intro w'
          go_simp
          with_reducible rfl
        rotate_left
        · simp only [Act.put, List.setIfInBounds_toArray, List.set_cons_zero, List.set_cons_succ, i64_w, i32_w]
          rfl
        refine pure_ (i := 5) (N := some 34) (v := ?_) (a' := ?_) #[true, true, true, false, true, true, false, false, false, false, false, false, false, false, false, false, false, false, false, false, false, false, false, false, false, false, false, false, false, false, false, false] rfl rfl (by kernel_rfl) (fun _ _ _ h => h) (Or.inl ⟨by rfl, ?_⟩) ?_ ?_
        rotate_left
        · intro w'
          go_simp
          with_reducible rfl
        rotate_left
        · simp only [Act.put, List.setIfInBounds_toArray, List.set_cons_zero, List.set_cons_succ, i64_w, i32_w]
          rfl
        refine pure_ (i := 6) (N := some 35) (v := ?_) (a' := ?_) #[true, true, true, false, true, true, true, false, false, false, false, false, false, false, false, false, false, false, false, false, false, false, false, false, false, false, false, false, false, false, false, false] rfl rfl (by kernel_rfl) (fun _ _ _ h => h) (Or.inl ⟨by rfl, ?_⟩) ?_ ?_
        rotate_left
        · intro w'
          go_simp
          with_reducible rfl
        rotate_left
        · simp only [Act.put, List.setIfInBounds_toArray, List.set_cons_zero, List.set_cons_succ, i64_w, i32_w]
          rfl
        refine pure_ (i := 7) (N := some 36) (v := ?_) (a' := ?_) #[true, true, true, false, true, true, true, true, false, false, false, false, false, false, false, false, false, false, false, false, false, false, false, false, false, false, false, false, false, false, false, false] rfl rfl (by kernel_rfl) (fun _ _ _ h => h) (Or.inl ⟨by rfl, ?_⟩) ?_ ?_
        rotate_left
        · intro w'
          go_simp
          with_reducible rfl
        rotate_left
        · simp only [Act.put, List.setIfInBounds_toArray, List.set_cons_zero, List.set_cons_succ, i64_w, i32_w]
          rfl
        refine pure_ (i := 9) (N := some 38) (v := ?_) (a' := ?_) #[true, true, true, false, true, true, true, true, false, true, false, false, false, false, false, false, false, false, false, false, false, false, false, false, false, false, false, false, false, false, false, false] rfl rfl (by kernel_rfl) (fun _ _ _ h => h) (Or.inl ⟨by rfl, ?_⟩) ?_ ?_
        rotate_left
        · intro w'
          go_simp
          with_reducible rfl
        rotate_left
        · simp only [Act.put, List.setIfInBounds_toArray, List.set_cons_zero, List.set_cons_succ, i64_w, i32_w]
          rfl
        refine pure_ (i := 10) (N := some 39) (v := ?_) (a' := ?_) #[true, true, true, false, true, true, true, true, false, true, true, false, false, false, false, false, false, false, false, false, false, false, false, false, false, false, false, false, false, false, false, false] rfl rfl (by kernel_rfl) (fun _ _ _ h => h) (Or.inl ⟨by rfl, ?_⟩) ?_ ?_
        rotate_left
        · intro w'
          go_simp
          with_reducible rfl
        rotate_left
        · simp only [Act.put, List.setIfInBounds_toArray, List.set_cons_zero, List.set_cons_succ, i64_w, i32_w]
          rfl
        refine pure_ (i := 11) (N := some 40) (v := ?_) (a' := ?_) #[true, true, true, false, true, true, true, true, false, true, true, true, false, false, false, false, false, false, false, false, false, false, false, false, false, false, false, false, false, false, false, false] rfl rfl (by kernel_rfl) (fun _ _ _ h => h) (Or.inl ⟨by rfl, ?_⟩) ?_ ?_
        rotate_left
        · intro w'
          go_simp
          with_reducible rfl
        rotate_left
        · simp only [Act.put, List.setIfInBounds_toArray, List.set_cons_zero, List.set_cons_succ, i64_w, i32_w]
          rfl
        refine pure_ (i := 12) (N := some 41) (v := ?_) (a' := ?_) #[true, true, true, false, true, true, true, true, false, true, true, true, true, false, false, false, false, false, false, false, false, false, false, false, false, false, false, false, false, false, false, false] rfl rfl (by kernel_rfl) (fun _ _ _ h => h) (Or.inl ⟨by rfl, ?_⟩) ?_ ?_
        rotate_left
        · intro w'
          go_simp
          with_reducible rfl
        rotate_left
        · simp only [Act.put, List.setIfInBounds_toArray, List.set_cons_zero, List.set_cons_succ, i64_w, i32_w]
          rfl
        refine pure_ (i := 15) (N := some 44) (v := ?_) (a' := ?_) #[true, true, true, false, true, true, true, true, false, true, true, true, true, false, false, true, false, false, false, false, false, false, false, false, false, false, false, false, false, false, false, false] rfl rfl (by kernel_rfl) (fun _ _ _ h => h) (Or.inl ⟨by rfl, ?_⟩) ?_ ?_
        rotate_left
        · intro w'
          go_simp
          with_reducible rfl
        rotate_left
        · simp only [Act.put, List.setIfInBounds_toArray, List.set_cons_zero, List.set_cons_succ, i64_w, i32_w]
          rfl
        refine pure_ (i := 16) (N := some 45) (v := ?_) (a' := ?_) #[true, true, true, false, true, true, true, true, false, true, true, true, true, false, false, true, true, false, false, false, false, false, false, false, false, false, false, false, false, false, false, false] rfl rfl (by kernel_rfl) (fun _ _ _ h => h) (Or.inl ⟨by rfl, ?_⟩) ?_ ?_
        rotate_left
        · intro w'
          go_simp
          with_reducible rfl
        rotate_left
        · simp only [Act.put, List.setIfInBounds_toArray, List.set_cons_zero, List.set_cons_succ, i64_w, i32_w]
          rfl
        refine pure_ (i := 17) (N := some 46) (v := ?_) (a' := ?_) #[true, true, true, false, true, true, true, true, false, true, true, true, true, false, false, true, true, true, false, false, false, false, false, false, false, false, false, false, false, false, false, false] rfl rfl (by kernel_rfl) (fun _ _ _ h => h) (Or.inl ⟨by rfl, ?_⟩) ?_ ?_
        rotate_left
        · intro w'
          go_simp
          with_reducible rfl
        rotate_left
        · simp only [Act.put, List.setIfInBounds_toArray, List.set_cons_zero, List.set_cons_succ, i64_w, i32_w]
          rfl
        refine pure_ (i := 18) (N := some 47) (v := ?_) (a' := ?_) #[true, true, true, false, true, true, true, true, false, true, true, true, true, false, false, true, true, true, true, false, false, false, false, false, false, false, false, false, false, false, false, false] rfl rfl (by kernel_rfl) (fun _ _ _ h => h) (Or.inl ⟨by rfl, ?_⟩) ?_ ?_
        rotate_left
        · intro w'
          go_simp
          with_reducible rfl
        rotate_left
        · simp only [Act.put, List.setIfInBounds_toArray, List.set_cons_zero, List.set_cons_succ, i64_w, i32_w]
          rfl
        refine pure_ (i := 20) (N := some 49) (v := ?_) (a' := ?_) #[true, true, true, false, true, true, true, true, false, true, true, true, true, false, false, true, true, true, true, false, true, false, false, false, false, false, false, false, false, false, false, false] rfl rfl (by kernel_rfl) (fun _ _ _ h => h) (Or.inl ⟨by rfl, ?_⟩) ?_ ?_
        rotate_left
        · intro w'
          go_simp
          with_reducible rfl
        rotate_left
        · simp only [Act.put, List.setIfInBounds_toArray, List.set_cons_zero, List.set_cons_succ, i64_w, i32_w]
          rfl
        refine pure_ (i := 21) (N := some 50) (v := ?_) (a' := ?_) #[true, true, true, false, true, true, true, true, false, true, true, true, true, false, false, true, true, true, true, false, true, true, false, false, false, false, false, false, false, false, false, false] rfl rfl (by kernel_rfl) (fun _ _ _ h => h) (Or.inl ⟨by rfl, ?_⟩) ?_ ?_
        rotate_left
        · intro w'
          go_simp
          with_reducible rfl
        rotate_left
        · simp only [Act.put, List.setIfInBounds_toArray, List.set_cons_zero, List.set_cons_succ, i64_w, i32_w]
          rfl
        refine pure_ (i := 22) (N := some 51) (v := ?_) (a' := ?_) #[true, true, true, false, true, true, true, true, false, true, true, true, true, false, false, true, true, true, true, false, true, true, true, false, false, false, false, false, false, false, false, false] rfl rfl (by kernel_rfl) (fun _ _ _ h => h) (Or.inl ⟨by rfl, ?_⟩) ?_ ?_
        rotate_left
        · intro w'
          go_simp
          with_reducible rfl
        rotate_left
        · simp only [Act.put, List.setIfInBounds_toArray, List.set_cons_zero, List.set_cons_succ, i64_w, i32_w]
          rfl
        refine pure_ (i := 23) (N := some 52) (v := ?_) (a' := ?_) #[true, true, true, false, true, true, true, true, false, true, true, true, true, false, false, true, true, true, true, false, true, true, true, true, false, false, false, false, false, false, false, false] rfl rfl (by kernel_rfl) (fun _ _ _ h => h) (Or.inl ⟨by rfl, ?_⟩) ?_ ?_
        rotate_left
        · intro w'
          go_simp
          with_reducible rfl
        rotate_left
        · simp only [Act.put, List.setIfInBounds_toArray, List.set_cons_zero, List.set_cons_succ, i64_w, i32_w]
          rfl
        refine take_ (i := 3) (N := some 32) (v := ?_) (a' := ?_) #[true, true, true, true, true, true, true, true, false, true, true, true, true, false, false, true, true, true, true, false, true, true, true, true, false, false, false, false, false, false, false, false] rfl rfl (by kernel_rfl) (fun _ _ _ h => h) (Or.inl ⟨by rfl, ?_⟩) hHeld ?_ ?_
        rotate_left
        · rintro w' ⟨s0, s1, s2⟩
          go_simp
          with_reducible rfl
        rotate_left
        · simp only [Act.put, List.setIfInBounds_toArray, List.set_cons_zero, List.set_cons_succ, i64_w, i32_w]
          rfl
        refine take_ (i := 8) (N := some 37) (v := ?_) (a' := ?_) #[true, true, true, true, true, true, true, true, true, true, true, true, true, false, false, true, true, true, true, false, true, true, true, true, false, false, false, false, false, false, false, false] rfl rfl (by kernel_rfl) (fun _ _ _ h => h) (Or.inl ⟨by rfl, ?_⟩) hHeld ?_ ?_
        rotate_left
        · rintro w' ⟨s0, s1, s2⟩
          go_simp
          with_reducible rfl
        rotate_left
        · simp only [Act.put, List.setIfInBounds_toArray, List.set_cons_zero, List.set_cons_succ, i64_w, i32_w]
          rfl
        refine take_ (i := 13) (N := some 42) (v := ?_) (a' := ?_) #[true, true, true, true, true, true, true, true, true, true, true, true, true, true, false, true, true, true, true, false, true, true, true, true, false, false, false, false, false, false, false, false] rfl rfl (by kernel_rfl) (fun _ _ _ h => h) (Or.inl ⟨by rfl, ?_⟩) hHeld ?_ ?_
        rotate_left
        · rintro w' ⟨s0, s1, s2⟩
          go_simp
          with_reducible rfl
        rotate_left
        · simp only [Act.put, List.setIfInBounds_toArray, List.set_cons_zero, List.set_cons_succ, i64_w, i32_w]
          rfl
        refine pure_ (i := 14) (N := some 43) (v := ?_) (a' := ?_) #[true, true, true, true, true, true, true, true, true, true, true, true, true, true, true, true, true, true, true, false, true, true, true, true, false, false, false, false, false, false, false, false] rfl rfl (by kernel_rfl) (fun _ _ _ h => h) (Or.inl ⟨by rfl, ?_⟩) ?_ ?_
        rotate_left
        · intro w'
          go_simp
          with_reducible rfl
        rotate_left
        · simp only [Act.put, List.setIfInBounds_toArray, List.set_cons_zero, List.set_cons_succ, i64_w, i32_w]
          rfl
        refine take_ (i := 19) (N := some 48) (v := ?_) (a' := ?_) #[true, true, true, true, true, true, true, true, true, true, true, true, true, true, true, true, true, true, true, true, true, true, true, true, false, false, false, false, false, false, false, false] rfl rfl (by kernel_rfl) (fun _ _ _ h => h) (Or.inl ⟨by rfl, ?_⟩) hHeld ?_ ?_
        rotate_left
        · rintro w' ⟨s0, s1, s2⟩
          go_simp
          with_reducible rfl
        rotate_left
        · simp only [Act.put, List.setIfInBounds_toArray, List.set_cons_zero, List.set_cons_succ, i64_w, i32_w]
          rfl
        refine take_ (i := 24) (N := some 53) (v := ?_) (a' := ?_) #[true, true, true, true, true, true, true, true, true, true, true, true, true, true, true, true, true, true, true, true, true, true, true, true, true, false, false, false, false, false, false, false] rfl rfl (by kernel_rfl) (fun _ _ _ h => h) (Or.inl ⟨by rfl, ?_⟩) hHeld ?_ ?_
        rotate_left
        · rintro w' ⟨s0, s1, s2⟩
          go_simp
          with_reducible rfl
        rotate_left
        · simp only [Act.put, List.setIfInBounds_toArray, List.set_cons_zero, List.set_cons_succ, i64_w, i32_w]
          rfl
        refine pure_ (i := 25) (N := some 54) (v := ?_) (a' := ?_) #[true, true, true, true, true, true, true, true, true, true, true, true, true, true, true, true, true, true, true, true, true, true, true, true, true, true, false, false, false, false, false, false] rfl rfl (by kernel_rfl) (fun _ _ _ h => h) (Or.inl ⟨by rfl, ?_⟩) ?_ ?_
        rotate_left
        · intro w'
          go_simp
          with_reducible rfl
        rotate_left
        · simp only [Act.put, List.setIfInBounds_toArray, List.set_cons_zero, List.set_cons_succ, i64_w, i32_w]
          rfl
        refine one_ (i := 26) (N := some 55) #[true, true, true, true, true, true, true, true, true, true, true, true, true, true, true, true, true, true, true, true, true, true, true, true, true, true, true, false, false, false, false, false] rfl rfl (by kernel_rfl) (by decide) (fun K hK => ?_)
        refine goes_ Tryz.func58 (by kernel_rfl) rfl #[.int .u64 s1.dice, .int .i64 (wrap64 (s1.t.a - s1.t.b)), .int .i64 (wrap64 (s1.t.a + s1.t.b))] (by rfl) rfl rfl (by simp only [List.map_toArray, List.map_cons, List.map_nil]; rfl) ?_
        with_reducible refine (Dice.range_any s1.dice (wrap64 (s1.t.a - s1.t.b)) (wrap64 (s1.t.a + s1.t.b)) w1.drew).mono ?_
        rintro e w2 ⟨rfl, rfl⟩
        rw [hl1.out, hh1.out]
        refine ⟨_, rfl, ?_⟩
        refine hK.out _ _ ⟨c7, c5, c6⟩ (fun hHeld => ?_)
        clear hK K
        refine norm_ (a' := ?_) ?_ ?_
        rotate_left
        · show Act.put _ (some 55) _ = _
          simp only [Act.put, List.setIfInBounds_toArray, List.set_cons_zero, List.set_cons_succ, i64_w, i32_w]
          rfl
        refine pure_ (i := 27) (N := some 28) (v := ?_) (a' := ?_) #[true, true, true, true, true, true, true, true, true, true, true, true, true, true, true, true, true, true, true, true, true, true, true, true, true, true, true, true, false, false, false, false] rfl rfl (by kernel_rfl) (fun _ _ _ h => h) (Or.inl ⟨by rfl, ?_⟩) ?_ ?_
        rotate_left
        · intro w'
          go_simp
          with_reducible rfl
        rotate_left
        · simp only [Act.put, List.setIfInBounds_toArray, List.set_cons_zero, List.set_cons_succ, i64_w, i32_w]
          rfl
        refine pure_ (i := 28) (N := some 56) (v := ?_) (a' := ?_) #[true, true, true, true, true, true, true, true, true, true, true, true, true, true, true, true, true, true, true, true, true, true, true, true, true, true, true, true, true, false, false, false] rfl rfl (by kernel_rfl) (fun _ _ _ h => h) (Or.inl ⟨by rfl, ?_⟩) ?_ ?_
        rotate_left
        · intro w'
          go_simp
          with_reducible rfl
        rotate_left
        · simp only [Act.put, List.setIfInBounds_toArray, List.set_cons_zero, List.set_cons_succ, i64_w, i32_w]
          rfl
        refine pure_ (i := 29) (N := some 57) (v := ?_) (a' := ?_) #[true, true, true, true, true, true, true, true, true, true, true, true, true, true, true, true, true, true, true, true, true, true, true, true, true, true, true, true, true, true, false, false] rfl rfl (by kernel_rfl) (fun _ _ _ h => h) (Or.inl ⟨by rfl, ?_⟩) ?_ ?_
        rotate_left
        · intro w'
          go_simp
          with_reducible rfl
        rotate_left
        · simp only [Act.put, List.setIfInBounds_toArray, List.set_cons_zero, List.set_cons_succ, i64_w, i32_w]
          rfl
        refine pure_ (i := 30) (N := some 7) (v := ?_) (a' := ?_) #[true, true, true, true, true, true, true, true, true, true, true, true, true, true, true, true, true, true, true, true, true, true, true, true, true, true, true, true, true, true, true, false] rfl rfl (by kernel_rfl) (fun _ _ _ h => h) (Or.inl ⟨by rfl, ?_⟩) ?_ ?_
        rotate_left
        · intro w'
          go_simp
          with_reducible rfl
        rotate_left
        · simp only [Act.put, List.setIfInBounds_toArray, List.set_cons_zero, List.set_cons_succ, i64_w, i32_w]
          rfl
        refine pure_ (i := 31) (N := some 8) (v := ?_) (a' := ?_) #[true, true, true, true, true, true, true, true, true, true, true, true, true, true, true, true, true, true, true, true, true, true, true, true, true, true, true, true, true, true, true, true] rfl rfl (by kernel_rfl) (fun _ _ _ h => h) (Or.inl ⟨by rfl, ?_⟩) ?_ ?_
        rotate_left
        · intro w'
          go_simp
          with_reducible rfl
        rotate_left
        · simp only [Act.put, List.setIfInBounds_toArray, List.set_cons_zero, List.set_cons_succ, i64_w, i32_w]
          rfl
        refine done_ (by kernel_rfl) ?_
        clear c5 c6 c7 c14 c2 c0 hHeld
        replace HS' := Lib.hid HS'.out.drew
        replace HD' := Lib.hid HD'.out.drew
        replace HB' := Lib.hid (show BS w1.drew A x from HB'.out.below (Below.refl _ _).drew)
        generalize w1.drew = w2 at *
        have c7 : w2.cell? ⟨b, 7, none⟩ = some (.int .u64 s1.dice) := (HS'.out.blk.cell 7).trans rfl
        have f7 := HS'.out.blk.free 7
        have hbl : b < w2.heap.size := HS'.out.lt HS'.out.mine
        have HX := Lib.hid (HS'.out.set 7 (.int .u64 (Ref02.rangeS s1.dice (loP s1) (hiP s1))) (diceP s1) (by rw [hd1.out]; rfl) (by rw [hd1.out]))
        have HY := Lib.hid (HD'.out.setCell (p := ⟨b, 7, none⟩) (.inl HS'.out.mine) (.int .u64 (Ref02.rangeS s1.dice (loP s1) (hiP s1))))
        have HZ := Lib.hid (show BS (w2.setCell ⟨b, 7, none⟩ (.int .u64 (Ref02.rangeS s1.dice (loP s1) (hiP s1)))) A x from BS_did HB'.out HO.out ((Did.refl F w2).setCell (p := ⟨b, 7, none⟩) (.inl HS'.out.mine) _))
        go_wp2_with fail
        refine (Tick.add_any _ _ _).mono ?_
        rintro e w3 ⟨rfl, rfl⟩
        have hgd := Lib.hid (show Full (diceP s1).c.1 by rw [hd1.out]; exact hg1.out)
        have htd : held (diceP s1) + x.size ≤ 1000000000 := by
          have : held (diceP s1) = held s1 := by unfold held; rw [hd1.out]
          rw [this]; exact ht1
        generalize w2.setCell ⟨b, 7, none⟩ (.int .u64 (Ref02.rangeS s1.dice (loP s1) (hiP s1))) = w4 at *
        have c0 : w4.cell? ⟨b, 0, none⟩ = some (.pointer (some ⟨k, 0, none⟩)) := (HX.out.blk.cell 0).trans rfl
        rw [← hw1.out]
        go_wp2_with fail
        refine (putIn_any HX.out hgd.out (whenP s1) A cap x HZ.out htd).mono ?_
        rintro e w5 ⟨rfl, F', hS5, hD5, hF5⟩
        have HS5 := Lib.hid hS5
        have HD5 := Lib.hid (HY.out.trans (Stem.refl _ _) hD5)
        have HF5 := Lib.hid (show Stem F F' w from fun j hj => (hF5 j hj).imp id fun h => Nat.le_trans HY.out.size h)
        clear hS5 hD5 hF5
        go_wp2
        go_end0
        rw [he.out]
        exact ⟨rfl, F', HS5.out, HD5.out, HF5.out⟩
      · have hd1 := Lib.hid (show diceP s1 = s1 from if_neg hk)
        have hw1 := Lib.hid (show whenP s1 = s1.clock from if_neg hk)
        have tk : (s1.t.kind == 1) = false := by simpa using hk
        rw [hd1.out, hw1.out] at he
        go_wp2_with fail
        refine (putIn_any HS'.out hg1.out s1.clock A cap x HB'.out ht1).mono ?_
        rintro e w5 ⟨rfl, F', hS5, hD5, hF5⟩
        have HS5 := Lib.hid hS5
        have HD5 := Lib.hid (HD'.out.trans (Stem.refl _ _) hD5)
        have HF5 := Lib.hid (show Stem F F' w from fun j hj => (hF5 j hj).imp id fun h => Nat.le_trans HD'.out.size h)
        clear hS5 hD5 hF5
        go_wp2
        go_end0
        rw [he.out]
        exact ⟨rfl, F', HS5.out, HD5.out, HF5.out⟩
  · have he := Lib.hid (show sL = s1 by rw [hfp.out, if_pos (.inl hst)])
    have tn : (s1.state != 0) = true := by simpa using hst
    clear hfp
    go_wp2
    (try simp only [Exit.inBlock, Exit.then])
    refine bodyPost_ret (results_none rfl _ _ _) rfl ?_
    rw [he.out]
    exact ⟨rfl, F, HS'.out, HD'.out, Stem.refl _ _⟩
end Go.Proofs.YtehpliclknfmoaaGreat.Stage
namespace Go.Proofs.YtehpliclknfmoaaGreat.Stage
open Go.RowKit Mem Tick Cargo Toxic
set_option maxRecDepth 100000
set_option linter.unusedVariables false
set_option linter.unusedSimpArgs false
variable {w w' : World} {F : Nat → Prop} {b k : Nat} {s : Sg}
theorem BS_cut {A : Option Addr} {x : ByteArray} (h : BS w A x) (n : Nat) (hn : n ≤ x.size) : BS w A (x.extract 0 n) := by
  intro h0
  have hsz : (x.extract 0 n).size = n := by simp [ByteArray.size_extract]; omega
  obtain ⟨g, o, rfl, hb⟩ := h (by omega)
  refine ⟨g, o, rfl, fun i hi => ?_⟩
  have := hb i (by omega)
  rw [this]
  simp [ByteArray.getElem_extract]
def roomFor (s : Sg) (x : ByteArray) : Nat := (min (x.size : Int) (free s)).toNat
def putS (s : Sg) (n : Int) (x : ByteArray) : Sg := if (lookP s n).state ≠ 0 ∨ (lookP s n).closed = true then lookP s n else forceP (lookP s n) n (x.extract 0 (roomFor (lookP s n) x))
def putN (s : Sg) (n : Int) (x : ByteArray) : Nat := if (lookP s n).state ≠ 0 ∨ (lookP s n).closed = true then 0 else roomFor (lookP s n) x
theorem room_le (s : Sg) (x : ByteArray) : roomFor s x ≤ x.size := by unfold roomFor; omega
theorem room_eq (s : Sg) (x : ByteArray) : min (x.size : Int) (free s) = (roomFor s x : Int) := by unfold roomFor free; omega
theorem put_any (h : SG w F b k s) (hg : Full s.c.1) (n : Int) (A : Option Addr) (cap : Nat) (x : ByteArray) (hc : x.size ≤ cap) (hb : BS w A x) (ho : BS.Off A F) (ht : held s + x.size ≤ 1000000000) (h0 : 0 ≤ s.room) (h1 : s.room ≤ 1000000000000) :
    Calls Tryz.prog 21 #[.pointer (some ⟨b, 0, none⟩), .int .i64 n, .slice A x.size cap] w fun e w' => e = .returned (.int .i64 (putN s n x)) ∧ ∃ F', SG w' F' b k (putS s n x) ∧ Did F w w' ∧ Stem F F' w := by
  have HB := Lib.hid hb
  have HO := Lib.hid ho
  have e1 := Lib.hid (show putS s n x = if (lookP s n).state ≠ 0 ∨ (lookP s n).closed = true then lookP s n else forceP (lookP s n) n (x.extract 0 (roomFor (lookP s n) x)) from rfl)
  have e2 := Lib.hid (show putN s n x = if (lookP s n).state ≠ 0 ∨ (lookP s n).closed = true then 0 else roomFor (lookP s n) x from rfl)
  have hg1 := Lib.hid (show Full (lookP s n).c.1 from hg)
  have ht1 : held (lookP s n) + x.size ≤ 1000000000 := ht
  have hr0 : 0 ≤ (lookP s n).room := h0
  have hr1 : (lookP s n).room ≤ 1000000000000 := h1
  have HS0 := Lib.hid (state_any h (by omega) n)
  clear h hb ho hg ht h0 h1
  generalize putS s n x = sL at *
  generalize putN s n x = nL at *
  go_enter Tryz.func21, Tryz.ntmps21
  go_wp2_with fail
  refine HS0.out.mono ?_
  rintro e w1 ⟨rfl, HS, HD⟩
  clear HS0
  generalize lookP s n = s1 at *
  have HS' := Lib.hid HS
  have HD' := Lib.hid HD
  have HB' := Lib.hid (BS_did HB.out HO.out HD)
  have c17 : w1.cell? ⟨b, 17, none⟩ = some (.bool s1.closed) := (HS.blk.cell 17).trans rfl
  clear HS HD HB
  by_cases hst : s1.state = 0
  · rw [hst]
    cases hcl : s1.closed with
    | true =>
      have q1 := Lib.hid (show sL = s1 by rw [e1.out, if_pos (.inr hcl)])
      have q2 := Lib.hid (show nL = 0 by rw [e2.out, if_pos (.inr hcl)])
      rw [hcl] at c17
      clear hcl
      go_wp2
      go_ret
      rw [q1.out, q2.out]
      exact ⟨rfl, F, HS'.out, HD'.out, Stem.refl _ _⟩
    | false =>
      have hno : ¬ (s1.state ≠ 0 ∨ s1.closed = true) := by rintro (h | h); exact h hst; rw [hcl] at h; cases h
      have q1 := Lib.hid (show sL = forceP s1 n (x.extract 0 (roomFor s1 x)) by rw [e1.out, if_neg hno])
      have q2 := Lib.hid (show nL = roomFor s1 x by rw [e2.out, if_neg hno])
      rw [hcl] at c17
      have hrl := room_le s1 x
      have hre := Lib.hid (room_eq s1 x)
      clear hcl hno e1 e2
      have hxs : (x.extract 0 (roomFor s1 x)).size = roomFor s1 x := by simp [ByteArray.size_extract]; omega
      go_wp2_with fail
      refine (free_any HS'.out (by omega) hr0 hr1).mono ?_
      rintro e w2 ⟨rfl, hB2⟩
      have HS2 := Lib.hid (HS'.out.below hB2)
      have HD2 := Lib.hid (HD'.out.trans (Stem.refl _ _) (Did.of_below hB2))
      have HB2 := Lib.hid (BS_cut (HB'.out.below hB2) _ hrl)
      clear hB2
      have hre' := hre.out
      have hrc : roomFor s1 x ≤ cap := by omega
      have hf := force_any HS2.out hg1.out n A cap (x.extract 0 (roomFor s1 x)) HB2.out HO.out (by rw [hxs]; omega)
      rw [hxs] at hf
      have HF := Lib.hid hf
      clear hf
      generalize roomFor s1 x = m at *
      go_wp2_with fail
      refine HF.out.mono ?_
      rintro e w3 ⟨rfl, F', hS3, hD3, hF3⟩
      have HS3 := Lib.hid hS3
      have HD3 := Lib.hid (HD2.out.trans (Stem.refl _ _) hD3)
      have HF3 := Lib.hid (show Stem F F' w from fun j hj => (hF3 j hj).imp id fun h => Nat.le_trans HD2.out.size h)
      clear hS3 hD3 hF3 HF hre'
      go_wp2
      go_ret
      rw [q1.out, q2.out]
      exact ⟨rfl, F', HS3.out, HD3.out, HF3.out⟩
  · have q1 := Lib.hid (show sL = s1 by rw [e1.out, if_pos (.inl hst)])
    have q2 := Lib.hid (show nL = 0 by rw [e2.out, if_pos (.inl hst)])
    have tn : (s1.state != 0) = true := by simpa using hst
    clear e1 e2
    go_wp2
    go_ret
    rw [q1.out, q2.out]
    exact ⟨rfl, F, HS'.out, HD'.out, Stem.refl _ _⟩
def closeP (s : Sg) (n : Int) : Sg := if s.closed = true then nowP s n else { nowP s n with closed := true, at_ := (nowP s n).clock }
theorem close_any (h : SG w F b k s) (n : Int) :
    Calls Tryz.prog 23 #[.pointer (some ⟨b, 0, none⟩), .int .i64 n] w fun e w' => e = .returned (.tuple #[]) ∧ SG w' F b k (closeP s n) ∧ Did F w w' := by
  have H := Lib.hid h
  have e1 := Lib.hid (show closeP s n = if s.closed = true then nowP s n else { nowP s n with closed := true, at_ := (nowP s n).clock } from rfl)
  have e2 := Lib.hid (show (nowP s n).closed = s.closed from rfl)
  clear h
  generalize closeP s n = sL at *
  go_enter Tryz.func23, Tryz.ntmps23
  go_wp2_with fail
  refine (now_any H.out n).mono ?_
  rintro e w1 ⟨rfl, HS, HD⟩
  generalize nowP s n = s1 at *
  have HS' := Lib.hid HS
  have HD' := Lib.hid HD
  have c17 : w1.cell? ⟨b, 17, none⟩ = some (.bool s1.closed) := (HS.blk.cell 17).trans rfl
  clear HS HD H
  rw [e2.out] at c17
  cases hcl : s.closed with
  | true =>
    have q1 := Lib.hid (show sL = s1 by rw [e1.out, if_pos hcl])
    rw [hcl] at c17
    clear hcl e1 e2
    go_wp2
    go_end0
    rw [q1.out]
    exact ⟨rfl, HS'.out, HD'.out⟩
  | false =>
    have q1 := Lib.hid (show sL = { s1 with closed := true, at_ := s1.clock } by rw [e1.out, if_neg (by rw [hcl]; decide)])
    rw [hcl] at c17
    have c14 : w1.cell? ⟨b, 14, none⟩ = some (.int .i64 s1.clock) := (HS'.out.blk.cell 14).trans rfl
    have c18 : w1.cell? ⟨b, 18, none⟩ = some (.int .i64 s1.at_) := (HS'.out.blk.cell 18).trans rfl
    have f17 := HS'.out.blk.free 17
    have f18 := HS'.out.blk.free 18
    have hbl : b < w1.heap.size := HS'.out.lt HS'.out.mine
    clear hcl e1 e2
    go_wp2
    go_end0
    rw [q1.out]
    exact ⟨rfl, (HS'.out.set 17 (.bool true) { s1 with closed := true } rfl rfl).set 18 (.int .i64 s1.clock) { s1 with closed := true, at_ := s1.clock } rfl rfl, (HD'.out.setCell (p := ⟨b, 17, none⟩) (.inl HS'.out.mine) _).setCell (p := ⟨b, 18, none⟩) (.inl HS'.out.mine) _⟩
end Go.Proofs.YtehpliclknfmoaaGreat.Stage
namespace Go.Proofs.YtehpliclknfmoaaGreat.Stage
open Go.RowKit Mem Tick Cargo Toxic Bucket
open Go.Proofs.YtehpliclknfmoaaGreatW.PrintLast
set_option maxRecDepth 100000
set_option linter.unusedVariables false
set_option linter.unusedSimpArgs false
variable {w w' : World} {F : Nat → Prop} {b k : Nat} {s : Sg}
theorem all_any (n : Int) (w : World) (b : Nat) :
    Calls Tryz.prog 67 #[.pointer (some ⟨b, 0, none⟩), .int .i64 n] w fun e w' => e = .returned (.int .i64 n) ∧ w = w' := by
  go_enter Tryz.func67, Tryz.ntmps67
  go_wp2
  go_ret
  exact ⟨rfl, rfl⟩
theorem none_any (n : Int) (w : World) (b : Nat) :
    Calls Tryz.prog 70 #[.pointer (some ⟨b, 0, none⟩), .int .i64 n] w fun e w' => e = .returned (.int .i64 0) ∧ w = w' := by
  go_enter Tryz.func70, Tryz.ntmps70
  go_wp2
  go_ret
  exact ⟨rfl, rfl⟩
theorem wr_left (a p : Int) (h0 : 0 ≤ a) (h1 : a ≤ 1099511627776) (h2 : 0 ≤ p) (h3 : p ≤ 1099511627776) : wrap64 (a - p) = a - p := by unfold wrap64; omega
theorem left_any (h : SG w F b k s) (n : Int) (h0 : 0 ≤ s.t.a) (h1 : s.t.a ≤ 1099511627776) (h2 : 0 ≤ s.passed) (h3 : s.passed ≤ 1099511627776) :
    Calls Tryz.prog 71 #[.pointer (some ⟨b, 0, none⟩), .int .i64 n] w fun e w' => e = .returned (.int .i64 (min n (s.t.a - s.passed))) ∧ Below w.heap.size w w' := by
  have c5 : w.cell? ⟨b, 5, none⟩ = some (.int .i64 s.t.a) := (h.blk.cell 5).trans rfl
  have c16 : w.cell? ⟨b, 16, none⟩ = some (.int .i64 s.passed) := (h.blk.cell 16).trans rfl
  have hw := Lib.hid (wr_left s.t.a s.passed h0 h1 h2 h3)
  clear h h0 h1 h2 h3
  go_enter Tryz.func71, Tryz.ntmps71
  go_wp2
  refine start_ (n := 13) (S := fun w' => w'.cell? ⟨b, 5, none⟩ = some (.int .i64 s.t.a) ∧ w'.cell? ⟨b, 16, none⟩ = some (.int .i64 s.passed)) (ds := []) #[false, false, false, false, false, false, false, false, false, false, false, false, false] (by kernel_rfl) rfl rfl ⟨c5, c16⟩ (fun hHeld => ?_)
  refine pure_ (i := 0) (N := some 5) (v := ?_) (a' := ?_) #[true, false, false, false, false, false, false, false, false, false, false, false, false] rfl rfl (by kernel_rfl) (fun _ _ _ h => h) (Or.inl ⟨by rfl, ?_⟩) ?_ ?_
  rotate_left
  · intro w'
    go_simp
    with_reducible rfl
  rotate_left
  · simp only [Act.put, List.setIfInBounds_toArray, List.set_cons_zero, List.set_cons_succ, i64_w, i32_w]
    rfl
  refine pure_ (i := 1) (N := some 6) (v := ?_) (a' := ?_) #[true, true, false, false, false, false, false, false, false, false, false, false, false] rfl rfl (by kernel_rfl) (fun _ _ _ h => h) (Or.inl ⟨by rfl, ?_⟩) ?_ ?_
  rotate_left
  · intro w'
    go_simp
    with_reducible rfl
  rotate_left
  · simp only [Act.put, List.setIfInBounds_toArray, List.set_cons_zero, List.set_cons_succ, i64_w, i32_w]
    rfl
  refine pure_ (i := 2) (N := some 7) (v := ?_) (a' := ?_) #[true, true, true, false, false, false, false, false, false, false, false, false, false] rfl rfl (by kernel_rfl) (fun _ _ _ h => h) (Or.inl ⟨by rfl, ?_⟩) ?_ ?_
  rotate_left
  · intro w'
    go_simp
    with_reducible rfl
  rotate_left
  · simp only [Act.put, List.setIfInBounds_toArray, List.set_cons_zero, List.set_cons_succ, i64_w, i32_w]
    rfl
  refine pure_ (i := 3) (N := some 8) (v := ?_) (a' := ?_) #[true, true, true, true, false, false, false, false, false, false, false, false, false] rfl rfl (by kernel_rfl) (fun _ _ _ h => h) (Or.inl ⟨by rfl, ?_⟩) ?_ ?_
  rotate_left
  · intro w'
    go_simp
    with_reducible rfl
  rotate_left
  · simp only [Act.put, List.setIfInBounds_toArray, List.set_cons_zero, List.set_cons_succ, i64_w, i32_w]
    rfl
  refine pure_ (i := 4) (N := some 9) (v := ?_) (a' := ?_) #[true, true, true, true, true, false, false, false, false, false, false, false, false] rfl rfl (by kernel_rfl) (fun _ _ _ h => h) (Or.inl ⟨by rfl, ?_⟩) ?_ ?_
  rotate_left
  · intro w'
    go_simp
    with_reducible rfl
  rotate_left
  · simp only [Act.put, List.setIfInBounds_toArray, List.set_cons_zero, List.set_cons_succ, i64_w, i32_w]
    rfl
  refine pure_ (i := 6) (N := some 11) (v := ?_) (a' := ?_) #[true, true, true, true, true, false, true, false, false, false, false, false, false] rfl rfl (by kernel_rfl) (fun _ _ _ h => h) (Or.inl ⟨by rfl, ?_⟩) ?_ ?_
  rotate_left
  · intro w'
    go_simp
    with_reducible rfl
  rotate_left
  · simp only [Act.put, List.setIfInBounds_toArray, List.set_cons_zero, List.set_cons_succ, i64_w, i32_w]
    rfl
  refine pure_ (i := 7) (N := some 12) (v := ?_) (a' := ?_) #[true, true, true, true, true, false, true, true, false, false, false, false, false] rfl rfl (by kernel_rfl) (fun _ _ _ h => h) (Or.inl ⟨by rfl, ?_⟩) ?_ ?_
  rotate_left
  · intro w'
    go_simp
    with_reducible rfl
  rotate_left
  · simp only [Act.put, List.setIfInBounds_toArray, List.set_cons_zero, List.set_cons_succ, i64_w, i32_w]
    rfl
  refine pure_ (i := 8) (N := some 13) (v := ?_) (a' := ?_) #[true, true, true, true, true, false, true, true, true, false, false, false, false] rfl rfl (by kernel_rfl) (fun _ _ _ h => h) (Or.inl ⟨by rfl, ?_⟩) ?_ ?_
  rotate_left
  · intro w'
    go_simp
    with_reducible rfl
  rotate_left
  · simp only [Act.put, List.setIfInBounds_toArray, List.set_cons_zero, List.set_cons_succ, i64_w, i32_w]
    rfl
  refine take_ (i := 5) (N := some 10) (v := ?_) (a' := ?_) #[true, true, true, true, true, true, true, true, true, false, false, false, false] rfl rfl (by kernel_rfl) (fun _ _ _ h => h) (Or.inl ⟨by rfl, ?_⟩) hHeld ?_ ?_
  rotate_left
  · rintro w' ⟨s0, s1⟩
    go_simp
    with_reducible rfl
  rotate_left
  · simp only [Act.put, List.setIfInBounds_toArray, List.set_cons_zero, List.set_cons_succ, i64_w, i32_w]
    rfl
  refine take_ (i := 9) (N := some 14) (v := ?_) (a' := ?_) #[true, true, true, true, true, true, true, true, true, true, false, false, false] rfl rfl (by kernel_rfl) (fun _ _ _ h => h) (Or.inl ⟨by rfl, ?_⟩) hHeld ?_ ?_
  rotate_left
  · rintro w' ⟨s0, s1⟩
    go_simp
    with_reducible rfl
  rotate_left
  · simp only [Act.put, List.setIfInBounds_toArray, List.set_cons_zero, List.set_cons_succ, i64_w, i32_w]
    rfl
  refine pure_ (i := 10) (N := some 15) (v := ?_) (a' := ?_) #[true, true, true, true, true, true, true, true, true, true, true, false, false] rfl rfl (by kernel_rfl) (fun _ _ _ h => h) (Or.inl ⟨by rfl, ?_⟩) ?_ ?_
  rotate_left
  · intro w'
    go_simp
    with_reducible rfl
  rotate_left
  · simp only [Act.put, List.setIfInBounds_toArray, List.set_cons_zero, List.set_cons_succ, i64_w, i32_w]
    rfl
  refine pure_ (i := 11) (N := some 16) (v := ?_) (a' := ?_) #[true, true, true, true, true, true, true, true, true, true, true, true, false] rfl rfl (by kernel_rfl) (fun _ _ _ h => h) (Or.inl ⟨by rfl, ?_⟩) ?_ ?_
  rotate_left
  · intro w'
    go_simp
    with_reducible rfl
  rotate_left
  · simp only [Act.put, List.setIfInBounds_toArray, List.set_cons_zero, List.set_cons_succ, i64_w, i32_w]
    rfl
  refine pure_ (i := 12) (N := some 4) (v := ?_) (a' := ?_) #[true, true, true, true, true, true, true, true, true, true, true, true, true] rfl rfl (by kernel_rfl) (fun _ _ _ h => h) (Or.inl ⟨by rfl, ?_⟩) ?_ ?_
  rotate_left
  · intro w'
    go_simp
    with_reducible rfl
  rotate_left
  · simp only [Act.put, List.setIfInBounds_toArray, List.set_cons_zero, List.set_cons_succ, i64_w, i32_w]
    rfl
  refine done_ (by kernel_rfl) ?_
  go_wp2
  go_ret
  refine ⟨?_, (Below.refl _ _).drew⟩
  show Ending.returned (.int .i64 (min n (wrap64 (s.t.a - s.passed)))) = _
  rw [hw.out]
def sliceS (s : Sg) (n : Int) : Sg := if n = 0 ∨ s.clock < s.pause then s else { s with dice := Ref02.stepI s.dice, pause := add s.clock s.t.b }
def sliceN (s : Sg) (n : Int) : Int := if n = 0 ∨ s.clock < s.pause then 0 else min n (Ref02.hiI s.dice s.t.a + 1)
theorem slice_any (h : SG w F b k s) (n : Int) (h0 : 1 ≤ s.t.a) (h1 : s.t.a ≤ 4096) :
    Calls Tryz.prog 69 #[.pointer (some ⟨b, 0, none⟩), .int .i64 n] w fun e w' => e = .returned (.int .i64 (sliceN s n)) ∧ SG w' F b k (sliceS s n) ∧ Did F w w' := by
  have H := Lib.hid h
  have e1 := Lib.hid (show sliceS s n = if n = 0 ∨ s.clock < s.pause then s else { s with dice := Ref02.stepI s.dice, pause := add s.clock s.t.b } from rfl)
  have e2 := Lib.hid (show sliceN s n = if n = 0 ∨ s.clock < s.pause then 0 else min n (Ref02.hiI s.dice s.t.a + 1) from rfl)
  have c14 : w.cell? ⟨b, 14, none⟩ = some (.int .i64 s.clock) := (h.blk.cell 14).trans rfl
  have c15 : w.cell? ⟨b, 15, none⟩ = some (.int .i64 s.pause) := (h.blk.cell 15).trans rfl
  clear h
  generalize sliceS s n = sL at *
  generalize sliceN s n = nL at *
  go_enter Tryz.func69, Tryz.ntmps69
  go_wp2
  by_cases hn : n = 0
  · have q1 := Lib.hid (show sL = s by rw [e1.out, if_pos (.inl hn)])
    have q2 := Lib.hid (show nL = 0 by rw [e2.out, if_pos (.inl hn)])
    have tz : (n == 0) = true := by simpa using hn
    clear hn
    refine start_ (n := 13) (S := fun w' => True) (ds := []) #[false, false, false, false, false, false, false, false, false, false, false, false, false] (by kernel_rfl) rfl rfl trivial (fun hHeld => ?_)
    refine pure_ (i := 0) (N := some 7) (v := ?_) (a' := ?_) #[true, false, false, false, false, false, false, false, false, false, false, false, false] rfl rfl (by kernel_rfl) (fun _ _ _ h => h) (Or.inl ⟨by rfl, ?_⟩) ?_ ?_
    rotate_left
    · intro w'
      go_simp
      with_reducible rfl
    rotate_left
    · simp only [Act.put, List.setIfInBounds_toArray, List.set_cons_zero, List.set_cons_succ, i64_w, i32_w]
      rfl
    refine pure_ (i := 1) (N := some 8) (v := ?_) (a' := ?_) #[true, true, false, false, false, false, false, false, false, false, false, false, false] rfl rfl (by kernel_rfl) (fun _ _ _ h => h) (Or.inl ⟨by rfl, ?_⟩) ?_ ?_
    rotate_left
    · intro w'
      go_simp
      with_reducible rfl
    rotate_left
    · simp only [Act.put, List.setIfInBounds_toArray, List.set_cons_zero, List.set_cons_succ, i64_w, i32_w]
      rfl
    refine pure_ (i := 2) (N := some 9) (v := ?_) (a' := ?_) #[true, true, true, false, false, false, false, false, false, false, false, false, false] rfl rfl (by kernel_rfl) (fun _ _ _ h => h) (Or.inl ⟨by rfl, ?_⟩) ?_ ?_
    rotate_left
    · intro w'
      go_simp
      with_reducible rfl
    rotate_left
    · simp only [Act.put, List.setIfInBounds_toArray, List.set_cons_zero, List.set_cons_succ, i64_w, i32_w]
      rfl
    refine pure_ (i := 3) (N := some 10) (v := undef) (a' := ?_) #[true, true, true, true, false, false, false, false, false, false, false, false, false] rfl rfl (by kernel_rfl) (fun _ _ _ h => h) (Or.inr ⟨by rfl, rfl⟩) ?_ ?_
    rotate_left
    · simp only [Act.put, List.setIfInBounds_toArray, List.set_cons_zero, List.set_cons_succ, i64_w, i32_w]
      rfl
    refine pure_ (i := 4) (N := some 11) (v := undef) (a' := ?_) #[true, true, true, true, true, false, false, false, false, false, false, false, false] rfl rfl (by kernel_rfl) (fun _ _ _ h => h) (Or.inr ⟨by rfl, rfl⟩) ?_ ?_
    rotate_left
    · simp only [Act.put, List.setIfInBounds_toArray, List.set_cons_zero, List.set_cons_succ, i64_w, i32_w]
      rfl
    refine pure_ (i := 5) (N := some 12) (v := undef) (a' := ?_) #[true, true, true, true, true, true, false, false, false, false, false, false, false] rfl rfl (by kernel_rfl) (fun _ _ _ h => h) (Or.inr ⟨by rfl, rfl⟩) ?_ ?_
    rotate_left
    · simp only [Act.put, List.setIfInBounds_toArray, List.set_cons_zero, List.set_cons_succ, i64_w, i32_w]
      rfl
    refine pure_ (i := 6) (N := some 13) (v := undef) (a' := ?_) #[true, true, true, true, true, true, true, false, false, false, false, false, false] rfl rfl (by kernel_rfl) (fun _ _ _ h => h) (Or.inr ⟨by rfl, rfl⟩) ?_ ?_
    rotate_left
    · simp only [Act.put, List.setIfInBounds_toArray, List.set_cons_zero, List.set_cons_succ, i64_w, i32_w]
      rfl
    refine pure_ (i := 7) (N := some 14) (v := undef) (a' := ?_) #[true, true, true, true, true, true, true, true, false, false, false, false, false] rfl rfl (by kernel_rfl) (fun _ _ _ h => h) (Or.inr ⟨by rfl, rfl⟩) ?_ ?_
    rotate_left
    · simp only [Act.put, List.setIfInBounds_toArray, List.set_cons_zero, List.set_cons_succ, i64_w, i32_w]
      rfl
    refine pure_ (i := 8) (N := some 15) (v := undef) (a' := ?_) #[true, true, true, true, true, true, true, true, true, false, false, false, false] rfl rfl (by kernel_rfl) (fun _ _ _ h => h) (Or.inr ⟨by rfl, rfl⟩) ?_ ?_
    rotate_left
    · simp only [Act.put, List.setIfInBounds_toArray, List.set_cons_zero, List.set_cons_succ, i64_w, i32_w]
      rfl
    refine pure_ (i := 9) (N := some 16) (v := undef) (a' := ?_) #[true, true, true, true, true, true, true, true, true, true, false, false, false] rfl rfl (by kernel_rfl) (fun _ _ _ h => h) (Or.inr ⟨by rfl, rfl⟩) ?_ ?_
    rotate_left
    · simp only [Act.put, List.setIfInBounds_toArray, List.set_cons_zero, List.set_cons_succ, i64_w, i32_w]
      rfl
    refine pure_ (i := 10) (N := some 17) (v := undef) (a' := ?_) #[true, true, true, true, true, true, true, true, true, true, true, false, false] rfl rfl (by kernel_rfl) (fun _ _ _ h => h) (Or.inr ⟨by rfl, rfl⟩) ?_ ?_
    rotate_left
    · simp only [Act.put, List.setIfInBounds_toArray, List.set_cons_zero, List.set_cons_succ, i64_w, i32_w]
      rfl
    refine pure_ (i := 11) (N := some 18) (v := undef) (a' := ?_) #[true, true, true, true, true, true, true, true, true, true, true, true, false] rfl rfl (by kernel_rfl) (fun _ _ _ h => h) (Or.inr ⟨by rfl, rfl⟩) ?_ ?_
    rotate_left
    · simp only [Act.put, List.setIfInBounds_toArray, List.set_cons_zero, List.set_cons_succ, i64_w, i32_w]
      rfl
    refine pure_ (i := 12) (N := some 19) (v := ?_) (a' := ?_) #[true, true, true, true, true, true, true, true, true, true, true, true, true] rfl rfl (by kernel_rfl) (fun _ _ _ h => h) (Or.inl ⟨by rfl, ?_⟩) ?_ ?_
    rotate_left
    · intro w'
      go_simp
      with_reducible rfl
    rotate_left
    · simp only [Act.put, List.setIfInBounds_toArray, List.set_cons_zero, List.set_cons_succ, i64_w, i32_w]
      rfl
    refine done_ (by kernel_rfl) ?_
    go_wp2
    go_ret
    rw [q1.out, q2.out]
    exact ⟨rfl, H.out.drew, (Did.refl F w).drew⟩
  · have tz : (n == 0) = false := by simpa using hn
    by_cases hp : s.clock < s.pause
    · have q1 := Lib.hid (show sL = s by rw [e1.out, if_pos (.inr hp)])
      have q2 := Lib.hid (show nL = 0 by rw [e2.out, if_pos (.inr hp)])
      have tp : decide (s.clock < s.pause) = true := decide_eq_true hp
      clear hn hp
      refine start_ (n := 13) (S := fun w' => w'.cell? ⟨b, 14, none⟩ = some (.int .i64 s.clock) ∧ w'.cell? ⟨b, 15, none⟩ = some (.int .i64 s.pause)) (ds := []) #[false, false, false, false, false, false, false, false, false, false, false, false, false] (by kernel_rfl) rfl rfl ⟨c14, c15⟩ (fun hHeld => ?_)
      refine pure_ (i := 0) (N := some 7) (v := ?_) (a' := ?_) #[true, false, false, false, false, false, false, false, false, false, false, false, false] rfl rfl (by kernel_rfl) (fun _ _ _ h => h) (Or.inl ⟨by rfl, ?_⟩) ?_ ?_
      rotate_left
      · intro w'
        go_simp
        with_reducible rfl
      rotate_left
      · simp only [Act.put, List.setIfInBounds_toArray, List.set_cons_zero, List.set_cons_succ, i64_w, i32_w]
        rfl
      refine pure_ (i := 1) (N := some 8) (v := ?_) (a' := ?_) #[true, true, false, false, false, false, false, false, false, false, false, false, false] rfl rfl (by kernel_rfl) (fun _ _ _ h => h) (Or.inl ⟨by rfl, ?_⟩) ?_ ?_
      rotate_left
      · intro w'
        go_simp
        with_reducible rfl
      rotate_left
      · simp only [Act.put, List.setIfInBounds_toArray, List.set_cons_zero, List.set_cons_succ, i64_w, i32_w]
        rfl
      refine pure_ (i := 2) (N := some 9) (v := ?_) (a' := ?_) #[true, true, true, false, false, false, false, false, false, false, false, false, false] rfl rfl (by kernel_rfl) (fun _ _ _ h => h) (Or.inl ⟨by rfl, ?_⟩) ?_ ?_
      rotate_left
      · intro w'
        go_simp
        with_reducible rfl
      rotate_left
      · simp only [Act.put, List.setIfInBounds_toArray, List.set_cons_zero, List.set_cons_succ, i64_w, i32_w]
        rfl
      refine pure_ (i := 3) (N := some 10) (v := ?_) (a' := ?_) #[true, true, true, true, false, false, false, false, false, false, false, false, false] rfl rfl (by kernel_rfl) (fun _ _ _ h => h) (Or.inl ⟨by rfl, ?_⟩) ?_ ?_
      rotate_left
      · intro w'
        go_simp
        with_reducible rfl
      rotate_left
      · simp only [Act.put, List.setIfInBounds_toArray, List.set_cons_zero, List.set_cons_succ, i64_w, i32_w]
        rfl
      refine pure_ (i := 4) (N := some 11) (v := ?_) (a' := ?_) #[true, true, true, true, true, false, false, false, false, false, false, false, false] rfl rfl (by kernel_rfl) (fun _ _ _ h => h) (Or.inl ⟨by rfl, ?_⟩) ?_ ?_
      rotate_left
      · intro w'
        go_simp
        with_reducible rfl
      rotate_left
      · simp only [Act.put, List.setIfInBounds_toArray, List.set_cons_zero, List.set_cons_succ, i64_w, i32_w]
        rfl
      refine pure_ (i := 5) (N := some 12) (v := ?_) (a' := ?_) #[true, true, true, true, true, true, false, false, false, false, false, false, false] rfl rfl (by kernel_rfl) (fun _ _ _ h => h) (Or.inl ⟨by rfl, ?_⟩) ?_ ?_
      rotate_left
      · intro w'
        go_simp
        with_reducible rfl
      rotate_left
      · simp only [Act.put, List.setIfInBounds_toArray, List.set_cons_zero, List.set_cons_succ, i64_w, i32_w]
        rfl
      refine pure_ (i := 7) (N := some 14) (v := ?_) (a' := ?_) #[true, true, true, true, true, true, false, true, false, false, false, false, false] rfl rfl (by kernel_rfl) (fun _ _ _ h => h) (Or.inl ⟨by rfl, ?_⟩) ?_ ?_
      rotate_left
      · intro w'
        go_simp
        with_reducible rfl
      rotate_left
      · simp only [Act.put, List.setIfInBounds_toArray, List.set_cons_zero, List.set_cons_succ, i64_w, i32_w]
        rfl
      refine pure_ (i := 8) (N := some 15) (v := ?_) (a' := ?_) #[true, true, true, true, true, true, false, true, true, false, false, false, false] rfl rfl (by kernel_rfl) (fun _ _ _ h => h) (Or.inl ⟨by rfl, ?_⟩) ?_ ?_
      rotate_left
      · intro w'
        go_simp
        with_reducible rfl
      rotate_left
      · simp only [Act.put, List.setIfInBounds_toArray, List.set_cons_zero, List.set_cons_succ, i64_w, i32_w]
        rfl
      refine pure_ (i := 9) (N := some 16) (v := ?_) (a' := ?_) #[true, true, true, true, true, true, false, true, true, true, false, false, false] rfl rfl (by kernel_rfl) (fun _ _ _ h => h) (Or.inl ⟨by rfl, ?_⟩) ?_ ?_
      rotate_left
      · intro w'
        go_simp
        with_reducible rfl
      rotate_left
      · simp only [Act.put, List.setIfInBounds_toArray, List.set_cons_zero, List.set_cons_succ, i64_w, i32_w]
        rfl
      refine take_ (i := 6) (N := some 13) (v := ?_) (a' := ?_) #[true, true, true, true, true, true, true, true, true, true, false, false, false] rfl rfl (by kernel_rfl) (fun _ _ _ h => h) (Or.inl ⟨by rfl, ?_⟩) hHeld ?_ ?_
      rotate_left
      · rintro w' ⟨s0, s1⟩
        go_simp
        with_reducible rfl
      rotate_left
      · simp only [Act.put, List.setIfInBounds_toArray, List.set_cons_zero, List.set_cons_succ, i64_w, i32_w]
        rfl
      refine take_ (i := 10) (N := some 17) (v := ?_) (a' := ?_) #[true, true, true, true, true, true, true, true, true, true, true, false, false] rfl rfl (by kernel_rfl) (fun _ _ _ h => h) (Or.inl ⟨by rfl, ?_⟩) hHeld ?_ ?_
      rotate_left
      · rintro w' ⟨s0, s1⟩
        go_simp
        with_reducible rfl
      rotate_left
      · simp only [Act.put, List.setIfInBounds_toArray, List.set_cons_zero, List.set_cons_succ, i64_w, i32_w]
        rfl
      refine pure_ (i := 11) (N := some 18) (v := ?_) (a' := ?_) #[true, true, true, true, true, true, true, true, true, true, true, true, false] rfl rfl (by kernel_rfl) (fun _ _ _ h => h) (Or.inl ⟨by rfl, ?_⟩) ?_ ?_
      rotate_left
      · intro w'
        go_simp
        with_reducible rfl
      rotate_left
      · simp only [Act.put, List.setIfInBounds_toArray, List.set_cons_zero, List.set_cons_succ, i64_w, i32_w]
        rfl
      refine pure_ (i := 12) (N := some 19) (v := ?_) (a' := ?_) #[true, true, true, true, true, true, true, true, true, true, true, true, true] rfl rfl (by kernel_rfl) (fun _ _ _ h => h) (Or.inl ⟨by rfl, ?_⟩) ?_ ?_
      rotate_left
      · intro w'
        go_simp
        with_reducible rfl
      rotate_left
      · simp only [Act.put, List.setIfInBounds_toArray, List.set_cons_zero, List.set_cons_succ, i64_w, i32_w]
        rfl
      refine done_ (by kernel_rfl) ?_
      go_wp2
      go_ret
      rw [q1.out, q2.out]
      exact ⟨rfl, H.out.drew, (Did.refl F w).drew⟩
    · have hno : ¬ (n = 0 ∨ s.clock < s.pause) := by rintro (h | h); exact hn h; exact hp h
      have q1 := Lib.hid (show sL = { s with dice := Ref02.stepI s.dice, pause := add s.clock s.t.b } by rw [e1.out, if_neg hno])
      have q2 := Lib.hid (show nL = min n (Ref02.hiI s.dice s.t.a + 1) by rw [e2.out, if_neg hno])
      have tp : decide (s.clock < s.pause) = false := decide_eq_false hp
      have hbd := Ref02.hiI_bd s.dice s.t.a h0
      clear hn hp hno e1 e2
      refine start_ (n := 13) (S := fun w' => w'.cell? ⟨b, 14, none⟩ = some (.int .i64 s.clock) ∧ w'.cell? ⟨b, 15, none⟩ = some (.int .i64 s.pause)) (ds := []) #[false, false, false, false, false, false, false, false, false, false, false, false, false] (by kernel_rfl) rfl rfl ⟨c14, c15⟩ (fun hHeld => ?_)
      refine pure_ (i := 0) (N := some 7) (v := ?_) (a' := ?_) #[true, false, false, false, false, false, false, false, false, false, false, false, false] rfl rfl (by kernel_rfl) (fun _ _ _ h => h) (Or.inl ⟨by rfl, ?_⟩) ?_ ?_
      rotate_left
      · intro w'
        go_simp
        with_reducible rfl
      rotate_left
      · simp only [Act.put, List.setIfInBounds_toArray, List.set_cons_zero, List.set_cons_succ, i64_w, i32_w]
        rfl
      refine pure_ (i := 1) (N := some 8) (v := ?_) (a' := ?_) #[true, true, false, false, false, false, false, false, false, false, false, false, false] rfl rfl (by kernel_rfl) (fun _ _ _ h => h) (Or.inl ⟨by rfl, ?_⟩) ?_ ?_
      rotate_left
      · intro w'
        go_simp
        with_reducible rfl
      rotate_left
      · simp only [Act.put, List.setIfInBounds_toArray, List.set_cons_zero, List.set_cons_succ, i64_w, i32_w]
        rfl
      refine pure_ (i := 2) (N := some 9) (v := ?_) (a' := ?_) #[true, true, true, false, false, false, false, false, false, false, false, false, false] rfl rfl (by kernel_rfl) (fun _ _ _ h => h) (Or.inl ⟨by rfl, ?_⟩) ?_ ?_
      rotate_left
      · intro w'
        go_simp
        with_reducible rfl
      rotate_left
      · simp only [Act.put, List.setIfInBounds_toArray, List.set_cons_zero, List.set_cons_succ, i64_w, i32_w]
        rfl
      refine pure_ (i := 3) (N := some 10) (v := ?_) (a' := ?_) #[true, true, true, true, false, false, false, false, false, false, false, false, false] rfl rfl (by kernel_rfl) (fun _ _ _ h => h) (Or.inl ⟨by rfl, ?_⟩) ?_ ?_
      rotate_left
      · intro w'
        go_simp
        with_reducible rfl
      rotate_left
      · simp only [Act.put, List.setIfInBounds_toArray, List.set_cons_zero, List.set_cons_succ, i64_w, i32_w]
        rfl
      refine pure_ (i := 4) (N := some 11) (v := ?_) (a' := ?_) #[true, true, true, true, true, false, false, false, false, false, false, false, false] rfl rfl (by kernel_rfl) (fun _ _ _ h => h) (Or.inl ⟨by rfl, ?_⟩) ?_ ?_
      rotate_left
      · intro w'
        go_simp
        with_reducible rfl
      rotate_left
      · simp only [Act.put, List.setIfInBounds_toArray, List.set_cons_zero, List.set_cons_succ, i64_w, i32_w]
        rfl
      refine pure_ (i := 5) (N := some 12) (v := ?_) (a' := ?_) #[true, true, true, true, true, true, false, false, false, false, false, false, false] rfl rfl (by kernel_rfl) (fun _ _ _ h => h) (Or.inl ⟨by rfl, ?_⟩) ?_ ?_
      rotate_left
      · intro w'
        go_simp
        with_reducible rfl
      rotate_left
      · simp only [Act.put, List.setIfInBounds_toArray, List.set_cons_zero, List.set_cons_succ, i64_w, i32_w]
        rfl
      refine pure_ (i := 7) (N := some 14) (v := ?_) (a' := ?_) #[true, true, true, true, true, true, false, true, false, false, false, false, false] rfl rfl (by kernel_rfl) (fun _ _ _ h => h) (Or.inl ⟨by rfl, ?_⟩) ?_ ?_
      rotate_left
      · intro w'
        go_simp
        with_reducible rfl
      rotate_left
      · simp only [Act.put, List.setIfInBounds_toArray, List.set_cons_zero, List.set_cons_succ, i64_w, i32_w]
        rfl
      refine pure_ (i := 8) (N := some 15) (v := ?_) (a' := ?_) #[true, true, true, true, true, true, false, true, true, false, false, false, false] rfl rfl (by kernel_rfl) (fun _ _ _ h => h) (Or.inl ⟨by rfl, ?_⟩) ?_ ?_
      rotate_left
      · intro w'
        go_simp
        with_reducible rfl
      rotate_left
      · simp only [Act.put, List.setIfInBounds_toArray, List.set_cons_zero, List.set_cons_succ, i64_w, i32_w]
        rfl
      refine pure_ (i := 9) (N := some 16) (v := ?_) (a' := ?_) #[true, true, true, true, true, true, false, true, true, true, false, false, false] rfl rfl (by kernel_rfl) (fun _ _ _ h => h) (Or.inl ⟨by rfl, ?_⟩) ?_ ?_
      rotate_left
      · intro w'
        go_simp
        with_reducible rfl
      rotate_left
      · simp only [Act.put, List.setIfInBounds_toArray, List.set_cons_zero, List.set_cons_succ, i64_w, i32_w]
        rfl
      refine take_ (i := 6) (N := some 13) (v := ?_) (a' := ?_) #[true, true, true, true, true, true, true, true, true, true, false, false, false] rfl rfl (by kernel_rfl) (fun _ _ _ h => h) (Or.inl ⟨by rfl, ?_⟩) hHeld ?_ ?_
      rotate_left
      · rintro w' ⟨s0, s1⟩
        go_simp
        with_reducible rfl
      rotate_left
      · simp only [Act.put, List.setIfInBounds_toArray, List.set_cons_zero, List.set_cons_succ, i64_w, i32_w]
        rfl
      refine take_ (i := 10) (N := some 17) (v := ?_) (a' := ?_) #[true, true, true, true, true, true, true, true, true, true, true, false, false] rfl rfl (by kernel_rfl) (fun _ _ _ h => h) (Or.inl ⟨by rfl, ?_⟩) hHeld ?_ ?_
      rotate_left
      · rintro w' ⟨s0, s1⟩
        go_simp
        with_reducible rfl
      rotate_left
      · simp only [Act.put, List.setIfInBounds_toArray, List.set_cons_zero, List.set_cons_succ, i64_w, i32_w]
        rfl
      refine pure_ (i := 11) (N := some 18) (v := ?_) (a' := ?_) #[true, true, true, true, true, true, true, true, true, true, true, true, false] rfl rfl (by kernel_rfl) (fun _ _ _ h => h) (Or.inl ⟨by rfl, ?_⟩) ?_ ?_
      rotate_left
      · intro w'
        go_simp
        with_reducible rfl
      rotate_left
      · simp only [Act.put, List.setIfInBounds_toArray, List.set_cons_zero, List.set_cons_succ, i64_w, i32_w]
        rfl
      refine pure_ (i := 12) (N := some 19) (v := ?_) (a' := ?_) #[true, true, true, true, true, true, true, true, true, true, true, true, true] rfl rfl (by kernel_rfl) (fun _ _ _ h => h) (Or.inl ⟨by rfl, ?_⟩) ?_ ?_
      rotate_left
      · intro w'
        go_simp
        with_reducible rfl
      rotate_left
      · simp only [Act.put, List.setIfInBounds_toArray, List.set_cons_zero, List.set_cons_succ, i64_w, i32_w]
        rfl
      refine done_ (by kernel_rfl) ?_
      clear hHeld c14 c15
      have HS := Lib.hid H.out.drew
      have HD := Lib.hid ((Did.refl F w).drew)
      clear H
      generalize w.drew = w1 at *
      have c7 : w1.cell? ⟨b, 7, none⟩ = some (.int .u64 s.dice) := (HS.out.blk.cell 7).trans rfl
      have c5 : w1.cell? ⟨b, 5, none⟩ = some (.int .i64 s.t.a) := (HS.out.blk.cell 5).trans rfl
      go_wp2
      refine start_ (n := 15) (S := fun w' => w'.cell? ⟨b, 7, none⟩ = some (.int .u64 s.dice) ∧ w'.cell? ⟨b, 5, none⟩ = some (.int .i64 s.t.a)) (ds := []) #[false, false, false, false, false, false, false, false, false, false, false, false, false, false, false] (by kernel_rfl) rfl rfl ⟨c7, c5⟩ (fun hHeld => ?_)
      refine pure_ (i := 0) (N := some 21) (v := ?_) (a' := ?_) #[true, false, false, false, false, false, false, false, false, false, false, false, false, false, false] rfl rfl (by kernel_rfl) (fun _ _ _ h => h) (Or.inl ⟨by rfl, ?_⟩) ?_ ?_
      rotate_left
      · intro w'
        go_simp
        with_reducible rfl
      rotate_left
      · simp only [Act.put, List.setIfInBounds_toArray, List.set_cons_zero, List.set_cons_succ, i64_w, i32_w]
        rfl
      refine pure_ (i := 1) (N := some 22) (v := ?_) (a' := ?_) #[true, true, false, false, false, false, false, false, false, false, false, false, false, false, false] rfl rfl (by kernel_rfl) (fun _ _ _ h => h) (Or.inl ⟨by rfl, ?_⟩) ?_ ?_
      rotate_left
      · intro w'
        go_simp
        with_reducible rfl
      rotate_left
      · simp only [Act.put, List.setIfInBounds_toArray, List.set_cons_zero, List.set_cons_succ, i64_w, i32_w]
        rfl
      refine pure_ (i := 2) (N := some 23) (v := ?_) (a' := ?_) #[true, true, true, false, false, false, false, false, false, false, false, false, false, false, false] rfl rfl (by kernel_rfl) (fun _ _ _ h => h) (Or.inl ⟨by rfl, ?_⟩) ?_ ?_
      rotate_left
      · intro w'
        go_simp
        with_reducible rfl
      rotate_left
      · simp only [Act.put, List.setIfInBounds_toArray, List.set_cons_zero, List.set_cons_succ, i64_w, i32_w]
        rfl
      refine pure_ (i := 4) (N := some 25) (v := ?_) (a' := ?_) #[true, true, true, false, true, false, false, false, false, false, false, false, false, false, false] rfl rfl (by kernel_rfl) (fun _ _ _ h => h) (Or.inl ⟨by rfl, ?_⟩) ?_ ?_
      rotate_left
      · intro w'
        go_simp
        with_reducible rfl
      rotate_left
      · simp only [Act.put, List.setIfInBounds_toArray, List.set_cons_zero, List.set_cons_succ, i64_w, i32_w]
        rfl
      refine pure_ (i := 5) (N := some 26) (v := ?_) (a' := ?_) #[true, true, true, false, true, true, false, false, false, false, false, false, false, false, false] rfl rfl (by kernel_rfl) (fun _ _ _ h => h) (Or.inl ⟨by rfl, ?_⟩) ?_ ?_
      rotate_left
      · intro w'
        go_simp
        with_reducible rfl
      rotate_left
      · simp only [Act.put, List.setIfInBounds_toArray, List.set_cons_zero, List.set_cons_succ, i64_w, i32_w]
        rfl
      refine pure_ (i := 6) (N := some 27) (v := ?_) (a' := ?_) #[true, true, true, false, true, true, true, false, false, false, false, false, false, false, false] rfl rfl (by kernel_rfl) (fun _ _ _ h => h) (Or.inl ⟨by rfl, ?_⟩) ?_ ?_
      rotate_left
      · intro w'
        go_simp
        with_reducible rfl
      rotate_left
      · simp only [Act.put, List.setIfInBounds_toArray, List.set_cons_zero, List.set_cons_succ, i64_w, i32_w]
        rfl
      refine pure_ (i := 7) (N := some 28) (v := ?_) (a' := ?_) #[true, true, true, false, true, true, true, true, false, false, false, false, false, false, false] rfl rfl (by kernel_rfl) (fun _ _ _ h => h) (Or.inl ⟨by rfl, ?_⟩) ?_ ?_
      rotate_left
      · intro w'
        go_simp
        with_reducible rfl
      rotate_left
      · simp only [Act.put, List.setIfInBounds_toArray, List.set_cons_zero, List.set_cons_succ, i64_w, i32_w]
        rfl
      refine take_ (i := 3) (N := some 24) (v := ?_) (a' := ?_) #[true, true, true, true, true, true, true, true, false, false, false, false, false, false, false] rfl rfl (by kernel_rfl) (fun _ _ _ h => h) (Or.inl ⟨by rfl, ?_⟩) hHeld ?_ ?_
      rotate_left
      · rintro w' ⟨s0, s1⟩
        go_simp
        with_reducible rfl
      rotate_left
      · simp only [Act.put, List.setIfInBounds_toArray, List.set_cons_zero, List.set_cons_succ, i64_w, i32_w]
        rfl
      refine take_ (i := 8) (N := some 29) (v := ?_) (a' := ?_) #[true, true, true, true, true, true, true, true, true, false, false, false, false, false, false] rfl rfl (by kernel_rfl) (fun _ _ _ h => h) (Or.inl ⟨by rfl, ?_⟩) hHeld ?_ ?_
      rotate_left
      · rintro w' ⟨s0, s1⟩
        go_simp
        with_reducible rfl
      rotate_left
      · simp only [Act.put, List.setIfInBounds_toArray, List.set_cons_zero, List.set_cons_succ, i64_w, i32_w]
        rfl
      refine one_ (i := 9) (N := some 30) #[true, true, true, true, true, true, true, true, true, true, false, false, false, false, false] rfl rfl (by kernel_rfl) (by decide) (fun K hK => ?_)
      refine goes_ Tryz.func80 (by kernel_rfl) rfl #[.int .u64 s.dice, .int .i64 s.t.a] (by rfl) rfl rfl (by simp only [List.map_toArray, List.map_cons, List.map_nil]; rfl) ?_
      with_reducible refine (Dice.below_some s.dice s.t.a w1.drew h0 (by omega)).mono ?_
      rintro e w2 ⟨rfl, rfl⟩
      refine ⟨_, rfl, ?_⟩
      refine hK.out _ _ ⟨c7, c5⟩ (fun hHeld => ?_)
      clear hK K
      refine norm_ (a' := ?_) ?_ ?_
      rotate_left
      · show Act.put _ (some 30) _ = _
        simp only [Act.put, List.setIfInBounds_toArray, List.set_cons_zero, List.set_cons_succ, i64_w, i32_w]
        rfl
      refine pure_ (i := 10) (N := some 20) (v := ?_) (a' := ?_) #[true, true, true, true, true, true, true, true, true, true, true, false, false, false, false] rfl rfl (by kernel_rfl) (fun _ _ _ h => h) (Or.inl ⟨by rfl, ?_⟩) ?_ ?_
      rotate_left
      · intro w'
        go_simp
        with_reducible rfl
      rotate_left
      · simp only [Act.put, List.setIfInBounds_toArray, List.set_cons_zero, List.set_cons_succ, i64_w, i32_w]
        rfl
      refine pure_ (i := 11) (N := some 31) (v := ?_) (a' := ?_) #[true, true, true, true, true, true, true, true, true, true, true, true, false, false, false] rfl rfl (by kernel_rfl) (fun _ _ _ h => h) (Or.inl ⟨by rfl, ?_⟩) ?_ ?_
      rotate_left
      · intro w'
        go_simp
        with_reducible rfl
      rotate_left
      · simp only [Act.put, List.setIfInBounds_toArray, List.set_cons_zero, List.set_cons_succ, i64_w, i32_w]
        rfl
      refine pure_ (i := 12) (N := some 32) (v := ?_) (a' := ?_) #[true, true, true, true, true, true, true, true, true, true, true, true, true, false, false] rfl rfl (by kernel_rfl) (fun _ _ _ h => h) (Or.inl ⟨by rfl, ?_⟩) ?_ ?_
      rotate_left
      · intro w'
        go_simp
        with_reducible rfl
      rotate_left
      · simp only [Act.put, List.setIfInBounds_toArray, List.set_cons_zero, List.set_cons_succ, i64_w, i32_w]
        rfl
      refine pure_ (i := 13) (N := some 5) (v := ?_) (a' := ?_) #[true, true, true, true, true, true, true, true, true, true, true, true, true, true, false] rfl rfl (by kernel_rfl) (fun _ _ _ h => h) (Or.inl ⟨by rfl, ?_⟩) ?_ ?_
      rotate_left
      · intro w'
        go_simp
        with_reducible rfl
      rotate_left
      · simp only [Act.put, List.setIfInBounds_toArray, List.set_cons_zero, List.set_cons_succ, i64_w, i32_w]
        rfl
      refine pure_ (i := 14) (N := some 6) (v := ?_) (a' := ?_) #[true, true, true, true, true, true, true, true, true, true, true, true, true, true, true] rfl rfl (by kernel_rfl) (fun _ _ _ h => h) (Or.inl ⟨by rfl, ?_⟩) ?_ ?_
      rotate_left
      · intro w'
        go_simp
        with_reducible rfl
      rotate_left
      · simp only [Act.put, List.setIfInBounds_toArray, List.set_cons_zero, List.set_cons_succ, i64_w, i32_w]
        rfl
      refine done_ (by kernel_rfl) ?_
      clear hHeld c7 c5
      replace HS := Lib.hid HS.out.drew
      replace HD := Lib.hid HD.out.drew
      generalize w1.drew = w2 at *
      have c7 : w2.cell? ⟨b, 7, none⟩ = some (.int .u64 s.dice) := (HS.out.blk.cell 7).trans rfl
      have f7 := HS.out.blk.free 7
      have hbl : b < w2.heap.size := HS.out.lt HS.out.mine
      have HX := Lib.hid (HS.out.set 7 (.int .u64 (Ref02.stepI s.dice)) { s with dice := Ref02.stepI s.dice } rfl rfl)
      have HY := Lib.hid (HD.out.setCell (p := ⟨b, 7, none⟩) (.inl HS.out.mine) (.int .u64 (Ref02.stepI s.dice)))
      go_wp2
      generalize w2.setCell ⟨b, 7, none⟩ (.int .u64 (Ref02.stepI s.dice)) = w3 at *
      clear c7 f7 hbl HS HD
      have c14 : w3.cell? ⟨b, 14, none⟩ = some (.int .i64 s.clock) := (HX.out.blk.cell 14).trans rfl
      have c6 : w3.cell? ⟨b, 6, none⟩ = some (.int .i64 s.t.b) := (HX.out.blk.cell 6).trans rfl
      have f15 := HX.out.blk.free 15
      have c15 : w3.cell? ⟨b, 15, none⟩ = some (.int .i64 s.pause) := (HX.out.blk.cell 15).trans rfl
      have hbl : b < w3.heap.size := HX.out.lt HX.out.mine
      refine start_ (n := 14) (S := fun w' => w'.cell? ⟨b, 14, none⟩ = some (.int .i64 s.clock) ∧ w'.cell? ⟨b, 6, none⟩ = some (.int .i64 s.t.b)) (ds := [13]) #[false, false, false, false, false, false, false, false, false, false, false, false, false, false] (by kernel_rfl) rfl rfl ⟨c14, c6⟩ (fun hHeld => ?_)
      refine pure_ (i := 0) (N := some 37) (v := ?_) (a' := ?_) #[true, false, false, false, false, false, false, false, false, false, false, false, false, false] rfl rfl (by kernel_rfl) (fun _ _ _ h => h) (Or.inl ⟨by rfl, ?_⟩) ?_ ?_
      rotate_left
      · intro w'
        go_simp
        with_reducible rfl
      rotate_left
      · simp only [Act.put, List.setIfInBounds_toArray, List.set_cons_zero, List.set_cons_succ, i64_w, i32_w]
        rfl
      refine pure_ (i := 1) (N := some 38) (v := ?_) (a' := ?_) #[true, true, false, false, false, false, false, false, false, false, false, false, false, false] rfl rfl (by kernel_rfl) (fun _ _ _ h => h) (Or.inl ⟨by rfl, ?_⟩) ?_ ?_
      rotate_left
      · intro w'
        go_simp
        with_reducible rfl
      rotate_left
      · simp only [Act.put, List.setIfInBounds_toArray, List.set_cons_zero, List.set_cons_succ, i64_w, i32_w]
        rfl
      refine pure_ (i := 2) (N := some 39) (v := ?_) (a' := ?_) #[true, true, true, false, false, false, false, false, false, false, false, false, false, false] rfl rfl (by kernel_rfl) (fun _ _ _ h => h) (Or.inl ⟨by rfl, ?_⟩) ?_ ?_
      rotate_left
      · intro w'
        go_simp
        with_reducible rfl
      rotate_left
      · simp only [Act.put, List.setIfInBounds_toArray, List.set_cons_zero, List.set_cons_succ, i64_w, i32_w]
        rfl
      refine pure_ (i := 3) (N := some 40) (v := ?_) (a' := ?_) #[true, true, true, true, false, false, false, false, false, false, false, false, false, false] rfl rfl (by kernel_rfl) (fun _ _ _ h => h) (Or.inl ⟨by rfl, ?_⟩) ?_ ?_
      rotate_left
      · intro w'
        go_simp
        with_reducible rfl
      rotate_left
      · simp only [Act.put, List.setIfInBounds_toArray, List.set_cons_zero, List.set_cons_succ, i64_w, i32_w]
        rfl
      refine pure_ (i := 5) (N := some 42) (v := ?_) (a' := ?_) #[true, true, true, true, false, true, false, false, false, false, false, false, false, false] rfl rfl (by kernel_rfl) (fun _ _ _ h => h) (Or.inl ⟨by rfl, ?_⟩) ?_ ?_
      rotate_left
      · intro w'
        go_simp
        with_reducible rfl
      rotate_left
      · simp only [Act.put, List.setIfInBounds_toArray, List.set_cons_zero, List.set_cons_succ, i64_w, i32_w]
        rfl
      refine pure_ (i := 6) (N := some 43) (v := ?_) (a' := ?_) #[true, true, true, true, false, true, true, false, false, false, false, false, false, false] rfl rfl (by kernel_rfl) (fun _ _ _ h => h) (Or.inl ⟨by rfl, ?_⟩) ?_ ?_
      rotate_left
      · intro w'
        go_simp
        with_reducible rfl
      rotate_left
      · simp only [Act.put, List.setIfInBounds_toArray, List.set_cons_zero, List.set_cons_succ, i64_w, i32_w]
        rfl
      refine pure_ (i := 7) (N := some 44) (v := ?_) (a' := ?_) #[true, true, true, true, false, true, true, true, false, false, false, false, false, false] rfl rfl (by kernel_rfl) (fun _ _ _ h => h) (Or.inl ⟨by rfl, ?_⟩) ?_ ?_
      rotate_left
      · intro w'
        go_simp
        with_reducible rfl
      rotate_left
      · simp only [Act.put, List.setIfInBounds_toArray, List.set_cons_zero, List.set_cons_succ, i64_w, i32_w]
        rfl
      refine pure_ (i := 8) (N := some 45) (v := ?_) (a' := ?_) #[true, true, true, true, false, true, true, true, true, false, false, false, false, false] rfl rfl (by kernel_rfl) (fun _ _ _ h => h) (Or.inl ⟨by rfl, ?_⟩) ?_ ?_
      rotate_left
      · intro w'
        go_simp
        with_reducible rfl
      rotate_left
      · simp only [Act.put, List.setIfInBounds_toArray, List.set_cons_zero, List.set_cons_succ, i64_w, i32_w]
        rfl
      refine take_ (i := 4) (N := some 41) (v := ?_) (a' := ?_) #[true, true, true, true, true, true, true, true, true, false, false, false, false, false] rfl rfl (by kernel_rfl) (fun _ _ _ h => h) (Or.inl ⟨by rfl, ?_⟩) hHeld ?_ ?_
      rotate_left
      · rintro w' ⟨s0, s1⟩
        go_simp
        with_reducible rfl
      rotate_left
      · simp only [Act.put, List.setIfInBounds_toArray, List.set_cons_zero, List.set_cons_succ, i64_w, i32_w]
        rfl
      refine take_ (i := 9) (N := some 46) (v := ?_) (a' := ?_) #[true, true, true, true, true, true, true, true, true, true, false, false, false, false] rfl rfl (by kernel_rfl) (fun _ _ _ h => h) (Or.inl ⟨by rfl, ?_⟩) hHeld ?_ ?_
      rotate_left
      · rintro w' ⟨s0, s1⟩
        go_simp
        with_reducible rfl
      rotate_left
      · simp only [Act.put, List.setIfInBounds_toArray, List.set_cons_zero, List.set_cons_succ, i64_w, i32_w]
        rfl
      refine one_ (i := 10) (N := some 47) #[true, true, true, true, true, true, true, true, true, true, true, false, false, false] rfl rfl (by kernel_rfl) (by decide) (fun K hK => ?_)
      refine goes_ Tryz.func14 (by kernel_rfl) rfl #[.int .i64 s.clock, .int .i64 s.t.b] (by rfl) rfl rfl (by simp only [List.map_toArray, List.map_cons, List.map_nil]; rfl) ?_
      with_reducible refine (add_any s.clock s.t.b w3.drew).mono ?_
      rintro e w4 ⟨rfl, rfl⟩
      refine ⟨_, rfl, ?_⟩
      refine hK.out _ _ ⟨c14, c6⟩ (fun hHeld => ?_)
      clear hK K
      refine norm_ (a' := ?_) ?_ ?_
      rotate_left
      · show Act.put _ (some 47) _ = _
        simp only [Act.put, List.setIfInBounds_toArray, List.set_cons_zero, List.set_cons_succ, i64_w, i32_w]
        rfl
      refine pure_ (i := 11) (N := some 48) (v := ?_) (a' := ?_) #[true, true, true, true, true, true, true, true, true, true, true, true, false, false] rfl rfl (by kernel_rfl) (fun _ _ _ h => h) (Or.inl ⟨by rfl, ?_⟩) ?_ ?_
      rotate_left
      · intro w'
        go_simp
        with_reducible rfl
      rotate_left
      · simp only [Act.put, List.setIfInBounds_toArray, List.set_cons_zero, List.set_cons_succ, i64_w, i32_w]
        rfl
      refine pure_ (i := 12) (N := some 49) (v := ?_) (a' := ?_) #[true, true, true, true, true, true, true, true, true, true, true, true, true, false] rfl rfl (by kernel_rfl) (fun _ _ _ h => h) (Or.inl ⟨by rfl, ?_⟩) ?_ ?_
      rotate_left
      · intro w'
        go_simp
        with_reducible rfl
      rotate_left
      · simp only [Act.put, List.setIfInBounds_toArray, List.set_cons_zero, List.set_cons_succ, i64_w, i32_w]
        rfl
      refine last_ (i := 13) (N := none) #[true, true, true, true, true, true, true, true, true, true, true, true, true, true] rfl rfl (by kernel_rfl) (by decide) (fun K hK => ?_)
      refine skip_ (w1 := ?_) (by rfl) rfl ?_ ?_
      rotate_left
      · go_simp
        rfl
      refine hK.out _ _ ?_
      clear hK K
      refine done_ (by kernel_rfl) ?_
      go_wp2
      go_ret
      rw [q1.out, q2.out]
      exact ⟨rfl, HX.out.drew.set 15 _ _ rfl rfl, HY.out.drew.setCell (.inl HX.out.mine) _⟩
def someS (s : Sg) (n : Int) : Sg := { s with b2 := takeL s.b0 s.b1 s.b2 s.b3 s.clock n, b3 := takeT s.b0 s.b1 s.b2 s.b3 s.clock n }
def someN (s : Sg) (n : Int) : Int := takeK s.b0 s.b1 s.b2 s.b3 s.clock n
theorem SG.bucket (h : SG w F b k s) (y z : Int) : SG ((((w.setCell ⟨b, 8, none⟩ (.int .i64 s.b0)).setCell ⟨b, 9, none⟩ (.int .i64 s.b1)).setCell ⟨b, 10, none⟩ (.int .i64 y)).setCell ⟨b, 11, none⟩ (.int .i64 z)) F b k { s with b2 := y, b3 := z } :=
  (((h.set 8 (.int .i64 s.b0) s rfl rfl).set 9 (.int .i64 s.b1) s rfl rfl).set 10 (.int .i64 y) { s with b2 := y } rfl rfl).set 11 (.int .i64 z) { s with b2 := y, b3 := z } rfl rfl
theorem some_any (h : SG w F b k s) (n : Int) :
    Calls Tryz.prog 68 #[.pointer (some ⟨b, 0, none⟩), .int .i64 n] w fun e w' => e = .returned (.int .i64 (someN s n)) ∧ SG w' F b k (someS s n) ∧ Did F w w' := by
  have H := Lib.hid h
  have c8 : w.cell? ⟨b, 8, none⟩ = some (.int .i64 s.b0) := (h.blk.cell 8).trans rfl
  have c9 : w.cell? ⟨b, 9, none⟩ = some (.int .i64 s.b1) := (h.blk.cell 9).trans rfl
  have c10 : w.cell? ⟨b, 10, none⟩ = some (.int .i64 s.b2) := (h.blk.cell 10).trans rfl
  have c11 : w.cell? ⟨b, 11, none⟩ = some (.int .i64 s.b3) := (h.blk.cell 11).trans rfl
  have c14 : w.cell? ⟨b, 14, none⟩ = some (.int .i64 s.clock) := (h.blk.cell 14).trans rfl
  clear h
  unfold someS someN
  generalize hL : takeL s.b0 s.b1 s.b2 s.b3 s.clock n = L
  generalize hT : takeT s.b0 s.b1 s.b2 s.b3 s.clock n = T
  generalize hK : takeK s.b0 s.b1 s.b2 s.b3 s.clock n = K0
  have HL := Lib.hid hL
  have HT := Lib.hid hT
  have HK := Lib.hid hK
  clear hL hT hK
  go_enter Tryz.func68, Tryz.ntmps68
  go_wp2
  refine start_ (n := 16) (S := fun w' => w'.cell? ⟨b, 8, none⟩ = some (.int .i64 s.b0) ∧ w'.cell? ⟨b, 9, none⟩ = some (.int .i64 s.b1) ∧ w'.cell? ⟨b, 10, none⟩ = some (.int .i64 s.b2) ∧ w'.cell? ⟨b, 11, none⟩ = some (.int .i64 s.b3) ∧ w'.cell? ⟨b, 14, none⟩ = some (.int .i64 s.clock)) (ds := [14]) #[false, false, false, false, false, false, false, false, false, false, false, false, false, false, false, false] (by kernel_rfl) rfl rfl ⟨c8, c9, c10, c11, c14⟩ (fun hHeld => ?_)
  refine pure_ (i := 0) (N := some 8) (v := ?_) (a' := ?_) #[true, false, false, false, false, false, false, false, false, false, false, false, false, false, false, false] rfl rfl (by kernel_rfl) (fun _ _ _ h => h) (Or.inl ⟨by rfl, ?_⟩) ?_ ?_
  rotate_left
  · intro w'
    go_simp
    with_reducible rfl
  rotate_left
  · simp only [Act.put, List.setIfInBounds_toArray, List.set_cons_zero, List.set_cons_succ, i64_w, i32_w]
    rfl
  refine pure_ (i := 1) (N := some 9) (v := ?_) (a' := ?_) #[true, true, false, false, false, false, false, false, false, false, false, false, false, false, false, false] rfl rfl (by kernel_rfl) (fun _ _ _ h => h) (Or.inl ⟨by rfl, ?_⟩) ?_ ?_
  rotate_left
  · intro w'
    go_simp
    with_reducible rfl
  rotate_left
  · simp only [Act.put, List.setIfInBounds_toArray, List.set_cons_zero, List.set_cons_succ, i64_w, i32_w]
    rfl
  refine pure_ (i := 2) (N := some 10) (v := ?_) (a' := ?_) #[true, true, true, false, false, false, false, false, false, false, false, false, false, false, false, false] rfl rfl (by kernel_rfl) (fun _ _ _ h => h) (Or.inl ⟨by rfl, ?_⟩) ?_ ?_
  rotate_left
  · intro w'
    go_simp
    with_reducible rfl
  rotate_left
  · simp only [Act.put, List.setIfInBounds_toArray, List.set_cons_zero, List.set_cons_succ, i64_w, i32_w]
    rfl
  refine pure_ (i := 4) (N := some 12) (v := ?_) (a' := ?_) #[true, true, true, false, true, false, false, false, false, false, false, false, false, false, false, false] rfl rfl (by kernel_rfl) (fun _ _ _ h => h) (Or.inl ⟨by rfl, ?_⟩) ?_ ?_
  rotate_left
  · intro w'
    go_simp
    with_reducible rfl
  rotate_left
  · simp only [Act.put, List.setIfInBounds_toArray, List.set_cons_zero, List.set_cons_succ, i64_w, i32_w]
    rfl
  refine pure_ (i := 5) (N := some 13) (v := ?_) (a' := ?_) #[true, true, true, false, true, true, false, false, false, false, false, false, false, false, false, false] rfl rfl (by kernel_rfl) (fun _ _ _ h => h) (Or.inl ⟨by rfl, ?_⟩) ?_ ?_
  rotate_left
  · intro w'
    go_simp
    with_reducible rfl
  rotate_left
  · simp only [Act.put, List.setIfInBounds_toArray, List.set_cons_zero, List.set_cons_succ, i64_w, i32_w]
    rfl
  refine pure_ (i := 6) (N := some 14) (v := ?_) (a' := ?_) #[true, true, true, false, true, true, true, false, false, false, false, false, false, false, false, false] rfl rfl (by kernel_rfl) (fun _ _ _ h => h) (Or.inl ⟨by rfl, ?_⟩) ?_ ?_
  rotate_left
  · intro w'
    go_simp
    with_reducible rfl
  rotate_left
  · simp only [Act.put, List.setIfInBounds_toArray, List.set_cons_zero, List.set_cons_succ, i64_w, i32_w]
    rfl
  refine pure_ (i := 8) (N := some 16) (v := ?_) (a' := ?_) #[true, true, true, false, true, true, true, false, true, false, false, false, false, false, false, false] rfl rfl (by kernel_rfl) (fun _ _ _ h => h) (Or.inl ⟨by rfl, ?_⟩) ?_ ?_
  rotate_left
  · intro w'
    go_simp
    with_reducible rfl
  rotate_left
  · simp only [Act.put, List.setIfInBounds_toArray, List.set_cons_zero, List.set_cons_succ, i64_w, i32_w]
    rfl
  refine take_ (i := 3) (N := some 11) (v := ?_) (a' := ?_) #[true, true, true, true, true, true, true, false, true, false, false, false, false, false, false, false] rfl rfl (by kernel_rfl) (fun _ _ _ h => h) (Or.inl ⟨by rfl, ?_⟩) hHeld ?_ ?_
  rotate_left
  · rintro w' ⟨s0, s1, s2, s3, s4⟩
    go_simp
    with_reducible rfl
  rotate_left
  · simp only [Act.put, List.setIfInBounds_toArray, List.set_cons_zero, List.set_cons_succ, i64_w, i32_w]
    rfl
  refine take_ (i := 7) (N := some 15) (v := ?_) (a' := ?_) #[true, true, true, true, true, true, true, true, true, false, false, false, false, false, false, false] rfl rfl (by kernel_rfl) (fun _ _ _ h => h) (Or.inl ⟨by rfl, ?_⟩) hHeld ?_ ?_
  rotate_left
  · rintro w' ⟨s0, s1, s2, s3, s4⟩
    go_simp
    with_reducible rfl
  rotate_left
  · simp only [Act.put, List.setIfInBounds_toArray, List.set_cons_zero, List.set_cons_succ, i64_w, i32_w]
    rfl
  refine join_ (σ := Nat) 2 #[true, true, true, true, true, true, true, true, true, true, true, true, true, true, false, false] (fun g => [(17, .tuple #[.agg #[.int .i64 s.b0, .int .i64 s.b1, .int .i64 L, .int .i64 T], .int .i64 K0]), (7, .tuple #[.agg #[.int .i64 s.b0, .int .i64 s.b1, .int .i64 L, .int .i64 T], .int .i64 K0]), (18, .agg #[.int .i64 s.b0, .int .i64 s.b1, .int .i64 L, .int .i64 T]), (19, .int .i64 K0), (5, .pointer (some ⟨g, 0, none⟩))]) (fun g w' => SG w' F b k s ∧ Did F w w' ∧ Blk w' g 57 #[.int .i64 0, .int .i64 0, .int .i64 0, .int .i64 0] ∧ w.heap.size ≤ g) ?_ ?_
  rotate_left
  · intro hCont
    refine two_ (i := 9) (j := 13) (Ni := some 17) (Nj := some 5) #[true, true, true, true, true, true, true, true, true, true, false, false, false, false, false, false] #[true, true, true, true, true, true, true, true, true, false, false, false, false, true, false, false] rfl rfl rfl rfl (by kernel_rfl) (by decide) (by decide) (fun K hK => ?_) (fun K hK => ?_)
    · skip
      refine goes_ Tryz.func88 (by kernel_rfl) rfl #[.agg #[.int .i64 s.b0, .int .i64 s.b1, .int .i64 s.b2, .int .i64 s.b3], .int .i64 s.clock, .int .i64 n] (by rfl) rfl rfl (by simp only [List.map_toArray, List.map_cons, List.map_nil]; rfl) ?_
      with_reducible refine (Bucket.take_any s.b0 s.b1 s.b2 s.b3 s.clock n _).mono ?_
      rintro e w2 ⟨rfl, hB⟩
      rw [HL.out, HT.out, HK.out]
      have hQ := Lib.hid (show SG w2 F b k s ∧ Did F w w2 from ⟨H.out.drew.below hB, ((Did.refl F w).drew).trans (Stem.refl _ _) (Did.of_below hB)⟩)
      clear hB
      refine ⟨_, rfl, ?_⟩
      refine hK.out _ _ ⟨(hQ.out.1.blk.cell 8).trans rfl, (hQ.out.1.blk.cell 9).trans rfl, (hQ.out.1.blk.cell 10).trans rfl, (hQ.out.1.blk.cell 11).trans rfl, (hQ.out.1.blk.cell 14).trans rfl⟩ (fun hHeld => ?_)
      clear hK K
      refine norm_ (a' := ?_) ?_ ?_
      rotate_left
      · show Act.put _ (some 17) _ = _
        simp only [Act.put, List.setIfInBounds_toArray, List.set_cons_zero, List.set_cons_succ, i64_w, i32_w]
        rfl
      refine pure_ (i := 10) (N := some 7) (v := ?_) (a' := ?_) #[true, true, true, true, true, true, true, true, true, true, true, false, false, false, false, false] rfl rfl (by kernel_rfl) (fun _ _ _ h => h) (Or.inl ⟨by rfl, ?_⟩) ?_ ?_
      rotate_left
      · intro w'
        go_simp
        with_reducible rfl
      rotate_left
      · simp only [Act.put, List.setIfInBounds_toArray, List.set_cons_zero, List.set_cons_succ, i64_w, i32_w]
        rfl
      refine pure_ (i := 11) (N := some 18) (v := ?_) (a' := ?_) #[true, true, true, true, true, true, true, true, true, true, true, true, false, false, false, false] rfl rfl (by kernel_rfl) (fun _ _ _ h => h) (Or.inl ⟨by rfl, ?_⟩) ?_ ?_
      rotate_left
      · intro w'
        go_simp
        with_reducible rfl
      rotate_left
      · simp only [Act.put, List.setIfInBounds_toArray, List.set_cons_zero, List.set_cons_succ, i64_w, i32_w]
        rfl
      refine pure_ (i := 12) (N := some 19) (v := ?_) (a' := ?_) #[true, true, true, true, true, true, true, true, true, true, true, true, true, false, false, false] rfl rfl (by kernel_rfl) (fun _ _ _ h => h) (Or.inl ⟨by rfl, ?_⟩) ?_ ?_
      rotate_left
      · intro w'
        go_simp
        with_reducible rfl
      rotate_left
      · simp only [Act.put, List.setIfInBounds_toArray, List.set_cons_zero, List.set_cons_succ, i64_w, i32_w]
        rfl
      refine one_ (i := 13) (N := some 5) #[true, true, true, true, true, true, true, true, true, true, true, true, true, true, false, false] rfl rfl (by kernel_rfl) (by decide) (fun K hK => ?_)
      refine value_ (w1 := ?_) (v := ?_) (by rfl) rfl ?_ ?_
      rotate_left 2
      · go_simp
        constructor
        · rfl
        · rfl
      refine hK.out _ _ ⟨((hQ.out.1.below ((Below.refl _ _).alloc (Nat.le_refl _) (.cells #[.int .i64 0, .int .i64 0, .int .i64 0, .int .i64 0] 57))).blk.cell 8).trans rfl, ((hQ.out.1.below ((Below.refl _ _).alloc (Nat.le_refl _) (.cells #[.int .i64 0, .int .i64 0, .int .i64 0, .int .i64 0] 57))).blk.cell 9).trans rfl, ((hQ.out.1.below ((Below.refl _ _).alloc (Nat.le_refl _) (.cells #[.int .i64 0, .int .i64 0, .int .i64 0, .int .i64 0] 57))).blk.cell 10).trans rfl, ((hQ.out.1.below ((Below.refl _ _).alloc (Nat.le_refl _) (.cells #[.int .i64 0, .int .i64 0, .int .i64 0, .int .i64 0] 57))).blk.cell 11).trans rfl, ((hQ.out.1.below ((Below.refl _ _).alloc (Nat.le_refl _) (.cells #[.int .i64 0, .int .i64 0, .int .i64 0, .int .i64 0] 57))).blk.cell 14).trans rfl⟩ (fun hHeld => ?_)
      clear hK K
      refine norm_ (a' := ?_) ?_ ?_
      rotate_left
      · show Act.put _ (some 5) _ = _
        simp only [Act.put, List.setIfInBounds_toArray, List.set_cons_zero, List.set_cons_succ, i64_w, i32_w]
        rfl
      exact norm_ (by simp only [putAll, Act.put, List.setIfInBounds_toArray, List.set_cons_zero, List.set_cons_succ]) (hCont w2.heap.size _ ⟨hQ.out.1.below ((Below.refl _ _).alloc (Nat.le_refl _) _), hQ.out.2.alloc _, Blk.new _ _ _, hQ.out.2.size⟩)
    · skip
      refine value_ (w1 := ?_) (v := ?_) (by rfl) rfl ?_ ?_
      rotate_left 2
      · go_simp
        constructor
        · rfl
        · rfl
      refine hK.out _ _ ⟨((H.out.drew.below ((Below.refl w.drew.heap.size w.drew).alloc (Nat.le_refl _) (.cells #[.int .i64 0, .int .i64 0, .int .i64 0, .int .i64 0] 57))).blk.cell 8).trans rfl, ((H.out.drew.below ((Below.refl w.drew.heap.size w.drew).alloc (Nat.le_refl _) (.cells #[.int .i64 0, .int .i64 0, .int .i64 0, .int .i64 0] 57))).blk.cell 9).trans rfl, ((H.out.drew.below ((Below.refl w.drew.heap.size w.drew).alloc (Nat.le_refl _) (.cells #[.int .i64 0, .int .i64 0, .int .i64 0, .int .i64 0] 57))).blk.cell 10).trans rfl, ((H.out.drew.below ((Below.refl w.drew.heap.size w.drew).alloc (Nat.le_refl _) (.cells #[.int .i64 0, .int .i64 0, .int .i64 0, .int .i64 0] 57))).blk.cell 11).trans rfl, ((H.out.drew.below ((Below.refl w.drew.heap.size w.drew).alloc (Nat.le_refl _) (.cells #[.int .i64 0, .int .i64 0, .int .i64 0, .int .i64 0] 57))).blk.cell 14).trans rfl⟩ (fun hHeld => ?_)
      clear hK K
      refine norm_ (a' := ?_) ?_ ?_
      rotate_left
      · show Act.put _ (some 5) _ = _
        simp only [Act.put, List.setIfInBounds_toArray, List.set_cons_zero, List.set_cons_succ, i64_w, i32_w]
        rfl
      refine one_ (i := 9) (N := some 17) #[true, true, true, true, true, true, true, true, true, true, false, false, false, true, false, false] rfl rfl (by kernel_rfl) (by decide) (fun K hK => ?_)
      refine goes_ Tryz.func88 (by kernel_rfl) rfl #[.agg #[.int .i64 s.b0, .int .i64 s.b1, .int .i64 s.b2, .int .i64 s.b3], .int .i64 s.clock, .int .i64 n] (by rfl) rfl rfl (by simp only [List.map_toArray, List.map_cons, List.map_nil]; rfl) ?_
      with_reducible refine (Bucket.take_any s.b0 s.b1 s.b2 s.b3 s.clock n _).mono ?_
      rintro e w2 ⟨rfl, hB⟩
      rw [HL.out, HT.out, HK.out]
      have hQ := Lib.hid (show SG w2 F b k s ∧ Did F w w2 from ⟨(H.out.drew.below ((Below.refl w.drew.heap.size w.drew).alloc (Nat.le_refl _) (.cells #[.int .i64 0, .int .i64 0, .int .i64 0, .int .i64 0] 57))).below hB, ((Did.refl F w).drew.alloc (.cells #[.int .i64 0, .int .i64 0, .int .i64 0, .int .i64 0] 57)).trans (Stem.refl _ _) (Did.of_below hB)⟩)
      have hZ := Lib.hid ((Blk.new w.drew 57 #[.int .i64 0, .int .i64 0, .int .i64 0, .int .i64 0]).below hB)
      clear hB
      refine ⟨_, rfl, ?_⟩
      refine hK.out _ _ ⟨(hQ.out.1.blk.cell 8).trans rfl, (hQ.out.1.blk.cell 9).trans rfl, (hQ.out.1.blk.cell 10).trans rfl, (hQ.out.1.blk.cell 11).trans rfl, (hQ.out.1.blk.cell 14).trans rfl⟩ (fun hHeld => ?_)
      clear hK K
      refine norm_ (a' := ?_) ?_ ?_
      rotate_left
      · show Act.put _ (some 17) _ = _
        simp only [Act.put, List.setIfInBounds_toArray, List.set_cons_zero, List.set_cons_succ, i64_w, i32_w]
        rfl
      refine pure_ (i := 10) (N := some 7) (v := ?_) (a' := ?_) #[true, true, true, true, true, true, true, true, true, true, true, false, false, true, false, false] rfl rfl (by kernel_rfl) (fun _ _ _ h => h) (Or.inl ⟨by rfl, ?_⟩) ?_ ?_
      rotate_left
      · intro w'
        go_simp
        with_reducible rfl
      rotate_left
      · simp only [Act.put, List.setIfInBounds_toArray, List.set_cons_zero, List.set_cons_succ, i64_w, i32_w]
        rfl
      refine pure_ (i := 11) (N := some 18) (v := ?_) (a' := ?_) #[true, true, true, true, true, true, true, true, true, true, true, true, false, true, false, false] rfl rfl (by kernel_rfl) (fun _ _ _ h => h) (Or.inl ⟨by rfl, ?_⟩) ?_ ?_
      rotate_left
      · intro w'
        go_simp
        with_reducible rfl
      rotate_left
      · simp only [Act.put, List.setIfInBounds_toArray, List.set_cons_zero, List.set_cons_succ, i64_w, i32_w]
        rfl
      refine pure_ (i := 12) (N := some 19) (v := ?_) (a' := ?_) #[true, true, true, true, true, true, true, true, true, true, true, true, true, true, false, false] rfl rfl (by kernel_rfl) (fun _ _ _ h => h) (Or.inl ⟨by rfl, ?_⟩) ?_ ?_
      rotate_left
      · intro w'
        go_simp
        with_reducible rfl
      rotate_left
      · simp only [Act.put, List.setIfInBounds_toArray, List.set_cons_zero, List.set_cons_succ, i64_w, i32_w]
        rfl
      exact norm_ (by simp only [putAll, Act.put, List.setIfInBounds_toArray, List.set_cons_zero, List.set_cons_succ]) (hCont w.heap.size _ ⟨hQ.out.1, hQ.out.2, hZ.out, Nat.le_refl _⟩)
  rintro g w3 ⟨hS3, hD3, hZ3, hg3⟩
  have hHeld := And.intro (show w3.cell? ⟨b, 8, none⟩ = some (.int .i64 s.b0) from (hS3.blk.cell 8).trans rfl) (And.intro (show w3.cell? ⟨b, 9, none⟩ = some (.int .i64 s.b1) from (hS3.blk.cell 9).trans rfl) (And.intro (show w3.cell? ⟨b, 10, none⟩ = some (.int .i64 s.b2) from (hS3.blk.cell 10).trans rfl) (And.intro (show w3.cell? ⟨b, 11, none⟩ = some (.int .i64 s.b3) from (hS3.blk.cell 11).trans rfl) (show w3.cell? ⟨b, 14, none⟩ = some (.int .i64 s.clock) from (hS3.blk.cell 14).trans rfl))))
  have HQ3 := Lib.hid (show SG w3 F b k s ∧ Did F w w3 from ⟨hS3, hD3⟩)
  have g0 := hZ3.cell 0
  have g1 := hZ3.cell 1
  have g2 := hZ3.cell 2
  have g3 := hZ3.cell 3
  have q0 := hZ3.free 0
  have q1 := hZ3.free 1
  have q2 := hZ3.free 2
  have q3 := hZ3.free 3
  have hgl : g < w3.heap.size := hZ3.lt
  simp only [List.getElem?_toArray, List.getElem?_cons_zero, List.getElem?_cons_succ] at g0 g1 g2 g3
  have HZ3 := Lib.hid hZ3
  clear hS3 hD3 hZ3
  refine norm_ (a' := ?_) ?_ ?_
  rotate_left
  · simp only [putAll, Act.put, List.setIfInBounds_toArray, List.set_cons_zero, List.set_cons_succ]
    rfl
  refine last_ (i := 14) (N := none) #[true, true, true, true, true, true, true, true, true, true, true, true, true, true, true, false] rfl rfl (by kernel_rfl) (by decide) (fun K hK => ?_)
  refine skip_ (w1 := ?_) (by rfl) rfl ?_ ?_
  rotate_left
  · go_simp
    rfl
  refine hK.out _ _ ?_
  clear hK K
  refine pure_ (i := 15) (N := some 6) (v := ?_) (a' := ?_) #[true, true, true, true, true, true, true, true, true, true, true, true, true, true, true, true] rfl rfl (by kernel_rfl) (fun _ _ _ h => h) (Or.inl ⟨by rfl, ?_⟩) ?_ ?_
  rotate_left
  · intro w'
    go_simp
    with_reducible rfl
  rotate_left
  · simp only [Act.put, List.setIfInBounds_toArray, List.set_cons_zero, List.set_cons_succ, i64_w, i32_w]
    rfl
  refine done_ (by kernel_rfl) ?_
  have hgF : ∀ j, F j → j ≠ g := fun j c e => by subst e; have := H.out.lt c; omega
  have D4 := Lib.hid (show Did F w ((((w3.setCell ⟨g, 0, none⟩ (.int .i64 s.b0)).setCell ⟨g, 1, none⟩ (.int .i64 s.b1)).setCell ⟨g, 2, none⟩ (.int .i64 L)).setCell ⟨g, 3, none⟩ (.int .i64 T)) from (((HQ3.out.2.setCell (p := ⟨g, 0, none⟩) (.inr hg3) _).setCell (p := ⟨g, 1, none⟩) (.inr hg3) _).setCell (p := ⟨g, 2, none⟩) (.inr hg3) _).setCell (p := ⟨g, 3, none⟩) (.inr hg3) _)
  have S4 := Lib.hid (show SG ((((w3.setCell ⟨g, 0, none⟩ (.int .i64 s.b0)).setCell ⟨g, 1, none⟩ (.int .i64 s.b1)).setCell ⟨g, 2, none⟩ (.int .i64 L)).setCell ⟨g, 3, none⟩ (.int .i64 T)) F b k s from HQ3.out.1.kept fun j hj => (Below.heap_setCell _ _ _ j (hgF j hj)).trans ((Below.heap_setCell _ _ _ j (hgF j hj)).trans ((Below.heap_setCell _ _ _ j (hgF j hj)).trans (Below.heap_setCell _ _ _ j (hgF j hj)))))
  have Z4 := Lib.hid (show Blk ((((w3.setCell ⟨g, 0, none⟩ (.int .i64 s.b0)).setCell ⟨g, 1, none⟩ (.int .i64 s.b1)).setCell ⟨g, 2, none⟩ (.int .i64 L)).setCell ⟨g, 3, none⟩ (.int .i64 T)) g 57 #[.int .i64 s.b0, .int .i64 s.b1, .int .i64 L, .int .i64 T] from (((HZ3.out.set_ 0 _).set_ 1 _).set_ 2 _).set_ 3 _)
  clear hHeld g0 g1 g2 g3 q0 q1 q2 q3 hgl HQ3 HZ3 hgF
  generalize ((((w3.setCell ⟨g, 0, none⟩ (.int .i64 s.b0)).setCell ⟨g, 1, none⟩ (.int .i64 s.b1)).setCell ⟨g, 2, none⟩ (.int .i64 L)).setCell ⟨g, 3, none⟩ (.int .i64 T)) = w4 at *
  have z0 : w4.cell? ⟨g, 0, none⟩ = some (.int .i64 s.b0) := (Z4.out.cell 0).trans rfl
  have z1 : w4.cell? ⟨g, 1, none⟩ = some (.int .i64 s.b1) := (Z4.out.cell 1).trans rfl
  have z2 : w4.cell? ⟨g, 2, none⟩ = some (.int .i64 L) := (Z4.out.cell 2).trans rfl
  have z3 : w4.cell? ⟨g, 3, none⟩ = some (.int .i64 T) := (Z4.out.cell 3).trans rfl
  have d8 : w4.cell? ⟨b, 8, none⟩ = some (.int .i64 s.b0) := (S4.out.blk.cell 8).trans rfl
  have d9 : w4.cell? ⟨b, 9, none⟩ = some (.int .i64 s.b1) := (S4.out.blk.cell 9).trans rfl
  have d10 : w4.cell? ⟨b, 10, none⟩ = some (.int .i64 s.b2) := (S4.out.blk.cell 10).trans rfl
  have d11 : w4.cell? ⟨b, 11, none⟩ = some (.int .i64 s.b3) := (S4.out.blk.cell 11).trans rfl
  have f8 := S4.out.blk.free 8
  have f9 := S4.out.blk.free 9
  have f10 := S4.out.blk.free 10
  have f11 := S4.out.blk.free 11
  have hbl : b < w4.heap.size := S4.out.lt S4.out.mine
  clear c8 c9 c10 c11 c14
  go_wp2
  go_ret
  exact ⟨rfl, S4.out.bucket L T, (((D4.out.setCell (p := ⟨b, 8, none⟩) (.inl S4.out.mine) _).setCell (p := ⟨b, 9, none⟩) (.inl S4.out.mine) _).setCell (p := ⟨b, 10, none⟩) (.inl S4.out.mine) _).setCell (p := ⟨b, 11, none⟩) (.inl S4.out.mine) _⟩
end Go.Proofs.YtehpliclknfmoaaGreat.Stage
namespace Go.Proofs.YtehpliclknfmoaaGreat.Stage
open Go.RowKit Mem Tick Cargo Toxic
open Go.Proofs.YtehpliclknfmoaaGreatW.PrintLast
set_option maxRecDepth 100000
set_option linter.unusedVariables false
set_option linter.unusedSimpArgs false
variable {w w' : World} {F : Nat → Prop} {b k : Nat} {s : Sg}
structure Fit (s : Sg) : Prop where
  k0 : 0 ≤ s.t.kind
  k7 : s.t.kind ≤ 7
  a0 : 0 ≤ s.t.a
  a1 : s.t.a ≤ 1099511627776
  b0 : 0 ≤ s.t.b
  b1 : s.t.b ≤ 1099511627776
  sl : s.t.kind = 3 → 1 ≤ s.t.a ∧ s.t.a ≤ 4096
  p0 : 0 ≤ s.passed
  p1 : s.passed ≤ 1000000000
def wayS (s : Sg) (n : Int) : Sg := if s.t.kind = 2 then someS s n else if s.t.kind = 3 then sliceS s n else s
def wayN (s : Sg) (n : Int) : Int := if s.t.kind = 2 then someN s n else if s.t.kind = 3 then sliceN s n else if s.t.kind = 4 then 0 else if s.t.kind = 6 then min n (s.t.a - s.passed) else n
theorem wayS_c (s : Sg) (n : Int) : (wayS s n).c = s.c ∧ (wayS s n).clock = s.clock ∧ (wayS s n).passed = s.passed ∧ (wayS s n).t = s.t := by
  unfold wayS someS sliceS
  split
  · exact ⟨rfl, rfl, rfl, rfl⟩
  · split
    · split <;> exact ⟨rfl, rfl, rfl, rfl⟩
    · exact ⟨rfl, rfl, rfl, rfl⟩
def wayF (k : Int) : Nat := if k = 2 then 68 else if k = 3 then 69 else if k = 4 then 70 else if k = 6 then 71 else 67
theorem way_any (h : SG w F b k s) (hf : Fit s) (n : Int) :
    Calls Tryz.prog (wayF s.t.kind) #[.pointer (some ⟨b, 0, none⟩), .int .i64 n] w fun e w' => e = .returned (.int .i64 (wayN s n)) ∧ SG w' F b k (wayS s n) ∧ Did F w w' := by
  unfold wayF wayN wayS
  by_cases h2 : s.t.kind = 2
  · rw [if_pos h2, if_pos h2, if_pos h2]; exact some_any h n
  · rw [if_neg h2, if_neg h2, if_neg h2]
    by_cases h3 : s.t.kind = 3
    · rw [if_pos h3, if_pos h3, if_pos h3]; exact slice_any h n (hf.sl h3).1 (hf.sl h3).2
    · rw [if_neg h3, if_neg h3, if_neg h3]
      by_cases h4 : s.t.kind = 4
      · rw [if_pos h4, if_pos h4]; exact (none_any n w b).mono fun e w' ⟨he, hw⟩ => ⟨he, hw ▸ h, hw ▸ Did.refl F w⟩
      · rw [if_neg h4, if_neg h4]
        by_cases h6 : s.t.kind = 6
        · rw [if_pos h6, if_pos h6]; exact (left_any h n hf.a0 hf.a1 hf.p0 (by have := hf.p1; omega)).mono fun e w' ⟨he, hb⟩ => ⟨he, h.below hb, Did.of_below hb⟩
        · rw [if_neg h6, if_neg h6]; exact (all_any n w b).mono fun e w' ⟨he, hw⟩ => ⟨he, hw ▸ h, hw ▸ Did.refl F w⟩
def Newly (w : World) (A : Option Addr) : Prop := ∀ g o, A = some ⟨g, o, none⟩ → w.heap.size ≤ g
theorem cargoTake_any (h : SG w F b k s) (hg : Full s.c.1) (ht : held s ≤ 1000000000000) (now most : Int) :
    Calls Tryz.prog 47 #[.pointer (some ⟨k, 0, none⟩), .int .i64 now, .int .i64 most] w fun e w' =>
      ∃ A cap, e = .returned (.slice A (takeP (takeN now most s.c.1) s.c.1).1.size cap) ∧ BS w' A (takeP (takeN now most s.c.1) s.c.1).1 ∧ SG w' F b k { s with c := ((takeP (takeN now most s.c.1) s.c.1).2, s.c.2) } ∧ Did F w w' ∧ Newly w A := by
  obtain ⟨G, hB, hC, hF⟩ := h
  unfold held at ht
  refine (Cargo.take_far now most hC hg (by omega)).mono fun e w' ⟨A, cap, he, hs, hC', hd, hn⟩ => ⟨A, cap, he, hs, ?_⟩
  have hq := SG.cargo (s' := { s with c := ((takeP (takeN now most s.c.1) s.c.1).2, s.c.2) }) hB hC hF hC' hd (Stem.refl _ _) rfl
  refine ⟨?_, hq.2.1, fun g o e => hn g ⟨o, e⟩⟩
  obtain ⟨G', h1, h2, h3⟩ := hq.1
  exact ⟨G', h1, h2, fun j => (hF j).trans (h3 j)⟩

theorem ways_any (w : World) :
    Calls Tryz.prog 48 #[] w fun e w' => e = .returned (.agg #[.func (.func 67) #[] #[], .func (.func 67) #[] #[], .func (.func 68) #[] #[], .func (.func 69) #[] #[], .func (.func 70) #[] #[], .func (.func 67) #[] #[], .func (.func 71) #[] #[], .func (.func 67) #[] #[]]) ∧ Below w.heap.size w w' := by
  go_enter Tryz.func48, Tryz.ntmps48
  go_wp2
  have r0 : (w.alloc (.cells #[.func (.func 67) #[] #[], .func (.func 67) #[] #[], .func (.func 68) #[] #[], .func (.func 69) #[] #[], .func (.func 70) #[] #[], .func (.func 67) #[] #[], .func (.func 71) #[] #[], .func (.func 67) #[] #[]] 87)).cell? ⟨w.heap.size, 0, none⟩ = some (.func (.func 67) #[] #[]) := ((Blk.new w _ _).cell 0).trans rfl
  have r1 : (w.alloc (.cells #[.func (.func 67) #[] #[], .func (.func 67) #[] #[], .func (.func 68) #[] #[], .func (.func 69) #[] #[], .func (.func 70) #[] #[], .func (.func 67) #[] #[], .func (.func 71) #[] #[], .func (.func 67) #[] #[]] 87)).cell? ⟨w.heap.size, 1, none⟩ = some (.func (.func 67) #[] #[]) := ((Blk.new w _ _).cell 1).trans rfl
  have r2 : (w.alloc (.cells #[.func (.func 67) #[] #[], .func (.func 67) #[] #[], .func (.func 68) #[] #[], .func (.func 69) #[] #[], .func (.func 70) #[] #[], .func (.func 67) #[] #[], .func (.func 71) #[] #[], .func (.func 67) #[] #[]] 87)).cell? ⟨w.heap.size, 2, none⟩ = some (.func (.func 68) #[] #[]) := ((Blk.new w _ _).cell 2).trans rfl
  have r3 : (w.alloc (.cells #[.func (.func 67) #[] #[], .func (.func 67) #[] #[], .func (.func 68) #[] #[], .func (.func 69) #[] #[], .func (.func 70) #[] #[], .func (.func 67) #[] #[], .func (.func 71) #[] #[], .func (.func 67) #[] #[]] 87)).cell? ⟨w.heap.size, 3, none⟩ = some (.func (.func 69) #[] #[]) := ((Blk.new w _ _).cell 3).trans rfl
  have r4 : (w.alloc (.cells #[.func (.func 67) #[] #[], .func (.func 67) #[] #[], .func (.func 68) #[] #[], .func (.func 69) #[] #[], .func (.func 70) #[] #[], .func (.func 67) #[] #[], .func (.func 71) #[] #[], .func (.func 67) #[] #[]] 87)).cell? ⟨w.heap.size, 4, none⟩ = some (.func (.func 70) #[] #[]) := ((Blk.new w _ _).cell 4).trans rfl
  have r5 : (w.alloc (.cells #[.func (.func 67) #[] #[], .func (.func 67) #[] #[], .func (.func 68) #[] #[], .func (.func 69) #[] #[], .func (.func 70) #[] #[], .func (.func 67) #[] #[], .func (.func 71) #[] #[], .func (.func 67) #[] #[]] 87)).cell? ⟨w.heap.size, 5, none⟩ = some (.func (.func 67) #[] #[]) := ((Blk.new w _ _).cell 5).trans rfl
  have r6 : (w.alloc (.cells #[.func (.func 67) #[] #[], .func (.func 67) #[] #[], .func (.func 68) #[] #[], .func (.func 69) #[] #[], .func (.func 70) #[] #[], .func (.func 67) #[] #[], .func (.func 71) #[] #[], .func (.func 67) #[] #[]] 87)).cell? ⟨w.heap.size, 6, none⟩ = some (.func (.func 71) #[] #[]) := ((Blk.new w _ _).cell 6).trans rfl
  have r7 : (w.alloc (.cells #[.func (.func 67) #[] #[], .func (.func 67) #[] #[], .func (.func 68) #[] #[], .func (.func 69) #[] #[], .func (.func 70) #[] #[], .func (.func 67) #[] #[], .func (.func 71) #[] #[], .func (.func 67) #[] #[]] 87)).cell? ⟨w.heap.size, 7, none⟩ = some (.func (.func 67) #[] #[]) := ((Blk.new w _ _).cell 7).trans rfl
  exact bodyPost_ret (v := .agg #[.func (.func 67) #[] #[], .func (.func 67) #[] #[], .func (.func 68) #[] #[], .func (.func 69) #[] #[], .func (.func 70) #[] #[], .func (.func 67) #[] #[], .func (.func 71) #[] #[], .func (.func 67) #[] #[]]) (by simp [results, Tryz.results48, go_sem, r0, r1, r2, r3, r4, r5, r6, r7]) rfl ⟨rfl, (Below.refl _ _).alloc (Nat.le_refl _) _⟩
end Go.Proofs.YtehpliclknfmoaaGreat.Stage
/- A stage's Take (chapter 10). Conditions: the bytes are fewer than 2^40; the toxic is one that may be. -/
namespace Go.Proofs.YtehpliclknfmoaaGreat.Stage
open Go.RowKit Mem Tick Cargo Toxic
open Go.Proofs.YtehpliclknfmoaaGreatW.PrintLast Pu
set_option maxRecDepth 100000
set_option linter.unusedVariables false
set_option linter.unusedSimpArgs false
variable {w w' : World} {F : Nat → Prop} {b k : Nat} {s : Sg}

def readyN (s : Sg) (most : Int) : Int := min (rdy s.clock s.c.1 : Int) most
def outN (s : Sg) (m : Int) : Nat := takeN s.clock (wayN s m) (wayS s m).c.1
def takeOut (s : Sg) (m : Int) : Sg := { wayS s m with c := ((takeP (outN s m) (wayS s m).c.1).2, (wayS s m).c.2), passed := s.passed + (takeP (outN s m) (wayS s m).c.1).1.size }
def takeOutB (s : Sg) (m : Int) : ByteArray := (takeP (outN s m) (wayS s m).c.1).1
def takeS (s : Sg) (n most : Int) : Sg := if (lookP s n).state ≠ 0 ∨ most < 1 then lookP s n else takeOut (lookP s n) (readyN (lookP s n) most)
def takeB (s : Sg) (n most : Int) : ByteArray := if (lookP s n).state ≠ 0 ∨ most < 1 then ⟨#[]⟩ else takeOutB (lookP s n) (readyN (lookP s n) most)
theorem Fit.look (h : Fit s) (n : Int) : Fit (lookP s n) := ⟨h.k0, h.k7, h.a0, h.a1, h.b0, h.b1, h.sl, h.p0, h.p1⟩
theorem way_cells {n : Int} (h : SG w F b k (wayS s n)) : w.cell? ⟨b, 0, none⟩ = some (.pointer (some ⟨k, 0, none⟩)) ∧ w.cell? ⟨b, 14, none⟩ = some (.int .i64 s.clock) ∧ w.cell? ⟨b, 2, none⟩ = some (.int .i64 s.t.kind) ∧ w.cell? ⟨b, 16, none⟩ = some (.int .i64 s.passed) := by
  obtain ⟨h1, h2, h3, h4⟩ := wayS_c s n
  have c0 := h.blk.cell 0
  have c14 : w.cell? ⟨b, 14, none⟩ = some (.int .i64 (wayS s n).clock) := (h.blk.cell 14).trans rfl
  have c2 : w.cell? ⟨b, 2, none⟩ = some (.int .i64 (wayS s n).t.kind) := (h.blk.cell 2).trans rfl
  have c16 : w.cell? ⟨b, 16, none⟩ = some (.int .i64 (wayS s n).passed) := (h.blk.cell 16).trans rfl
  rw [h2] at c14
  rw [h4] at c2
  rw [h3] at c16
  exact ⟨c0.trans rfl, c14, c2, c16⟩
theorem wr_passed (p : Int) (n : Nat) (h0 : 0 ≤ p) (h1 : p ≤ 1000000000) (hn : n ≤ 1000000000) : wrap64 (p + (n : Int)) = p + (n : Int) := by unfold wrap64; omega
theorem cready_any (h : SG w F b k s) (ht : held s ≤ 1000000000) (now : Int) :
    Calls Tryz.prog 46 #[.pointer (some ⟨k, 0, none⟩), .int .i64 now] w fun e w' => e = .returned (.int .i64 (rdy now s.c.1)) ∧ Below w.heap.size w w' := by
  obtain ⟨G, hB, hC, hF⟩ := h
  unfold held at ht
  exact ready_any now hC (by omega)
theorem out_le (s : Sg) (m : Int) : (takeOutB s m).size ≤ held s := by
  have h := tot_takeP (outN s m) (wayS s m).c.1
  have hc := (wayS_c s m).1
  unfold takeOutB held
  rw [← hc]
  omega
theorem goesT_ {P : Program} {ops : Array Oper} {Q : Exit → Act → World → Prop} {oi : Oper} {N : Option Tmp} {a : Act} {w : World} {K : Act → World → Prop} {f : FuncId} {fn : Func} {t : Tmp} {as1 : Array Operand} {ts : Array TypeId} (hf : P.funcs[f]? = some fn) (hname : (fn.name == "runtime.NumGoroutine") = false) (hb : fn.body.isSome = true) (args : Array Value)
    (hw : Region.wanted oi (yielded ops a.tmps) = true) (hN : oi.dst = N) (hop : oi.op = .call { callee := .value (.tmp t), args := as1, argTypes := ts }) (hfv : a.eval (.tmp t) = .func (.func f) #[] #[]) (hargs : as1.map a.eval = args)
    (h : Calls P f args w fun e w' => ∃ v, e = .returned v ∧ K (a.put N v) w') : if Region.wanted oi (yielded ops a.tmps) = true then Oper.wp P oi a w K Q else K (a.put N undef) w := by
  refine call_ f args hw hN ?_ h
  have he := enters_ hf hname hb args w
  unfold execOp
  simp [hop, resolve, Deferred.ofValue, invoke, hfv, hargs, he]
theorem idx_way (k : Int) (h0 : 0 ≤ k) (h7 : k ≤ 7) : ∀ W : World, (Instr.index 87 (.agg #[.func (.func 67) #[] #[], .func (.func 67) #[] #[], .func (.func 68) #[] #[], .func (.func 69) #[] #[], .func (.func 70) #[] #[], .func (.func 67) #[] #[], .func (.func 71) #[] #[], .func (.func 67) #[] #[]]) (.int .i64 k)).run Tryz.prog W = .ok (.func (.func (wayF k)) #[] #[]) W := by
  intro W
  have h : k = 0 ∨ k = 1 ∨ k = 2 ∨ k = 3 ∨ k = 4 ∨ k = 5 ∨ k = 6 ∨ k = 7 := by omega
  rcases h with rfl | rfl | rfl | rfl | rfl | rfl | rfl | rfl <;> rfl
theorem way_fn (k : Int) (h0 : 0 ≤ k) (h7 : k ≤ 7) : ∃ fn, Tryz.prog.funcs[wayF k]? = some fn ∧ (fn.name == "runtime.NumGoroutine") = false ∧ fn.body.isSome = true := by
  have h : k = 0 ∨ k = 1 ∨ k = 2 ∨ k = 3 ∨ k = 4 ∨ k = 5 ∨ k = 6 ∨ k = 7 := by omega
  rcases h with rfl | rfl | rfl | rfl | rfl | rfl | rfl | rfl <;> first
    | exact ⟨_, Tryz.func67, rfl, rfl⟩
    | exact ⟨_, Tryz.func68, rfl, rfl⟩
    | exact ⟨_, Tryz.func69, rfl, rfl⟩
    | exact ⟨_, Tryz.func70, rfl, rfl⟩
    | exact ⟨_, Tryz.func71, rfl, rfl⟩
theorem no_byte (k : Nat) (s : Sg) : ∀ v ∈ scells k s, ∀ m, v ≠ .int .u8 m := by
  intro v hv m
  simp only [scells, List.mem_toArray, List.mem_cons, List.not_mem_nil, or_false] at hv
  rcases hv with rfl | rfl | rfl | rfl | rfl | rfl | rfl | rfl | rfl | rfl | rfl | rfl | rfl | rfl | rfl | rfl | rfl | rfl | rfl | rfl <;> (intro h; cases h)
theorem BS_set {A : Option Addr} {x : ByteArray} (h : BS w A x) (hb : Blk w b 59 (scells k s)) (i : Nat) (u : Value) : BS (w.setCell ⟨b, i, none⟩ u) A x := by
  intro h0
  obtain ⟨g, o, rfl, hy⟩ := h h0
  have hne : ¬ b = g := by
    rintro rfl
    have hc := hy 0 h0
    rw [hb.cell] at hc
    exact no_byte k s _ (Array.mem_of_getElem? hc) _ rfl
  exact ⟨g, o, rfl, fun j hj => (Cls.set_cell_ne (.inl hne)).trans (hy j hj)⟩
theorem take_open (h : SG w F b k s) (hg : Full s.c.1) (hf : Fit s) (ht : held s ≤ 1000000000) (n most : Int) (hst : (lookP s n).state = 0) (hm : 1 ≤ most) :
    Calls Tryz.prog 22 #[.pointer (some ⟨b, 0, none⟩), .int .i64 n, .int .i64 most] w fun e w' => ∃ A cap, e = .returned (.slice A (takeOutB (lookP s n) (readyN (lookP s n) most)).size cap) ∧ BS w' A (takeOutB (lookP s n) (readyN (lookP s n) most)) ∧ SG w' F b k (takeOut (lookP s n) (readyN (lookP s n) most)) ∧ Did F w w' ∧ Newly w A := by
  have HS0 := Lib.hid (state_any h (by omega) n)
  have hg1 := Lib.hid (show Full (lookP s n).c.1 from hg)
  have ht1 : held (lookP s n) ≤ 1000000000 := ht
  have hf1 := Lib.hid (hf.look n)
  have hst1 := hst
  have tm : decide (most < 1) = false := decide_eq_false (by omega)
  clear h hg hf ht hst
  generalize lookP s n = s1 at *
  go_enter Tryz.func22, Tryz.ntmps22
  go_wp2_with fail
  refine HS0.out.mono ?_
  rintro e w1 ⟨rfl, HS, HD⟩
  clear HS0
  rw [hst1]
  have HS' := Lib.hid HS
  have HD' := Lib.hid HD
  have c0 : w1.cell? ⟨b, 0, none⟩ = some (.pointer (some ⟨k, 0, none⟩)) := (HS.blk.cell 0).trans rfl
  have c14 : w1.cell? ⟨b, 14, none⟩ = some (.int .i64 s1.clock) := (HS.blk.cell 14).trans rfl
  clear HS HD hst1 hm
  go_wp2
  refine start_ (n := 12) (S := fun w' => w'.cell? ⟨b, 0, none⟩ = some (.pointer (some ⟨k, 0, none⟩)) ∧ w'.cell? ⟨b, 14, none⟩ = some (.int .i64 s1.clock)) (ds := []) (m_ 12 0) (by kernel_rfl) rfl (by kernel_rfl) ⟨c0, c14⟩ (fun hHeld => ?_)
  refine pq_ 0 17 12 1 ?_
  refine pq_ 1 18 12 3 ?_
  refine pq_ 2 19 12 7 ?_
  refine pq_ 4 21 12 23 ?_
  refine pq_ 5 22 12 55 ?_
  refine pq_ 6 23 12 119 ?_
  refine pq_ 9 26 12 631 ?_
  refine tq_ 3 20 12 639 hHeld ?_
  refine tq_ 7 24 12 767 hHeld ?_
  refine one_ (i := 8) (N := some 25) (m_ 12 1023) rfl rfl (by kernel_rfl) (by decide) (fun K hK => ?_)
  refine goes_ Tryz.func46 (by kernel_rfl) rfl #[.pointer (some ⟨k, 0, none⟩), .int .i64 s1.clock] (by rfl) rfl rfl (by simp only [List.map_toArray, List.map_cons, List.map_nil]; rfl) ?_
  with_reducible refine (cready_any (w := w1.drew) HS'.out.drew ht1 s1.clock).mono ?_
  rintro e w2 ⟨rfl, hB⟩
  have hB1 := below_drew hB
  have HS2 := Lib.hid (HS'.out.below hB1)
  have HD2 := Lib.hid (HD'.out.trans (Stem.refl _ _) (Did.of_below hB1))
  have d0 := bcells hB1 c0
  have d14 := bcells hB1 c14
  clear hB hB1
  refine ⟨_, rfl, ?_⟩
  refine hK.out _ _ ⟨d0, d14⟩ (fun hHeld => ?_)
  clear hK K
  refine norm_ (a' := ?_) ?_ ?_
  rotate_left
  · show Act.put _ (some 25) _ = _
    simp only [Act.put, List.setIfInBounds_toArray, List.set_cons_zero, List.set_cons_succ, i64_w, i32_w]
    rfl
  refine pq_ 10 27 12 2047 ?_
  refine pq_ 11 7 12 4095 ?_
  refine done_ (by kernel_rfl) ?_
  clear hHeld c0 c14 d0 d14 HS' HD'
  have hmm := Lib.hid (show min (rdy s1.clock s1.c.1 : Int) most = readyN s1 most from rfl)
  have c0 : w2.cell? ⟨b, 0, none⟩ = some (.pointer (some ⟨k, 0, none⟩)) := (HS2.out.blk.cell 0).trans rfl
  have c14 : w2.cell? ⟨b, 14, none⟩ = some (.int .i64 s1.clock) := (HS2.out.blk.cell 14).trans rfl
  have c2 : w2.cell? ⟨b, 2, none⟩ = some (.int .i64 s1.t.kind) := (HS2.out.blk.cell 2).trans rfl
  go_wp2
  rw [hmm.out]
  generalize hmE : readyN s1 most = m at *
  have hmE' := Lib.hid hmE
  clear hmm tm hmE
  have hidx := idx_way s1.t.kind hf1.out.k0 hf1.out.k7
  obtain ⟨fn, hfn, hnm, hbd⟩ := way_fn s1.t.kind hf1.out.k0 hf1.out.k7
  have hfn' := Lib.hid hfn
  have hnm' := Lib.hid hnm
  have hbd' := Lib.hid hbd
  clear hfn hnm hbd
  refine start_ (n := 20) (S := fun w' => w'.cell? ⟨b, 0, none⟩ = some (.pointer (some ⟨k, 0, none⟩)) ∧ w'.cell? ⟨b, 14, none⟩ = some (.int .i64 s1.clock) ∧ w'.cell? ⟨b, 2, none⟩ = some (.int .i64 s1.t.kind)) (ds := []) (m_ 20 0) (by kernel_rfl) rfl (by kernel_rfl) ⟨c0, c14, c2⟩ (fun hHeld => ?_)
  refine pq_ 0 28 20 1 ?_
  refine pq_ 1 29 20 3 ?_
  refine pq_ 2 30 20 7 ?_
  refine pq_ 4 32 20 23 ?_
  refine pq_ 5 33 20 55 ?_
  refine pq_ 6 34 20 119 ?_
  refine pq_ 9 37 20 631 ?_
  refine pq_ 10 38 20 1655 ?_
  refine pq_ 11 39 20 3703 ?_
  refine pq_ 12 40 20 7799 ?_
  refine pq_ 15 43 20 40567 ?_
  refine pq_ 16 44 20 106103 ?_
  refine tq_ 3 31 20 106111 hHeld ?_
  refine tq_ 7 35 20 106239 hHeld ?_
  refine tq_ 13 41 20 114431 hHeld ?_
  refine one_ (i := 8) (N := some 36) (m_ 20 114687) rfl rfl (by kernel_rfl) (by decide) (fun K hK => ?_)
  refine goes_ Tryz.func48 (by kernel_rfl) rfl #[] (by rfl) rfl rfl (by simp) ?_
  with_reducible refine (ways_any w2.drew).mono ?_
  rintro e w3 ⟨rfl, hB⟩
  have hB1 := below_drew hB
  have HS3 := Lib.hid (HS2.out.below hB1)
  have HD3 := Lib.hid (HD2.out.trans (Stem.refl _ _) (Did.of_below hB1))
  have d0 := bcells hB1 c0
  have d14 := bcells hB1 c14
  have d2 := bcells hB1 c2
  clear hB hB1
  refine ⟨_, rfl, ?_⟩
  refine hK.out _ _ ⟨d0, d14, d2⟩ (fun hHeld => ?_)
  clear hK K
  refine norm_ (a' := ?_) ?_ ?_
  rotate_left
  · show Act.put _ (some 36) _ = _
    simp only [Act.put, List.setIfInBounds_toArray, List.set_cons_zero, List.set_cons_succ, i64_w, i32_w]
    rfl
  refine tq_ 14 42 20 131071 hHeld ?_
  refine one_ (i := 17) (N := some 45) (m_ 20 262143) rfl rfl (by kernel_rfl) (by decide) (fun K hK => ?_)
  refine goesT_ hfn'.out hnm'.out hbd'.out #[.pointer (some ⟨b, 0, none⟩), .int .i64 m] (by rfl) rfl rfl rfl (by simp only [List.map_toArray, List.map_cons, List.map_nil]; rfl) ?_
  with_reducible refine (way_any HS3.out hf1.out m).mono ?_
  rintro e w4 ⟨rfl, hS4, hD4⟩
  obtain ⟨q0, q14, q2, q16⟩ := way_cells hS4
  have HS4 := Lib.hid hS4
  have HD4 := Lib.hid (HD3.out.trans (Stem.refl _ _) hD4)
  have hg4 := Lib.hid (show Full (wayS s1 m).c.1 by rw [(wayS_c s1 m).1]; exact hg1.out)
  have ht4 : held (wayS s1 m) ≤ 1000000000000 := by unfold held; rw [(wayS_c s1 m).1]; unfold held at ht1; omega
  clear hS4 hD4
  refine ⟨_, rfl, ?_⟩
  refine hK.out _ _ ⟨q0, q14, q2⟩ (fun hHeld => ?_)
  clear hK K
  refine norm_ (a' := ?_) ?_ ?_
  rotate_left
  · show Act.put _ (some 45) _ = _
    simp only [Act.put, List.setIfInBounds_toArray, List.set_cons_zero, List.set_cons_succ, i64_w, i32_w]
    rfl
  refine one_ (i := 18) (N := some 46) (m_ 20 524287) rfl rfl (by kernel_rfl) (by decide) (fun K hK => ?_)
  refine goes_ Tryz.func47 (by kernel_rfl) rfl #[.pointer (some ⟨k, 0, none⟩), .int .i64 s1.clock, .int .i64 (wayN s1 m)] (by rfl) rfl rfl (by simp only [List.map_toArray, List.map_cons, List.map_nil]; rfl) ?_
  with_reducible refine (cargoTake_any HS4.out hg4.out ht4 s1.clock (wayN s1 m)).mono ?_
  rintro e w5 ⟨A, cap, rfl, hbs, hS5, hD5, hN5⟩
  have HS5 := Lib.hid hS5
  have HD5 := Lib.hid (HD4.out.trans (Stem.refl _ _) hD5)
  have hbs' := Lib.hid hbs
  have x0 : w5.cell? ⟨b, 0, none⟩ = some (.pointer (some ⟨k, 0, none⟩)) := (hS5.blk.cell 0).trans rfl
  have x14 : w5.cell? ⟨b, 14, none⟩ = some (.int .i64 s1.clock) := (hS5.blk.cell 14).trans (by rw [← (wayS_c s1 m).2.1]; rfl)
  have x2 : w5.cell? ⟨b, 2, none⟩ = some (.int .i64 s1.t.kind) := (hS5.blk.cell 2).trans (by rw [← (wayS_c s1 m).2.2.2]; rfl)
  have x16 : w5.cell? ⟨b, 16, none⟩ = some (.int .i64 s1.passed) := (hS5.blk.cell 16).trans (by rw [← (wayS_c s1 m).2.2.1]; rfl)
  have hN := Lib.hid (show Newly w A from fun g o e => Nat.le_trans HD4.out.size (hN5 g o e))
  clear hbs hS5 hD5 hN5
  refine ⟨_, rfl, ?_⟩
  refine hK.out _ _ ⟨x0, x14, x2⟩ (fun hHeld => ?_)
  clear hK K
  refine norm_ (a' := ?_) ?_ ?_
  rotate_left
  · show Act.put _ (some 46) _ = _
    simp only [Act.put, List.setIfInBounds_toArray, List.set_cons_zero, List.set_cons_succ, i64_w, i32_w]
    rfl
  refine pq_ 19 8 20 1048575 ?_
  refine done_ (by kernel_rfl) ?_
  clear hHeld c0 c14 c2 d0 d14 d2 q0 q14 q2 q16 x0 x14 x2 hidx
  have f16 := HS5.out.blk.free 16
  have hbl : b < w5.heap.size := HS5.out.lt HS5.out.mine
  have hsz := out_le s1 m
  have hwr := Lib.hid (wr_passed s1.passed (takeOutB s1 m).size hf1.out.p0 hf1.out.p1 (by omega))
  have hto := Lib.hid (show takeOutB s1 m = (takeP (takeN s1.clock (wayN s1 m) (wayS s1 m).c.1) (wayS s1 m).c.1).1 from rfl)
  have hfin := Lib.hid (HS5.out.set 16 (.int .i64 (s1.passed + (takeOutB s1 m).size)) (takeOut s1 m) rfl rfl)
  rw [← hto.out]
  have hbs2 := Lib.hid (show BS w5 A (takeOutB s1 m) from hbs'.out)
  clear hsz hbs' hto ht4
  generalize hxE : takeOutB s1 m = x at *
  have hxE' := Lib.hid hxE
  clear hxE
  go_wp2
  go_ret
  rw [hmE'.out, hwr.out, hxE'.out]
  exact ⟨A, cap, rfl, BS_set hbs2.out HS5.out.blk 16 _, hfin.out, HD5.out.setCell (.inl HS5.out.mine) _, hN.out⟩
end Go.Proofs.YtehpliclknfmoaaGreat.Stage
namespace Go.Proofs.YtehpliclknfmoaaGreat.RefT
open Go.RowKit Mem Tick Cargo Toxic Stage Ref07
set_option maxRecDepth 100000
set_option linter.unusedVariables false
set_option linter.unusedSimpArgs false
theorem set_cells (b : Nat) (t : TypeId) : ∀ (vs cs pre : List Value) (W : World), Blk W b t (pre ++ cs).toArray → cs.length = vs.length → Blk (W.setCells b pre.length vs) b t (pre ++ vs).toArray
  | [], [], pre, W, h, _ => h
  | v :: vs, c :: cs, pre, W, h, hl => by
    have h1 := h.set_ pre.length v
    have e : ((pre ++ c :: cs).toArray.setIfInBounds pre.length v) = ((pre ++ [v]) ++ cs).toArray := by
      rw [List.setIfInBounds_toArray]
      congr 1
      rw [List.set_append_right _ _ (Nat.le_refl _), Nat.sub_self, List.set_cons_zero, List.append_assoc]
      rfl
    rw [e] at h1
    have h2 := set_cells b t vs cs (pre ++ [v]) _ h1 (by simpa using hl)
    rw [List.length_append, List.length_singleton, List.append_assoc] at h2
    exact h2
  | [], _ :: _, _, _, _, hl => by cases hl
  | _ :: _, [], _, _, _, hl => by cases hl
theorem set_far (b : Nat) {k : Nat} {t : TypeId} {cs : Array Value} (hk : k ≠ b) : ∀ (vs : List Value) (o : Nat) (W : World), Blk W k t cs → Blk (W.setCells b o vs) k t cs
  | [], _, _, h => h
  | v :: vs, o, W, h => set_far b hk vs (o + 1) _ (h.far (p := ⟨b, o, none⟩) hk v)
theorem set_below (b : Nat) {n : Nat} {w : World} (hn : n ≤ b) : ∀ (vs : List Value) (o : Nat) (W : World), Below n w W → Below n w (W.setCells b o vs)
  | [], _, _, h => h
  | v :: vs, o, W, h => set_below b hn vs (o + 1) _ (h.setCell (p := ⟨b, o, none⟩) hn v)
theorem set_heap (b : Nat) {j : Nat} (hj : j ≠ b) : ∀ (vs : List Value) (o : Nat) (W : World), (W.setCells b o vs).heap[j]? = W.heap[j]?
  | [], _, _ => rfl
  | v :: vs, o, W => (set_heap b hj vs (o + 1) _).trans (Below.heap_setCell W ⟨b, o, none⟩ v j hj)
theorem copy_ {id : Nat} {o1 o2 : Oper} {Q : Exit → Act → World → Prop} {a a' : Act} {W : World} (m m2 : Nat) {t : TypeId} {cs cs2 : Array Value} {d : TypeDesc} (i j k : Tmp) (h1 : o1.op = .load t (.tmp i)) (h2 : o2.op = .store t (.tmp j) (.tmp k)) (g1 : o1.guard = none) (g2 : o2.guard = none) (d1 : o1.dst = some k) (d2 : o2.dst = none)
    (hb : Blk W m t cs) (hb2 : Blk W m2 t cs2) (hu : Tryz.prog.underlying t = some d) (hd : d.isRow = true) (hi : (Tryz.prog.info? t).map (·.size) = some cs.size) (hl : cs2.size = cs.size) (ho : cs.all (·.oneCell') = true)
    (e1 : a.eval (.tmp i) = .pointer (some ⟨m, 0, none⟩)) (ha : a.put (some k) (.agg cs) = a') (e2 : a'.eval (.tmp j) = .pointer (some ⟨m2, 0, none⟩)) (e3 : a'.eval (.tmp k) = .agg cs)
    (hQ : ∀ W2, Blk W2 m2 t cs → (∀ j, j ≠ m2 → W2.heap[j]? = W.heap[j]?) → (∀ n w, n ≤ m2 → Below n w W → Below n w W2) → Q .normal a' W2) : (Code.region id #[o1, o2] false).wp Tryz.prog Q a W := by
  refine wp_region_lit (l := [o1, o2]) ?_
  refine wpList_load_mid g1 t (.tmp i) h1 m 0 e1 cs.toList d (fun j v hv => by rw [Nat.zero_add]; exact (hb.cell j).trans (by simpa using hv)) hu hd (by simpa using hi) ?_
  rw [d1, Array.toArray_toList, ha]
  refine wpList_store_mid g2 t (.tmp j) (.tmp k) h2 m2 0 cs e2 e3 (fun j hj => ⟨by rw [Nat.zero_add, hb2.cell j, Array.getElem?_eq_getElem (by omega)]; rfl, hb2.free _⟩) hi ho ?_
  refine wpList_nil ?_
  rw [d2]
  refine hQ _ ?_ (fun j hj => set_heap m2 hj _ _ _) (fun n w hn hb => set_below m2 hn _ _ _ hb)
  have := set_cells m2 t cs.toList cs2.toList [] W hb2 (by simpa using hl)
  simpa using this
theorem load_run {o : Oper} {a : Act} {t : TypeId} {i : Tmp} {m : Nat} {W : World} {cs : Array Value} {d : TypeDesc} (ho : o.op = .load t (.tmp i)) (he : a.eval (.tmp i) = .pointer (some ⟨m, 0, none⟩)) (h : Blk W m t cs) (hu : Tryz.prog.underlying t = some d) (hd : d.isRow = true) (hi : (Tryz.prog.info? t).map (·.size) = some cs.size) :
    (execOp a.eval o).run Tryz.prog W = .ok (.value (.agg cs)) W := by
  have hl := run_loadVar_mid (P := Tryz.prog) W m 0 t cs.toList d (fun j v hv => by rw [Nat.zero_add]; exact (h.cell j).trans (by simpa using hv)) hu hd (by simpa using hi)
  unfold execOp
  simp only [ho, he, Instr.loadAt, Instr.sureAddr, Sem.run_bind, Sem.run_pure, Result.andThen_ok, hl, Array.toArray_toList]
theorem lp_ {ops : Array Oper} {rest : List Oper} {o : Oper} {a a' : Act} {w : World} {Q : Exit → Act → World → Prop} {v : Value} (hy : (execOp a.eval o).run Tryz.prog w = .ok (.value v) w) (hw : Region.wanted o (yielded ops a.tmps) = true) (ha : a.put o.dst v = a') (h : wpList Tryz.prog ops Q rest a' w) : wpList Tryz.prog ops Q (o :: rest) a w :=
  wpList_step fun K hK => by
    rw [if_pos hw]
    unfold Oper.wp
    rw [hy]
    exact hK _ _ (ha ▸ h)
theorem nl_ {ops : Array Oper} {l : List Oper} {a a' : Act} {w : World} {Q : Exit → Act → World → Prop} (ha : a = a') (h : wpList Tryz.prog ops Q l a' w) : wpList Tryz.prog ops Q l a w := ha ▸ h
def rcells (s : Sg) (A : Option Addr) (c : Nat) : Array Value := #[.string s.t.name, .int .i64 s.t.kind, .bool s.t.up, .int .i64 s.t.often, .int .i64 s.t.a, .int .i64 s.t.b, .int .u64 s.dice, .int .i64 s.b0, .int .i64 s.b1, .int .i64 s.b2, .int .i64 s.b3,
  .string (cat s.c.1), .slice A (tk s.c.1).length c, .int .i64 s.c.2, .int .i64 s.room, .int .i64 s.began, .int .i64 s.clock, .int .i64 s.pause, .int .i64 s.passed, .bool s.closed, .int .i64 s.at_, .int .i64 s.state]
theorem one22 (s : Sg) (A : Option Addr) (c : Nat) : (rcells s A c).all (·.oneCell') = true := by
  unfold rcells
  simp [Value.oneCell']
abbrev zcells : Array Value := #[.string ⟨#[]⟩, .int .i64 0, .bool false, .int .i64 0, .int .i64 0, .int .i64 0, .int .u64 0, .int .i64 0, .int .i64 0, .int .i64 0, .int .i64 0, .string ⟨#[]⟩, .slice none 0 0, .int .i64 0, .int .i64 0, .int .i64 0, .int .i64 0, .int .i64 0, .int .i64 0, .bool false, .int .i64 0, .int .i64 0]
theorem inf22 : (Tryz.prog.info? 38).map (·.size) = some 22 := by kernel_rfl
end Go.Proofs.YtehpliclknfmoaaGreat.RefT
namespace Go.Proofs.YtehpliclknfmoaaGreat.Stage
open Go.RowKit Mem Tick Cargo Toxic
open Go.Proofs.YtehpliclknfmoaaGreatW.PrintLast Pu
open Go.Proofs.YtehpliclknfmoaaGreatW.PrintWords (eqA_of eqf_cons eqf_last)
set_option maxRecDepth 100000
set_option linter.unusedVariables false
set_option linter.unusedSimpArgs false
variable {w w' : World} {F : Nat → Prop} {b k : Nat} {s : Sg}
theorem takeOutB_nil : BS w none ⟨#[]⟩ := fun h => absurd h (by decide)
theorem take_shut (h : SG w F b k s) (ht : held s ≤ 1000000000) (n most : Int) (hc : (lookP s n).state ≠ 0 ∨ most < 1) :
    Calls Tryz.prog 22 #[.pointer (some ⟨b, 0, none⟩), .int .i64 n, .int .i64 most] w fun e w' => e = .returned (.slice none 0 0) ∧ SG w' F b k (lookP s n) ∧ Did F w w' := by
  have HS0 := Lib.hid (state_any h (by omega) n)
  clear h ht
  go_enter Tryz.func22, Tryz.ntmps22
  go_wp2_with fail
  refine HS0.out.mono ?_
  rintro e w1 ⟨rfl, HS, HD⟩
  clear HS0
  have HS' := Lib.hid HS
  have HD' := Lib.hid HD
  clear HS HD
  by_cases hst : (lookP s n).state = 0
  · have hm : most < 1 := hc.resolve_left (fun h => h hst)
    have tm : decide (most < 1) = true := decide_eq_true hm
    rw [hst]
    clear hst hc hm
    go_wp2
    go_ret
    exact ⟨rfl, HS'.out, HD'.out⟩
  · have tn : ((lookP s n).state != 0) = true := by simpa using hst
    clear hst hc
    go_wp2
    go_ret
    exact ⟨rfl, HS'.out, HD'.out⟩
theorem take_any (h : SG w F b k s) (hg : Full s.c.1) (hf : Fit s) (ht : held s ≤ 1000000000) (n most : Int) :
    Calls Tryz.prog 22 #[.pointer (some ⟨b, 0, none⟩), .int .i64 n, .int .i64 most] w fun e w' => ∃ A cap, e = .returned (.slice A (takeB s n most).size cap) ∧ BS w' A (takeB s n most) ∧ SG w' F b k (takeS s n most) ∧ Did F w w' ∧ Newly w A := by
  unfold takeB takeS
  by_cases hc : (lookP s n).state ≠ 0 ∨ most < 1
  · rw [if_pos hc, if_pos hc]
    exact (take_shut h ht n most hc).mono fun e w' ⟨he, hs, hd⟩ => ⟨none, 0, he, takeOutB_nil, hs, hd, fun g o e => by cases e⟩
  · rw [if_neg hc, if_neg hc]
    refine take_open h hg hf ht n most ?_ ?_
    · by_cases h0 : (lookP s n).state = 0
      · exact h0
      · exact absurd (.inl h0) hc
    · by_cases h0 : most < 1
      · exact absurd (.inr h0) hc
      · omega
def drainP (s : Sg) : Sg := { s with c := ([], s.c.2) }
theorem drain_any (h : SG w F b k s) (ht : held s ≤ 1000000000) :
    Calls Tryz.prog 33 #[.pointer (some ⟨k, 0, none⟩)] w fun e w' => ∃ A cap, e = .returned (.slice A (cat s.c.1).size cap) ∧ BS w' A (cat s.c.1) ∧ Newly w A ∧ ∃ F', SG w' F' b k (drainP s) ∧ Did F w w' ∧ Stem F F' w := by
  obtain ⟨G, hB, hC, hF⟩ := h
  unfold held at ht
  have hG := hC.mine
  refine (Cargo.drain_far hC (by omega)).mono fun e w' ⟨A, cap, he, hs, hC', hd, hn⟩ => ⟨A, cap, he, hs, hn, (fun j => j = b ∨ j = k), ?_⟩
  exact SG.cargo (s' := drainP s) hB hC hF hC' hd (fun j hj => by subst hj; exact .inl hG) rfl
def sameT (x y : Tox) : Bool := x.name.toList == y.name.toList && (x.kind == y.kind && (x.up == y.up && (x.often == y.often && (x.a == y.a && x.b == y.b))))
def noTox : Tox := ⟨⟨#[]⟩, 0, false, 0, 0, 0⟩
def passB (x : Tox) : Bool := sameT x noTox
theorem eq_tox (d : Nat) (w : World) (s0 s1 : ByteArray) (k0 k1 : Int) (u0 u1 : Bool) (o0 o1 a0 a1 b0 b1 : Int) :
    (Op.equalIn (d + 2) 23 (.agg #[.string s0, .int .i64 k0, .bool u0, .int .i64 o0, .int .i64 a0, .int .i64 b0]) (.agg #[.string s1, .int .i64 k1, .bool u1, .int .i64 o1, .int .i64 a1, .int .i64 b1])).run Tryz.prog w =
      .ok (sameT ⟨s0, k0, u0, o0, a0, b0⟩ ⟨s1, k1, u1, o1, a1, b1⟩) w := by
  unfold sameT
  refine eqA_of Tryz.underlying23 (by kernel_rfl) ?_
  refine eqf_cons (by rfl) (by go_simp; rfl) (by go_simp; rfl) (by go_simp) ?_
  refine eqf_cons (by rfl) (by go_simp; rfl) (by go_simp; rfl) (by go_simp) ?_
  refine eqf_cons (by rfl) (by go_simp; rfl) (by go_simp; rfl) (by go_simp) ?_
  refine eqf_cons (by rfl) (by go_simp; rfl) (by go_simp; rfl) (by go_simp) ?_
  refine eqf_cons (by rfl) (by go_simp; rfl) (by go_simp; rfl) (by go_simp) ?_
  exact eqf_last (by rfl) (by go_simp; rfl) (by go_simp; rfl) (by go_simp)
theorem neq_tox (w : World) (s0 s1 : ByteArray) (k0 k1 : Int) (u0 u1 : Bool) (o0 o1 a0 a1 b0 b1 : Int) :
    (binOp .neq 23 (.agg #[.string s0, .int .i64 k0, .bool u0, .int .i64 o0, .int .i64 a0, .int .i64 b0]) (.agg #[.string s1, .int .i64 k1, .bool u1, .int .i64 o1, .int .i64 a1, .int .i64 b1])).run Tryz.prog w =
      .ok (.bool (!sameT ⟨s0, k0, u0, o0, a0, b0⟩ ⟨s1, k1, u1, o1, a1, b1⟩)) w := by
  rw [run_neq_struct, eq_tox 9998]
  rfl
theorem eqguard_tox : Tryz.prog.eqGuardType Tryz.prog.depth 23 = false := by kernel_rfl
def roomOk (r : Int) : Bool := decide (1 ≤ r ∧ r ≤ 4096)
def newE (t : Tox) (room : Int) : Int := if passB t = false ∧ chk t ≠ 0 then chk t else if roomOk room = false then 1 else 0
def new0 (t : Tox) (seed room now : Int) : Sg := ⟨t, seed, 0, 0, 0, 0, ([], 0), room, add now 0, add now 0, 0, 0, false, 0, 0⟩
def newS (t : Tox) (seed room now : Int) : Sg := if t.kind = 2 then { new0 t seed room now with b0 := t.a, b1 := t.b, b2 := t.b, b3 := add now 0 } else new0 t seed room now
theorem bw_below {a w w1 : World} (h : Below a.heap.size a w) (hb : Below w.heap.size w w1) : Below a.heap.size a w1 := h.trans (hb.mono h.size)
theorem new_bad (s : ByteArray) (kd : Int) (u : Bool) (o a b' seed room now : Int) (w : World) (hp : passB ⟨s, kd, u, o, a, b'⟩ = false) (hc : chk ⟨s, kd, u, o, a, b'⟩ ≠ 0) :
    Calls Tryz.prog 4 #[.agg #[.string s, .int .i64 kd, .bool u, .int .i64 o, .int .i64 a, .int .i64 b'], .int .u64 seed, .int .i64 room, .int .i64 now] w fun e w' =>
      e = .returned (.tuple #[.pointer none, .int .i64 (chk ⟨s, kd, u, o, a, b'⟩)]) ∧ Below w.heap.size w w' := by
  have hq : ∀ W : World, (binOp .neq 23 (.agg #[.string s, .int .i64 kd, .bool u, .int .i64 o, .int .i64 a, .int .i64 b']) (.agg #[.string ⟨#[]⟩, .int .i64 0, .bool false, .int .i64 0, .int .i64 0, .int .i64 0])).run Tryz.prog W = .ok (.bool true) W := fun W => by
    rw [neq_tox]; unfold passB noTox at hp; rw [hp]; rfl
  have hguard := eqguard_tox
  have tc : (chk ⟨s, kd, u, o, a, b'⟩ != 0) = true := by simpa using hc
  have hB0 := Lib.hid ((Below.refl w.heap.size w).alloc (Nat.le_refl _) (.cells #[.string s, .int .i64 kd, .bool u, .int .i64 o, .int .i64 a, .int .i64 b'] 23))
  have hck := fun W => Lib.hid (check_any ⟨s, kd, u, o, a, b'⟩ W)
  clear hp hc
  generalize chk ⟨s, kd, u, o, a, b'⟩ = E at *
  go_enter Tryz.func4, Tryz.ntmps4
  go_wp2_with fail
  refine (hck _).out.mono ?_
  rintro e w1 ⟨rfl, hB⟩
  have HB := Lib.hid (bw_below hB0.out hB)
  clear hck hB hB0
  go_wp2
  go_ret2
  exact ⟨rfl, HB.out⟩
theorem new_room_p (s : ByteArray) (kd : Int) (u : Bool) (o a b' seed room now : Int) (w : World) (hp : passB ⟨s, kd, u, o, a, b'⟩ = true) (hr : roomOk room = false) :
    Calls Tryz.prog 4 #[.agg #[.string s, .int .i64 kd, .bool u, .int .i64 o, .int .i64 a, .int .i64 b'], .int .u64 seed, .int .i64 room, .int .i64 now] w fun e w' =>
      e = .returned (.tuple #[.pointer none, .int .i64 1]) ∧ Below w.heap.size w w' := by
  have hq : ∀ W : World, (binOp .neq 23 (.agg #[.string s, .int .i64 kd, .bool u, .int .i64 o, .int .i64 a, .int .i64 b']) (.agg #[.string ⟨#[]⟩, .int .i64 0, .bool false, .int .i64 0, .int .i64 0, .int .i64 0])).run Tryz.prog W = .ok (.bool false) W := fun W => by
    rw [neq_tox]; unfold passB noTox at hp; rw [hp]; rfl
  have hguard := eqguard_tox
  have hB0 := Lib.hid ((Below.refl w.heap.size w).alloc (Nat.le_refl _) (.cells #[.string s, .int .i64 kd, .bool u, .int .i64 o, .int .i64 a, .int .i64 b'] 23))
  have hX0 := Lib.hid (Blk.new w 23 #[.string s, .int .i64 kd, .bool u, .int .i64 o, .int .i64 a, .int .i64 b'])
  clear hp
  by_cases h1 : room < 1
  · have t1 : decide (room < 1) = true := decide_eq_true h1
    clear hr h1
    go_enter Tryz.func4, Tryz.ntmps4
    go_wp2
    go_ret2
    exact ⟨rfl, hB0.out⟩
  · have t1 : decide (room < 1) = false := decide_eq_false h1
    have t2 : decide (4096 < room) = true := decide_eq_true (by unfold roomOk at hr; have := of_decide_eq_false hr; omega)
    clear hr h1
    go_enter Tryz.func4, Tryz.ntmps4
    go_wp2
    go_ret2
    exact ⟨rfl, hB0.out⟩
theorem new_room_c (s : ByteArray) (kd : Int) (u : Bool) (o a b' seed room now : Int) (w : World) (hp : passB ⟨s, kd, u, o, a, b'⟩ = false) (hc : chk ⟨s, kd, u, o, a, b'⟩ = 0) (hr : roomOk room = false) :
    Calls Tryz.prog 4 #[.agg #[.string s, .int .i64 kd, .bool u, .int .i64 o, .int .i64 a, .int .i64 b'], .int .u64 seed, .int .i64 room, .int .i64 now] w fun e w' =>
      e = .returned (.tuple #[.pointer none, .int .i64 1]) ∧ Below w.heap.size w w' := by
  have hq : ∀ W : World, (binOp .neq 23 (.agg #[.string s, .int .i64 kd, .bool u, .int .i64 o, .int .i64 a, .int .i64 b']) (.agg #[.string ⟨#[]⟩, .int .i64 0, .bool false, .int .i64 0, .int .i64 0, .int .i64 0])).run Tryz.prog W = .ok (.bool true) W := fun W => by
    rw [neq_tox]; unfold passB noTox at hp; rw [hp]; rfl
  have hguard := eqguard_tox
  have hB0 := Lib.hid ((Below.refl w.heap.size w).alloc (Nat.le_refl _) (.cells #[.string s, .int .i64 kd, .bool u, .int .i64 o, .int .i64 a, .int .i64 b'] 23))
  have hX0 := Lib.hid (Blk.new w 23 #[.string s, .int .i64 kd, .bool u, .int .i64 o, .int .i64 a, .int .i64 b'])
  have hck := fun W => Lib.hid (check_any ⟨s, kd, u, o, a, b'⟩ W)
  have hc' := Lib.hid hc
  clear hp hc
  by_cases h1 : room < 1
  · have t1 : decide (room < 1) = true := decide_eq_true h1
    clear hr h1
    go_enter Tryz.func4, Tryz.ntmps4
    go_wp2_with fail
    refine (hck _).out.mono ?_
    rintro e w1 ⟨rfl, hB⟩
    rw [hc'.out]
    have HB := Lib.hid (bw_below hB0.out hB)
    have HX := Lib.hid (hX0.out.below hB)
    clear hck hB hB0 hX0 hc'
    go_wp2
    go_ret2
    exact ⟨rfl, HB.out⟩
  · have t1 : decide (room < 1) = false := decide_eq_false h1
    have t2 : decide (4096 < room) = true := decide_eq_true (by unfold roomOk at hr; have := of_decide_eq_false hr; omega)
    clear hr h1
    go_enter Tryz.func4, Tryz.ntmps4
    go_wp2_with fail
    refine (hck _).out.mono ?_
    rintro e w1 ⟨rfl, hB⟩
    rw [hc'.out]
    have HB := Lib.hid (bw_below hB0.out hB)
    have HX := Lib.hid (hX0.out.below hB)
    clear hck hB hB0 hX0 hc'
    go_wp2
    go_ret2
    exact ⟨rfl, HB.out⟩
theorem new_yes_p (s : ByteArray) (kd : Int) (u : Bool) (o a b' seed room now : Int) (w : World) (hp : passB ⟨s, kd, u, o, a, b'⟩ = true) (hr : roomOk room = true) (hb : kd = 2 → Bucket.okB a b' b' (add now 0) = true) :
    Calls Tryz.prog 4 #[.agg #[.string s, .int .i64 kd, .bool u, .int .i64 o, .int .i64 a, .int .i64 b'], .int .u64 seed, .int .i64 room, .int .i64 now] w fun e w' =>
      ∃ b k F, e = .returned (.tuple #[.pointer (some ⟨b, 0, none⟩), .int .i64 0]) ∧ SG w' F b k (newS ⟨s, kd, u, o, a, b'⟩ seed room now) ∧ (∀ j, F j → w.heap.size ≤ j) ∧ Below w.heap.size w w' := by
  have hq : ∀ W : World, (binOp .neq 23 (.agg #[.string s, .int .i64 kd, .bool u, .int .i64 o, .int .i64 a, .int .i64 b']) (.agg #[.string ⟨#[]⟩, .int .i64 0, .bool false, .int .i64 0, .int .i64 0, .int .i64 0])).run Tryz.prog W = .ok (.bool false) W := fun W => by
    rw [neq_tox]; unfold passB noTox at hp; rw [hp]; rfl
  have hguard := eqguard_tox
  have hB0 := Lib.hid ((Below.refl w.heap.size w).alloc (Nat.le_refl _) (.cells #[.string s, .int .i64 kd, .bool u, .int .i64 o, .int .i64 a, .int .i64 b'] 23))
  have hX0 := Lib.hid (Blk.new w 23 #[.string s, .int .i64 kd, .bool u, .int .i64 o, .int .i64 a, .int .i64 b'])
  clear hp
  have t1 : decide (room < 1) = false := decide_eq_false (by unfold roomOk at hr; have := of_decide_eq_true hr; omega)
  have t2 : decide (4096 < room) = false := decide_eq_false (by unfold roomOk at hr; have := of_decide_eq_true hr; omega)
  have hE := Lib.hid (show newS ⟨s, kd, u, o, a, b'⟩ seed room now = if kd = 2 then { new0 ⟨s, kd, u, o, a, b'⟩ seed room now with b0 := a, b1 := b', b2 := b', b3 := add now 0 } else new0 ⟨s, kd, u, o, a, b'⟩ seed room now from rfl)
  have h0E := Lib.hid (show new0 ⟨s, kd, u, o, a, b'⟩ seed room now = ⟨⟨s, kd, u, o, a, b'⟩, seed, 0, 0, 0, 0, ([], 0), room, add now 0, add now 0, 0, 0, false, 0, 0⟩ from rfl)
  clear hr
  go_enter Tryz.func4, Tryz.ntmps4
  go_wp2_with (go_at_call 14; refine (add_any now 0 _).mono ?_; rintro e w2 ⟨rfl, rfl⟩)
  generalize w.alloc (.cells #[.string s, .int .i64 kd, .bool u, .int .i64 o, .int .i64 a, .int .i64 b'] 23) = w1 at *
  have HB := hB0
  have HX := hX0
  clear hB0 hX0
  generalize add now 0 = T at *
  have x0 : w1.cell? ⟨w.heap.size, 0, none⟩ = some (.string s) := (HX.out.cell 0).trans rfl
  have x1 : w1.cell? ⟨w.heap.size, 1, none⟩ = some (.int .i64 kd) := (HX.out.cell 1).trans rfl
  have x2 : w1.cell? ⟨w.heap.size, 2, none⟩ = some (.bool u) := (HX.out.cell 2).trans rfl
  have x3 : w1.cell? ⟨w.heap.size, 3, none⟩ = some (.int .i64 o) := (HX.out.cell 3).trans rfl
  have x4 : w1.cell? ⟨w.heap.size, 4, none⟩ = some (.int .i64 a) := (HX.out.cell 4).trans rfl
  have x5 : w1.cell? ⟨w.heap.size, 5, none⟩ = some (.int .i64 b') := (HX.out.cell 5).trans rfl
  refine start_ (n := 9) (S := fun w' => w'.cell? ⟨w.heap.size, 0, none⟩ = some (.string s) ∧ w'.cell? ⟨w.heap.size, 1, none⟩ = some (.int .i64 kd) ∧ w'.cell? ⟨w.heap.size, 2, none⟩ = some (.bool u) ∧ w'.cell? ⟨w.heap.size, 3, none⟩ = some (.int .i64 o) ∧ w'.cell? ⟨w.heap.size, 4, none⟩ = some (.int .i64 a) ∧ w'.cell? ⟨w.heap.size, 5, none⟩ = some (.int .i64 b')) (ds := []) (m_ 9 0) (by kernel_rfl) rfl (by kernel_rfl) ⟨x0, x1, x2, x3, x4, x5⟩ (fun hHeld => ?_)
  refine pq_ 2 30 9 4 ?_
  refine pq_ 3 31 9 12 ?_
  refine pq_ 4 32 9 28 ?_
  refine pq_ 5 33 9 60 ?_
  refine tq_ 1 29 9 62 hHeld ?_
  refine one_ (i := 0) (N := some 28) (m_ 9 63) rfl rfl (by kernel_rfl) (by decide) (fun K hK => ?_)
  refine goes_ Tryz.func15 (by kernel_rfl) rfl #[] (by rfl) rfl rfl (by simp) ?_
  with_reducible refine (Cargo.new_any w1.drew).mono ?_
  rintro e w2 ⟨k, G, rfl, hC, hG, hB⟩
  have hB1 := below_drew hB
  have HC := Lib.hid hC
  have HG := Lib.hid hG
  have HX2 := Lib.hid (HX.out.below hB1)
  have HB2 := Lib.hid (bw_below HB.out hB1)
  have y0 := bcells hB1 x0
  have y1 := bcells hB1 x1
  have y2 := bcells hB1 x2
  have y3 := bcells hB1 x3
  have y4 := bcells hB1 x4
  have y5 := bcells hB1 x5
  clear hB hB1 hC hG
  refine ⟨_, rfl, ?_⟩
  refine hK.out _ _ ⟨y0, y1, y2, y3, y4, y5⟩ (fun hHeld => ?_)
  clear hK K
  refine norm_ (a' := ?_) ?_ ?_
  rotate_left
  · show Act.put _ (some 28) _ = _
    simp only [Act.put, List.setIfInBounds_toArray, List.set_cons_zero, List.set_cons_succ, i64_w, i32_w]
    rfl
  refine pq_ 6 34 9 127 ?_
  refine one_ (i := 7) (N := some 35) (m_ 9 255) rfl rfl (by kernel_rfl) (by decide) (fun K hK => ?_)
  refine value_ (w1 := ?_) (v := ?_) (by rfl) rfl ?_ ?_
  rotate_left 2
  · go_simp
    constructor
    · rfl
    · rfl
  refine hK.out _ _ ⟨bcells ((Below.refl w2.heap.size w2).alloc (Nat.le_refl _) (.cells #[.pointer (some ⟨k, 0, none⟩), .string s, .int .i64 kd, .bool u, .int .i64 o, .int .i64 a, .int .i64 b', .int .u64 seed, .int .i64 0, .int .i64 0, .int .i64 0, .int .i64 0, .int .i64 room, .int .i64 T, .int .i64 T, .int .i64 0, .int .i64 0, .bool false, .int .i64 0, .int .i64 0] 59)) y0, bcells ((Below.refl w2.heap.size w2).alloc (Nat.le_refl _) (.cells #[.pointer (some ⟨k, 0, none⟩), .string s, .int .i64 kd, .bool u, .int .i64 o, .int .i64 a, .int .i64 b', .int .u64 seed, .int .i64 0, .int .i64 0, .int .i64 0, .int .i64 0, .int .i64 room, .int .i64 T, .int .i64 T, .int .i64 0, .int .i64 0, .bool false, .int .i64 0, .int .i64 0] 59)) y1, bcells ((Below.refl w2.heap.size w2).alloc (Nat.le_refl _) (.cells #[.pointer (some ⟨k, 0, none⟩), .string s, .int .i64 kd, .bool u, .int .i64 o, .int .i64 a, .int .i64 b', .int .u64 seed, .int .i64 0, .int .i64 0, .int .i64 0, .int .i64 0, .int .i64 room, .int .i64 T, .int .i64 T, .int .i64 0, .int .i64 0, .bool false, .int .i64 0, .int .i64 0] 59)) y2, bcells ((Below.refl w2.heap.size w2).alloc (Nat.le_refl _) (.cells #[.pointer (some ⟨k, 0, none⟩), .string s, .int .i64 kd, .bool u, .int .i64 o, .int .i64 a, .int .i64 b', .int .u64 seed, .int .i64 0, .int .i64 0, .int .i64 0, .int .i64 0, .int .i64 room, .int .i64 T, .int .i64 T, .int .i64 0, .int .i64 0, .bool false, .int .i64 0, .int .i64 0] 59)) y3, bcells ((Below.refl w2.heap.size w2).alloc (Nat.le_refl _) (.cells #[.pointer (some ⟨k, 0, none⟩), .string s, .int .i64 kd, .bool u, .int .i64 o, .int .i64 a, .int .i64 b', .int .u64 seed, .int .i64 0, .int .i64 0, .int .i64 0, .int .i64 0, .int .i64 room, .int .i64 T, .int .i64 T, .int .i64 0, .int .i64 0, .bool false, .int .i64 0, .int .i64 0] 59)) y4, bcells ((Below.refl w2.heap.size w2).alloc (Nat.le_refl _) (.cells #[.pointer (some ⟨k, 0, none⟩), .string s, .int .i64 kd, .bool u, .int .i64 o, .int .i64 a, .int .i64 b', .int .u64 seed, .int .i64 0, .int .i64 0, .int .i64 0, .int .i64 0, .int .i64 room, .int .i64 T, .int .i64 T, .int .i64 0, .int .i64 0, .bool false, .int .i64 0, .int .i64 0] 59)) y5⟩ (fun hHeld => ?_)
  clear hK K
  refine norm_ (a' := ?_) ?_ ?_
  rotate_left
  · show Act.put _ (some 35) _ = _
    simp only [Act.put, List.setIfInBounds_toArray, List.set_cons_zero, List.set_cons_succ, i64_w, i32_w]
    rfl
  refine pq_ 8 11 9 511 ?_
  refine done_ (by kernel_rfl) ?_
  clear hHeld x0 x1 x2 x3 x4 x5 y0 y1 y2 y3 y4 y5
  have hlt := HB2.out.size
  have HS := Lib.hid (show SG (w2.alloc (.cells #[.pointer (some ⟨k, 0, none⟩), .string s, .int .i64 kd, .bool u, .int .i64 o, .int .i64 a, .int .i64 b', .int .u64 seed, .int .i64 0, .int .i64 0, .int .i64 0, .int .i64 0, .int .i64 room, .int .i64 T, .int .i64 T, .int .i64 0, .int .i64 0, .bool false, .int .i64 0, .int .i64 0] 59)) (fun j => j = w2.heap.size ∨ G j) w2.heap.size k (new0 ⟨s, kd, u, o, a, b'⟩ seed room now) from ⟨G, by rw [h0E.out]; exact Blk.new w2 _ _, by rw [h0E.out]; exact HC.out.below ((Below.refl w2.heap.size w2).alloc (Nat.le_refl _) (.cells #[.pointer (some ⟨k, 0, none⟩), .string s, .int .i64 kd, .bool u, .int .i64 o, .int .i64 a, .int .i64 b', .int .u64 seed, .int .i64 0, .int .i64 0, .int .i64 0, .int .i64 0, .int .i64 room, .int .i64 T, .int .i64 T, .int .i64 0, .int .i64 0, .bool false, .int .i64 0, .int .i64 0] 59)), fun j => Iff.rfl⟩)
  have HF := Lib.hid (show ∀ j, (j = w2.heap.size ∨ G j) → w.heap.size ≤ j from fun j hj => hj.elim (fun h => by omega) fun h => Nat.le_trans HB.out.size (HG.out j h))
  have HB3 := Lib.hid (bw_below HB2.out ((Below.refl w2.heap.size w2).alloc (Nat.le_refl _) (.cells #[.pointer (some ⟨k, 0, none⟩), .string s, .int .i64 kd, .bool u, .int .i64 o, .int .i64 a, .int .i64 b', .int .u64 seed, .int .i64 0, .int .i64 0, .int .i64 0, .int .i64 0, .int .i64 room, .int .i64 T, .int .i64 T, .int .i64 0, .int .i64 0, .bool false, .int .i64 0, .int .i64 0] 59)))
  have HX3 := Lib.hid (HX2.out.below ((Below.refl w2.heap.size w2).alloc (Nat.le_refl _) (.cells #[.pointer (some ⟨k, 0, none⟩), .string s, .int .i64 kd, .bool u, .int .i64 o, .int .i64 a, .int .i64 b', .int .u64 seed, .int .i64 0, .int .i64 0, .int .i64 0, .int .i64 0, .int .i64 room, .int .i64 T, .int .i64 T, .int .i64 0, .int .i64 0, .bool false, .int .i64 0, .int .i64 0] 59)))
  clear HC HG HB HX HB2 HX2
  generalize w2.alloc (.cells #[.pointer (some ⟨k, 0, none⟩), .string s, .int .i64 kd, .bool u, .int .i64 o, .int .i64 a, .int .i64 b', .int .u64 seed, .int .i64 0, .int .i64 0, .int .i64 0, .int .i64 0, .int .i64 room, .int .i64 T, .int .i64 T, .int .i64 0, .int .i64 0, .bool false, .int .i64 0, .int .i64 0] 59) = w3 at *
  generalize w2.heap.size = bb at *
  have x1 : w3.cell? ⟨w.heap.size, 1, none⟩ = some (.int .i64 kd) := (HX3.out.cell 1).trans rfl
  have x4 : w3.cell? ⟨w.heap.size, 4, none⟩ = some (.int .i64 a) := (HX3.out.cell 4).trans rfl
  have x5 : w3.cell? ⟨w.heap.size, 5, none⟩ = some (.int .i64 b') := (HX3.out.cell 5).trans rfl
  by_cases hk2 : kd = 2
  · have hbk := Lib.hid (hb hk2)
    have t3 : (kd == 2) = true := by simpa using hk2
    have hS := Lib.hid (hE.out.trans (if_pos hk2))
    clear hk2 hb
    go_wp2_with fail
    refine (Bucket.bnew_yes a b' T _ hbk.out).mono ?_
    rintro e w4 ⟨rfl, hB4⟩
    have HS4 := Lib.hid (HS.out.below hB4)
    have HB4 := Lib.hid (bw_below HB3.out hB4)
    clear hB4 x1 x4 x5
    have hbl : bb < w4.heap.size := HS4.out.lt HS4.out.mine
    have c8 : w4.cell? ⟨bb, 8, none⟩ = some (.int .i64 0) := (HS4.out.blk.cell 8).trans (by rw [h0E.out]; rfl)
    have c9 : w4.cell? ⟨bb, 9, none⟩ = some (.int .i64 0) := (HS4.out.blk.cell 9).trans (by rw [h0E.out]; rfl)
    have c10 : w4.cell? ⟨bb, 10, none⟩ = some (.int .i64 0) := (HS4.out.blk.cell 10).trans (by rw [h0E.out]; rfl)
    have c11 : w4.cell? ⟨bb, 11, none⟩ = some (.int .i64 0) := (HS4.out.blk.cell 11).trans (by rw [h0E.out]; rfl)
    have f8 := HS4.out.blk.free 8
    have f9 := HS4.out.blk.free 9
    have f10 := HS4.out.blk.free 10
    have f11 := HS4.out.blk.free 11
    have hge := HF.out bb (.inl rfl)
    go_wp2
    go_ret2
    refine ⟨bb, k, _, rfl, ?_, HF.out, (((HB4.out.setCell (p := ⟨bb, 8, none⟩) hge _).setCell (p := ⟨bb, 9, none⟩) hge _).setCell (p := ⟨bb, 10, none⟩) hge _).setCell (p := ⟨bb, 11, none⟩) hge _⟩
    rw [hS.out]
    have h1 := (((HS4.out.set 8 (.int .i64 a) { new0 ⟨s, kd, u, o, a, b'⟩ seed room now with b0 := a } (by rw [h0E.out]; rfl) rfl).set 9 (.int .i64 b') { new0 ⟨s, kd, u, o, a, b'⟩ seed room now with b0 := a, b1 := b' } (by rw [h0E.out]; rfl) rfl).set 10 (.int .i64 b') { new0 ⟨s, kd, u, o, a, b'⟩ seed room now with b0 := a, b1 := b', b2 := b' } (by rw [h0E.out]; rfl) rfl).set 11 (.int .i64 T) { new0 ⟨s, kd, u, o, a, b'⟩ seed room now with b0 := a, b1 := b', b2 := b', b3 := T } (by rw [h0E.out]; rfl) rfl
    exact h1
  · have t3 : (kd == 2) = false := by simpa using hk2
    have hS := Lib.hid (hE.out.trans (if_neg hk2))
    clear hk2 hb
    go_wp2
    go_ret2
    refine ⟨bb, k, _, rfl, ?_, HF.out, HB3.out⟩
    rw [hS.out]
    exact HS.out
theorem new_yes_c (s : ByteArray) (kd : Int) (u : Bool) (o a b' seed room now : Int) (w : World) (hp : passB ⟨s, kd, u, o, a, b'⟩ = false) (hc : chk ⟨s, kd, u, o, a, b'⟩ = 0) (hr : roomOk room = true) (hb : kd = 2 → Bucket.okB a b' b' (add now 0) = true) :
    Calls Tryz.prog 4 #[.agg #[.string s, .int .i64 kd, .bool u, .int .i64 o, .int .i64 a, .int .i64 b'], .int .u64 seed, .int .i64 room, .int .i64 now] w fun e w' =>
      ∃ b k F, e = .returned (.tuple #[.pointer (some ⟨b, 0, none⟩), .int .i64 0]) ∧ SG w' F b k (newS ⟨s, kd, u, o, a, b'⟩ seed room now) ∧ (∀ j, F j → w.heap.size ≤ j) ∧ Below w.heap.size w w' := by
  have hq : ∀ W : World, (binOp .neq 23 (.agg #[.string s, .int .i64 kd, .bool u, .int .i64 o, .int .i64 a, .int .i64 b']) (.agg #[.string ⟨#[]⟩, .int .i64 0, .bool false, .int .i64 0, .int .i64 0, .int .i64 0])).run Tryz.prog W = .ok (.bool true) W := fun W => by
    rw [neq_tox]; unfold passB noTox at hp; rw [hp]; rfl
  have hguard := eqguard_tox
  have hB0 := Lib.hid ((Below.refl w.heap.size w).alloc (Nat.le_refl _) (.cells #[.string s, .int .i64 kd, .bool u, .int .i64 o, .int .i64 a, .int .i64 b'] 23))
  have hX0 := Lib.hid (Blk.new w 23 #[.string s, .int .i64 kd, .bool u, .int .i64 o, .int .i64 a, .int .i64 b'])
  have hck := fun W => Lib.hid (check_any ⟨s, kd, u, o, a, b'⟩ W)
  have hc' := Lib.hid hc
  clear hp hc
  have t1 : decide (room < 1) = false := decide_eq_false (by unfold roomOk at hr; have := of_decide_eq_true hr; omega)
  have t2 : decide (4096 < room) = false := decide_eq_false (by unfold roomOk at hr; have := of_decide_eq_true hr; omega)
  have hE := Lib.hid (show newS ⟨s, kd, u, o, a, b'⟩ seed room now = if kd = 2 then { new0 ⟨s, kd, u, o, a, b'⟩ seed room now with b0 := a, b1 := b', b2 := b', b3 := add now 0 } else new0 ⟨s, kd, u, o, a, b'⟩ seed room now from rfl)
  have h0E := Lib.hid (show new0 ⟨s, kd, u, o, a, b'⟩ seed room now = ⟨⟨s, kd, u, o, a, b'⟩, seed, 0, 0, 0, 0, ([], 0), room, add now 0, add now 0, 0, 0, false, 0, 0⟩ from rfl)
  clear hr
  go_enter Tryz.func4, Tryz.ntmps4
  go_wp2_with fail
  refine (hck _).out.mono ?_
  rintro e w1 ⟨rfl, hB⟩
  rw [hc'.out]
  have HB := Lib.hid (bw_below hB0.out hB)
  have HX := Lib.hid (hX0.out.below hB)
  clear hck hB hB0 hX0 hc'
  go_wp2_with (go_at_call 14; refine (add_any now 0 _).mono ?_; rintro e w2 ⟨rfl, rfl⟩)
  generalize add now 0 = T at *
  have x0 : w1.cell? ⟨w.heap.size, 0, none⟩ = some (.string s) := (HX.out.cell 0).trans rfl
  have x1 : w1.cell? ⟨w.heap.size, 1, none⟩ = some (.int .i64 kd) := (HX.out.cell 1).trans rfl
  have x2 : w1.cell? ⟨w.heap.size, 2, none⟩ = some (.bool u) := (HX.out.cell 2).trans rfl
  have x3 : w1.cell? ⟨w.heap.size, 3, none⟩ = some (.int .i64 o) := (HX.out.cell 3).trans rfl
  have x4 : w1.cell? ⟨w.heap.size, 4, none⟩ = some (.int .i64 a) := (HX.out.cell 4).trans rfl
  have x5 : w1.cell? ⟨w.heap.size, 5, none⟩ = some (.int .i64 b') := (HX.out.cell 5).trans rfl
  refine start_ (n := 9) (S := fun w' => w'.cell? ⟨w.heap.size, 0, none⟩ = some (.string s) ∧ w'.cell? ⟨w.heap.size, 1, none⟩ = some (.int .i64 kd) ∧ w'.cell? ⟨w.heap.size, 2, none⟩ = some (.bool u) ∧ w'.cell? ⟨w.heap.size, 3, none⟩ = some (.int .i64 o) ∧ w'.cell? ⟨w.heap.size, 4, none⟩ = some (.int .i64 a) ∧ w'.cell? ⟨w.heap.size, 5, none⟩ = some (.int .i64 b')) (ds := []) (m_ 9 0) (by kernel_rfl) rfl (by kernel_rfl) ⟨x0, x1, x2, x3, x4, x5⟩ (fun hHeld => ?_)
  refine pq_ 2 30 9 4 ?_
  refine pq_ 3 31 9 12 ?_
  refine pq_ 4 32 9 28 ?_
  refine pq_ 5 33 9 60 ?_
  refine tq_ 1 29 9 62 hHeld ?_
  refine one_ (i := 0) (N := some 28) (m_ 9 63) rfl rfl (by kernel_rfl) (by decide) (fun K hK => ?_)
  refine goes_ Tryz.func15 (by kernel_rfl) rfl #[] (by rfl) rfl rfl (by simp) ?_
  with_reducible refine (Cargo.new_any w1.drew).mono ?_
  rintro e w2 ⟨k, G, rfl, hC, hG, hB⟩
  have hB1 := below_drew hB
  have HC := Lib.hid hC
  have HG := Lib.hid hG
  have HX2 := Lib.hid (HX.out.below hB1)
  have HB2 := Lib.hid (bw_below HB.out hB1)
  have y0 := bcells hB1 x0
  have y1 := bcells hB1 x1
  have y2 := bcells hB1 x2
  have y3 := bcells hB1 x3
  have y4 := bcells hB1 x4
  have y5 := bcells hB1 x5
  clear hB hB1 hC hG
  refine ⟨_, rfl, ?_⟩
  refine hK.out _ _ ⟨y0, y1, y2, y3, y4, y5⟩ (fun hHeld => ?_)
  clear hK K
  refine norm_ (a' := ?_) ?_ ?_
  rotate_left
  · show Act.put _ (some 28) _ = _
    simp only [Act.put, List.setIfInBounds_toArray, List.set_cons_zero, List.set_cons_succ, i64_w, i32_w]
    rfl
  refine pq_ 6 34 9 127 ?_
  refine one_ (i := 7) (N := some 35) (m_ 9 255) rfl rfl (by kernel_rfl) (by decide) (fun K hK => ?_)
  refine value_ (w1 := ?_) (v := ?_) (by rfl) rfl ?_ ?_
  rotate_left 2
  · go_simp
    constructor
    · rfl
    · rfl
  refine hK.out _ _ ⟨bcells ((Below.refl w2.heap.size w2).alloc (Nat.le_refl _) (.cells #[.pointer (some ⟨k, 0, none⟩), .string s, .int .i64 kd, .bool u, .int .i64 o, .int .i64 a, .int .i64 b', .int .u64 seed, .int .i64 0, .int .i64 0, .int .i64 0, .int .i64 0, .int .i64 room, .int .i64 T, .int .i64 T, .int .i64 0, .int .i64 0, .bool false, .int .i64 0, .int .i64 0] 59)) y0, bcells ((Below.refl w2.heap.size w2).alloc (Nat.le_refl _) (.cells #[.pointer (some ⟨k, 0, none⟩), .string s, .int .i64 kd, .bool u, .int .i64 o, .int .i64 a, .int .i64 b', .int .u64 seed, .int .i64 0, .int .i64 0, .int .i64 0, .int .i64 0, .int .i64 room, .int .i64 T, .int .i64 T, .int .i64 0, .int .i64 0, .bool false, .int .i64 0, .int .i64 0] 59)) y1, bcells ((Below.refl w2.heap.size w2).alloc (Nat.le_refl _) (.cells #[.pointer (some ⟨k, 0, none⟩), .string s, .int .i64 kd, .bool u, .int .i64 o, .int .i64 a, .int .i64 b', .int .u64 seed, .int .i64 0, .int .i64 0, .int .i64 0, .int .i64 0, .int .i64 room, .int .i64 T, .int .i64 T, .int .i64 0, .int .i64 0, .bool false, .int .i64 0, .int .i64 0] 59)) y2, bcells ((Below.refl w2.heap.size w2).alloc (Nat.le_refl _) (.cells #[.pointer (some ⟨k, 0, none⟩), .string s, .int .i64 kd, .bool u, .int .i64 o, .int .i64 a, .int .i64 b', .int .u64 seed, .int .i64 0, .int .i64 0, .int .i64 0, .int .i64 0, .int .i64 room, .int .i64 T, .int .i64 T, .int .i64 0, .int .i64 0, .bool false, .int .i64 0, .int .i64 0] 59)) y3, bcells ((Below.refl w2.heap.size w2).alloc (Nat.le_refl _) (.cells #[.pointer (some ⟨k, 0, none⟩), .string s, .int .i64 kd, .bool u, .int .i64 o, .int .i64 a, .int .i64 b', .int .u64 seed, .int .i64 0, .int .i64 0, .int .i64 0, .int .i64 0, .int .i64 room, .int .i64 T, .int .i64 T, .int .i64 0, .int .i64 0, .bool false, .int .i64 0, .int .i64 0] 59)) y4, bcells ((Below.refl w2.heap.size w2).alloc (Nat.le_refl _) (.cells #[.pointer (some ⟨k, 0, none⟩), .string s, .int .i64 kd, .bool u, .int .i64 o, .int .i64 a, .int .i64 b', .int .u64 seed, .int .i64 0, .int .i64 0, .int .i64 0, .int .i64 0, .int .i64 room, .int .i64 T, .int .i64 T, .int .i64 0, .int .i64 0, .bool false, .int .i64 0, .int .i64 0] 59)) y5⟩ (fun hHeld => ?_)
  clear hK K
  refine norm_ (a' := ?_) ?_ ?_
  rotate_left
  · show Act.put _ (some 35) _ = _
    simp only [Act.put, List.setIfInBounds_toArray, List.set_cons_zero, List.set_cons_succ, i64_w, i32_w]
    rfl
  refine pq_ 8 11 9 511 ?_
  refine done_ (by kernel_rfl) ?_
  clear hHeld x0 x1 x2 x3 x4 x5 y0 y1 y2 y3 y4 y5
  have hlt := HB2.out.size
  have HS := Lib.hid (show SG (w2.alloc (.cells #[.pointer (some ⟨k, 0, none⟩), .string s, .int .i64 kd, .bool u, .int .i64 o, .int .i64 a, .int .i64 b', .int .u64 seed, .int .i64 0, .int .i64 0, .int .i64 0, .int .i64 0, .int .i64 room, .int .i64 T, .int .i64 T, .int .i64 0, .int .i64 0, .bool false, .int .i64 0, .int .i64 0] 59)) (fun j => j = w2.heap.size ∨ G j) w2.heap.size k (new0 ⟨s, kd, u, o, a, b'⟩ seed room now) from ⟨G, by rw [h0E.out]; exact Blk.new w2 _ _, by rw [h0E.out]; exact HC.out.below ((Below.refl w2.heap.size w2).alloc (Nat.le_refl _) (.cells #[.pointer (some ⟨k, 0, none⟩), .string s, .int .i64 kd, .bool u, .int .i64 o, .int .i64 a, .int .i64 b', .int .u64 seed, .int .i64 0, .int .i64 0, .int .i64 0, .int .i64 0, .int .i64 room, .int .i64 T, .int .i64 T, .int .i64 0, .int .i64 0, .bool false, .int .i64 0, .int .i64 0] 59)), fun j => Iff.rfl⟩)
  have HF := Lib.hid (show ∀ j, (j = w2.heap.size ∨ G j) → w.heap.size ≤ j from fun j hj => hj.elim (fun h => by omega) fun h => Nat.le_trans HB.out.size (HG.out j h))
  have HB3 := Lib.hid (bw_below HB2.out ((Below.refl w2.heap.size w2).alloc (Nat.le_refl _) (.cells #[.pointer (some ⟨k, 0, none⟩), .string s, .int .i64 kd, .bool u, .int .i64 o, .int .i64 a, .int .i64 b', .int .u64 seed, .int .i64 0, .int .i64 0, .int .i64 0, .int .i64 0, .int .i64 room, .int .i64 T, .int .i64 T, .int .i64 0, .int .i64 0, .bool false, .int .i64 0, .int .i64 0] 59)))
  have HX3 := Lib.hid (HX2.out.below ((Below.refl w2.heap.size w2).alloc (Nat.le_refl _) (.cells #[.pointer (some ⟨k, 0, none⟩), .string s, .int .i64 kd, .bool u, .int .i64 o, .int .i64 a, .int .i64 b', .int .u64 seed, .int .i64 0, .int .i64 0, .int .i64 0, .int .i64 0, .int .i64 room, .int .i64 T, .int .i64 T, .int .i64 0, .int .i64 0, .bool false, .int .i64 0, .int .i64 0] 59)))
  clear HC HG HB HX HB2 HX2
  generalize w2.alloc (.cells #[.pointer (some ⟨k, 0, none⟩), .string s, .int .i64 kd, .bool u, .int .i64 o, .int .i64 a, .int .i64 b', .int .u64 seed, .int .i64 0, .int .i64 0, .int .i64 0, .int .i64 0, .int .i64 room, .int .i64 T, .int .i64 T, .int .i64 0, .int .i64 0, .bool false, .int .i64 0, .int .i64 0] 59) = w3 at *
  generalize w2.heap.size = bb at *
  have x1 : w3.cell? ⟨w.heap.size, 1, none⟩ = some (.int .i64 kd) := (HX3.out.cell 1).trans rfl
  have x4 : w3.cell? ⟨w.heap.size, 4, none⟩ = some (.int .i64 a) := (HX3.out.cell 4).trans rfl
  have x5 : w3.cell? ⟨w.heap.size, 5, none⟩ = some (.int .i64 b') := (HX3.out.cell 5).trans rfl
  by_cases hk2 : kd = 2
  · have hbk := Lib.hid (hb hk2)
    have t3 : (kd == 2) = true := by simpa using hk2
    have hS := Lib.hid (hE.out.trans (if_pos hk2))
    clear hk2 hb
    go_wp2_with fail
    refine (Bucket.bnew_yes a b' T _ hbk.out).mono ?_
    rintro e w4 ⟨rfl, hB4⟩
    have HS4 := Lib.hid (HS.out.below hB4)
    have HB4 := Lib.hid (bw_below HB3.out hB4)
    clear hB4 x1 x4 x5
    have hbl : bb < w4.heap.size := HS4.out.lt HS4.out.mine
    have c8 : w4.cell? ⟨bb, 8, none⟩ = some (.int .i64 0) := (HS4.out.blk.cell 8).trans (by rw [h0E.out]; rfl)
    have c9 : w4.cell? ⟨bb, 9, none⟩ = some (.int .i64 0) := (HS4.out.blk.cell 9).trans (by rw [h0E.out]; rfl)
    have c10 : w4.cell? ⟨bb, 10, none⟩ = some (.int .i64 0) := (HS4.out.blk.cell 10).trans (by rw [h0E.out]; rfl)
    have c11 : w4.cell? ⟨bb, 11, none⟩ = some (.int .i64 0) := (HS4.out.blk.cell 11).trans (by rw [h0E.out]; rfl)
    have f8 := HS4.out.blk.free 8
    have f9 := HS4.out.blk.free 9
    have f10 := HS4.out.blk.free 10
    have f11 := HS4.out.blk.free 11
    have hge := HF.out bb (.inl rfl)
    go_wp2
    go_ret2
    refine ⟨bb, k, _, rfl, ?_, HF.out, (((HB4.out.setCell (p := ⟨bb, 8, none⟩) hge _).setCell (p := ⟨bb, 9, none⟩) hge _).setCell (p := ⟨bb, 10, none⟩) hge _).setCell (p := ⟨bb, 11, none⟩) hge _⟩
    rw [hS.out]
    have h1 := (((HS4.out.set 8 (.int .i64 a) { new0 ⟨s, kd, u, o, a, b'⟩ seed room now with b0 := a } (by rw [h0E.out]; rfl) rfl).set 9 (.int .i64 b') { new0 ⟨s, kd, u, o, a, b'⟩ seed room now with b0 := a, b1 := b' } (by rw [h0E.out]; rfl) rfl).set 10 (.int .i64 b') { new0 ⟨s, kd, u, o, a, b'⟩ seed room now with b0 := a, b1 := b', b2 := b' } (by rw [h0E.out]; rfl) rfl).set 11 (.int .i64 T) { new0 ⟨s, kd, u, o, a, b'⟩ seed room now with b0 := a, b1 := b', b2 := b', b3 := T } (by rw [h0E.out]; rfl) rfl
    exact h1
  · have t3 : (kd == 2) = false := by simpa using hk2
    have hS := Lib.hid (hE.out.trans (if_neg hk2))
    clear hk2 hb
    go_wp2
    go_ret2
    refine ⟨bb, k, _, rfl, ?_, HF.out, HB3.out⟩
    rw [hS.out]
    exact HS.out
theorem fit_bucket {t : Tox} (hc : chk t = 0) (hk : t.kind = 2) (now : Int) : Bucket.okB t.a t.b t.b (add now 0) = true := by
  unfold chk at hc
  split at hc
  · omega
  split at hc
  · omega
  split at hc
  · omega
  rename_i h1 h2 h3
  simp only [Bool.and_eq_false_iff, not_or, Bool.not_eq_false] at h3
  have h4 := h3.2
  unfold numB ruleB rightB roomB at h4
  rw [hk, if_neg (by decide), if_pos rfl] at h4
  simp only [Bool.and_eq_true, decide_eq_true_eq] at h4
  unfold Bucket.okB Bucket.Ok
  have := nr_bd (nr now + nr 0)
  refine decide_eq_true ⟨h4.1.1.1, h4.1.1.2, h4.1.1.2, ⟨?_, ?_⟩, by omega, by omega⟩
  · exact this.1
  · exact this.2
theorem pass_kind {t : Tox} (h : passB t = true) : t = noTox := by
  obtain ⟨s, k, u, o, a, b⟩ := t
  unfold passB sameT noTox at h
  simp only [Bool.and_eq_true, beq_iff_eq] at h
  obtain ⟨h1, rfl, rfl, rfl, rfl, rfl⟩ := h
  have : s = ⟨#[]⟩ := by
    rw [ByteArray.toList_eq, ByteArray.toList_eq] at h1
    obtain ⟨⟨l⟩⟩ := s
    simp at h1
    subst h1
    rfl
  subst this
  rfl
def NewPost (w : World) (t : Tox) (seed room now : Int) (e : Ending) (w' : World) : Prop :=
  (newE t room = 0 → ∃ b k F, e = .returned (.tuple #[.pointer (some ⟨b, 0, none⟩), .int .i64 0]) ∧ SG w' F b k (newS t seed room now) ∧ (∀ j, F j → w.heap.size ≤ j) ∧ Below w.heap.size w w') ∧
  (newE t room ≠ 0 → e = .returned (.tuple #[.pointer none, .int .i64 (newE t room)]) ∧ Below w.heap.size w w')
theorem new_any (t : Tox) (seed room now : Int) (w : World) : Calls Tryz.prog 4 #[t.v, .int .u64 seed, .int .i64 room, .int .i64 now] w (NewPost w t seed room now) := by
  unfold NewPost newE
  obtain ⟨s, k, u, o, a, b⟩ := t
  cases hp : passB ⟨s, k, u, o, a, b⟩ with
  | true =>
    rw [if_neg (fun h => Bool.noConfusion h.1)]
    cases hr : roomOk room with
    | true =>
      rw [if_neg (by decide)]
      have hk := congrArg Tox.kind (pass_kind hp)
      exact (new_yes_p s k u o a b seed room now w hp hr (fun h => by simp only [noTox] at hk; omega)).mono fun e w' h => ⟨fun _ => h, fun h => absurd rfl h⟩
    | false =>
      rw [if_pos rfl]
      exact (new_room_p s k u o a b seed room now w hp hr).mono fun e w' h => ⟨fun h => by omega, fun _ => h⟩
  | false =>
    by_cases hc : chk ⟨s, k, u, o, a, b⟩ = 0
    · rw [if_neg (fun h => h.2 hc)]
      cases hr : roomOk room with
      | true =>
        rw [if_neg (by decide)]
        exact (new_yes_c s k u o a b seed room now w hp hc hr (fun h => fit_bucket (t := ⟨s, k, u, o, a, b⟩) hc h now)).mono fun e w' h => ⟨fun _ => h, fun h => absurd rfl h⟩
      | false =>
        rw [if_pos rfl]
        exact (new_room_c s k u o a b seed room now w hp hc hr).mono fun e w' h => ⟨fun h => by omega, fun _ => h⟩
    · rw [if_pos ⟨rfl, hc⟩]
      exact (new_bad s k u o a b seed room now w hp hc).mono fun e w' h => ⟨fun h => absurd h hc, fun _ => h⟩
end Go.Proofs.YtehpliclknfmoaaGreat.Stage
/- A stage's Update (chapter 10). Conditions: the bytes are fewer than 2^30; the stage is one that may be. -/
namespace Go.Proofs.YtehpliclknfmoaaGreat.Stage
open Go.RowKit Mem Tick Cargo Toxic
open Go.Proofs.YtehpliclknfmoaaGreatW.PrintLast Pu
set_option maxRecDepth 100000
set_option linter.unusedVariables false
set_option linter.unusedSimpArgs false
variable {w w' : World} {F : Nat → Prop} {b k : Nat} {s : Sg}
def updE (s : Sg) (t : Tox) : Int := if t.kind ≠ s.t.kind then 91 else if t.kind = 0 then 0 else chk t
def updS (s : Sg) (t : Tox) (n : Int) : Sg :=
  if t.kind ≠ s.t.kind ∨ t.kind = 0 ∨ chk t ≠ 0 then s
  else if t.kind = 2 then { lookP s n with t := t, b0 := t.a, b1 := t.b, b2 := min (Bucket.fillL s.b0 s.b1 s.b2 s.b3 (lookP s n).clock) t.b, b3 := Bucket.fillT s.b0 s.b1 s.b2 s.b3 (lookP s n).clock }
  else { lookP s n with t := t }
theorem fit_bucketT {t : Tox} (hc : chk t = 0) (hk : t.kind = 2) (T : Int) (h0 : 0 ≤ T) (h1 : T ≤ 1099511627776) : Bucket.okB t.a t.b t.b T = true := by
  have h := fit_bucket hc hk 0
  unfold Bucket.okB Bucket.Ok at h ⊢
  have h := of_decide_eq_true h
  exact decide_eq_true ⟨h.1, h.2.1, h.2.2.1, ⟨h0, h1⟩, h.2.2.2.2.1, h.2.2.2.2.2⟩
theorem look_clock (s : Sg) (n : Int) (h0 : 0 ≤ s.clock) (h1 : s.clock ≤ 1099511627776) : 0 ≤ (lookP s n).clock ∧ (lookP s n).clock ≤ 1099511627776 := by
  have := nr_bd (nr n + nr 0)
  show 0 ≤ max s.clock (add n 0) ∧ max s.clock (add n 0) ≤ 1099511627776
  unfold add
  omega
theorem SG.tox (h : SG w F b k s) (x : ByteArray) (kd : Int) (u : Bool) (o a b' : Int) : SG ((((((w.setCell ⟨b, 1, none⟩ (.string x)).setCell ⟨b, 2, none⟩ (.int .i64 kd)).setCell ⟨b, 3, none⟩ (.bool u)).setCell ⟨b, 4, none⟩ (.int .i64 o)).setCell ⟨b, 5, none⟩ (.int .i64 a)).setCell ⟨b, 6, none⟩ (.int .i64 b')) F b k { s with t := ⟨x, kd, u, o, a, b'⟩ } :=
  (((((h.set 1 (.string x) { s with t := { s.t with name := x } } rfl rfl).set 2 (.int .i64 kd) { s with t := { s.t with name := x, kind := kd } } rfl rfl).set 3 (.bool u) { s with t := { s.t with name := x, kind := kd, up := u } } rfl rfl).set 4 (.int .i64 o) { s with t := { s.t with name := x, kind := kd, up := u, often := o } } rfl rfl).set 5 (.int .i64 a) { s with t := { s.t with name := x, kind := kd, up := u, often := o, a := a } } rfl rfl).set 6 (.int .i64 b') { s with t := ⟨x, kd, u, o, a, b'⟩ } rfl rfl
theorem Did.tox {a0 : World} (h : Did F a0 w) (hb : F b) (x : ByteArray) (kd : Int) (u : Bool) (o a b' : Int) : Did F a0 ((((((w.setCell ⟨b, 1, none⟩ (.string x)).setCell ⟨b, 2, none⟩ (.int .i64 kd)).setCell ⟨b, 3, none⟩ (.bool u)).setCell ⟨b, 4, none⟩ (.int .i64 o)).setCell ⟨b, 5, none⟩ (.int .i64 a)).setCell ⟨b, 6, none⟩ (.int .i64 b')) :=
  (((((h.setCell (p := ⟨b, 1, none⟩) (.inl hb) _).setCell (p := ⟨b, 2, none⟩) (.inl hb) _).setCell (p := ⟨b, 3, none⟩) (.inl hb) _).setCell (p := ⟨b, 4, none⟩) (.inl hb) _).setCell (p := ⟨b, 5, none⟩) (.inl hb) _).setCell (p := ⟨b, 6, none⟩) (.inl hb) _
theorem SG.bucket4 (h : SG w F b k s) (x y z u : Int) : SG ((((w.setCell ⟨b, 8, none⟩ (.int .i64 x)).setCell ⟨b, 9, none⟩ (.int .i64 y)).setCell ⟨b, 10, none⟩ (.int .i64 z)).setCell ⟨b, 11, none⟩ (.int .i64 u)) F b k { s with b0 := x, b1 := y, b2 := z, b3 := u } :=
  (((h.set 8 (.int .i64 x) { s with b0 := x } rfl rfl).set 9 (.int .i64 y) { s with b0 := x, b1 := y } rfl rfl).set 10 (.int .i64 z) { s with b0 := x, b1 := y, b2 := z } rfl rfl).set 11 (.int .i64 u) { s with b0 := x, b1 := y, b2 := z, b3 := u } rfl rfl
theorem upd_kind (h : SG w F b k s) (ht : held s ≤ 1000000000) (x : ByteArray) (kd : Int) (u : Bool) (o a b' n : Int) (hk : kd ≠ s.t.kind) :
    Calls Tryz.prog 32 #[.pointer (some ⟨b, 0, none⟩), .agg #[.string x, .int .i64 kd, .bool u, .int .i64 o, .int .i64 a, .int .i64 b'], .int .i64 n] w fun e w' =>
      e = .returned (.int .i64 (91)) ∧ SG w' F b k (s) ∧ Did F w w' := by
  have hB0 := (Below.refl w.heap.size w).alloc (Nat.le_refl _) (.cells #[.string x, .int .i64 kd, .bool u, .int .i64 o, .int .i64 a, .int .i64 b'] 23)
  have hX0 := Lib.hid (Blk.new w 23 #[.string x, .int .i64 kd, .bool u, .int .i64 o, .int .i64 a, .int .i64 b'])
  have HS0 := Lib.hid (h.below hB0)
  have HD0 := Lib.hid (Did.of_below (F := F) hB0)
  have hck := fun W => Lib.hid (check_any ⟨x, kd, u, o, a, b'⟩ W)
  have hne : ∀ j, F j → j ≠ w.heap.size := fun j hj e => by have := h.lt hj; omega
  have hNe := Lib.hid hne
  have tk : (kd != s.t.kind) = true := by simpa using hk
  clear hk
  generalize chk ⟨x, kd, u, o, a, b'⟩ = E at *
  clear h hB0 hne
  go_enter Tryz.func32, Tryz.ntmps32
  go_wp2_with fail
  refine (hck _).out.mono ?_
  rintro e w1 ⟨rfl, hB⟩
  have HS := Lib.hid (HS0.out.below hB)
  have HD := Lib.hid (HD0.out.trans (Stem.refl _ _) (Did.of_below hB))
  have HX := Lib.hid (hX0.out.below hB)
  clear hck hB HS0 HD0 hX0
  have x1 : w1.cell? ⟨w.heap.size, 1, none⟩ = some (.int .i64 kd) := (HX.out.cell 1).trans rfl
  have c2 : w1.cell? ⟨b, 2, none⟩ = some (.int .i64 s.t.kind) := (HS.out.blk.cell 2).trans rfl
  go_wp2
  refine start_ (n := 9) (S := fun w' => w'.cell? ⟨w.heap.size, 1, none⟩ = some (.int .i64 kd) ∧ w'.cell? ⟨b, 2, none⟩ = some (.int .i64 s.t.kind)) (ds := []) (m_ 9 0) (by kernel_rfl) rfl (by kernel_rfl) ⟨x1, c2⟩ (fun hHeld => ?_)
  refine pq_ 0 11 9 1 ?_
  refine pq_ 2 13 9 5 ?_
  refine pq_ 3 14 9 13 ?_
  refine pq_ 4 15 9 29 ?_
  refine pq_ 5 16 9 61 ?_
  refine tq_ 1 12 9 63 hHeld ?_
  refine tq_ 6 17 9 127 hHeld ?_
  refine pq_ 7 18 9 255 ?_
  refine pq_ 8 10 9 511 ?_
  refine done_ (by kernel_rfl) ?_
  clear hHeld c2 x1
  replace HS := Lib.hid HS.out.drew
  replace HD := Lib.hid HD.out.drew
  replace HX := Lib.hid (show Blk w1.drew w.heap.size 23 #[.string x, .int .i64 kd, .bool u, .int .i64 o, .int .i64 a, .int .i64 b'] from HX.out)
  generalize w1.drew = w2 at *
  have x1 : w2.cell? ⟨w.heap.size, 1, none⟩ = some (.int .i64 kd) := (HX.out.cell 1).trans rfl
  go_wp2
  go_ret
  exact ⟨rfl, HS.out, HD.out⟩
theorem upd_none (h : SG w F b k s) (ht : held s ≤ 1000000000) (x : ByteArray) (kd : Int) (u : Bool) (o a b' n : Int) (hk : kd = s.t.kind) (h0 : kd = 0) :
    Calls Tryz.prog 32 #[.pointer (some ⟨b, 0, none⟩), .agg #[.string x, .int .i64 kd, .bool u, .int .i64 o, .int .i64 a, .int .i64 b'], .int .i64 n] w fun e w' =>
      e = .returned (.int .i64 (0)) ∧ SG w' F b k (s) ∧ Did F w w' := by
  have hB0 := (Below.refl w.heap.size w).alloc (Nat.le_refl _) (.cells #[.string x, .int .i64 kd, .bool u, .int .i64 o, .int .i64 a, .int .i64 b'] 23)
  have hX0 := Lib.hid (Blk.new w 23 #[.string x, .int .i64 kd, .bool u, .int .i64 o, .int .i64 a, .int .i64 b'])
  have HS0 := Lib.hid (h.below hB0)
  have HD0 := Lib.hid (Did.of_below (F := F) hB0)
  have hck := fun W => Lib.hid (check_any ⟨x, kd, u, o, a, b'⟩ W)
  have hne : ∀ j, F j → j ≠ w.heap.size := fun j hj e => by have := h.lt hj; omega
  have hNe := Lib.hid hne
  have tk : (kd != s.t.kind) = false := by simpa using hk
  have t0 : (kd == 0) = true := by simpa using h0
  clear hk h0
  generalize chk ⟨x, kd, u, o, a, b'⟩ = E at *
  clear h hB0 hne
  go_enter Tryz.func32, Tryz.ntmps32
  go_wp2_with fail
  refine (hck _).out.mono ?_
  rintro e w1 ⟨rfl, hB⟩
  have HS := Lib.hid (HS0.out.below hB)
  have HD := Lib.hid (HD0.out.trans (Stem.refl _ _) (Did.of_below hB))
  have HX := Lib.hid (hX0.out.below hB)
  clear hck hB HS0 HD0 hX0
  have x1 : w1.cell? ⟨w.heap.size, 1, none⟩ = some (.int .i64 kd) := (HX.out.cell 1).trans rfl
  have c2 : w1.cell? ⟨b, 2, none⟩ = some (.int .i64 s.t.kind) := (HS.out.blk.cell 2).trans rfl
  go_wp2
  refine start_ (n := 9) (S := fun w' => w'.cell? ⟨w.heap.size, 1, none⟩ = some (.int .i64 kd) ∧ w'.cell? ⟨b, 2, none⟩ = some (.int .i64 s.t.kind)) (ds := []) (m_ 9 0) (by kernel_rfl) rfl (by kernel_rfl) ⟨x1, c2⟩ (fun hHeld => ?_)
  refine pq_ 0 11 9 1 ?_
  refine pq_ 2 13 9 5 ?_
  refine pq_ 3 14 9 13 ?_
  refine pq_ 4 15 9 29 ?_
  refine pq_ 5 16 9 61 ?_
  refine tq_ 1 12 9 63 hHeld ?_
  refine tq_ 6 17 9 127 hHeld ?_
  refine pq_ 7 18 9 255 ?_
  refine pq_ 8 10 9 511 ?_
  refine done_ (by kernel_rfl) ?_
  clear hHeld c2 x1
  replace HS := Lib.hid HS.out.drew
  replace HD := Lib.hid HD.out.drew
  replace HX := Lib.hid (show Blk w1.drew w.heap.size 23 #[.string x, .int .i64 kd, .bool u, .int .i64 o, .int .i64 a, .int .i64 b'] from HX.out)
  generalize w1.drew = w2 at *
  have x1 : w2.cell? ⟨w.heap.size, 1, none⟩ = some (.int .i64 kd) := (HX.out.cell 1).trans rfl
  go_wp2
  go_ret
  exact ⟨rfl, HS.out, HD.out⟩
theorem upd_bad (h : SG w F b k s) (ht : held s ≤ 1000000000) (x : ByteArray) (kd : Int) (u : Bool) (o a b' n : Int) (hk : kd = s.t.kind) (h0 : kd ≠ 0) (hc : chk ⟨x, kd, u, o, a, b'⟩ ≠ 0) :
    Calls Tryz.prog 32 #[.pointer (some ⟨b, 0, none⟩), .agg #[.string x, .int .i64 kd, .bool u, .int .i64 o, .int .i64 a, .int .i64 b'], .int .i64 n] w fun e w' =>
      e = .returned (.int .i64 (chk ⟨x, kd, u, o, a, b'⟩)) ∧ SG w' F b k (s) ∧ Did F w w' := by
  have hB0 := (Below.refl w.heap.size w).alloc (Nat.le_refl _) (.cells #[.string x, .int .i64 kd, .bool u, .int .i64 o, .int .i64 a, .int .i64 b'] 23)
  have hX0 := Lib.hid (Blk.new w 23 #[.string x, .int .i64 kd, .bool u, .int .i64 o, .int .i64 a, .int .i64 b'])
  have HS0 := Lib.hid (h.below hB0)
  have HD0 := Lib.hid (Did.of_below (F := F) hB0)
  have hck := fun W => Lib.hid (check_any ⟨x, kd, u, o, a, b'⟩ W)
  have hne : ∀ j, F j → j ≠ w.heap.size := fun j hj e => by have := h.lt hj; omega
  have hNe := Lib.hid hne
  have tk : (kd != s.t.kind) = false := by simpa using hk
  have t0 : (kd == 0) = false := by simpa using h0
  have tc : (chk ⟨x, kd, u, o, a, b'⟩ != 0) = true := by simpa using hc
  clear hk h0 hc
  generalize chk ⟨x, kd, u, o, a, b'⟩ = E at *
  clear h hB0 hne
  go_enter Tryz.func32, Tryz.ntmps32
  go_wp2_with fail
  refine (hck _).out.mono ?_
  rintro e w1 ⟨rfl, hB⟩
  have HS := Lib.hid (HS0.out.below hB)
  have HD := Lib.hid (HD0.out.trans (Stem.refl _ _) (Did.of_below hB))
  have HX := Lib.hid (hX0.out.below hB)
  clear hck hB HS0 HD0 hX0
  have x1 : w1.cell? ⟨w.heap.size, 1, none⟩ = some (.int .i64 kd) := (HX.out.cell 1).trans rfl
  have c2 : w1.cell? ⟨b, 2, none⟩ = some (.int .i64 s.t.kind) := (HS.out.blk.cell 2).trans rfl
  go_wp2
  refine start_ (n := 9) (S := fun w' => w'.cell? ⟨w.heap.size, 1, none⟩ = some (.int .i64 kd) ∧ w'.cell? ⟨b, 2, none⟩ = some (.int .i64 s.t.kind)) (ds := []) (m_ 9 0) (by kernel_rfl) rfl (by kernel_rfl) ⟨x1, c2⟩ (fun hHeld => ?_)
  refine pq_ 0 11 9 1 ?_
  refine pq_ 2 13 9 5 ?_
  refine pq_ 3 14 9 13 ?_
  refine pq_ 4 15 9 29 ?_
  refine pq_ 5 16 9 61 ?_
  refine tq_ 1 12 9 63 hHeld ?_
  refine tq_ 6 17 9 127 hHeld ?_
  refine pq_ 7 18 9 255 ?_
  refine pq_ 8 10 9 511 ?_
  refine done_ (by kernel_rfl) ?_
  clear hHeld c2 x1
  replace HS := Lib.hid HS.out.drew
  replace HD := Lib.hid HD.out.drew
  replace HX := Lib.hid (show Blk w1.drew w.heap.size 23 #[.string x, .int .i64 kd, .bool u, .int .i64 o, .int .i64 a, .int .i64 b'] from HX.out)
  generalize w1.drew = w2 at *
  have x1 : w2.cell? ⟨w.heap.size, 1, none⟩ = some (.int .i64 kd) := (HX.out.cell 1).trans rfl
  go_wp2
  go_ret
  exact ⟨rfl, HS.out, HD.out⟩
theorem upd_else (h : SG w F b k s) (ht : held s ≤ 1000000000) (x : ByteArray) (kd : Int) (u : Bool) (o a b' n : Int) (hk : kd = s.t.kind) (h0 : kd ≠ 0) (hc : chk ⟨x, kd, u, o, a, b'⟩ = 0) (hc0 : 0 ≤ s.clock) (hc1 : s.clock ≤ 1099511627776) (h2 : kd ≠ 2) :
    Calls Tryz.prog 32 #[.pointer (some ⟨b, 0, none⟩), .agg #[.string x, .int .i64 kd, .bool u, .int .i64 o, .int .i64 a, .int .i64 b'], .int .i64 n] w fun e w' =>
      e = .returned (.int .i64 (0)) ∧ SG w' F b k ({ lookP s n with t := ⟨x, kd, u, o, a, b'⟩ }) ∧ Did F w w' := by
  have hB0 := (Below.refl w.heap.size w).alloc (Nat.le_refl _) (.cells #[.string x, .int .i64 kd, .bool u, .int .i64 o, .int .i64 a, .int .i64 b'] 23)
  have hX0 := Lib.hid (Blk.new w 23 #[.string x, .int .i64 kd, .bool u, .int .i64 o, .int .i64 a, .int .i64 b'])
  have HS0 := Lib.hid (h.below hB0)
  have HD0 := Lib.hid (Did.of_below (F := F) hB0)
  have hck := fun W => Lib.hid (check_any ⟨x, kd, u, o, a, b'⟩ W)
  have hne : ∀ j, F j → j ≠ w.heap.size := fun j hj e => by have := h.lt hj; omega
  have hNe := Lib.hid hne
  have tk : (kd != s.t.kind) = false := by simpa using hk
  have t0 : (kd == 0) = false := by simpa using h0
  have tc : (chk ⟨x, kd, u, o, a, b'⟩ != 0) = false := by simpa using hc
  have t2 : (kd == 2) = false := by simpa using h2
  clear hk h0 hc h2
  generalize chk ⟨x, kd, u, o, a, b'⟩ = E at *
  clear h hB0 hne
  go_enter Tryz.func32, Tryz.ntmps32
  go_wp2_with fail
  refine (hck _).out.mono ?_
  rintro e w1 ⟨rfl, hB⟩
  have HS := Lib.hid (HS0.out.below hB)
  have HD := Lib.hid (HD0.out.trans (Stem.refl _ _) (Did.of_below hB))
  have HX := Lib.hid (hX0.out.below hB)
  clear hck hB HS0 HD0 hX0
  have x1 : w1.cell? ⟨w.heap.size, 1, none⟩ = some (.int .i64 kd) := (HX.out.cell 1).trans rfl
  have c2 : w1.cell? ⟨b, 2, none⟩ = some (.int .i64 s.t.kind) := (HS.out.blk.cell 2).trans rfl
  go_wp2
  refine start_ (n := 9) (S := fun w' => w'.cell? ⟨w.heap.size, 1, none⟩ = some (.int .i64 kd) ∧ w'.cell? ⟨b, 2, none⟩ = some (.int .i64 s.t.kind)) (ds := []) (m_ 9 0) (by kernel_rfl) rfl (by kernel_rfl) ⟨x1, c2⟩ (fun hHeld => ?_)
  refine pq_ 0 11 9 1 ?_
  refine pq_ 2 13 9 5 ?_
  refine pq_ 3 14 9 13 ?_
  refine pq_ 4 15 9 29 ?_
  refine pq_ 5 16 9 61 ?_
  refine tq_ 1 12 9 63 hHeld ?_
  refine tq_ 6 17 9 127 hHeld ?_
  refine pq_ 7 18 9 255 ?_
  refine pq_ 8 10 9 511 ?_
  refine done_ (by kernel_rfl) ?_
  clear hHeld c2 x1
  replace HS := Lib.hid HS.out.drew
  replace HD := Lib.hid HD.out.drew
  replace HX := Lib.hid (show Blk w1.drew w.heap.size 23 #[.string x, .int .i64 kd, .bool u, .int .i64 o, .int .i64 a, .int .i64 b'] from HX.out)
  generalize w1.drew = w2 at *
  have x1 : w2.cell? ⟨w.heap.size, 1, none⟩ = some (.int .i64 kd) := (HX.out.cell 1).trans rfl
  go_wp2_with fail
  refine (state_any HS.out (by omega) n).mono ?_
  rintro e w3 ⟨rfl, hS3, hD3⟩
  have HS3 := Lib.hid hS3
  have HD3 := Lib.hid (HD.out.trans (Stem.refl _ _) hD3)
  have HX3 := Lib.hid (HX.out.did hD3 (fun h => hNe.out _ h rfl))
  have hcl := Lib.hid (look_clock s n hc0 hc1)
  have hbb : (lookP s n).b0 = s.b0 ∧ (lookP s n).b1 = s.b1 ∧ (lookP s n).b2 = s.b2 ∧ (lookP s n).b3 = s.b3 := ⟨rfl, rfl, rfl, rfl⟩
  have hbb' := Lib.hid hbb
  clear hS3 hD3 HS HD HX x1 hc0 hc1 hbb
  generalize hs1E : lookP s n = s1 at *
  have hs1 := Lib.hid hs1E
  clear hs1E
  have hbl : b < w3.heap.size := HS3.out.lt HS3.out.mine
  have x0 : w3.cell? ⟨w.heap.size, 0, none⟩ = some (.string x) := (HX3.out.cell 0).trans rfl
  have x1 : w3.cell? ⟨w.heap.size, 1, none⟩ = some (.int .i64 kd) := (HX3.out.cell 1).trans rfl
  have x2 : w3.cell? ⟨w.heap.size, 2, none⟩ = some (.bool u) := (HX3.out.cell 2).trans rfl
  have x3 : w3.cell? ⟨w.heap.size, 3, none⟩ = some (.int .i64 o) := (HX3.out.cell 3).trans rfl
  have x4 : w3.cell? ⟨w.heap.size, 4, none⟩ = some (.int .i64 a) := (HX3.out.cell 4).trans rfl
  have x5 : w3.cell? ⟨w.heap.size, 5, none⟩ = some (.int .i64 b') := (HX3.out.cell 5).trans rfl
  have c1 : w3.cell? ⟨b, 1, none⟩ = some (.string s1.t.name) := (HS3.out.blk.cell 1).trans rfl
  have f1 := HS3.out.blk.free 1
  have c2 : w3.cell? ⟨b, 2, none⟩ = some (.int .i64 s1.t.kind) := (HS3.out.blk.cell 2).trans rfl
  have f2 := HS3.out.blk.free 2
  have c3 : w3.cell? ⟨b, 3, none⟩ = some (.bool s1.t.up) := (HS3.out.blk.cell 3).trans rfl
  have f3 := HS3.out.blk.free 3
  have c4 : w3.cell? ⟨b, 4, none⟩ = some (.int .i64 s1.t.often) := (HS3.out.blk.cell 4).trans rfl
  have f4 := HS3.out.blk.free 4
  have c5 : w3.cell? ⟨b, 5, none⟩ = some (.int .i64 s1.t.a) := (HS3.out.blk.cell 5).trans rfl
  have f5 := HS3.out.blk.free 5
  have c6 : w3.cell? ⟨b, 6, none⟩ = some (.int .i64 s1.t.b) := (HS3.out.blk.cell 6).trans rfl
  have f6 := HS3.out.blk.free 6
  go_upto_region 10 with (fail)
  have HS4 := Lib.hid (HS3.out.tox x kd u o a b')
  have HD4 := Lib.hid (Did.tox HD3.out HS3.out.mine x kd u o a b')
  have hFb := HS3.out.mine
  have hX4 := Lib.hid ((((((HX3.out.far (p := ⟨b, 1, none⟩) (fun e => hNe.out _ hFb e.symm) (.string x)).far (p := ⟨b, 2, none⟩) (fun e => hNe.out _ hFb e.symm) (.int .i64 kd)).far (p := ⟨b, 3, none⟩) (fun e => hNe.out _ hFb e.symm) (.bool u)).far (p := ⟨b, 4, none⟩) (fun e => hNe.out _ hFb e.symm) (.int .i64 o)).far (p := ⟨b, 5, none⟩) (fun e => hNe.out _ hFb e.symm) (.int .i64 a)).far (p := ⟨b, 6, none⟩) (fun e => hNe.out _ hFb e.symm) (.int .i64 b'))
  clear x0 x1 x2 x3 x4 x5 c1 c2 c3 c4 c5 c6 f1 f2 f3 f4 f5 f6 HS3 HD3 HX3 hbl
  generalize (((((w3.setCell ⟨b, 1, none⟩ (.string x)).setCell ⟨b, 2, none⟩ (.int .i64 kd)).setCell ⟨b, 3, none⟩ (.bool u)).setCell ⟨b, 4, none⟩ (.int .i64 o)).setCell ⟨b, 5, none⟩ (.int .i64 a)).setCell ⟨b, 6, none⟩ (.int .i64 b') = w4 at *
  have x1 : w4.cell? ⟨w.heap.size, 1, none⟩ = some (.int .i64 kd) := (hX4.out.cell 1).trans rfl
  go_wp2
  go_ret
  rw [hs1.out]
  exact ⟨rfl, HS4.out, HD4.out⟩
theorem upd_two (h : SG w F b k s) (ht : held s ≤ 1000000000) (x : ByteArray) (kd : Int) (u : Bool) (o a b' n : Int) (hk : kd = s.t.kind) (h0 : kd ≠ 0) (hc : chk ⟨x, kd, u, o, a, b'⟩ = 0) (hc0 : 0 ≤ s.clock) (hc1 : s.clock ≤ 1099511627776) (h2 : kd = 2) (hb : Bucket.okB s.b0 s.b1 s.b2 s.b3 = true) :
    Calls Tryz.prog 32 #[.pointer (some ⟨b, 0, none⟩), .agg #[.string x, .int .i64 kd, .bool u, .int .i64 o, .int .i64 a, .int .i64 b'], .int .i64 n] w fun e w' =>
      e = .returned (.int .i64 (0)) ∧ SG w' F b k ({ lookP s n with t := ⟨x, kd, u, o, a, b'⟩, b0 := a, b1 := b', b2 := min (Bucket.fillL s.b0 s.b1 s.b2 s.b3 (lookP s n).clock) b', b3 := Bucket.fillT s.b0 s.b1 s.b2 s.b3 (lookP s n).clock }) ∧ Did F w w' := by
  have hB0 := (Below.refl w.heap.size w).alloc (Nat.le_refl _) (.cells #[.string x, .int .i64 kd, .bool u, .int .i64 o, .int .i64 a, .int .i64 b'] 23)
  have hX0 := Lib.hid (Blk.new w 23 #[.string x, .int .i64 kd, .bool u, .int .i64 o, .int .i64 a, .int .i64 b'])
  have HS0 := Lib.hid (h.below hB0)
  have HD0 := Lib.hid (Did.of_below (F := F) hB0)
  have hck := fun W => Lib.hid (check_any ⟨x, kd, u, o, a, b'⟩ W)
  have hne : ∀ j, F j → j ≠ w.heap.size := fun j hj e => by have := h.lt hj; omega
  have hNe := Lib.hid hne
  have tk : (kd != s.t.kind) = false := by simpa using hk
  have t0 : (kd == 0) = false := by simpa using h0
  have tc : (chk ⟨x, kd, u, o, a, b'⟩ != 0) = false := by simpa using hc
  have t2 : (kd == 2) = true := by simpa using h2
  have hok := fun T h0 h1 => Lib.hid (fit_bucketT (t := ⟨x, kd, u, o, a, b'⟩) hc h2 T h0 h1)
  have hb' := Lib.hid hb
  clear hk h0 hc h2 hb
  generalize chk ⟨x, kd, u, o, a, b'⟩ = E at *
  clear h hB0 hne
  go_enter Tryz.func32, Tryz.ntmps32
  go_wp2_with fail
  refine (hck _).out.mono ?_
  rintro e w1 ⟨rfl, hB⟩
  have HS := Lib.hid (HS0.out.below hB)
  have HD := Lib.hid (HD0.out.trans (Stem.refl _ _) (Did.of_below hB))
  have HX := Lib.hid (hX0.out.below hB)
  clear hck hB HS0 HD0 hX0
  have x1 : w1.cell? ⟨w.heap.size, 1, none⟩ = some (.int .i64 kd) := (HX.out.cell 1).trans rfl
  have c2 : w1.cell? ⟨b, 2, none⟩ = some (.int .i64 s.t.kind) := (HS.out.blk.cell 2).trans rfl
  go_wp2
  refine start_ (n := 9) (S := fun w' => w'.cell? ⟨w.heap.size, 1, none⟩ = some (.int .i64 kd) ∧ w'.cell? ⟨b, 2, none⟩ = some (.int .i64 s.t.kind)) (ds := []) (m_ 9 0) (by kernel_rfl) rfl (by kernel_rfl) ⟨x1, c2⟩ (fun hHeld => ?_)
  refine pq_ 0 11 9 1 ?_
  refine pq_ 2 13 9 5 ?_
  refine pq_ 3 14 9 13 ?_
  refine pq_ 4 15 9 29 ?_
  refine pq_ 5 16 9 61 ?_
  refine tq_ 1 12 9 63 hHeld ?_
  refine tq_ 6 17 9 127 hHeld ?_
  refine pq_ 7 18 9 255 ?_
  refine pq_ 8 10 9 511 ?_
  refine done_ (by kernel_rfl) ?_
  clear hHeld c2 x1
  replace HS := Lib.hid HS.out.drew
  replace HD := Lib.hid HD.out.drew
  replace HX := Lib.hid (show Blk w1.drew w.heap.size 23 #[.string x, .int .i64 kd, .bool u, .int .i64 o, .int .i64 a, .int .i64 b'] from HX.out)
  generalize w1.drew = w2 at *
  have x1 : w2.cell? ⟨w.heap.size, 1, none⟩ = some (.int .i64 kd) := (HX.out.cell 1).trans rfl
  go_wp2_with fail
  refine (state_any HS.out (by omega) n).mono ?_
  rintro e w3 ⟨rfl, hS3, hD3⟩
  have HS3 := Lib.hid hS3
  have HD3 := Lib.hid (HD.out.trans (Stem.refl _ _) hD3)
  have HX3 := Lib.hid (HX.out.did hD3 (fun h => hNe.out _ h rfl))
  have hcl := Lib.hid (look_clock s n hc0 hc1)
  have hbb : (lookP s n).b0 = s.b0 ∧ (lookP s n).b1 = s.b1 ∧ (lookP s n).b2 = s.b2 ∧ (lookP s n).b3 = s.b3 := ⟨rfl, rfl, rfl, rfl⟩
  have hbb' := Lib.hid hbb
  clear hS3 hD3 HS HD HX x1 hc0 hc1 hbb
  generalize hs1E : lookP s n = s1 at *
  have hs1 := Lib.hid hs1E
  clear hs1E
  have hbl : b < w3.heap.size := HS3.out.lt HS3.out.mine
  have x0 : w3.cell? ⟨w.heap.size, 0, none⟩ = some (.string x) := (HX3.out.cell 0).trans rfl
  have x1 : w3.cell? ⟨w.heap.size, 1, none⟩ = some (.int .i64 kd) := (HX3.out.cell 1).trans rfl
  have x2 : w3.cell? ⟨w.heap.size, 2, none⟩ = some (.bool u) := (HX3.out.cell 2).trans rfl
  have x3 : w3.cell? ⟨w.heap.size, 3, none⟩ = some (.int .i64 o) := (HX3.out.cell 3).trans rfl
  have x4 : w3.cell? ⟨w.heap.size, 4, none⟩ = some (.int .i64 a) := (HX3.out.cell 4).trans rfl
  have x5 : w3.cell? ⟨w.heap.size, 5, none⟩ = some (.int .i64 b') := (HX3.out.cell 5).trans rfl
  have c1 : w3.cell? ⟨b, 1, none⟩ = some (.string s1.t.name) := (HS3.out.blk.cell 1).trans rfl
  have f1 := HS3.out.blk.free 1
  have c2 : w3.cell? ⟨b, 2, none⟩ = some (.int .i64 s1.t.kind) := (HS3.out.blk.cell 2).trans rfl
  have f2 := HS3.out.blk.free 2
  have c3 : w3.cell? ⟨b, 3, none⟩ = some (.bool s1.t.up) := (HS3.out.blk.cell 3).trans rfl
  have f3 := HS3.out.blk.free 3
  have c4 : w3.cell? ⟨b, 4, none⟩ = some (.int .i64 s1.t.often) := (HS3.out.blk.cell 4).trans rfl
  have f4 := HS3.out.blk.free 4
  have c5 : w3.cell? ⟨b, 5, none⟩ = some (.int .i64 s1.t.a) := (HS3.out.blk.cell 5).trans rfl
  have f5 := HS3.out.blk.free 5
  have c6 : w3.cell? ⟨b, 6, none⟩ = some (.int .i64 s1.t.b) := (HS3.out.blk.cell 6).trans rfl
  have f6 := HS3.out.blk.free 6
  go_upto_region 10 with (fail)
  have HS4 := Lib.hid (HS3.out.tox x kd u o a b')
  have HD4 := Lib.hid (Did.tox HD3.out HS3.out.mine x kd u o a b')
  have hFb := HS3.out.mine
  have hX4 := Lib.hid ((((((HX3.out.far (p := ⟨b, 1, none⟩) (fun e => hNe.out _ hFb e.symm) (.string x)).far (p := ⟨b, 2, none⟩) (fun e => hNe.out _ hFb e.symm) (.int .i64 kd)).far (p := ⟨b, 3, none⟩) (fun e => hNe.out _ hFb e.symm) (.bool u)).far (p := ⟨b, 4, none⟩) (fun e => hNe.out _ hFb e.symm) (.int .i64 o)).far (p := ⟨b, 5, none⟩) (fun e => hNe.out _ hFb e.symm) (.int .i64 a)).far (p := ⟨b, 6, none⟩) (fun e => hNe.out _ hFb e.symm) (.int .i64 b'))
  clear x0 x1 x2 x3 x4 x5 c1 c2 c3 c4 c5 c6 f1 f2 f3 f4 f5 f6 HS3 HD3 HX3 hbl
  generalize (((((w3.setCell ⟨b, 1, none⟩ (.string x)).setCell ⟨b, 2, none⟩ (.int .i64 kd)).setCell ⟨b, 3, none⟩ (.bool u)).setCell ⟨b, 4, none⟩ (.int .i64 o)).setCell ⟨b, 5, none⟩ (.int .i64 a)).setCell ⟨b, 6, none⟩ (.int .i64 b') = w4 at *
  have x1 : w4.cell? ⟨w.heap.size, 1, none⟩ = some (.int .i64 kd) := (hX4.out.cell 1).trans rfl
  go_wp2
  have c8 : w4.cell? ⟨b, 8, none⟩ = some (.int .i64 s.b0) := (HS4.out.blk.cell 8).trans (by rw [← hbb'.out.1]; rfl)
  have c9 : w4.cell? ⟨b, 9, none⟩ = some (.int .i64 s.b1) := (HS4.out.blk.cell 9).trans (by rw [← hbb'.out.2.1]; rfl)
  have c10 : w4.cell? ⟨b, 10, none⟩ = some (.int .i64 s.b2) := (HS4.out.blk.cell 10).trans (by rw [← hbb'.out.2.2.1]; rfl)
  have c11 : w4.cell? ⟨b, 11, none⟩ = some (.int .i64 s.b3) := (HS4.out.blk.cell 11).trans (by rw [← hbb'.out.2.2.2]; rfl)
  have c14 : w4.cell? ⟨b, 14, none⟩ = some (.int .i64 s1.clock) := (HS4.out.blk.cell 14).trans rfl
  have x4 : w4.cell? ⟨w.heap.size, 4, none⟩ = some (.int .i64 a) := (hX4.out.cell 4).trans rfl
  have x5 : w4.cell? ⟨w.heap.size, 5, none⟩ = some (.int .i64 b') := (hX4.out.cell 5).trans rfl
  have HF := Lib.hid (show Did F w4 w4 ∧ True from ⟨Did.refl _ _, trivial⟩)
  refine start_ (n := 20) (S := fun w' => w'.cell? ⟨b, 8, none⟩ = some (.int .i64 s.b0) ∧ w'.cell? ⟨b, 9, none⟩ = some (.int .i64 s.b1) ∧ w'.cell? ⟨b, 10, none⟩ = some (.int .i64 s.b2) ∧ w'.cell? ⟨b, 11, none⟩ = some (.int .i64 s.b3) ∧ w'.cell? ⟨b, 14, none⟩ = some (.int .i64 s1.clock) ∧ w'.cell? ⟨w.heap.size, 4, none⟩ = some (.int .i64 a) ∧ w'.cell? ⟨w.heap.size, 5, none⟩ = some (.int .i64 b')) (ds := [19]) (m_ 20 0) (by kernel_rfl) rfl (by kernel_rfl) ⟨c8, c9, c10, c11, c14, x4, x5⟩ (fun hHeld => ?_)
  refine pq_ 0 38 20 1 ?_
  refine pq_ 1 39 20 3 ?_
  refine pq_ 2 40 20 7 ?_
  refine pq_ 3 41 20 15 ?_
  refine pq_ 5 43 20 47 ?_
  refine pq_ 7 45 20 175 ?_
  refine pq_ 9 47 20 687 ?_
  refine pq_ 10 48 20 1711 ?_
  refine pq_ 11 49 20 3759 ?_
  refine tq_ 4 42 20 3775 hHeld ?_
  refine tq_ 6 44 20 3839 hHeld ?_
  refine tq_ 8 46 20 4095 hHeld ?_
  refine tq_ 12 50 20 8191 hHeld ?_
  refine one_ (i := 13) (N := some 51) (m_ 20 16383) rfl rfl (by kernel_rfl) (by decide) (fun K hK => ?_)
  refine goes_ Tryz.func60 (by kernel_rfl) rfl #[.agg #[.int .i64 s.b0, .int .i64 s.b1, .int .i64 s.b2, .int .i64 s.b3], .int .i64 a, .int .i64 b', .int .i64 s1.clock] (by rfl) rfl rfl (by simp only [List.map_toArray, List.map_cons, List.map_nil]; rfl) ?_
  with_reducible refine (Bucket.bchange_yes s.b0 s.b1 s.b2 s.b3 a b' s1.clock w4.drew hb'.out (hok s1.clock hcl.out.1 hcl.out.2).out).mono ?_
  rintro e w5 ⟨rfl, hB⟩
  have hB1 := below_drew hB
  have HS5 := Lib.hid (HS4.out.below hB1)
  have HD5 := Lib.hid (HD4.out.trans (Stem.refl _ _) (Did.of_below hB1))
  have d8 := bcells hB1 c8
  have d9 := bcells hB1 c9
  have d10 := bcells hB1 c10
  have d11 := bcells hB1 c11
  have d14 := bcells hB1 c14
  have y4 := bcells hB1 x4
  have y5 := bcells hB1 x5
  have hbl : b < w5.heap.size := HS5.out.lt HS5.out.mine
  have f8 := HS5.out.blk.free 8
  have f9 := HS5.out.blk.free 9
  have f10 := HS5.out.blk.free 10
  have f11 := HS5.out.blk.free 11
  clear hB hB1
  generalize hLE : Bucket.fillL s.b0 s.b1 s.b2 s.b3 s1.clock = L at *
  generalize hTE : Bucket.fillT s.b0 s.b1 s.b2 s.b3 s1.clock = T at *
  generalize hME : min L b' = M at *
  have hL := Lib.hid hLE
  have hT := Lib.hid hTE
  have hM := Lib.hid hME
  clear hLE hTE hME
  refine ⟨_, rfl, ?_⟩
  refine hK.out _ _ ⟨d8, d9, d10, d11, d14, y4, y5⟩ (fun hHeld => ?_)
  clear hK K
  refine norm_ (a' := ?_) ?_ ?_
  rotate_left
  · show Act.put _ (some 51) _ = _
    simp only [Act.put, List.setIfInBounds_toArray, List.set_cons_zero, List.set_cons_succ, i64_w, i32_w]
    rfl
  refine pq_ 14 37 20 32767 ?_
  refine pq_ 15 52 20 65535 ?_
  refine pq_ 16 53 20 131071 ?_
  refine pq_ 17 54 20 262143 ?_
  refine pq_ 18 55 20 524287 ?_
  refine last_ (i := 19) (N := none) (m_ 20 1048575) rfl rfl (by kernel_rfl) (by decide) (fun K hK => ?_)
  refine skip_ (w1 := ?_) (by rfl) rfl ?_ ?_
  rotate_left
  · go_simp
    rfl
  refine hK.out _ _ ?_
  clear hK K
  refine done_ (by kernel_rfl) ?_
  go_wp2
  go_ret
  refine ⟨rfl, ?_, (((HD5.out.setCell (p := ⟨b, 8, none⟩) (.inl HS5.out.mine) _).setCell (p := ⟨b, 9, none⟩) (.inl HS5.out.mine) _).setCell (p := ⟨b, 10, none⟩) (.inl HS5.out.mine) _).setCell (p := ⟨b, 11, none⟩) (.inl HS5.out.mine) _⟩
  rw [hs1.out, hL.out, hT.out, hM.out]
  exact HS5.out.bucket4 a b' M T
theorem update_any (h : SG w F b k s) (ht : held s ≤ 1000000000) (t : Tox) (n : Int) (hc0 : 0 ≤ s.clock) (hc1 : s.clock ≤ 1099511627776) (hb : s.t.kind = 2 → Bucket.okB s.b0 s.b1 s.b2 s.b3 = true) :
    Calls Tryz.prog 32 #[.pointer (some ⟨b, 0, none⟩), t.v, .int .i64 n] w fun e w' => e = .returned (.int .i64 (updE s t)) ∧ SG w' F b k (updS s t n) ∧ Did F w w' := by
  obtain ⟨x, kd, u, o, a, b'⟩ := t
  unfold updE updS
  by_cases hk : kd = s.t.kind
  · by_cases h0 : kd = 0
    · rw [if_neg (by simpa using hk), if_pos h0, if_pos (.inr (.inl h0))]
      exact upd_none h ht x kd u o a b' n hk h0
    · by_cases hc : chk ⟨x, kd, u, o, a, b'⟩ = 0
      · rw [if_neg (by simpa using hk), if_neg h0, if_neg (by rintro (h | h | h); exact h hk; exact h0 h; exact h hc), hc]
        by_cases h2 : kd = 2
        · rw [if_pos h2]
          exact upd_two h ht x kd u o a b' n hk h0 hc hc0 hc1 h2 (hb (hk ▸ h2))
        · rw [if_neg h2]
          exact upd_else h ht x kd u o a b' n hk h0 hc hc0 hc1 h2
      · rw [if_neg (by simpa using hk), if_neg h0, if_pos (.inr (.inr hc))]
        exact upd_bad h ht x kd u o a b' n hk h0 hc
  · rw [if_pos hk, if_pos (.inl hk)]
    exact upd_kind h ht x kd u o a b' n hk
end Go.Proofs.YtehpliclknfmoaaGreat.Stage
