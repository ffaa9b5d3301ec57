/- A stage's Put and Close (chapter 10). Conditions: the bytes are fewer than 2^30, and not the stage's own. -/
import Derived.Test.YtehpliclknfmoaaStageD
namespace Go.Proofs.Ytehpliclknfmoaa.Stage
open Go.RowKit Mem Tick Cargo Toxic
set_option maxRecDepth 100000
set_option linter.unusedVariables false
set_option linter.unusedSimpArgs false
variable {w w' : World} {F : Nat → Prop} {b k : Nat} {s : Sg}
theorem BS_cut {A : Option Addr} {x : ByteArray} (h : BS w A x) (n : Nat) (hn : n ≤ x.size) : BS w A (x.extract 0 n) := by
  intro h0
  have hsz : (x.extract 0 n).size = n := by simp [ByteArray.size_extract]; omega
  obtain ⟨g, o, rfl, hb⟩ := h (by omega)
  refine ⟨g, o, rfl, fun i hi => ?_⟩
  have := hb i (by omega)
  rw [this]
  simp [ByteArray.getElem_extract]
def roomFor (s : Sg) (x : ByteArray) : Nat := (min (x.size : Int) (free s)).toNat
def putS (s : Sg) (n : Int) (x : ByteArray) : Sg := if (lookP s n).state ≠ 0 ∨ (lookP s n).closed = true then lookP s n else forceP (lookP s n) n (x.extract 0 (roomFor (lookP s n) x))
def putN (s : Sg) (n : Int) (x : ByteArray) : Nat := if (lookP s n).state ≠ 0 ∨ (lookP s n).closed = true then 0 else roomFor (lookP s n) x
theorem room_le (s : Sg) (x : ByteArray) : roomFor s x ≤ x.size := by unfold roomFor; omega
theorem room_eq (s : Sg) (x : ByteArray) : min (x.size : Int) (free s) = (roomFor s x : Int) := by unfold roomFor free; omega
theorem put_any (h : SG w F b k s) (hg : Full s.c.1) (n : Int) (A : Option Addr) (cap : Nat) (x : ByteArray) (hc : x.size ≤ cap) (hb : BS w A x) (ho : BS.Off A F) (ht : held s + x.size ≤ 1000000000) (h0 : 0 ≤ s.room) (h1 : s.room ≤ 1000000000000) :
    Calls Try.prog 11 #[.pointer (some ⟨b, 0, none⟩), .int .i64 n, .slice A x.size cap] w fun e w' => e = .returned (.int .i64 (putN s n x)) ∧ ∃ F', SG w' F' b k (putS s n x) ∧ Did F w w' ∧ Stem F F' w := by
  have HB := Lib.hid hb
  have HO := Lib.hid ho
  have e1 := Lib.hid (show putS s n x = if (lookP s n).state ≠ 0 ∨ (lookP s n).closed = true then lookP s n else forceP (lookP s n) n (x.extract 0 (roomFor (lookP s n) x)) from rfl)
  have e2 := Lib.hid (show putN s n x = if (lookP s n).state ≠ 0 ∨ (lookP s n).closed = true then 0 else roomFor (lookP s n) x from rfl)
  have hg1 := Lib.hid (show Full (lookP s n).c.1 from hg)
  have ht1 : held (lookP s n) + x.size ≤ 1000000000 := ht
  have hr0 : 0 ≤ (lookP s n).room := h0
  have hr1 : (lookP s n).room ≤ 1000000000000 := h1
  have HS0 := Lib.hid (state_any h (by omega) n)
  clear h hb ho hg ht h0 h1
  generalize putS s n x = sL at *
  generalize putN s n x = nL at *
  go_enter Try.func11, Try.ntmps11
  go_wp2_with fail
  refine HS0.out.mono ?_
  rintro e w1 ⟨rfl, HS, HD⟩
  clear HS0
  generalize lookP s n = s1 at *
  have HS' := Lib.hid HS
  have HD' := Lib.hid HD
  have HB' := Lib.hid (BS_did HB.out HO.out HD)
  have c17 : w1.cell? ⟨b, 17, none⟩ = some (.bool s1.closed) := (HS.blk.cell 17).trans rfl
  clear HS HD HB
  by_cases hst : s1.state = 0
  · rw [hst]
    cases hcl : s1.closed with
    | true =>
      have q1 := Lib.hid (show sL = s1 by rw [e1.out, if_pos (.inr hcl)])
      have q2 := Lib.hid (show nL = 0 by rw [e2.out, if_pos (.inr hcl)])
      rw [hcl] at c17
      clear hcl
      go_wp2
      go_ret
      rw [q1.out, q2.out]
      exact ⟨rfl, F, HS'.out, HD'.out, Stem.refl _ _⟩
    | false =>
      have hno : ¬ (s1.state ≠ 0 ∨ s1.closed = true) := by rintro (h | h); exact h hst; rw [hcl] at h; cases h
      have q1 := Lib.hid (show sL = forceP s1 n (x.extract 0 (roomFor s1 x)) by rw [e1.out, if_neg hno])
      have q2 := Lib.hid (show nL = roomFor s1 x by rw [e2.out, if_neg hno])
      rw [hcl] at c17
      have hrl := room_le s1 x
      have hre := Lib.hid (room_eq s1 x)
      clear hcl hno e1 e2
      have hxs : (x.extract 0 (roomFor s1 x)).size = roomFor s1 x := by simp [ByteArray.size_extract]; omega
      go_wp2_with fail
      refine (free_any HS'.out (by omega) hr0 hr1).mono ?_
      rintro e w2 ⟨rfl, hB2⟩
      have HS2 := Lib.hid (HS'.out.below hB2)
      have HD2 := Lib.hid (HD'.out.trans (Stem.refl _ _) (Did.of_below hB2))
      have HB2 := Lib.hid (BS_cut (HB'.out.below hB2) _ hrl)
      clear hB2
      have hre' := hre.out
      have hrc : roomFor s1 x ≤ cap := by omega
      have hf := force_any HS2.out hg1.out n A cap (x.extract 0 (roomFor s1 x)) HB2.out HO.out (by rw [hxs]; omega)
      rw [hxs] at hf
      have HF := Lib.hid hf
      clear hf
      generalize roomFor s1 x = m at *
      go_wp2_with fail
      refine HF.out.mono ?_
      rintro e w3 ⟨rfl, F', hS3, hD3, hF3⟩
      have HS3 := Lib.hid hS3
      have HD3 := Lib.hid (HD2.out.trans (Stem.refl _ _) hD3)
      have HF3 := Lib.hid (show Stem F F' w from fun j hj => (hF3 j hj).imp id fun h => Nat.le_trans HD2.out.size h)
      clear hS3 hD3 hF3 HF hre'
      go_wp2
      go_ret
      rw [q1.out, q2.out]
      exact ⟨rfl, F', HS3.out, HD3.out, HF3.out⟩
  · have q1 := Lib.hid (show sL = s1 by rw [e1.out, if_pos (.inl hst)])
    have q2 := Lib.hid (show nL = 0 by rw [e2.out, if_pos (.inl hst)])
    have tn : (s1.state != 0) = true := by simpa using hst
    clear e1 e2
    go_wp2
    go_ret
    rw [q1.out, q2.out]
    exact ⟨rfl, F, HS'.out, HD'.out, Stem.refl _ _⟩
def closeP (s : Sg) (n : Int) : Sg := if s.closed = true then nowP s n else { nowP s n with closed := true, at_ := (nowP s n).clock }
theorem close_any (h : SG w F b k s) (n : Int) :
    Calls Try.prog 26 #[.pointer (some ⟨b, 0, none⟩), .int .i64 n] w fun e w' => e = .returned (.tuple #[]) ∧ SG w' F b k (closeP s n) ∧ Did F w w' := by
  have H := Lib.hid h
  have e1 := Lib.hid (show closeP s n = if s.closed = true then nowP s n else { nowP s n with closed := true, at_ := (nowP s n).clock } from rfl)
  have e2 := Lib.hid (show (nowP s n).closed = s.closed from rfl)
  clear h
  generalize closeP s n = sL at *
  go_enter Try.func26, Try.ntmps26
  go_wp2_with fail
  refine (now_any H.out n).mono ?_
  rintro e w1 ⟨rfl, HS, HD⟩
  generalize nowP s n = s1 at *
  have HS' := Lib.hid HS
  have HD' := Lib.hid HD
  have c17 : w1.cell? ⟨b, 17, none⟩ = some (.bool s1.closed) := (HS.blk.cell 17).trans rfl
  clear HS HD H
  rw [e2.out] at c17
  cases hcl : s.closed with
  | true =>
    have q1 := Lib.hid (show sL = s1 by rw [e1.out, if_pos hcl])
    rw [hcl] at c17
    clear hcl e1 e2
    go_wp2
    go_end0
    rw [q1.out]
    exact ⟨rfl, HS'.out, HD'.out⟩
  | false =>
    have q1 := Lib.hid (show sL = { s1 with closed := true, at_ := s1.clock } by rw [e1.out, if_neg (by rw [hcl]; decide)])
    rw [hcl] at c17
    have c14 : w1.cell? ⟨b, 14, none⟩ = some (.int .i64 s1.clock) := (HS'.out.blk.cell 14).trans rfl
    have c18 : w1.cell? ⟨b, 18, none⟩ = some (.int .i64 s1.at_) := (HS'.out.blk.cell 18).trans rfl
    have f17 := HS'.out.blk.free 17
    have f18 := HS'.out.blk.free 18
    have hbl : b < w1.heap.size := HS'.out.lt HS'.out.mine
    clear hcl e1 e2
    go_wp2
    go_end0
    rw [q1.out]
    exact ⟨rfl, (HS'.out.set 17 (.bool true) { s1 with closed := true } rfl rfl).set 18 (.int .i64 s1.clock) { s1 with closed := true, at_ := s1.clock } rfl rfl, (HD'.out.setCell (p := ⟨b, 17, none⟩) (.inl HS'.out.mine) _).setCell (p := ⟨b, 18, none⟩) (.inl HS'.out.mine) _⟩
end Go.Proofs.Ytehpliclknfmoaa.Stage
