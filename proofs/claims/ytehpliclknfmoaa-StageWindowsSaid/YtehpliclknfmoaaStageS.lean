/- Plain law of StagePieces (chapter 10): a slicer's pieces, and the rows of Put's. No condition. -/
import Derived.Test.YtehpliclknfmoaaStageQ
namespace Go.Proofs.Ytehpliclknfmoaa.Stage
open Go.RowKit Mem Tick Cargo Toxic
set_option linter.unusedVariables false
set_option linter.unusedSimpArgs false
/-- a byte that comes, or is asked for, so many ticks later. -/
structure Pt where
  later : Int
  take : Bool
  n : Int
def Puts (w : World) (v : Value) (l : List Pt) : Prop :=
  ∃ a cap, v = .slice a l.length cap ∧ l.length ≤ 9223372036854775807 ∧
    (l ≠ [] → ∃ b o, a = some ⟨b, o, none⟩ ∧ ∀ j x, l[j]? = some x → w.cell? ⟨b, o + j * 3, none⟩ = some (.int .i64 x.later) ∧ w.cell? ⟨b, o + j * 3 + 1, none⟩ = some (.bool x.take) ∧ w.cell? ⟨b, o + j * 3 + 2, none⟩ = some (.int .i64 x.n))
theorem Puts.below {w w' : World} {v : Value} {l : List Pt} (h : Puts w v l) (hb : Below w.heap.size w w') : Puts w' v l := by
  obtain ⟨a, cap, h1, h2, h4⟩ := h
  refine ⟨a, cap, h1, h2, fun hn => ?_⟩
  obtain ⟨b, o, e, hc⟩ := h4 hn
  refine ⟨b, o, e, fun j x hx => ?_⟩
  obtain ⟨c0, c1, c2⟩ := hc j x hx
  exact ⟨bcells hb c0, bcells hb c1, bcells hb c2⟩
def zeros (m : Nat) : ByteArray := ⟨Array.replicate m 0⟩
theorem zeros_size (m : Nat) : (zeros m).size = m := by simp [zeros, ByteArray.size]
theorem bs_zeros (w : World) (m : Nat) (fr : Nat × Nat) : BS (w.alloc (.cells (Array.replicate m (.int .u8 0)) 5 fr)) (some ⟨w.heap.size, 0, none⟩) (zeros m) :=
  bs_const w _ _ _ fun i hi => by
    rw [zeros_size] at hi
    simp [zeros, hi, ByteArray.getElem_eq_getElem_data]
/-- how many bytes are made: no more than 200. -/
def mk (n : Int) : Nat := (min (max n 0) 200).toNat
theorem mk_le (n : Int) : mk n ≤ 200 := by unfold mk; omega
theorem mk_eq (n : Int) : min (max n 0) 200 = (mk n : Int) := by unfold mk; omega
theorem tick_next (now later : Int) (h0 : 0 ≤ now) (h1 : now ≤ 1099511627776) : now ≤ Tick.add now later ∧ Tick.add now later ≤ 1099511627776 ∧ Tick.add (Tick.add now later) 0 = Tick.add now later := by
  have h2 := nr_bd later
  have h3 := nr_bd (nr now + nr later)
  have h4 : now ≤ Tick.add now later := by
    unfold Tick.add
    rw [nr_in h0 h1]
    by_cases h : now + nr later ≤ 1099511627776
    · rw [nr_in (by omega) h]; omega
    · rw [nr_top (by omega)]; exact h1
  refine ⟨h4, h3.2, ?_⟩
  rw [add_zero]
  exact nr_in h3.1 h3.2
theorem dice_same (s : Sg) : (diceP s).t = s.t ∧ (diceP s).closed = s.closed ∧ (diceP s).state = s.state ∧ (diceP s).clock = s.clock ∧ (diceP s).pause = s.pause := by
  unfold diceP
  split <;> exact ⟨rfl, rfl, rfl, rfl, rfl⟩
structure PcI (T : Tox) (now last : Int) (any : Bool) (s : Sg) : Prop where
  t : s.t = T
  cl : s.closed = false
  st : s.state = 0
  ck : s.clock = now
  ps : s.pause = if any = true then Tick.add last T.b else 0
theorem lookS_plain {s : Sg} (h4 : s.t.kind ≠ 4) (h5 : s.t.kind ≠ 5) (h6 : s.t.kind ≠ 6) (hc : s.closed = false) (hs : s.state = 0) : lookS s = 0 := by
  unfold lookS
  rw [if_neg (fun h => h hs), if_neg (show ¬(s.t.kind = 5 ∧ lateB s s.began s.t.a = true) from fun h => h5 h.1), if_neg h4, if_neg (show ¬(s.t.kind = 6 ∧ s.t.a ≤ s.passed) from fun h => h6 h.1), if_neg (ended_no hc)]
theorem PcI.look {T : Tox} {now last : Int} {any : Bool} {s : Sg} (h : PcI T now last any s) (hk : T.kind = 3) (N : Int) (h1 : now ≤ N) (h2 : Tick.add N 0 = N) : PcI T N last any (lookP s N) := by
  refine ⟨h.t, h.cl, ?_, ?_, h.ps⟩
  · have ht : (nowP s N).t = T := h.t
    exact lookS_plain (by rw [ht]; omega) (by rw [ht]; omega) (by rw [ht]; omega) h.cl h.st
  · show max s.clock (Tick.add N 0) = N
    rw [h.ck, h2]; omega
theorem PcI.force {T : Tox} {now last : Int} {any : Bool} {s : Sg} (h : PcI T now last any s) (hk : T.kind = 3) (N : Int) (h1 : now ≤ N) (h2 : Tick.add N 0 = N) (x : ByteArray) : PcI T N last any (forceP s N x) := by
  have h3 := h.look hk N h1 h2
  unfold forceP
  split
  · exact h3
  · have hd := dice_same (lookP s N)
    exact ⟨hd.1.trans h3.t, hd.2.1.trans h3.cl, hd.2.2.1.trans h3.st, hd.2.2.2.1.trans h3.ck, hd.2.2.2.2.trans h3.ps⟩
theorem PcI.put {T : Tox} {now last : Int} {any : Bool} {s : Sg} (h : PcI T now last any s) (hk : T.kind = 3) (N : Int) (h1 : now ≤ N) (h2 : Tick.add N 0 = N) (x : ByteArray) : PcI T N last any (putS s N x) := by
  have h3 := h.look hk N h1 h2
  unfold putS
  split
  · exact h3
  · exact h3.force hk N (Int.le_refl _) h2 _
theorem PcI.take {T : Tox} {now last : Int} {any : Bool} {s : Sg} (h : PcI T now last any s) (hk : T.kind = 3) (ha : 1 ≤ T.a) (N : Int) (h1 : now ≤ N) (h2 : Tick.add N 0 = N) (m : Int) :
    ((takeB s N m).size : Int) ≤ T.a ∧ (0 < (takeB s N m).size → any = true → Tick.add last T.b ≤ N) ∧ PcI T N (if 0 < (takeB s N m).size then N else last) (any || decide (0 < (takeB s N m).size)) (takeS s N m) := by
  have h3 := h.look hk N h1 h2
  have hk1 : (lookP s N).t.kind = 3 := by rw [h3.t]; exact hk
  unfold takeB takeS
  by_cases hc : (lookP s N).state ≠ 0 ∨ m < 1
  · rw [if_pos hc, if_pos hc]
    have e0 : (⟨#[]⟩ : ByteArray).size = 0 := rfl
    rw [e0]
    refine ⟨by omega, fun h => absurd h (by decide), ?_⟩
    rw [if_neg (by decide)]
    simpa using h3
  · rw [if_neg hc, if_neg hc]
    have hm : 1 ≤ m := by
      by_cases e : m < 1
      · exact absurd (.inr e) hc
      · omega
    have hsz : (takeOutB (lookP s N) (readyN (lookP s N) m)).size = outN (lookP s N) (readyN (lookP s N) m) := size_takeP _ _ (takeN_le _ _ _)
    have hps := h3.ps
    have hck := h3.ck
    generalize lookP s N = s1 at *
    rw [hsz]
    have hst := wayS_st s1 (readyN s1 m)
    have hcc := wayS_c s1 (readyN s1 m)
    have hway : wayN s1 (readyN s1 m) = sliceN s1 (readyN s1 m) := by unfold wayN; rw [if_neg (by omega), if_pos hk1]
    have hwS : wayS s1 (readyN s1 m) = sliceS s1 (readyN s1 m) := by unfold wayS; rw [if_neg (by omega), if_pos hk1]
    have hout : outN s1 (readyN s1 m) = (min (rdy s1.clock s1.c.1 : Int) (max (sliceN s1 (readyN s1 m)) 0)).toNat := by
      unfold outN takeN; rw [hcc.1, hway]
    have hbd := Ref02.hiI_bd s1.dice s1.t.a (by rw [h3.t]; exact ha)
    rw [h3.t] at hbd
    by_cases hb : readyN s1 m = 0 ∨ s1.clock < s1.pause
    · have e1 : sliceN s1 (readyN s1 m) = 0 := by unfold sliceN; rw [if_pos hb]
      have e2 : sliceS s1 (readyN s1 m) = s1 := by unfold sliceS; rw [if_pos hb]
      have e3 : outN s1 (readyN s1 m) = 0 := by rw [hout, e1]; omega
      rw [e3]
      refine ⟨by omega, fun h => absurd h (by decide), ?_⟩
      rw [if_neg (by decide)]
      refine ⟨hcc.2.2.2.trans h3.t, hst.1.trans h3.cl, hst.2.2.trans h3.st, hcc.2.1.trans h3.ck, ?_⟩
      show (wayS s1 (readyN s1 m)).pause = _
      rw [hwS, e2, hps]
      simp
    · have hn : readyN s1 m ≠ 0 := fun e => hb (.inl e)
      have hp : s1.pause ≤ s1.clock := by
        by_cases e : s1.clock < s1.pause
        · exact absurd (.inr e) hb
        · omega
      have e1 : sliceN s1 (readyN s1 m) = min (readyN s1 m) (Ref02.hiI s1.dice s1.t.a + 1) := by unfold sliceN; rw [if_neg hb]
      have e2 : (sliceS s1 (readyN s1 m)).pause = Tick.add s1.clock s1.t.b := by unfold sliceS; rw [if_neg hb]
      rw [h3.t] at e1 e2
      have hr : readyN s1 m = min (rdy s1.clock s1.c.1 : Int) m := rfl
      have e3 : (outN s1 (readyN s1 m) : Int) = min (readyN s1 m) (Ref02.hiI s1.dice T.a + 1) ∧ 0 < outN s1 (readyN s1 m) := by
        rw [hout, e1]
        rw [hr] at hn ⊢
        omega
      refine ⟨by omega, fun _ ha' => ?_, ?_⟩
      · rw [ha', if_pos rfl] at hps
        omega
      · rw [if_pos e3.2]
        refine ⟨hcc.2.2.2.trans h3.t, hst.1.trans h3.cl, hst.2.2.trans h3.st, hcc.2.1.trans h3.ck, ?_⟩
        show (wayS s1 (readyN s1 m)).pause = _
        rw [hwS, e2, decide_eq_true e3.2, Bool.or_true, if_pos rfl, hck]
end Go.Proofs.Ytehpliclknfmoaa.Stage
