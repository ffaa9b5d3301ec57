/- A region that draws its order, inside the wide fence and in a round of a range over a function: what is shown of it at large serves there. Lemmas alone; no condition. -/
import Derived.RangeFuncNested
import Derived.RangeFuncCalls
import Derived.RangeFuncLeaves
import Derived.OrdersIn
import Derived.TacticsIn
import Derived.Test.YtnkgjnmhiedfoaaGreatA5
import Derived.Test.YtnkgjnmhiedfoaaGreatA3
namespace Go.Proofs.YtnkgjnmhiedfoaaGreat.Fen
open Go Go.RowKit Go.Proofs.YtnkgjnmhiedfoaaGreatW.PrintLast
section
variable {P : Program} {ops : Array Oper} {Q : Exit → Act → World → Prop} {md : Region.Mode} {S : World → Prop} {ds : List Nat} {n : Nat} {ro : Option Nat}
abbrev wideR (ro : Option Nat) : Fence := { Fence.wide with round := ro }
def NoOut (Q : Exit → Act → World → Prop) : Exit → Act → World → Prop
  | .outgrown, _, _ => False
  | .panic _, _, _ => False
  | e, a, w => Q e a w
theorem noOut : ¬ LetsOut (NoOut Q) := by
  rintro ⟨a, w, h⟩
  exact h
theorem out_of {a : Act} {w : World} (h : Q .normal a w) : NoOut Q .normal a w := h
def calmB (ops : Array Oper) : Bool := ops.all fun o => match o.op with | .defer _ => false | _ => true
theorem calm_spec (h : calmB ops = true) {i : Nat} {o : Oper} (ho : ops[i]? = some o) : ∀ c, o.op ≠ .defer c := by
  intro c hc
  have := Array.all_eq_true_iff_forall_mem.1 h o (Array.mem_of_getElem? ho)
  rw [hc] at this
  cases this
theorem callsIn_wideR {f : FuncId} {args : Array Value} {w : World} {R : Ending → World → Prop} (h : Calls P f args w R) : CallsIn (wideR ro) n P f args w R :=
  callsIn_wide.2 h
theorem rowsIn_wideR {row : String} {args : Array Value} {w : World} {R : Value → World → Prop} (h : Rows P row args w R) : RowsIn (wideR ro) n P row args w R :=
  fun c cs _ => let ⟨v, w', r, s⟩ := h c cs; ⟨v, w', r, stepsIn_wide.2 s⟩
theorem oper_in {o : Oper} {a : Act} {w : World} {K K' : Act → World → Prop} (hd : ∀ c, o.op ≠ .defer c) (hK : ∀ a w, K a w → K' a w) (h : o.wp P a w K (NoOut Q)) : o.wpIn (wideR ro) n P a w K' Q := by
  refine ⟨fun f _ => trivial, ?_⟩
  rw [Oper.semAt_eq _ _ _ hd]
  unfold Oper.wp at h
  generalize (execOp a.eval o).run P w = r at *
  cases r with
  | ok x w' =>
    cases x <;> simp only [Oper.upon, Oper.uponIn] at h ⊢ <;>
      first
        | exact hK _ _ h
        | exact ⟨(fun e => by cases e), callsIn_wideR (Calls.mono h fun e w'' he => by
            cases e
            · exact hK _ _ he
            · exact False.elim he
            · exact absurd he noOut)⟩
        | exact ⟨(fun e => by cases e), rowsIn_wideR (Rows.mono h fun v w'' he => hK _ _ he)⟩
  | halt x w' =>
    cases x <;> simp only [Oper.upon, Oper.uponIn] at h ⊢ <;> first | exact False.elim h | exact h
theorem op_in {i : Nat} {a : Act} {w : World} {K K' : Act → World → Prop} (hd : calmB ops = true) (hK : ∀ a w, K a w → K' a w) (h : wpOp P ops (NoOut Q) i K a w) : wpOpIn (wideR ro) n P ops Q i K' a w := by
  unfold wpOp at h
  unfold wpOpIn
  split
  · rename_i ho; simp only [ho] at h; exact hK _ _ h
  · rename_i o ho
    simp only [ho] at h
    split
    · rename_i hw
      simp only [hw, if_true] at h
      rcases h with h | ⟨_, h⟩
      · exact oper_in (calm_spec hd ho) hK h
      · exact absurd h noOut
    · rename_i hw
      simp only [hw] at h
      exact ⟨fun f _ => trivial, hK _ _ h⟩
theorem ops_in (hd : calmB ops = true) : ∀ (l : List Nat) (a : Act) (w : World), wpOps P ops (NoOut Q) l a w → wpOpsIn (wideR ro) n P ops Q l a w
  | [], _, _, h => h
  | i :: l, a, w, h => by
    rw [wpOps_cons] at h
    rw [wpOpsIn_cons]
    exact op_in hd (ops_in hd l) h
theorem startIn_ {id m : Nat} {a : Act} {w : World} (l : Array Bool) (hm : P.follows .mixedOrders = true) (hd : calmB ops = true) (hn : ops.size = m) (hl : Array.replicate m false = l) (hS : S w.drew)
    (h : S w.drew → wpAnyLast P .any ops (NoOut Q) S ds m l a w.drew) : (Code.region id ops true).wpIn (wideR ro) n P Q a w := by
  subst hn
  subst hl
  refine wpIn_region_draw fun t => ops_in hd _ _ _ ?_
  simp only [Region.schedule, hm, Bool.true_or, if_true]
  exact wpAny_sound ops.size t _ a _ (wpAny_of_last _ _ _ _ (h hS))
theorem anyIn_of_seq {F : Fence} : ∀ (l : List Oper) (k : Nat) (listed : Array Bool) (a : Act) (w : World), (∀ j, l[j]? = ops[k + j]?) →
    Region.seqB md ops l.length k listed = true → wpListIn F n P ops Q l a w → wpAnyIn F n P md ops Q l.length listed a w
  | [], _, _, _, _, _, hB, h => ⟨by simpa [Region.seqB] using hB, h⟩
  | o :: l, k, listed, a, w, hl, hB, h => by
    have h0 : ops[k]? = some o := by simpa using (hl 0).symm
    simp only [List.length_cons, Region.seqB, Bool.and_eq_true, decide_eq_true_eq] at hB
    refine ⟨fun h1 => (by rw [hB.1] at h1; cases h1), fun i hi => ?_⟩
    rw [hB.1] at hi
    have hik : i = k := by simpa using hi
    subst hik
    have hw : wpOpIn F n P ops Q i (wpListIn F n P ops Q l) a w := by unfold wpOpIn; simp only [h0]; exact h
    exact wpOpIn_mono (fun a' w' h' => anyIn_of_seq l (i + 1) _ a' w' (fun j => by have := hl (j + 1); simpa [Nat.add_assoc, Nat.add_comm 1 j] using this) hB.2 h') hw
theorem headIn {C : World → Prop} {k g : Nat} {L : Array Bool → Act → Prop} (hd : calmB ops = true) (hL : ∀ done a w, C w → L done a → wpAnyIn (wideR ro) n P md ops Q g done a w) :
    ∀ (f : Nat) (done : Array Bool) (a : Act) (w : World), C w → Tail.Head P md ops C k L f done a → wpAnyIn (wideR ro) n P md ops Q (f + g) done a w := by
  intro f
  induction f with
  | zero => intro done a w hw h; rw [Nat.zero_add]; exact hL _ _ _ hw h
  | succ f ih =>
    intro done a w hw h
    obtain ⟨hne, hall⟩ := h
    rw [Nat.succ_add]
    refine ⟨fun h0 => absurd h0 hne, fun i hi => ?_⟩
    exact op_in hd (fun a' w' h' => ih _ a' w' h'.1 h'.2) (wpOp_of_qOp (Q' := NoOut Q) (K' := fun a' w' => C w' ∧ Tail.Head P md ops C k L f (done.setIfInBounds i true) a') hw (fun a' w' hw' h' => ⟨hw', h'⟩) (hall i hi).2)
theorem regionIn {id : Nat} {a : Act} {w : World} {l : List Oper} (k : Nat) (C : World → Prop) (hm : P.follows .mixedOrders = true) (hd : calmB l.toArray = true) (hB : Region.lexTailB .any l.toArray k = true) (hC : C w.drew)
    (h : wpQuiet P l.toArray C (fun a' => ∀ w', C w' → wpListIn (wideR ro) n P l.toArray Q (l.drop k) a' w') (l.take k) a) : (Code.region id l.toArray true).wpIn (wideR ro) n P Q a w := by
  simp only [Region.lexTailB, Bool.and_eq_true, decide_eq_true_eq] at hB
  obtain ⟨⟨⟨⟨hsel, hn⟩, hs⟩, hc⟩, hlex⟩ := hB
  have hn' : k < l.length := by simpa using hn
  have htl : (l.take k).length = k := by simp; omega
  have hdl : (l.drop k).length = l.toArray.size - k := by simp
  have inv0 : HeadInv .any l.toArray k (Array.replicate l.toArray.size false) :=
    ⟨by simp, fun j oj _ hl => (by rw [getD_replicate_false] at hl; cases hl), fun t _ ht => getD_in (by simpa using ht) (getD_replicate_false _ _)⟩
  have H := Tail.Head.lex (md := .any) (g := l.toArray.size - k) hsel hs hc hn (l.take k) 0 _ a (fun j hj => by
    have hj' : j < k := by rw [htl] at hj; exact hj
    simp [hj']) (by simpa using htl) inv0 (by rw [htl]; exact hlex) h
  refine wpIn_region_any hm ?_
  have := headIn (ro := ro) (n := n) (Q := Q) (g := l.toArray.size - k) hd (fun done a' w' hw' hL => by
    have := anyIn_of_seq (F := wideR ro) (n := n) (md := .any) (Q := Q) (l.drop k) k done a' w' (fun j => by simp [List.getElem?_drop]) (by rw [hdl]; exact hL.1) (hL.2 w' hw')
    rwa [hdl] at this) _ _ _ _ hC H
  rw [htl, show k + (l.toArray.size - k) = l.toArray.size by omega] at this
  exact this
end
end Go.Proofs.YtnkgjnmhiedfoaaGreat.Fen
