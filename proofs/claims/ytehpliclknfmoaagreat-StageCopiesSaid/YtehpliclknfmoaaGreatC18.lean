/- How a row's arguments are opened: flat data (numbers, bools, texts, in structs and arrays), and slices of such. Lemmas alone; no condition. -/
import Derived.WalkKit
import Derived.ProofKit
import Derived.OpenShut
import Derived.Lib.SmallJoins
import Derived.SizedLaws
import Derived.Test.YtehpliclknfmoaaGreatProg
namespace Go.Proofs.YtehpliclknfmoaaGreat.Flat
open Go Go.ChangeShapes Go.WideShapes Go.ChangeAt Go.RowKit
set_option linter.unusedVariables false
set_option linter.unusedSimpArgs false

inductive Leaf where
  | int (k : IntKind)
  | bool
  | str
def Leaf.ok (B : Nat) : Leaf → Value → Prop
  | .int k, v => ∃ n, v = .int k n ∧ (Lit.int k n).wf = true
  | .bool, v => ∃ b, v = .bool b
  | .str, v => ∃ s : ByteArray, v = .string s ∧ s.size ≤ B
def Oks (B : Nat) : List Leaf → List Value → Prop
  | [], [] => True
  | l :: ls, v :: vs => l.ok B v ∧ Oks B ls vs
  | _, _ => False
theorem Oks.append {B : Nat} : ∀ {ls : List Leaf} {vs : List Value} {ls' : List Leaf} {vs' : List Value}, Oks B ls vs → Oks B ls' vs' → Oks B (ls ++ ls') (vs ++ vs')
  | [], [], _, _, _, h => h
  | _ :: _, _ :: _, _, _, h, h' => ⟨h.1, Oks.append h.2 h'⟩
  | [], _ :: _, _, _, h, _ => h.elim
  | _ :: _, [], _, _, h, _ => h.elim
theorem Oks.nil {B : Nat} {vs : List Value} (h : Oks B [] vs) : vs = [] := by cases vs with | nil => rfl | cons => exact h.elim
theorem Oks.int {B : Nat} {k : IntKind} {ls : List Leaf} {vs : List Value} (h : Oks B (.int k :: ls) vs) : ∃ n r, vs = .int k n :: r ∧ (Lit.int k n).wf = true ∧ Oks B ls r := by
  cases vs with
  | nil => exact h.elim
  | cons v r => obtain ⟨⟨n, rfl, hw⟩, h2⟩ := h; exact ⟨n, r, rfl, hw, h2⟩
theorem Oks.bool {B : Nat} {ls : List Leaf} {vs : List Value} (h : Oks B (.bool :: ls) vs) : ∃ b r, vs = .bool b :: r ∧ Oks B ls r := by
  cases vs with
  | nil => exact h.elim
  | cons v r => obtain ⟨⟨n, rfl⟩, h2⟩ := h; exact ⟨n, r, rfl, h2⟩
theorem Oks.str {B : Nat} {ls : List Leaf} {vs : List Value} (h : Oks B (.str :: ls) vs) : ∃ (s : ByteArray) (r : List Value), vs = .string s :: r ∧ s.size ≤ B ∧ Oks B ls r := by
  cases vs with
  | nil => exact h.elim
  | cons v r => obtain ⟨⟨n, rfl, hw⟩, h2⟩ := h; exact ⟨n, r, rfl, hw, h2⟩
def fieldLeaves (g : TypeId → Option (List Leaf)) : List Field → Option (List Leaf)
  | [] => some []
  | f :: r => match g f.type, fieldLeaves g r with
    | some a, some b => some (a ++ b)
    | _, _ => none
def ends (P : Program) : Nat → List Field → Option Nat
  | o, [] => some o
  | o, f :: r => if f.offset = o then ends P (o + P.cellsOf f.type) r else none
def rep (ls : List Leaf) : Nat → List Leaf
  | 0 => []
  | n + 1 => rep ls n ++ ls
def leaves (P : Program) : Nat → TypeId → Option (List Leaf)
  | 0, _ => none
  | n + 1, t => match P.underlying t with
    | some (.int k) => some [.int k]
    | some .bool => some [.bool]
    | some .string => some [.str]
    | some (.struct fs) => if ends P 0 fs.toList = some (P.cellsOf t) then fieldLeaves (leaves P n) fs.toList else none
    | some (.array m e) => if m * P.cellsOf e = P.cellsOf t then (leaves P n e).map (rep · m) else none
    | _ => none
theorem ends_le {P : Program} : ∀ {fs : List Field} {o e : Nat}, ends P o fs = some e → o ≤ e
  | [], o, e, h => by simp [ends] at h; omega
  | f :: r, o, e, h => by
    unfold ends at h
    split at h
    · have := ends_le h; omega
    · cases h
theorem seg {P : Program} {B : Nat} {cs : List Value} {g : TypeId → Option (List Leaf)} : ∀ {fs : List Field} {ls : List Leaf} {o e : Nat}, ends P o fs = some e → fieldLeaves g fs = some ls →
    (∀ (i : Nat) (f : Field), fs[i]? = some f → ∀ (l : List Leaf), g f.type = some l → Oks B l ((cs.drop f.offset).take (P.cellsOf f.type))) → Oks B ls ((cs.drop o).take (e - o))
  | [], ls, o, e, h, hl, hf => by
    simp [ends] at h
    simp [fieldLeaves] at hl
    subst h hl
    rw [Nat.sub_self, List.take_zero]
    trivial
  | f :: r, ls, o, e, h, hl, hf => by
    unfold ends at h
    split at h
    · rename_i ho
      unfold fieldLeaves at hl
      split at hl
      · rename_i a b ha hb
        injection hl with hl
        subst hl
        have hle := ends_le h
        have h1 := hf 0 f rfl a ha
        have h2 := seg (B := B) (cs := cs) h hb (fun i f' hi l hl' => hf (i + 1) f' (by simpa using hi) l hl')
        rw [ho] at h1
        rw [show e - o = P.cellsOf f.type + (e - (o + P.cellsOf f.type)) by omega, List.take_add, List.drop_drop]
        exact h1.append h2
      · cases hl
    · cases h
theorem weights_all {H : Type} {P : Program} {e : TypeId} : ∀ {l : List (DataW H)} {i : Nat} {d : DataW H}, l[i]? = some d → ∀ n ∈ d.weights P e, n ∈ DataW.weightsAll P e l
  | x :: l, 0, d, h, n, hn => by
    simp at h
    subst h
    simp only [DataW.weightsAll, List.mem_append]
    exact .inl hn
  | x :: l, i + 1, d, h, n, hn => by
    simp only [DataW.weightsAll, List.mem_append]
    exact .inr (weights_all (by simpa using h) n hn)
  | [], i, d, h, n, hn => by simp at h
section
variable {H : Type} {enc : TypeId × Value → H} {P : Program} {w : World} {base : Nat} {spare : Nat → Bool} {held : Bool}
theorem flat (B : Nat) : ∀ (n : Nat) (t : TypeId) (ls : List Leaf), leaves P n t = some ls → ∀ (fuel : Nat) (cs : List Value) (x : DataW H × List MemPlace), DataW.trod enc P w base spare held fuel t cs = some x → (∀ m ∈ x.1.weights P t, m ≤ B) → Oks B ls cs := by
  intro n
  induction n with
  | zero => intro t ls h; simp [leaves] at h
  | succ n ih =>
    intro t ls h fuel cs x hx hw
    unfold leaves at h
    split at h
    · rename_i k ht
      injection h with h
      subst h
      obtain ⟨a, rfl, _, wf⟩ := DataW.trod_int ht hx
      exact ⟨⟨a, rfl, wf⟩, trivial⟩
    · rename_i ht
      injection h with h
      subst h
      obtain ⟨a, rfl, _⟩ := DataW.trod_bool ht hx
      exact ⟨⟨a, rfl⟩, trivial⟩
    · rename_i ht
      injection h with h
      subst h
      obtain ⟨a, rfl, rfl, _⟩ := DataW.trod_string ht hx
      exact ⟨⟨a, rfl, by simpa using hw a.data.toList.length (by simp [DataW.weights])⟩, trivial⟩
    · rename_i fs ht
      split at h
      · rename_i he
        obtain ⟨xs, m, _, rfl, hl, hlen, hf⟩ := DataW.trod_struct ht hx
        have := seg (B := B) (cs := cs) he h (fun i f hi l hl' => by
          have h1 := hf i f (by simpa using hi)
          have hil : i < xs.length := by
            have := (List.getElem?_eq_some_iff.1 hi).1
            simp at this
            omega
          have h2 : xs[i]? = some xs[i] := List.getElem?_eq_getElem hil
          rw [h2] at h1
          refine ih f.type l hl' m _ _ h1 (fun q hq => hw q ?_)
          simp only [DataW.weights, ht]
          exact DataW.weights_mem_each (j := i) (t := f.type) (d := xs[i].1) (by rw [List.getElem?_map, hi]; rfl) (by rw [List.getElem?_map, h2]; rfl) q hq)
        rw [Nat.sub_zero, List.drop_zero, ← hl, List.take_length] at this
        exact this
      · cases h
    · rename_i m e ht
      split at h
      · rename_i he
        obtain ⟨l, hl1, rfl⟩ := Option.map_eq_some_iff.1 h
        obtain ⟨xs, q, _, rfl, hl, hlen, hf⟩ := DataW.trod_array ht hx
        have key : ∀ i, i ≤ m → Oks B (rep l i) (cs.take (i * P.cellsOf e)) := by
          intro i
          induction i with
          | zero => intro _; rw [Nat.zero_mul, List.take_zero]; trivial
          | succ i ihi =>
            intro hi
            have h1 := hf i (by omega)
            have h2 : xs[i]? = some xs[i] := List.getElem?_eq_getElem (by omega)
            rw [h2] at h1
            have h3 := ih e l hl1 q _ _ h1 (fun z hz => hw z (by
              simp only [DataW.weights, ht]
              exact weights_all (i := i) (d := xs[i].1) (by rw [List.getElem?_map, h2]; rfl) z hz))
            rw [show (i + 1) * P.cellsOf e = i * P.cellsOf e + P.cellsOf e by rw [Nat.add_mul, Nat.one_mul], List.take_add]
            exact (ihi (by omega)).append h3
        have := key m (Nat.le_refl _)
        rw [he, ← hl, List.take_length] at this
        exact this
      · cases h
    · cases h
def Rows (w : World) (R : List Value → Prop) (m : Nat) (v : Value) (n : Nat) : Prop :=
  ∃ a cap, v = .slice a n cap ∧ n ≤ 9223372036854775807 ∧
    (0 < n → ∃ b o, a = some ⟨b, o, none⟩ ∧ ∀ i, i < n → ∃ cs : List Value, cs.length = m ∧ R cs ∧ ∀ j v, cs[j]? = some v → w.cell? ⟨b, o + i * m + j, none⟩ = some v)
theorem rows (B : Nat) {t e : TypeId} {k : Nat} {ls : List Leaf} {m : Nat} (ht : P.underlying t = some (.slice e)) (hl : leaves P k e = some ls) (hc : P.cellsOf e = m) (hm : 0 < m) {fuel : Nat} {cs : List Value} {x : DataW H × List MemPlace}
    (hx : DataW.trod enc P w 0 spare held fuel t cs = some x) (hw : ∀ q ∈ x.1.weights P t, q ≤ B) : ∃ v n, cs = [v] ∧ Rows w (Oks B ls) m v n := by
  rcases DataW.trod_slice ht hx with ⟨rfl, _⟩ | ⟨ad, len, cap, elems, rest, q, _, rfl, rfl, _, hle, hcap, hel, hxs, _⟩
  · exact ⟨_, 0, rfl, none, 0, rfl, by decide, fun h => absurd h (by decide)⟩
  · unfold maxLen at hcap
    refine ⟨_, len, rfl, some ad, cap, rfl, by omega, fun h0 => ?_⟩
    have hadd : ∀ (ad : Addr) (o k : Nat), (⟨ad.block, o, none⟩ : Addr).add k = ⟨ad.block, o + k, none⟩ := by
      intro ad o k
      unfold Addr.add
      split
      · rename_i h; first | (subst h; rfl) | (rw [h]; rfl) | (cases h; rfl)
      · rfl
    have key : ∀ i, i < len → ∃ cs : List Value, cs.length = m ∧ Oks B ls cs ∧ ∀ j v, cs[j]? = some v → w.cell? ((ad.add (i * m)).add j) = some v := by
      intro i hi
      have g1 := hxs i hi
      rw [hc] at g1
      obtain ⟨y, hy⟩ : ∃ y, elems[i]? = some y := ⟨_, List.getElem?_eq_getElem (by omega)⟩
      rw [hy] at g1
      obtain ⟨cs, g2, g3⟩ := Option.bind_eq_some_iff.1 g1
      obtain ⟨_, hlm, hat⟩ := World.cells?_some g2
      refine ⟨cs, hlm, flat B k e ls hl q cs y g3 (fun z hz => hw z ?_), fun j v hv => ?_⟩
      · simp only [DataW.weights, ht, List.mem_cons, List.mem_append]
        exact .inr (.inl (weights_all (i := i) (d := y.1) (by rw [List.getElem?_map, hy]; rfl) z hz))
      · have := hat j (by have := (List.getElem?_eq_some_iff.1 hv).1; omega)
        rw [this, hv]
    have hsp : ad = ⟨ad.block, ad.off, none⟩ := by
      obtain ⟨cs, h1, _, h3⟩ := key 0 h0
      obtain ⟨v, hv⟩ : ∃ v, cs[0]? = some v := ⟨_, List.getElem?_eq_getElem (by omega)⟩
      have g1 := h3 0 v hv
      obtain ⟨b, o, sp⟩ := ad
      cases sp with
      | none => rfl
      | some z =>
        simp [Addr.add, World.cell?] at g1
        split at g1 <;> simp_all
    refine ⟨ad.block, ad.off, by rw [← hsp], fun i hi => ?_⟩
    obtain ⟨cs, h1, h2, h3⟩ := key i hi
    refine ⟨cs, h1, h2, fun j v hv => ?_⟩
    have := h3 j v hv
    rw [hsp, hadd ad, hadd ⟨ad.block, ad.off + i * m, none⟩] at this
    exact this
theorem Rows.list {α : Type} [Inhabited α] {R : List Value → Prop} {m : Nat} {v : Value} {n : Nat} (f : α → List Value) (hf : ∀ cs, R cs → ∃ x, cs = f x) (h : Rows w R m v n) :
    ∃ xs : List α, ∃ a cap, v = .slice a xs.length cap ∧ xs.length ≤ 9223372036854775807 ∧ (∀ x ∈ xs, R (f x)) ∧
      (xs ≠ [] → ∃ b o, a = some ⟨b, o, none⟩ ∧ ∀ j x, xs[j]? = some x → ∀ i u, (f x)[i]? = some u → w.cell? ⟨b, o + j * m + i, none⟩ = some u) := by
  obtain ⟨a, cap, rfl, hn, hc⟩ := h
  rcases Nat.eq_zero_or_pos n with h0 | h0
  · subst h0
    exact ⟨[], a, cap, rfl, Nat.zero_le _, fun x hx => by simp at hx, fun h => absurd rfl h⟩
  · obtain ⟨b, o, rfl, hk⟩ := hc h0
    have key : ∀ i, i < n → ∃ x : α, R (f x) ∧ ∀ j u, (f x)[j]? = some u → w.cell? ⟨b, o + i * m + j, none⟩ = some u := by
      intro i hi
      obtain ⟨cs, h1, h2, h3⟩ := hk i hi
      obtain ⟨x, rfl⟩ := hf cs h2
      exact ⟨x, h2, h3⟩
    refine ⟨(List.range n).map fun i => if hi : i < n then (key i hi).choose else default, _, cap, by simp, by simp; omega, ?_, fun _ => ⟨b, o, rfl, ?_⟩⟩
    · intro x hx
      obtain ⟨i, hi, rfl⟩ := List.mem_map.1 hx
      have hi' := List.mem_range.1 hi
      rw [dif_pos hi']
      exact (key i hi').choose_spec.1
    · intro j x hx
      obtain ⟨hj, hx2⟩ := List.getElem?_eq_some_iff.1 hx
      have hj2 : j < n := by simpa using hj
      simp only [List.getElem_map, List.getElem_range, dif_pos hj2] at hx2
      rw [← hx2]
      exact (key j hj2).choose_spec.2
end
end Go.Proofs.YtehpliclknfmoaaGreat.Flat
