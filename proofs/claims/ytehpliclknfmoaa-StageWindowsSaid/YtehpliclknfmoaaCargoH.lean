/- Cargo (chapter 07): List and Copy. Conditions: the bytes are fewer than 2^46. -/
import Derived.Test.YtehpliclknfmoaaCargoG
import Derived.WalkSpells
import Derived.Test.YtehpliclknfmoaaWLast
import Derived.Laws.AppendOwn
namespace Go.Proofs.Ytehpliclknfmoaa.Cargo
open Go.RowKit Mem Tick
open Go.Proofs.YtehpliclknfmoaaW.PrintWords (QRow q_slice q_cells q_max q_append q_drop q_move q_typed q_lt q_of_own add_at)
open Go.Proofs.YtehpliclknfmoaaW.PrintLast
set_option maxRecDepth 100000
set_option linter.unusedVariables false
set_option linter.unusedSimpArgs false

theorem wpList_q_append {P : Program} {w : World} {ops : Array Oper} {rest : List Oper} {o : Oper} {a : Act} {Q : Exit → Act → World → Prop} (hgd : o.guard = none) (s x : Operand) (t : TypeId)
    (ho : o.op = .call { callee := .builtin .append, args := #[s, x], argTypes := #[t, t] })
    (base : Nat) (e : TypeId) (i : TypeInfo) (z : Value) (size bytes : Nat) (ht : P.underlying t = some (.slice e)) (hi : P.info? e = some i) (hz : i.zero = some z)
    (hsize : i.size = size) (hby : i.bytes = bytes) (hzs : z.cells.size = size) (hsz : 0 < size)
    (v : Value) (n : Nat) (xs : List Value) (hs : a.eval s = v) (hown : QRow w base e size v n xs)
    (ad : Addr) (m c : Nat) (news : List Value) (hx : a.eval x = .slice (some ad) m c) (hl : news.length = m * size) (hnews : ∀ j u, news[j]? = some u → w.cell? (ad.add j) = some u) (h1 : ∀ u ∈ news, u.oneCell' = true)
    (hm : 0 < m) (h63 : n + m ≤ maxLen) (hbytes : (n + m) * bytes ≤ 140737488355328) (hbase : base ≤ w.heap.size)
    (h : ∀ g of cap w', QRow w' base e size (.slice (some ⟨g, of, none⟩) (n + m) cap) (n + m) (xs ++ news) → w.grownBy w' v.ownBlock → (v.ownBlock = some g ∨ w.heap.size ≤ g) → wpList P ops Q rest (a.put o.dst (.slice (some ⟨g, of, none⟩) (n + m) cap)) w') :
    wpList P ops Q (o :: rest) a w := by
  refine wpList_plain hgd fun K hK => ?_
  have hw : Region.wanted o (yielded ops a.tmps) = true := by simp [Region.wanted, hgd]
  have := step_q_append (ops := ops) (E := True) (K := K) (Q := Q) hgd s x t ho base e i z size bytes ht hi hz hsize hby hzs hsz v n xs hs hown ad m c news hx hl hnews h1 hm h63 hbytes hbase (fun g of cap w' h1 h2 h3 => hK _ _ (h g of cap w' h1 h2 h3))
  rwa [if_pos hw] at this
theorem cells_one : ∀ (ps : List Pc), ∀ u ∈ cells ps, u.oneCell' = true
  | [], u, h => by simp [cells] at h
  | p :: r, u, h => by
    simp [cells] at h
    rcases h with rfl | rfl | h
    · rfl
    · rfl
    · exact cells_one r u h
/-- a row of pieces of the call's own, and new. -/
def Fresh (w w' : World) (v : Value) (ps : List Pc) : Prop := QRow w' 0 80 2 v ps.length (cells ps) ∧ (∀ k, v.ownBlock = some k → w.heap.size ≤ k) ∧ Below w.heap.size w w'
end Go.Proofs.Ytehpliclknfmoaa.Cargo
