/- How a row's arguments are opened: a struct of four numbers, an array of two. Lemmas alone; no condition. -/
import Derived.WalkKit
import Derived.ProofKit
import Derived.OpenShut
import Derived.Lib.SmallJoins
import Derived.SizedLaws
namespace Go.Proofs.Ytdooeeklpinhfaa.Open
open Go Go.ChangeShapes Go.WideShapes Go.ChangeAt Go.RowKit Go.Deep Go.Joins

variable {H : Type} {enc : TypeId × Value → H} {P : Program} {w : World} {base : Nat} {spare : Nat → Bool} {held : Bool}

theorem agg4 {r : Reach} {b0 : Nat} {t e : TypeId} {n0 n1 n2 n3 : Field} {v : Value} {d : DataW H} {p : List MemPlace} (ht : P.underlying t = some (.struct #[n0, n1, n2, n3])) (he : P.underlying e = some (.int .i64)) (hC : P.cellsOf t = 4)
    (ho : oneCellFields P #[n0, n1, n2, n3] = true) (h0 : n0.type = e) (h1 : n1.type = e) (h2 : n2.type = e) (h3 : n3.type = e)
    (hv : Value.okWide P w r b0 t v) (h : DataW.Trod enc P w base spare held t v d p) :
    ∃ a b c f : Int, v = .agg #[.int .i64 a, .int .i64 b, .int .i64 c, .int .i64 f] ∧ (Lit.int .i64 a).wf = true ∧ (Lit.int .i64 b).wf = true ∧ (Lit.int .i64 c).wf = true ∧ (Lit.int .i64 f).wf = true := by
  obtain ⟨c0, c1, c2, c3, y0, y1, y2, y3, n, rfl, _, _, k0, k1, k2, k3⟩ := Joins.open_agg4 ht ho hC hv h
  rw [h0] at k0
  rw [h1] at k1
  rw [h2] at k2
  rw [h3] at k3
  obtain ⟨a, e0, _, w0⟩ := DataW.trod_int he k0
  obtain ⟨b, e1, _, w1⟩ := DataW.trod_int he k1
  obtain ⟨c, e2, _, w2⟩ := DataW.trod_int he k2
  obtain ⟨f, e3, _, w3⟩ := DataW.trod_int he k3
  simp at e0 e1 e2 e3
  subst e0 e1 e2 e3
  exact ⟨a, b, c, f, rfl, w0, w1, w2, w3⟩

theorem okWide_array {r : Reach} {b0 : Nat} {t e : TypeId} {n : Nat} {v : Value} (ht : P.underlying t = some (.array n e)) (h : Value.okWide P w r b0 t v) : ∃ cs, v = .agg cs ∧ cs.size = P.cellsOf t := by
  simp only [Value.okWide, ht] at h
  obtain ⟨cs, h1, h2, _⟩ := h
  exact ⟨cs, h1, h2⟩

theorem arr2 {r : Reach} {b0 : Nat} {t e : TypeId} {k : IntKind} {v : Value} {d : DataW H} {p : List MemPlace} (ht : P.underlying t = some (.array 2 e)) (he : P.underlying e = some (.int k)) (hc : P.cellsOf e = 1) (hC : P.cellsOf t = 2)
    (hv : Value.okWide P w r b0 t v) (h : DataW.Trod enc P w base spare held t v d p) : ∃ a b : Int, v = .agg #[.int k a, .int k b] ∧ (Lit.int k a).wf = true ∧ (Lit.int k b).wf = true := by
  obtain ⟨cs, rfl, hsz⟩ := okWide_array ht hv
  obtain ⟨c0, c1, rfl⟩ := Joins.array2 (hsz.trans hC)
  obtain ⟨fuel, hf⟩ := h
  obtain ⟨xs, m, _, _, _, hl, hx⟩ := DataW.trod_array ht hf
  have h0 := hx 0 (by omega)
  have h1 := hx 1 (by omega)
  rw [hc] at h0 h1
  simp [Value.cells] at h0 h1
  obtain ⟨x0, e0⟩ : ∃ x, xs[0]? = some x := ⟨_, List.getElem?_eq_getElem (by omega)⟩
  obtain ⟨x1, e1⟩ : ∃ x, xs[1]? = some x := ⟨_, List.getElem?_eq_getElem (by omega)⟩
  rw [e0] at h0
  rw [e1] at h1
  obtain ⟨a, ha, _, wa⟩ := DataW.trod_int he h0
  obtain ⟨b, hb, _, wb⟩ := DataW.trod_int he h1
  simp at ha hb
  subst ha hb
  exact ⟨a, b, rfl, wa, wb⟩
end Go.Proofs.Ytdooeeklpinhfaa.Open
