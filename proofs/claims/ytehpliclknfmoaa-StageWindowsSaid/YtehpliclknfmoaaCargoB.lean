/- Cargo (chapter 07): what changes it. Conditions: the bytes are fewer than 2^46. -/
import Derived.Test.YtehpliclknfmoaaCargo
import Derived.RegionTactic
import Derived.Test.YtehpliclknfmoaaWEqStruct
namespace Go.Proofs.Ytehpliclknfmoaa.Cargo
open Go.RowKit Mem Tick
open Go.Proofs.YtehpliclknfmoaaW.PrintWords (QRow q_slice q_cells q_max q_append q_drop q_move q_typed q_lt q_of_own add_at)
set_option maxRecDepth 100000
set_option linter.unusedVariables false
set_option linter.unusedSimpArgs false

open Go.Proofs.YtehpliclknfmoaaW.PrintWords (eqA_of eqf_cons eqf_last)
theorem eq_piece (d : Nat) (w : World) (x0 y0 : Int) (x1 y1 : ByteArray) :
    (Op.equalIn (d + 2) 80 (.agg #[.int .i64 x0, .string x1]) (.agg #[.int .i64 y0, .string y1])).run Try.prog w = .ok (x0 == y0 && (x1.toList == y1.toList)) w := by
  refine eqA_of Try.underlying80 (by kernel_rfl) ?_
  refine eqf_cons (by rfl) (by go_simp; rfl) (by go_simp; rfl) (by go_simp) ?_
  exact eqf_last (by rfl) (by go_simp; rfl) (by go_simp; rfl) (by go_simp)
theorem eql_piece (w : World) (x0 y0 : Int) (x1 y1 : ByteArray) :
    (binOp .eql 80 (.agg #[.int .i64 x0, .string x1]) (.agg #[.int .i64 y0, .string y1])).run Try.prog w = .ok (.bool (x0 == y0 && (x1.toList == y1.toList))) w := by
  rw [run_eql_struct, eq_piece 9998]
  rfl
theorem eqguard_piece : Try.prog.eqGuardType Try.prog.depth 80 = false := by kernel_rfl
def joinedB (ps : List Pc) (t : Int) : Bool := match ps.getLast? with | none => false | some p => p.1 == t
theorem joined_nil {w : World} {k0 k1 k2 : Nat}
    (h2 : w.cell? ⟨k2, 0, none⟩ = some (.int .i64 (-1))) :
    Calls Try.prog 72 #[.pointer (some ⟨k2, 0, none⟩), .pointer (some ⟨k0, 0, none⟩), .pointer (some ⟨k1, 0, none⟩)] w fun e w' => e = .returned (.bool false) ∧ ∃ n, w' = w.drewN n := by
  go_enter Try.func72, Try.ntmps72
  have hd : decide ((0 : Int) ≤ -1) = false := by decide
  go_wp2
  go_quiet (fail)
  go_wp2
  go_ret
  exact ⟨rfl, _, rfl⟩
theorem joined_snoc {w : World} {F : Nat → Prop} {b : Nat} {ps : List Pc} {p : Pc} {last t : Int} {k0 k1 k2 : Nat} (h : CG w F b (ps ++ [p]) last)
    (h0 : w.cell? ⟨k0, 0, none⟩ = some (.pointer (some ⟨b, 0, none⟩))) (h1 : w.cell? ⟨k1, 0, none⟩ = some (.int .i64 t)) (h2 : w.cell? ⟨k2, 0, none⟩ = some (.int .i64 ps.length)) :
    Calls Try.prog 72 #[.pointer (some ⟨k2, 0, none⟩), .pointer (some ⟨k0, 0, none⟩), .pointer (some ⟨k1, 0, none⟩)] w fun e w' => e = .returned (.bool (p.1 == t)) ∧ ∃ n, w' = w.drewN n := by
  obtain ⟨A, cap, hb, hlc, hm, hA⟩ := h.view
  have c0 := hb.cell 0
  simp at c0
  obtain ⟨g, o, rfl, hc⟩ := hA (by simp)
  obtain ⟨d0, d1⟩ := hc ps.length p (by simp)
  clear hA hc hb h
  simp at hm hlc
  have hd : decide ((0 : Int) ≤ ps.length) = true := by simp
  have hi0 : (0 : Int) ≤ ps.length := by omega
  have hi1 : (ps.length : Int) < ps.length + 1 := by omega
  generalize ps.length = n at *
  have he := fun W => eql_piece W p.1 t ⟨#[]⟩ ⟨#[]⟩
  have hg := eqguard_piece
  go_enter Try.func72, Try.ntmps72
  go_wp2
  go_quiet (fail)
  go_wp2
  go_ret
  exact ⟨rfl, _, rfl⟩
theorem joined_any {w : World} {F : Nat → Prop} {b : Nat} {ps : List Pc} {last t : Int} {k0 k1 k2 : Nat} (h : CG w F b ps last)
    (h0 : w.cell? ⟨k0, 0, none⟩ = some (.pointer (some ⟨b, 0, none⟩))) (h1 : w.cell? ⟨k1, 0, none⟩ = some (.int .i64 t)) (h2 : w.cell? ⟨k2, 0, none⟩ = some (.int .i64 ((ps.length : Int) - 1))) :
    Calls Try.prog 72 #[.pointer (some ⟨k2, 0, none⟩), .pointer (some ⟨k0, 0, none⟩), .pointer (some ⟨k1, 0, none⟩)] w fun e w' => e = .returned (.bool (joinedB ps t)) ∧ ∃ n, w' = w.drewN n := by
  rcases List.eq_nil_or_concat ps with rfl | ⟨qs, p, rfl⟩
  · exact joined_nil h2
  · have e : (((qs.concat p).length : Int) - 1) = qs.length := by simp
    rw [e] at h2
    rw [List.concat_eq_append] at h ⊢
    have := joined_snoc h h0 h1 h2
    simpa [joinedB] using this
theorem step_q_append {P : Program} {w : World} {ops : Array Oper} {o : Oper} {a : Act} {K : Act → World → Prop} {Q : Exit → Act → World → Prop} {E : Prop} (hgd : o.guard = none) (s x : Operand) (t : TypeId)
    (ho : o.op = .call { callee := .builtin .append, args := #[s, x], argTypes := #[t, t] })
    (base : Nat) (e : TypeId) (i : TypeInfo) (z : Value) (size bytes : Nat) (ht : P.underlying t = some (.slice e)) (hi : P.info? e = some i) (hz : i.zero = some z)
    (hsize : i.size = size) (hby : i.bytes = bytes) (hzs : z.cells.size = size) (hsz : 0 < size)
    (v : Value) (n : Nat) (xs : List Value) (hs : a.eval s = v) (hown : QRow w base e size v n xs)
    (ad : Addr) (m c : Nat) (news : List Value) (hx : a.eval x = .slice (some ad) m c) (hl : news.length = m * size) (hnews : ∀ j u, news[j]? = some u → w.cell? (ad.add j) = some u) (h1 : ∀ u ∈ news, u.oneCell' = true)
    (hm : 0 < m) (h63 : n + m ≤ maxLen) (hbytes : (n + m) * bytes ≤ 140737488355328) (hbase : base ≤ w.heap.size)
    (h : ∀ g of cap w', QRow w' base e size (.slice (some ⟨g, of, none⟩) (n + m) cap) (n + m) (xs ++ news) → w.grownBy w' v.ownBlock → (v.ownBlock = some g ∨ w.heap.size ≤ g) → K (a.put o.dst (.slice (some ⟨g, of, none⟩) (n + m) cap)) w') :
    if Region.wanted o (yielded ops a.tmps) = true then Oper.wp P o a w K Q else E := by
  have hw : Region.wanted o (yielded ops a.tmps) = true := by simp [Region.wanted, hgd]
  rw [if_pos hw]
  obtain ⟨v', w', hr, hq, hg, hat⟩ := q_append (P := P) w base t o.type e i z size bytes ht hi hz hsize hby hzs hsz v n xs hown ad m c news hl hnews h1 hm h63 hbytes hbase
  obtain ⟨g, of, cap, rfl⟩ : ∃ g of cap, v' = .slice (some ⟨g, of, none⟩) (n + m) cap := by
    rcases hq.2 with ⟨h0, _⟩ | ⟨g, off, cap, cur, he, _⟩
    · omega
    · exact ⟨g, _, cap, he⟩
  unfold Oper.wp execOp
  simp only [ho, resolve, invoke, builtin, Sem.run_bind, Sem.run_pure, Result.andThen_ok, List.map_toArray, List.map_cons, List.map_nil, hs, hx, hr]
  refine h g of cap w' hq hg ?_
  rcases hat with hat | ⟨b, hb, hle⟩
  · exact .inl hat.symm
  · have : g = b := by simpa [Value.ownBlock] using hb
    exact .inr (this ▸ hle)
end Go.Proofs.Ytehpliclknfmoaa.Cargo
