/- The law DiceStreams returns true. Conditions: the numbers are of their kinds. -/
import Derived.Test.YtoaagdmgoicboaaLaw02
import Derived.Maps.AppendAt
import Derived.OwnWalk
import Derived.Laws.OwnMore
import Derived.Laws.AppendOwnNone
namespace Go.Proofs.Ytoaagdmgoicboaa.Streams
open Go.RowKit Mix Times Ref02 Dice Law02
set_option maxRecDepth 100000
set_option linter.unusedVariables false
set_option linter.unusedSimpArgs false
/-- 'append(x, ys...)' where x is the call's own and ys may be read. -/
theorem append_nums {P : Program} {w : World} {ops : Array Oper} {rest : List Oper} {o : Oper} {a : Act} {Q : Exit → Act → World → Prop} (hgd : o.guard = none) (s x : Operand) (t : TypeId)
    (ho : o.op = .call { callee := .builtin .append, args := #[s, x], argTypes := #[t, t] })
    (base : Nat) (e : TypeId) (i : TypeInfo) (z : Value) (bytes : Nat) (ht : P.underlying t = some (.slice e)) (hi : P.info? e = some i) (hz : i.zero = some z)
    (hsize : i.size = 1) (hby : i.bytes = bytes) (hzs : z.cells.size = 1) (k : IntKind) (ys : List Int)
    (v : Value) (n : Nat) (xs : List Value) (hs : a.eval s = v) (hown : w.ownsRow base e 1 v n xs) (hx : Nums k w (a.eval x) ys)
    (h63 : n + ys.length ≤ maxLen) (hbytes : (n + ys.length) * bytes ≤ 140737488355328) (hbase : base ≤ w.heap.size)
    (h : ∀ v' w', w'.ownsRow base e 1 v' (n + ys.length) (xs ++ ys.map (Value.int k)) → w.grownBy w' v.ownBlock → wpList P ops Q rest (a.put o.dst v') w') : wpList P ops Q (o :: rest) a w := by
  obtain ⟨ad, len, cap, hxv, rfl, hl, hwf, hc, hcap⟩ := hx
  cases ad with
  | none =>
    obtain rfl := hcap rfl
    have h0 : ys = [] := by
      cases ys with
      | nil => rfl
      | cons y ys => obtain ⟨b, off, e, _⟩ := hc (by simp); cases e
    subst h0
    refine wpList_append_own_none hgd s x t ho base e i 1 ht hi v n xs hs hown hxv (h v w ?_ ⟨rfl, rfl, rfl, Nat.le_refl _, fun _ _ _ => rfl⟩)
    simpa using hown
  | some p =>
    refine wpList_append_own w hgd s x t ho base e i z 1 bytes ht hi hz hsize hby hzs (by decide) v n xs hs hown p ys.length cap (ys.map (Value.int k)) hxv (by simp) ?_ (by simp [Value.oneCell']) h63 hbytes hbase (fun v' w' h1 h2 _ => h v' w' h1 h2)
    intro j u hu
    rw [List.getElem?_map] at hu
    cases hy : ys[j]? with
    | none => rw [hy] at hu; cases hu
    | some y =>
      rw [hy] at hu
      obtain ⟨b, off, e, hc2⟩ := hc (by rintro rfl; simp at hy)
      cases e
      have := hc2 j y hy
      simp at hu
      rw [← hu]
      by_cases hj : j = 0
      · subst hj; simpa [Addr.add] using this
      · simpa [Addr.add, hj] using this

theorem ownsRow_block_le {w : World} {base e sz n b : Nat} {v : Value} {xs : List Value} (h : w.ownsRow base e sz v n xs) (hb : v.ownBlock = some b) : base ≤ b := by
  obtain ⟨_, ⟨rfl, _⟩ | ⟨g, cap, cur, rfl, hg, _⟩⟩ := h
  · simp [Value.ownBlock] at hb
  · simp [Value.ownBlock] at hb
    omega

theorem nums_of_owns {w : World} {base e n : Nat} {v : Value} {k : IntKind} {ys : List Int} (h : w.ownsRow base e 1 v n (ys.map (Value.int k))) (hwf : ∀ y ∈ ys, (Lit.int k y).wf = true) (hn : ys.length ≤ 9223372036854775807) : Nums k w v ys := by
  obtain ⟨hl, h⟩ := h
  simp at hl
  subst hl
  rcases h with ⟨rfl, h0⟩ | ⟨g, cap, cur, rfl, hg, hh, hnc, hcap, hsz, htake⟩
  · refine ⟨none, 0, 0, rfl, h0.symm, hn, hwf, fun h => absurd (List.eq_nil_of_length_eq_zero h0) h, fun _ => rfl⟩
  · refine ⟨_, _, cap, rfl, rfl, hn, hwf, fun _ => ⟨g, 0, rfl, fun j y hy => ?_⟩, fun h => by cases h⟩
    have hj : j < ys.length := (List.getElem?_eq_some_iff.1 hy).1
    have e1 : (cur.toList.take (ys.length * 1))[j]? = some (.int k y) := by
      rw [htake, List.getElem?_map, hy]; rfl
    rw [List.getElem?_take, if_pos (by omega)] at e1
    simp only [World.cell?, hh]
    simp at e1
    simpa using e1

theorem info22 : (Try.prog.info? 22).map (fun i => (i.zero, i.size, i.bytes)) = some (some (.int .u64 0), 1, 8) := by kernel_rfl

theorem many (s id : Int) (v : Value) (xs : List Int) (w : World) (h0 : 0 ≤ s) (h1 : s < 18446744073709551616) (g0 : 0 ≤ id) (g1 : id < 18446744073709551616) (hv : Nums .u64 w v xs) (hl : 100 < xs.length) :
    Calls Try.prog 5 #[.int .u64 s, v, .int .u64 id] w fun e w' => e = .returned (.bool true) ∧ Below w.heap.size w w' := by
  obtain ⟨a, len, cap, rfl, rfl, hlen, hwf, hc, hcap⟩ := hv
  clear hcap
  go_enter Try.func5, Try.ntmps5
  go_wp2_with fail
  refine (alive_any _).mono ?_
  rintro e w2 ⟨rfl, hb2⟩
  go_wp2
  go_ret
  exact ⟨by simp, hb2⟩

theorem few (s id : Int) (v : Value) (xs : List Int) (w : World) (h0 : 0 ≤ s) (h1 : s < 18446744073709551616) (g0 : 0 ≤ id) (g1 : id < 18446744073709551616) (hv : Nums .u64 w v xs) (hl : xs.length ≤ 100) :
    Calls Try.prog 5 #[.int .u64 s, v, .int .u64 id] w fun e w' => e = .returned (.bool true) ∧ Below w.heap.size w w' := by
  have hv0 := hv
  have hv' := Lib.hid hv
  obtain ⟨a, len, cap, rfl, rfl, hlen, hwf, hc, hcap⟩ := hv
  have hwf' := Lib.hid hwf
  clear hcap hc hwf hv0
  obtain ⟨i0, hi, hz0, hz1, hz2⟩ := info_parts info22
  go_enter Try.func5, Try.ntmps5
  have hown0 : (w.alloc (.cells #[] 22)).ownsRow w.heap.size 22 1 (.slice (some ⟨w.heap.size, 0, none⟩) 0 0) 0 [] := ⟨rfl, .inr ⟨w.heap.size, 0, #[], rfl, Nat.le_refl _, heap_alloc_new w _, Nat.le_refl _, by simp [maxLen], rfl, rfl⟩⟩
  have hB0 : Below w.heap.size w (w.alloc (.cells #[] 22)) := (Below.refl _ _).alloc (Nat.le_refl _) _
  go_wp2_with (first
    | (at_builtin; refine append_nums rfl _ _ 29 rfl w.heap.size 22 i0 (.int .u64 0) 8 Try.underlying29 hi hz0 hz1 hz2 rfl .u64 xs _ _ _ rfl hown0 (hv'.out.below hB0) (by unfold maxLen; omega) (by omega) (by simp) ?_; intro v1 w1 hown1 hgrow1; have hB1 := hB0.grown hgrow1 (by simp) (fun b e => ownsRow_block_le hown0 e); clear hown0 hB0 hgrow1)
    | (at_builtin; refine wpList_append_own _ rfl _ _ 29 rfl w.heap.size 22 i0 (.int .u64 0) 1 8 Try.underlying29 hi hz0 hz1 hz2 rfl (by decide) _ _ _ rfl (hown1.alloc _) ⟨w1.heap.size, 0, none⟩ 1 1 [.int .u64 id] rfl rfl (cell_one_new _ _ _) (by simp [Value.oneCell']) (by unfold maxLen; omega) (by omega) (by have := hB1.size; simp; omega) ?_; intro v2 w2 hown2 hgrow2 _; have hB2 := (hB1.alloc hB1.size (.cells #[.int .u64 id] 22)).grown hgrow2 (by have := hB1.size; simp; omega) (fun b e => ownsRow_block_le hown1 e); clear hown1 hgrow2))
  have hmore : Nums .u64 w2 v2 (xs ++ [id]) := nums_of_owns (by simpa using hown2) (fun y hy => by
    rcases List.mem_append.1 hy with h | h
    · exact hwf'.out y h
    · simp at h; subst h; simp [Lit.wf, IntKind.min, IntKind.max, IntKind.signed, IntKind.bits]; omega) (by simp; omega)
  have hm' := Lib.hid hmore
  have b0 := mixI_bd (stepI s)
  have b1 := streamI_bd xs (mixI (stepI s)) b0
  have b2 := stepI_bd id
  have b3 := mixI_bd (stepI id)
  have hsn := Lib.hid (streamI_snoc xs id (mixI (stepI s)))
  have hxor := xor_model (streamI (mixI (stepI s)) xs) (mixI (stepI id)) b1.1 b1.2 b3.1 b3.2
  have hxe := Lib.hid hxor.1
  have hx2 := hxor.2
  clear hmore hown2 hB1 hlen hl hxor
  refine (alive_any _).mono ?_
  rintro e w3 ⟨rfl, hb3⟩
  go_wp2_with fail
  refine (Dice.stream_any s _ xs _ h0 h1 (hv'.out.below (hB2.trans (hb3.mono hB2.size)))).mono ?_
  rintro e w4 ⟨rfl, hb4⟩
  have hc4 := hb3.trans (hb4.mono hb3.size)
  go_wp2_with fail
  refine (Ref02.stream_any s _ xs _ h0 h1 (hv'.out.below (hB2.trans (hc4.mono hB2.size)))).mono ?_
  rintro e w5 ⟨rfl, hb5⟩
  have hc5 := hc4.trans (hb5.mono hc4.size)
  clear hb3 hb4 hb5
  go_wp2_with fail
  refine (Dice.stream_any s _ (xs ++ [id]) _ h0 h1 (hm'.out.below hc5)).mono ?_
  rintro e w6 ⟨rfl, hb6⟩
  have hc6 := hc5.trans (hb6.mono hc5.size)
  go_wp2_with fail
  refine (Ref02.stream_any s _ xs _ h0 h1 (hv'.out.below (hB2.trans (hc6.mono hB2.size)))).mono ?_
  rintro e w7 ⟨rfl, hb7⟩
  have hc7 := hc6.trans (hb7.mono hc6.size)
  clear hb6 hb7 hc4 hc5 hc6
  go_wp2_with fail
  refine (Ref02.step_any id _ g0 g1).mono ?_
  rintro e w' ⟨rfl, rfl⟩
  go_wp2_with fail
  refine (Ref02.mix_any (stepI id) _ b2.1 b2.2).mono ?_
  rintro e w8 ⟨rfl, hb8⟩
  go_wp2_with fail
  rw [hxe.out]
  refine (Ref02.mix_any _ _ hx2.1 hx2.2).mono ?_
  rintro e w9 ⟨rfl, hb9⟩
  have hc9 := hc7.trans ((hb8.trans (hb9.mono hb8.size)).mono hc7.size)
  rw [← hsn.out]
  go_wp2
  go_ret
  exact ⟨by simp, hB2.trans (hc9.mono hB2.size)⟩
theorem all (s id : Int) (v : Value) (xs : List Int) (w : World) (h0 : 0 ≤ s) (h1 : s < 18446744073709551616) (g0 : 0 ≤ id) (g1 : id < 18446744073709551616) (hv : Nums .u64 w v xs) :
    Calls Try.prog 5 #[.int .u64 s, v, .int .u64 id] w fun e w' => e = .returned (.bool true) ∧ Below w.heap.size w w' := by
  by_cases h : 100 < xs.length
  · exact many s id v xs w h0 h1 g0 g1 hv h
  · exact few s id v xs w h0 h1 g0 g1 hv (by omega)
end Go.Proofs.Ytoaagdmgoicboaa.Streams
