/- alive (chapter 07). Conditions: none. -/
import Derived.Test.YtehpliclknfmoaaGreatC15
import Derived.Lib.SlBytesConst
import Derived.Test.YtehpliclknfmoaaGreatC4
import Derived.Maps.AppendAt
import Derived.Deep.AppendLies
import Derived.Laws.AppendOwn
namespace Go.Proofs.YtehpliclknfmoaaGreat.Cargo
open Go.RowKit Mem Tick
open Go.Proofs.YtehpliclknfmoaaGreatW.PrintWords (QRow q_slice q_cells q_max q_append q_drop q_move q_typed q_lt q_of_own add_at cut_from)
set_option maxRecDepth 100000
set_option linter.unusedVariables false
set_option linter.unusedSimpArgs false
theorem bs_const (w : World) (C : Array Value) (fr : Nat × Nat) (s : ByteArray) (hC : ∀ i (h : i < s.size), C[i]? = some (.int .u8 (s[i].toNat : Int))) : BS (w.alloc (.cells C 5 fr)) (some ⟨w.heap.size, 0, none⟩) s := by
  intro hs
  refine ⟨_, 0, rfl, fun i hi => ?_⟩
  have hb : (w.alloc (.cells C 5 fr)).heap[w.heap.size]? = some (.cells C 5 fr) := heap_alloc_new w _
  rw [cell_of_row _ _ _ _ _ _ hb, Nat.zero_add]
  exact hC i hi
def sAB : ByteArray := ⟨#[97, 98]⟩
def sC : ByteArray := ⟨#[99]⟩
def sABC : ByteArray := ⟨#[97, 98, 99]⟩
theorem alive_e1 : putAt 0 5 = 5 ∧ putAt 5 3 = 5 := by decide
theorem alive_e2 : addP [] 5 sAB = [(5, sAB)] ∧ addP [(5, sAB)] 5 sC = [(5, sABC)] := by
  have h1 : sAB.toList.isEmpty = false := isEmpty_false (by decide)
  have h2 : sC.toList.isEmpty = false := isEmpty_false (by decide)
  constructor
  · unfold addP; rw [if_neg (by rw [h1]; decide)]; rfl
  · unfold addP; rw [if_neg (by rw [h2]; decide)]; rfl
theorem alive_e5 : putLast 0 5 sAB = 5 ∧ putLast 5 3 sC = 5 := by
  have h1 : sAB.toList.isEmpty = false := isEmpty_false (by decide)
  have h2 : sC.toList.isEmpty = false := isEmpty_false (by decide)
  constructor
  · unfold putLast; rw [h1]; rfl
  · unfold putLast; rw [h2]; rfl
theorem sAB_of (w : World) : BS (w.alloc (.cells #[.int .u8 97, .int .u8 98] 5 (2, 3))) (some ⟨w.heap.size, 0, none⟩) sAB :=
  bs_const w _ _ _ fun i hi => by
    match i, hi with
    | 0, _ => rfl
    | 1, _ => rfl
end Go.Proofs.YtehpliclknfmoaaGreat.Cargo
namespace Go.Proofs.YtehpliclknfmoaaGreat.Cargo
open Go.RowKit Mem Tick
set_option linter.unusedVariables false
set_option linter.unusedSimpArgs false
def stp (x : St) (o : Op4) : St := (doesP o.1 o.2.1 o.2.2.1 o.2.2.2 x).2
theorem Full.nil : Full [] := fun p h => by simp at h
theorem Full.tail {p : Pc} {r : List Pc} (h : Full (p :: r)) : Full r := fun q hq => h q (List.mem_cons_of_mem _ hq)
theorem Full.join : ∀ {ps : List Pc} (s : ByteArray), Full ps → Full (joinP ps s)
  | [], s, h => h
  | [p], s, h => fun q hq => by
    have := h p (List.mem_cons_self ..)
    simp [joinP] at hq
    subst hq
    show 0 < (p.2 ++ s).size
    rw [ByteArray.size_append]; omega
  | p :: q :: r, s, h => fun x hx => by
    rw [joinP] at hx
    rcases List.mem_cons.1 hx with rfl | hx
    · exact h x (List.mem_cons_self ..)
    · exact Full.join (ps := q :: r) s h.tail x hx
theorem Full.add {ps : List Pc} (t : Int) (s : ByteArray) (h : Full ps) : Full (addP ps t s) := by
  unfold addP
  split
  · exact h
  · split
    · exact h.join s
    · rename_i h1 _
      intro q hq
      rcases List.mem_append.1 hq with hq | hq
      · exact h q hq
      · simp at hq
        subst hq
        rw [isEmpty_size] at h1
        have : ¬ s.size = 0 := by simpa using h1
        show 0 < s.size
        omega
theorem Full.take : ∀ (n : Nat) {ps : List Pc}, Full ps → Full (takeP n ps).2
  | n, [], h => by simpa [takeP] using h
  | n, p :: r, h => by
    unfold takeP
    split
    · exact h
    · split
      · intro q hq
        rcases List.mem_cons.1 hq with rfl | hq
        · show 0 < (p.2.extract n p.2.size).size
          rw [ByteArray.size_extract]; omega
        · exact h q (List.mem_cons_of_mem _ hq)
      · exact Full.take _ h.tail
theorem Full.hur {t : Int} {ps : List Pc} (h : Full ps) : Full (hur t ps) := by
  have key : ∀ (ps acc : List Pc), Full acc → Full (ps.foldl (hurF t) acc) := by
    intro ps
    induction ps with
    | nil => intro acc h; exact h
    | cons p r ih => intro acc h; exact ih _ (h.add _ _)
  exact key ps [] Full.nil
theorem Full.stp {x : St} (o : Op4) (h : Full x.1) : Full (stp x o).1 := by
  unfold Cargo.stp doesP
  split
  · exact h.add _ _
  · split
    · exact h.take _
    · split
      · exact h.hur
      · split
        · exact Full.nil
        · exact h
theorem len_tot {ps : List Pc} (h : Full ps) : ps.length ≤ tot ps := by
  induction ps with
  | nil => simp [tot]
  | cons p r ih =>
    have := ih h.tail
    have := h p (List.mem_cons_self ..)
    simp only [tot, List.length_cons]; omega
theorem app_nil (s : ByteArray) : s ++ ⟨#[]⟩ = s := ByteArray.append_empty
theorem nil_app (s : ByteArray) : ⟨#[]⟩ ++ s = s := ByteArray.empty_append
theorem cat_join : ∀ (ps : List Pc) (s : ByteArray), ps ≠ [] → cat (joinP ps s) = cat ps ++ s
  | [], s, h => absurd rfl h
  | [p], s, _ => by simp only [joinP, cat]; rw [app_nil, app_nil]
  | p :: q :: r, s, _ => by
    rw [joinP, cat, cat, cat_join (q :: r) s (by simp), ByteArray.append_assoc]
theorem cat_add (ps : List Pc) (t : Int) (s : ByteArray) : cat (addP ps t s) = cat ps ++ s := by
  unfold addP
  split
  · rename_i h
    rw [isEmpty_size] at h
    have : s = ⟨#[]⟩ := empty_of (by have : s.size = 0 := by simpa using h
                                     omega)
    rw [this, app_nil]
  · split
    · rename_i h
      refine cat_join ps s ?_
      rintro rfl
      simp [joinedB] at h
    · rw [cat_append]
      show _ ++ (s ++ ⟨#[]⟩) = _
      rw [app_nil]
theorem ext_split (s : ByteArray) (n : Nat) (h : n ≤ s.size) : s.extract 0 n ++ s.extract n s.size = s := by
  rw [ByteArray.extract_append_extract]
  have h1 : min 0 n = 0 := by omega
  have h2 : max n s.size = s.size := by omega
  rw [h1, h2, ByteArray.extract_zero_size]
theorem cat_takeP : ∀ (n : Nat) (ps : List Pc), (takeP n ps).1 ++ cat (takeP n ps).2 = cat ps
  | n, [] => by simp only [takeP, cat]; exact nil_app _
  | n, p :: r => by
    unfold takeP
    split
    · exact nil_app _
    · split
      · rename_i h
        simp only [cat]
        rw [← ByteArray.append_assoc, ext_split _ _ (by omega)]
      · rw [ByteArray.append_assoc, cat_takeP, cat]
end Go.Proofs.YtehpliclknfmoaaGreat.Cargo
namespace Go.Proofs.YtehpliclknfmoaaGreat.Cargo
open Go.RowKit Mem Tick
set_option linter.unusedVariables false
set_option linter.unusedSimpArgs false
def ats (ps : List Pc) : List Int := ps.map (·.1)
def Good (x : St) : Prop := Full x.1 ∧ (ats x.1).Pairwise (· < ·) ∧ ∀ a ∈ ats x.1, a ≤ x.2
theorem ats_join : ∀ (ps : List Pc) (s : ByteArray), ats (joinP ps s) = ats ps
  | [], s => rfl
  | [p], s => rfl
  | p :: q :: r, s => by
    have := ats_join (q :: r) s
    rw [joinP]
    simp only [ats, List.map_cons] at this ⊢
    rw [this]
theorem asc_add {ps : List Pc} {t : Int} (s : ByteArray) (h : (ats ps).Pairwise (· < ·)) (hl : ∀ a ∈ ats ps, a ≤ t) : (ats (addP ps t s)).Pairwise (· < ·) ∧ ∀ a ∈ ats (addP ps t s), a ≤ t := by
  unfold addP
  split
  · exact ⟨h, hl⟩
  · split
    · rw [ats_join]; exact ⟨h, hl⟩
    · rename_i _ hj
      have hlt : ∀ a ∈ ats ps, a < t := by
        intro a ha
        rcases List.eq_nil_or_concat ps with rfl | ⟨qs, q, rfl⟩
        · simp [ats] at ha
        · rw [List.concat_eq_append] at *
          have hq : q.1 ≠ t := by simpa [joinedB] using hj
          have hqt : q.1 ≤ t := hl _ (by simp [ats])
          simp only [ats, List.map_append, List.map_cons, List.map_nil] at h ha
          rcases List.mem_append.1 ha with ha | ha
          · have := (List.pairwise_append.1 h).2.2 a ha q.1 (by simp)
            omega
          · simp at ha; omega
      constructor
      · simp only [ats, List.map_append, List.map_cons, List.map_nil]
        exact List.pairwise_append.2 ⟨h, by simp, fun a ha b hb => by simp at hb; subst hb; exact hlt a ha⟩
      · intro a ha
        simp only [ats, List.map_append, List.map_cons, List.map_nil] at ha
        rcases List.mem_append.1 ha with ha | ha
        · exact hl a ha
        · simp at ha; omega
theorem ats_take : ∀ (n : Nat) (ps : List Pc), (ats (takeP n ps).2).Sublist (ats ps)
  | n, [] => by simp [takeP, ats]
  | n, p :: r => by
    unfold takeP
    split
    · exact List.Sublist.refl _
    · split
      · exact List.Sublist.refl _
      · exact (ats_take (n - p.2.size) r).cons _
theorem asc_hur {t last : Int} : ∀ (ps acc : List Pc), (ats ps).Pairwise (· < ·) → (∀ a ∈ ats ps, a ≤ last) → (ats acc).Pairwise (· < ·) → (∀ a ∈ ats acc, a ≤ min last t ∧ ∀ p ∈ ats ps, a ≤ min p t) →
    (ats (ps.foldl (hurF t) acc)).Pairwise (· < ·) ∧ ∀ a ∈ ats (ps.foldl (hurF t) acc), a ≤ min last t
  | [], acc, _, _, h3, h4 => ⟨h3, fun a ha => (h4 a ha).1⟩
  | p :: r, acc, h1, h2, h3, h4 => by
    simp only [ats, List.map_cons] at h1 h2
    obtain ⟨h1a, h1b⟩ := List.pairwise_cons.1 h1
    have hp := h2 p.1 (List.mem_cons_self ..)
    obtain ⟨g1, g2⟩ := asc_add (t := min p.1 t) p.2 h3 fun a ha => (h4 a ha).2 p.1 (by simp [ats])
    rw [List.foldl_cons]
    refine asc_hur r (hurF t acc p) h1b (fun a ha => h2 a (List.mem_cons_of_mem _ ha)) g1 fun a ha => ?_
    have := g2 a ha
    refine ⟨by omega, fun q hq => ?_⟩
    have := h1a q hq
    omega
theorem Good.stp {x : St} (o : Op4) (h : Good x) : Good (stp x o) := by
  have hf := h.1.stp o
  obtain ⟨-, h1, h2⟩ := h
  refine ⟨hf, ?_⟩
  unfold Cargo.stp doesP
  split
  · have hp : ∀ a ∈ ats x.1, a ≤ putAt x.2 o.2.1 := fun a ha => by have := h2 a ha; unfold putAt; omega
    obtain ⟨g1, g2⟩ := asc_add o.2.2.2 h1 hp
    refine ⟨g1, fun a ha => ?_⟩
    unfold putLast
    split
    · rename_i he
      unfold addP at ha
      rw [if_pos he] at ha
      exact h2 a ha
    · exact g2 a ha
  · split
    · exact ⟨h1.sublist (ats_take _ _), fun a ha => h2 a ((ats_take _ _).subset ha)⟩
    · split
      · exact asc_hur x.1 [] h1 h2 (by simp [ats]) (fun a ha => by simp [ats] at ha)
      · split
        · exact ⟨by simp [ats], fun a ha => by simp [ats] at ha⟩
        · exact ⟨h1, h2⟩
theorem Good.nil (last : Int) : Good ([], last) := ⟨Full.nil, by simp [ats], fun a ha => by simp [ats] at ha⟩
theorem rdy_no {now : Int} : ∀ {ps : List Pc}, (∀ a ∈ ats ps, now < a) → rdy now ps = 0
  | [], _ => rfl
  | p :: r, h => by
    have h1 := h p.1 (by simp [ats])
    have h2 := rdy_no (now := now) (ps := r) fun a ha => h a (by simp [ats] at ha ⊢; exact .inr ha)
    rw [rdy, if_neg (by omega), h2]
theorem tot_takeP (n : Nat) (ps : List Pc) : (takeP n ps).1.size + tot (takeP n ps).2 = tot ps := by
  have := congrArg ByteArray.size (cat_takeP n ps)
  rwa [ByteArray.size_append, cat_size, cat_size] at this
theorem size_takeP : ∀ (n : Nat) (ps : List Pc), n ≤ tot ps → (takeP n ps).1.size = n
  | n, [], h => by simp [tot] at h; subst h; rfl
  | n, p :: r, h => by
    unfold takeP
    simp only [tot] at h
    split
    · subst n; rfl
    · split
      · rw [ByteArray.size_extract]; omega
      · rw [ByteArray.size_append, size_takeP _ r (by omega)]; omega
end Go.Proofs.YtehpliclknfmoaaGreat.Cargo
namespace Go.Proofs.YtehpliclknfmoaaGreat.Cargo
open Go.RowKit Mem Tick
set_option linter.unusedVariables false
set_option linter.unusedSimpArgs false
def Live (w wr : World) (b : Nat) (x : St) : Prop := ∃ F, CG wr F b x.1 x.2 ∧ (∀ k, F k → w.heap.size ≤ k) ∧ Below w.heap.size w wr ∧ Good x
theorem Live.good {w wr : World} {b : Nat} {x : St} (h : Live w wr b x) : Good x := by obtain ⟨F, _, _, _, hg⟩ := h; exact hg
section
variable {w wr : World} {b : Nat} {x : St}
end
end Go.Proofs.YtehpliclknfmoaaGreat.Cargo
namespace Go.Proofs.YtehpliclknfmoaaGreat.Ref07
open Go.RowKit Mem Tick Cargo
open Go.Proofs.YtehpliclknfmoaaGreatW.PrintLast
set_option maxRecDepth 100000
set_option linter.unusedVariables false
set_option linter.unusedSimpArgs false
def IR (w : World) (A : Option Addr) (ts : List Int) : Prop := ts ≠ [] → ∃ g o, A = some ⟨g, o, none⟩ ∧ (∃ cs fr, w.heap[g]? = some (.cells cs 3 fr)) ∧ ∀ (j : Nat) (t : Int), ts[j]? = some t → w.cell? ⟨g, o + j, none⟩ = some (.int .i64 t)
theorem IR.nil (w : World) (A : Option Addr) : IR w A [] := fun h => absurd rfl h
theorem IR.kept {w w' : World} {A : Option Addr} {ts : List Int} (h : IR w A ts) (hk : ∀ g : Nat, (∃ (cs : Array Value) (fr : Nat × Nat), w.heap[g]? = some (Obj.cells cs 3 fr)) → w'.heap[g]? = w.heap[g]?) : IR w' A ts := by
  intro hn
  obtain ⟨g, o, e, ⟨cs, fr, hb⟩, hc⟩ := h hn
  exact ⟨g, o, e, ⟨cs, fr, (hk g ⟨cs, fr, hb⟩).trans hb⟩, fun j t ht => (World.cell?_of_block (a := ⟨g, o + j, none⟩) (hk g ⟨cs, fr, hb⟩)).trans (hc j t ht)⟩
theorem IR.below {w w' : World} {A : Option Addr} {ts : List Int} (h : IR w A ts) (hb : Below w.heap.size w w') : IR w' A ts := h.kept fun g ⟨cs, fr, hg⟩ => hb.block g (Array.getElem?_eq_some_iff.1 hg).1
theorem IR.drop {w : World} {A : Option Addr} {ts : List Int} (h : IR w A ts) (n : Nat) (c : Nat) (hn : n ≤ ts.length) (hc : ts.length ≤ c) : IR w (if c = n then A else A.map (·.add n)) (ts.drop n) := by
  intro hne
  have hlt : n < ts.length := by
    rcases Nat.lt_or_ge n ts.length with h | h
    · exact h
    · exact absurd (List.drop_eq_nil_of_le h) hne
  obtain ⟨g, o, rfl, hty, hcell⟩ := h (by rintro rfl; simp at hlt)
  rw [if_neg (by omega)]
  refine ⟨g, o + n, by simp [Addr.add], hty, fun j t ht => ?_⟩
  rw [List.getElem?_drop] at ht
  have := hcell _ _ ht
  rwa [← Nat.add_assoc] at this
theorem ir_of_owns {w : World} {base n : Nat} {v : Value} {ts : List Int} (h : w.ownsRow base 3 1 v n (ts.map (Value.int .i64))) : ∃ A c, v = .slice A ts.length c ∧ IR w A ts ∧ ts.length ≤ c := by
  obtain ⟨hl, h⟩ := h
  simp at hl
  subst hl
  rcases h with ⟨rfl, h0⟩ | ⟨g, cap, cur, rfl, hg, hh, hnc, hcap, hsz, htake⟩
  · have : ts = [] := List.eq_nil_of_length_eq_zero h0
    subst this
    exact ⟨none, 0, rfl, IR.nil _ _, by simp⟩
  · refine ⟨_, cap, rfl, fun _ => ⟨g, 0, rfl, ⟨cur, _, hh⟩, fun j y hy => ?_⟩, hnc⟩
    have hj : j < ts.length := (List.getElem?_eq_some_iff.1 hy).1
    have e1 : (cur.toList.take (ts.length * 1))[j]? = some (.int .i64 y) := by
      rw [htake, List.getElem?_map, hy]; rfl
    rw [List.getElem?_take, if_pos (by omega)] at e1
    simp only [World.cell?, hh]
    simp at e1
    simpa using e1
def cg (S : ByteArray) (A : Option Addr) (n c : Nat) (last : Int) : Value := .agg #[.string S, .slice A n c, .int .i64 last]
def RefIs (w : World) (v : Value) (S : ByteArray) (ts : List Int) (last : Int) : Prop := ∃ A c, v = cg S A ts.length c last ∧ IR w A ts ∧ ts.length ≤ c
def cnt (now : Int) : List Int → Nat
  | [] => 0
  | t :: r => if t ≤ now then cnt now r + 1 else 0
theorem cnt_le (now : Int) (ts : List Int) : cnt now ts ≤ ts.length := by
  induction ts with
  | nil => simp [cnt]
  | cons t r ih => simp only [cnt, List.length_cons]; split <;> omega
theorem cnt_at : ∀ (now : Int) (ts : List Int) (k : Nat) (t : Int), ts[k]? = some t → k < cnt now ts → t ≤ now
  | now, t :: r, 0, x, h, hk => by
    simp at h
    subst h
    simp only [cnt] at hk
    split at hk
    · assumption
    · omega
  | now, t :: r, k + 1, x, h, hk => by
    simp only [cnt] at hk
    split at hk
    · exact cnt_at now r k x (by simpa using h) (by omega)
    · omega
  | now, [], k, x, h, hk => by simp at h
theorem cnt_end : ∀ (now : Int) (ts : List Int) (t : Int), ts[cnt now ts]? = some t → now < t
  | now, t :: r, x, h => by
    simp only [cnt] at h
    split at h
    · exact cnt_end now r x (by simpa using h)
    · simp at h; omega
  | now, [], x, h => by simp at h
theorem ready_any (w : World) (S : ByteArray) (A : Option Addr) (c : Nat) (ts : List Int) (last now : Int) (hi : IR w A ts) (hs : S.size = ts.length) (hz : ts.length ≤ 1000000000000) :
    Calls Tryz.prog 27 #[cg S A ts.length c last, .int .i64 now] w fun e w' => e = .returned (.int .i64 (cnt now ts)) ∧ Below w.heap.size w w' := by
  have hl := cnt_le now ts
  have hS := Lib.hid hs
  have hsl : (S.size : Int) = ts.length := by omega
  have hS2 := Lib.hid hsl
  clear hs hsl
  unfold cg
  go_enter Tryz.func27, Tryz.ntmps27
  go_wp2
  obtain ⟨W, hW⟩ : ∃ W, W = w.alloc (.cells #[.string S, .slice A ts.length c, .int .i64 last] 36) := ⟨_, rfl⟩
  rw [← hW]
  have hB : Below w.heap.size w W := by rw [hW]; exact (Below.refl _ _).alloc (Nat.le_refl _) _
  have e0 : W.cell? ⟨w.heap.size, 0, none⟩ = some (.string S) := by rw [hW]; go_simp
  have e1 : W.cell? ⟨w.heap.size, 1, none⟩ = some (.slice A ts.length c) := by rw [hW]; go_simp
  have hB' := Lib.hid hB
  clear hW hB
  go_loop [5] (fun nv => ∃ k : Nat, nv = .int .i64 k ∧ k ≤ cnt now ts) (fun nv => ts.length - (intOf nv).toNat)
  case atStart => exact ⟨0, rfl, by omega⟩
  case round =>
    obtain ⟨k, rfl, hk⟩ := hrel
    by_cases hlt : k < cnt now ts
    · obtain ⟨g, o, rfl, -, hc⟩ := hi (by rintro rfl; simp [cnt] at hlt)
      have hx : ts[k]? = some ts[k] := List.getElem?_eq_getElem (by omega)
      have hle := cnt_at now ts k _ hx hlt
      have d0 := bcells hB'.out (hc k _ hx)
      have hd1 : decide ((k : Int) < S.size) = true := decide_eq_true (by rw [hS2.out]; omega)
      have hd1' : decide (k < S.size) = true := decide_eq_true (by rw [hS.out]; omega)
      have hkl : (k : Int) < ts.length := by omega
      have hk0 : (0 : Int) ≤ (k : Int) := by omega
      generalize ts[k] = t at *
      have hd2 : decide (t ≤ now) = true := decide_eq_true hle
      clear hc hx hi hle
      go_wp2
      go_round
      case rel => exact ⟨k + 1, by go_num, by omega⟩
      case measure => simp [intOf]; omega
    · have hk2 : k = cnt now ts := by omega
      subst hk2
      by_cases hend : cnt now ts < ts.length
      · obtain ⟨g, o, rfl, -, hc⟩ := hi (by rintro rfl; simp at hend)
        have hx : ts[cnt now ts]? = some ts[cnt now ts] := List.getElem?_eq_getElem hend
        have hgt := cnt_end now ts _ hx
        have d0 := bcells hB'.out (hc _ _ hx)
        have hd1' : decide (cnt now ts < S.size) = true := decide_eq_true (by rw [hS.out]; omega)
        have hkl : (cnt now ts : Int) < ts.length := by omega
        have hk0 : (0 : Int) ≤ (cnt now ts : Int) := by omega
        generalize ts[cnt now ts] = t at *
        have hd2 : decide (t ≤ now) = false := decide_eq_false (by omega)
        clear hc hx hi hgt
        generalize hm : cnt now ts = m at *
        have hm' := Lib.hid hm
        clear hm
        go_wp2
        go_ret
        exact ⟨by rw [hm'.out]; rfl, hB'.out⟩
      · have hd1' : decide (cnt now ts < S.size) = false := decide_eq_false (by rw [hS.out]; omega)
        clear hi
        generalize hm : cnt now ts = m at *
        have hm' := Lib.hid hm
        clear hm
        go_wp2
        go_ret
        exact ⟨by rw [hm'.out]; rfl, hB'.out⟩
end Go.Proofs.YtehpliclknfmoaaGreat.Ref07
namespace Go.Proofs.YtehpliclknfmoaaGreat.Ref07
open Go.RowKit Mem Tick Cargo
set_option linter.unusedVariables false
set_option linter.unusedSimpArgs false
section
variable {P : Program} {w : World}
theorem run_append_nil (base : Nat) (t ty e : TypeId) (i : TypeInfo) (size : Nat) (ht : P.underlying t = some (.slice e)) (hi : P.info? e = some i)
    (v : Value) (n : Nat) (xs : List Value) (hown : w.ownsRow base e size v n xs) (c : Nat) : (Builtin.append_ #[t, t] ty #[v, .slice none 0 c]).run P w = .ok v w := by
  rcases hown.2 with ⟨rfl, h0⟩ | ⟨g, cap, cur, rfl, _, _, hnc, _⟩
  · simp [Builtin.append_, run_underlying ht, sizeOf, typeInfo, hi, Builtin.lenOf, Builtin.firstCells]
  · simp [Builtin.append_, run_underlying ht, sizeOf, typeInfo, hi, Builtin.lenOf, Builtin.firstCells, hnc, storeCells]
theorem run_append_ir (base : Nat) (t ty e : TypeId) (i : TypeInfo) (z : Value) (ht : P.underlying t = some (.slice e)) (hi : P.info? e = some i) (hz : i.zero = some z) (hsize : i.size = 1) (hby : i.bytes = 8) (hzs : z.cells.size = 1)
    (v : Value) (n : Nat) (xs : List Value) (hown : w.ownsRow base e 1 v n xs) (A : Option Addr) (c : Nat) (ts : List Int) (hr : IR w A ts) (hb : n + ts.length ≤ 2000000000000) (hbase : base ≤ w.heap.size) :
    ∃ v' w', (Builtin.append_ #[t, t] ty #[v, .slice A ts.length c]).run P w = .ok v' w' ∧ w'.ownsRow base e 1 v' (n + ts.length) (xs ++ ts.map (Value.int .i64)) ∧ w.grownBy w' v.ownBlock := by
  cases A with
  | none =>
    have : ts = [] := by
      by_cases h : ts = []
      · exact h
      · obtain ⟨g, o, e, _⟩ := hr h
        cases e
    subst this
    exact ⟨v, w, run_append_nil base t ty e i 1 ht hi v n xs hown c, by simpa using hown, World.grownBy.refl w _⟩
  | some ad =>
    obtain ⟨v', w', hrun, h2, h3, _⟩ := run_append_own_at (P := P) w base t ty e i z 1 8 ht hi hz hsize hby hzs (by decide) v n xs hown ad ts.length c (ts.map (Value.int .i64)) (by simp) (fun j u hu => by
      rw [List.getElem?_map] at hu
      obtain ⟨x, hx, rfl⟩ := Option.map_eq_some_iff.1 hu
      obtain ⟨g, o, e, -, hc⟩ := hr (by rintro rfl; simp at hx)
      injection e with e
      subst e
      have := hc j x hx
      have hadd : (⟨g, o, none⟩ : Addr).add j = ⟨g, o + j, none⟩ := by unfold Addr.add; split <;> simp_all
      rw [hadd]
      exact this) (fun u hu => by
      obtain ⟨x, _, rfl⟩ := List.mem_map.1 hu
      rfl) (by unfold maxLen; omega) (by omega) hbase
    exact ⟨v', w', hrun, h2, h3⟩
end
theorem wpList_append_ir {P : Program} {w : World} {ops : Array Oper} {rest : List Oper} {o : Oper} {a : Act} {Q : Exit → Act → World → Prop} (hgd : o.guard = none) (s x : Operand) (t : TypeId)
    (ho : o.op = .call { callee := .builtin .append, args := #[s, x], argTypes := #[t, t] })
    (base : Nat) (e : TypeId) (i : TypeInfo) (z : Value) (ht : P.underlying t = some (.slice e)) (hi : P.info? e = some i) (hz : i.zero = some z) (hsize : i.size = 1) (hby : i.bytes = 8) (hzs : z.cells.size = 1)
    (v : Value) (n : Nat) (xs : List Value) (hs : a.eval s = v) (hown : w.ownsRow base e 1 v n xs) (A : Option Addr) (c : Nat) (ts : List Int) (hx : a.eval x = .slice A ts.length c) (hr : IR w A ts) (hb : n + ts.length ≤ 2000000000000) (hbase : base ≤ w.heap.size)
    (h : ∀ v' w', w'.ownsRow base e 1 v' (n + ts.length) (xs ++ ts.map (Value.int .i64)) → w.grownBy w' v.ownBlock → wpList P ops Q rest (a.put o.dst v') w') : wpList P ops Q (o :: rest) a w := by
  refine wpList_plain hgd fun K hK => ?_
  obtain ⟨v', w', hr, h2, h3⟩ := run_append_ir (P := P) base t o.type e i z ht hi hz hsize hby hzs v n xs hown A c ts hr hb hbase
  unfold Oper.wp execOp
  simp only [ho, resolve, invoke, builtin, Sem.run_bind, Sem.run_pure, Result.andThen_ok, List.map_toArray, List.map_cons, List.map_nil, hs, hx, hr]
  exact hK _ _ (h v' w' h2 h3)
theorem info_int : (Tryz.prog.info? 3).map (fun i => (i.zero, i.size, i.bytes)) = some (some (.int .i64 0), 1, 8) := by kernel_rfl
end Go.Proofs.YtehpliclknfmoaaGreat.Ref07
namespace Go.Proofs.YtehpliclknfmoaaGreat.Ref07
open Go.RowKit Mem Tick Cargo
set_option maxRecDepth 100000
set_option linter.unusedVariables false
set_option linter.unusedSimpArgs false
def refAt (last at_ : Int) : Int := if nr at_ < last then last else nr at_
theorem blk3_set {w : World} {k : Nat} {t : TypeId} {a b c x y z : Value} (h : Blk w k t #[a, b, c]) : Blk (((w.setCell ⟨k, 0, none⟩ x).setCell ⟨k, 1, none⟩ y).setCell ⟨k, 2, none⟩ z) k t #[x, y, z] :=
  ((h.set_ 0 x).set_ 1 y).set_ 2 z
theorem below3_set {B : Nat} {a w : World} {k : Nat} {x y z : Value} (h : Below B a w) (hk : B ≤ k) : Below B a (((w.setCell ⟨k, 0, none⟩ x).setCell ⟨k, 1, none⟩ y).setCell ⟨k, 2, none⟩ z) :=
  ((h.setCell (p := ⟨k, 0, none⟩) hk x).setCell (p := ⟨k, 1, none⟩) hk y).setCell (p := ⟨k, 2, none⟩) hk z

theorem put_none_late (w : World) (S : ByteArray) (A : Option Addr) (c : Nat) (ts : List Int) (last at_ : Int) (hi : IR w A ts) (hl : nr at_ < last) :
    Calls Tryz.prog 73 #[cg S A ts.length c last, .int .i64 at_, .string ⟨#[]⟩] w fun e w' => e = .returned (.tuple #[cg S A ts.length c last, .int .i64 (refAt last at_)]) ∧ IR w' A ts ∧ Below w.heap.size w w' := by
  obtain ⟨i0, hi1, hz0, hz1, hz2⟩ := info_parts info_int
  unfold cg
  go_enter Tryz.func73, Tryz.ntmps73
  go_wp2_with fail
  refine (Ref01.near_any at_ _).mono ?_
  rintro e wn ⟨rfl, rfl⟩
  obtain ⟨W, hW⟩ : ∃ W, W = (w.alloc (.cells #[.string S, .slice A ts.length c, .int .i64 last] 36)).alloc (.cells #[.string ⟨#[]⟩, .slice none 0 0, .int .i64 0] 36) := ⟨_, rfl⟩
  rw [← hW]
  have hB : Below w.heap.size w W := by rw [hW]; exact ((Below.refl _ _).alloc (Nat.le_refl _) _).alloc (by simp) _
  have hbx : Blk W w.heap.size 36 #[.string S, .slice A ts.length c, .int .i64 last] := by rw [hW]; exact (Blk.new w _ _).below ((Below.refl _ _).alloc (Nat.le_refl _) _)
  have hrs : Blk W (w.heap.size + 1) 36 #[.string ⟨#[]⟩, .slice none 0 0, .int .i64 0] := by
    rw [hW]
    have := Blk.new (w.alloc (.cells #[.string S, .slice A ts.length c, .int .i64 last] 36)) 36 #[.string ⟨#[]⟩, .slice none 0 0, .int .i64 0]
    simpa using this
  have hB' := Lib.hid hB
  have hbx' := Lib.hid hbx
  have hlw0 : w.heap.size < W.heap.size := hbx.lt
  have hrs' := Lib.hid hrs
  have hi' := Lib.hid (hi.below hB)
  have hi0 := Lib.hid hi
  have c0 : W.cell? ⟨w.heap.size, 0, none⟩ = some (.string S) := (hbx.cell 0).trans rfl
  have c1 : W.cell? ⟨w.heap.size, 1, none⟩ = some (.slice A ts.length c) := (hbx.cell 1).trans rfl
  have c2 : W.cell? ⟨w.heap.size, 2, none⟩ = some (.int .i64 last) := (hbx.cell 2).trans rfl
  clear hW hB hbx hi hrs
  have hAt := Lib.hid (show refAt last at_ = last from if_pos hl)
  have hd : decide (nr at_ < last) = true := decide_eq_true hl
  clear hl
  have z0 : W.cell? ⟨w.heap.size + 1, 0, none⟩ = some (.string ⟨#[]⟩) := (hrs'.out.cell 0).trans rfl
  have z1 : W.cell? ⟨w.heap.size + 1, 1, none⟩ = some (.slice none 0 0) := (hrs'.out.cell 1).trans rfl
  have z2 : W.cell? ⟨w.heap.size + 1, 2, none⟩ = some (.int .i64 0) := (hrs'.out.cell 2).trans rfl
  have y0 := hrs'.out.free 0
  have y1 := hrs'.out.free 1
  have y2 := hrs'.out.free 2
  generalize hna : nr at_ = na at *
  have hna' := Lib.hid hna
  clear hna
  go_wp2
  have r := blk3_set (x := .string S) (y := .slice A ts.length c) (z := .int .i64 last) hrs'.out
  have r0 := (r.cell 0).trans rfl
  have r1 := (r.cell 1).trans rfl
  have r2 := (r.cell 2).trans rfl
  simp only [List.getElem?_toArray, List.getElem?_cons_zero, List.getElem?_cons_succ] at r0 r1 r2
  have hB3 := below3_set (x := .string S) (y := .slice A ts.length c) (z := .int .i64 last) hB'.out (Nat.le_succ w.heap.size)
  have hI3 : IR (((W.setCell ⟨w.heap.size + 1, 0, none⟩ (.string S)).setCell ⟨w.heap.size + 1, 1, none⟩ (.slice A ts.length c)).setCell ⟨w.heap.size + 1, 2, none⟩ (.int .i64 last)) A ts := hi0.out.below hB3
  exact bodyPost_ret (v := .tuple #[cg S A ts.length c last, .int .i64 last]) (by simp [results, Tryz.results73, go_sem, r0, r1, r2, cg]) rfl ⟨by rw [hAt.out]; rfl, hI3, hB3⟩

theorem put_none_soon (w : World) (S : ByteArray) (A : Option Addr) (c : Nat) (ts : List Int) (last at_ : Int) (hi : IR w A ts) (hl : ¬ nr at_ < last) :
    Calls Tryz.prog 73 #[cg S A ts.length c last, .int .i64 at_, .string ⟨#[]⟩] w fun e w' => e = .returned (.tuple #[cg S A ts.length c last, .int .i64 (refAt last at_)]) ∧ IR w' A ts ∧ Below w.heap.size w w' := by
  obtain ⟨i0, hi1, hz0, hz1, hz2⟩ := info_parts info_int
  unfold cg
  go_enter Tryz.func73, Tryz.ntmps73
  go_wp2_with fail
  refine (Ref01.near_any at_ _).mono ?_
  rintro e wn ⟨rfl, rfl⟩
  obtain ⟨W, hW⟩ : ∃ W, W = (w.alloc (.cells #[.string S, .slice A ts.length c, .int .i64 last] 36)).alloc (.cells #[.string ⟨#[]⟩, .slice none 0 0, .int .i64 0] 36) := ⟨_, rfl⟩
  rw [← hW]
  have hB : Below w.heap.size w W := by rw [hW]; exact ((Below.refl _ _).alloc (Nat.le_refl _) _).alloc (by simp) _
  have hbx : Blk W w.heap.size 36 #[.string S, .slice A ts.length c, .int .i64 last] := by rw [hW]; exact (Blk.new w _ _).below ((Below.refl _ _).alloc (Nat.le_refl _) _)
  have hrs : Blk W (w.heap.size + 1) 36 #[.string ⟨#[]⟩, .slice none 0 0, .int .i64 0] := by
    rw [hW]
    have := Blk.new (w.alloc (.cells #[.string S, .slice A ts.length c, .int .i64 last] 36)) 36 #[.string ⟨#[]⟩, .slice none 0 0, .int .i64 0]
    simpa using this
  have hB' := Lib.hid hB
  have hbx' := Lib.hid hbx
  have hlw0 : w.heap.size < W.heap.size := hbx.lt
  have hrs' := Lib.hid hrs
  have hi' := Lib.hid (hi.below hB)
  have hi0 := Lib.hid hi
  have c0 : W.cell? ⟨w.heap.size, 0, none⟩ = some (.string S) := (hbx.cell 0).trans rfl
  have c1 : W.cell? ⟨w.heap.size, 1, none⟩ = some (.slice A ts.length c) := (hbx.cell 1).trans rfl
  have c2 : W.cell? ⟨w.heap.size, 2, none⟩ = some (.int .i64 last) := (hbx.cell 2).trans rfl
  clear hW hB hbx hi hrs
  have hAt0 : refAt last at_ = nr at_ := if_neg (by omega)
  have hd : decide (nr at_ < last) = false := decide_eq_false (by omega)
  clear hl
  have z0 : W.cell? ⟨w.heap.size + 1, 0, none⟩ = some (.string ⟨#[]⟩) := (hrs'.out.cell 0).trans rfl
  have z1 : W.cell? ⟨w.heap.size + 1, 1, none⟩ = some (.slice none 0 0) := (hrs'.out.cell 1).trans rfl
  have z2 : W.cell? ⟨w.heap.size + 1, 2, none⟩ = some (.int .i64 0) := (hrs'.out.cell 2).trans rfl
  have y0 := hrs'.out.free 0
  have y1 := hrs'.out.free 1
  have y2 := hrs'.out.free 2
  generalize hna : nr at_ = na at *
  have hAt := Lib.hid hAt0
  clear hAt0
  have hna' := Lib.hid hna
  clear hna
  go_wp2
  have r := blk3_set (x := .string S) (y := .slice A ts.length c) (z := .int .i64 last) hrs'.out
  have r0 := (r.cell 0).trans rfl
  have r1 := (r.cell 1).trans rfl
  have r2 := (r.cell 2).trans rfl
  simp only [List.getElem?_toArray, List.getElem?_cons_zero, List.getElem?_cons_succ] at r0 r1 r2
  have hB3 := below3_set (x := .string S) (y := .slice A ts.length c) (z := .int .i64 last) hB'.out (Nat.le_succ w.heap.size)
  have hI3 : IR (((W.setCell ⟨w.heap.size + 1, 0, none⟩ (.string S)).setCell ⟨w.heap.size + 1, 1, none⟩ (.slice A ts.length c)).setCell ⟨w.heap.size + 1, 2, none⟩ (.int .i64 last)) A ts := hi0.out.below hB3
  exact bodyPost_ret (v := .tuple #[cg S A ts.length c last, .int .i64 na]) (by simp [results, Tryz.results73, go_sem, r0, r1, r2, cg]) rfl ⟨by rw [hAt.out]; rfl, hI3, hB3⟩

theorem put_some_late (w : World) (S : ByteArray) (A : Option Addr) (c : Nat) (ts : List Int) (last at_ : Int) (s : ByteArray) (hi : IR w A ts) (hs : 0 < s.size) (hz : ts.length + s.size ≤ 1000000000000) (hzS : S.size + s.size ≤ 1000000000000) (hl : nr at_ < last) :
    Calls Tryz.prog 73 #[cg S A ts.length c last, .int .i64 at_, .string s] w fun e w' => ∃ v, e = .returned (.tuple #[v, .int .i64 (refAt last at_)]) ∧ RefIs w' v (S ++ s) (ts ++ List.replicate s.size (refAt last at_)) (refAt last at_) ∧ Below w.heap.size w w' := by
  have hem := isEmpty_false hs
  obtain ⟨i0, hi1, hz0, hz1, hz2⟩ := info_parts info_int
  unfold cg
  go_enter Tryz.func73, Tryz.ntmps73
  go_wp2_with fail
  refine (Ref01.near_any at_ _).mono ?_
  rintro e wn ⟨rfl, rfl⟩
  obtain ⟨W, hW⟩ : ∃ W, W = (w.alloc (.cells #[.string S, .slice A ts.length c, .int .i64 last] 36)).alloc (.cells #[.string ⟨#[]⟩, .slice none 0 0, .int .i64 0] 36) := ⟨_, rfl⟩
  rw [← hW]
  have hB : Below w.heap.size w W := by rw [hW]; exact ((Below.refl _ _).alloc (Nat.le_refl _) _).alloc (by simp) _
  have hbx : Blk W w.heap.size 36 #[.string S, .slice A ts.length c, .int .i64 last] := by rw [hW]; exact (Blk.new w _ _).below ((Below.refl _ _).alloc (Nat.le_refl _) _)
  have hrs : Blk W (w.heap.size + 1) 36 #[.string ⟨#[]⟩, .slice none 0 0, .int .i64 0] := by
    rw [hW]
    have := Blk.new (w.alloc (.cells #[.string S, .slice A ts.length c, .int .i64 last] 36)) 36 #[.string ⟨#[]⟩, .slice none 0 0, .int .i64 0]
    simpa using this
  have hB' := Lib.hid hB
  have hbx' := Lib.hid hbx
  have hlw0 : w.heap.size < W.heap.size := hbx.lt
  have hrs' := Lib.hid hrs
  have hi' := Lib.hid (hi.below hB)
  have hi0 := Lib.hid hi
  have c0 : W.cell? ⟨w.heap.size, 0, none⟩ = some (.string S) := (hbx.cell 0).trans rfl
  have c1 : W.cell? ⟨w.heap.size, 1, none⟩ = some (.slice A ts.length c) := (hbx.cell 1).trans rfl
  have c2 : W.cell? ⟨w.heap.size, 2, none⟩ = some (.int .i64 last) := (hbx.cell 2).trans rfl
  clear hW hB hbx hi hrs
  have hAt := Lib.hid (show refAt last at_ = last from if_pos hl)
  have hd : decide (nr at_ < last) = true := decide_eq_true hl
  clear hl
  generalize hna : nr at_ = na at *
  have hna' := Lib.hid hna
  clear hna
  have hown0 := Lib.hid (show (W.alloc (.cells #[] 3)).ownsRow W.heap.size 3 1 (.slice (some ⟨W.heap.size, 0, none⟩) 0 0) 0 [] from ⟨rfl, .inr ⟨W.heap.size, 0, #[], rfl, Nat.le_refl _, heap_alloc_new W _, Nat.le_refl _, Nat.zero_le _, rfl, rfl⟩⟩)
  go_wp2_with (at_builtin; refine wpList_append_ir rfl (.tmp 22) (.tmp 24) 34 rfl W.heap.size 3 i0 _ Tryz.underlying34 hi1 hz0 hz1 hz2 rfl _ 0 [] rfl hown0.out A c ts rfl (hi'.out.below ((Below.refl _ _).alloc (Nat.le_refl _) _)) (by omega) (by simp) ?_; intro tv w1 hO hG)
  have hO1 : w1.ownsRow W.heap.size 3 1 tv (ts.length + 0) ((ts ++ List.replicate 0 (refAt last at_)).map (Value.int .i64)) := by simpa using hO
  have hG1 : (W.alloc (.cells #[] 3)).grownBy w1 (some W.heap.size) := hG
  have hB1 : Below W.heap.size W w1 := ((Below.refl W.heap.size W).alloc (Nat.le_refl _) _).grown hG1 (by simp) (fun k hk => by injection hk with hk; omega)
  have hH := Lib.hid (show _ ∧ Below W.heap.size W w1 from ⟨hO1, hB1⟩)
  clear hO hG hO1 hG1 hB1 hown0
  go_loopw [8, 9] (fun tv iv wr => ∃ k : Nat, k ≤ s.size ∧ iv = .int .i64 k ∧ wr.ownsRow W.heap.size 3 1 tv (ts.length + k) ((ts ++ List.replicate k (refAt last at_)).map (Value.int .i64)) ∧ Below W.heap.size W wr) (fun _ iv _ => s.size - (intOf iv).toNat)
  case atStart => exact ⟨0, by omega, rfl, hH.out.1, hH.out.2⟩
  case round =>
    obtain ⟨k, hk, rfl, hO, hB⟩ := hrel
    clear hH
    by_cases hlt : k < s.size
    · have hsz := hB.size
      go_wp2_with (at_builtin; refine wpList_append_own _ rfl (.tmp 32) (.tmp 34) 34 rfl W.heap.size 3 i0 (.int .i64 0) 1 8 Tryz.underlying34 hi1 hz0 hz1 hz2 rfl (by decide) _ _ _ rfl (hO.alloc _) ⟨wr.heap.size, 0, none⟩ 1 1 [.int .i64 last] rfl rfl (by intro j u hu; match j, hu with | 0, hu => simp at hu; subst hu; simp [Addr.add]) (by intro u hu; simp at hu; subst hu; rfl) (by unfold maxLen; omega) (by omega) (by simp; omega) ?_; intro v' w2 hO2 hG2 _)
      have hG3 : (wr.alloc (.cells #[.int .i64 last] 3)).grownBy w2 u8.ownBlock := hG2
      have hO3 : w2.ownsRow W.heap.size 3 1 v' (ts.length + (k + 1)) ((ts ++ List.replicate (k + 1) (refAt last at_)).map (Value.int .i64)) := by
        rw [hAt.out, List.replicate_succ', ← List.append_assoc, List.map_append]
        rw [hAt.out] at hO2
        exact hO2
      have hQ := Lib.hid (show _ ∧ Below W.heap.size W w2 from ⟨hO3, (hB.alloc hB.size _).grown hG3 (by simp; omega) (own_ge hO)⟩)
      clear hO2 hG2 hG3 hO3 hO hB
      go_roundw
      case rel => exact ⟨k + 1, by omega, by go_num, hQ.out.1, hQ.out.2⟩
      case measure => simp [intOf]; omega
    · have hk2 : k = s.size := by omega
      subst hk2
      have hnl : ¬ (s.size < s.size) := by omega
      have hlw : w.heap.size + 1 < W.heap.size := hrs'.out.lt
      have hbr := Lib.hid (hrs'.out.below hB)
      have d0 := bcells hB c0
      have z0 : wr.cell? ⟨w.heap.size + 1, 0, none⟩ = some (.string ⟨#[]⟩) := (hbr.out.cell 0).trans rfl
      have z1 : wr.cell? ⟨w.heap.size + 1, 1, none⟩ = some (.slice none 0 0) := (hbr.out.cell 1).trans rfl
      have z2 : wr.cell? ⟨w.heap.size + 1, 2, none⟩ = some (.int .i64 0) := (hbr.out.cell 2).trans rfl
      have y0 := hbr.out.free 0
      have y1 := hbr.out.free 1
      have y2 := hbr.out.free 2
      have hO' : wr.ownsRow W.heap.size 3 1 u8 (ts ++ List.replicate s.size (refAt last at_)).length ((ts ++ List.replicate s.size (refAt last at_)).map (Value.int .i64)) := by simpa using hO
      obtain ⟨A2, cc, rfl, hI, hcc⟩ := ir_of_owns hO'
      have hge2 : ∀ k, (Value.slice A2 (ts ++ List.replicate s.size (refAt last at_)).length cc).ownBlock = some k → W.heap.size ≤ k := own_ge hO'
      have hBw : Below w.heap.size w wr := hB'.out.trans (hB.mono hB'.out.size)
      have hQ := Lib.hid (show IR wr A2 (ts ++ List.replicate s.size (refAt last at_)) ∧ Below w.heap.size w wr from ⟨hI, hBw⟩)
      have hcc' := Lib.hid hcc
      have hge3 := Lib.hid hge2
      clear hO hB hO' hI hBw hcc c0 c1 c2 hge2
      generalize hn2 : (ts ++ List.replicate s.size (refAt last at_)).length = n2 at *
      have hn2' := Lib.hid hn2
      clear hn2
      go_wp2
      have r := blk3_set (x := .string (S ++ s)) (y := .slice A2 n2 cc) (z := .int .i64 last) hbr.out
      have r0 := (r.cell 0).trans rfl
      have r1 := (r.cell 1).trans rfl
      have r2 := (r.cell 2).trans rfl
      simp only [List.getElem?_toArray, List.getElem?_cons_zero, List.getElem?_cons_succ] at r0 r1 r2
      have hB3 := below3_set (x := .string (S ++ s)) (y := .slice A2 n2 cc) (z := .int .i64 last) hQ.out.2 (Nat.le_succ w.heap.size)
      have hI3 : IR (((wr.setCell ⟨w.heap.size + 1, 0, none⟩ (.string (S ++ s))).setCell ⟨w.heap.size + 1, 1, none⟩ (.slice A2 n2 cc)).setCell ⟨w.heap.size + 1, 2, none⟩ (.int .i64 last)) A2 (ts ++ List.replicate s.size (refAt last at_)) := by
        intro hne
        obtain ⟨g, o, he, ⟨cs, fr, hb⟩, hc⟩ := hQ.out.1 hne
        have hg := hge3.out g (by rw [he]; rfl)
        have hgk : g ≠ w.heap.size + 1 := by omega
        have E := (Below.heap_setCell ((wr.setCell ⟨w.heap.size + 1, 0, none⟩ (.string (S ++ s))).setCell ⟨w.heap.size + 1, 1, none⟩ (.slice A2 n2 cc)) ⟨w.heap.size + 1, 2, none⟩ (.int .i64 last) g hgk).trans ((Below.heap_setCell (wr.setCell ⟨w.heap.size + 1, 0, none⟩ (.string (S ++ s))) ⟨w.heap.size + 1, 1, none⟩ (.slice A2 n2 cc) g hgk).trans (Below.heap_setCell wr ⟨w.heap.size + 1, 0, none⟩ (.string (S ++ s)) g hgk))
        exact ⟨g, o, he, ⟨cs, fr, E.trans hb⟩, fun j x hx => (World.cell?_of_block (a := ⟨g, o + j, none⟩) E).trans (hc j x hx)⟩
      refine bodyPost_ret (v := .tuple #[cg (S ++ s) A2 n2 cc last, .int .i64 last]) (by simp [results, Tryz.results73, go_sem, r0, r1, r2, cg]) rfl ⟨cg (S ++ s) A2 n2 cc last, by rw [hAt.out], ⟨A2, cc, by rw [hn2'.out, hAt.out], hI3, by rw [hn2'.out]; exact hcc'.out⟩, hB3⟩

theorem put_some_soon (w : World) (S : ByteArray) (A : Option Addr) (c : Nat) (ts : List Int) (last at_ : Int) (s : ByteArray) (hi : IR w A ts) (hs : 0 < s.size) (hz : ts.length + s.size ≤ 1000000000000) (hzS : S.size + s.size ≤ 1000000000000) (hl : ¬ nr at_ < last) :
    Calls Tryz.prog 73 #[cg S A ts.length c last, .int .i64 at_, .string s] w fun e w' => ∃ v, e = .returned (.tuple #[v, .int .i64 (refAt last at_)]) ∧ RefIs w' v (S ++ s) (ts ++ List.replicate s.size (refAt last at_)) (refAt last at_) ∧ Below w.heap.size w w' := by
  have hem := isEmpty_false hs
  obtain ⟨i0, hi1, hz0, hz1, hz2⟩ := info_parts info_int
  unfold cg
  go_enter Tryz.func73, Tryz.ntmps73
  go_wp2_with fail
  refine (Ref01.near_any at_ _).mono ?_
  rintro e wn ⟨rfl, rfl⟩
  obtain ⟨W, hW⟩ : ∃ W, W = (w.alloc (.cells #[.string S, .slice A ts.length c, .int .i64 last] 36)).alloc (.cells #[.string ⟨#[]⟩, .slice none 0 0, .int .i64 0] 36) := ⟨_, rfl⟩
  rw [← hW]
  have hB : Below w.heap.size w W := by rw [hW]; exact ((Below.refl _ _).alloc (Nat.le_refl _) _).alloc (by simp) _
  have hbx : Blk W w.heap.size 36 #[.string S, .slice A ts.length c, .int .i64 last] := by rw [hW]; exact (Blk.new w _ _).below ((Below.refl _ _).alloc (Nat.le_refl _) _)
  have hrs : Blk W (w.heap.size + 1) 36 #[.string ⟨#[]⟩, .slice none 0 0, .int .i64 0] := by
    rw [hW]
    have := Blk.new (w.alloc (.cells #[.string S, .slice A ts.length c, .int .i64 last] 36)) 36 #[.string ⟨#[]⟩, .slice none 0 0, .int .i64 0]
    simpa using this
  have hB' := Lib.hid hB
  have hbx' := Lib.hid hbx
  have hlw0 : w.heap.size < W.heap.size := hbx.lt
  have hrs' := Lib.hid hrs
  have hi' := Lib.hid (hi.below hB)
  have hi0 := Lib.hid hi
  have c0 : W.cell? ⟨w.heap.size, 0, none⟩ = some (.string S) := (hbx.cell 0).trans rfl
  have c1 : W.cell? ⟨w.heap.size, 1, none⟩ = some (.slice A ts.length c) := (hbx.cell 1).trans rfl
  have c2 : W.cell? ⟨w.heap.size, 2, none⟩ = some (.int .i64 last) := (hbx.cell 2).trans rfl
  clear hW hB hbx hi hrs
  have hAt0 : refAt last at_ = nr at_ := if_neg (by omega)
  have hd : decide (nr at_ < last) = false := decide_eq_false (by omega)
  clear hl
  generalize hna : nr at_ = na at *
  have hAt := Lib.hid hAt0
  clear hAt0
  have hna' := Lib.hid hna
  clear hna
  have hown0 := Lib.hid (show (W.alloc (.cells #[] 3)).ownsRow W.heap.size 3 1 (.slice (some ⟨W.heap.size, 0, none⟩) 0 0) 0 [] from ⟨rfl, .inr ⟨W.heap.size, 0, #[], rfl, Nat.le_refl _, heap_alloc_new W _, Nat.le_refl _, Nat.zero_le _, rfl, rfl⟩⟩)
  go_wp2_with (at_builtin; refine wpList_append_ir rfl (.tmp 22) (.tmp 24) 34 rfl W.heap.size 3 i0 _ Tryz.underlying34 hi1 hz0 hz1 hz2 rfl _ 0 [] rfl hown0.out A c ts rfl (hi'.out.below ((Below.refl _ _).alloc (Nat.le_refl _) _)) (by omega) (by simp) ?_; intro tv w1 hO hG)
  have hO1 : w1.ownsRow W.heap.size 3 1 tv (ts.length + 0) ((ts ++ List.replicate 0 (refAt last at_)).map (Value.int .i64)) := by simpa using hO
  have hG1 : (W.alloc (.cells #[] 3)).grownBy w1 (some W.heap.size) := hG
  have hB1 : Below W.heap.size W w1 := ((Below.refl W.heap.size W).alloc (Nat.le_refl _) _).grown hG1 (by simp) (fun k hk => by injection hk with hk; omega)
  have hH := Lib.hid (show _ ∧ Below W.heap.size W w1 from ⟨hO1, hB1⟩)
  clear hO hG hO1 hG1 hB1 hown0
  go_loopw [8, 9] (fun tv iv wr => ∃ k : Nat, k ≤ s.size ∧ iv = .int .i64 k ∧ wr.ownsRow W.heap.size 3 1 tv (ts.length + k) ((ts ++ List.replicate k (refAt last at_)).map (Value.int .i64)) ∧ Below W.heap.size W wr) (fun _ iv _ => s.size - (intOf iv).toNat)
  case atStart => exact ⟨0, by omega, rfl, hH.out.1, hH.out.2⟩
  case round =>
    obtain ⟨k, hk, rfl, hO, hB⟩ := hrel
    clear hH
    by_cases hlt : k < s.size
    · have hsz := hB.size
      go_wp2_with (at_builtin; refine wpList_append_own _ rfl (.tmp 32) (.tmp 34) 34 rfl W.heap.size 3 i0 (.int .i64 0) 1 8 Tryz.underlying34 hi1 hz0 hz1 hz2 rfl (by decide) _ _ _ rfl (hO.alloc _) ⟨wr.heap.size, 0, none⟩ 1 1 [.int .i64 na] rfl rfl (by intro j u hu; match j, hu with | 0, hu => simp at hu; subst hu; simp [Addr.add]) (by intro u hu; simp at hu; subst hu; rfl) (by unfold maxLen; omega) (by omega) (by simp; omega) ?_; intro v' w2 hO2 hG2 _)
      have hG3 : (wr.alloc (.cells #[.int .i64 na] 3)).grownBy w2 u8.ownBlock := hG2
      have hO3 : w2.ownsRow W.heap.size 3 1 v' (ts.length + (k + 1)) ((ts ++ List.replicate (k + 1) (refAt last at_)).map (Value.int .i64)) := by
        rw [hAt.out, List.replicate_succ', ← List.append_assoc, List.map_append]
        rw [hAt.out] at hO2
        exact hO2
      have hQ := Lib.hid (show _ ∧ Below W.heap.size W w2 from ⟨hO3, (hB.alloc hB.size _).grown hG3 (by simp; omega) (own_ge hO)⟩)
      clear hO2 hG2 hG3 hO3 hO hB
      go_roundw
      case rel => exact ⟨k + 1, by omega, by go_num, hQ.out.1, hQ.out.2⟩
      case measure => simp [intOf]; omega
    · have hk2 : k = s.size := by omega
      subst hk2
      have hnl : ¬ (s.size < s.size) := by omega
      have hlw : w.heap.size + 1 < W.heap.size := hrs'.out.lt
      have hbr := Lib.hid (hrs'.out.below hB)
      have d0 := bcells hB c0
      have z0 : wr.cell? ⟨w.heap.size + 1, 0, none⟩ = some (.string ⟨#[]⟩) := (hbr.out.cell 0).trans rfl
      have z1 : wr.cell? ⟨w.heap.size + 1, 1, none⟩ = some (.slice none 0 0) := (hbr.out.cell 1).trans rfl
      have z2 : wr.cell? ⟨w.heap.size + 1, 2, none⟩ = some (.int .i64 0) := (hbr.out.cell 2).trans rfl
      have y0 := hbr.out.free 0
      have y1 := hbr.out.free 1
      have y2 := hbr.out.free 2
      have hO' : wr.ownsRow W.heap.size 3 1 u8 (ts ++ List.replicate s.size (refAt last at_)).length ((ts ++ List.replicate s.size (refAt last at_)).map (Value.int .i64)) := by simpa using hO
      obtain ⟨A2, cc, rfl, hI, hcc⟩ := ir_of_owns hO'
      have hge2 : ∀ k, (Value.slice A2 (ts ++ List.replicate s.size (refAt last at_)).length cc).ownBlock = some k → W.heap.size ≤ k := own_ge hO'
      have hBw : Below w.heap.size w wr := hB'.out.trans (hB.mono hB'.out.size)
      have hQ := Lib.hid (show IR wr A2 (ts ++ List.replicate s.size (refAt last at_)) ∧ Below w.heap.size w wr from ⟨hI, hBw⟩)
      have hcc' := Lib.hid hcc
      have hge3 := Lib.hid hge2
      clear hO hB hO' hI hBw hcc c0 c1 c2 hge2
      generalize hn2 : (ts ++ List.replicate s.size (refAt last at_)).length = n2 at *
      have hn2' := Lib.hid hn2
      clear hn2
      go_wp2
      have r := blk3_set (x := .string (S ++ s)) (y := .slice A2 n2 cc) (z := .int .i64 na) hbr.out
      have r0 := (r.cell 0).trans rfl
      have r1 := (r.cell 1).trans rfl
      have r2 := (r.cell 2).trans rfl
      simp only [List.getElem?_toArray, List.getElem?_cons_zero, List.getElem?_cons_succ] at r0 r1 r2
      have hB3 := below3_set (x := .string (S ++ s)) (y := .slice A2 n2 cc) (z := .int .i64 na) hQ.out.2 (Nat.le_succ w.heap.size)
      have hI3 : IR (((wr.setCell ⟨w.heap.size + 1, 0, none⟩ (.string (S ++ s))).setCell ⟨w.heap.size + 1, 1, none⟩ (.slice A2 n2 cc)).setCell ⟨w.heap.size + 1, 2, none⟩ (.int .i64 na)) A2 (ts ++ List.replicate s.size (refAt last at_)) := by
        intro hne
        obtain ⟨g, o, he, ⟨cs, fr, hb⟩, hc⟩ := hQ.out.1 hne
        have hg := hge3.out g (by rw [he]; rfl)
        have hgk : g ≠ w.heap.size + 1 := by omega
        have E := (Below.heap_setCell ((wr.setCell ⟨w.heap.size + 1, 0, none⟩ (.string (S ++ s))).setCell ⟨w.heap.size + 1, 1, none⟩ (.slice A2 n2 cc)) ⟨w.heap.size + 1, 2, none⟩ (.int .i64 na) g hgk).trans ((Below.heap_setCell (wr.setCell ⟨w.heap.size + 1, 0, none⟩ (.string (S ++ s))) ⟨w.heap.size + 1, 1, none⟩ (.slice A2 n2 cc) g hgk).trans (Below.heap_setCell wr ⟨w.heap.size + 1, 0, none⟩ (.string (S ++ s)) g hgk))
        exact ⟨g, o, he, ⟨cs, fr, E.trans hb⟩, fun j x hx => (World.cell?_of_block (a := ⟨g, o + j, none⟩) E).trans (hc j x hx)⟩
      refine bodyPost_ret (v := .tuple #[cg (S ++ s) A2 n2 cc na, .int .i64 na]) (by simp [results, Tryz.results73, go_sem, r0, r1, r2, cg]) rfl ⟨cg (S ++ s) A2 n2 cc na, by rw [hAt.out], ⟨A2, cc, by rw [hn2'.out, hAt.out], hI3, by rw [hn2'.out]; exact hcc'.out⟩, hB3⟩
end Go.Proofs.YtehpliclknfmoaaGreat.Ref07
namespace Go.Proofs.YtehpliclknfmoaaGreat.Ref07
open Go.RowKit Mem Tick Cargo
open Go.Proofs.YtehpliclknfmoaaGreatW.PrintLast
open Go.Proofs.YtehpliclknfmoaaGreatW.PrintWords (cut_from)
set_option maxRecDepth 100000
set_option linter.unusedVariables false
set_option linter.unusedSimpArgs false
def takeM (now most : Int) (ts : List Int) : Nat := (min (cnt now ts : Int) (max most 0)).toNat

theorem take_all (w : World) (S : ByteArray) (A : Option Addr) (c : Nat) (ts : List Int) (last now most : Int) (hi : IR w A ts) (hs : S.size = ts.length) (hz : ts.length ≤ 1000000000000) (hcc : ts.length ≤ c) (m : Nat) (hm : takeM now most ts = m) (h1 : (cnt now ts : Int) ≤ most) :
    Calls Tryz.prog 29 #[cg S A ts.length c last, .int .i64 now, .int .i64 most] w fun e w' => ∃ v, e = .returned (.tuple #[v, .string (S.extract 0 m)]) ∧ RefIs w' v (S.extract m S.size) (ts.drop m) last ∧ Below w.heap.size w w' := by
  have hcl := cnt_le now ts
  have hml : m ≤ ts.length := by rw [← hm]; unfold takeM; omega
  have hmc : cnt now ts = m := by rw [← hm]; unfold takeM; omega
  rw [hmc] at hcl h1
  have hmc2 := Lib.hid hmc
  clear hmc
  have hS := Lib.hid hs
  have hi0 := Lib.hid hi
  have hcc' := Lib.hid hcc
  unfold cg
  clear hi hs hcc hm
  go_enter Tryz.func29, Tryz.ntmps29
  go_wp2_with fail
  obtain ⟨W0, hW⟩ : ∃ W, W = (w.alloc (.cells #[.string S, .slice A ts.length c, .int .i64 last] 36)).alloc (.cells #[.string ⟨#[]⟩, .slice none 0 0, .int .i64 0] 36) := ⟨_, rfl⟩
  rw [← hW]
  have hB : Below w.heap.size w W0 := by rw [hW]; exact ((Below.refl _ _).alloc (Nat.le_refl _) _).alloc (by simp) _
  have hbx : Blk W0 w.heap.size 36 #[.string S, .slice A ts.length c, .int .i64 last] := by rw [hW]; exact (Blk.new w _ _).below ((Below.refl _ _).alloc (Nat.le_refl _) _)
  have hrs : Blk W0 (w.heap.size + 1) 36 #[.string ⟨#[]⟩, .slice none 0 0, .int .i64 0] := by
    rw [hW]
    have := Blk.new (w.alloc (.cells #[.string S, .slice A ts.length c, .int .i64 last] 36)) 36 #[.string ⟨#[]⟩, .slice none 0 0, .int .i64 0]
    simpa using this
  clear hW
  refine (ready_any W0 S A c ts last now (hi0.out.below hB) hS.out hz).mono ?_
  rintro e W ⟨rfl, hBW⟩
  have c0 : W.cell? ⟨w.heap.size, 0, none⟩ = some (.string S) := ((hbx.below hBW).cell 0).trans rfl
  have c1 : W.cell? ⟨w.heap.size, 1, none⟩ = some (.slice A ts.length c) := ((hbx.below hBW).cell 1).trans rfl
  have c2 : W.cell? ⟨w.heap.size, 2, none⟩ = some (.int .i64 last) := ((hbx.below hBW).cell 2).trans rfl
  have hrr := Lib.hid (hrs.below hBW)
  have hbb := Lib.hid (show Blk W.drew w.heap.size 36 #[.string S, .slice A ts.length c, .int .i64 last] from (hbx.below hBW : Blk W _ _ _))
  have z0 : W.cell? ⟨w.heap.size + 1, 0, none⟩ = some (.string ⟨#[]⟩) := (hrr.out.cell 0).trans rfl
  have z1 : W.cell? ⟨w.heap.size + 1, 1, none⟩ = some (.slice none 0 0) := (hrr.out.cell 1).trans rfl
  have z2 : W.cell? ⟨w.heap.size + 1, 2, none⟩ = some (.int .i64 0) := (hrr.out.cell 2).trans rfl
  have y0 := hrr.out.free 0
  have y1 := hrr.out.free 1
  have y2 := hrr.out.free 2
  have hQ := Lib.hid (hB.trans (hBW.mono hB.size))
  clear hB hbx hrs hBW
  rw [hmc2.out]
  have hd : decide (most < (m : Int)) = false := decide_eq_false (by omega)
  obtain ⟨A', hA'⟩ : ∃ A', (if c = m then A else A.map (·.add m)) = A' := ⟨_, rfl⟩
  obtain ⟨i1, hi1, _, hs1, _⟩ := info_parts info_int
  have hcut : ∀ W : World, (Instr.slice 34 (.slice A ts.length c) (some (.int .i64 (m : Int))) none none).run Tryz.prog W = .ok (.slice A' (ts.length - m) (c - m)) W := by
    intro W
    have := cut_from (P := Tryz.prog) 34 3 .i64 Tryz.underlying34 hi1 1 hs1 A ts.length c (m : Int) (by omega) (by omega) W
    rw [this, ← hA']
    simp
  have hA2 := Lib.hid hA'
  have hSl : (S.size : Int) = ts.length := by have := hS.out; omega
  have hSm : m ≤ S.size := by have := hS.out; omega
  have hSm' : (m : Int) ≤ S.size := by omega
  have hm0 : (0 : Int) ≤ (m : Int) := by omega
  have hSl' := Lib.hid hSl
  clear hA' hi1 hs1 hSl
  go_wp2
  refine start_ (n := 17) (S := fun w' => w'.cell? ⟨w.heap.size, 0, none⟩ = some (.string S) ∧ w'.cell? ⟨w.heap.size, 1, none⟩ = some (.slice A ts.length c) ∧ w'.cell? ⟨w.heap.size, 2, none⟩ = some (.int .i64 last)) (ds := []) #[false, false, false, false, false, false, false, false, false, false, false, false, false, false, false, false, false] (by kernel_rfl) rfl rfl ⟨c0, c1, c2⟩ (fun hHeld => ?_)
  refine pure_ (i := 0) (N := some 18) (v := ?_) (a' := ?_) #[true, false, false, false, false, false, false, false, false, false, false, false, false, false, false, false, false] rfl rfl (by kernel_rfl) (fun _ _ _ h => h) (Or.inl ⟨by rfl, ?_⟩) ?_ ?_
  rotate_left
  · intro w'
    go_simp
    with_reducible rfl
  rotate_left
  · simp only [Act.put, List.setIfInBounds_toArray, List.set_cons_zero, List.set_cons_succ, i64_w, i32_w]
    rfl
  refine pure_ (i := 2) (N := some 20) (v := ?_) (a' := ?_) #[true, false, true, false, false, false, false, false, false, false, false, false, false, false, false, false, false] rfl rfl (by kernel_rfl) (fun _ _ _ h => h) (Or.inl ⟨by rfl, ?_⟩) ?_ ?_
  rotate_left
  · intro w'
    go_simp
    with_reducible rfl
  rotate_left
  · simp only [Act.put, List.setIfInBounds_toArray, List.set_cons_zero, List.set_cons_succ, i64_w, i32_w]
    rfl
  refine pure_ (i := 4) (N := some 22) (v := ?_) (a' := ?_) #[true, false, true, false, true, false, false, false, false, false, false, false, false, false, false, false, false] rfl rfl (by kernel_rfl) (fun _ _ _ h => h) (Or.inl ⟨by rfl, ?_⟩) ?_ ?_
  rotate_left
  · intro w'
    go_simp
    with_reducible rfl
  rotate_left
  · simp only [Act.put, List.setIfInBounds_toArray, List.set_cons_zero, List.set_cons_succ, i64_w, i32_w]
    rfl
  refine pure_ (i := 6) (N := some 24) (v := ?_) (a' := ?_) #[true, false, true, false, true, false, true, false, false, false, false, false, false, false, false, false, false] rfl rfl (by kernel_rfl) (fun _ _ _ h => h) (Or.inl ⟨by rfl, ?_⟩) ?_ ?_
  rotate_left
  · intro w'
    go_simp
    with_reducible rfl
  rotate_left
  · simp only [Act.put, List.setIfInBounds_toArray, List.set_cons_zero, List.set_cons_succ, i64_w, i32_w]
    rfl
  refine pure_ (i := 8) (N := some 26) (v := ?_) (a' := ?_) #[true, false, true, false, true, false, true, false, true, false, false, false, false, false, false, false, false] rfl rfl (by kernel_rfl) (fun _ _ _ h => h) (Or.inl ⟨by rfl, ?_⟩) ?_ ?_
  rotate_left
  · intro w'
    go_simp
    with_reducible rfl
  rotate_left
  · simp only [Act.put, List.setIfInBounds_toArray, List.set_cons_zero, List.set_cons_succ, i64_w, i32_w]
    rfl
  refine pure_ (i := 11) (N := some 29) (v := ?_) (a' := ?_) #[true, false, true, false, true, false, true, false, true, false, false, true, false, false, false, false, false] rfl rfl (by kernel_rfl) (fun _ _ _ h => h) (Or.inl ⟨by rfl, ?_⟩) ?_ ?_
  rotate_left
  · intro w'
    go_simp
    with_reducible rfl
  rotate_left
  · simp only [Act.put, List.setIfInBounds_toArray, List.set_cons_zero, List.set_cons_succ, i64_w, i32_w]
    rfl
  refine pure_ (i := 13) (N := some 31) (v := ?_) (a' := ?_) #[true, false, true, false, true, false, true, false, true, false, false, true, false, true, false, false, false] rfl rfl (by kernel_rfl) (fun _ _ _ h => h) (Or.inl ⟨by rfl, ?_⟩) ?_ ?_
  rotate_left
  · intro w'
    go_simp
    with_reducible rfl
  rotate_left
  · simp only [Act.put, List.setIfInBounds_toArray, List.set_cons_zero, List.set_cons_succ, i64_w, i32_w]
    rfl
  refine take_ (i := 1) (N := some 19) (v := ?_) (a' := ?_) #[true, true, true, false, true, false, true, false, true, false, false, true, false, true, false, false, false] rfl rfl (by kernel_rfl) (fun _ _ _ h => h) (Or.inl ⟨by rfl, ?_⟩) hHeld ?_ ?_
  rotate_left
  · rintro w' ⟨s0, s1, s2⟩
    go_simp
    with_reducible rfl
  rotate_left
  · simp only [Act.put, List.setIfInBounds_toArray, List.set_cons_zero, List.set_cons_succ, i64_w, i32_w]
    rfl
  refine pure_ (i := 3) (N := some 21) (v := ?_) (a' := ?_) #[true, true, true, true, true, false, true, false, true, false, false, true, false, true, false, false, false] rfl rfl (by kernel_rfl) (fun _ _ _ h => h) (Or.inl ⟨by rfl, ?_⟩) ?_ ?_
  rotate_left
  · intro w'
    go_simp
    with_reducible rfl
  rotate_left
  · simp only [Act.put, List.setIfInBounds_toArray, List.set_cons_zero, List.set_cons_succ, i64_w, i32_w]
    rfl
  refine take_ (i := 5) (N := some 23) (v := ?_) (a' := ?_) #[true, true, true, true, true, true, true, false, true, false, false, true, false, true, false, false, false] rfl rfl (by kernel_rfl) (fun _ _ _ h => h) (Or.inl ⟨by rfl, ?_⟩) hHeld ?_ ?_
  rotate_left
  · rintro w' ⟨s0, s1, s2⟩
    go_simp
    with_reducible rfl
  rotate_left
  · simp only [Act.put, List.setIfInBounds_toArray, List.set_cons_zero, List.set_cons_succ, i64_w, i32_w]
    rfl
  refine pure_ (i := 7) (N := some 25) (v := ?_) (a' := ?_) #[true, true, true, true, true, true, true, true, true, false, false, true, false, true, false, false, false] rfl rfl (by kernel_rfl) (fun _ _ _ h => h) (Or.inl ⟨by rfl, ?_⟩) ?_ ?_
  rotate_left
  · intro w'
    go_simp
    with_reducible rfl
  rotate_left
  · simp only [Act.put, List.setIfInBounds_toArray, List.set_cons_zero, List.set_cons_succ, i64_w, i32_w]
    rfl
  refine take_ (i := 9) (N := some 27) (v := ?_) (a' := ?_) #[true, true, true, true, true, true, true, true, true, true, false, true, false, true, false, false, false] rfl rfl (by kernel_rfl) (fun _ _ _ h => h) (Or.inl ⟨by rfl, ?_⟩) hHeld ?_ ?_
  rotate_left
  · rintro w' ⟨s0, s1, s2⟩
    go_simp
    with_reducible rfl
  rotate_left
  · simp only [Act.put, List.setIfInBounds_toArray, List.set_cons_zero, List.set_cons_succ, i64_w, i32_w]
    rfl
  refine pure_ (i := 10) (N := some 28) (v := ?_) (a' := ?_) #[true, true, true, true, true, true, true, true, true, true, true, true, false, true, false, false, false] rfl rfl (by kernel_rfl) (fun _ _ _ h => h) (Or.inl ⟨by rfl, ?_⟩) ?_ ?_
  rotate_left
  · intro w'
    go_simp
    with_reducible rfl
  rotate_left
  · simp only [Act.put, List.setIfInBounds_toArray, List.set_cons_zero, List.set_cons_succ, i64_w, i32_w]
    rfl
  refine take_ (i := 12) (N := some 30) (v := ?_) (a' := ?_) #[true, true, true, true, true, true, true, true, true, true, true, true, true, true, false, false, false] rfl rfl (by kernel_rfl) (fun _ _ _ h => h) (Or.inl ⟨by rfl, ?_⟩) hHeld ?_ ?_
  rotate_left
  · rintro w' ⟨s0, s1, s2⟩
    go_simp
    with_reducible rfl
  rotate_left
  · simp only [Act.put, List.setIfInBounds_toArray, List.set_cons_zero, List.set_cons_succ, i64_w, i32_w]
    rfl
  refine pure_ (i := 14) (N := some 32) (v := ?_) (a' := ?_) #[true, true, true, true, true, true, true, true, true, true, true, true, true, true, true, false, false] rfl rfl (by kernel_rfl) (fun _ _ _ h => h) (Or.inl ⟨by rfl, ?_⟩) ?_ ?_
  rotate_left
  · intro w'
    go_simp
    with_reducible rfl
  rotate_left
  · simp only [Act.put, List.setIfInBounds_toArray, List.set_cons_zero, List.set_cons_succ, i64_w, i32_w]
    rfl
  refine one_ (i := 15) (N := none) #[true, true, true, true, true, true, true, true, true, true, true, true, true, true, true, true, false] rfl rfl (by kernel_rfl) (by decide) (fun K hK => ?_)
  refine skip_ (w1 := ?_) (by rfl) rfl ?_ ?_
  rotate_left
  · go_simp
    rfl
  refine hK.out _ _ ⟨((((hbb.out.far (p := ⟨w.heap.size + 1, 0, none⟩) (by show w.heap.size ≠ w.heap.size + 1; omega) _).far (p := ⟨w.heap.size + 1, 1, none⟩) (by show w.heap.size ≠ w.heap.size + 1; omega) _).far (p := ⟨w.heap.size + 1, 2, none⟩) (by show w.heap.size ≠ w.heap.size + 1; omega) _).cell 0).trans rfl, ((((hbb.out.far (p := ⟨w.heap.size + 1, 0, none⟩) (by show w.heap.size ≠ w.heap.size + 1; omega) _).far (p := ⟨w.heap.size + 1, 1, none⟩) (by show w.heap.size ≠ w.heap.size + 1; omega) _).far (p := ⟨w.heap.size + 1, 2, none⟩) (by show w.heap.size ≠ w.heap.size + 1; omega) _).cell 1).trans rfl, ((((hbb.out.far (p := ⟨w.heap.size + 1, 0, none⟩) (by show w.heap.size ≠ w.heap.size + 1; omega) _).far (p := ⟨w.heap.size + 1, 1, none⟩) (by show w.heap.size ≠ w.heap.size + 1; omega) _).far (p := ⟨w.heap.size + 1, 2, none⟩) (by show w.heap.size ≠ w.heap.size + 1; omega) _).cell 2).trans rfl⟩ (fun hHeld => ?_)
  clear hK K
  refine pure_ (i := 16) (N := some 7) (v := ?_) (a' := ?_) #[true, true, true, true, true, true, true, true, true, true, true, true, true, true, true, true, true] rfl rfl (by kernel_rfl) (fun _ _ _ h => h) (Or.inl ⟨by rfl, ?_⟩) ?_ ?_
  rotate_left
  · intro w'
    go_simp
    with_reducible rfl
  rotate_left
  · simp only [Act.put, List.setIfInBounds_toArray, List.set_cons_zero, List.set_cons_succ, i64_w, i32_w]
    rfl
  refine done_ (by kernel_rfl) ?_
  have r := blk3_set (x := .string (S.extract m S.size)) (y := .slice A' (ts.length - m) (c - m)) (z := .int .i64 last) hrr.out
  have r0 := (r.cell 0).trans rfl
  have r1 := (r.cell 1).trans rfl
  have r2 := (r.cell 2).trans rfl
  simp only [List.getElem?_toArray, List.getElem?_cons_zero, List.getElem?_cons_succ] at r0 r1 r2
  have hB3 := below3_set (x := .string (S.extract m S.size)) (y := .slice A' (ts.length - m) (c - m)) (z := .int .i64 last) hQ.out (Nat.le_succ w.heap.size)
  go_wp2
  have hI := hi0.out.below hB3.drew
  have hD := hI.drop m c hml hcc'.out
  rw [hA2.out] at hD
  refine bodyPost_ret (v := .tuple #[cg (S.extract m S.size) A' (ts.length - m) (c - m) last, .string (S.extract 0 m)]) (by simp [results, Tryz.results29, go_sem, r0, r1, r2, cg]) rfl ⟨_, rfl, ⟨A', c - m, by rw [List.length_drop], hD, by rw [List.length_drop]; have := hcc'.out; omega⟩, hB3.drew⟩

theorem take_some (w : World) (S : ByteArray) (A : Option Addr) (c : Nat) (ts : List Int) (last now most : Int) (hi : IR w A ts) (hs : S.size = ts.length) (hz : ts.length ≤ 1000000000000) (hcc : ts.length ≤ c) (m : Nat) (hm : takeM now most ts = m) (h1 : most < (cnt now ts : Int)) (h2 : 0 ≤ most) :
    Calls Tryz.prog 29 #[cg S A ts.length c last, .int .i64 now, .int .i64 most] w fun e w' => ∃ v, e = .returned (.tuple #[v, .string (S.extract 0 m)]) ∧ RefIs w' v (S.extract m S.size) (ts.drop m) last ∧ Below w.heap.size w w' := by
  have hcl := cnt_le now ts
  have hml : m ≤ ts.length := by rw [← hm]; unfold takeM; omega
  have hmc : most = (m : Int) := by rw [← hm]; unfold takeM; omega
  subst hmc
  have hS := Lib.hid hs
  have hi0 := Lib.hid hi
  have hcc' := Lib.hid hcc
  unfold cg
  clear hi hs hcc hm
  go_enter Tryz.func29, Tryz.ntmps29
  go_wp2_with fail
  obtain ⟨W0, hW⟩ : ∃ W, W = (w.alloc (.cells #[.string S, .slice A ts.length c, .int .i64 last] 36)).alloc (.cells #[.string ⟨#[]⟩, .slice none 0 0, .int .i64 0] 36) := ⟨_, rfl⟩
  rw [← hW]
  have hB : Below w.heap.size w W0 := by rw [hW]; exact ((Below.refl _ _).alloc (Nat.le_refl _) _).alloc (by simp) _
  have hbx : Blk W0 w.heap.size 36 #[.string S, .slice A ts.length c, .int .i64 last] := by rw [hW]; exact (Blk.new w _ _).below ((Below.refl _ _).alloc (Nat.le_refl _) _)
  have hrs : Blk W0 (w.heap.size + 1) 36 #[.string ⟨#[]⟩, .slice none 0 0, .int .i64 0] := by
    rw [hW]
    have := Blk.new (w.alloc (.cells #[.string S, .slice A ts.length c, .int .i64 last] 36)) 36 #[.string ⟨#[]⟩, .slice none 0 0, .int .i64 0]
    simpa using this
  clear hW
  refine (ready_any W0 S A c ts last now (hi0.out.below hB) hS.out hz).mono ?_
  rintro e W ⟨rfl, hBW⟩
  have c0 : W.cell? ⟨w.heap.size, 0, none⟩ = some (.string S) := ((hbx.below hBW).cell 0).trans rfl
  have c1 : W.cell? ⟨w.heap.size, 1, none⟩ = some (.slice A ts.length c) := ((hbx.below hBW).cell 1).trans rfl
  have c2 : W.cell? ⟨w.heap.size, 2, none⟩ = some (.int .i64 last) := ((hbx.below hBW).cell 2).trans rfl
  have hrr := Lib.hid (hrs.below hBW)
  have hbb := Lib.hid (show Blk W.drew w.heap.size 36 #[.string S, .slice A ts.length c, .int .i64 last] from (hbx.below hBW : Blk W _ _ _))
  have z0 : W.cell? ⟨w.heap.size + 1, 0, none⟩ = some (.string ⟨#[]⟩) := (hrr.out.cell 0).trans rfl
  have z1 : W.cell? ⟨w.heap.size + 1, 1, none⟩ = some (.slice none 0 0) := (hrr.out.cell 1).trans rfl
  have z2 : W.cell? ⟨w.heap.size + 1, 2, none⟩ = some (.int .i64 0) := (hrr.out.cell 2).trans rfl
  have y0 := hrr.out.free 0
  have y1 := hrr.out.free 1
  have y2 := hrr.out.free 2
  have hQ := Lib.hid (hB.trans (hBW.mono hB.size))
  clear hB hbx hrs hBW
  generalize cnt now ts = n at *
  have hd : decide ((m : Int) < (n : Int)) = true := decide_eq_true (by omega)
  have hd2 : decide ((m : Int) < 0) = false := decide_eq_false (by omega)
  obtain ⟨A', hA'⟩ : ∃ A', (if c = m then A else A.map (·.add m)) = A' := ⟨_, rfl⟩
  obtain ⟨i1, hi1, _, hs1, _⟩ := info_parts info_int
  have hcut : ∀ W : World, (Instr.slice 34 (.slice A ts.length c) (some (.int .i64 (m : Int))) none none).run Tryz.prog W = .ok (.slice A' (ts.length - m) (c - m)) W := by
    intro W
    have := cut_from (P := Tryz.prog) 34 3 .i64 Tryz.underlying34 hi1 1 hs1 A ts.length c (m : Int) (by omega) (by omega) W
    rw [this, ← hA']
    simp
  have hA2 := Lib.hid hA'
  have hSl : (S.size : Int) = ts.length := by have := hS.out; omega
  have hSm : m ≤ S.size := by have := hS.out; omega
  have hSm' : (m : Int) ≤ S.size := by omega
  have hm0 : (0 : Int) ≤ (m : Int) := by omega
  have hSl' := Lib.hid hSl
  clear hA' hi1 hs1 hSl
  go_wp2
  refine start_ (n := 17) (S := fun w' => w'.cell? ⟨w.heap.size, 0, none⟩ = some (.string S) ∧ w'.cell? ⟨w.heap.size, 1, none⟩ = some (.slice A ts.length c) ∧ w'.cell? ⟨w.heap.size, 2, none⟩ = some (.int .i64 last)) (ds := []) #[false, false, false, false, false, false, false, false, false, false, false, false, false, false, false, false, false] (by kernel_rfl) rfl rfl ⟨c0, c1, c2⟩ (fun hHeld => ?_)
  refine pure_ (i := 0) (N := some 18) (v := ?_) (a' := ?_) #[true, false, false, false, false, false, false, false, false, false, false, false, false, false, false, false, false] rfl rfl (by kernel_rfl) (fun _ _ _ h => h) (Or.inl ⟨by rfl, ?_⟩) ?_ ?_
  rotate_left
  · intro w'
    go_simp
    with_reducible rfl
  rotate_left
  · simp only [Act.put, List.setIfInBounds_toArray, List.set_cons_zero, List.set_cons_succ, i64_w, i32_w]
    rfl
  refine pure_ (i := 2) (N := some 20) (v := ?_) (a' := ?_) #[true, false, true, false, false, false, false, false, false, false, false, false, false, false, false, false, false] rfl rfl (by kernel_rfl) (fun _ _ _ h => h) (Or.inl ⟨by rfl, ?_⟩) ?_ ?_
  rotate_left
  · intro w'
    go_simp
    with_reducible rfl
  rotate_left
  · simp only [Act.put, List.setIfInBounds_toArray, List.set_cons_zero, List.set_cons_succ, i64_w, i32_w]
    rfl
  refine pure_ (i := 4) (N := some 22) (v := ?_) (a' := ?_) #[true, false, true, false, true, false, false, false, false, false, false, false, false, false, false, false, false] rfl rfl (by kernel_rfl) (fun _ _ _ h => h) (Or.inl ⟨by rfl, ?_⟩) ?_ ?_
  rotate_left
  · intro w'
    go_simp
    with_reducible rfl
  rotate_left
  · simp only [Act.put, List.setIfInBounds_toArray, List.set_cons_zero, List.set_cons_succ, i64_w, i32_w]
    rfl
  refine pure_ (i := 6) (N := some 24) (v := ?_) (a' := ?_) #[true, false, true, false, true, false, true, false, false, false, false, false, false, false, false, false, false] rfl rfl (by kernel_rfl) (fun _ _ _ h => h) (Or.inl ⟨by rfl, ?_⟩) ?_ ?_
  rotate_left
  · intro w'
    go_simp
    with_reducible rfl
  rotate_left
  · simp only [Act.put, List.setIfInBounds_toArray, List.set_cons_zero, List.set_cons_succ, i64_w, i32_w]
    rfl
  refine pure_ (i := 8) (N := some 26) (v := ?_) (a' := ?_) #[true, false, true, false, true, false, true, false, true, false, false, false, false, false, false, false, false] rfl rfl (by kernel_rfl) (fun _ _ _ h => h) (Or.inl ⟨by rfl, ?_⟩) ?_ ?_
  rotate_left
  · intro w'
    go_simp
    with_reducible rfl
  rotate_left
  · simp only [Act.put, List.setIfInBounds_toArray, List.set_cons_zero, List.set_cons_succ, i64_w, i32_w]
    rfl
  refine pure_ (i := 11) (N := some 29) (v := ?_) (a' := ?_) #[true, false, true, false, true, false, true, false, true, false, false, true, false, false, false, false, false] rfl rfl (by kernel_rfl) (fun _ _ _ h => h) (Or.inl ⟨by rfl, ?_⟩) ?_ ?_
  rotate_left
  · intro w'
    go_simp
    with_reducible rfl
  rotate_left
  · simp only [Act.put, List.setIfInBounds_toArray, List.set_cons_zero, List.set_cons_succ, i64_w, i32_w]
    rfl
  refine pure_ (i := 13) (N := some 31) (v := ?_) (a' := ?_) #[true, false, true, false, true, false, true, false, true, false, false, true, false, true, false, false, false] rfl rfl (by kernel_rfl) (fun _ _ _ h => h) (Or.inl ⟨by rfl, ?_⟩) ?_ ?_
  rotate_left
  · intro w'
    go_simp
    with_reducible rfl
  rotate_left
  · simp only [Act.put, List.setIfInBounds_toArray, List.set_cons_zero, List.set_cons_succ, i64_w, i32_w]
    rfl
  refine take_ (i := 1) (N := some 19) (v := ?_) (a' := ?_) #[true, true, true, false, true, false, true, false, true, false, false, true, false, true, false, false, false] rfl rfl (by kernel_rfl) (fun _ _ _ h => h) (Or.inl ⟨by rfl, ?_⟩) hHeld ?_ ?_
  rotate_left
  · rintro w' ⟨s0, s1, s2⟩
    go_simp
    with_reducible rfl
  rotate_left
  · simp only [Act.put, List.setIfInBounds_toArray, List.set_cons_zero, List.set_cons_succ, i64_w, i32_w]
    rfl
  refine pure_ (i := 3) (N := some 21) (v := ?_) (a' := ?_) #[true, true, true, true, true, false, true, false, true, false, false, true, false, true, false, false, false] rfl rfl (by kernel_rfl) (fun _ _ _ h => h) (Or.inl ⟨by rfl, ?_⟩) ?_ ?_
  rotate_left
  · intro w'
    go_simp
    with_reducible rfl
  rotate_left
  · simp only [Act.put, List.setIfInBounds_toArray, List.set_cons_zero, List.set_cons_succ, i64_w, i32_w]
    rfl
  refine take_ (i := 5) (N := some 23) (v := ?_) (a' := ?_) #[true, true, true, true, true, true, true, false, true, false, false, true, false, true, false, false, false] rfl rfl (by kernel_rfl) (fun _ _ _ h => h) (Or.inl ⟨by rfl, ?_⟩) hHeld ?_ ?_
  rotate_left
  · rintro w' ⟨s0, s1, s2⟩
    go_simp
    with_reducible rfl
  rotate_left
  · simp only [Act.put, List.setIfInBounds_toArray, List.set_cons_zero, List.set_cons_succ, i64_w, i32_w]
    rfl
  refine pure_ (i := 7) (N := some 25) (v := ?_) (a' := ?_) #[true, true, true, true, true, true, true, true, true, false, false, true, false, true, false, false, false] rfl rfl (by kernel_rfl) (fun _ _ _ h => h) (Or.inl ⟨by rfl, ?_⟩) ?_ ?_
  rotate_left
  · intro w'
    go_simp
    with_reducible rfl
  rotate_left
  · simp only [Act.put, List.setIfInBounds_toArray, List.set_cons_zero, List.set_cons_succ, i64_w, i32_w]
    rfl
  refine take_ (i := 9) (N := some 27) (v := ?_) (a' := ?_) #[true, true, true, true, true, true, true, true, true, true, false, true, false, true, false, false, false] rfl rfl (by kernel_rfl) (fun _ _ _ h => h) (Or.inl ⟨by rfl, ?_⟩) hHeld ?_ ?_
  rotate_left
  · rintro w' ⟨s0, s1, s2⟩
    go_simp
    with_reducible rfl
  rotate_left
  · simp only [Act.put, List.setIfInBounds_toArray, List.set_cons_zero, List.set_cons_succ, i64_w, i32_w]
    rfl
  refine pure_ (i := 10) (N := some 28) (v := ?_) (a' := ?_) #[true, true, true, true, true, true, true, true, true, true, true, true, false, true, false, false, false] rfl rfl (by kernel_rfl) (fun _ _ _ h => h) (Or.inl ⟨by rfl, ?_⟩) ?_ ?_
  rotate_left
  · intro w'
    go_simp
    with_reducible rfl
  rotate_left
  · simp only [Act.put, List.setIfInBounds_toArray, List.set_cons_zero, List.set_cons_succ, i64_w, i32_w]
    rfl
  refine take_ (i := 12) (N := some 30) (v := ?_) (a' := ?_) #[true, true, true, true, true, true, true, true, true, true, true, true, true, true, false, false, false] rfl rfl (by kernel_rfl) (fun _ _ _ h => h) (Or.inl ⟨by rfl, ?_⟩) hHeld ?_ ?_
  rotate_left
  · rintro w' ⟨s0, s1, s2⟩
    go_simp
    with_reducible rfl
  rotate_left
  · simp only [Act.put, List.setIfInBounds_toArray, List.set_cons_zero, List.set_cons_succ, i64_w, i32_w]
    rfl
  refine pure_ (i := 14) (N := some 32) (v := ?_) (a' := ?_) #[true, true, true, true, true, true, true, true, true, true, true, true, true, true, true, false, false] rfl rfl (by kernel_rfl) (fun _ _ _ h => h) (Or.inl ⟨by rfl, ?_⟩) ?_ ?_
  rotate_left
  · intro w'
    go_simp
    with_reducible rfl
  rotate_left
  · simp only [Act.put, List.setIfInBounds_toArray, List.set_cons_zero, List.set_cons_succ, i64_w, i32_w]
    rfl
  refine one_ (i := 15) (N := none) #[true, true, true, true, true, true, true, true, true, true, true, true, true, true, true, true, false] rfl rfl (by kernel_rfl) (by decide) (fun K hK => ?_)
  refine skip_ (w1 := ?_) (by rfl) rfl ?_ ?_
  rotate_left
  · go_simp
    rfl
  refine hK.out _ _ ⟨((((hbb.out.far (p := ⟨w.heap.size + 1, 0, none⟩) (by show w.heap.size ≠ w.heap.size + 1; omega) _).far (p := ⟨w.heap.size + 1, 1, none⟩) (by show w.heap.size ≠ w.heap.size + 1; omega) _).far (p := ⟨w.heap.size + 1, 2, none⟩) (by show w.heap.size ≠ w.heap.size + 1; omega) _).cell 0).trans rfl, ((((hbb.out.far (p := ⟨w.heap.size + 1, 0, none⟩) (by show w.heap.size ≠ w.heap.size + 1; omega) _).far (p := ⟨w.heap.size + 1, 1, none⟩) (by show w.heap.size ≠ w.heap.size + 1; omega) _).far (p := ⟨w.heap.size + 1, 2, none⟩) (by show w.heap.size ≠ w.heap.size + 1; omega) _).cell 1).trans rfl, ((((hbb.out.far (p := ⟨w.heap.size + 1, 0, none⟩) (by show w.heap.size ≠ w.heap.size + 1; omega) _).far (p := ⟨w.heap.size + 1, 1, none⟩) (by show w.heap.size ≠ w.heap.size + 1; omega) _).far (p := ⟨w.heap.size + 1, 2, none⟩) (by show w.heap.size ≠ w.heap.size + 1; omega) _).cell 2).trans rfl⟩ (fun hHeld => ?_)
  clear hK K
  refine pure_ (i := 16) (N := some 7) (v := ?_) (a' := ?_) #[true, true, true, true, true, true, true, true, true, true, true, true, true, true, true, true, true] rfl rfl (by kernel_rfl) (fun _ _ _ h => h) (Or.inl ⟨by rfl, ?_⟩) ?_ ?_
  rotate_left
  · intro w'
    go_simp
    with_reducible rfl
  rotate_left
  · simp only [Act.put, List.setIfInBounds_toArray, List.set_cons_zero, List.set_cons_succ, i64_w, i32_w]
    rfl
  refine done_ (by kernel_rfl) ?_
  have r := blk3_set (x := .string (S.extract m S.size)) (y := .slice A' (ts.length - m) (c - m)) (z := .int .i64 last) hrr.out
  have r0 := (r.cell 0).trans rfl
  have r1 := (r.cell 1).trans rfl
  have r2 := (r.cell 2).trans rfl
  simp only [List.getElem?_toArray, List.getElem?_cons_zero, List.getElem?_cons_succ] at r0 r1 r2
  have hB3 := below3_set (x := .string (S.extract m S.size)) (y := .slice A' (ts.length - m) (c - m)) (z := .int .i64 last) hQ.out (Nat.le_succ w.heap.size)
  go_wp2
  have hI := hi0.out.below hB3.drew
  have hD := hI.drop m c hml hcc'.out
  rw [hA2.out] at hD
  refine bodyPost_ret (v := .tuple #[cg (S.extract m S.size) A' (ts.length - m) (c - m) last, .string (S.extract 0 m)]) (by simp [results, Tryz.results29, go_sem, r0, r1, r2, cg]) rfl ⟨_, rfl, ⟨A', c - m, by rw [List.length_drop], hD, by rw [List.length_drop]; have := hcc'.out; omega⟩, hB3.drew⟩

theorem take_none (w : World) (S : ByteArray) (A : Option Addr) (c : Nat) (ts : List Int) (last now most : Int) (hi : IR w A ts) (hs : S.size = ts.length) (hz : ts.length ≤ 1000000000000) (hcc : ts.length ≤ c) (m : Nat) (hm : takeM now most ts = m) (h1 : most < (cnt now ts : Int)) (h2 : most < 0) :
    Calls Tryz.prog 29 #[cg S A ts.length c last, .int .i64 now, .int .i64 most] w fun e w' => ∃ v, e = .returned (.tuple #[v, .string (S.extract 0 m)]) ∧ RefIs w' v (S.extract m S.size) (ts.drop m) last ∧ Below w.heap.size w w' := by
  have hcl := cnt_le now ts
  have hml : m ≤ ts.length := by rw [← hm]; unfold takeM; omega
  have hmc : m = 0 := by rw [← hm]; unfold takeM; omega
  subst hmc
  have hS := Lib.hid hs
  have hi0 := Lib.hid hi
  have hcc' := Lib.hid hcc
  unfold cg
  clear hi hs hcc hm
  go_enter Tryz.func29, Tryz.ntmps29
  go_wp2_with fail
  obtain ⟨W0, hW⟩ : ∃ W, W = (w.alloc (.cells #[.string S, .slice A ts.length c, .int .i64 last] 36)).alloc (.cells #[.string ⟨#[]⟩, .slice none 0 0, .int .i64 0] 36) := ⟨_, rfl⟩
  rw [← hW]
  have hB : Below w.heap.size w W0 := by rw [hW]; exact ((Below.refl _ _).alloc (Nat.le_refl _) _).alloc (by simp) _
  have hbx : Blk W0 w.heap.size 36 #[.string S, .slice A ts.length c, .int .i64 last] := by rw [hW]; exact (Blk.new w _ _).below ((Below.refl _ _).alloc (Nat.le_refl _) _)
  have hrs : Blk W0 (w.heap.size + 1) 36 #[.string ⟨#[]⟩, .slice none 0 0, .int .i64 0] := by
    rw [hW]
    have := Blk.new (w.alloc (.cells #[.string S, .slice A ts.length c, .int .i64 last] 36)) 36 #[.string ⟨#[]⟩, .slice none 0 0, .int .i64 0]
    simpa using this
  clear hW
  refine (ready_any W0 S A c ts last now (hi0.out.below hB) hS.out hz).mono ?_
  rintro e W ⟨rfl, hBW⟩
  have c0 : W.cell? ⟨w.heap.size, 0, none⟩ = some (.string S) := ((hbx.below hBW).cell 0).trans rfl
  have c1 : W.cell? ⟨w.heap.size, 1, none⟩ = some (.slice A ts.length c) := ((hbx.below hBW).cell 1).trans rfl
  have c2 : W.cell? ⟨w.heap.size, 2, none⟩ = some (.int .i64 last) := ((hbx.below hBW).cell 2).trans rfl
  have hrr := Lib.hid (hrs.below hBW)
  have hbb := Lib.hid (show Blk W.drew w.heap.size 36 #[.string S, .slice A ts.length c, .int .i64 last] from (hbx.below hBW : Blk W _ _ _))
  have z0 : W.cell? ⟨w.heap.size + 1, 0, none⟩ = some (.string ⟨#[]⟩) := (hrr.out.cell 0).trans rfl
  have z1 : W.cell? ⟨w.heap.size + 1, 1, none⟩ = some (.slice none 0 0) := (hrr.out.cell 1).trans rfl
  have z2 : W.cell? ⟨w.heap.size + 1, 2, none⟩ = some (.int .i64 0) := (hrr.out.cell 2).trans rfl
  have y0 := hrr.out.free 0
  have y1 := hrr.out.free 1
  have y2 := hrr.out.free 2
  have hQ := Lib.hid (hB.trans (hBW.mono hB.size))
  clear hB hbx hrs hBW
  generalize cnt now ts = n at *
  have hd : decide (most < (n : Int)) = true := decide_eq_true (by omega)
  have hd2 : decide (most < 0) = true := decide_eq_true (by omega)
  obtain ⟨A', hA'⟩ : ∃ A', (if c = 0 then A else A.map (·.add 0)) = A' := ⟨_, rfl⟩
  obtain ⟨i1, hi1, _, hs1, _⟩ := info_parts info_int
  have hcut : ∀ W : World, (Instr.slice 34 (.slice A ts.length c) (some (.int .i64 0)) none none).run Tryz.prog W = .ok (.slice A' (ts.length - 0) (c - 0)) W := by
    intro W
    have := cut_from (P := Tryz.prog) 34 3 .i64 Tryz.underlying34 hi1 1 hs1 A ts.length c 0 (by omega) (by omega) W
    rw [this, ← hA']
    simp
  have hA2 := Lib.hid hA'
  have hSl : (S.size : Int) = ts.length := by have := hS.out; omega
  have hSm : 0 ≤ S.size := by have := hS.out; omega
  have hSm' : (0 : Int) ≤ S.size := by omega
  have hm0 : (0 : Int) ≤ (0 : Int) := by omega
  have hSl' := Lib.hid hSl
  clear hA' hi1 hs1 hSl
  go_wp2
  refine start_ (n := 17) (S := fun w' => w'.cell? ⟨w.heap.size, 0, none⟩ = some (.string S) ∧ w'.cell? ⟨w.heap.size, 1, none⟩ = some (.slice A ts.length c) ∧ w'.cell? ⟨w.heap.size, 2, none⟩ = some (.int .i64 last)) (ds := []) #[false, false, false, false, false, false, false, false, false, false, false, false, false, false, false, false, false] (by kernel_rfl) rfl rfl ⟨c0, c1, c2⟩ (fun hHeld => ?_)
  refine pure_ (i := 0) (N := some 18) (v := ?_) (a' := ?_) #[true, false, false, false, false, false, false, false, false, false, false, false, false, false, false, false, false] rfl rfl (by kernel_rfl) (fun _ _ _ h => h) (Or.inl ⟨by rfl, ?_⟩) ?_ ?_
  rotate_left
  · intro w'
    go_simp
    with_reducible rfl
  rotate_left
  · simp only [Act.put, List.setIfInBounds_toArray, List.set_cons_zero, List.set_cons_succ, i64_w, i32_w]
    rfl
  refine pure_ (i := 2) (N := some 20) (v := ?_) (a' := ?_) #[true, false, true, false, false, false, false, false, false, false, false, false, false, false, false, false, false] rfl rfl (by kernel_rfl) (fun _ _ _ h => h) (Or.inl ⟨by rfl, ?_⟩) ?_ ?_
  rotate_left
  · intro w'
    go_simp
    with_reducible rfl
  rotate_left
  · simp only [Act.put, List.setIfInBounds_toArray, List.set_cons_zero, List.set_cons_succ, i64_w, i32_w]
    rfl
  refine pure_ (i := 4) (N := some 22) (v := ?_) (a' := ?_) #[true, false, true, false, true, false, false, false, false, false, false, false, false, false, false, false, false] rfl rfl (by kernel_rfl) (fun _ _ _ h => h) (Or.inl ⟨by rfl, ?_⟩) ?_ ?_
  rotate_left
  · intro w'
    go_simp
    with_reducible rfl
  rotate_left
  · simp only [Act.put, List.setIfInBounds_toArray, List.set_cons_zero, List.set_cons_succ, i64_w, i32_w]
    rfl
  refine pure_ (i := 6) (N := some 24) (v := ?_) (a' := ?_) #[true, false, true, false, true, false, true, false, false, false, false, false, false, false, false, false, false] rfl rfl (by kernel_rfl) (fun _ _ _ h => h) (Or.inl ⟨by rfl, ?_⟩) ?_ ?_
  rotate_left
  · intro w'
    go_simp
    with_reducible rfl
  rotate_left
  · simp only [Act.put, List.setIfInBounds_toArray, List.set_cons_zero, List.set_cons_succ, i64_w, i32_w]
    rfl
  refine pure_ (i := 8) (N := some 26) (v := ?_) (a' := ?_) #[true, false, true, false, true, false, true, false, true, false, false, false, false, false, false, false, false] rfl rfl (by kernel_rfl) (fun _ _ _ h => h) (Or.inl ⟨by rfl, ?_⟩) ?_ ?_
  rotate_left
  · intro w'
    go_simp
    with_reducible rfl
  rotate_left
  · simp only [Act.put, List.setIfInBounds_toArray, List.set_cons_zero, List.set_cons_succ, i64_w, i32_w]
    rfl
  refine pure_ (i := 11) (N := some 29) (v := ?_) (a' := ?_) #[true, false, true, false, true, false, true, false, true, false, false, true, false, false, false, false, false] rfl rfl (by kernel_rfl) (fun _ _ _ h => h) (Or.inl ⟨by rfl, ?_⟩) ?_ ?_
  rotate_left
  · intro w'
    go_simp
    with_reducible rfl
  rotate_left
  · simp only [Act.put, List.setIfInBounds_toArray, List.set_cons_zero, List.set_cons_succ, i64_w, i32_w]
    rfl
  refine pure_ (i := 13) (N := some 31) (v := ?_) (a' := ?_) #[true, false, true, false, true, false, true, false, true, false, false, true, false, true, false, false, false] rfl rfl (by kernel_rfl) (fun _ _ _ h => h) (Or.inl ⟨by rfl, ?_⟩) ?_ ?_
  rotate_left
  · intro w'
    go_simp
    with_reducible rfl
  rotate_left
  · simp only [Act.put, List.setIfInBounds_toArray, List.set_cons_zero, List.set_cons_succ, i64_w, i32_w]
    rfl
  refine take_ (i := 1) (N := some 19) (v := ?_) (a' := ?_) #[true, true, true, false, true, false, true, false, true, false, false, true, false, true, false, false, false] rfl rfl (by kernel_rfl) (fun _ _ _ h => h) (Or.inl ⟨by rfl, ?_⟩) hHeld ?_ ?_
  rotate_left
  · rintro w' ⟨s0, s1, s2⟩
    go_simp
    with_reducible rfl
  rotate_left
  · simp only [Act.put, List.setIfInBounds_toArray, List.set_cons_zero, List.set_cons_succ, i64_w, i32_w]
    rfl
  refine pure_ (i := 3) (N := some 21) (v := ?_) (a' := ?_) #[true, true, true, true, true, false, true, false, true, false, false, true, false, true, false, false, false] rfl rfl (by kernel_rfl) (fun _ _ _ h => h) (Or.inl ⟨by rfl, ?_⟩) ?_ ?_
  rotate_left
  · intro w'
    go_simp
    with_reducible rfl
  rotate_left
  · simp only [Act.put, List.setIfInBounds_toArray, List.set_cons_zero, List.set_cons_succ, i64_w, i32_w]
    rfl
  refine take_ (i := 5) (N := some 23) (v := ?_) (a' := ?_) #[true, true, true, true, true, true, true, false, true, false, false, true, false, true, false, false, false] rfl rfl (by kernel_rfl) (fun _ _ _ h => h) (Or.inl ⟨by rfl, ?_⟩) hHeld ?_ ?_
  rotate_left
  · rintro w' ⟨s0, s1, s2⟩
    go_simp
    with_reducible rfl
  rotate_left
  · simp only [Act.put, List.setIfInBounds_toArray, List.set_cons_zero, List.set_cons_succ, i64_w, i32_w]
    rfl
  refine pure_ (i := 7) (N := some 25) (v := ?_) (a' := ?_) #[true, true, true, true, true, true, true, true, true, false, false, true, false, true, false, false, false] rfl rfl (by kernel_rfl) (fun _ _ _ h => h) (Or.inl ⟨by rfl, ?_⟩) ?_ ?_
  rotate_left
  · intro w'
    go_simp
    with_reducible rfl
  rotate_left
  · simp only [Act.put, List.setIfInBounds_toArray, List.set_cons_zero, List.set_cons_succ, i64_w, i32_w]
    rfl
  refine take_ (i := 9) (N := some 27) (v := ?_) (a' := ?_) #[true, true, true, true, true, true, true, true, true, true, false, true, false, true, false, false, false] rfl rfl (by kernel_rfl) (fun _ _ _ h => h) (Or.inl ⟨by rfl, ?_⟩) hHeld ?_ ?_
  rotate_left
  · rintro w' ⟨s0, s1, s2⟩
    go_simp
    with_reducible rfl
  rotate_left
  · simp only [Act.put, List.setIfInBounds_toArray, List.set_cons_zero, List.set_cons_succ, i64_w, i32_w]
    rfl
  refine pure_ (i := 10) (N := some 28) (v := ?_) (a' := ?_) #[true, true, true, true, true, true, true, true, true, true, true, true, false, true, false, false, false] rfl rfl (by kernel_rfl) (fun _ _ _ h => h) (Or.inl ⟨by rfl, ?_⟩) ?_ ?_
  rotate_left
  · intro w'
    go_simp
    with_reducible rfl
  rotate_left
  · simp only [Act.put, List.setIfInBounds_toArray, List.set_cons_zero, List.set_cons_succ, i64_w, i32_w]
    rfl
  refine take_ (i := 12) (N := some 30) (v := ?_) (a' := ?_) #[true, true, true, true, true, true, true, true, true, true, true, true, true, true, false, false, false] rfl rfl (by kernel_rfl) (fun _ _ _ h => h) (Or.inl ⟨by rfl, ?_⟩) hHeld ?_ ?_
  rotate_left
  · rintro w' ⟨s0, s1, s2⟩
    go_simp
    with_reducible rfl
  rotate_left
  · simp only [Act.put, List.setIfInBounds_toArray, List.set_cons_zero, List.set_cons_succ, i64_w, i32_w]
    rfl
  refine pure_ (i := 14) (N := some 32) (v := ?_) (a' := ?_) #[true, true, true, true, true, true, true, true, true, true, true, true, true, true, true, false, false] rfl rfl (by kernel_rfl) (fun _ _ _ h => h) (Or.inl ⟨by rfl, ?_⟩) ?_ ?_
  rotate_left
  · intro w'
    go_simp
    with_reducible rfl
  rotate_left
  · simp only [Act.put, List.setIfInBounds_toArray, List.set_cons_zero, List.set_cons_succ, i64_w, i32_w]
    rfl
  refine one_ (i := 15) (N := none) #[true, true, true, true, true, true, true, true, true, true, true, true, true, true, true, true, false] rfl rfl (by kernel_rfl) (by decide) (fun K hK => ?_)
  refine skip_ (w1 := ?_) (by rfl) rfl ?_ ?_
  rotate_left
  · go_simp
    rfl
  refine hK.out _ _ ⟨((((hbb.out.far (p := ⟨w.heap.size + 1, 0, none⟩) (by show w.heap.size ≠ w.heap.size + 1; omega) _).far (p := ⟨w.heap.size + 1, 1, none⟩) (by show w.heap.size ≠ w.heap.size + 1; omega) _).far (p := ⟨w.heap.size + 1, 2, none⟩) (by show w.heap.size ≠ w.heap.size + 1; omega) _).cell 0).trans rfl, ((((hbb.out.far (p := ⟨w.heap.size + 1, 0, none⟩) (by show w.heap.size ≠ w.heap.size + 1; omega) _).far (p := ⟨w.heap.size + 1, 1, none⟩) (by show w.heap.size ≠ w.heap.size + 1; omega) _).far (p := ⟨w.heap.size + 1, 2, none⟩) (by show w.heap.size ≠ w.heap.size + 1; omega) _).cell 1).trans rfl, ((((hbb.out.far (p := ⟨w.heap.size + 1, 0, none⟩) (by show w.heap.size ≠ w.heap.size + 1; omega) _).far (p := ⟨w.heap.size + 1, 1, none⟩) (by show w.heap.size ≠ w.heap.size + 1; omega) _).far (p := ⟨w.heap.size + 1, 2, none⟩) (by show w.heap.size ≠ w.heap.size + 1; omega) _).cell 2).trans rfl⟩ (fun hHeld => ?_)
  clear hK K
  refine pure_ (i := 16) (N := some 7) (v := ?_) (a' := ?_) #[true, true, true, true, true, true, true, true, true, true, true, true, true, true, true, true, true] rfl rfl (by kernel_rfl) (fun _ _ _ h => h) (Or.inl ⟨by rfl, ?_⟩) ?_ ?_
  rotate_left
  · intro w'
    go_simp
    with_reducible rfl
  rotate_left
  · simp only [Act.put, List.setIfInBounds_toArray, List.set_cons_zero, List.set_cons_succ, i64_w, i32_w]
    rfl
  refine done_ (by kernel_rfl) ?_
  have r := blk3_set (x := .string S) (y := .slice A' ts.length c) (z := .int .i64 last) hrr.out
  have r0 := (r.cell 0).trans rfl
  have r1 := (r.cell 1).trans rfl
  have r2 := (r.cell 2).trans rfl
  simp only [List.getElem?_toArray, List.getElem?_cons_zero, List.getElem?_cons_succ] at r0 r1 r2
  have hB3 := below3_set (x := .string S) (y := .slice A' ts.length c) (z := .int .i64 last) hQ.out (Nat.le_succ w.heap.size)
  go_wp2
  have hI := hi0.out.below hB3.drew
  have hD := hI.drop 0 c hml hcc'.out
  rw [hA2.out] at hD
  have e3 : S.extract 0 0 = ByteArray.empty := by simp
  have e4 : S.extract 0 S.size = S := ByteArray.extract_zero_size
  rw [e3, e4]
  refine bodyPost_ret (v := .tuple #[cg S A' ts.length c last, .string ByteArray.empty]) (by simp [results, Tryz.results29, go_sem, r0, r1, r2, cg]) rfl ⟨_, rfl, ⟨A', c, rfl, hD, hcc'.out⟩, hB3.drew⟩

theorem take_any (w : World) (v : Value) (S : ByteArray) (ts : List Int) (last now most : Int) (hv : RefIs w v S ts last) (hs : S.size = ts.length) (hz : ts.length ≤ 1000000000000) :
    Calls Tryz.prog 29 #[v, .int .i64 now, .int .i64 most] w fun e w' => ∃ v', e = .returned (.tuple #[v', .string (S.extract 0 (takeM now most ts))]) ∧ RefIs w' v' (S.extract (takeM now most ts) S.size) (ts.drop (takeM now most ts)) last ∧ Below w.heap.size w w' := by
  obtain ⟨A, c, rfl, hi, hc⟩ := hv
  by_cases h1 : (cnt now ts : Int) ≤ most
  · exact take_all w S A c ts last now most hi hs hz hc _ rfl h1
  · by_cases h2 : most < 0
    · exact take_none w S A c ts last now most hi hs hz hc _ rfl (by omega) h2
    · exact take_some w S A c ts last now most hi hs hz hc _ rfl (by omega) (by omega)
theorem put_any (w : World) (v : Value) (S : ByteArray) (ts : List Int) (last at_ : Int) (s : ByteArray) (hv : RefIs w v S ts last) (hz : ts.length + s.size ≤ 1000000000000) (hzS : S.size + s.size ≤ 1000000000000) :
    Calls Tryz.prog 73 #[v, .int .i64 at_, .string s] w fun e w' => ∃ v', e = .returned (.tuple #[v', .int .i64 (refAt last at_)]) ∧ RefIs w' v' (S ++ s) (ts ++ List.replicate s.size (refAt last at_)) (if s.size = 0 then last else refAt last at_) ∧ Below w.heap.size w w' := by
  obtain ⟨A, c, rfl, hi, hc⟩ := hv
  by_cases hs : 0 < s.size
  · rw [if_neg (by omega)]
    by_cases hl : nr at_ < last
    · exact put_some_late w S A c ts last at_ s hi hs hz hzS hl
    · exact put_some_soon w S A c ts last at_ s hi hs hz hzS hl
  · obtain rfl := empty_of hs
    have e1 : S ++ (⟨#[]⟩ : ByteArray) = S := app_nil S
    have e2 : ts ++ List.replicate (⟨#[]⟩ : ByteArray).size (refAt last at_) = ts := by show ts ++ [] = ts; simp
    have e3 : (if (⟨#[]⟩ : ByteArray).size = 0 then last else refAt last at_) = last := if_pos rfl
    rw [e1, e2, e3]
    by_cases hl : nr at_ < last
    · exact (put_none_late w S A c ts last at_ hi hl).mono fun e w' ⟨he, hI, hB⟩ => ⟨_, he, ⟨A, c, rfl, hI, hc⟩, hB⟩
    · exact (put_none_soon w S A c ts last at_ hi hl).mono fun e w' ⟨he, hI, hB⟩ => ⟨_, he, ⟨A, c, rfl, hI, hc⟩, hB⟩
end Go.Proofs.YtehpliclknfmoaaGreat.Ref07
namespace Go.Proofs.YtehpliclknfmoaaGreat.Ref07
open Go.RowKit Mem Tick Cargo
open Go.Proofs.YtehpliclknfmoaaGreatW.PrintLast
set_option maxRecDepth 100000
set_option linter.unusedVariables false
set_option linter.unusedSimpArgs false
def putL (last at_ : Int) (s : ByteArray) : Int := if s.size = 0 then last else refAt last at_
theorem put_anyL (w : World) (v : Value) (S : ByteArray) (ts : List Int) (last at_ : Int) (s : ByteArray) (hv : RefIs w v S ts last) (hz : ts.length + s.size ≤ 1000000000000) (hzS : S.size + s.size ≤ 1000000000000) :
    Calls Tryz.prog 73 #[v, .int .i64 at_, .string s] w fun e w' => ∃ v', e = .returned (.tuple #[v', .int .i64 (refAt last at_)]) ∧ RefIs w' v' (S ++ s) (ts ++ List.replicate s.size (refAt last at_)) (putL last at_ s) ∧ Below w.heap.size w w' := put_any w v S ts last at_ s hv hz hzS
end Go.Proofs.YtehpliclknfmoaaGreat.Ref07
namespace Go.Proofs.YtehpliclknfmoaaGreat.Ref07
open Go.RowKit Mem Tick Cargo
set_option linter.unusedVariables false
set_option linter.unusedSimpArgs false
def tk : List Pc → List Int
  | [] => []
  | p :: r => List.replicate p.2.size p.1 ++ tk r
theorem tk_length : ∀ ps : List Pc, (tk ps).length = tot ps
  | [] => rfl
  | p :: r => by simp [tk, tot, tk_length r]
theorem tk_append (a b : List Pc) : tk (a ++ b) = tk a ++ tk b := by induction a with | nil => rfl | cons p r ih => simp [tk, ih]
theorem tk_join : ∀ (ps : List Pc) (t : Int) (s : ByteArray), joinedB ps t = true → tk (joinP ps s) = tk ps ++ List.replicate s.size t
  | [], t, s, h => by simp [joinedB] at h
  | [p], t, s, h => by
    have : p.1 = t := by simpa [joinedB] using h
    subst this
    simp [joinP, tk, ByteArray.size_append, ← List.replicate_append_replicate]
  | p :: q :: r, t, s, h => by
    have := tk_join (q :: r) t s (by simpa [joinedB] using h)
    rw [joinP, tk, this, tk]
    simp [tk]
theorem tk_add (ps : List Pc) (t : Int) (s : ByteArray) : tk (addP ps t s) = tk ps ++ List.replicate s.size t := by
  unfold addP
  split
  · rename_i h
    rw [isEmpty_size] at h
    have : s.size = 0 := by simpa using h
    rw [this]; simp
  · split
    · rename_i h; exact tk_join ps t s h
    · rw [tk_append]; simp [tk]
theorem tk_take : ∀ (n : Nat) (ps : List Pc), tk (takeP n ps).2 = (tk ps).drop n
  | n, [] => by simp [takeP, tk]
  | n, p :: r => by
    unfold takeP
    split
    · subst n; rfl
    · split
      · rename_i h
        simp only [tk, ByteArray.size_extract]
        rw [List.drop_append, List.drop_replicate, List.length_replicate, show n - p.2.size = 0 by omega, List.drop_zero, Nat.min_self]
      · rename_i h
        rw [tk_take, tk, List.drop_append, List.drop_replicate, List.length_replicate, show p.2.size - n = 0 by omega]
        simp
theorem cnt_rep (now t : Int) (n : Nat) (r : List Int) : cnt now (List.replicate n t ++ r) = if t ≤ now then n + cnt now r else (if n = 0 then cnt now r else 0) := by
  induction n with
  | zero => simp
  | succ n ih =>
    rw [List.replicate_succ, List.cons_append, cnt, ih]
    by_cases ht : t ≤ now
    · rw [if_pos ht, if_pos ht, if_pos ht]; omega
    · rw [if_neg ht, if_neg ht, if_neg (by omega)]
theorem cnt_tk (now : Int) : ∀ ps : List Pc, Full ps → (ats ps).Pairwise (· < ·) → cnt now (tk ps) = rdy now ps
  | [], _, _ => rfl
  | p :: r, hf, h => by
    have h' := h
    simp only [ats, List.map_cons] at h
    obtain ⟨h1, h2⟩ := List.pairwise_cons.1 h
    have hp := hf p (List.mem_cons_self ..)
    rw [tk, cnt_rep, cnt_tk now r hf.tail h2, rdy]
    by_cases hn : p.1 ≤ now
    · rw [if_pos hn, if_pos hn]
    · rw [if_neg hn, if_neg hn, if_neg (by omega), rdy_no (fun a ha => by have := h1 a ha; omega)]
theorem ref_at (last at_ : Int) : refAt last at_ = putAt last at_ := by
  have h0 : Tick.add at_ 0 = nr at_ := by
    show nr (nr at_ + nr 0) = nr at_
    have := nr_bd at_
    rw [show nr 0 = 0 from rfl, Int.add_zero, nr_in this.1 this.2]
  unfold refAt putAt
  rw [h0]
  split <;> omega
theorem ext_left (a b : ByteArray) : (a ++ b).extract 0 a.size = a := ByteArray.extract_append_eq_left rfl
theorem ext_right (a b : ByteArray) : (a ++ b).extract a.size (a ++ b).size = b := ByteArray.extract_append_eq_right rfl (by rw [ByteArray.size_append])
end Go.Proofs.YtehpliclknfmoaaGreat.Ref07
