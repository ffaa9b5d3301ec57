/- Plain law of StageLatency (chapter 10): each byte's tick. No condition. -/
import Derived.Test.YtehpliclknfmoaaStageS
namespace Go.Proofs.Ytehpliclknfmoaa.Stage
open Go.RowKit Mem Tick Cargo Toxic
set_option linter.unusedVariables false
set_option linter.unusedSimpArgs false
def AllB (Q : Int → UInt8 → Prop) (ps : List Pc) : Prop := ∀ p ∈ ps, ∀ x ∈ p.2.data.toList, Q p.1 x
variable {Q Q' : Int → UInt8 → Prop}
theorem AllB.mono {ps : List Pc} (h : AllB Q ps) (hq : ∀ t x, Q t x → Q' t x) : AllB Q' ps := fun p hp x hx => hq _ _ (h p hp x hx)
theorem AllB.tail {p : Pc} {r : List Pc} (h : AllB Q (p :: r)) : AllB Q r := fun q hq => h q (List.mem_cons_of_mem _ hq)
theorem AllB.join : ∀ {ps : List Pc} {t : Int} {s : ByteArray}, AllB Q ps → joinedB ps t = true → (∀ x ∈ s.data.toList, Q t x) → AllB Q (joinP ps s)
  | [], t, s, h, hj, hs => by simp [joinP]; exact h
  | [p], t, s, h, hj, hs => by
    have hp : p.1 = t := by simpa [joinedB] using hj
    intro q hq x hx
    simp [joinP] at hq
    subst hq
    simp at hx
    rcases hx with hx | hx
    · exact h p (by simp) x (by simpa using hx)
    · rw [← hp] at hs; exact hs x (by simpa using hx)
  | p :: q :: r, t, s, h, hj, hs => by
    have hj' : joinedB (q :: r) t = true := by simpa [joinedB] using hj
    have ih := AllB.join h.tail hj' hs
    intro z hz x hx
    simp only [joinP, List.mem_cons] at hz
    rcases hz with rfl | hz
    · exact h z (List.mem_cons_self ..) x hx
    · exact ih z hz x hx
theorem AllB.add {ps : List Pc} {t : Int} {s : ByteArray} (h : AllB Q ps) (hs : ∀ x ∈ s.data.toList, Q t x) : AllB Q (addP ps t s) := by
  unfold addP
  split
  · exact h
  · split
    · rename_i hj
      exact h.join hj hs
    · intro p hp x hx
      rcases List.mem_append.1 hp with hp | hp
      · exact h p hp x hx
      · simp at hp; subst hp; exact hs x hx
theorem ext_mem {s : ByteArray} {a b : Nat} {x : UInt8} (h : x ∈ (s.extract a b).data.toList) : x ∈ s.data.toList := by
  simp only [ByteArray.data_extract, Array.toList_extract] at h
  rw [List.extract_eq_take_drop] at h
  exact List.mem_of_mem_drop (List.mem_of_mem_take h)
theorem AllB.take : ∀ (n : Nat) {ps : List Pc}, AllB Q ps → AllB Q (takeP n ps).2
  | n, [], h => by simp [takeP]; exact h
  | n, p :: r, h => by
    unfold takeP
    split
    · exact h
    · split
      · intro q hq x hx
        rcases List.mem_cons.1 hq with rfl | hq
        · exact h p (List.mem_cons_self ..) x (ext_mem hx)
        · exact h q (List.mem_cons_of_mem _ hq) x hx
      · exact AllB.take _ h.tail
theorem AllB.out {now : Int} : ∀ (n : Nat) {ps : List Pc}, AllB Q ps → (ats ps).Pairwise (· < ·) → n ≤ rdy now ps → ∀ x ∈ (takeP n ps).1.data.toList, ∃ t, t ≤ now ∧ Q t x
  | n, [], h, ha, hn, x, hx => by simp [takeP] at hx
  | n, p :: r, h, ha, hn, x, hx => by
    unfold takeP at hx
    split at hx
    · simp at hx
    · rename_i h0
      have hp : p.1 ≤ now := by
        by_cases e : p.1 ≤ now
        · exact e
        · have hz : rdy now (p :: r) = 0 := rdy_no fun a ha' => by
            rcases List.mem_cons.1 (show a ∈ p.1 :: ats r from ha') with rfl | h'
            · omega
            · have := (List.pairwise_cons.1 (show (p.1 :: ats r).Pairwise (· < ·) from ha)).1 a h'
              omega
          omega
      split at hx
      · exact ⟨p.1, hp, h p (List.mem_cons_self ..) x (ext_mem hx)⟩
      · have hr : rdy now (p :: r) = p.2.size + rdy now r := by simp [rdy, hp]
        simp at hx
        rcases hx with hx | hx
        · exact ⟨p.1, hp, h p (List.mem_cons_self ..) x (by simpa using hx)⟩
        · exact AllB.out (n - p.2.size) h.tail (List.pairwise_cons.1 (show (p.1 :: ats r).Pairwise (· < ·) from ha)).2 (by omega) x (by simpa using hx)
/-! a latency -/
theorem range_bd (d lo hi : Int) (h : lo ≤ hi) (h0 : -1099511627776 ≤ lo) (h1 : hi ≤ 1099511627776) : lo ≤ Ref02.rangeN d lo hi ∧ Ref02.rangeN d lo hi ≤ hi := by
  have := Ref02.hiI_bd d (hi - lo + 1) (by omega)
  unfold Ref02.rangeN
  rw [if_neg (by omega)]
  omega
theorem add_in (a n : Int) (h0 : 0 ≤ a) (h1 : a ≤ 1099511627776) (h2 : 0 ≤ n) (h3 : n ≤ 1099511627776) : Tick.add a n = min (a + n) 1099511627776 := by
  unfold Tick.add
  rw [nr_in h0 h1, nr_in h2 h3]
  by_cases h : a + n ≤ 1099511627776
  · rw [nr_in (by omega) h]; omega
  · rw [nr_top (by omega)]; omega
structure LaI (lag jit : Int) (T : Tox) (now : Int) (at_ : List Int) (s : Sg) : Prop where
  t : s.t = T
  cl : s.closed = false
  st : s.state = 0
  ck : s.clock = now
  rm : s.room = 100
  b : AllB (fun t x => x.toNat < at_.length ∧ (∀ a, at_[x.toNat]? = some a → Tick.add a (lag - jit) ≤ t) ∧ t ≤ now + lag + jit) s.c.1
  la : s.c.2 ≤ now + lag + jit
  hd : held s ≤ at_.length
  ats_ : ∀ a ∈ at_, 0 ≤ a ∧ a ≤ now
def bOne (n : Nat) : ByteArray := ⟨#[UInt8.ofNat n]⟩
theorem LaI.look {lag jit : Int} {T : Tox} {now : Int} {at_ : List Int} {s : Sg} (h : LaI lag jit T now at_ s) (hk : T.kind = 1) (N : Int) (h1 : now ≤ N) (h2 : Tick.add N 0 = N) : LaI lag jit T N at_ (lookP s N) := by
  have ht : (nowP s N).t = T := h.t
  have hst : (lookP s N).state = 0 := lookS_plain (by rw [ht]; omega) (by rw [ht]; omega) (by rw [ht]; omega) h.cl h.st
  have hck : (lookP s N).clock = N := by show max s.clock (Tick.add N 0) = N; rw [h.ck, h2]; omega
  have hla := h.la
  exact ⟨h.t, h.cl, hst, hck, h.rm, AllB.mono h.b (fun t x hq => ⟨hq.1, hq.2.1, by omega⟩), by show s.c.2 ≤ _; omega, h.hd, fun a ha => by have := h.ats_ a ha; omega⟩
theorem LaI.put {lag jit : Int} {T : Tox} {now : Int} {at_ : List Int} {s : Sg} (h : LaI lag jit T now at_ s) (hk : T.kind = 1) (ha : T.a = lag) (hb : T.b = jit) (hj : jit ≤ lag) (hj0 : 0 ≤ jit) (hl : lag ≤ 1000000) (N : Int) (h1 : now ≤ N) (h2 : Tick.add N 0 = N)
    (h0 : 0 ≤ N) (h3 : N ≤ 1099511627776) (hlen : at_.length < 60) : putN s N (bOne at_.length) = 1 ∧ LaI lag jit T N (at_ ++ [N]) (putS s N (bOne at_.length)) := by
  have hL := h.look hk N h1 h2
  have hL2 := hL.look hk N (Int.le_refl _) h2
  have hid : lookP (lookP s N) N = lookP s N := by
    have e1 : nowP (lookP s N) N = lookP s N := by
      show ({ lookP s N with clock := max (lookP s N).clock (Tick.add N 0) } : Sg) = lookP s N
      rw [hL.ck, h2, show max N N = N by omega]
      have := hL.ck
      generalize lookP s N = s1 at *
      subst this
      rfl
    have e2 : lookS (lookP s N) = (lookP s N).state := by
      rw [hL.st]
      exact lookS_plain (by rw [hL.t]; omega) (by rw [hL.t]; omega) (by rw [hL.t]; omega) hL.cl hL.st
    show ({ nowP (lookP s N) N with state := lookS (nowP (lookP s N) N) } : Sg) = lookP s N
    rw [e1, e2]
  have hno : ¬ ((lookP s N).state ≠ 0 ∨ (lookP s N).closed = true) := by
    rw [hL.st, hL.cl]; simp
  have hfree : roomFor (lookP s N) (bOne at_.length) = 1 := by
    have := hL.hd
    have e : (bOne at_.length).size = 1 := rfl
    unfold roomFor Stage.free
    rw [hL.rm, e]
    omega
  have hN1 : putN s N (bOne at_.length) = 1 := by unfold putN; rw [if_neg hno]; exact hfree
  refine ⟨hN1, ?_⟩
  have hex : (bOne at_.length).extract 0 1 = bOne at_.length := by rfl
  have hS : putS s N (bOne at_.length) = putIn (diceP (lookP s N)) (whenP (lookP s N)) (bOne at_.length) := by
    unfold putS
    rw [if_neg hno, hfree, hex]
    unfold forceP
    rw [hid, if_neg]
    rw [hL.st]
    intro h
    rcases h with h | h
    · exact h rfl
    · exact absurd (show (bOne at_.length).size = 1 from rfl) (by rw [h]; decide)
  rw [hS]
  have hd := dice_same (lookP s N)
  generalize lookP s N = s1 at *
  have hlo : loP s1 = lag - jit := by unfold loP wrap64; rw [hL.t, ha, hb]; omega
  have hhi : hiP s1 = lag + jit := by unfold hiP wrap64; rw [hL.t, ha, hb]; omega
  have hr := range_bd s1.dice (lag - jit) (lag + jit) (by omega) (by omega) (by omega)
  have hw : whenP s1 = min (N + Ref02.rangeN s1.dice (lag - jit) (lag + jit)) 1099511627776 := by
    unfold whenP
    rw [if_pos (by rw [hL.t]; exact hk), hlo, hhi, hL.ck]
    exact add_in N _ h0 h3 (by omega) (by omega)
  have hpa : putAt (diceP s1).c.2 (whenP s1) = max (whenP s1) s1.c.2 := by
    unfold putAt
    rw [dice_c, add_zero, nr_in (by omega) (by omega)]
  have hlen2 : (at_ ++ [N]).length = at_.length + 1 := by simp
  have hla := hL.la
  refine ⟨hd.1.trans hL.t, hd.2.1.trans hL.cl, hd.2.2.1.trans hL.st, hd.2.2.2.1.trans hL.ck, ?_, ?_, ?_, ?_, ?_⟩
  · show (diceP s1).room = 100
    rw [← hL.rm]; unfold diceP; split <;> rfl
  · show AllB _ (addP (diceP s1).c.1 (putAt (diceP s1).c.2 (whenP s1)) (bOne at_.length))
    rw [hpa, dice_c]
    refine AllB.add (AllB.mono hL.b fun t x hq => ⟨by rw [hlen2]; omega, fun a hx => hq.2.1 a ?_, hq.2.2⟩) ?_
    · rw [List.getElem?_append_left hq.1] at hx; exact hx
    · intro x hx
      have hxe : x = UInt8.ofNat at_.length := by simpa [bOne] using hx
      have hxn : x.toNat = at_.length := by rw [hxe]; simp; omega
      refine ⟨by rw [hlen2]; omega, fun a hx => ?_, by omega⟩
      rw [hxn] at hx
      simp at hx
      subst hx
      rw [add_in N (lag - jit) h0 h3 (by omega) (by omega)]
      omega
  · show putLast (diceP s1).c.2 (whenP s1) (bOne at_.length) ≤ _
    unfold putLast
    rw [hpa, dice_c]
    split <;> omega
  · have := hL.hd
    show tot (addP (diceP s1).c.1 _ (bOne at_.length)) ≤ _
    rw [tot_add, dice_c, hlen2]
    have e : (bOne at_.length).size = 1 := rfl
    rw [e]
    unfold held at this
    omega
  · intro a hx
    rcases List.mem_append.1 hx with hx | hx
    · exact hL.ats_ a hx
    · simp at hx; subst hx; omega
theorem way_1 (s : Sg) (n : Int) (hk : s.t.kind = 1) : wayN s n = n ∧ wayS s n = s := by
  unfold wayN wayS
  rw [if_neg (by omega), if_neg (by omega), if_neg (by omega), if_neg (by omega), if_neg (by omega), if_neg (by omega)]
  exact ⟨rfl, rfl⟩
theorem LaI.take {lag jit : Int} {T : Tox} {now : Int} {at_ : List Int} {s : Sg} (h : LaI lag jit T now at_ s) (hg : Cargo.Good s.c) (hk : T.kind = 1) (N : Int) (h1 : now ≤ N) (h2 : Tick.add N 0 = N) (m : Int) :
    LaI lag jit T N at_ (takeS s N m) ∧ ∀ x ∈ (takeB s N m).data.toList, x.toNat < at_.length ∧ ∀ a, at_[x.toNat]? = some a → Tick.add a (lag - jit) ≤ N := by
  have hL := h.look hk N h1 h2
  have hgl : Cargo.Good (lookP s N).c := hg
  have hh := held_take s N m
  unfold takeB takeS at *
  by_cases hc : (lookP s N).state ≠ 0 ∨ m < 1
  · rw [if_pos hc, if_pos hc]
    exact ⟨hL, fun x hx => by simp at hx⟩
  · rw [if_neg hc, if_neg hc] at *
    have hw := way_1 (lookP s N) (readyN (lookP s N) m) (by rw [hL.t]; exact hk)
    have hd0 := hL.hd
    have hss : held (lookP s N) = held s := rfl
    generalize lookP s N = s1 at *
    have hle : outN s1 (readyN s1 m) ≤ rdy s1.clock s1.c.1 := by
      unfold outN takeN; rw [hw.2]; omega
    constructor
    · have e := hw.2
      refine ⟨?_, ?_, ?_, ?_, ?_, ?_, ?_, ?_, hL.ats_⟩
      · show (wayS s1 _).t = T; rw [e]; exact hL.t
      · show (wayS s1 _).closed = false; rw [e]; exact hL.cl
      · show (wayS s1 _).state = 0; rw [e]; exact hL.st
      · show (wayS s1 _).clock = N; rw [e]; exact hL.ck
      · show (wayS s1 _).room = 100; rw [e]; exact hL.rm
      · show AllB _ (takeP _ (wayS s1 _).c.1).2; rw [e]; exact hL.b.take _
      · show (wayS s1 _).c.2 ≤ _; rw [e]; exact hL.la
      · omega
    · intro x hx
      have hx2 : x ∈ (takeP (outN s1 (readyN s1 m)) s1.c.1).1.data.toList := by
        have : takeOutB s1 (readyN s1 m) = (takeP (outN s1 (readyN s1 m)) s1.c.1).1 := by unfold takeOutB; rw [hw.2]
        rw [← this]; exact hx
      obtain ⟨t, ht, hq⟩ := hL.b.out (now := s1.clock) _ hgl.2.1 hle x hx2
      rw [hL.ck] at ht
      exact ⟨hq.1, fun a ha => by have := hq.2.1 a ha; omega⟩
theorem rdy_full {now : Int} : ∀ {ps : List Pc}, (∀ p ∈ ps, 0 < p.2.size → p.1 ≤ now) → rdy now ps = tot ps
  | [], _ => rfl
  | p :: r, h => by
    have ih := rdy_full (now := now) (ps := r) fun q hq => h q (List.mem_cons_of_mem _ hq)
    simp only [rdy, tot, ih]
    by_cases hp : p.1 ≤ now
    · rw [if_pos hp]
    · have hz : p.2.size = 0 := by
        by_cases e : 0 < p.2.size
        · exact absurd (h p (List.mem_cons_self ..) e) hp
        · omega
      rw [if_neg hp, hz]
theorem LaI.last {lag jit : Int} {T : Tox} {now : Int} {at_ : List Int} {s : Sg} (h : LaI lag jit T now at_ s) (hk : T.kind = 1) (hj : jit ≤ lag) (hj0 : 0 ≤ jit) (hl : lag ≤ 1000000) (h0 : 0 ≤ now) (h1 : now ≤ 1000000000) (hlen : at_.length ≤ 60) :
    held (takeS s (now + lag + jit) 100) = 0 := by
  have hadd : Tick.add (now + lag + jit) 0 = now + lag + jit := by rw [add_zero]; exact nr_in (by omega) (by omega)
  have hL := h.look hk (now + lag + jit) (by omega) hadd
  have hb := h.b
  have hh := held_take s (now + lag + jit) 100
  have hd0 := h.hd
  have hno : ¬ ((lookP s (now + lag + jit)).state ≠ 0 ∨ (100 : Int) < 1) := by rw [hL.st]; omega
  have hsz : (takeB s (now + lag + jit) 100).size = held s := by
    unfold takeB
    rw [if_neg hno]
    have hw := way_1 (lookP s (now + lag + jit)) (readyN (lookP s (now + lag + jit)) 100) (by rw [hL.t]; exact hk)
    have e1 : (takeOutB (lookP s (now + lag + jit)) (readyN (lookP s (now + lag + jit)) 100)).size = outN (lookP s (now + lag + jit)) (readyN (lookP s (now + lag + jit)) 100) := size_takeP _ _ (takeN_le _ _ _)
    rw [e1]
    have hr : rdy (lookP s (now + lag + jit)).clock (lookP s (now + lag + jit)).c.1 = tot s.c.1 := by
      rw [hL.ck]
      refine rdy_full fun p hp hz => ?_
      obtain ⟨x, hx⟩ : ∃ x, x ∈ p.2.data.toList := by
        cases hq : p.2.data.toList with
        | nil =>
          have : p.2.size = 0 := by
            rw [show p.2.size = p.2.data.toList.length by simp, hq]; rfl
          omega
        | cons y _ => exact ⟨y, List.mem_cons_self ..⟩
      have := (hb p hp x hx).2.2
      omega
    have hz : tot s.c.1 = held s := rfl
    unfold outN takeN
    rw [hw.1, hw.2]
    unfold readyN
    rw [hr]
    omega
  omega
end Go.Proofs.Ytehpliclknfmoaa.Stage
