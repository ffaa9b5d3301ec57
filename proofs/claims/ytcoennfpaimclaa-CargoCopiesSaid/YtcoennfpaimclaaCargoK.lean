/- Cargo (chapter 07): the laws' own calls (does). Conditions: the bytes are fewer than 2^46, no piece is empty. -/
import Derived.Test.YtcoennfpaimclaaCargoJ
import Derived.Test.YtcoennfpaimclaaWLast
namespace Go.Proofs.Ytcoennfpaimclaa.Cargo
open Go.RowKit Mem Tick
open Go.Proofs.YtcoennfpaimclaaW.PrintWords (QRow q_slice q_cells q_max q_append q_drop q_move q_typed q_lt q_of_own add_at cut_from)
open Go.Proofs.YtcoennfpaimclaaW.PrintLast
set_option maxRecDepth 100000
set_option linter.unusedVariables false
set_option linter.unusedSimpArgs false
theorem conv_str (s : ByteArray) (W : World) : (convert 9 31 (.string s)).run Try.prog W = .ok (.slice (some ⟨W.heap.size, 0, none⟩) s.size (grownCap W s.size 0 5)) (Lib.bytesWorld W 5 s) :=
  Lib.run_convert_string_bytes W _ _ _ s Try.underlying9 Try.underlying31 Try.underlying5
abbrev St := List Pc × Int
def doesP (k at_ n : Int) (s : ByteArray) (x : St) : (Int × ByteArray) × St :=
  if k = 0 then ((putAt x.2 at_, ⟨#[]⟩), (addP x.1 (putAt x.2 at_) s, putLast x.2 at_ s))
  else if k = 1 then ((0, (takeP (takeN at_ n x.1) x.1).1), ((takeP (takeN at_ n x.1) x.1).2, x.2))
  else if k = 2 then ((0, ⟨#[]⟩), (hur (add at_ 0) x.1, min x.2 (add at_ 0)))
  else if k = 3 then ((0, cat x.1), ([], x.2))
  else ((0, ⟨#[]⟩), x)
def DoesQ (F : Nat → Prop) (b : Nat) (w : World) (r : (Int × ByteArray) × St) (e : Ending) (w' : World) : Prop :=
  e = .returned (.tuple #[.int .i64 r.1.1, .string r.1.2]) ∧ ∃ F', CG w' F' b r.2.1 r.2.2 ∧ Did F w w' ∧ Stem F F' w
theorem does_0 {w : World} {F : Nat → Prop} {b : Nat} {ps : List Pc} {last : Int} (at_ n : Int) (s : ByteArray) (h : CG w F b ps last) (ht : tot ps + s.size ≤ 70368744177664) (hn : ps.length ≤ 1000000000000) :
    Calls Try.prog 13 #[.pointer (some ⟨b, 0, none⟩), .agg #[.int .i64 0, .int .i64 at_, .int .i64 n, .string s]] w (DoesQ F b w ((putAt last at_, ⟨#[]⟩), (addP ps (putAt last at_) s, putLast last at_ s))) := by
  have H := Lib.hid h
  clear h
  have hcv := conv_str s
  go_enter Try.func13, Try.ntmps13
  go_wp2_with fail
  have hB : Below w.heap.size w (Lib.bytesWorld (w.alloc (.cells #[.int .i64 0, .int .i64 at_, .int .i64 n, .string s] 28)) 5 s) :=
    ((Below.refl w.heap.size w).alloc (Nat.le_refl _) _).trans ((bytes_below _ s).mono (by simp))
  have hb2 : BS (Lib.bytesWorld (w.alloc (.cells #[.int .i64 0, .int .i64 at_, .int .i64 n, .string s] 28)) 5 s) (some ⟨w.heap.size + 1, 0, none⟩) s := by
    have := bytes_new (w.alloc (.cells #[.int .i64 0, .int .i64 at_, .int .i64 n, .string s] 28)) s
    simpa using this
  refine (put_any at_ _ _ s (H.out.below hB) hb2 (by omega) (by omega)).mono ?_
  rintro e w1 ⟨rfl, F', hC, hD, hS⟩
  have hq := Lib.hid (show CG w1 F' b (addP ps (putAt last at_) s) (putLast last at_ s) ∧ Did F w w1 ∧ Stem F F' w from ⟨hC, (Did.of_below hB).trans (Stem.refl _ _) hD, (Stem.refl F w).trans hB.size hS⟩)
  clear hC hD hS hcv hB hb2
  go_wp2
  go_ret2
  exact ⟨rfl, F', hq.out⟩
theorem does_2 {w : World} {F : Nat → Prop} {b : Nat} {ps : List Pc} {last : Int} (at_ n : Int) (s : ByteArray) (h : CG w F b ps last) (ht : tot ps ≤ 70368744177664) (hn : ps.length ≤ 1000000000000) :
    Calls Try.prog 13 #[.pointer (some ⟨b, 0, none⟩), .agg #[.int .i64 2, .int .i64 at_, .int .i64 n, .string s]] w (DoesQ F b w ((0, ⟨#[]⟩), (hur (add at_ 0) ps, min last (add at_ 0)))) := by
  have H := Lib.hid h
  clear h
  go_enter Try.func13, Try.ntmps13
  go_wp2_with fail
  have hB : Below w.heap.size w (w.alloc (.cells #[.int .i64 2, .int .i64 at_, .int .i64 n, .string s] 28)) := (Below.refl w.heap.size w).alloc (Nat.le_refl _) _
  refine (hurry_any at_ (H.out.below hB) ht hn).mono ?_
  rintro e w1 ⟨rfl, F', hC, hD, hS⟩
  have hq := Lib.hid (show CG w1 F' b (hur (add at_ 0) ps) (min last (add at_ 0)) ∧ Did F w w1 ∧ Stem F F' w from ⟨hC, (Did.of_below hB).trans (Stem.refl _ _) hD, (Stem.refl F w).trans hB.size hS⟩)
  clear hC hD hS hB
  go_wp2
  go_ret2
  exact ⟨rfl, F', hq.out⟩
theorem does_else {w : World} {F : Nat → Prop} {b : Nat} {ps : List Pc} {last : Int} (k at_ n : Int) (s : ByteArray) (h : CG w F b ps last) (h0 : k ≠ 0) (h1 : k ≠ 1) (h2 : k ≠ 2) (h3 : k ≠ 3) :
    Calls Try.prog 13 #[.pointer (some ⟨b, 0, none⟩), .agg #[.int .i64 k, .int .i64 at_, .int .i64 n, .string s]] w (DoesQ F b w ((0, ⟨#[]⟩), (ps, last))) := by
  have H := Lib.hid h
  clear h
  have d0 : (k == 0) = false := by simpa using h0
  have d1 : (k == 1) = false := by simpa using h1
  have d2 : (k == 2) = false := by simpa using h2
  have d3 : (k == 3) = false := by simpa using h3
  clear h0 h1 h2 h3
  go_enter Try.func13, Try.ntmps13
  go_wp2
  go_ret2
  have hB := ((Below.refl w.heap.size w).alloc (Nat.le_refl _) (.cells #[.int .i64 k, .int .i64 at_, .int .i64 n, .string s] 28))
  exact ⟨rfl, F, H.out.below hB, Did.of_below hB, Stem.refl _ _⟩
theorem does_1 {w : World} {F : Nat → Prop} {b : Nat} {ps : List Pc} {last : Int} (at_ n : Int) (s : ByteArray) (h : CG w F b ps last) (hf : Full ps) (ht : tot ps ≤ 70368744177664) :
    Calls Try.prog 13 #[.pointer (some ⟨b, 0, none⟩), .agg #[.int .i64 1, .int .i64 at_, .int .i64 n, .string s]] w (DoesQ F b w (((0, (takeP (takeN at_ n ps) ps).1), ((takeP (takeN at_ n ps) ps).2, last)))) := by
  have H := Lib.hid h
  have hF := Lib.hid hf
  clear h hf
  have hB : Below w.heap.size w (w.alloc (.cells #[.int .i64 1, .int .i64 at_, .int .i64 n, .string s] 28)) := (Below.refl w.heap.size w).alloc (Nat.le_refl _) _
  have HB := Lib.hid hB
  clear hB
  go_enter Try.func13, Try.ntmps13
  go_wp2
  refine start_ (n := 9) (S := fun w' => w'.cell? ⟨w.heap.size, 1, none⟩ = some (.int .i64 at_) ∧ w'.cell? ⟨w.heap.size, 2, none⟩ = some (.int .i64 n)) (ds := []) #[false, false, false, false, false, false, false, false, false] (by kernel_rfl) rfl rfl ⟨(by go_simp), (by go_simp)⟩ (fun hHeld => ?_)
  refine pure_ (i := 0) (N := some 19) (v := ?_) (a' := ?_) #[true, false, false, false, false, false, false, false, false] rfl rfl (by kernel_rfl) (fun _ _ _ h => h) (Or.inl ⟨by rfl, ?_⟩) ?_ ?_
  rotate_left
  · intro w'
    go_simp
    with_reducible rfl
  rotate_left
  · simp only [Act.put, List.setIfInBounds_toArray, List.set_cons_zero, List.set_cons_succ, i64_w, i32_w]
    rfl
  refine pure_ (i := 1) (N := some 20) (v := ?_) (a' := ?_) #[true, true, false, false, false, false, false, false, false] rfl rfl (by kernel_rfl) (fun _ _ _ h => h) (Or.inl ⟨by rfl, ?_⟩) ?_ ?_
  rotate_left
  · intro w'
    go_simp
    with_reducible rfl
  rotate_left
  · simp only [Act.put, List.setIfInBounds_toArray, List.set_cons_zero, List.set_cons_succ, i64_w, i32_w]
    rfl
  refine pure_ (i := 3) (N := some 22) (v := ?_) (a' := ?_) #[true, true, false, true, false, false, false, false, false] rfl rfl (by kernel_rfl) (fun _ _ _ h => h) (Or.inl ⟨by rfl, ?_⟩) ?_ ?_
  rotate_left
  · intro w'
    go_simp
    with_reducible rfl
  rotate_left
  · simp only [Act.put, List.setIfInBounds_toArray, List.set_cons_zero, List.set_cons_succ, i64_w, i32_w]
    rfl
  refine take_ (i := 2) (N := some 21) (v := ?_) (a' := ?_) #[true, true, true, true, false, false, false, false, false] rfl rfl (by kernel_rfl) (fun _ _ _ h => h) (Or.inl ⟨by rfl, ?_⟩) hHeld ?_ ?_
  rotate_left
  · rintro w' ⟨s0, s1⟩
    go_simp
    with_reducible rfl
  rotate_left
  · simp only [Act.put, List.setIfInBounds_toArray, List.set_cons_zero, List.set_cons_succ, i64_w, i32_w]
    rfl
  refine take_ (i := 4) (N := some 23) (v := ?_) (a' := ?_) #[true, true, true, true, true, false, false, false, false] rfl rfl (by kernel_rfl) (fun _ _ _ h => h) (Or.inl ⟨by rfl, ?_⟩) hHeld ?_ ?_
  rotate_left
  · rintro w' ⟨s0, s1⟩
    go_simp
    with_reducible rfl
  rotate_left
  · simp only [Act.put, List.setIfInBounds_toArray, List.set_cons_zero, List.set_cons_succ, i64_w, i32_w]
    rfl
  refine one_ (i := 5) (N := some 24) #[true, true, true, true, true, true, false, false, false] rfl rfl (by kernel_rfl) (by decide) (fun K hK => ?_)
  refine goes_ Try.func22 (by kernel_rfl) rfl #[.pointer (some ⟨b, 0, none⟩), .int .i64 at_, .int .i64 n] (by rfl) rfl rfl (by simp only [List.map_toArray, List.map_cons, List.map_nil]; rfl) ?_
  with_reducible refine (take_any (w := ((w.alloc (.cells #[.int .i64 1, .int .i64 at_, .int .i64 n, .string s] 28)).drew)) at_ n ((H.out.below HB.out).kept fun _ _ => rfl) hF.out ht).mono ?_
  rintro e w1 ⟨A1, c1, rfl, hS1, hC1, hD1⟩
  have hb0 : w1.cell? ⟨w.heap.size, 1, none⟩ = some (.int .i64 at_) := dcells hD1 (show (w.alloc (.cells #[.int .i64 1, .int .i64 at_, .int .i64 n, .string s] 28)).cell? ⟨w.heap.size, 1, none⟩ = some (.int .i64 at_) by go_simp) (fun c => by have := H.out.lt c; omega)
  have hb1 : w1.cell? ⟨w.heap.size, 2, none⟩ = some (.int .i64 n) := dcells hD1 (show (w.alloc (.cells #[.int .i64 1, .int .i64 at_, .int .i64 n, .string s] 28)).cell? ⟨w.heap.size, 2, none⟩ = some (.int .i64 n) by go_simp) (fun c => by have := H.out.lt c; omega)
  have hcv := conv_bytes c1 hS1
  refine ⟨_, rfl, ?_⟩
  refine hK.out _ _ ⟨hb0, hb1⟩ (fun hHeld => ?_)
  clear hK K
  refine norm_ (a' := ?_) ?_ ?_
  rotate_left
  · show Act.put _ (some 24) _ = _
    simp only [Act.put, List.setIfInBounds_toArray, List.set_cons_zero, List.set_cons_succ, i64_w, i32_w]
    rfl
  refine pure_ (i := 7) (N := some 4) (v := ?_) (a' := ?_) #[true, true, true, true, true, true, false, true, false] rfl rfl (by kernel_rfl) (fun _ _ _ h => h) (Or.inl ⟨by rfl, ?_⟩) ?_ ?_
  rotate_left
  · intro w'
    go_simp
    with_reducible rfl
  rotate_left
  · simp only [Act.put, List.setIfInBounds_toArray, List.set_cons_zero, List.set_cons_succ, i64_w, i32_w]
    rfl
  refine one_ (i := 6) (N := some 25) #[true, true, true, true, true, true, true, true, false] rfl rfl (by kernel_rfl) (by decide) (fun K hK => ?_)
  refine value_ (w1 := ?_) (v := ?_) (by rfl) rfl ?_ ?_
  rotate_left 2
  · go_simp
    constructor
    · rfl
    · rfl
  refine hK.out _ _ ⟨hb0, hb1⟩ (fun hHeld => ?_)
  clear hK K
  refine norm_ (a' := ?_) ?_ ?_
  rotate_left
  · show Act.put _ (some 25) _ = _
    simp only [Act.put, List.setIfInBounds_toArray, List.set_cons_zero, List.set_cons_succ, i64_w, i32_w]
    rfl
  refine pure_ (i := 8) (N := some 5) (v := ?_) (a' := ?_) #[true, true, true, true, true, true, true, true, true] rfl rfl (by kernel_rfl) (fun _ _ _ h => h) (Or.inl ⟨by rfl, ?_⟩) ?_ ?_
  rotate_left
  · intro w'
    go_simp
    with_reducible rfl
  rotate_left
  · simp only [Act.put, List.setIfInBounds_toArray, List.set_cons_zero, List.set_cons_succ, i64_w, i32_w]
    rfl
  refine done_ (by kernel_rfl) ?_
  have hq := Lib.hid (show CG w1 F b (takeP (takeN at_ n ps) ps).2 last ∧ Did F w w1 from ⟨hC1, ((Did.of_below HB.out).drew).trans (Stem.refl _ _) hD1⟩)
  clear hC1 hD1 hS1 hcv
  go_wp2
  go_ret2
  exact ⟨rfl, F, hq.out.1, hq.out.2, Stem.refl _ _⟩
theorem does_3 {w : World} {F : Nat → Prop} {b : Nat} {ps : List Pc} {last : Int} (at_ n : Int) (s : ByteArray) (h : CG w F b ps last) (hf : Full ps) (ht : tot ps ≤ 70368744177664) :
    Calls Try.prog 13 #[.pointer (some ⟨b, 0, none⟩), .agg #[.int .i64 3, .int .i64 at_, .int .i64 n, .string s]] w (DoesQ F b w (((0, cat ps), ([], last)))) := by
  have H := Lib.hid h
  clear h hf
  have hB : Below w.heap.size w (w.alloc (.cells #[.int .i64 3, .int .i64 at_, .int .i64 n, .string s] 28)) := (Below.refl w.heap.size w).alloc (Nat.le_refl _) _
  have HB := Lib.hid hB
  clear hB
  go_enter Try.func13, Try.ntmps13
  go_wp2
  refine start_ (n := 5) (S := fun w' => True) (ds := []) #[false, false, false, false, false] (by kernel_rfl) rfl rfl trivial (fun hHeld => ?_)
  refine pure_ (i := 0) (N := some 34) (v := ?_) (a' := ?_) #[true, false, false, false, false] rfl rfl (by kernel_rfl) (fun _ _ _ h => h) (Or.inl ⟨by rfl, ?_⟩) ?_ ?_
  rotate_left
  · intro w'
    go_simp
    with_reducible rfl
  rotate_left
  · simp only [Act.put, List.setIfInBounds_toArray, List.set_cons_zero, List.set_cons_succ, i64_w, i32_w]
    rfl
  refine one_ (i := 1) (N := some 35) #[true, true, false, false, false] rfl rfl (by kernel_rfl) (by decide) (fun K hK => ?_)
  refine goes_ Try.func14 (by kernel_rfl) rfl #[.pointer (some ⟨b, 0, none⟩)] (by rfl) rfl rfl (by simp only [List.map_toArray, List.map_cons, List.map_nil]; rfl) ?_
  with_reducible refine (drain_any (w := ((w.alloc (.cells #[.int .i64 3, .int .i64 at_, .int .i64 n, .string s] 28)).drew)) ((H.out.below HB.out).kept fun _ _ => rfl) ht).mono ?_
  rintro e w1 ⟨A1, c1, rfl, hS1, hC1, hD1⟩
  have hcv := conv_bytes c1 hS1
  refine ⟨_, rfl, ?_⟩
  refine hK.out _ _ trivial (fun hHeld => ?_)
  clear hK K
  refine norm_ (a' := ?_) ?_ ?_
  rotate_left
  · show Act.put _ (some 35) _ = _
    simp only [Act.put, List.setIfInBounds_toArray, List.set_cons_zero, List.set_cons_succ, i64_w, i32_w]
    rfl
  refine pure_ (i := 3) (N := some 4) (v := ?_) (a' := ?_) #[true, true, false, true, false] rfl rfl (by kernel_rfl) (fun _ _ _ h => h) (Or.inl ⟨by rfl, ?_⟩) ?_ ?_
  rotate_left
  · intro w'
    go_simp
    with_reducible rfl
  rotate_left
  · simp only [Act.put, List.setIfInBounds_toArray, List.set_cons_zero, List.set_cons_succ, i64_w, i32_w]
    rfl
  refine one_ (i := 2) (N := some 36) #[true, true, true, true, false] rfl rfl (by kernel_rfl) (by decide) (fun K hK => ?_)
  refine value_ (w1 := ?_) (v := ?_) (by rfl) rfl ?_ ?_
  rotate_left 2
  · go_simp
    constructor
    · rfl
    · rfl
  refine hK.out _ _ trivial (fun hHeld => ?_)
  clear hK K
  refine norm_ (a' := ?_) ?_ ?_
  rotate_left
  · show Act.put _ (some 36) _ = _
    simp only [Act.put, List.setIfInBounds_toArray, List.set_cons_zero, List.set_cons_succ, i64_w, i32_w]
    rfl
  refine pure_ (i := 4) (N := some 5) (v := ?_) (a' := ?_) #[true, true, true, true, true] rfl rfl (by kernel_rfl) (fun _ _ _ h => h) (Or.inl ⟨by rfl, ?_⟩) ?_ ?_
  rotate_left
  · intro w'
    go_simp
    with_reducible rfl
  rotate_left
  · simp only [Act.put, List.setIfInBounds_toArray, List.set_cons_zero, List.set_cons_succ, i64_w, i32_w]
    rfl
  refine done_ (by kernel_rfl) ?_
  have hq := Lib.hid (show CG w1 (· = b) b [] last ∧ Did F w w1 from ⟨hC1, ((Did.of_below HB.out).drew).trans (Stem.refl _ _) hD1⟩)
  clear hC1 hD1 hS1 hcv
  go_wp2
  go_ret2
  exact ⟨rfl, _, hq.out.1, hq.out.2, fun k hk => .inl (by subst hk; exact H.out.mine)⟩
theorem does_any {w : World} {F : Nat → Prop} {b : Nat} {ps : List Pc} {last : Int} (k at_ n : Int) (s : ByteArray) (h : CG w F b ps last) (hf : Full ps) (ht : tot ps + s.size ≤ 70368744177664) (hn : ps.length ≤ 1000000000000) :
    Calls Try.prog 13 #[.pointer (some ⟨b, 0, none⟩), .agg #[.int .i64 k, .int .i64 at_, .int .i64 n, .string s]] w (DoesQ F b w (doesP k at_ n s (ps, last))) := by
  unfold doesP
  have ht' : tot ps ≤ 70368744177664 := by omega
  by_cases h0 : k = 0
  · subst h0; rw [if_pos rfl]; exact does_0 at_ n s h ht hn
  rw [if_neg h0]
  by_cases h1 : k = 1
  · subst h1; rw [if_pos rfl]; exact does_1 at_ n s h hf ht'
  rw [if_neg h1]
  by_cases h2 : k = 2
  · subst h2; rw [if_pos rfl]; exact does_2 at_ n s h ht' hn
  rw [if_neg h2]
  by_cases h3 : k = 3
  · subst h3; rw [if_pos rfl]; exact does_3 at_ n s h hf ht'
  rw [if_neg h3]
  exact does_else k at_ n s h h0 h1 h2 h3
end Go.Proofs.Ytcoennfpaimclaa.Cargo
