/- Cargo (chapter 07): the laws' own calls (does). Conditions: the bytes are fewer than 2^46, no piece is empty. -/
import Derived.Test.YtehpliclknfmoaaCargoJ
import Derived.Test.YtehpliclknfmoaaWLast
namespace Go.Proofs.Ytehpliclknfmoaa.Cargo
open Go.RowKit Mem Tick
open Go.Proofs.YtehpliclknfmoaaW.PrintWords (QRow q_slice q_cells q_max q_append q_drop q_move q_typed q_lt q_of_own add_at cut_from)
open Go.Proofs.YtehpliclknfmoaaW.PrintLast
set_option maxRecDepth 100000
set_option linter.unusedVariables false
set_option linter.unusedSimpArgs false
theorem conv_str (s : ByteArray) (W : World) : (convert 9 37 (.string s)).run Try.prog W = .ok (.slice (some ⟨W.heap.size, 0, none⟩) s.size (grownCap W s.size 0 5)) (Lib.bytesWorld W 5 s) :=
  Lib.run_convert_string_bytes W _ _ _ s Try.underlying9 Try.underlying37 Try.underlying5
abbrev St := List Pc × Int
def doesP (k at_ n : Int) (s : ByteArray) (x : St) : (Int × ByteArray) × St :=
  if k = 0 then ((putAt x.2 at_, ⟨#[]⟩), (addP x.1 (putAt x.2 at_) s, putLast x.2 at_ s))
  else if k = 1 then ((0, (takeP (takeN at_ n x.1) x.1).1), ((takeP (takeN at_ n x.1) x.1).2, x.2))
  else if k = 2 then ((0, ⟨#[]⟩), (hur (add at_ 0) x.1, min x.2 (add at_ 0)))
  else if k = 3 then ((0, cat x.1), ([], x.2))
  else ((0, ⟨#[]⟩), x)
def DoesQ (F : Nat → Prop) (b : Nat) (w : World) (r : (Int × ByteArray) × St) (e : Ending) (w' : World) : Prop :=
  e = .returned (.tuple #[.int .i64 r.1.1, .string r.1.2]) ∧ ∃ F', CG w' F' b r.2.1 r.2.2 ∧ Did F w w' ∧ Stem F F' w
end Go.Proofs.Ytehpliclknfmoaa.Cargo
