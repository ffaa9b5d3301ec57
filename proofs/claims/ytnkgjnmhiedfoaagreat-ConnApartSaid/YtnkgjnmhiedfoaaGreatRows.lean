/-
  No cell of these rows narrows 'for every input' (looked for: loops, veiled, ifaces, maps, wideKeys, modest, calm, conditions, laid).
  DERIVED. THE GIVEN ROWS OF THIS SEAT. 4 by the template 'for every input the law returns true; each argument reads behind the call as it read before'; 0 by the template 'total and deterministic' (their statements: YtnkgjnmhiedfoaaGreatTotals.lean).
  GIVEN WITH THE SEED: the statements are not yours to turn. If you find one false, say at which input.
  Laid BY PROGRAM, IN A SANDBOX (cutbox-rows.mjs): the forced cells as the released guide's own fill.sh prints them over the translation 17b3375589bb28fb… (all of the seat's roots in one cut). By AI agents, Wed Nov 11 2026. No macro, syntax, notation, axiom, sorry.
-/
import Derived.Test.YtnkgjnmhiedfoaaGreatChecked
import GoSem.Claim
import GoSem.ClaimJoined
import GoSem.ClaimMapViews
import Derived.JoinedTies
import Derived.KernelRfl
namespace Go.Proofs.YtnkgjnmhiedfoaaGreat
/- THE CELL 'sum', in the pinned program and in every row, IS THE sha256 OF THE DUMP (.gsa) THAT YtnkgjnmhiedfoaaGreatProg.lean LOADS. Nothing in Lean hashes anything: it is a label: what it is worth is what the hold of that sum in a sandbox is worth. -/
noncomputable def Tryz.pinned : Pinned := { name := "ytnkgjnmhiedfoaagreat", sum := "17b3375589bb28fba3d1fb2eaac5e3ecd6b15c9a9637d15c181ab1335849d2f0", checked := Tryz.checked }
namespace Rows
def none {H : Type} : Left H := { results := [], args := [] }

/-- 'chicanelaw13.ConnNames': WHATEVER THE INPUT: true; the input reads as it did. -/
def connNamesSpec : ChangeSpec := { name := "connNames", fn := fun _ => fun
  | [d1, d2] => { results := [.lit (.bool true)], args := [d1, d2] }
  | _ => none }
def connNamesRow : OpenClaim := { program := "ytnkgjnmhiedfoaagreat", sum := "17b3375589bb28fba3d1fb2eaac5e3ecd6b15c9a9637d15c181ab1335849d2f0", func := "chicane/chicanelaw13.ConnNames", spec := "connNames", inPlace := ["slices.overlaps[*chicane/chain.part]"], unfollowed := true, recurses := true, named := ["math/bits.divideError", "math/bits.overflowError"], apart := false }
def ConnNamesSaid : Prop := connNamesRow.holds Tryz.pinned (OpenSpec.ofChange connNamesSpec)

/-- ITS FALSE NEIGHBOUR: 'it returns false'. Refute it at one input. -/
def connNamesWrong : ChangeSpec := { name := "connNames", fn := fun _ => fun
  | [d1, d2] => { results := [.lit (.bool false)], args := [d1, d2] }
  | _ => none }
def ConnNamesWrongFalsely : Prop := connNamesRow.holds Tryz.pinned (OpenSpec.ofChange connNamesWrong)

/-- 'chicanelaw13.ConnBroken': WHATEVER THE INPUT: true; the input reads as it did. -/
def connBrokenSpec : ChangeSpec := { name := "connBroken", fn := fun _ => fun
  | [d1, d2] => { results := [.lit (.bool true)], args := [d1, d2] }
  | _ => none }
def connBrokenRow : OpenClaim := { program := "ytnkgjnmhiedfoaagreat", sum := "17b3375589bb28fba3d1fb2eaac5e3ecd6b15c9a9637d15c181ab1335849d2f0", func := "chicane/chicanelaw13.ConnBroken", spec := "connBroken", inPlace := ["slices.overlaps[*chicane/chain.part]"], unfollowed := true, recurses := true, named := ["math/bits.divideError", "math/bits.overflowError"], apart := false }
def ConnBrokenSaid : Prop := connBrokenRow.holds Tryz.pinned (OpenSpec.ofChange connBrokenSpec)

/-- ITS FALSE NEIGHBOUR: 'it returns false'. Refute it at one input. -/
def connBrokenWrong : ChangeSpec := { name := "connBroken", fn := fun _ => fun
  | [d1, d2] => { results := [.lit (.bool false)], args := [d1, d2] }
  | _ => none }
def ConnBrokenWrongFalsely : Prop := connBrokenRow.holds Tryz.pinned (OpenSpec.ofChange connBrokenWrong)

/-- 'chicanelaw13.ConnKeeps': WHATEVER THE INPUT: true; the input reads as it did. -/
def connKeepsSpec : ChangeSpec := { name := "connKeeps", fn := fun _ => fun
  | [d1, d2] => { results := [.lit (.bool true)], args := [d1, d2] }
  | _ => none }
def connKeepsRow : OpenClaim := { program := "ytnkgjnmhiedfoaagreat", sum := "17b3375589bb28fba3d1fb2eaac5e3ecd6b15c9a9637d15c181ab1335849d2f0", func := "chicane/chicanelaw13.ConnKeeps", spec := "connKeeps", inPlace := ["slices.overlaps[*chicane/chain.part]"], unfollowed := true, recurses := true, named := ["math/bits.divideError", "math/bits.overflowError"], apart := false }
def ConnKeepsSaid : Prop := connKeepsRow.holds Tryz.pinned (OpenSpec.ofChange connKeepsSpec)

/-- ITS FALSE NEIGHBOUR: 'it returns false'. Refute it at one input. -/
def connKeepsWrong : ChangeSpec := { name := "connKeeps", fn := fun _ => fun
  | [d1, d2] => { results := [.lit (.bool false)], args := [d1, d2] }
  | _ => none }
def ConnKeepsWrongFalsely : Prop := connKeepsRow.holds Tryz.pinned (OpenSpec.ofChange connKeepsWrong)

/-- 'chicanelaw13.ConnApart': WHATEVER THE INPUT: true; the input reads as it did. -/
def connApartSpec : ChangeSpec := { name := "connApart", fn := fun _ => fun
  | [d1, d2] => { results := [.lit (.bool true)], args := [d1, d2] }
  | _ => none }
def connApartRow : OpenClaim := { program := "ytnkgjnmhiedfoaagreat", sum := "17b3375589bb28fba3d1fb2eaac5e3ecd6b15c9a9637d15c181ab1335849d2f0", func := "chicane/chicanelaw13.ConnApart", spec := "connApart", inPlace := ["slices.overlaps[*chicane/chain.part]"], unfollowed := true, recurses := true, named := ["math/bits.divideError", "math/bits.overflowError"], apart := false }
def ConnApartSaid : Prop := connApartRow.holds Tryz.pinned (OpenSpec.ofChange connApartSpec)

/-- ITS FALSE NEIGHBOUR: 'it returns false'. Refute it at one input. -/
def connApartWrong : ChangeSpec := { name := "connApart", fn := fun _ => fun
  | [d1, d2] => { results := [.lit (.bool false)], args := [d1, d2] }
  | _ => none }
def ConnApartWrongFalsely : Prop := connApartRow.holds Tryz.pinned (OpenSpec.ofChange connApartWrong)

/- THE SECOND FORM. 'bulk': how many values and letters a reading holds, each counted each time it is reached (what is shared counts as often as it is met; a slice's spare places count too). A statement '..UptoSaid' is the law's where the arguments, and the package variables that the reading takes, are together of bulk at most 1048576: NARROWER than '..Said'. Prove '..Said' where nothing that the law and all that it calls make is longer than what came in: it says more and counts as full. Else prove '..UptoSaid'. A law counts once. -/
mutual
def uptoBulk {H : Type} : DataW H → Nat
  | .lit (.string bytes) => bytes.length + 1
  | .lit _ => 1
  | .nil => 1
  | .ptr d => uptoBulk d + 1
  | .slice elems spare => uptoBulkAll elems + uptoBulkAll spare + 1
  | .agg parts => uptoBulkAll parts + 1
  | .iface _ d => uptoBulk d + 1
  | .map entries => uptoBulkEntries entries + 1
  | .held _ => 1
def uptoBulkAll {H : Type} : List (DataW H) → Nat
  | [] => 0
  | d :: r => uptoBulk d + uptoBulkAll r
def uptoBulkEntries {H : Type} : List (Lit × DataW H) → Nat
  | [] => 0
  | x :: r => uptoBulkEntry x + uptoBulkEntries r
def uptoBulkEntry {H : Type} : Lit × DataW H → Nat
  | (.string bytes, d) => bytes.length + uptoBulk d + 1
  | (_, d) => uptoBulk d + 1
 end
def uptoSmall : (H : Type) → List (DataW H) → Bool := fun _ ds => decide (uptoBulkAll ds ≤ 1048576)
def OpenSpec.upto (s : _root_.Go.ChangeSpec) : _root_.Go.OpenSpec := { _root_.Go.OpenSpec.ofChange s with cond := some uptoSmall }

/-- 'chicanelaw13.ConnNames', WHERE WHAT IT READS IS OF BULK AT MOST 1048576: true; the input reads as it did. -/
def connNamesUptoRow : OpenClaim := { program := "ytnkgjnmhiedfoaagreat", sum := "17b3375589bb28fba3d1fb2eaac5e3ecd6b15c9a9637d15c181ab1335849d2f0", func := "chicane/chicanelaw13.ConnNames", spec := "connNames", inPlace := ["slices.overlaps[*chicane/chain.part]"], unfollowed := true, recurses := true, named := ["math/bits.divideError", "math/bits.overflowError"], apart := false, narrowed := true }
def ConnNamesUptoSaid : Prop := connNamesUptoRow.holds Tryz.pinned (OpenSpec.upto connNamesSpec)

/-- 'chicanelaw13.ConnBroken', WHERE WHAT IT READS IS OF BULK AT MOST 1048576: true; the input reads as it did. -/
def connBrokenUptoRow : OpenClaim := { program := "ytnkgjnmhiedfoaagreat", sum := "17b3375589bb28fba3d1fb2eaac5e3ecd6b15c9a9637d15c181ab1335849d2f0", func := "chicane/chicanelaw13.ConnBroken", spec := "connBroken", inPlace := ["slices.overlaps[*chicane/chain.part]"], unfollowed := true, recurses := true, named := ["math/bits.divideError", "math/bits.overflowError"], apart := false, narrowed := true }
def ConnBrokenUptoSaid : Prop := connBrokenUptoRow.holds Tryz.pinned (OpenSpec.upto connBrokenSpec)

/-- 'chicanelaw13.ConnKeeps', WHERE WHAT IT READS IS OF BULK AT MOST 1048576: true; the input reads as it did. -/
def connKeepsUptoRow : OpenClaim := { program := "ytnkgjnmhiedfoaagreat", sum := "17b3375589bb28fba3d1fb2eaac5e3ecd6b15c9a9637d15c181ab1335849d2f0", func := "chicane/chicanelaw13.ConnKeeps", spec := "connKeeps", inPlace := ["slices.overlaps[*chicane/chain.part]"], unfollowed := true, recurses := true, named := ["math/bits.divideError", "math/bits.overflowError"], apart := false, narrowed := true }
def ConnKeepsUptoSaid : Prop := connKeepsUptoRow.holds Tryz.pinned (OpenSpec.upto connKeepsSpec)

/-- 'chicanelaw13.ConnApart', WHERE WHAT IT READS IS OF BULK AT MOST 1048576: true; the input reads as it did. -/
def connApartUptoRow : OpenClaim := { program := "ytnkgjnmhiedfoaagreat", sum := "17b3375589bb28fba3d1fb2eaac5e3ecd6b15c9a9637d15c181ab1335849d2f0", func := "chicane/chicanelaw13.ConnApart", spec := "connApart", inPlace := ["slices.overlaps[*chicane/chain.part]"], unfollowed := true, recurses := true, named := ["math/bits.divideError", "math/bits.overflowError"], apart := false, narrowed := true }
def ConnApartUptoSaid : Prop := connApartUptoRow.holds Tryz.pinned (OpenSpec.upto connApartSpec)

end Rows
end Go.Proofs.YtnkgjnmhiedfoaaGreat
