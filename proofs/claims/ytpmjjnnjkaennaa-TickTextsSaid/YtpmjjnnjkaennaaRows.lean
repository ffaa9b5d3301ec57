/-
  No cell of these rows narrows 'for every input' (looked for: loops, veiled, ifaces, maps, wideKeys, modest, calm, conditions, laid).
  DERIVED. THE GIVEN ROWS OF THIS SEAT. 7 by the template 'for every input the law returns true; each argument reads behind the call as it read before'; 0 by the template 'total and deterministic' (their statements: YtpmjjnnjkaennaaTotals.lean).
  GIVEN WITH THE SEED: the statements are not yours to turn. If you find one false, say at which input.
  Laid BY PROGRAM, IN A SANDBOX (cutbox-rows.mjs): the forced cells as the released guide's own fill.sh prints them over the translation ffd55807a996294d… (all of the seat's roots in one cut). By AI agents, Wed Nov 11 2026. No macro, syntax, notation, axiom, sorry.
-/
import Derived.Test.YtpmjjnnjkaennaaChecked
import GoSem.Claim
import GoSem.ClaimJoined
import GoSem.ClaimMapViews
import Derived.JoinedTies
import Derived.KernelRfl
namespace Go.Proofs.Ytpmjjnnjkaennaa
/- THE CELL 'sum', in the pinned program and in every row, IS THE sha256 OF THE DUMP (.gsa) THAT YtpmjjnnjkaennaaProg.lean LOADS. Nothing in Lean hashes anything: it is a label: what it is worth is what the hold of that sum in a sandbox is worth. -/
noncomputable def Try.pinned : Pinned := { name := "ytpmjjnnjkaennaa", sum := "ffd55807a996294d23d5b91032831266ad421a0b579f5b3fcaeabc7dbf00a590", checked := Try.checked }
namespace Rows
def none {H : Type} : Left H := { results := [], args := [] }

/-- 'chicanelaw01.TickShares': WHATEVER THE INPUT: true; the input reads as it did. -/
def tickSharesSpec : ChangeSpec := { name := "tickShares", fn := fun _ => fun
  | [d1, d2, d3] => { results := [.lit (.bool true)], args := [d1, d2, d3] }
  | _ => none }
def tickSharesRow : OpenClaim := { program := "ytpmjjnnjkaennaa", sum := "ffd55807a996294d23d5b91032831266ad421a0b579f5b3fcaeabc7dbf00a590", func := "chicane/chicanelaw01.TickShares", spec := "tickShares", recurses := true, named := ["math/bits.divideError", "math/bits.overflowError"], apart := false }
def TickSharesSaid : Prop := tickSharesRow.holds Try.pinned (OpenSpec.ofChange tickSharesSpec)

/-- ITS FALSE NEIGHBOUR: 'it returns false'. Refute it at one input. -/
def tickSharesWrong : ChangeSpec := { name := "tickShares", fn := fun _ => fun
  | [d1, d2, d3] => { results := [.lit (.bool false)], args := [d1, d2, d3] }
  | _ => none }
def TickSharesWrongFalsely : Prop := tickSharesRow.holds Try.pinned (OpenSpec.ofChange tickSharesWrong)

/-- 'chicanelaw01.TickTexts': WHATEVER THE INPUT: true; the input reads as it did. -/
def tickTextsSpec : ChangeSpec := { name := "tickTexts", fn := fun _ => fun
  | [d1, d2] => { results := [.lit (.bool true)], args := [d1, d2] }
  | _ => none }
def tickTextsRow : OpenClaim := { program := "ytpmjjnnjkaennaa", sum := "ffd55807a996294d23d5b91032831266ad421a0b579f5b3fcaeabc7dbf00a590", func := "chicane/chicanelaw01.TickTexts", spec := "tickTexts", recurses := true, named := ["math/bits.divideError", "math/bits.overflowError"], apart := false }
def TickTextsSaid : Prop := tickTextsRow.holds Try.pinned (OpenSpec.ofChange tickTextsSpec)

/-- ITS FALSE NEIGHBOUR: 'it returns false'. Refute it at one input. -/
def tickTextsWrong : ChangeSpec := { name := "tickTexts", fn := fun _ => fun
  | [d1, d2] => { results := [.lit (.bool false)], args := [d1, d2] }
  | _ => none }
def TickTextsWrongFalsely : Prop := tickTextsRow.holds Try.pinned (OpenSpec.ofChange tickTextsWrong)

/-- 'chicanelaw01.TickLeast': WHATEVER THE INPUT: true; the input reads as it did. -/
def tickLeastSpec : ChangeSpec := { name := "tickLeast", fn := fun _ => fun
  | [d] => { results := [.lit (.bool true)], args := [d] }
  | _ => none }
def tickLeastRow : OpenClaim := { program := "ytpmjjnnjkaennaa", sum := "ffd55807a996294d23d5b91032831266ad421a0b579f5b3fcaeabc7dbf00a590", func := "chicane/chicanelaw01.TickLeast", spec := "tickLeast", recurses := true, named := ["math/bits.divideError", "math/bits.overflowError"], apart := false }
def TickLeastSaid : Prop := tickLeastRow.holds Try.pinned (OpenSpec.ofChange tickLeastSpec)

/-- ITS FALSE NEIGHBOUR: 'it returns false'. Refute it at one input. -/
def tickLeastWrong : ChangeSpec := { name := "tickLeast", fn := fun _ => fun
  | [d] => { results := [.lit (.bool false)], args := [d] }
  | _ => none }
def TickLeastWrongFalsely : Prop := tickLeastRow.holds Try.pinned (OpenSpec.ofChange tickLeastWrong)

/-- 'chicanelaw01.TickSums': WHATEVER THE INPUT: true; the input reads as it did. -/
def tickSumsSpec : ChangeSpec := { name := "tickSums", fn := fun _ => fun
  | [d1, d2] => { results := [.lit (.bool true)], args := [d1, d2] }
  | _ => none }
def tickSumsRow : OpenClaim := { program := "ytpmjjnnjkaennaa", sum := "ffd55807a996294d23d5b91032831266ad421a0b579f5b3fcaeabc7dbf00a590", func := "chicane/chicanelaw01.TickSums", spec := "tickSums", recurses := true, named := ["math/bits.divideError", "math/bits.overflowError"], apart := false }
def TickSumsSaid : Prop := tickSumsRow.holds Try.pinned (OpenSpec.ofChange tickSumsSpec)

/-- ITS FALSE NEIGHBOUR: 'it returns false'. Refute it at one input. -/
def tickSumsWrong : ChangeSpec := { name := "tickSums", fn := fun _ => fun
  | [d1, d2] => { results := [.lit (.bool false)], args := [d1, d2] }
  | _ => none }
def TickSumsWrongFalsely : Prop := tickSumsRow.holds Try.pinned (OpenSpec.ofChange tickSumsWrong)

/-- 'chicanelaw01.TickOrder': WHATEVER THE INPUT: true; the input reads as it did. -/
def tickOrderSpec : ChangeSpec := { name := "tickOrder", fn := fun _ => fun
  | [d1, d2, d3] => { results := [.lit (.bool true)], args := [d1, d2, d3] }
  | _ => none }
def tickOrderRow : OpenClaim := { program := "ytpmjjnnjkaennaa", sum := "ffd55807a996294d23d5b91032831266ad421a0b579f5b3fcaeabc7dbf00a590", func := "chicane/chicanelaw01.TickOrder", spec := "tickOrder", recurses := true, named := ["math/bits.divideError", "math/bits.overflowError"], apart := false }
def TickOrderSaid : Prop := tickOrderRow.holds Try.pinned (OpenSpec.ofChange tickOrderSpec)

/-- ITS FALSE NEIGHBOUR: 'it returns false'. Refute it at one input. -/
def tickOrderWrong : ChangeSpec := { name := "tickOrder", fn := fun _ => fun
  | [d1, d2, d3] => { results := [.lit (.bool false)], args := [d1, d2, d3] }
  | _ => none }
def TickOrderWrongFalsely : Prop := tickOrderRow.holds Try.pinned (OpenSpec.ofChange tickOrderWrong)

/-- 'chicanelaw01.TickBack': WHATEVER THE INPUT: true; the input reads as it did. -/
def tickBackSpec : ChangeSpec := { name := "tickBack", fn := fun _ => fun
  | [d1, d2] => { results := [.lit (.bool true)], args := [d1, d2] }
  | _ => none }
def tickBackRow : OpenClaim := { program := "ytpmjjnnjkaennaa", sum := "ffd55807a996294d23d5b91032831266ad421a0b579f5b3fcaeabc7dbf00a590", func := "chicane/chicanelaw01.TickBack", spec := "tickBack", recurses := true, named := ["math/bits.divideError", "math/bits.overflowError"], apart := false }
def TickBackSaid : Prop := tickBackRow.holds Try.pinned (OpenSpec.ofChange tickBackSpec)

/-- ITS FALSE NEIGHBOUR: 'it returns false'. Refute it at one input. -/
def tickBackWrong : ChangeSpec := { name := "tickBack", fn := fun _ => fun
  | [d1, d2] => { results := [.lit (.bool false)], args := [d1, d2] }
  | _ => none }
def TickBackWrongFalsely : Prop := tickBackRow.holds Try.pinned (OpenSpec.ofChange tickBackWrong)

/-- 'chicanelaw01.TickUps': WHATEVER THE INPUT: true; the input reads as it did. -/
def tickUpsSpec : ChangeSpec := { name := "tickUps", fn := fun _ => fun
  | [d1, d2] => { results := [.lit (.bool true)], args := [d1, d2] }
  | _ => none }
def tickUpsRow : OpenClaim := { program := "ytpmjjnnjkaennaa", sum := "ffd55807a996294d23d5b91032831266ad421a0b579f5b3fcaeabc7dbf00a590", func := "chicane/chicanelaw01.TickUps", spec := "tickUps", recurses := true, named := ["math/bits.divideError", "math/bits.overflowError"], apart := false }
def TickUpsSaid : Prop := tickUpsRow.holds Try.pinned (OpenSpec.ofChange tickUpsSpec)

/-- ITS FALSE NEIGHBOUR: 'it returns false'. Refute it at one input. -/
def tickUpsWrong : ChangeSpec := { name := "tickUps", fn := fun _ => fun
  | [d1, d2] => { results := [.lit (.bool false)], args := [d1, d2] }
  | _ => none }
def TickUpsWrongFalsely : Prop := tickUpsRow.holds Try.pinned (OpenSpec.ofChange tickUpsWrong)

/- THE SECOND FORM. 'bulk': how many values and letters a reading holds, each counted each time it is reached (what is shared counts as often as it is met; a slice's spare places count too). A statement '..UptoSaid' is the law's where the arguments, and the package variables that the reading takes, are together of bulk at most 1048576: NARROWER than '..Said'. Prove '..Said' where nothing that the law and all that it calls make is longer than what came in: it says more and counts as full. Else prove '..UptoSaid'. A law counts once. -/
mutual
def uptoBulk {H : Type} : DataW H → Nat
  | .lit (.string bytes) => bytes.length + 1
  | .lit _ => 1
  | .nil => 1
  | .ptr d => uptoBulk d + 1
  | .slice elems spare => uptoBulkAll elems + uptoBulkAll spare + 1
  | .agg parts => uptoBulkAll parts + 1
  | .iface _ d => uptoBulk d + 1
  | .map entries => uptoBulkEntries entries + 1
  | .held _ => 1
def uptoBulkAll {H : Type} : List (DataW H) → Nat
  | [] => 0
  | d :: r => uptoBulk d + uptoBulkAll r
def uptoBulkEntries {H : Type} : List (Lit × DataW H) → Nat
  | [] => 0
  | x :: r => uptoBulkEntry x + uptoBulkEntries r
def uptoBulkEntry {H : Type} : Lit × DataW H → Nat
  | (.string bytes, d) => bytes.length + uptoBulk d + 1
  | (_, d) => uptoBulk d + 1
 end
def uptoSmall : (H : Type) → List (DataW H) → Bool := fun _ ds => decide (uptoBulkAll ds ≤ 1048576)
def OpenSpec.upto (s : _root_.Go.ChangeSpec) : _root_.Go.OpenSpec := { _root_.Go.OpenSpec.ofChange s with cond := some uptoSmall }

/-- 'chicanelaw01.TickShares', WHERE WHAT IT READS IS OF BULK AT MOST 1048576: true; the input reads as it did. -/
def tickSharesUptoRow : OpenClaim := { program := "ytpmjjnnjkaennaa", sum := "ffd55807a996294d23d5b91032831266ad421a0b579f5b3fcaeabc7dbf00a590", func := "chicane/chicanelaw01.TickShares", spec := "tickShares", recurses := true, named := ["math/bits.divideError", "math/bits.overflowError"], apart := false, narrowed := true }
def TickSharesUptoSaid : Prop := tickSharesUptoRow.holds Try.pinned (OpenSpec.upto tickSharesSpec)

/-- 'chicanelaw01.TickTexts', WHERE WHAT IT READS IS OF BULK AT MOST 1048576: true; the input reads as it did. -/
def tickTextsUptoRow : OpenClaim := { program := "ytpmjjnnjkaennaa", sum := "ffd55807a996294d23d5b91032831266ad421a0b579f5b3fcaeabc7dbf00a590", func := "chicane/chicanelaw01.TickTexts", spec := "tickTexts", recurses := true, named := ["math/bits.divideError", "math/bits.overflowError"], apart := false, narrowed := true }
def TickTextsUptoSaid : Prop := tickTextsUptoRow.holds Try.pinned (OpenSpec.upto tickTextsSpec)

/-- 'chicanelaw01.TickLeast', WHERE WHAT IT READS IS OF BULK AT MOST 1048576: true; the input reads as it did. -/
def tickLeastUptoRow : OpenClaim := { program := "ytpmjjnnjkaennaa", sum := "ffd55807a996294d23d5b91032831266ad421a0b579f5b3fcaeabc7dbf00a590", func := "chicane/chicanelaw01.TickLeast", spec := "tickLeast", recurses := true, named := ["math/bits.divideError", "math/bits.overflowError"], apart := false, narrowed := true }
def TickLeastUptoSaid : Prop := tickLeastUptoRow.holds Try.pinned (OpenSpec.upto tickLeastSpec)

/-- 'chicanelaw01.TickSums', WHERE WHAT IT READS IS OF BULK AT MOST 1048576: true; the input reads as it did. -/
def tickSumsUptoRow : OpenClaim := { program := "ytpmjjnnjkaennaa", sum := "ffd55807a996294d23d5b91032831266ad421a0b579f5b3fcaeabc7dbf00a590", func := "chicane/chicanelaw01.TickSums", spec := "tickSums", recurses := true, named := ["math/bits.divideError", "math/bits.overflowError"], apart := false, narrowed := true }
def TickSumsUptoSaid : Prop := tickSumsUptoRow.holds Try.pinned (OpenSpec.upto tickSumsSpec)

/-- 'chicanelaw01.TickOrder', WHERE WHAT IT READS IS OF BULK AT MOST 1048576: true; the input reads as it did. -/
def tickOrderUptoRow : OpenClaim := { program := "ytpmjjnnjkaennaa", sum := "ffd55807a996294d23d5b91032831266ad421a0b579f5b3fcaeabc7dbf00a590", func := "chicane/chicanelaw01.TickOrder", spec := "tickOrder", recurses := true, named := ["math/bits.divideError", "math/bits.overflowError"], apart := false, narrowed := true }
def TickOrderUptoSaid : Prop := tickOrderUptoRow.holds Try.pinned (OpenSpec.upto tickOrderSpec)

/-- 'chicanelaw01.TickBack', WHERE WHAT IT READS IS OF BULK AT MOST 1048576: true; the input reads as it did. -/
def tickBackUptoRow : OpenClaim := { program := "ytpmjjnnjkaennaa", sum := "ffd55807a996294d23d5b91032831266ad421a0b579f5b3fcaeabc7dbf00a590", func := "chicane/chicanelaw01.TickBack", spec := "tickBack", recurses := true, named := ["math/bits.divideError", "math/bits.overflowError"], apart := false, narrowed := true }
def TickBackUptoSaid : Prop := tickBackUptoRow.holds Try.pinned (OpenSpec.upto tickBackSpec)

/-- 'chicanelaw01.TickUps', WHERE WHAT IT READS IS OF BULK AT MOST 1048576: true; the input reads as it did. -/
def tickUpsUptoRow : OpenClaim := { program := "ytpmjjnnjkaennaa", sum := "ffd55807a996294d23d5b91032831266ad421a0b579f5b3fcaeabc7dbf00a590", func := "chicane/chicanelaw01.TickUps", spec := "tickUps", recurses := true, named := ["math/bits.divideError", "math/bits.overflowError"], apart := false, narrowed := true }
def TickUpsUptoSaid : Prop := tickUpsUptoRow.holds Try.pinned (OpenSpec.upto tickUpsSpec)

end Rows
end Go.Proofs.Ytpmjjnnjkaennaa
