-- PRINTED BY print.sh 35421559b90ae4d0a3588c463048766b98c2df88dd9212a6774a882060cdf62d: not written by this session
import Derived.Test.YtoaagdmgoicboaaProg
import Derived.Below
import Derived.Deep.Draws
import Derived.Deep.AppendLies
import Derived.Maps.AppendAt
import Derived.OwnWalk
import Derived.Laws.BytesArg
import Derived.Laws.MakeOwn
import Derived.Laws.OwnMore
import Derived.Deep.OwnRows
import Derived.Tactics
import Derived.Lib.ConvBytes
import Derived.Laws.Slices
import Derived.WalkKit
import Derived.KernelRfl
import Derived.RowKit3
import Derived.Deep.LoopGhost
import Derived.Deep.QuietTactic
import Derived.BigQuiet
import Derived.WideLaws
import Derived.Deep.DeepCutAuto
import Derived.Deep.CutBlock
import Derived.Deep.RegionHeld3
import Derived.Laws.Rows
import Derived.Lib.AppendStr
import Derived.ArgAppend
import Derived.Laws.IdiomCopy
import Derived.OrdersHeld
import Derived.Laws.BitsLemmas
import Derived.RowKit
import Derived.Test.YtoaagdmgoicboaaWWords
import Derived.Test.YtoaagdmgoicboaaWLast
import Derived.Test.YtoaagdmgoicboaaWTab
import Derived.Test.YtoaagdmgoicboaaWFour
import Derived.Test.YtoaagdmgoicboaaWQPut
import Derived.Test.YtoaagdmgoicboaaWApart
import Derived.Test.YtoaagdmgoicboaaWArr
import Derived.Test.YtoaagdmgoicboaaWZeros
import Derived.Test.YtoaagdmgoicboaaWFoot
import Derived.Test.YtoaagdmgoicboaaWKept
import Derived.Test.YtoaagdmgoicboaaWShare
import Derived.Test.YtoaagdmgoicboaaWN
import Derived.Test.YtoaagdmgoicboaaWFootNe
import Derived.Test.YtoaagdmgoicboaaWAt
import Derived.Test.YtoaagdmgoicboaaWEqStruct
import Derived.Test.YtoaagdmgoicboaaWRepsOne
import Derived.Test.YtoaagdmgoicboaaWInv
import Derived.Test.YtoaagdmgoicboaaWInvWords
import Derived.Test.YtoaagdmgoicboaaWGuard
import Derived.Test.YtoaagdmgoicboaaWNEv
import Derived.Test.YtoaagdmgoicboaaWMore
namespace Go.Proofs.Ytoaagdmgoicboaa.PDiceTaken
open Go.RowKit Go.Proofs.YtoaagdmgoicboaaW.PrintWords Go.Proofs.YtoaagdmgoicboaaW.PrintLast Go.Proofs.YtoaagdmgoicboaaW.PrintMore
attribute [local go_sem] max2_int min2_int max_two min_two max_three min_three max_four min_four   -- for this text's walks alone
set_option linter.unusedVariables false
set_option linter.unusedSimpArgs false



def errW : Option Int → Value
  | none => .nilIface
  | some c => .iface 0 (.int .i64 c)
theorem errW_none : errW none = .nilIface := rfl
theorem errW_some (c : Int) : errW (some c) = .iface 0 (.int .i64 c) := rfl

theorem info22 : (Try.prog.info? 22).map (fun i => (i.zero, i.size, i.bytes)) = some (some (.int .u64 0), 1, 8) := by kernel_rfl
-- the values' own types

end Go.Proofs.Ytoaagdmgoicboaa.PDiceTaken
