-- Written by a program of ours (wip/printx.sh), for this claim
import Derived.Test.YtnbgljphdkfmpaaProg
import Derived.Below
import Derived.Deep.Draws
import Derived.Deep.AppendLies
import Derived.Maps.AppendAt
import Derived.OwnWalk
import Derived.Laws.BytesArg
import Derived.Laws.MakeOwn
import Derived.Laws.OwnMore
import Derived.Deep.OwnRows
import Derived.Tactics
import Derived.Lib.ConvBytes
import Derived.Laws.Slices
import Derived.WalkKit
import Derived.KernelRfl
import Derived.RowKit3
import Derived.Deep.LoopGhost
import Derived.Deep.QuietTactic
import Derived.BigQuiet
import Derived.WideLaws
import Derived.Deep.DeepCutAuto
import Derived.Deep.CutBlock
import Derived.Deep.RegionHeld3
import Derived.Laws.Rows
import Derived.Lib.AppendStr
import Derived.ArgAppend
import Derived.Laws.IdiomCopy
import Derived.OrdersHeld
import Derived.Laws.BitsLemmas
import Derived.RowKit
import Derived.Test.YtnbgljphdkfmpaaCh
import Derived.Test.YtnbgljphdkfmpaaWWords
import Derived.Test.YtnbgljphdkfmpaaWLast
import Derived.Test.YtnbgljphdkfmpaaWTab
import Derived.Test.YtnbgljphdkfmpaaWFour
import Derived.Test.YtnbgljphdkfmpaaWQPut
import Derived.Test.YtnbgljphdkfmpaaWApart
import Derived.Test.YtnbgljphdkfmpaaWArr
import Derived.Test.YtnbgljphdkfmpaaWZeros
import Derived.Test.YtnbgljphdkfmpaaWFoot
import Derived.Test.YtnbgljphdkfmpaaWKept
import Derived.Test.YtnbgljphdkfmpaaWShare
import Derived.Test.YtnbgljphdkfmpaaWN
import Derived.Test.YtnbgljphdkfmpaaWFootNe
import Derived.Test.YtnbgljphdkfmpaaWAt
import Derived.Test.YtnbgljphdkfmpaaWEqStruct
import Derived.Test.YtnbgljphdkfmpaaWRepsOne
import Derived.Test.YtnbgljphdkfmpaaWInv
import Derived.Test.YtnbgljphdkfmpaaWInvWords
import Derived.Test.YtnbgljphdkfmpaaWGuard
import Derived.Test.YtnbgljphdkfmpaaWNEv
import Derived.Test.YtnbgljphdkfmpaaWMore
namespace Go.Proofs.Ytnbgljphdkfmpaa.PChooserFinds
open Go.RowKit Go.Proofs.YtnbgljphdkfmpaaW.PrintWords Go.Proofs.YtnbgljphdkfmpaaW.PrintLast Go.Proofs.YtnbgljphdkfmpaaW.PrintMore
attribute [local go_sem] max2_int min2_int max_two min_two max_three min_three max_four min_four   -- for this text's walks alone
set_option linter.unusedVariables false
set_option linter.unusedSimpArgs false



def errW : Option Int → Value
  | none => .nilIface
  | some c => .iface 0 (.int .i64 c)
theorem errW_none : errW none = .nilIface := rfl
theorem errW_some (c : Int) : errW (some c) = .iface 0 (.int .i64 c) := rfl

theorem info3 : (Try.prog.info? 3).map (fun i => (i.zero, i.size, i.bytes)) = some (some (.int .i64 0), 1, 8) := by kernel_rfl
-- the values' own types

end Go.Proofs.Ytnbgljphdkfmpaa.PChooserFinds
