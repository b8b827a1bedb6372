-- LAID BY PROGRAM out of the translation's own text (no part of it is trusted: Lean checks every line)
import Derived.Test.YtcdiifjdbchclaaProg
import Derived.Below
import Derived.Deep.Draws
import Derived.Deep.AppendLies
import Derived.Maps.AppendAt
import Derived.OwnWalk
import Derived.Laws.BytesArg
import Derived.Laws.MakeOwn
import Derived.Laws.OwnMore
import Derived.Deep.OwnRows
import Derived.Tactics
import Derived.Lib.ConvBytes
import Derived.Laws.Slices
import Derived.WalkKit
import Derived.KernelRfl
import Derived.RowKit3
import Derived.Deep.LoopGhost
import Derived.Deep.QuietTactic
import Derived.BigQuiet
import Derived.WideLaws
import Derived.Deep.DeepCutAuto
import Derived.Deep.CutBlock
import Derived.Deep.RegionHeld3
import Derived.Laws.Rows
import Derived.Lib.AppendStr
import Derived.ArgAppend
import Derived.Laws.IdiomCopy
import Derived.OrdersHeld
import Derived.Laws.BitsLemmas
import Derived.RowKit
import Derived.Test.YtcdiifjdbchclaaWWords
import Derived.Test.YtcdiifjdbchclaaWLast
import Derived.Test.YtcdiifjdbchclaaWTab
import Derived.Test.YtcdiifjdbchclaaWFour
import Derived.Test.YtcdiifjdbchclaaWQPut
import Derived.Test.YtcdiifjdbchclaaWApart
import Derived.Test.YtcdiifjdbchclaaWArr
import Derived.Test.YtcdiifjdbchclaaWZeros
import Derived.Test.YtcdiifjdbchclaaWFoot
import Derived.Test.YtcdiifjdbchclaaWKept
import Derived.Test.YtcdiifjdbchclaaWShare
import Derived.Test.YtcdiifjdbchclaaWN
import Derived.Test.YtcdiifjdbchclaaWFootNe
import Derived.Test.YtcdiifjdbchclaaWAt
import Derived.Test.YtcdiifjdbchclaaWEqStruct
import Derived.Test.YtcdiifjdbchclaaWRepsOne
import Derived.Test.YtcdiifjdbchclaaWInv
import Derived.Test.YtcdiifjdbchclaaWInvWords
import Derived.Test.YtcdiifjdbchclaaWGuard
import Derived.Test.YtcdiifjdbchclaaWNEv
import Derived.Test.YtcdiifjdbchclaaWMore
namespace Go.Proofs.Ytcdiifjdbchclaa.P
open Go.RowKit Go.Proofs.YtcdiifjdbchclaaW.PrintWords Go.Proofs.YtcdiifjdbchclaaW.PrintLast Go.Proofs.YtcdiifjdbchclaaW.PrintMore
attribute [local go_sem] max2_int min2_int max_two min_two max_three min_three max_four min_four   -- for this text's walks alone
set_option linter.unusedVariables false
set_option linter.unusedSimpArgs false



def errW : Option Int → Value
  | none => .nilIface
  | some c => .iface 0 (.int .i64 c)
theorem errW_none : errW none = .nilIface := rfl
theorem errW_some (c : Int) : errW (some c) = .iface 0 (.int .i64 c) := rfl

theorem info3 : (Try.prog.info? 3).map (fun i => (i.zero, i.size, i.bytes)) = some (some (.int .i64 0), 1, 8) := by kernel_rfl
-- the values' own types

end Go.Proofs.Ytcdiifjdbchclaa.P
