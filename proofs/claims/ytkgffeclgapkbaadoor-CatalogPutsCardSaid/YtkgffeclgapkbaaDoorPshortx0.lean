-- PRINTED BY print.sh 35421559b90ae4d0a3588c463048766b98c2df88dd9212a6774a882060cdf62d: not written by this session
import Derived.Test.YtkgffeclgapkbaaDoorProg
import Derived.Below
import Derived.Deep.Draws
import Derived.Deep.AppendLies
import Derived.Maps.AppendAt
import Derived.OwnWalk
import Derived.Laws.BytesArg
import Derived.Laws.MakeOwn
import Derived.Laws.OwnMore
import Derived.Deep.OwnRows
import Derived.Tactics
import Derived.Lib.ConvBytes
import Derived.Laws.Slices
import Derived.WalkKit
import Derived.KernelRfl
import Derived.RowKit3
import Derived.Deep.LoopGhost
import Derived.Deep.QuietTactic
import Derived.BigQuiet
import Derived.WideLaws
import Derived.Deep.DeepCutAuto
import Derived.Deep.CutBlock
import Derived.Deep.RegionHeld3
import Derived.Laws.Rows
import Derived.Lib.AppendStr
import Derived.ArgAppend
import Derived.Laws.IdiomCopy
import Derived.OrdersHeld
import Derived.Laws.BitsLemmas
import Derived.RowKit
import Derived.Test.YtkgffeclgapkbaaDoorWWords
import Derived.Test.YtkgffeclgapkbaaDoorWLast
import Derived.Test.YtkgffeclgapkbaaDoorWTab
import Derived.Test.YtkgffeclgapkbaaDoorWFour
import Derived.Test.YtkgffeclgapkbaaDoorWQPut
import Derived.Test.YtkgffeclgapkbaaDoorWApart
import Derived.Test.YtkgffeclgapkbaaDoorWArr
import Derived.Test.YtkgffeclgapkbaaDoorWZeros
import Derived.Test.YtkgffeclgapkbaaDoorWFoot
import Derived.Test.YtkgffeclgapkbaaDoorWKept
import Derived.Test.YtkgffeclgapkbaaDoorWShare
import Derived.Test.YtkgffeclgapkbaaDoorWN
import Derived.Test.YtkgffeclgapkbaaDoorWFootNe
import Derived.Test.YtkgffeclgapkbaaDoorWAt
import Derived.Test.YtkgffeclgapkbaaDoorWEqStruct
import Derived.Test.YtkgffeclgapkbaaDoorWRepsOne
import Derived.Test.YtkgffeclgapkbaaDoorWInv
import Derived.Test.YtkgffeclgapkbaaDoorWInvWords
import Derived.Test.YtkgffeclgapkbaaDoorWGuard
import Derived.Test.YtkgffeclgapkbaaDoorWNEv
import Derived.Test.YtkgffeclgapkbaaDoorWMore
namespace Go.Proofs.YtkgffeclgapkbaaDoor.Pshort
open Go.RowKit Go.Proofs.YtkgffeclgapkbaaDoorW.PrintWords Go.Proofs.YtkgffeclgapkbaaDoorW.PrintLast Go.Proofs.YtkgffeclgapkbaaDoorW.PrintMore
attribute [local go_sem] max2_int min2_int max_two min_two max_three min_three max_four min_four   -- for this text's walks alone
set_option linter.unusedVariables false
set_option linter.unusedSimpArgs false



def errW : Option Int → Value
  | none => .nilIface
  | some c => .iface 0 (.int .i64 c)
theorem errW_none : errW none = .nilIface := rfl
theorem errW_some (c : Int) : errW (some c) = .iface 0 (.int .i64 c) := rfl

theorem info5 : (Tryd.prog.info? 5).map (fun i => (i.zero, i.size, i.bytes)) = some (some (.int .u8 0), 1, 1) := by kernel_rfl
-- the values' own types

end Go.Proofs.YtkgffeclgapkbaaDoor.Pshort
