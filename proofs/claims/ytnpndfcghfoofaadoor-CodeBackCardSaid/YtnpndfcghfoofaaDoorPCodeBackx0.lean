-- PRINTED BY print.sh 35421559b90ae4d0a3588c463048766b98c2df88dd9212a6774a882060cdf62d: not written by this session
import Derived.Test.YtnpndfcghfoofaaDoorProg
import Derived.Below
import Derived.Deep.Draws
import Derived.Deep.AppendLies
import Derived.Maps.AppendAt
import Derived.OwnWalk
import Derived.Laws.BytesArg
import Derived.Laws.MakeOwn
import Derived.Laws.OwnMore
import Derived.Deep.OwnRows
import Derived.Tactics
import Derived.Lib.ConvBytes
import Derived.Laws.Slices
import Derived.WalkKit
import Derived.KernelRfl
import Derived.RowKit3
import Derived.Deep.LoopGhost
import Derived.Deep.QuietTactic
import Derived.BigQuiet
import Derived.WideLaws
import Derived.Deep.DeepCutAuto
import Derived.Deep.CutBlock
import Derived.Deep.RegionHeld3
import Derived.Laws.Rows
import Derived.Lib.AppendStr
import Derived.ArgAppend
import Derived.Laws.IdiomCopy
import Derived.OrdersHeld
import Derived.Laws.BitsLemmas
import Derived.RowKit
import Derived.Test.YtnpndfcghfoofaaDoorWWords
import Derived.Test.YtnpndfcghfoofaaDoorWLast
import Derived.Test.YtnpndfcghfoofaaDoorWTab
import Derived.Test.YtnpndfcghfoofaaDoorWFour
import Derived.Test.YtnpndfcghfoofaaDoorWQPut
import Derived.Test.YtnpndfcghfoofaaDoorWApart
import Derived.Test.YtnpndfcghfoofaaDoorWArr
import Derived.Test.YtnpndfcghfoofaaDoorWZeros
import Derived.Test.YtnpndfcghfoofaaDoorWFoot
import Derived.Test.YtnpndfcghfoofaaDoorWKept
import Derived.Test.YtnpndfcghfoofaaDoorWShare
import Derived.Test.YtnpndfcghfoofaaDoorWN
import Derived.Test.YtnpndfcghfoofaaDoorWFootNe
import Derived.Test.YtnpndfcghfoofaaDoorWAt
import Derived.Test.YtnpndfcghfoofaaDoorWEqStruct
import Derived.Test.YtnpndfcghfoofaaDoorWRepsOne
import Derived.Test.YtnpndfcghfoofaaDoorWInv
import Derived.Test.YtnpndfcghfoofaaDoorWInvWords
import Derived.Test.YtnpndfcghfoofaaDoorWGuard
import Derived.Test.YtnpndfcghfoofaaDoorWNEv
import Derived.Test.YtnpndfcghfoofaaDoorWMore
namespace Go.Proofs.YtnpndfcghfoofaaDoor.PCodeBack
open Go.RowKit Go.Proofs.YtnpndfcghfoofaaDoorW.PrintWords Go.Proofs.YtnpndfcghfoofaaDoorW.PrintLast Go.Proofs.YtnpndfcghfoofaaDoorW.PrintMore
attribute [local go_sem] max2_int min2_int max_two min_two max_three min_three max_four min_four   -- for this text's walks alone
set_option linter.unusedVariables false
set_option linter.unusedSimpArgs false



def errW : Option Int → Value
  | none => .nilIface
  | some c => .iface 0 (.int .i64 c)
theorem errW_none : errW none = .nilIface := rfl
theorem errW_some (c : Int) : errW (some c) = .iface 0 (.int .i64 c) := rfl

theorem info5 : (Tryd.prog.info? 5).map (fun i => (i.zero, i.size, i.bytes)) = some (some (.int .u8 0), 1, 1) := by kernel_rfl
-- the values' own types

end Go.Proofs.YtnpndfcghfoofaaDoor.PCodeBack
