-- PRINTED BY print.sh 35421559b90ae4d0a3588c463048766b98c2df88dd9212a6774a882060cdf62d: not written by this session
import Derived.Test.YtmccdopagidfnaaDoorProg
import Derived.Below
import Derived.Deep.Draws
import Derived.Deep.AppendLies
import Derived.Maps.AppendAt
import Derived.OwnWalk
import Derived.Laws.BytesArg
import Derived.Laws.MakeOwn
import Derived.Laws.OwnMore
import Derived.Deep.OwnRows
import Derived.Tactics
import Derived.Lib.ConvBytes
import Derived.Laws.Slices
import Derived.WalkKit
import Derived.KernelRfl
import Derived.RowKit3
import Derived.Deep.LoopGhost
import Derived.Deep.QuietTactic
import Derived.BigQuiet
import Derived.WideLaws
import Derived.Deep.DeepCutAuto
import Derived.Deep.CutBlock
import Derived.Deep.RegionHeld3
import Derived.Laws.Rows
import Derived.Lib.AppendStr
import Derived.ArgAppend
import Derived.Laws.IdiomCopy
import Derived.OrdersHeld
import Derived.Laws.BitsLemmas
import Derived.RowKit
import Derived.Test.YtmccdopagidfnaaDoorWWords
import Derived.Test.YtmccdopagidfnaaDoorWLast
import Derived.Test.YtmccdopagidfnaaDoorWTab
import Derived.Test.YtmccdopagidfnaaDoorWFour
import Derived.Test.YtmccdopagidfnaaDoorWQPut
import Derived.Test.YtmccdopagidfnaaDoorWApart
import Derived.Test.YtmccdopagidfnaaDoorWArr
import Derived.Test.YtmccdopagidfnaaDoorWZeros
import Derived.Test.YtmccdopagidfnaaDoorWFoot
import Derived.Test.YtmccdopagidfnaaDoorWKept
import Derived.Test.YtmccdopagidfnaaDoorWShare
import Derived.Test.YtmccdopagidfnaaDoorWN
import Derived.Test.YtmccdopagidfnaaDoorWFootNe
import Derived.Test.YtmccdopagidfnaaDoorWAt
import Derived.Test.YtmccdopagidfnaaDoorWEqStruct
import Derived.Test.YtmccdopagidfnaaDoorWRepsOne
import Derived.Test.YtmccdopagidfnaaDoorWInv
import Derived.Test.YtmccdopagidfnaaDoorWInvWords
import Derived.Test.YtmccdopagidfnaaDoorWGuard
import Derived.Test.YtmccdopagidfnaaDoorWNEv
import Derived.Test.YtmccdopagidfnaaDoorWMore
namespace Go.Proofs.YtmccdopagidfnaaDoor.PFailUnlike
open Go.RowKit Go.Proofs.YtmccdopagidfnaaDoorW.PrintWords Go.Proofs.YtmccdopagidfnaaDoorW.PrintLast Go.Proofs.YtmccdopagidfnaaDoorW.PrintMore
attribute [local go_sem] max2_int min2_int max_two min_two max_three min_three max_four min_four   -- for this text's walks alone
set_option linter.unusedVariables false
set_option linter.unusedSimpArgs false



def errW : Option Int → Value
  | none => .nilIface
  | some c => .iface 35 (.int .i64 c)
theorem errW_none : errW none = .nilIface := rfl
theorem errW_some (c : Int) : errW (some c) = .iface 35 (.int .i64 c) := rfl

theorem info5 : (Tryd.prog.info? 5).map (fun i => (i.zero, i.size, i.bytes)) = some (some (.int .u8 0), 1, 1) := by kernel_rfl
-- the values' own types

end Go.Proofs.YtmccdopagidfnaaDoor.PFailUnlike
