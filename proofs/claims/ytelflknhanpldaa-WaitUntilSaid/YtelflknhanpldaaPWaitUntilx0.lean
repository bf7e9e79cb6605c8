-- PRINTED BY print.sh 35421559b90ae4d0a3588c463048766b98c2df88dd9212a6774a882060cdf62d: not written by this session
import Derived.Test.YtelflknhanpldaaProg
import Derived.Below
import Derived.Deep.Draws
import Derived.Deep.AppendLies
import Derived.Maps.AppendAt
import Derived.OwnWalk
import Derived.Laws.BytesArg
import Derived.Laws.MakeOwn
import Derived.Laws.OwnMore
import Derived.Deep.OwnRows
import Derived.Tactics
import Derived.Lib.ConvBytes
import Derived.Laws.Slices
import Derived.WalkKit
import Derived.KernelRfl
import Derived.RowKit3
import Derived.Deep.LoopGhost
import Derived.Deep.QuietTactic
import Derived.BigQuiet
import Derived.WideLaws
import Derived.Deep.DeepCutAuto
import Derived.Deep.CutBlock
import Derived.Deep.RegionHeld3
import Derived.Laws.Rows
import Derived.Lib.AppendStr
import Derived.ArgAppend
import Derived.Laws.IdiomCopy
import Derived.OrdersHeld
import Derived.Laws.BitsLemmas
import Derived.RowKit
import Derived.Test.YtelflknhanpldaaWWords
import Derived.Test.YtelflknhanpldaaWLast
import Derived.Test.YtelflknhanpldaaWTab
import Derived.Test.YtelflknhanpldaaWFour
import Derived.Test.YtelflknhanpldaaWQPut
import Derived.Test.YtelflknhanpldaaWApart
import Derived.Test.YtelflknhanpldaaWArr
import Derived.Test.YtelflknhanpldaaWZeros
import Derived.Test.YtelflknhanpldaaWFoot
import Derived.Test.YtelflknhanpldaaWKept
import Derived.Test.YtelflknhanpldaaWShare
import Derived.Test.YtelflknhanpldaaWN
import Derived.Test.YtelflknhanpldaaWFootNe
import Derived.Test.YtelflknhanpldaaWAt
import Derived.Test.YtelflknhanpldaaWEqStruct
import Derived.Test.YtelflknhanpldaaWRepsOne
import Derived.Test.YtelflknhanpldaaWInv
import Derived.Test.YtelflknhanpldaaWInvWords
import Derived.Test.YtelflknhanpldaaWGuard
import Derived.Test.YtelflknhanpldaaWNEv
import Derived.Test.YtelflknhanpldaaWMore
namespace Go.Proofs.Ytelflknhanpldaa.PWaitUntil
open Go.RowKit Go.Proofs.YtelflknhanpldaaW.PrintWords Go.Proofs.YtelflknhanpldaaW.PrintLast Go.Proofs.YtelflknhanpldaaW.PrintMore
attribute [local go_sem] max2_int min2_int max_two min_two max_three min_three max_four min_four   -- for this text's walks alone
set_option linter.unusedVariables false
set_option linter.unusedSimpArgs false



def errW : Option Int → Value
  | none => .nilIface
  | some c => .iface 0 (.int .i64 c)
theorem errW_none : errW none = .nilIface := rfl
theorem errW_some (c : Int) : errW (some c) = .iface 0 (.int .i64 c) := rfl

-- the values' own types

end Go.Proofs.Ytelflknhanpldaa.PWaitUntil
