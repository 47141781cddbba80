-- Printed for this claim by its own gprint.py, over contracts proved by hand; not trusted: Lean checks it.
import Derived.Test.YtoolionhheiihaaProg
import Derived.Below
import Derived.Deep.Draws
import Derived.Deep.AppendLies
import Derived.Maps.AppendAt
import Derived.OwnWalk
import Derived.Laws.BytesArg
import Derived.Laws.MakeOwn
import Derived.Laws.OwnMore
import Derived.Deep.OwnRows
import Derived.Tactics
import Derived.Lib.ConvBytes
import Derived.Laws.Slices
import Derived.WalkKit
import Derived.KernelRfl
import Derived.RowKit3
import Derived.Deep.LoopGhost
import Derived.Deep.QuietTactic
import Derived.BigQuiet
import Derived.WideLaws
import Derived.Deep.DeepCutAuto
import Derived.Deep.CutBlock
import Derived.Deep.RegionHeld3
import Derived.Laws.Rows
import Derived.Lib.AppendStr
import Derived.ArgAppend
import Derived.Laws.IdiomCopy
import Derived.OrdersHeld
import Derived.Laws.BitsLemmas
import Derived.RowKit
import Derived.Test.YtoolionhheiihaaMgD
import Derived.Test.YtoolionhheiihaaWWords
import Derived.Test.YtoolionhheiihaaWLast
import Derived.Test.YtoolionhheiihaaWTab
import Derived.Test.YtoolionhheiihaaWQPut
import Derived.Test.YtoolionhheiihaaWApart
import Derived.Test.YtoolionhheiihaaWArr
import Derived.Test.YtoolionhheiihaaWZeros
import Derived.Test.YtoolionhheiihaaWFoot
import Derived.Test.YtoolionhheiihaaWRepsOne
import Derived.Test.YtoolionhheiihaaWKept
import Derived.Test.YtoolionhheiihaaWShare
import Derived.Test.YtoolionhheiihaaWN
import Derived.Test.YtoolionhheiihaaWGuard
import Derived.Test.YtoolionhheiihaaWNEv
import Derived.Test.YtoolionhheiihaaWMore
namespace Go.Proofs.Ytoolionhheiihaa.Pb
open Go.RowKit Go.Proofs.YtoolionhheiihaaW.PrintWords Go.Proofs.YtoolionhheiihaaW.PrintLast Go.Proofs.YtoolionhheiihaaW.PrintMore
open Go.Proofs.Ytoolionhheiihaa.Gv
attribute [local go_sem] max2_int min2_int max_two min_two max_three min_three max_four min_four   -- for this text's walks alone
set_option linter.unusedVariables false
set_option linter.unusedSimpArgs false



def errW : Option Int → Value
  | none => .nilIface
  | some c => .iface 0 (.int .i64 c)
theorem errW_none : errW none = .nilIface := rfl
theorem errW_some (c : Int) : errW (some c) = .iface 0 (.int .i64 c) := rfl

theorem info5 : (Try.prog.info? 5).map (fun i => (i.zero, i.size, i.bytes)) = some (some (.int .u8 0), 1, 1) := by kernel_rfl
theorem info9 : (Try.prog.info? 9).map (fun i => (i.zero, i.size, i.bytes)) = some (some (.string ⟨#[]⟩), 1, 16) := by kernel_rfl
-- the values' own types

end Go.Proofs.Ytoolionhheiihaa.Pb
