/- Several texts of this claim, one behind the other: Pby0, Pby1. -/
import Derived.Test.YtjjpiedcdcdejaaPbx2
import Derived.Test.YtjjpiedcdcdejaaProg
import Derived.Below
import Derived.Deep.Draws
import Derived.Deep.AppendLies
import Derived.Maps.AppendAt
import Derived.OwnWalk
import Derived.Laws.BytesArg
import Derived.Laws.MakeOwn
import Derived.Laws.OwnMore
import Derived.Deep.OwnRows
import Derived.Tactics
import Derived.Lib.ConvBytes
import Derived.Laws.Slices
import Derived.WalkKit
import Derived.KernelRfl
import Derived.RowKit3
import Derived.Deep.LoopGhost
import Derived.Deep.QuietTactic
import Derived.BigQuiet
import Derived.WideLaws
import Derived.Deep.DeepCutAuto
import Derived.Deep.CutBlock
import Derived.Deep.RegionHeld3
import Derived.Laws.Rows
import Derived.Lib.AppendStr
import Derived.ArgAppend
import Derived.Laws.IdiomCopy
import Derived.OrdersHeld
import Derived.Laws.BitsLemmas
import Derived.RowKit
import Derived.Test.YtjjpiedcdcdejaaMgG
import Derived.Test.YtjjpiedcdcdejaaWWords
import Derived.Test.YtjjpiedcdcdejaaWLast
import Derived.Test.YtjjpiedcdcdejaaWTab
import Derived.Test.YtjjpiedcdcdejaaWQPut
import Derived.Test.YtjjpiedcdcdejaaWApart
import Derived.Test.YtjjpiedcdcdejaaWArr
import Derived.Test.YtjjpiedcdcdejaaWZeros
import Derived.Test.YtjjpiedcdcdejaaWFoot
import Derived.Test.YtjjpiedcdcdejaaWKept
import Derived.Test.YtjjpiedcdcdejaaWShare
import Derived.Test.YtjjpiedcdcdejaaWN
import Derived.Test.YtjjpiedcdcdejaaWFootNe
import Derived.Test.YtjjpiedcdcdejaaWEqStruct
import Derived.Test.YtjjpiedcdcdejaaWRepsOne
import Derived.Test.YtjjpiedcdcdejaaWGuard
import Derived.Test.YtjjpiedcdcdejaaWNEv
import Derived.Test.YtjjpiedcdcdejaaWMore
-- Printed for this claim by its own gprint.py, over contracts proved by hand; not trusted: Lean checks it.
namespace Go.Proofs.Ytjjpiedcdcdejaa.Pb
open Go.RowKit Go.Proofs.YtjjpiedcdcdejaaW.PrintWords Go.Proofs.YtjjpiedcdcdejaaW.PrintLast Go.Proofs.YtjjpiedcdcdejaaW.PrintMore
open Go.Proofs.Ytjjpiedcdcdejaa.Gw
attribute [local go_sem] max2_int min2_int max_two min_two max_three min_three max_four min_four   -- for this text's walks alone
set_option linter.unusedVariables false
set_option linter.unusedSimpArgs false




-- the values' own types

end Go.Proofs.Ytjjpiedcdcdejaa.Pb

-- Printed for this claim by its own gprint.py, over contracts proved by hand; not trusted: Lean checks it.
namespace Go.Proofs.Ytjjpiedcdcdejaa.Pb
open Go.RowKit Go.Proofs.Ytjjpiedcdcdejaa.Gw Go.Proofs.YtjjpiedcdcdejaaW.PrintWords Go.Proofs.YtjjpiedcdcdejaaW.PrintLast Go.Proofs.YtjjpiedcdcdejaaW.PrintMore
open Go.Proofs.Ytjjpiedcdcdejaa.Gw
attribute [local go_sem] max2_int min2_int max_two min_two max_three min_three max_four min_four   -- for this text's walks alone
set_option linter.unusedVariables false
set_option linter.unusedSimpArgs false

/-! ### abugidaref02_Reader_length: function 51 -/
/-! ### abugidaref02_Reader_Text: function 53 -/
/-! ### abugidaref02_Reader_Texts: function 37 -/
/-! ### abugidaref02_Reader_Ints: function 36 -/
end Go.Proofs.Ytjjpiedcdcdejaa.Pb

