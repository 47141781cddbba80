/- RelayTells, in the row's own form. -/
import Derived.Test.YthokkeljfdfppaaMgN
set_option linter.unusedVariables false
set_option linter.unusedSimpArgs false
namespace Go.Proofs.Ythokkeljfdfppaa.Rl
open Go.RowKit Go.Proofs.YthokkeljfdfppaaW.PrintWords Go.Proofs.YthokkeljfdfppaaW.PrintLast Go.Proofs.YthokkeljfdfppaaW.PrintMore Go.Proofs.Ythokkeljfdfppaa.Pb Go.Proofs.Ythokkeljfdfppaa.Gw Go.Proofs.Ythokkeljfdfppaa.Pure
theorem relayTells_calls (w : World) (A0 : Option Addr) (c0 : Nat) (l0 : List S52) (hC0 : Kd.C k52 w A0 l0.length l0) (hc0 : l0.length ≤ c0) (hl0 : c0 ≤ 9223372036854775807) (hk0 : ∀ k ∈ l0, KOk k) (A1 : Option Addr) (c1 : Nat) (l1 : List S52) (hC1 : Kd.C k52 w A1 l1.length l1) (hc1 : l1.length ≤ c1) (hl1 : c1 ≤ 9223372036854775807) (hk1 : ∀ k ∈ l1, KOk k) :
    Calls Try.prog 5 #[.slice A0 l0.length c0, .slice A1 l1.length c1] w fun e w' => e = .returned (.bool true) ∧ Below w.heap.size w w' := tells_walk w A0 c0 l0 A1 c1 l1 hC0 hC1
end Go.Proofs.Ythokkeljfdfppaa.Rl
