/- RelayPlays, in the row's own form. -/
import Derived.Test.YthokkeljfdfppaaRpG
import Derived.OpenShut
set_option linter.unusedVariables false
set_option linter.unusedSimpArgs false
namespace Go.Proofs.Ythokkeljfdfppaa.Rl
open Go.RowKit Go.Proofs.YthokkeljfdfppaaW.PrintWords Go.Proofs.YthokkeljfdfppaaW.PrintLast Go.Proofs.YthokkeljfdfppaaW.PrintMore Go.Proofs.Ythokkeljfdfppaa.Pb Go.Proofs.Ythokkeljfdfppaa.Gw Go.Proofs.Ythokkeljfdfppaa.Pure Go.Proofs.Ythokkeljfdfppaa.RowA
theorem relayPlays_calls (w : World) (bu : Int) (wbu : (Lit.int .u16 bu).wf = true) (A0 : Option Addr) (c0 : Nat) (l0 : List ActP) (hC0 : Kd.C kAct w A0 l0.length l0) (hc0 : l0.length ≤ c0) (hl0 : c0 ≤ 9223372036854775807) (hk0 : ∀ k ∈ l0, ActOk k) :
 Calls Try.prog 7 #[.int .u16 bu, .slice A0 l0.length c0] w fun e w' => e = .returned (.bool true) ∧ Below w.heap.size w w' :=
 plays_walk w bu (by simp [Lit.wf, IntKind.min, IntKind.max, IntKind.signed, IntKind.bits] at wbu; omega) A0 c0 l0 hC0
end Go.Proofs.Ythokkeljfdfppaa.Rl
