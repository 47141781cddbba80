/- RelayNothing, in the row's own form. -/
import Derived.Test.YthokkeljfdfppaaRnF
set_option linter.unusedVariables false
set_option linter.unusedSimpArgs false
namespace Go.Proofs.Ythokkeljfdfppaa.Rl
open Go.RowKit Go.Proofs.YthokkeljfdfppaaW.PrintWords Go.Proofs.YthokkeljfdfppaaW.PrintLast Go.Proofs.YthokkeljfdfppaaW.PrintMore Go.Proofs.Ythokkeljfdfppaa.Pb Go.Proofs.Ythokkeljfdfppaa.Gw Go.Proofs.Ythokkeljfdfppaa.Pure
theorem relayNothing_calls (w : World) (A0 : Option Addr) (c0 : Nat) (l0 : List S52) (hC0 : Kd.C k52 w A0 l0.length l0) (hc0 : l0.length ≤ c0) (hl0 : c0 ≤ 9223372036854775807) (hk0 : ∀ k ∈ l0, KOk k) (bu : Int) (wbu : (Lit.int .i64 bu).wf = true) (fr : Int) (wfr : (Lit.int .i64 fr).wf = true) (tw : Int) (wtw : (Lit.int .i64 tw).wf = true) (s : ByteArray) (hs : s.size ≤ 9223372036854775807) :
 Calls Try.prog 9 #[.slice A0 l0.length c0, .int .i64 bu, .agg #[.int .i64 fr, .int .i64 tw, .string s]] w fun e w' => e = .returned (.bool true) ∧ Below w.heap.size w w' := nothing_walk w A0 c0 l0 bu fr tw s hC0
end Go.Proofs.Ythokkeljfdfppaa.Rl
