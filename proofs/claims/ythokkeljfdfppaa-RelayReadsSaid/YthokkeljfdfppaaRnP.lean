/- RelayReads, in the row's own form. -/
import Derived.Test.YthokkeljfdfppaaRnH
import Derived.OpenShut
set_option linter.unusedVariables false
set_option linter.unusedSimpArgs false
namespace Go.Proofs.Ythokkeljfdfppaa.Rl
open Go.RowKit Go.Proofs.YthokkeljfdfppaaW.PrintWords Go.Proofs.YthokkeljfdfppaaW.PrintLast Go.Proofs.YthokkeljfdfppaaW.PrintMore Go.Proofs.Ythokkeljfdfppaa.Pb Go.Proofs.Ythokkeljfdfppaa.Gw Go.Proofs.Ythokkeljfdfppaa.Pure
theorem relayReads_calls (w : World) (A0 : Option Addr) (c0 : Nat) (l0 : List S52) (hC0 : Kd.C k52 w A0 l0.length l0) (hc0 : l0.length ≤ c0) (hl0 : c0 ≤ 9223372036854775807) (hk0 : ∀ k ∈ l0, KOk k) (s : ByteArray) (hs : s.size ≤ 9223372036854775807) (a0 : Int) (w0 : (Lit.int .u16 a0).wf = true) (a1 : Int) (w1 : (Lit.int .u16 a1).wf = true) :
 Calls Try.prog 6 #[.slice A0 l0.length c0, .string s, .agg #[.int .u16 a0, .int .u16 a1]] w fun e w' => e = .returned (.bool true) ∧ Below w.heap.size w w' :=
 reads_walk w A0 c0 l0 s hs a0 a1 (by simp [Lit.wf, IntKind.min, IntKind.max, IntKind.signed, IntKind.bits] at w0; omega) (by simp [Lit.wf, IntKind.min, IntKind.max, IntKind.signed, IntKind.bits] at w1; omega) hC0
end Go.Proofs.Ythokkeljfdfppaa.Rl
