/- WireBounds, in the form that a row takes. -/
import Derived.Test.YtibdgpnedlpdbaaGwO
set_option linter.unusedVariables false
namespace Go.Proofs.Ytibdgpnedlpdbaa.Pb
open Go.RowKit Go.Proofs.YtibdgpnedlpdbaaW.PrintWords Go.Proofs.Ytibdgpnedlpdbaa.Gw
def BoundsOk (a0 : Int) (r : Bool) : Prop := r = true ∧ 0 ≤ a0 ∧ a0 ≤ 255
theorem abugidalaw02_WireBounds.calls (k : Nat) (a0 : Int) (r : Bool) (w : World) (h : BoundsOk a0 r) :
    Calls Try.prog 9 #[.int .u8 a0] w fun e w' => e = .returned (.bool r) ∧ Below w.heap.size w w' := by
  obtain ⟨rfl, h0, h1⟩ := h
  exact bounds_any a0 w h0 h1
end Go.Proofs.Ytibdgpnedlpdbaa.Pb
