/- WireBounds: readers of nothing, and nil ones. No condition beside the row's own. -/
import Derived.Test.YtibdgpnedlpdbaaPbx9
set_option linter.unusedVariables false
namespace Go.Proofs.Ytibdgpnedlpdbaa.Pure
open Go.RowKit Go.Proofs.Ytibdgpnedlpdbaa.Pb
theorem WireBounds (a : Int) (h : (Lit.int .u8 a).wf = true) : ∃ k : Nat, BoundsOk a true := by
  have h2 : 0 ≤ a ∧ a ≤ 255 := by simp [Lit.wf] at h; exact h
  exact ⟨0, rfl, h2.1, h2.2⟩
end Go.Proofs.Ytibdgpnedlpdbaa.Pure
