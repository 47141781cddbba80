/- WireInts: the bytes of a number are those of the reference, and are read again. No condition beside the row's own. -/
import Derived.Test.YtibdgpnedlpdbaaGwD
set_option linter.unusedVariables false
namespace Go.Proofs.Ytibdgpnedlpdbaa.Pure
open Go.RowKit Go.Proofs.Ytibdgpnedlpdbaa.Pb Go.Proofs.YtibdgpnedlpdbaaW.PrintWords Go.Proofs.YtibdgpnedlpdbaaW.PrintLast Go.Proofs.YtibdgpnedlpdbaaW.PrintMore Go.Proofs.Ytibdgpnedlpdbaa.Gw
theorem IntB_small (n : Int) (h0 : -9223372036854775808 ≤ n) (h1 : n ≤ 9223372036854775807) : (IntB n).size ≤ 10 := by rw [IntB_size]; exact vb_len10 (zig_lt h0 h1)
theorem WireInts : abugidalaw02_WireInts.Pure := by
  intro a b ha hb
  obtain ⟨a0, a1⟩ := i64_range ha
  obtain ⟨b0, b1⟩ := i64_range hb
  have za := IntB_small a a0 a1
  have zb := IntB_small b b0 b1
  refine Ev.rounds (g := fun k => abugidalaw02_WireInts.f k a b) ?_
  unfold abugidalaw02_WireInts.f
  refine Ev.bind sanity_ev ?_
  refine Ev.bind (wire_Int_ev a a0 a1) ?_
  refine Ev.bind (wire_Int_ev b b0 b1) ?_
  refine evI (by omega) ?_
  refine Ev.bind (a := (IntB a ++ IntB b, false)) (Ev.now _) ?_
  refine Ev.bind (Reader_Int_ev a a0 a1 (IntB b)) ?_
  have hb' := Reader_Int_ev b b0 b1 ByteArray.empty
  rw [ByteArray.append_empty] at hb'
  refine Ev.bind hb' ?_
  refine evI rfl ?_
  refine Ev.bind (ref_Int_ev a a0 a1) ?_
  refine Ev.bind (ref_Int_ev b b0 b1) ?_
  refine evI (by omega) ?_
  refine evI rfl ?_
  refine evI rfl ?_
  refine evI rfl ?_
  refine Ev.bind (a := (0, ByteArray.empty, false)) (Ev.now _) ?_
  refine evI rfl ?_
  exact Ev.bind (a := (false, ByteArray.empty, false)) (Ev.now _) (Ev.now _)
end Go.Proofs.Ytibdgpnedlpdbaa.Pure
