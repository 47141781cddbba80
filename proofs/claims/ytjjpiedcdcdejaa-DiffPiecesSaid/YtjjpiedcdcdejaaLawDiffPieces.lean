/- The law DiffPieces: its row, out of the walk. No condition beside the row's own. -/
import Derived.Test.YtjjpiedcdcdejaaRows
import Derived.Test.YtjjpiedcdcdejaaDfQ
import Derived.Test.YtjjpiedcdcdejaaRowD
import Derived.Test.YtjjpiedcdcdejaaWSized
import Derived.WalkKit
import Derived.ProofKit
import Derived.OpenShut
import Derived.ShutString
import Derived.ChangeOld
import Derived.Below
import Derived.SizedLaws
import Derived.Lib.SmallJoins
set_option linter.unusedVariables false
namespace Go.Proofs.Ytjjpiedcdcdejaa.diffPieces
open Go.ChangeShapes Go.WideShapes Go.ChangeAt Go.RowKit
open Go.ChangeMaps (open_string shut_string)
open Go.Proofs.YtjjpiedcdcdejaaW.PrintWords
theorem own : ownKnob Try.prog.godebug = none := by kernel_rfl
theorem laidOut : laidOutB Try.prog = true := by kernel_rfl
set_option maxRecDepth 100000 in
set_option maxHeartbeats 1000000 in
theorem lifted (os : Os) (started : os.Started) (H : Type) (enc : TypeId × Value → H) :
    ReturnsInHanded {} Try.checked os 7 .any (Rows.diffPiecesSpec.pre6 enc Try.prog Try.f7 Rows.diffPiecesRow.domain false) (Rows.diffPiecesSpec.post enc Try.prog Try.f7 false true false false) := by
  refine returnsInHanded_of_change_sized (C := Try.checked) own started (by kernel_rfl) Try.func7
    (ChangeSpec.witness6 (enc := enc) (C := Try.checked) false ⟨#[], #[.agg #[.string ByteArray.empty, .slice none 0 0]], []⟩ 8 (by kernel_rfl) (by kernel_rfl) (by kernel_rfl) (by kernel_rfl)) ?_
  intro W base args ds gs before hval0 hW hcnd hsz0 _
  have hval : ∀ (j : Nat) t v, Try.f7.params[j]? = some t → args[j]? = some v → Value.okWide Try.prog W .any base t v := hval0
  have hW' := hW
  obtain ⟨p, q, hA0, hV, rfl, hfz, hnd⟩ := hW
  have hA : DataW.TrodAll enc Try.prog W 0 (fun _ => true) true Try.f7.params.toList args.toList ds p := hA0
  rw [Try.params7] at hA hval
  obtain ⟨v0, vs0, d0, ds0, p0, q0, hargs, rfl, rfl, h0, r0⟩ := trodAll_cons hA
  obtain ⟨rfl, rfl, rfl⟩ := trodAll_nil r0
  obtain rfl : args = #[v0] := by cases args; simp_all
  obtain ⟨rfl, rfl⟩ := trodVars_none hV
  have k0 := h0
  have lt0 : ∀ x ∈ p0, x.block < W.heap.size := by obtain ⟨m, hm⟩ := k0; exact DataW.trod_lt m _ _ _ hm
  obtain ⟨⟨cs0⟩, rfl, sz0⟩ := okWide_struct Try.underlying24 (hval 0 24 v0 rfl rfl)
  obtain ⟨e0_0, e0_1, rfl⟩ := RowD.len2 (l := cs0) (sz0.trans (by kernel_rfl))
  obtain ⟨fu0, hf0⟩ := h0
  obtain ⟨xs0, m0, _, _, _, xl0, hx0⟩ := DataW.trod_struct Try.underlying24 hf0
  obtain ⟨y0_0, hy0_0⟩ := RowD.get_x (j := 0) xl0 (by decide)
  have z0_0 := RowD.trod_cell (hx0 0 _ rfl) hy0_0 1 (by kernel_rfl) (ds := [e0_0]) rfl
  obtain ⟨a0_0, ea0_0, _, w0_0⟩ := DataW.trod_string Try.underlying9 z0_0; obtain rfl : e0_0 = _ := by simpa using ea0_0
  obtain ⟨y0_1, hy0_1⟩ := RowD.get_x (j := 1) xl0 (by decide)
  have z0_1 := RowD.trod_cell (hx0 1 _ rfl) hy0_1 1 (by kernel_rfl) (ds := [e0_1]) rfl
  obtain ⟨A0_1, n0_1, c0_1, ea0_1⟩ := Go.Joins.slice_form Try.underlying22 z0_1; obtain rfl : e0_1 = _ := by simpa using ea0_1
  obtain ⟨l0_1, rfl, hC0_1, hc0_1, hl0_1, hw0_1⟩ := RowD.ints_in (a := A0_1) (len := n0_1) (cap := c0_1) Try.underlying22 Try.underlying3 (by kernel_rfl) ⟨_, z0_1⟩
  clear hA0 hval0 hsz0
  refine (Pure.diffPieces_calls W a0_0 w0_0 A0_1 c0_1 l0_1 hC0_1 hc0_1 hl0_1 hw0_1).mono ?_
  rintro e W' ⟨he, bel⟩
  subst he
  exact ⟨_, rfl, _, _, _, [], _, [], hW', trodAll_mk1 (shut_bool Try.underlying4 _), (trodAll_cons_mk (Below.trod laidOut (by kernel_rfl) (of_decide_eq_true (by kernel_rfl)) k0 bel lt0) trodAll_mk0), rfl, bel.frame _, fun h => by cases h⟩
theorem over : Rows.diffPiecesRow.holds Try.pinned (OpenSpec.ofChange Rows.diffPiecesSpec) :=
  OpenClaim.holds_of_wide 7 Try.f7 rfl rfl rfl rfl rfl rfl rfl ⟨rfl, rfl, rfl, rfl, rfl⟩ rfl rfl rfl rfl rfl (by kernel_rfl) Try.func7 (by kernel_rfl)
    (of_decide_eq_true (by kernel_rfl)) (by unfold Func.isWrapper; first | (rw [if_pos (by decide +kernel)]; kernel_rfl) | (rw [if_neg (by decide +kernel)]; exact ⟨rfl, rfl⟩))
    (fun os started H enc _ => lifted os started H enc)
theorem proved : Rows.DiffPiecesSaid := over
#print axioms proved
end Go.Proofs.Ytjjpiedcdcdejaa.diffPieces
namespace Go.Proofs.Ytjjpiedcdcdejaa
/-- The row, under a short name, for the claim. -/
theorem diffPieces_holds : Rows.DiffPiecesSaid := diffPieces.proved
end Go.Proofs.Ytjjpiedcdcdejaa
