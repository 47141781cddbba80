/- The law DiffCopies: its row, out of the walk. No condition beside the row's own. -/
import Derived.Test.YtjjpiedcdcdejaaRows
import Derived.Test.YtjjpiedcdcdejaaDfV
import Derived.Test.YtjjpiedcdcdejaaRowD
import Derived.Test.YtjjpiedcdcdejaaWSized
import Derived.WalkKit
import Derived.ProofKit
import Derived.OpenShut
import Derived.ShutString
import Derived.ChangeOld
import Derived.Below
import Derived.SizedLaws
import Derived.Lib.SmallJoins
set_option linter.unusedVariables false
namespace Go.Proofs.Ytjjpiedcdcdejaa.diffCopies
open Go.ChangeShapes Go.WideShapes Go.ChangeAt Go.RowKit
open Go.ChangeMaps (open_string shut_string)
open Go.Proofs.YtjjpiedcdcdejaaW.PrintWords
theorem own : ownKnob Try.prog.godebug = none := by kernel_rfl
theorem laidOut : laidOutB Try.prog = true := by kernel_rfl
set_option maxRecDepth 100000 in
set_option maxHeartbeats 1000000 in
theorem lifted (os : Os) (started : os.Started) (H : Type) (enc : TypeId × Value → H) :
    ReturnsInHanded {} Try.checked os 5 .any (Rows.diffCopiesSpec.pre6 enc Try.prog Try.f5 Rows.diffCopiesRow.domain false) (Rows.diffCopiesSpec.post enc Try.prog Try.f5 false true false false) := by
  refine returnsInHanded_of_change_sized (C := Try.checked) own started (by kernel_rfl) Try.func5
    (ChangeSpec.witness6 (enc := enc) (C := Try.checked) false ⟨#[], #[.string ByteArray.empty, .agg #[.slice none 0 0, .slice none 0 0]], []⟩ 8 (by kernel_rfl) (by kernel_rfl) (by kernel_rfl) (by kernel_rfl)) ?_
  intro W base args ds gs before hval0 hW hcnd hsz0 _
  have hval : ∀ (j : Nat) t v, Try.f5.params[j]? = some t → args[j]? = some v → Value.okWide Try.prog W .any base t v := hval0
  have hW' := hW
  obtain ⟨p, q, hA0, hV, rfl, hfz, hnd⟩ := hW
  have hA : DataW.TrodAll enc Try.prog W 0 (fun _ => true) true Try.f5.params.toList args.toList ds p := hA0
  rw [Try.params5] at hA hval
  obtain ⟨v0, vs0, d0, ds0, p0, q0, hargs, rfl, rfl, h0, r0⟩ := trodAll_cons hA
  obtain ⟨v1, vs1, d1, ds1, p1, q1, rfl, rfl, rfl, h1, r1⟩ := trodAll_cons r0
  obtain ⟨rfl, rfl, rfl⟩ := trodAll_nil r1
  obtain rfl : args = #[v0, v1] := by cases args; simp_all
  obtain ⟨rfl, rfl⟩ := trodVars_none hV
  have k0 := h0
  have lt0 : ∀ x ∈ p0, x.block < W.heap.size := by obtain ⟨m, hm⟩ := k0; exact DataW.trod_lt m _ _ _ hm
  obtain ⟨a0, rfl, _, _, w0⟩ := open_string Try.underlying9 (hval 0 9 v0 rfl rfl) h0
  have k1 := h1
  have lt1 : ∀ x ∈ p1, x.block < W.heap.size := by obtain ⟨m, hm⟩ := k1; exact DataW.trod_lt m _ _ _ hm
  obtain ⟨⟨cs1⟩, rfl, sz1⟩ := okWide_struct Try.underlying38 (hval 1 38 v1 rfl rfl)
  obtain ⟨e1_0, e1_1, rfl⟩ := RowD.len2 (l := cs1) (sz1.trans (by kernel_rfl))
  obtain ⟨fu1, hf1⟩ := h1
  obtain ⟨xs1, m1, _, _, _, xl1, hx1⟩ := DataW.trod_struct Try.underlying38 hf1
  obtain ⟨y1_0, hy1_0⟩ := RowD.get_x (j := 0) xl1 (by decide)
  have z1_0 := RowD.trod_cell (hx1 0 _ rfl) hy1_0 1 (by kernel_rfl) (ds := [e1_0]) rfl
  obtain ⟨A1_0, n1_0, c1_0, ea1_0⟩ := Go.Joins.slice_form Try.underlying22 z1_0; obtain rfl : e1_0 = _ := by simpa using ea1_0
  obtain ⟨l1_0, rfl, hC1_0, hc1_0, hl1_0, hw1_0⟩ := RowD.ints_in (a := A1_0) (len := n1_0) (cap := c1_0) Try.underlying22 Try.underlying3 (by kernel_rfl) ⟨_, z1_0⟩
  obtain ⟨y1_1, hy1_1⟩ := RowD.get_x (j := 1) xl1 (by decide)
  have z1_1 := RowD.trod_cell (hx1 1 _ rfl) hy1_1 1 (by kernel_rfl) (ds := [e1_1]) rfl
  obtain ⟨A1_1, n1_1, c1_1, ea1_1⟩ := Go.Joins.slice_form Try.underlying32 z1_1; obtain rfl : e1_1 = _ := by simpa using ea1_1
  obtain ⟨l1_1, rfl, hC1_1, hc1_1, hw1_1⟩ := RowS.strs_in (a := A1_1) (len := n1_1) (cap := c1_1) Try.underlying32 Try.underlying9 (by kernel_rfl) ⟨_, z1_1⟩
  have hl1_1 : l1_1.length ≤ 9223372036854775807 := hC1_1.2.1
  clear hA0 hval0 hsz0
  refine (Pure.diffCopies_calls W a0 w0 A1_0 c1_0 l1_0 hC1_0 hc1_0 hl1_0 hw1_0 A1_1 c1_1 l1_1 hC1_1 hc1_1 hl1_1 hw1_1).mono ?_
  rintro e W' ⟨he, bel⟩
  subst he
  exact ⟨_, rfl, _, _, _, [], _, [], hW', trodAll_mk1 (shut_bool Try.underlying4 _), (trodAll_cons_mk (Below.trod laidOut (by kernel_rfl) (of_decide_eq_true (by kernel_rfl)) k0 bel lt0) (trodAll_cons_mk (Below.trod laidOut (by kernel_rfl) (of_decide_eq_true (by kernel_rfl)) k1 bel lt1) trodAll_mk0)), rfl, bel.frame _, fun h => by cases h⟩
theorem over : Rows.diffCopiesRow.holds Try.pinned (OpenSpec.ofChange Rows.diffCopiesSpec) :=
  OpenClaim.holds_of_wide 5 Try.f5 rfl rfl rfl rfl rfl rfl rfl ⟨rfl, rfl, rfl, rfl, rfl⟩ rfl rfl rfl rfl rfl (by kernel_rfl) Try.func5 (by kernel_rfl)
    (of_decide_eq_true (by kernel_rfl)) (by unfold Func.isWrapper; first | (rw [if_pos (by decide +kernel)]; kernel_rfl) | (rw [if_neg (by decide +kernel)]; exact ⟨rfl, rfl⟩))
    (fun os started H enc _ => lifted os started H enc)
theorem proved : Rows.DiffCopiesSaid := over
#print axioms proved
end Go.Proofs.Ytjjpiedcdcdejaa.diffCopies
namespace Go.Proofs.Ytjjpiedcdcdejaa
/-- The row, under a short name, for the claim. -/
theorem diffCopies_holds : Rows.DiffCopiesSaid := diffCopies.proved
end Go.Proofs.Ytjjpiedcdcdejaa
