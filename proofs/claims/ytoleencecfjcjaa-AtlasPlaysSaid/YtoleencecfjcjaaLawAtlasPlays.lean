/- The law AtlasPlays: its row, out of the walk. No condition beside the row's own. -/
import Derived.Test.YtoleencecfjcjaaRows
import Derived.Test.YtoleencecfjcjaaMgJ
import Derived.Test.YtoleencecfjcjaaMgI
import Derived.WalkKit
import Derived.ProofKit
import Derived.OpenShut
import Derived.ShutString
import Derived.ChangeOld
import Derived.Below
import Derived.SizedLaws
set_option linter.unusedVariables false
namespace Go.Proofs.Ytoleencecfjcjaa.atlasPlays
open Go.ChangeShapes Go.WideShapes Go.ChangeAt Go.RowKit
open Go.ChangeMaps (open_string shut_string)
open Go.Proofs.YtoleencecfjcjaaW.PrintWords
theorem own : ownKnob Try.prog.godebug = none := by kernel_rfl
theorem laidOut : laidOutB Try.prog = true := by kernel_rfl
set_option maxRecDepth 100000 in
set_option maxHeartbeats 1000000 in
theorem lifted (os : Os) (started : os.Started) (H : Type) (enc : TypeId × Value → H) :
    ReturnsInHanded {} Try.checked os 3 .any (Rows.atlasPlaysSpec.pre6 enc Try.prog Try.f3 Rows.atlasPlaysRow.domain false) (Rows.atlasPlaysSpec.post enc Try.prog Try.f3 false true false false) := by
  refine returnsInHanded_of_change_sized (C := Try.checked) own started (by kernel_rfl) Try.func3
    (ChangeSpec.witness6 (enc := enc) (C := Try.checked) false ⟨#[], #[.agg #[.int .u8 0, .int .u8 0], .slice none 0 0], []⟩ 8 (by kernel_rfl) (by kernel_rfl) (by kernel_rfl) (by kernel_rfl)) ?_
  intro W base args ds gs before hval0 hW hcnd hsz0 _
  have hval : ∀ (j : Nat) t v, Try.f3.params[j]? = some t → args[j]? = some v → Value.okWide Try.prog W .any base t v := hval0
  have hW' := hW
  obtain ⟨p, q, hA0, hV, rfl, hfz, hnd⟩ := hW
  have hA : DataW.TrodAll enc Try.prog W 0 (fun _ => true) true Try.f3.params.toList args.toList ds p := hA0
  rw [Try.params3] at hA hval
  obtain ⟨v0, vs0, d0, ds0, p0, q0, hargs, rfl, rfl, h0, r0⟩ := trodAll_cons hA
  obtain ⟨v1, vs1, d1, ds1, p1, q1, rfl, rfl, rfl, h1, r1⟩ := trodAll_cons r0
  obtain ⟨rfl, rfl, rfl⟩ := trodAll_nil r1
  obtain rfl : args = #[v0, v1] := by cases args; simp_all
  obtain ⟨rfl, rfl⟩ := trodVars_none hV
  have k0 := h0
  have lt0 : ∀ x ∈ p0, x.block < W.heap.size := by obtain ⟨m, hm⟩ := k0; exact DataW.trod_lt m _ _ _ hm
  obtain ⟨⟨cs0⟩, rfl, sz0⟩ := RowD.okWide_array Try.underlying22 (hval 0 22 v0 rfl rfl)
  obtain ⟨e0_0, e0_1, rfl⟩ := RowD.len2 (l := cs0) (sz0.trans (by kernel_rfl))
  obtain ⟨fu0, hf0⟩ := h0
  obtain ⟨xs0, m0, _, _, _, xl0, hx0⟩ := DataW.trod_array Try.underlying22 hf0
  obtain ⟨y0_0, hy0_0⟩ := RowD.get_x (j := 0) xl0 (by decide)
  have z0_0 := RowD.trod_cell (hx0 0 (by decide)) hy0_0 1 (by kernel_rfl) (ds := [e0_0]) rfl
  obtain ⟨a0_0, ea0_0, _, w0_0⟩ := DataW.trod_int Try.underlying5 z0_0; obtain rfl : e0_0 = _ := by simpa using ea0_0
  obtain ⟨y0_1, hy0_1⟩ := RowD.get_x (j := 1) xl0 (by decide)
  have z0_1 := RowD.trod_cell (hx0 1 (by decide)) hy0_1 1 (by kernel_rfl) (ds := [e0_1]) rfl
  obtain ⟨a0_1, ea0_1, _, w0_1⟩ := DataW.trod_int Try.underlying5 z0_1; obtain rfl : e0_1 = _ := by simpa using ea0_1
  have k1 := h1
  have lt1 : ∀ x ∈ p1, x.block < W.heap.size := by obtain ⟨m, hm⟩ := k1; exact DataW.trod_lt m _ _ _ hm
  obtain ⟨A1, n1, c1, rfl⟩ := okWide_slice Try.underlying23 (hval 1 23 v1 rfl rfl)
  obtain ⟨fu1, hf1⟩ := h1
  obtain ⟨l1, rfl, hC1, hc1, hl1, hw1⟩ := RowC.calls_in (a := A1) (len := n1) (cap := c1) hf1
  clear hA0 hval0 hsz0
  refine (At.atlasPlays_calls W a0_0 w0_0 a0_1 w0_1 A1 c1 l1 hC1 hc1 hl1 hw1).mono ?_
  rintro e W' ⟨he, bel⟩
  subst he
  exact ⟨_, rfl, _, _, _, [], _, [], hW', trodAll_mk1 (shut_bool Try.underlying4 _), (trodAll_cons_mk (Below.trod laidOut (by kernel_rfl) (of_decide_eq_true (by kernel_rfl)) k0 bel lt0) (trodAll_cons_mk (Below.trod laidOut (by kernel_rfl) (of_decide_eq_true (by kernel_rfl)) k1 bel lt1) trodAll_mk0)), rfl, bel.frame _, fun h => by cases h⟩
theorem over : Rows.atlasPlaysRow.holds Try.pinned (OpenSpec.ofChange Rows.atlasPlaysSpec) :=
  OpenClaim.holds_of_wide 3 Try.f3 rfl rfl rfl rfl rfl rfl rfl ⟨rfl, rfl, rfl, rfl, rfl⟩ rfl rfl rfl rfl rfl (by kernel_rfl) Try.func3 (by kernel_rfl)
    (of_decide_eq_true (by kernel_rfl)) (by unfold Func.isWrapper; first | (rw [if_pos (by decide +kernel)]; kernel_rfl) | (rw [if_neg (by decide +kernel)]; exact ⟨rfl, rfl⟩))
    (fun os started H enc _ => lifted os started H enc)
theorem proved : Rows.AtlasPlaysSaid := over
#print axioms proved
end Go.Proofs.Ytoleencecfjcjaa.atlasPlays
namespace Go.Proofs.Ytoleencecfjcjaa
/-- The row, under a short name, for the claim. -/
theorem atlasPlays_holds : Rows.AtlasPlaysSaid := atlasPlays.proved
end Go.Proofs.Ytoleencecfjcjaa
