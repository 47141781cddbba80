/- The law RelayAsks: its row, out of the walk. No condition beside the row's own. -/
import Derived.Test.YthokkeljfdfppaaRows
import Derived.Test.YthokkeljfdfppaaMgF
import Derived.Test.YthokkeljfdfppaaMgR
import Derived.Test.YthokkeljfdfppaaWSized
import Derived.WalkKit
import Derived.ProofKit
import Derived.OpenShut
import Derived.ShutString
import Derived.ChangeOld
import Derived.Below
import Derived.SizedLaws
import Derived.Lib.SmallJoins
set_option linter.unusedVariables false
namespace Go.Proofs.Ythokkeljfdfppaa.relayAsks
open Go.ChangeShapes Go.WideShapes Go.ChangeAt Go.RowKit
open Go.ChangeMaps (open_string shut_string)
open Go.Proofs.YthokkeljfdfppaaW.PrintWords
theorem own : ownKnob Try.prog.godebug = none := by kernel_rfl
theorem laidOut : laidOutB Try.prog = true := by kernel_rfl
set_option maxRecDepth 100000 in
set_option maxHeartbeats 1000000 in
theorem lifted (os : Os) (started : os.Started) (H : Type) (enc : TypeId × Value → H) :
    ReturnsInHanded {} Try.checked os 4 .any (Rows.relayAsksSpec.pre6 enc Try.prog Try.f4 Rows.relayAsksRow.domain false) (Rows.relayAsksSpec.post enc Try.prog Try.f4 false true false false) := by
  refine returnsInHanded_of_change_sized (C := Try.checked) own started (by kernel_rfl) Try.func4
    (ChangeSpec.witness6 (enc := enc) (C := Try.checked) false ⟨#[], #[.agg #[.string ByteArray.empty, .string ByteArray.empty], .agg #[.int .i64 0, .int .i64 0], .agg #[.slice none 0 0, .slice none 0 0]], []⟩ 8 (by kernel_rfl) (by kernel_rfl) (by kernel_rfl) (by kernel_rfl)) ?_
  intro W base args ds gs before hval0 hW hcnd hsz0 _
  have hval : ∀ (j : Nat) t v, Try.f4.params[j]? = some t → args[j]? = some v → Value.okWide Try.prog W .any base t v := hval0
  have hW' := hW
  obtain ⟨p, q, hA0, hV, rfl, hfz, hnd⟩ := hW
  have hA : DataW.TrodAll enc Try.prog W 0 (fun _ => true) true Try.f4.params.toList args.toList ds p := hA0
  rw [Try.params4] at hA hval
  obtain ⟨v0, vs0, d0, ds0, p0, q0, hargs, rfl, rfl, h0, r0⟩ := trodAll_cons hA
  obtain ⟨v1, vs1, d1, ds1, p1, q1, rfl, rfl, rfl, h1, r1⟩ := trodAll_cons r0
  obtain ⟨v2, vs2, d2, ds2, p2, q2, rfl, rfl, rfl, h2, r2⟩ := trodAll_cons r1
  obtain ⟨rfl, rfl, rfl⟩ := trodAll_nil r2
  obtain rfl : args = #[v0, v1, v2] := by cases args; simp_all
  obtain ⟨rfl, rfl⟩ := trodVars_none hV
  have k0 := h0
  have lt0 : ∀ x ∈ p0, x.block < W.heap.size := by obtain ⟨m, hm⟩ := k0; exact DataW.trod_lt m _ _ _ hm
  obtain ⟨⟨cs0⟩, rfl, sz0⟩ := RowD.okWide_array Try.underlying22 (hval 0 22 v0 rfl rfl)
  obtain ⟨e0_0, e0_1, rfl⟩ := RowD.len2 (l := cs0) (sz0.trans (by kernel_rfl))
  obtain ⟨fu0, hf0⟩ := h0
  obtain ⟨xs0, m0, _, _, _, xl0, hx0⟩ := DataW.trod_array Try.underlying22 hf0
  obtain ⟨y0_0, hy0_0⟩ := RowD.get_x (j := 0) xl0 (by decide)
  have z0_0 := RowD.trod_cell (hx0 0 (by decide)) hy0_0 1 (by kernel_rfl) (ds := [e0_0]) rfl
  obtain ⟨a0_0, ea0_0, _, w0_0⟩ := DataW.trod_string Try.underlying9 z0_0; obtain rfl : e0_0 = _ := by simpa using ea0_0
  obtain ⟨y0_1, hy0_1⟩ := RowD.get_x (j := 1) xl0 (by decide)
  have z0_1 := RowD.trod_cell (hx0 1 (by decide)) hy0_1 1 (by kernel_rfl) (ds := [e0_1]) rfl
  obtain ⟨a0_1, ea0_1, _, w0_1⟩ := DataW.trod_string Try.underlying9 z0_1; obtain rfl : e0_1 = _ := by simpa using ea0_1
  have k1 := h1
  have lt1 : ∀ x ∈ p1, x.block < W.heap.size := by obtain ⟨m, hm⟩ := k1; exact DataW.trod_lt m _ _ _ hm
  obtain ⟨⟨cs1⟩, rfl, sz1⟩ := RowD.okWide_array Try.underlying32 (hval 1 32 v1 rfl rfl)
  obtain ⟨e1_0, e1_1, rfl⟩ := RowD.len2 (l := cs1) (sz1.trans (by kernel_rfl))
  obtain ⟨fu1, hf1⟩ := h1
  obtain ⟨xs1, m1, _, _, _, xl1, hx1⟩ := DataW.trod_array Try.underlying32 hf1
  obtain ⟨y1_0, hy1_0⟩ := RowD.get_x (j := 0) xl1 (by decide)
  have z1_0 := RowD.trod_cell (hx1 0 (by decide)) hy1_0 1 (by kernel_rfl) (ds := [e1_0]) rfl
  obtain ⟨a1_0, ea1_0, _, w1_0⟩ := DataW.trod_int Try.underlying3 z1_0; obtain rfl : e1_0 = _ := by simpa using ea1_0
  obtain ⟨y1_1, hy1_1⟩ := RowD.get_x (j := 1) xl1 (by decide)
  have z1_1 := RowD.trod_cell (hx1 1 (by decide)) hy1_1 1 (by kernel_rfl) (ds := [e1_1]) rfl
  obtain ⟨a1_1, ea1_1, _, w1_1⟩ := DataW.trod_int Try.underlying3 z1_1; obtain rfl : e1_1 = _ := by simpa using ea1_1
  have k2 := h2
  have lt2 : ∀ x ∈ p2, x.block < W.heap.size := by obtain ⟨m, hm⟩ := k2; exact DataW.trod_lt m _ _ _ hm
  obtain ⟨⟨cs2⟩, rfl, sz2⟩ := RowD.okWide_array Try.underlying34 (hval 2 34 v2 rfl rfl)
  obtain ⟨e2_0, e2_1, rfl⟩ := RowD.len2 (l := cs2) (sz2.trans (by kernel_rfl))
  obtain ⟨fu2, hf2⟩ := h2
  obtain ⟨xs2, m2, _, _, _, xl2, hx2⟩ := DataW.trod_array Try.underlying34 hf2
  obtain ⟨y2_0, hy2_0⟩ := RowD.get_x (j := 0) xl2 (by decide)
  have z2_0 := RowD.trod_cell (hx2 0 (by decide)) hy2_0 1 (by kernel_rfl) (ds := [e2_0]) rfl
  obtain ⟨A2_0, n2_0, c2_0, ea2_0⟩ := Go.Joins.slice_form Try.underlying33 z2_0; obtain rfl : e2_0 = _ := by simpa using ea2_0
  obtain ⟨l2_0, rfl, hC2_0, hc2_0, hl2_0, hw2_0⟩ := RowK.keys_in (a := A2_0) (len := n2_0) (cap := c2_0) z2_0
  obtain ⟨y2_1, hy2_1⟩ := RowD.get_x (j := 1) xl2 (by decide)
  have z2_1 := RowD.trod_cell (hx2 1 (by decide)) hy2_1 1 (by kernel_rfl) (ds := [e2_1]) rfl
  obtain ⟨A2_1, n2_1, c2_1, ea2_1⟩ := Go.Joins.slice_form Try.underlying33 z2_1; obtain rfl : e2_1 = _ := by simpa using ea2_1
  obtain ⟨l2_1, rfl, hC2_1, hc2_1, hl2_1, hw2_1⟩ := RowK.keys_in (a := A2_1) (len := n2_1) (cap := c2_1) z2_1
  clear hA0 hval0 hsz0
  refine (Rl.relayAsks_calls W a0_0 w0_0 a0_1 w0_1 a1_0 w1_0 a1_1 w1_1 A2_0 c2_0 l2_0 hC2_0 hc2_0 hl2_0 hw2_0 A2_1 c2_1 l2_1 hC2_1 hc2_1 hl2_1 hw2_1).mono ?_
  rintro e W' ⟨he, bel⟩
  subst he
  exact ⟨_, rfl, _, _, _, [], _, [], hW', trodAll_mk1 (shut_bool Try.underlying4 _), (trodAll_cons_mk (Below.trod laidOut (by kernel_rfl) (of_decide_eq_true (by kernel_rfl)) k0 bel lt0) (trodAll_cons_mk (Below.trod laidOut (by kernel_rfl) (of_decide_eq_true (by kernel_rfl)) k1 bel lt1) (trodAll_cons_mk (Below.trod laidOut (by kernel_rfl) (of_decide_eq_true (by kernel_rfl)) k2 bel lt2) trodAll_mk0))), rfl, bel.frame _, fun h => by cases h⟩
theorem over : Rows.relayAsksRow.holds Try.pinned (OpenSpec.ofChange Rows.relayAsksSpec) :=
  OpenClaim.holds_of_wide 4 Try.f4 rfl rfl rfl rfl rfl rfl rfl ⟨rfl, rfl, rfl, rfl, rfl⟩ rfl rfl rfl rfl rfl (by kernel_rfl) Try.func4 (by kernel_rfl)
    (of_decide_eq_true (by kernel_rfl)) (by unfold Func.isWrapper; first | (rw [if_pos (by decide +kernel)]; kernel_rfl) | (rw [if_neg (by decide +kernel)]; exact ⟨rfl, rfl⟩))
    (fun os started H enc _ => lifted os started H enc)
theorem proved : Rows.RelayAsksSaid := over
#print axioms proved
end Go.Proofs.Ythokkeljfdfppaa.relayAsks
namespace Go.Proofs.Ythokkeljfdfppaa
/-- The row, under a short name, for the claim. -/
theorem relayAsks_holds : Rows.RelayAsksSaid := relayAsks.proved
end Go.Proofs.Ythokkeljfdfppaa
