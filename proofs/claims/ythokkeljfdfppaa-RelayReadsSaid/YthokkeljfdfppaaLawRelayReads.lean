/- The law RelayReads: its row, out of the walk. No condition beside the row's own. -/
import Derived.Test.YthokkeljfdfppaaRows
import Derived.Test.YthokkeljfdfppaaRnP
import Derived.Test.YthokkeljfdfppaaMgR
import Derived.Test.YthokkeljfdfppaaWSized
import Derived.WalkKit
import Derived.ProofKit
import Derived.OpenShut
import Derived.ShutString
import Derived.ChangeOld
import Derived.Below
import Derived.SizedLaws
set_option linter.unusedVariables false
namespace Go.Proofs.Ythokkeljfdfppaa.relayReads
open Go.ChangeShapes Go.WideShapes Go.ChangeAt Go.RowKit
open Go.ChangeMaps (open_string shut_string)
open Go.Proofs.YthokkeljfdfppaaW.PrintWords
theorem own : ownKnob Try.prog.godebug = none := by kernel_rfl
theorem laidOut : laidOutB Try.prog = true := by kernel_rfl
set_option maxRecDepth 100000 in
set_option maxHeartbeats 1000000 in
theorem lifted (os : Os) (started : os.Started) (H : Type) (enc : TypeId × Value → H) :
    ReturnsInHanded {} Try.checked os 6 .any (Rows.relayReadsSpec.pre6 enc Try.prog Try.f6 Rows.relayReadsRow.domain false) (Rows.relayReadsSpec.post enc Try.prog Try.f6 false true false false) := by
  refine returnsInHanded_of_change_sized (C := Try.checked) own started (by kernel_rfl) Try.func6
    (ChangeSpec.witness6 (enc := enc) (C := Try.checked) false ⟨#[], #[.slice none 0 0, .string ByteArray.empty, .agg #[.int .u16 0, .int .u16 0]], []⟩ 8 (by kernel_rfl) (by kernel_rfl) (by kernel_rfl) (by kernel_rfl)) ?_
  intro W base args ds gs before hval0 hW hcnd hsz0 _
  have hval : ∀ (j : Nat) t v, Try.f6.params[j]? = some t → args[j]? = some v → Value.okWide Try.prog W .any base t v := hval0
  have hW' := hW
  obtain ⟨p, q, hA0, hV, rfl, hfz, hnd⟩ := hW
  have hA : DataW.TrodAll enc Try.prog W 0 (fun _ => true) true Try.f6.params.toList args.toList ds p := hA0
  rw [Try.params6] at hA hval
  obtain ⟨v0, vs0, d0, ds0, p0, q0, hargs, rfl, rfl, h0, r0⟩ := trodAll_cons hA
  obtain ⟨v1, vs1, d1, ds1, p1, q1, rfl, rfl, rfl, h1, r1⟩ := trodAll_cons r0
  obtain ⟨v2, vs2, d2, ds2, p2, q2, rfl, rfl, rfl, h2, r2⟩ := trodAll_cons r1
  obtain ⟨rfl, rfl, rfl⟩ := trodAll_nil r2
  obtain rfl : args = #[v0, v1, v2] := by cases args; simp_all
  obtain ⟨rfl, rfl⟩ := trodVars_none hV
  have k0 := h0
  have lt0 : ∀ x ∈ p0, x.block < W.heap.size := by obtain ⟨m, hm⟩ := k0; exact DataW.trod_lt m _ _ _ hm
  obtain ⟨A0, n0, c0, rfl⟩ := okWide_slice Try.underlying41 (hval 0 41 v0 rfl rfl)
  obtain ⟨fu0, hf0⟩ := h0
  obtain ⟨l0, rfl, hC0, hc0, hl0, hw0⟩ := RowQ.q3_in (a := A0) (len := n0) (cap := c0) hf0
  have k1 := h1
  have lt1 : ∀ x ∈ p1, x.block < W.heap.size := by obtain ⟨m, hm⟩ := k1; exact DataW.trod_lt m _ _ _ hm
  obtain ⟨a1, rfl, _, _, w1⟩ := open_string Try.underlying9 (hval 1 9 v1 rfl rfl) h1
  have k2 := h2
  have lt2 : ∀ x ∈ p2, x.block < W.heap.size := by obtain ⟨m, hm⟩ := k2; exact DataW.trod_lt m _ _ _ hm
  obtain ⟨⟨cs2⟩, rfl, sz2⟩ := RowD.okWide_array Try.underlying50 (hval 2 50 v2 rfl rfl)
  obtain ⟨e2_0, e2_1, rfl⟩ := RowD.len2 (l := cs2) (sz2.trans (by kernel_rfl))
  obtain ⟨fu2, hf2⟩ := h2
  obtain ⟨xs2, m2, _, _, _, xl2, hx2⟩ := DataW.trod_array Try.underlying50 hf2
  obtain ⟨y2_0, hy2_0⟩ := RowD.get_x (j := 0) xl2 (by decide)
  have z2_0 := RowD.trod_cell (hx2 0 (by decide)) hy2_0 1 (by kernel_rfl) (ds := [e2_0]) rfl
  obtain ⟨a2_0, ea2_0, _, w2_0⟩ := DataW.trod_int Try.underlying49 z2_0; obtain rfl : e2_0 = _ := by simpa using ea2_0
  obtain ⟨y2_1, hy2_1⟩ := RowD.get_x (j := 1) xl2 (by decide)
  have z2_1 := RowD.trod_cell (hx2 1 (by decide)) hy2_1 1 (by kernel_rfl) (ds := [e2_1]) rfl
  obtain ⟨a2_1, ea2_1, _, w2_1⟩ := DataW.trod_int Try.underlying49 z2_1; obtain rfl : e2_1 = _ := by simpa using ea2_1
  clear hA0 hval0 hsz0
  refine (Rl.relayReads_calls W A0 c0 l0 hC0 hc0 hl0 hw0 a1 w1 a2_0 w2_0 a2_1 w2_1).mono ?_
  rintro e W' ⟨he, bel⟩
  subst he
  exact ⟨_, rfl, _, _, _, [], _, [], hW', trodAll_mk1 (shut_bool Try.underlying4 _), (trodAll_cons_mk (Below.trod laidOut (by kernel_rfl) (of_decide_eq_true (by kernel_rfl)) k0 bel lt0) (trodAll_cons_mk (Below.trod laidOut (by kernel_rfl) (of_decide_eq_true (by kernel_rfl)) k1 bel lt1) (trodAll_cons_mk (Below.trod laidOut (by kernel_rfl) (of_decide_eq_true (by kernel_rfl)) k2 bel lt2) trodAll_mk0))), rfl, bel.frame _, fun h => by cases h⟩
theorem over : Rows.relayReadsRow.holds Try.pinned (OpenSpec.ofChange Rows.relayReadsSpec) :=
  OpenClaim.holds_of_wide 6 Try.f6 rfl rfl rfl rfl rfl rfl rfl ⟨rfl, rfl, rfl, rfl, rfl⟩ rfl rfl rfl rfl rfl (by kernel_rfl) Try.func6 (by kernel_rfl)
    (of_decide_eq_true (by kernel_rfl)) (by unfold Func.isWrapper; first | (rw [if_pos (by decide +kernel)]; kernel_rfl) | (rw [if_neg (by decide +kernel)]; exact ⟨rfl, rfl⟩))
    (fun os started H enc _ => lifted os started H enc)
theorem proved : Rows.RelayReadsSaid := over
#print axioms proved
end Go.Proofs.Ythokkeljfdfppaa.relayReads
namespace Go.Proofs.Ythokkeljfdfppaa
/-- The row, under a short name, for the claim. -/
theorem relayReads_holds : Rows.RelayReadsSaid := relayReads.proved
end Go.Proofs.Ythokkeljfdfppaa
