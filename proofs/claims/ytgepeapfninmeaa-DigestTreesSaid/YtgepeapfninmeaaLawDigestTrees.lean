/- The law DigestTrees: its row, out of the walk. No condition beside the row's own. -/
import Derived.Test.YtgepeapfninmeaaRows
import Derived.Test.YtgepeapfninmeaaDgI
import Derived.Test.YtgepeapfninmeaaRowD
import Derived.Test.YtgepeapfninmeaaWSized
import Derived.WalkKit
import Derived.ProofKit
import Derived.OpenShut
import Derived.ShutString
import Derived.ChangeOld
import Derived.Below
import Derived.SizedLaws
set_option linter.unusedVariables false
namespace Go.Proofs.Ytgepeapfninmeaa.digestTrees
open Go.ChangeShapes Go.WideShapes Go.ChangeAt Go.RowKit
open Go.ChangeMaps (open_string shut_string)
open Go.Proofs.YtgepeapfninmeaaW.PrintWords
theorem own : ownKnob Try.prog.godebug = none := by kernel_rfl
theorem laidOut : laidOutB Try.prog = true := by kernel_rfl
set_option maxRecDepth 100000 in
set_option maxHeartbeats 1000000 in
theorem lifted (os : Os) (started : os.Started) (H : Type) (enc : TypeId × Value → H) :
    ReturnsInHanded {} Try.checked os 10 .any (Rows.digestTreesSpec.pre6 enc Try.prog Try.f10 Rows.digestTreesRow.domain false) (Rows.digestTreesSpec.post enc Try.prog Try.f10 false true false false) := by
  refine returnsInHanded_of_change_sized (C := Try.checked) own started (by kernel_rfl) Try.func10
    (ChangeSpec.witness6 (enc := enc) (C := Try.checked) false ⟨#[], #[.agg #[.string ByteArray.empty, .string ByteArray.empty, .string ByteArray.empty, .string ByteArray.empty, .string ByteArray.empty, .string ByteArray.empty, .string ByteArray.empty, .string ByteArray.empty], .int .u8 0], []⟩ 8 (by kernel_rfl) (by kernel_rfl) (by kernel_rfl) (by kernel_rfl)) ?_
  intro W base args ds gs before hval0 hW hcnd hsz0 _
  have hval : ∀ (j : Nat) t v, Try.f10.params[j]? = some t → args[j]? = some v → Value.okWide Try.prog W .any base t v := hval0
  have hW' := hW
  obtain ⟨p, q, hA0, hV, rfl, hfz, hnd⟩ := hW
  have hA : DataW.TrodAll enc Try.prog W 0 (fun _ => true) true Try.f10.params.toList args.toList ds p := hA0
  rw [Try.params10] at hA hval
  obtain ⟨v0, vs0, d0, ds0, p0, q0, hargs, rfl, rfl, h0, r0⟩ := trodAll_cons hA
  obtain ⟨v1, vs1, d1, ds1, p1, q1, rfl, rfl, rfl, h1, r1⟩ := trodAll_cons r0
  obtain ⟨rfl, rfl, rfl⟩ := trodAll_nil r1
  obtain rfl : args = #[v0, v1] := by cases args; simp_all
  obtain ⟨rfl, rfl⟩ := trodVars_none hV
  have k0 := h0
  have lt0 : ∀ x ∈ p0, x.block < W.heap.size := by obtain ⟨m, hm⟩ := k0; exact DataW.trod_lt m _ _ _ hm
  obtain ⟨⟨cs0⟩, rfl, sz0⟩ := RowD.okWide_array Try.underlying43 (hval 0 43 v0 rfl rfl)
  obtain ⟨e0_0, e0_1, e0_2, e0_3, e0_4, e0_5, e0_6, e0_7, rfl⟩ := RowD.len8 (l := cs0) (sz0.trans (by kernel_rfl))
  obtain ⟨fu0, hf0⟩ := h0
  obtain ⟨xs0, m0, _, _, _, xl0, hx0⟩ := DataW.trod_array Try.underlying43 hf0
  obtain ⟨y0_0, hy0_0⟩ := RowD.get_x (j := 0) xl0 (by decide)
  have z0_0 := RowD.trod_cell (hx0 0 (by decide)) hy0_0 1 (by kernel_rfl) (ds := [e0_0]) rfl
  obtain ⟨a0_0, ea0_0, _, w0_0⟩ := DataW.trod_string Try.underlying9 z0_0; obtain rfl : e0_0 = _ := by simpa using ea0_0
  obtain ⟨y0_1, hy0_1⟩ := RowD.get_x (j := 1) xl0 (by decide)
  have z0_1 := RowD.trod_cell (hx0 1 (by decide)) hy0_1 1 (by kernel_rfl) (ds := [e0_1]) rfl
  obtain ⟨a0_1, ea0_1, _, w0_1⟩ := DataW.trod_string Try.underlying9 z0_1; obtain rfl : e0_1 = _ := by simpa using ea0_1
  obtain ⟨y0_2, hy0_2⟩ := RowD.get_x (j := 2) xl0 (by decide)
  have z0_2 := RowD.trod_cell (hx0 2 (by decide)) hy0_2 1 (by kernel_rfl) (ds := [e0_2]) rfl
  obtain ⟨a0_2, ea0_2, _, w0_2⟩ := DataW.trod_string Try.underlying9 z0_2; obtain rfl : e0_2 = _ := by simpa using ea0_2
  obtain ⟨y0_3, hy0_3⟩ := RowD.get_x (j := 3) xl0 (by decide)
  have z0_3 := RowD.trod_cell (hx0 3 (by decide)) hy0_3 1 (by kernel_rfl) (ds := [e0_3]) rfl
  obtain ⟨a0_3, ea0_3, _, w0_3⟩ := DataW.trod_string Try.underlying9 z0_3; obtain rfl : e0_3 = _ := by simpa using ea0_3
  obtain ⟨y0_4, hy0_4⟩ := RowD.get_x (j := 4) xl0 (by decide)
  have z0_4 := RowD.trod_cell (hx0 4 (by decide)) hy0_4 1 (by kernel_rfl) (ds := [e0_4]) rfl
  obtain ⟨a0_4, ea0_4, _, w0_4⟩ := DataW.trod_string Try.underlying9 z0_4; obtain rfl : e0_4 = _ := by simpa using ea0_4
  obtain ⟨y0_5, hy0_5⟩ := RowD.get_x (j := 5) xl0 (by decide)
  have z0_5 := RowD.trod_cell (hx0 5 (by decide)) hy0_5 1 (by kernel_rfl) (ds := [e0_5]) rfl
  obtain ⟨a0_5, ea0_5, _, w0_5⟩ := DataW.trod_string Try.underlying9 z0_5; obtain rfl : e0_5 = _ := by simpa using ea0_5
  obtain ⟨y0_6, hy0_6⟩ := RowD.get_x (j := 6) xl0 (by decide)
  have z0_6 := RowD.trod_cell (hx0 6 (by decide)) hy0_6 1 (by kernel_rfl) (ds := [e0_6]) rfl
  obtain ⟨a0_6, ea0_6, _, w0_6⟩ := DataW.trod_string Try.underlying9 z0_6; obtain rfl : e0_6 = _ := by simpa using ea0_6
  obtain ⟨y0_7, hy0_7⟩ := RowD.get_x (j := 7) xl0 (by decide)
  have z0_7 := RowD.trod_cell (hx0 7 (by decide)) hy0_7 1 (by kernel_rfl) (ds := [e0_7]) rfl
  obtain ⟨a0_7, ea0_7, _, w0_7⟩ := DataW.trod_string Try.underlying9 z0_7; obtain rfl : e0_7 = _ := by simpa using ea0_7
  have k1 := h1
  have lt1 : ∀ x ∈ p1, x.block < W.heap.size := by obtain ⟨m, hm⟩ := k1; exact DataW.trod_lt m _ _ _ hm
  obtain ⟨a1, rfl, _, _, w1⟩ := open_int Try.underlying5 (hval 1 5 v1 rfl rfl) h1
  clear hA0 hval0 hsz0
  refine (Pure.digestTrees_calls W a0_0 w0_0 a0_1 w0_1 a0_2 w0_2 a0_3 w0_3 a0_4 w0_4 a0_5 w0_5 a0_6 w0_6 a0_7 w0_7 a1 w1).mono ?_
  rintro e W' ⟨he, bel⟩
  subst he
  exact ⟨_, rfl, _, _, _, [], _, [], hW', trodAll_mk1 (shut_bool Try.underlying4 _), (trodAll_cons_mk (Below.trod laidOut (by kernel_rfl) (of_decide_eq_true (by kernel_rfl)) k0 bel lt0) (trodAll_cons_mk (Below.trod laidOut (by kernel_rfl) (of_decide_eq_true (by kernel_rfl)) k1 bel lt1) trodAll_mk0)), rfl, bel.frame _, fun h => by cases h⟩
theorem over : Rows.digestTreesRow.holds Try.pinned (OpenSpec.ofChange Rows.digestTreesSpec) :=
  OpenClaim.holds_of_wide 10 Try.f10 rfl rfl rfl rfl rfl rfl rfl ⟨rfl, rfl, rfl, rfl, rfl⟩ rfl rfl rfl rfl rfl (by kernel_rfl) Try.func10 (by kernel_rfl)
    (of_decide_eq_true (by kernel_rfl)) (by unfold Func.isWrapper; first | (rw [if_pos (by decide +kernel)]; kernel_rfl) | (rw [if_neg (by decide +kernel)]; exact ⟨rfl, rfl⟩))
    (fun os started H enc _ => lifted os started H enc)
theorem proved : Rows.DigestTreesSaid := over
#print axioms proved
end Go.Proofs.Ytgepeapfninmeaa.digestTrees
namespace Go.Proofs.Ytgepeapfninmeaa
/-- The row, under a short name, for the claim. -/
theorem digestTrees_holds : Rows.DigestTreesSaid := digestTrees.proved
end Go.Proofs.Ytgepeapfninmeaa
