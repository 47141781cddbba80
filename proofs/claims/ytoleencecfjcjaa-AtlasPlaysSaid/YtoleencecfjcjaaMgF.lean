/- Several texts of this claim, one behind the other: AvI, AvJ, AvK. -/
import Derived.Test.YtoleencecfjcjaaMgE
/- The reference's Put: refusals, hits. -/
set_option linter.unusedVariables false
set_option linter.unusedSimpArgs false
namespace Go.Proofs.Ytoleencecfjcjaa.At
open Go.RowKit Go.Proofs.YtoleencecfjcjaaW.PrintWords Go.Proofs.YtoleencecfjcjaaW.PrintLast Go.Proofs.YtoleencecfjcjaaW.PrintMore Go.Proofs.Ytoleencecfjcjaa.Rng
set_option maxRecDepth 100000 in
set_option maxHeartbeats 4000000 in
theorem refPut_empty {w : World} {g W : Nat} (hW : 1 ≤ W) (hg : w.cell? ⟨g, 0, none⟩ = some (.int .i64 (W : Int))) (l0 t0 w0 h0 : Int) (A : Option Addr) (n cA : Nat) : Calls Try.prog 20 #[.pointer (some ⟨g, 0, none⟩), .string ⟨#[]⟩, .agg #[.int .i64 l0, .int .i64 t0, .int .i64 w0, .int .i64 h0, .slice A n cA]] w fun e w' => e = .returned (.tuple #[.slice none 0 0, .int .i64 1]) ∧ Below w.heap.size w w' := by
  have h0 := (cell_alloc (o := .cells #[.int .i64 l0, .int .i64 t0, .int .i64 w0, .int .i64 h0, .slice A n cA] 38) (World.block_lt_of_cell? _ _ hg)).trans hg
  have e0 : ((W : Int) == 0) = false := beq_eq_false_iff_ne.2 (by omega)
  clear hg hW
  go_enter Try.func20, Try.ntmps20
  go_wp2
  go_ret2
  exact ⟨rfl, below_alloc (Below.refl _ _) _⟩
set_option maxRecDepth 100000 in
set_option maxHeartbeats 4000000 in
theorem refPut_wrong {w : World} {g W : Nat} (hW : 1 ≤ W) (hg : w.cell? ⟨g, 0, none⟩ = some (.int .i64 (W : Int))) (nm : ByteArray) (l0 t0 w0 h0 : Int) (A : Option Addr) (n cA : Nat) (xs : List Int) (hnm : nm.size ≠ 0) (hx : Kd.C (Kd.int .u64) w A n xs) (hn : n ≤ 1000) (hr : ∀ x ∈ xs, 0 ≤ x ∧ x ≤ 18446744073709551615) (hb : rightB ⟨l0, t0, w0, h0, xs⟩ = false) : Calls Try.prog 20 #[.pointer (some ⟨g, 0, none⟩), .string nm, .agg #[.int .i64 l0, .int .i64 t0, .int .i64 w0, .int .i64 h0, .slice A n cA]] w fun e w' => e = .returned (.tuple #[.slice none 0 0, .int .i64 1]) ∧ Below w.heap.size w w' := by
  have h0 := (cell_alloc (o := .cells #[.int .i64 l0, .int .i64 t0, .int .i64 w0, .int .i64 h0, .slice A n cA] 38) (World.block_lt_of_cell? _ _ hg)).trans hg
  have e0 : ((W : Int) == 0) = false := beq_eq_false_iff_ne.2 (by omega)
  have e1 := nm_ne hnm
  have HX := Lib.hid hx
  have HN := Lib.hid hn
  have HR := Lib.hid hr
  have HB := Lib.hid hb
  clear hg hW hnm hx hn hr hb
  go_enter Try.func20, Try.ntmps20
  go_wp2_with (go_at_call 42; with_reducible refine (refRight_c _ _ _ _ A n cA xs _ (Kd.C_below HX.out (below_alloc (Below.refl _ _) _)) HN.out HR.out).mono ?_; rintro e wx ⟨rfl, hbx⟩; have HBX := Lib.hid hbx; rw [HB.out]; clear hbx)
  go_ret2
  exact ⟨rfl, (below_alloc (Below.refl _ _) _).trans (HBX.out.mono (by simp))⟩
set_option maxRecDepth 100000 in
set_option maxHeartbeats 8000000 in
theorem refPut_hit {w : World} {g W H : Nat} {X : List Re} {v : Value} {Q : Nat → Prop} (h : RefI w g W H X v Q) (hW : 1 ≤ W) (hX : X.length ≤ 100000) (hrow : ∀ x ∈ X, x.e.b.rows.length ≤ 1000) {j : Nat} {x : Re} (hj : X[j]? = some x) (nm : ByteArray) (hidx : idxP (X.map Re.e) nm = (j : Int)) (l0 t0 w0 h0 : Int) (A : Option Addr) (n cA : Nat) (xs : List Int) (hnm : nm.size ≠ 0) (hx : Kd.C (Kd.int .u64) w A n xs) (hn : n ≤ 1000) (hr : ∀ x ∈ xs, 0 ≤ x ∧ x ≤ 18446744073709551615) (hb : rightB ⟨l0, t0, w0, h0, xs⟩ = true) : Calls Try.prog 20 #[.pointer (some ⟨g, 0, none⟩), .string nm, .agg #[.int .i64 l0, .int .i64 t0, .int .i64 w0, .int .i64 h0, .slice A n cA]] w fun e w' => (sameB x.e.b ⟨l0, t0, w0, h0, xs⟩ = false ∧ e = .returned (.tuple #[.slice none 0 0, .int .i64 6]) ∧ Below w.heap.size w w') ∨
    (sameB x.e.b ⟨l0, t0, w0, h0, xs⟩ = true ∧ e = .returned (.tuple #[.slice none 0 0, .int .i64 0]) ∧ ∃ v' Q', RefI w' g W H (restK X j X.length ++ [x]) v' Q' ∧ (∀ k, Q' k → Q k ∨ w.heap.size ≤ k) ∧ Step Q w w') := by
  have hg0 := (cell_alloc (o := .cells #[.int .i64 l0, .int .i64 t0, .int .i64 w0, .int .i64 h0, .slice A n cA] 38) (lt_of_blk h.cell)).trans (ckA h.cell 0 _ rfl)
  have e0 : ((W : Int) == 0) = false := beq_eq_false_iff_ne.2 (by omega)
  have e1 := nm_ne hnm
  have hjl : j < X.length := (List.getElem?_eq_some_iff.1 hj).1
  obtain ⟨A1, cap, rfl, hrr⟩ := row_re h.row
  obtain ⟨ga, rfl, _, hcl⟩ := hrr (by omega)
  have HI := Lib.hid h
  have HCL := Lib.hid hcl
  have HGD := Lib.hid (h.good x (List.mem_of_getElem? hj))
  have HX := Lib.hid hx
  have HN := Lib.hid hn
  have HR := Lib.hid hr
  have HB := Lib.hid hb
  have HXL := Lib.hid hX
  have HIX := Lib.hid hidx
  have HJ := Lib.hid hj
  have HRL := Lib.hid (hrow x (List.mem_of_getElem? hj))
  have hrg := hcl j x hj
  have hga : ga < w.heap.size := World.block_lt_of_cell? _ _ (hrg 0 _ rfl)
  have HRG := Lib.hid hrg
  have HGA := Lib.hid hga
  have g0 : decide ((j : Int) ≥ 0) = true := decide_eq_true (by omega)
  have g1 : decide ((0 : Int) ≤ (j : Int)) = true := decide_eq_true (by omega)
  have i1 : ((0 : Int) ≤ (j : Int)) = True := eq_true (by omega)
  have i2 : ((j : Int) < (X.length : Int)) = True := eq_true (by omega)
  have i3 : (j < X.length) = True := eq_true hjl
  have HBX0 := Lib.hid (blk_new w (.cells #[.int .i64 l0, .int .i64 t0, .int .i64 w0, .int .i64 h0, .slice A n cA] 38))
  clear h hx hn hr hb hX hidx hrow hnm hW hrr hcl hj hrg hga hjl
  go_enter Try.func20, Try.ntmps20
  go_upto_region 4 with (first
    | (go_at_call 42; with_reducible refine (refRight_c _ _ _ _ A n cA xs _ (Kd.C_below HX.out (below_alloc (Below.refl _ _) _)) HN.out HR.out).mono ?_; rintro e wx ⟨rfl, hbx⟩; have HB3 := Lib.hid ((below_alloc (Below.refl _ _) _).trans (hbx.mono (by simp)) : Below w.heap.size w wx); have HXX := Lib.hid (blk_below HBX0.out hbx); rw [HB.out]; clear hbx)
    | (go_at_call 34; refine (find_c (HI.out.below HB3.out) (Nat.le_trans HXL.out (by decide)) nm).mono ?_; rintro e w2 ⟨rfl, rfl⟩; rw [HIX.out]))
  have HIw := Lib.hid (HI.out.below HB3.out.drew)
  have HBw := Lib.hid HB3.out.drew
  have HXw := Lib.hid (Kd.C_below HX.out HB3.out.drew)
  have HGw := Lib.hid (Kd.C_below HGD.out.1 HB3.out.drew)
  have x0 : w2.drew.cell? ⟨w.heap.size, 0, none⟩ = some (.int .i64 l0) := ckA HXX.out 0 _ rfl
  have x1 : w2.drew.cell? ⟨w.heap.size, 1, none⟩ = some (.int .i64 t0) := ckA HXX.out 1 _ rfl
  have x2 : w2.drew.cell? ⟨w.heap.size, 2, none⟩ = some (.int .i64 w0) := ckA HXX.out 2 _ rfl
  have x3 : w2.drew.cell? ⟨w.heap.size, 3, none⟩ = some (.int .i64 h0) := ckA HXX.out 3 _ rfl
  have x4 : w2.drew.cell? ⟨w.heap.size, 4, none⟩ = some (.slice A n cA) := ckA HXX.out 4 _ rfl
  have q2 : w2.drew.cell? ⟨g, 2, none⟩ = some (.slice (some ⟨ga, 0, none⟩) X.length cap) := ckA HIw.out.cell 2 _ rfl
  have hmv : ∀ i u, x.cells[i]? = some u → w2.drew.cell? ⟨ga, j * 10 + i, none⟩ = some u := fun i u hu => (HB3.out.drew.cell HGA.out).trans (HRG.out i u hu)
  have y1 : w2.drew.cell? ⟨ga, j * 10 + 1, none⟩ = some (.int .i64 x.e.b.l) := hmv 1 _ rfl
  have y2 : w2.drew.cell? ⟨ga, j * 10 + 2, none⟩ = some (.int .i64 x.e.b.t) := hmv 2 _ rfl
  have y3 : w2.drew.cell? ⟨ga, j * 10 + 3, none⟩ = some (.int .i64 x.e.b.w) := hmv 3 _ rfl
  have y4 : w2.drew.cell? ⟨ga, j * 10 + 4, none⟩ = some (.int .i64 x.e.b.h) := hmv 4 _ rfl
  have y5 : w2.drew.cell? ⟨ga, j * 10 + 5, none⟩ = some (.slice x.A x.e.b.rows.length x.c) := hmv 5 _ rfl
  clear hmv hg0 e0 e1
  refine start_ (n := 14) (S := fun w' => w'.cell? ⟨w.heap.size, 0, none⟩ = some (.int .i64 l0) ∧ w'.cell? ⟨w.heap.size, 1, none⟩ = some (.int .i64 t0) ∧ w'.cell? ⟨w.heap.size, 2, none⟩ = some (.int .i64 w0) ∧ w'.cell? ⟨w.heap.size, 3, none⟩ = some (.int .i64 h0) ∧ w'.cell? ⟨w.heap.size, 4, none⟩ = some (.slice A n cA) ∧ w'.cell? ⟨g, 2, none⟩ = some (.slice (some ⟨ga, 0, none⟩) X.length cap) ∧ w'.cell? ⟨ga, j * 10 + 1, none⟩ = some (.int .i64 x.e.b.l) ∧ w'.cell? ⟨ga, j * 10 + 2, none⟩ = some (.int .i64 x.e.b.t) ∧ w'.cell? ⟨ga, j * 10 + 3, none⟩ = some (.int .i64 x.e.b.w) ∧ w'.cell? ⟨ga, j * 10 + 4, none⟩ = some (.int .i64 x.e.b.h) ∧ w'.cell? ⟨ga, j * 10 + 5, none⟩ = some (.slice x.A x.e.b.rows.length x.c)) (ds := [12]) #[false, false, false, false, false, false, false, false, false, false, false, false, false, false] (by kernel_rfl) rfl rfl ⟨x0, x1, x2, x3, x4, q2, y1, y2, y3, y4, y5⟩ (fun hHeld => ?_)
  refine pure_ (i := 0) (N := some 34) (v := ?_) (a' := ?_) #[true, false, false, false, false, false, false, false, false, false, false, false, false, false] rfl rfl (by kernel_rfl) (fun _ _ _ h => h) (Or.inl ⟨by rfl, ?_⟩) ?_ ?_
  rotate_left
  · intro w'
    go_simp
    with_reducible rfl
  rotate_left
  · simp only [Act.put, List.setIfInBounds_toArray, List.set_cons_zero, List.set_cons_succ, i64_w, i32_w]
    rfl
  refine pure_ (i := 1) (N := some 35) (v := ?_) (a' := ?_) #[true, true, false, false, false, false, false, false, false, false, false, false, false, false] rfl rfl (by kernel_rfl) (fun _ _ _ h => h) (Or.inl ⟨by rfl, ?_⟩) ?_ ?_
  rotate_left
  · intro w'
    go_simp
    with_reducible rfl
  rotate_left
  · simp only [Act.put, List.setIfInBounds_toArray, List.set_cons_zero, List.set_cons_succ, i64_w, i32_w]
    rfl
  refine pure_ (i := 2) (N := some 36) (v := ?_) (a' := ?_) #[true, true, true, false, false, false, false, false, false, false, false, false, false, false] rfl rfl (by kernel_rfl) (fun _ _ _ h => h) (Or.inl ⟨by rfl, ?_⟩) ?_ ?_
  rotate_left
  · intro w'
    go_simp
    with_reducible rfl
  rotate_left
  · simp only [Act.put, List.setIfInBounds_toArray, List.set_cons_zero, List.set_cons_succ, i64_w, i32_w]
    rfl
  refine pure_ (i := 3) (N := some 37) (v := ?_) (a' := ?_) #[true, true, true, true, false, false, false, false, false, false, false, false, false, false] rfl rfl (by kernel_rfl) (fun _ _ _ h => h) (Or.inl ⟨by rfl, ?_⟩) ?_ ?_
  rotate_left
  · intro w'
    go_simp
    with_reducible rfl
  rotate_left
  · simp only [Act.put, List.setIfInBounds_toArray, List.set_cons_zero, List.set_cons_succ, i64_w, i32_w]
    rfl
  refine pure_ (i := 4) (N := some 38) (v := ?_) (a' := ?_) #[true, true, true, true, true, false, false, false, false, false, false, false, false, false] rfl rfl (by kernel_rfl) (fun _ _ _ h => h) (Or.inl ⟨by rfl, ?_⟩) ?_ ?_
  rotate_left
  · intro w'
    go_simp
    with_reducible rfl
  rotate_left
  · simp only [Act.put, List.setIfInBounds_toArray, List.set_cons_zero, List.set_cons_succ, i64_w, i32_w]
    rfl
  refine pure_ (i := 5) (N := some 39) (v := ?_) (a' := ?_) #[true, true, true, true, true, true, false, false, false, false, false, false, false, false] rfl rfl (by kernel_rfl) (fun _ _ _ h => h) (Or.inl ⟨by rfl, ?_⟩) ?_ ?_
  rotate_left
  · intro w'
    go_simp
    with_reducible rfl
  rotate_left
  · simp only [Act.put, List.setIfInBounds_toArray, List.set_cons_zero, List.set_cons_succ, i64_w, i32_w]
    rfl
  refine pure_ (i := 7) (N := some 41) (v := ?_) (a' := ?_) #[true, true, true, true, true, true, false, true, false, false, false, false, false, false] rfl rfl (by kernel_rfl) (fun _ _ _ h => h) (Or.inl ⟨by rfl, ?_⟩) ?_ ?_
  rotate_left
  · intro w'
    go_simp
    with_reducible rfl
  rotate_left
  · simp only [Act.put, List.setIfInBounds_toArray, List.set_cons_zero, List.set_cons_succ, i64_w, i32_w]
    rfl
  refine take_ (i := 6) (N := some 40) (v := ?_) (a' := ?_) #[true, true, true, true, true, true, true, true, false, false, false, false, false, false] rfl rfl (by kernel_rfl) (fun _ _ _ h => h) (Or.inl ⟨by rfl, ?_⟩) hHeld ?_ ?_
  rotate_left
  · rintro w' ⟨s0, s1, s2, s3, s4, s5, s6, s7, s8, s9, s10⟩
    go_simp
    with_reducible rfl
  rotate_left
  · simp only [Act.put, List.setIfInBounds_toArray, List.set_cons_zero, List.set_cons_succ, i64_w, i32_w]
    rfl
  refine pure_ (i := 8) (N := some 42) (v := ?_) (a' := ?_) #[true, true, true, true, true, true, true, true, true, false, false, false, false, false] rfl rfl (by kernel_rfl) (fun _ _ _ h => h) (Or.inl ⟨by rfl, ?_⟩) ?_ ?_
  rotate_left
  · intro w'
    go_simp
    with_reducible rfl
  rotate_left
  · simp only [Act.put, List.setIfInBounds_toArray, List.set_cons_zero, List.set_cons_succ, i64_w, i32_w]
    rfl
  refine pure_ (i := 9) (N := some 43) (v := ?_) (a' := ?_) #[true, true, true, true, true, true, true, true, true, true, false, false, false, false] rfl rfl (by kernel_rfl) (fun _ _ _ h => h) (Or.inl ⟨by rfl, ?_⟩) ?_ ?_
  rotate_left
  · intro w'
    go_simp
    with_reducible rfl
  rotate_left
  · simp only [Act.put, List.setIfInBounds_toArray, List.set_cons_zero, List.set_cons_succ, i64_w, i32_w]
    rfl
  refine take_ (i := 10) (N := some 44) (v := ?_) (a' := ?_) #[true, true, true, true, true, true, true, true, true, true, true, false, false, false] rfl rfl (by kernel_rfl) (fun _ _ _ h => h) (Or.inl ⟨by rfl, ?_⟩) hHeld ?_ ?_
  rotate_left
  · rintro w' ⟨s0, s1, s2, s3, s4, s5, s6, s7, s8, s9, s10⟩
    go_simp
    with_reducible rfl
  rotate_left
  · simp only [Act.put, List.setIfInBounds_toArray, List.set_cons_zero, List.set_cons_succ, i64_w, i32_w]
    rfl
  refine take_ (i := 11) (N := some 45) (v := ?_) (a' := ?_) #[true, true, true, true, true, true, true, true, true, true, true, true, false, false] rfl rfl (by kernel_rfl) (fun _ _ _ h => h) (Or.inl ⟨by rfl, ?_⟩) hHeld ?_ ?_
  rotate_left
  · rintro w' ⟨s0, s1, s2, s3, s4, s5, s6, s7, s8, s9, s10⟩
    go_simp
    with_reducible rfl
  rotate_left
  · simp only [Act.put, List.setIfInBounds_toArray, List.set_cons_zero, List.set_cons_succ, i64_w, i32_w]
    rfl
  refine last_ (i := 12) (N := some 46) #[true, true, true, true, true, true, true, true, true, true, true, true, true, false] rfl rfl (by kernel_rfl) (by decide) (fun K hK => ?_)
  refine goes_ Try.func15 (by kernel_rfl) rfl #[.agg #[.int .i64 x.e.b.l, .int .i64 x.e.b.t, .int .i64 x.e.b.w, .int .i64 x.e.b.h, .slice x.A x.e.b.rows.length x.c], .agg #[.int .i64 l0, .int .i64 t0, .int .i64 w0, .int .i64 h0, .slice A n cA]] (by rfl) rfl rfl (by simp only [List.map_toArray, List.map_cons, List.map_nil]; rfl) ?_
  with_reducible refine (refSame_c x.e.b.l x.e.b.t x.e.b.w x.e.b.h l0 t0 w0 h0 x.A A x.e.b.rows.length n x.c cA x.e.b.rows xs w2.drew HGw.out HXw.out HRL.out HN.out).mono ?_
  rintro e w4 ⟨rfl, hB⟩
  refine ⟨_, rfl, ?_⟩
  have HB9 := Lib.hid hB
  clear hB
  refine hK.out _ _ ?_
  clear hK K
  refine norm_ (a' := ?_) ?_ ?_
  rotate_left
  · show Act.put _ (some 46) _ = _
    simp only [Act.put, List.setIfInBounds_toArray, List.set_cons_zero, List.set_cons_succ, i64_w, i32_w]
    rfl
  refine pure_ (i := 13) (N := some 47) (v := ?_) (a' := ?_) #[true, true, true, true, true, true, true, true, true, true, true, true, true, true] rfl rfl (by kernel_rfl) (fun _ _ _ h => h) (Or.inl ⟨by rfl, ?_⟩) ?_ ?_
  rotate_left
  · intro w'
    go_simp
    with_reducible rfl
  rotate_left
  · simp only [Act.put, List.setIfInBounds_toArray, List.set_cons_zero, List.set_cons_succ, i64_w, i32_w]
    rfl
  refine done_ (by kernel_rfl) ?_
  have HB11 := Lib.hid (HBw.out.trans (HB9.out.mono HBw.out.size))
  clear hHeld x0 x1 x2 x3 x4 q2 y1 y2 y3 y4 y5
  cases hsm : sameB x.e.b ⟨l0, t0, w0, h0, xs⟩ with
  | false =>
    have HSM := Lib.hid hsm
    have hs2 : sameB ⟨x.e.b.l, x.e.b.t, x.e.b.w, x.e.b.h, x.e.b.rows⟩ ⟨l0, t0, w0, h0, xs⟩ = false := hsm
    try rw [hs2]
    clear hsm hs2
    go_wp2
    go_ret2
    exact .inl ⟨HSM.out, rfl, HB11.out⟩
  | true =>
    have HSM := Lib.hid hsm
    have hs2 : sameB ⟨x.e.b.l, x.e.b.t, x.e.b.w, x.e.b.h, x.e.b.rows⟩ ⟨l0, t0, w0, h0, xs⟩ = true := hsm
    try rw [hs2]
    clear hsm hs2
    go_wp2_with (go_at_call 35; refine (refUse_c (HI.out.below HB11.out) HXL.out HJ.out).mono ?_; rintro e w5 ⟨rfl, v5, Q5, hI5, hQ5, hS5⟩; have HI5 := Lib.hid hI5; have HQ5 := Lib.hid hQ5; have HS5 := Lib.hid hS5; clear hI5 hQ5 hS5)
    go_ret2
    refine .inr ⟨HSM.out, rfl, v5, Q5, HI5.out, fun k hk => ?_, (Step.of_below HB11.out Q).trans HS5.out (fun k e => .inl e)⟩
    rcases HQ5.out k hk with h | h
    · exact .inl h
    · exact .inr (Nat.le_trans HB11.out.size h)
set_option maxRecDepth 100000 in
set_option maxHeartbeats 8000000 in
theorem refPut_full {w : World} {g W H : Nat} {X : List Re} {v : Value} {Q : Nat → Prop} (h : RefI w g W H X v Q) (hW : 1 ≤ W) (hX : X.length ≤ 100000) (nm : ByteArray) (hidx : idxP (X.map Re.e) nm = -1) (l0 t0 w0 h0 : Int) (A : Option Addr) (n cA : Nat) (xs : List Int) (hnm : nm.size ≠ 0) (hx : Kd.C (Kd.int .u64) w A n xs) (hn : n ≤ 1000) (hr : ∀ x ∈ xs, 0 ≤ x ∧ x ≤ 18446744073709551615) (hb : rightB ⟨l0, t0, w0, h0, xs⟩ = true) (hbig : (W : Int) < w0 ∨ (H : Int) < h0) : Calls Try.prog 20 #[.pointer (some ⟨g, 0, none⟩), .string nm, .agg #[.int .i64 l0, .int .i64 t0, .int .i64 w0, .int .i64 h0, .slice A n cA]] w fun e w' => e = .returned (.tuple #[.slice none 0 0, .int .i64 50]) ∧ Below w.heap.size w w' := by
  have hg0 := (cell_alloc (o := .cells #[.int .i64 l0, .int .i64 t0, .int .i64 w0, .int .i64 h0, .slice A n cA] 38) (lt_of_blk h.cell)).trans (ckA h.cell 0 _ rfl)
  have e0 : ((W : Int) == 0) = false := beq_eq_false_iff_ne.2 (by omega)
  have e1 := nm_ne hnm
  have HI := Lib.hid h
  have HX := Lib.hid hx
  have HN := Lib.hid hn
  have HR := Lib.hid hr
  have HB := Lib.hid hb
  have HXL := Lib.hid hX
  have HIX := Lib.hid hidx
  have HBG := Lib.hid hbig
  have HBX0 := Lib.hid (blk_new w (.cells #[.int .i64 l0, .int .i64 t0, .int .i64 w0, .int .i64 h0, .slice A n cA] 38))
  clear h hx hn hr hb hX hidx hnm hW hbig
  go_enter Try.func20, Try.ntmps20
  go_upto_region 4 with (first
    | (go_at_call 42; with_reducible refine (refRight_c _ _ _ _ A n cA xs _ (Kd.C_below HX.out (below_alloc (Below.refl _ _) _)) HN.out HR.out).mono ?_; rintro e wx ⟨rfl, hbx⟩; have HB3 := Lib.hid ((below_alloc (Below.refl _ _) _).trans (hbx.mono (by simp)) : Below w.heap.size w wx); have HXX := Lib.hid (blk_below HBX0.out hbx); rw [HB.out]; clear hbx)
    | (go_at_call 34; refine (find_c (HI.out.below HB3.out) (Nat.le_trans HXL.out (by decide)) nm).mono ?_; rintro e w2 ⟨rfl, rfl⟩; rw [HIX.out]))
  clear hg0 e0 e1
  refine start_ (n := 14) (S := fun w' => True) (ds := []) #[false, false, false, false, false, false, false, false, false, false, false, false, false, false] (by kernel_rfl) rfl rfl trivial (fun hHeld => ?_)
  refine pure_ (i := 0) (N := some 34) (v := ?_) (a' := ?_) #[true, false, false, false, false, false, false, false, false, false, false, false, false, false] rfl rfl (by kernel_rfl) (fun _ _ _ h => h) (Or.inl ⟨by rfl, ?_⟩) ?_ ?_
  rotate_left
  · intro w'
    go_simp
    with_reducible rfl
  rotate_left
  · simp only [Act.put, List.setIfInBounds_toArray, List.set_cons_zero, List.set_cons_succ, i64_w, i32_w]
    rfl
  refine pure_ (i := 1) (N := some 35) (v := ?_) (a' := ?_) #[true, true, false, false, false, false, false, false, false, false, false, false, false, false] rfl rfl (by kernel_rfl) (fun _ _ _ h => h) (Or.inl ⟨by rfl, ?_⟩) ?_ ?_
  rotate_left
  · intro w'
    go_simp
    with_reducible rfl
  rotate_left
  · simp only [Act.put, List.setIfInBounds_toArray, List.set_cons_zero, List.set_cons_succ, i64_w, i32_w]
    rfl
  refine pure_ (i := 2) (N := some 36) (v := ?_) (a' := ?_) #[true, true, true, false, false, false, false, false, false, false, false, false, false, false] rfl rfl (by kernel_rfl) (fun _ _ _ h => h) (Or.inl ⟨by rfl, ?_⟩) ?_ ?_
  rotate_left
  · intro w'
    go_simp
    with_reducible rfl
  rotate_left
  · simp only [Act.put, List.setIfInBounds_toArray, List.set_cons_zero, List.set_cons_succ, i64_w, i32_w]
    rfl
  refine pure_ (i := 3) (N := some 37) (v := undef) (a' := ?_) #[true, true, true, true, false, false, false, false, false, false, false, false, false, false] rfl rfl (by kernel_rfl) (fun _ _ _ h => h) (Or.inr ⟨by rfl, rfl⟩) ?_ ?_
  rotate_left
  · simp only [Act.put, List.setIfInBounds_toArray, List.set_cons_zero, List.set_cons_succ, i64_w, i32_w]
    rfl
  refine pure_ (i := 4) (N := some 38) (v := undef) (a' := ?_) #[true, true, true, true, true, false, false, false, false, false, false, false, false, false] rfl rfl (by kernel_rfl) (fun _ _ _ h => h) (Or.inr ⟨by rfl, rfl⟩) ?_ ?_
  rotate_left
  · simp only [Act.put, List.setIfInBounds_toArray, List.set_cons_zero, List.set_cons_succ, i64_w, i32_w]
    rfl
  refine pure_ (i := 5) (N := some 39) (v := undef) (a' := ?_) #[true, true, true, true, true, true, false, false, false, false, false, false, false, false] rfl rfl (by kernel_rfl) (fun _ _ _ h => h) (Or.inr ⟨by rfl, rfl⟩) ?_ ?_
  rotate_left
  · simp only [Act.put, List.setIfInBounds_toArray, List.set_cons_zero, List.set_cons_succ, i64_w, i32_w]
    rfl
  refine pure_ (i := 6) (N := some 40) (v := undef) (a' := ?_) #[true, true, true, true, true, true, true, false, false, false, false, false, false, false] rfl rfl (by kernel_rfl) (fun _ _ _ h => h) (Or.inr ⟨by rfl, rfl⟩) ?_ ?_
  rotate_left
  · simp only [Act.put, List.setIfInBounds_toArray, List.set_cons_zero, List.set_cons_succ, i64_w, i32_w]
    rfl
  refine pure_ (i := 7) (N := some 41) (v := undef) (a' := ?_) #[true, true, true, true, true, true, true, true, false, false, false, false, false, false] rfl rfl (by kernel_rfl) (fun _ _ _ h => h) (Or.inr ⟨by rfl, rfl⟩) ?_ ?_
  rotate_left
  · simp only [Act.put, List.setIfInBounds_toArray, List.set_cons_zero, List.set_cons_succ, i64_w, i32_w]
    rfl
  refine pure_ (i := 8) (N := some 42) (v := undef) (a' := ?_) #[true, true, true, true, true, true, true, true, true, false, false, false, false, false] rfl rfl (by kernel_rfl) (fun _ _ _ h => h) (Or.inr ⟨by rfl, rfl⟩) ?_ ?_
  rotate_left
  · simp only [Act.put, List.setIfInBounds_toArray, List.set_cons_zero, List.set_cons_succ, i64_w, i32_w]
    rfl
  refine pure_ (i := 9) (N := some 43) (v := undef) (a' := ?_) #[true, true, true, true, true, true, true, true, true, true, false, false, false, false] rfl rfl (by kernel_rfl) (fun _ _ _ h => h) (Or.inr ⟨by rfl, rfl⟩) ?_ ?_
  rotate_left
  · simp only [Act.put, List.setIfInBounds_toArray, List.set_cons_zero, List.set_cons_succ, i64_w, i32_w]
    rfl
  refine pure_ (i := 10) (N := some 44) (v := undef) (a' := ?_) #[true, true, true, true, true, true, true, true, true, true, true, false, false, false] rfl rfl (by kernel_rfl) (fun _ _ _ h => h) (Or.inr ⟨by rfl, rfl⟩) ?_ ?_
  rotate_left
  · simp only [Act.put, List.setIfInBounds_toArray, List.set_cons_zero, List.set_cons_succ, i64_w, i32_w]
    rfl
  refine pure_ (i := 11) (N := some 45) (v := undef) (a' := ?_) #[true, true, true, true, true, true, true, true, true, true, true, true, false, false] rfl rfl (by kernel_rfl) (fun _ _ _ h => h) (Or.inr ⟨by rfl, rfl⟩) ?_ ?_
  rotate_left
  · simp only [Act.put, List.setIfInBounds_toArray, List.set_cons_zero, List.set_cons_succ, i64_w, i32_w]
    rfl
  refine pure_ (i := 12) (N := some 46) (v := undef) (a' := ?_) #[true, true, true, true, true, true, true, true, true, true, true, true, true, false] rfl rfl (by kernel_rfl) (fun _ _ _ h => h) (Or.inr ⟨by rfl, rfl⟩) ?_ ?_
  rotate_left
  · simp only [Act.put, List.setIfInBounds_toArray, List.set_cons_zero, List.set_cons_succ, i64_w, i32_w]
    rfl
  refine pure_ (i := 13) (N := some 47) (v := ?_) (a' := ?_) #[true, true, true, true, true, true, true, true, true, true, true, true, true, true] rfl rfl (by kernel_rfl) (fun _ _ _ h => h) (Or.inl ⟨by rfl, ?_⟩) ?_ ?_
  rotate_left
  · intro w'
    go_simp
    with_reducible rfl
  rotate_left
  · simp only [Act.put, List.setIfInBounds_toArray, List.set_cons_zero, List.set_cons_succ, i64_w, i32_w]
    rfl
  refine done_ (by kernel_rfl) ?_
  clear hHeld
  go_upto_region 9 with fail
  have HB4 := Lib.hid (HB3.out.drew.drew)
  have x0 : w2.drew.drew.cell? ⟨w.heap.size, 2, none⟩ = some (.int .i64 w0) := ckA HXX.out 2 _ rfl
  have x1 : w2.drew.drew.cell? ⟨w.heap.size, 3, none⟩ = some (.int .i64 h0) := ckA HXX.out 3 _ rfl
  have x2 : w2.drew.drew.cell? ⟨g, 0, none⟩ = some (.int .i64 (W : Int)) := ckA (HI.out.below HB4.out).cell 0 _ rfl
  have x3 : w2.drew.drew.cell? ⟨g, 1, none⟩ = some (.int .i64 (H : Int)) := ckA (HI.out.below HB4.out).cell 1 _ rfl
  by_cases c0 : (W : Int) < w0
  · have d0 : decide ((W : Int) < w0) = true := decide_eq_true c0
    clear c0
    refine start_ (n := 16) (S := fun w' => w'.cell? ⟨w.heap.size, 2, none⟩ = some (.int .i64 w0) ∧ w'.cell? ⟨w.heap.size, 3, none⟩ = some (.int .i64 h0) ∧ w'.cell? ⟨g, 0, none⟩ = some (.int .i64 (W : Int)) ∧ w'.cell? ⟨g, 1, none⟩ = some (.int .i64 (H : Int))) (ds := []) #[false, false, false, false, false, false, false, false, false, false, false, false, false, false, false, false] (by kernel_rfl) rfl rfl ⟨x0, x1, x2, x3⟩ (fun hHeld => ?_)
    refine pure_ (i := 0) (N := some 53) (v := ?_) (a' := ?_) #[true, false, false, false, false, false, false, false, false, false, false, false, false, false, false, false] rfl rfl (by kernel_rfl) (fun _ _ _ h => h) (Or.inl ⟨by rfl, ?_⟩) ?_ ?_
    rotate_left
    · intro w'
      go_simp
      with_reducible rfl
    rotate_left
    · simp only [Act.put, List.setIfInBounds_toArray, List.set_cons_zero, List.set_cons_succ, i64_w, i32_w]
      rfl
    refine pure_ (i := 2) (N := some 55) (v := ?_) (a' := ?_) #[true, false, true, false, false, false, false, false, false, false, false, false, false, false, false, false] rfl rfl (by kernel_rfl) (fun _ _ _ h => h) (Or.inl ⟨by rfl, ?_⟩) ?_ ?_
    rotate_left
    · intro w'
      go_simp
      with_reducible rfl
    rotate_left
    · simp only [Act.put, List.setIfInBounds_toArray, List.set_cons_zero, List.set_cons_succ, i64_w, i32_w]
      rfl
    refine pure_ (i := 3) (N := some 56) (v := ?_) (a' := ?_) #[true, false, true, true, false, false, false, false, false, false, false, false, false, false, false, false] rfl rfl (by kernel_rfl) (fun _ _ _ h => h) (Or.inl ⟨by rfl, ?_⟩) ?_ ?_
    rotate_left
    · intro w'
      go_simp
      with_reducible rfl
    rotate_left
    · simp only [Act.put, List.setIfInBounds_toArray, List.set_cons_zero, List.set_cons_succ, i64_w, i32_w]
      rfl
    refine pure_ (i := 4) (N := some 57) (v := ?_) (a' := ?_) #[true, false, true, true, true, false, false, false, false, false, false, false, false, false, false, false] rfl rfl (by kernel_rfl) (fun _ _ _ h => h) (Or.inl ⟨by rfl, ?_⟩) ?_ ?_
    rotate_left
    · intro w'
      go_simp
      with_reducible rfl
    rotate_left
    · simp only [Act.put, List.setIfInBounds_toArray, List.set_cons_zero, List.set_cons_succ, i64_w, i32_w]
      rfl
    refine take_ (i := 1) (N := some 54) (v := ?_) (a' := ?_) #[true, true, true, true, true, false, false, false, false, false, false, false, false, false, false, false] rfl rfl (by kernel_rfl) (fun _ _ _ h => h) (Or.inl ⟨by rfl, ?_⟩) hHeld ?_ ?_
    rotate_left
    · rintro w' ⟨s0, s1, s2, s3⟩
      go_simp
      with_reducible rfl
    rotate_left
    · simp only [Act.put, List.setIfInBounds_toArray, List.set_cons_zero, List.set_cons_succ, i64_w, i32_w]
      rfl
    refine take_ (i := 5) (N := some 58) (v := ?_) (a' := ?_) #[true, true, true, true, true, true, false, false, false, false, false, false, false, false, false, false] rfl rfl (by kernel_rfl) (fun _ _ _ h => h) (Or.inl ⟨by rfl, ?_⟩) hHeld ?_ ?_
    rotate_left
    · rintro w' ⟨s0, s1, s2, s3⟩
      go_simp
      with_reducible rfl
    rotate_left
    · simp only [Act.put, List.setIfInBounds_toArray, List.set_cons_zero, List.set_cons_succ, i64_w, i32_w]
      rfl
    refine pure_ (i := 6) (N := some 59) (v := ?_) (a' := ?_) #[true, true, true, true, true, true, true, false, false, false, false, false, false, false, false, false] rfl rfl (by kernel_rfl) (fun _ _ _ h => h) (Or.inl ⟨by rfl, ?_⟩) ?_ ?_
    rotate_left
    · intro w'
      go_simp
      with_reducible rfl
    rotate_left
    · simp only [Act.put, List.setIfInBounds_toArray, List.set_cons_zero, List.set_cons_succ, i64_w, i32_w]
      rfl
    refine pure_ (i := 7) (N := some 60) (v := ?_) (a' := ?_) #[true, true, true, true, true, true, true, true, false, false, false, false, false, false, false, false] rfl rfl (by kernel_rfl) (fun _ _ _ h => h) (Or.inl ⟨by rfl, ?_⟩) ?_ ?_
    rotate_left
    · intro w'
      go_simp
      with_reducible rfl
    rotate_left
    · simp only [Act.put, List.setIfInBounds_toArray, List.set_cons_zero, List.set_cons_succ, i64_w, i32_w]
      rfl
    refine pure_ (i := 8) (N := some 61) (v := undef) (a' := ?_) #[true, true, true, true, true, true, true, true, true, false, false, false, false, false, false, false] rfl rfl (by kernel_rfl) (fun _ _ _ h => h) (Or.inr ⟨by rfl, rfl⟩) ?_ ?_
    rotate_left
    · simp only [Act.put, List.setIfInBounds_toArray, List.set_cons_zero, List.set_cons_succ, i64_w, i32_w]
      rfl
    refine pure_ (i := 9) (N := some 62) (v := undef) (a' := ?_) #[true, true, true, true, true, true, true, true, true, true, false, false, false, false, false, false] rfl rfl (by kernel_rfl) (fun _ _ _ h => h) (Or.inr ⟨by rfl, rfl⟩) ?_ ?_
    rotate_left
    · simp only [Act.put, List.setIfInBounds_toArray, List.set_cons_zero, List.set_cons_succ, i64_w, i32_w]
      rfl
    refine pure_ (i := 10) (N := some 63) (v := undef) (a' := ?_) #[true, true, true, true, true, true, true, true, true, true, true, false, false, false, false, false] rfl rfl (by kernel_rfl) (fun _ _ _ h => h) (Or.inr ⟨by rfl, rfl⟩) ?_ ?_
    rotate_left
    · simp only [Act.put, List.setIfInBounds_toArray, List.set_cons_zero, List.set_cons_succ, i64_w, i32_w]
      rfl
    refine pure_ (i := 11) (N := some 64) (v := undef) (a' := ?_) #[true, true, true, true, true, true, true, true, true, true, true, true, false, false, false, false] rfl rfl (by kernel_rfl) (fun _ _ _ h => h) (Or.inr ⟨by rfl, rfl⟩) ?_ ?_
    rotate_left
    · simp only [Act.put, List.setIfInBounds_toArray, List.set_cons_zero, List.set_cons_succ, i64_w, i32_w]
      rfl
    refine pure_ (i := 12) (N := some 65) (v := undef) (a' := ?_) #[true, true, true, true, true, true, true, true, true, true, true, true, true, false, false, false] rfl rfl (by kernel_rfl) (fun _ _ _ h => h) (Or.inr ⟨by rfl, rfl⟩) ?_ ?_
    rotate_left
    · simp only [Act.put, List.setIfInBounds_toArray, List.set_cons_zero, List.set_cons_succ, i64_w, i32_w]
      rfl
    refine pure_ (i := 13) (N := some 66) (v := undef) (a' := ?_) #[true, true, true, true, true, true, true, true, true, true, true, true, true, true, false, false] rfl rfl (by kernel_rfl) (fun _ _ _ h => h) (Or.inr ⟨by rfl, rfl⟩) ?_ ?_
    rotate_left
    · simp only [Act.put, List.setIfInBounds_toArray, List.set_cons_zero, List.set_cons_succ, i64_w, i32_w]
      rfl
    refine pure_ (i := 14) (N := some 67) (v := undef) (a' := ?_) #[true, true, true, true, true, true, true, true, true, true, true, true, true, true, true, false] rfl rfl (by kernel_rfl) (fun _ _ _ h => h) (Or.inr ⟨by rfl, rfl⟩) ?_ ?_
    rotate_left
    · simp only [Act.put, List.setIfInBounds_toArray, List.set_cons_zero, List.set_cons_succ, i64_w, i32_w]
      rfl
    refine pure_ (i := 15) (N := some 68) (v := ?_) (a' := ?_) #[true, true, true, true, true, true, true, true, true, true, true, true, true, true, true, true] rfl rfl (by kernel_rfl) (fun _ _ _ h => h) (Or.inl ⟨by rfl, ?_⟩) ?_ ?_
    rotate_left
    · intro w'
      go_simp
      with_reducible rfl
    rotate_left
    · simp only [Act.put, List.setIfInBounds_toArray, List.set_cons_zero, List.set_cons_succ, i64_w, i32_w]
      rfl
    refine done_ (by kernel_rfl) ?_
    go_wp2
    go_ret2
    exact ⟨rfl, HB4.out⟩
  · have d0 : decide ((W : Int) < w0) = false := decide_eq_false c0
    have d1 : decide ((H : Int) < h0) = true := decide_eq_true (by rcases HBG.out with h | h; exact absurd h c0; exact h)
    clear c0
    refine start_ (n := 16) (S := fun w' => w'.cell? ⟨w.heap.size, 2, none⟩ = some (.int .i64 w0) ∧ w'.cell? ⟨w.heap.size, 3, none⟩ = some (.int .i64 h0) ∧ w'.cell? ⟨g, 0, none⟩ = some (.int .i64 (W : Int)) ∧ w'.cell? ⟨g, 1, none⟩ = some (.int .i64 (H : Int))) (ds := []) #[false, false, false, false, false, false, false, false, false, false, false, false, false, false, false, false] (by kernel_rfl) rfl rfl ⟨x0, x1, x2, x3⟩ (fun hHeld => ?_)
    refine pure_ (i := 0) (N := some 53) (v := ?_) (a' := ?_) #[true, false, false, false, false, false, false, false, false, false, false, false, false, false, false, false] rfl rfl (by kernel_rfl) (fun _ _ _ h => h) (Or.inl ⟨by rfl, ?_⟩) ?_ ?_
    rotate_left
    · intro w'
      go_simp
      with_reducible rfl
    rotate_left
    · simp only [Act.put, List.setIfInBounds_toArray, List.set_cons_zero, List.set_cons_succ, i64_w, i32_w]
      rfl
    refine pure_ (i := 2) (N := some 55) (v := ?_) (a' := ?_) #[true, false, true, false, false, false, false, false, false, false, false, false, false, false, false, false] rfl rfl (by kernel_rfl) (fun _ _ _ h => h) (Or.inl ⟨by rfl, ?_⟩) ?_ ?_
    rotate_left
    · intro w'
      go_simp
      with_reducible rfl
    rotate_left
    · simp only [Act.put, List.setIfInBounds_toArray, List.set_cons_zero, List.set_cons_succ, i64_w, i32_w]
      rfl
    refine pure_ (i := 3) (N := some 56) (v := ?_) (a' := ?_) #[true, false, true, true, false, false, false, false, false, false, false, false, false, false, false, false] rfl rfl (by kernel_rfl) (fun _ _ _ h => h) (Or.inl ⟨by rfl, ?_⟩) ?_ ?_
    rotate_left
    · intro w'
      go_simp
      with_reducible rfl
    rotate_left
    · simp only [Act.put, List.setIfInBounds_toArray, List.set_cons_zero, List.set_cons_succ, i64_w, i32_w]
      rfl
    refine pure_ (i := 4) (N := some 57) (v := ?_) (a' := ?_) #[true, false, true, true, true, false, false, false, false, false, false, false, false, false, false, false] rfl rfl (by kernel_rfl) (fun _ _ _ h => h) (Or.inl ⟨by rfl, ?_⟩) ?_ ?_
    rotate_left
    · intro w'
      go_simp
      with_reducible rfl
    rotate_left
    · simp only [Act.put, List.setIfInBounds_toArray, List.set_cons_zero, List.set_cons_succ, i64_w, i32_w]
      rfl
    refine take_ (i := 1) (N := some 54) (v := ?_) (a' := ?_) #[true, true, true, true, true, false, false, false, false, false, false, false, false, false, false, false] rfl rfl (by kernel_rfl) (fun _ _ _ h => h) (Or.inl ⟨by rfl, ?_⟩) hHeld ?_ ?_
    rotate_left
    · rintro w' ⟨s0, s1, s2, s3⟩
      go_simp
      with_reducible rfl
    rotate_left
    · simp only [Act.put, List.setIfInBounds_toArray, List.set_cons_zero, List.set_cons_succ, i64_w, i32_w]
      rfl
    refine take_ (i := 5) (N := some 58) (v := ?_) (a' := ?_) #[true, true, true, true, true, true, false, false, false, false, false, false, false, false, false, false] rfl rfl (by kernel_rfl) (fun _ _ _ h => h) (Or.inl ⟨by rfl, ?_⟩) hHeld ?_ ?_
    rotate_left
    · rintro w' ⟨s0, s1, s2, s3⟩
      go_simp
      with_reducible rfl
    rotate_left
    · simp only [Act.put, List.setIfInBounds_toArray, List.set_cons_zero, List.set_cons_succ, i64_w, i32_w]
      rfl
    refine pure_ (i := 6) (N := some 59) (v := ?_) (a' := ?_) #[true, true, true, true, true, true, true, false, false, false, false, false, false, false, false, false] rfl rfl (by kernel_rfl) (fun _ _ _ h => h) (Or.inl ⟨by rfl, ?_⟩) ?_ ?_
    rotate_left
    · intro w'
      go_simp
      with_reducible rfl
    rotate_left
    · simp only [Act.put, List.setIfInBounds_toArray, List.set_cons_zero, List.set_cons_succ, i64_w, i32_w]
      rfl
    refine pure_ (i := 7) (N := some 60) (v := ?_) (a' := ?_) #[true, true, true, true, true, true, true, true, false, false, false, false, false, false, false, false] rfl rfl (by kernel_rfl) (fun _ _ _ h => h) (Or.inl ⟨by rfl, ?_⟩) ?_ ?_
    rotate_left
    · intro w'
      go_simp
      with_reducible rfl
    rotate_left
    · simp only [Act.put, List.setIfInBounds_toArray, List.set_cons_zero, List.set_cons_succ, i64_w, i32_w]
      rfl
    refine pure_ (i := 8) (N := some 61) (v := ?_) (a' := ?_) #[true, true, true, true, true, true, true, true, true, false, false, false, false, false, false, false] rfl rfl (by kernel_rfl) (fun _ _ _ h => h) (Or.inl ⟨by rfl, ?_⟩) ?_ ?_
    rotate_left
    · intro w'
      go_simp
      with_reducible rfl
    rotate_left
    · simp only [Act.put, List.setIfInBounds_toArray, List.set_cons_zero, List.set_cons_succ, i64_w, i32_w]
      rfl
    refine pure_ (i := 10) (N := some 63) (v := ?_) (a' := ?_) #[true, true, true, true, true, true, true, true, true, false, true, false, false, false, false, false] rfl rfl (by kernel_rfl) (fun _ _ _ h => h) (Or.inl ⟨by rfl, ?_⟩) ?_ ?_
    rotate_left
    · intro w'
      go_simp
      with_reducible rfl
    rotate_left
    · simp only [Act.put, List.setIfInBounds_toArray, List.set_cons_zero, List.set_cons_succ, i64_w, i32_w]
      rfl
    refine pure_ (i := 11) (N := some 64) (v := ?_) (a' := ?_) #[true, true, true, true, true, true, true, true, true, false, true, true, false, false, false, false] rfl rfl (by kernel_rfl) (fun _ _ _ h => h) (Or.inl ⟨by rfl, ?_⟩) ?_ ?_
    rotate_left
    · intro w'
      go_simp
      with_reducible rfl
    rotate_left
    · simp only [Act.put, List.setIfInBounds_toArray, List.set_cons_zero, List.set_cons_succ, i64_w, i32_w]
      rfl
    refine pure_ (i := 12) (N := some 65) (v := ?_) (a' := ?_) #[true, true, true, true, true, true, true, true, true, false, true, true, true, false, false, false] rfl rfl (by kernel_rfl) (fun _ _ _ h => h) (Or.inl ⟨by rfl, ?_⟩) ?_ ?_
    rotate_left
    · intro w'
      go_simp
      with_reducible rfl
    rotate_left
    · simp only [Act.put, List.setIfInBounds_toArray, List.set_cons_zero, List.set_cons_succ, i64_w, i32_w]
      rfl
    refine take_ (i := 9) (N := some 62) (v := ?_) (a' := ?_) #[true, true, true, true, true, true, true, true, true, true, true, true, true, false, false, false] rfl rfl (by kernel_rfl) (fun _ _ _ h => h) (Or.inl ⟨by rfl, ?_⟩) hHeld ?_ ?_
    rotate_left
    · rintro w' ⟨s0, s1, s2, s3⟩
      go_simp
      with_reducible rfl
    rotate_left
    · simp only [Act.put, List.setIfInBounds_toArray, List.set_cons_zero, List.set_cons_succ, i64_w, i32_w]
      rfl
    refine take_ (i := 13) (N := some 66) (v := ?_) (a' := ?_) #[true, true, true, true, true, true, true, true, true, true, true, true, true, true, false, false] rfl rfl (by kernel_rfl) (fun _ _ _ h => h) (Or.inl ⟨by rfl, ?_⟩) hHeld ?_ ?_
    rotate_left
    · rintro w' ⟨s0, s1, s2, s3⟩
      go_simp
      with_reducible rfl
    rotate_left
    · simp only [Act.put, List.setIfInBounds_toArray, List.set_cons_zero, List.set_cons_succ, i64_w, i32_w]
      rfl
    refine pure_ (i := 14) (N := some 67) (v := ?_) (a' := ?_) #[true, true, true, true, true, true, true, true, true, true, true, true, true, true, true, false] rfl rfl (by kernel_rfl) (fun _ _ _ h => h) (Or.inl ⟨by rfl, ?_⟩) ?_ ?_
    rotate_left
    · intro w'
      go_simp
      with_reducible rfl
    rotate_left
    · simp only [Act.put, List.setIfInBounds_toArray, List.set_cons_zero, List.set_cons_succ, i64_w, i32_w]
      rfl
    refine pure_ (i := 15) (N := some 68) (v := ?_) (a' := ?_) #[true, true, true, true, true, true, true, true, true, true, true, true, true, true, true, true] rfl rfl (by kernel_rfl) (fun _ _ _ h => h) (Or.inl ⟨by rfl, ?_⟩) ?_ ?_
    rotate_left
    · intro w'
      go_simp
      with_reducible rfl
    rotate_left
    · simp only [Act.put, List.setIfInBounds_toArray, List.set_cons_zero, List.set_cons_succ, i64_w, i32_w]
      rfl
    refine done_ (by kernel_rfl) ?_
    go_wp2
    go_ret2
    exact ⟨rfl, HB4.out⟩
end Go.Proofs.Ytoleencecfjcjaa.At

/- The reference's Put of something new. -/
set_option linter.unusedVariables false
set_option linter.unusedSimpArgs false
namespace Go.Proofs.Ytoleencecfjcjaa.At
open Go.RowKit Go.Proofs.YtoleencecfjcjaaW.PrintWords Go.Proofs.YtoleencecfjcjaaW.PrintLast Go.Proofs.YtoleencecfjcjaaW.PrintMore Go.Proofs.Ytoleencecfjcjaa.Rng
/-- The rest of a row of entries. -/
theorem cutRe (A : Option Addr) (n c : Nat) (h0 : 0 < n) (hc : n ≤ c) : ∃ A' : Option Addr, (∀ W : World, (Instr.slice 80 (.slice A n c) (some (.int .i64 1)) none none).run Try.prog W = .ok (.slice A' (n - 1) (c - 1)) W) ∧ ∀ (w : World) (X : List Re), X.length = n → Kd.C kRe w A n X → Kd.C kRe w A' (n - 1) (X.drop 1) := by
  refine ⟨if c = 1 then A else A.map (·.add (1 * 10)), fun W => ?_, fun w X hX hC => ?_⟩
  · have hel : Try.prog.elem 80 = 91 := by kernel_rfl
    obtain ⟨i, hi, h3⟩ := Option.map_eq_some_iff.1 infoRe
    simp only [Prod.mk.injEq] at h3
    have hs : i.size = 10 := h3.2.1
    have hu : Try.prog.underlying 80 = some (.slice (Try.prog.elem 80)) := by rw [hel]; exact undRe
    rw [run_slice_l W 80 A n c hu .i64 1 (by omega) (by omega), hel]
    simp [sizeOf, typeInfo, hi, hs, sliced, Result.andThen]
  · subst hX
    have := Kd.C_drop (m := 1) (c := c) hC h0 hc
    rw [List.length_drop] at this
    exact this
theorem size1 (w : World) (o : Obj) : (w.alloc o).heap.size = w.heap.size + 1 := by simp [World.alloc, -World.alloc_eq]
theorem CutRe_C {w9 : World} {g W H ga nz kz d : Nat} {X : List Re} {Q : Nat → Prop} {Ac : Option Addr} (hcut : ∀ (w : World) (X : List Re), X.length = nz → Kd.C kRe w (some ⟨ga, 0, none⟩) nz X → Kd.C kRe w Ac (nz - 1) (X.drop 1)) (hn : 0 < nz ∧ nz = (X.drop d).length ∧ (X.drop (d + 1)).length = nz - 1 ∧ (X.drop d).drop 1 = X.drop (d + 1)) (h : RefI w9 g W H (X.drop d) (.slice (some ⟨ga, 0, none⟩) nz kz) Q) : Kd.C kRe w9 Ac (nz - 1) (X.drop (d + 1)) := by
  rw [← hn.2.2.2]
  have h1 := (Kd.R_reads' h.row).2.2
  rw [← hn.2.1] at h1
  exact hcut w9 (X.drop d) hn.2.1.symm h1
/-- One entry more. -/
theorem RefI.push {w w5 w7 : World} {g W H : Nat} {X : List Re} {v v1 : Value} {Q : Nat → Prop} (h : RefI w g W H X v Q) (hb : Below w.heap.size w w5) (x : Re) (hC : Kd.C (Kd.int .u64) w5 x.A x.e.b.rows.length x.e.b.rows) (hc : x.e.b.rows.length ≤ x.c) (hA : ∀ ad, x.A = some ad → w.heap.size ≤ ad.block ∧ ad.block < w5.heap.size) (hR : Kd.R kRe 91 w7 0 (fun _ => True) v1 (X ++ [x])) (hg : w5.grownBy w7 v.ownBlock) (hat : v1.ownBlock = v.ownBlock ∨ ∃ b, v1.ownBlock = some b ∧ w5.heap.size ≤ b) :
    ∃ Q', RefI (w7.setCell ⟨g, 2, none⟩ v1) g W H (X ++ [x]) v1 Q' ∧ (∀ k, Q' k → Q k ∨ (w.heap.size ≤ k ∧ ((∃ ad, x.A = some ad ∧ k = ad.block) ∨ w5.heap.size ≤ k))) ∧ Step Q w (w7.setCell ⟨g, 2, none⟩ v1) := by
  have hs : Step (fun k => k = g) w7 (w7.setCell ⟨g, 2, none⟩ v1) := (Step.refl (fun k => k = g) w7).setCell (p := ⟨g, 2, none⟩) (.inl rfl) _
  have hgl := h.lt g h.gQ
  have sm : ∀ k, k < w5.heap.size → v.ownBlock ≠ some k → k ≠ g → (w7.setCell ⟨g, 2, none⟩ v1).heap[k]? = w5.heap[k]? := fun k h1 h2 h3 => by
    rw [hs.1.2 k (Nat.lt_of_lt_of_le h1 hg.size) h3, hg.block k h1 (fun e => h2 e.symm)]
  have how : ∀ k, v1.ownBlock = some k → (v.ownBlock = some k) ∨ w5.heap.size ≤ k := fun k hk => by
    rcases hat with e | ⟨b, e, hl⟩
    · exact .inl (e ▸ hk)
    · rw [hk] at e
      injection e with e
      exact .inr (by omega)
  have hgo : g ≠ g ∨ v1.ownBlock ≠ some g := .inr (fun e => by
    rcases how g e with h1 | h1
    · exact own_g h h1
    · have := hb.size; omega)
  refine ⟨fun k => Q k ∨ v1.ownBlock = some k ∨ ∃ ad, x.A = some ad ∧ k = ad.block, ⟨?_, Re_keep hR (fun k hk => hs.1.2 k (Kd.R_lt hR k hk) (fun e => by subst e; rcases hgo with h1 | h1; exact h1 rfl; exact h1 hk)), fun k hk => .inr (.inl hk), fun y hy => ?_, .inl h.gQ, fun k hk => ?_⟩, fun k hk => ?_, ?_⟩
  · have h1 := blk_below h.cell hb
    have h2 : w7.heap[g]? = some _ := (hg.block g (lt_of_blk h1) (fun e => own_g h e.symm)).trans h1
    exact cell_setB h2 2 v1
  · rcases List.mem_append.1 hy with hy | hy
    · have h1 := h.good y hy
      refine ⟨C_keep h1.1 (fun ad had hlt => ?_), h1.2.1, fun ad had => ?_⟩
      · rw [sm ad.block (Nat.lt_of_lt_of_le hlt hb.size) (h1.2.2 ad had).2.2 (h1.2.2 ad had).2.1, hb.block _ hlt]
      · have h2 := h1.2.2 ad had
        refine ⟨.inl h2.1, h2.2.1, fun e => ?_⟩
        rcases how _ e with h3 | h3
        · exact h2.2.2 h3
        · have h4 := h.lt _ h2.1
          have h5 := hb.size
          omega
    · rw [List.mem_singleton.1 hy]
      have hne : ∀ ad, x.A = some ad → v.ownBlock ≠ some ad.block := fun ad had e => by
        have h1 := h.lt _ (h.own _ e)
        have h2 := (hA ad had).1
        omega
      refine ⟨C_keep hC (fun ad had hlt => sm ad.block hlt (hne ad had) (fun e => by have h2 := (hA ad had).1; omega)), hc, fun ad had => ⟨.inr (.inr ⟨ad, had, rfl⟩), fun e => by have h2 := (hA ad had).1; omega, fun e => ?_⟩⟩
      rcases how _ e with h3 | h3
      · exact hne ad had h3
      · have := (hA ad had).2
        omega
  · rcases hk with hk | hk | ⟨ad, had, rfl⟩
    · exact Nat.lt_of_lt_of_le (h.lt k hk) (Nat.le_trans hb.size (Nat.le_trans hg.size hs.size))
    · exact Nat.lt_of_lt_of_le (Kd.R_lt hR k hk) hs.size
    · exact Nat.lt_of_lt_of_le (hA ad had).2 (Nat.le_trans hg.size hs.size)
  · rcases hk with hk | hk | ⟨ad, had, rfl⟩
    · exact .inl hk
    · rcases how k hk with h1 | h1
      · exact .inl (h.own k h1)
      · exact .inr ⟨Nat.le_trans hb.size h1, .inr h1⟩
    · exact .inr ⟨(hA ad had).1, .inl ⟨ad, had, rfl⟩⟩
  · refine ((Step.of_below hb Q).trans ((Step.refl Q w5).grown hg (fun k e => .inl (h.own k e))) (fun k e => .inl e)).trans hs (fun k e => .inl (by subst e; exact h.gQ))
theorem Rs_own {w w1 : World} {base : Nat} {u : Value} {xs : List ByteArray} (h : Kd.R Kd.string 9 w base (fun _ => True) u xs) (hm : ∀ k, u.ownBlock = some k → w1.heap[k]? = w.heap[k]?) : Kd.R Kd.string 9 w1 base (fun _ => True) u xs :=
  Kd.R_mono (Kd.R_move (Kd.R_tight rfl h) (fun k hk => hm k hk.symm)) (fun _ _ => trivial)
theorem Ru_own {w : World} {base : Nat} {ad : Addr} {n c : Nat} {xs : List Int} (h : Kd.R (Kd.int .u64) 92 w base (fun _ => True) (.slice (some ad) n c) xs) : (Value.slice (some ad) n c).ownBlock = some ad.block := by
  simp [Value.ownBlock]
theorem refPlace_some {w : World} {g W H : Nat} {X : List Re} {v : Value} {Q : Nat → Prop} (h : RefI w g W H X v Q) (hX : X.length ≤ 100000) (hW : W ≤ 128) (hH : H ≤ 128) (hS : ∀ x ∈ X, Sml x.e.r) (CW CH : Nat) (hw : CW ≤ W) (hh : CH ≤ H) {x y cw ch : Int} (hp : placeP (X.map Re.e) W H CW CH = some ⟨x, y, cw, ch⟩) : Calls Try.prog 43 #[.pointer (some ⟨g, 0, none⟩), .int .i64 (CW : Int), .int .i64 (CH : Int)] w fun e w' => e = .returned (.tuple #[.agg #[.int .i64 x, .int .i64 y, .int .i64 cw, .int .i64 ch], .bool true]) ∧ Below w.heap.size w w' := by
  refine (refPlace_c h hX hW hH hS CW CH hw hh).mono ?_
  rintro e w' ⟨⟨c, h1, rfl⟩ | ⟨h1, _⟩, h2⟩
  · rw [hp] at h1
    injection h1 with h1
    subst h1
    exact ⟨rfl, h2⟩
  · rw [hp] at h1
    cases h1
theorem refPlace_none {w : World} {g W H : Nat} {X : List Re} {v : Value} {Q : Nat → Prop} (h : RefI w g W H X v Q) (hX : X.length ≤ 100000) (hW : W ≤ 128) (hH : H ≤ 128) (hS : ∀ x ∈ X, Sml x.e.r) (CW CH : Nat) (hw : CW ≤ W) (hh : CH ≤ H) (hp : placeP (X.map Re.e) W H CW CH = none) : Calls Try.prog 43 #[.pointer (some ⟨g, 0, none⟩), .int .i64 (CW : Int), .int .i64 (CH : Int)] w fun e w' => e = .returned (.tuple #[.agg #[.int .i64 0, .int .i64 0, .int .i64 0, .int .i64 0], .bool false]) ∧ Below w.heap.size w w' := by
  refine (refPlace_c h hX hW hH hS CW CH hw hh).mono ?_
  rintro e w' ⟨⟨c, h1, rfl⟩ | ⟨_, rfl⟩, h2⟩
  · rw [hp] at h1
    cases h1
  · exact ⟨rfl, h2⟩
/-- What is there while the reference removes its oldest ones. -/
structure RPut (wA : World) (g W H : Nat) (X : List Re) (Q : Nat → Prop) (bx ba : Nat) (bm : Array Value) (CW CH d : Nat) (c : Rc) (u v : Value) (Q' : Nat → Prop) (wr : World) : Prop where
  ref : RefI wr g W H (X.drop d) v Q'
  gr : ∀ k, Q' k → Q k ∨ ba < k
  st : Step (fun k => Q k ∨ k = ba) wA wr
  box : wr.heap[bx]? = some (.cells bm 38 (0, 0))
  at_ : wr.heap[ba]? = some (.cells #[.int .i64 c.x, .int .i64 c.y, .int .i64 c.w, .int .i64 c.h] 43 (0, 0))
  row : Kd.R Kd.string 9 wr (ba + 1) (fun _ => True) u (((X.map Re.e).take d).map En.nm)
  own : ∀ k, u.ownBlock = some k → ¬ Q' k
  le : d ≤ X.length
  none_ : ∀ k, k < d → placeP ((X.map Re.e).drop k) W H CW CH = none
  lt : bx < ba ∧ ba + 1 = wA.heap.size
  Qlt : ∀ k, Q k → k < bx
section
variable {wA : World} {g W H : Nat} {X : List Re} {Q : Nat → Prop} {bx ba : Nat} {bm : Array Value} {CW CH d : Nat} {c : Rc} {u v : Value} {Q' : Nat → Prop} {wr : World}
theorem RPut.below {w1 : World} (h : RPut wA g W H X Q bx ba bm CW CH d c u v Q' wr) (hb : Below wr.heap.size wr w1) : RPut wA g W H X Q bx ba bm CW CH d c u v Q' w1 :=
  { h with
    ref := h.ref.below hb
    st := h.st.trans (Step.of_below hb (fun k => Q k ∨ k = ba)) (fun k e => .inl e)
    box := blk_below h.box hb
    at_ := blk_below h.at_ hb
    row := Kd.R_below h.row hb }
theorem RPut.size (h : RPut wA g W H X Q bx ba bm CW CH d c u v Q' wr) : ba < wr.heap.size := lt_of_blk h.at_
/-- The place is written. -/
theorem RPut.put {x y cw ch : Int} (h : RPut wA g W H X Q bx ba bm CW CH d c u v Q' wr) : RPut wA g W H X Q bx ba bm CW CH d ⟨x, y, cw, ch⟩ u v Q' ((((wr.setCell ⟨ba, 0, none⟩ (.int .i64 x)).setCell ⟨ba, 1, none⟩ (.int .i64 y)).setCell ⟨ba, 2, none⟩ (.int .i64 cw)).setCell ⟨ba, 3, none⟩ (.int .i64 ch)) := by
  have hs := step_set4 wr ba (.int .i64 x) (.int .i64 y) (.int .i64 cw) (.int .i64 ch)
  have h1 := h.lt
  exact
  { h with
    ref := h.ref.keep hs (fun k e hq => by
      subst e
      rcases h.gr _ hq with h2 | h2
      · have := h.Qlt _ h2; omega
      · omega)
    st := h.st.trans (hs.mono (fun k e => .inr e)) (fun k e => .inl e)
    box := hs.same h.box (fun e => by omega)
    at_ := cell_set4 h.at_
    row := Rs_keep h.row (fun k hk hlt => hs.1.2 k hlt (fun e => by omega)) }
/-- The row of what is gone changes. -/
theorem RPut.rows {w1 : World} {u' : Value} {G' : List ByteArray} (h : RPut wA g W H X Q bx ba bm CW CH d c u v Q' wr) (hg : wr.grownBy w1 u.ownBlock) (hb : Below (ba + 1) wr w1) (hR : Kd.R Kd.string 9 w1 (ba + 1) (fun _ => True) u' G') (hat : u'.ownBlock = u.ownBlock ∨ ∃ b, u'.ownBlock = some b ∧ wr.heap.size ≤ b) :
    RefI w1 g W H (X.drop d) v Q' ∧ Step (fun k => Q k ∨ k = ba) wA w1 ∧ w1.heap[bx]? = some (.cells bm 38 (0, 0)) ∧ w1.heap[ba]? = some (.cells #[.int .i64 c.x, .int .i64 c.y, .int .i64 c.w, .int .i64 c.h] 43 (0, 0)) ∧ ∀ k, u'.ownBlock = some k → ¬ Q' k := by
  have h1 := h.lt
  have hz := h.size
  refine ⟨h.ref.keep (T := fun k => u.ownBlock = some k) ((Step.refl _ wr).grown hg (fun k e => .inl e)) (fun k e => h.own k e), ?_, (hb.block bx (by omega)).trans h.box, (hb.block ba (by omega)).trans h.at_, fun k hk => ?_⟩
  · refine ⟨⟨Nat.le_trans h.st.size hb.size, fun i hi hn => ?_⟩, h.st.2.trans (hb.mono (Nat.zero_le _))⟩
    exact (hb.block i (by omega)).trans (h.st.1.2 i hi hn)
  · rcases hat with e | ⟨b, e, hl⟩
    · exact h.own k (e ▸ hk)
    · rw [hk] at e
      injection e with e
      intro hq
      have := h.ref.lt k hq
      omega
/-- The oldest one is gone. -/
theorem RPut.next {w9 w11 : World} {u9 v11 : Value} (h : RPut wA g W H X Q bx ba bm CW CH d c u v Q' wr) (hg : wr.grownBy w9 u.ownBlock) (hb : Below (ba + 1) wr w9) (hR : Kd.R Kd.string 9 w9 (ba + 1) (fun _ => True) u9 (((X.map Re.e).take (d + 1)).map En.nm)) (hat : u9.ownBlock = u.ownBlock ∨ ∃ b, u9.ownBlock = some b ∧ wr.heap.size ≤ b) (hb11 : Below w9.heap.size w9 w11) (hR11 : Kd.R kRe 91 w11 w9.heap.size (fun _ => True) v11 (X.drop (d + 1))) (hp : placeP ((X.map Re.e).drop d) W H CW CH = none) (hd : d < X.length) :
    ∃ Q'', RPut wA g W H X Q bx ba bm CW CH (d + 1) c u9 v11 Q'' (w11.setCell ⟨g, 2, none⟩ v11) := by
  obtain ⟨hI9, hst9, hbx9, hat9, hown9⟩ := h.rows hg hb hR hat
  obtain ⟨Q'', hI, hQ, hS⟩ := hI9.into hb11 hR11 (fun x hx => by
    rw [← List.drop_drop] at hx
    exact List.mem_of_mem_drop hx)
  have h1 := h.lt
  have hno : ∀ k, k ≤ ba → bx ≤ k → ¬ Q' k := fun k e1 e2 hq => by
    rcases h.gr k hq with h2 | h2
    · have := h.Qlt k h2; omega
    · omega
  refine ⟨Q'', ⟨hI, fun k hk => ?_, hst9.trans hS (fun k e => ?_), hS.same hbx9 (hno bx (by omega) (Nat.le_refl _)), hS.same hat9 (hno ba (Nat.le_refl _) (by omega)), Rs_own hR (fun k hk => hS.1.2 k (Kd.R_lt hR k hk) (hown9 k hk)), fun k hk hq => ?_, hd, fun k hk => ?_, h.lt, h.Qlt⟩⟩
  · rcases hQ k hk with h2 | h2
    · exact h.gr k h2
    · have h3 := hb.size
      have h4 := h.size
      exact .inr (by omega)
  · rcases h.gr k e with h2 | h2
    · exact .inl (.inl h2)
    · exact .inr (by omega)
  · rcases hQ k hq with h2 | h2
    · exact hown9 k hk h2
    · have := Kd.R_lt hR k hk
      omega
  · rcases Nat.lt_succ_iff_lt_or_eq.1 hk with hk | rfl
    · exact h.none_ k hk
    · exact hp
end
set_option maxRecDepth 100000 in
set_option maxHeartbeats 16000000 in
theorem refPut_new {w : World} {g W H : Nat} {X : List Re} {v : Value} {Q : Nat → Prop} (h : RefI w g W H X v Q) (hW : 1 ≤ W ∧ W ≤ 128) (hH : H ≤ 128) (hX : X.length ≤ 90000) (hS : ∀ x ∈ X, Sml x.e.r) (nm : ByteArray) (hidx : idxP (X.map Re.e) nm = -1) (l0 t0 : Int) (CW CH : Nat) (A : Option Addr) (cA : Nat) (xs : List Int) (hnm : nm.size ≠ 0) (hx : Kd.C (Kd.int .u64) w A xs.length xs) (hA : ∀ ad, A = some ad → ¬ Q ad.block ∧ ad.block < w.heap.size) (hca : xs.length ≤ cA) (hn : xs.length ≤ 1000) (hr : ∀ x ∈ xs, 0 ≤ x ∧ x ≤ 18446744073709551615) (hb : rightB ⟨l0, t0, (CW : Int), (CH : Int), xs⟩ = true) (hcw : CW ≤ W) (hch : CH ≤ H) : Calls Try.prog 20 #[.pointer (some ⟨g, 0, none⟩), .string nm, .agg #[.int .i64 l0, .int .i64 t0, .int .i64 (CW : Int), .int .i64 (CH : Int), .slice A xs.length cA]] w fun e w' => ∃ u d c B dd v' Q', e = .returned (.tuple #[u, .int .i64 0]) ∧ d ≤ X.length ∧ ((CW = 0 ∧ d = 0 ∧ c = r0) ∨ (1 ≤ CW ∧ placeP ((X.map Re.e).drop d) W H CW CH = some c)) ∧ (∀ k, k < d → placeP ((X.map Re.e).drop k) W H CW CH = none) ∧ RefI w' g W H (X.drop d ++ [⟨⟨nm, ⟨l0, t0, (CW : Int), (CH : Int), xs⟩, c⟩, B, dd⟩]) v' Q' ∧ (∀ k, Q' k → Q k ∨ w.heap.size ≤ k) ∧ Step Q w w' ∧ Kd.R Kd.string 9 w' w.heap.size (fun k => ¬ Q' k) u (((X.map Re.e).take d).map En.nm) := by
  have hg0 := (cell_alloc (o := .cells #[.int .i64 l0, .int .i64 t0, .int .i64 (CW : Int), .int .i64 (CH : Int), .slice A xs.length cA] 38) (lt_of_blk h.cell)).trans (ckA h.cell 0 _ rfl)
  have e0 : ((W : Int) == 0) = false := beq_eq_false_iff_ne.2 (by omega)
  have e1 := nm_ne hnm
  have HI := Lib.hid h
  have HX := Lib.hid hx
  have HN := Lib.hid (show xs.length ≤ 1000 ∧ xs.length ≤ cA from ⟨hn, hca⟩)
  have HR := Lib.hid hr
  have HB := Lib.hid hb
  have HXL := Lib.hid hX
  have HIX := Lib.hid hidx
  have HSM := Lib.hid hS
  have HCW := Lib.hid (show W ≤ 128 ∧ H ≤ 128 ∧ CW ≤ W ∧ CH ≤ H from ⟨hW.2, hH, hcw, hch⟩)
  have HBX0 := Lib.hid (blk_new w (.cells #[.int .i64 l0, .int .i64 t0, .int .i64 (CW : Int), .int .i64 (CH : Int), .slice A xs.length cA] 38))
  have c0 : decide ((W : Int) < (CW : Int)) = false := decide_eq_false (by omega)
  have c1 : decide ((H : Int) < (CH : Int)) = false := decide_eq_false (by omega)
  have c2 : decide (W < CW) = false := decide_eq_false (by omega)
  have c3 : decide (H < CH) = false := decide_eq_false (by omega)
  have HAQ := Lib.hid hA
  clear h hx hn hr hb hX hidx hnm hW hH hcw hch hS hca hA
  go_enter Try.func20, Try.ntmps20
  go_upto_region 4 with (first
    | (go_at_call 42; with_reducible refine (refRight_c _ _ _ _ A xs.length cA xs _ (Kd.C_below HX.out (below_alloc (Below.refl _ _) _)) HN.out.1 HR.out).mono ?_; rintro e wx ⟨rfl, hbx⟩; have HB3 := Lib.hid ((below_alloc (Below.refl _ _) _).trans (hbx.mono (by simp)) : Below w.heap.size w wx); have HXX := Lib.hid (blk_below HBX0.out hbx); rw [HB.out]; clear hbx)
    | (go_at_call 34; refine (find_c (HI.out.below HB3.out) (Nat.le_trans HXL.out (by decide)) nm).mono ?_; rintro e w2 ⟨rfl, rfl⟩; rw [HIX.out]))
  clear hg0 e0 e1
  refine start_ (n := 14) (S := fun w' => True) (ds := []) #[false, false, false, false, false, false, false, false, false, false, false, false, false, false] (by kernel_rfl) rfl rfl trivial (fun hHeld => ?_)
  refine pure_ (i := 0) (N := some 34) (v := ?_) (a' := ?_) #[true, false, false, false, false, false, false, false, false, false, false, false, false, false] rfl rfl (by kernel_rfl) (fun _ _ _ h => h) (Or.inl ⟨by rfl, ?_⟩) ?_ ?_
  rotate_left
  · intro w'
    go_simp
    with_reducible rfl
  rotate_left
  · simp only [Act.put, List.setIfInBounds_toArray, List.set_cons_zero, List.set_cons_succ, i64_w, i32_w]
    rfl
  refine pure_ (i := 1) (N := some 35) (v := ?_) (a' := ?_) #[true, true, false, false, false, false, false, false, false, false, false, false, false, false] rfl rfl (by kernel_rfl) (fun _ _ _ h => h) (Or.inl ⟨by rfl, ?_⟩) ?_ ?_
  rotate_left
  · intro w'
    go_simp
    with_reducible rfl
  rotate_left
  · simp only [Act.put, List.setIfInBounds_toArray, List.set_cons_zero, List.set_cons_succ, i64_w, i32_w]
    rfl
  refine pure_ (i := 2) (N := some 36) (v := ?_) (a' := ?_) #[true, true, true, false, false, false, false, false, false, false, false, false, false, false] rfl rfl (by kernel_rfl) (fun _ _ _ h => h) (Or.inl ⟨by rfl, ?_⟩) ?_ ?_
  rotate_left
  · intro w'
    go_simp
    with_reducible rfl
  rotate_left
  · simp only [Act.put, List.setIfInBounds_toArray, List.set_cons_zero, List.set_cons_succ, i64_w, i32_w]
    rfl
  refine pure_ (i := 3) (N := some 37) (v := undef) (a' := ?_) #[true, true, true, true, false, false, false, false, false, false, false, false, false, false] rfl rfl (by kernel_rfl) (fun _ _ _ h => h) (Or.inr ⟨by rfl, rfl⟩) ?_ ?_
  rotate_left
  · simp only [Act.put, List.setIfInBounds_toArray, List.set_cons_zero, List.set_cons_succ, i64_w, i32_w]
    rfl
  refine pure_ (i := 4) (N := some 38) (v := undef) (a' := ?_) #[true, true, true, true, true, false, false, false, false, false, false, false, false, false] rfl rfl (by kernel_rfl) (fun _ _ _ h => h) (Or.inr ⟨by rfl, rfl⟩) ?_ ?_
  rotate_left
  · simp only [Act.put, List.setIfInBounds_toArray, List.set_cons_zero, List.set_cons_succ, i64_w, i32_w]
    rfl
  refine pure_ (i := 5) (N := some 39) (v := undef) (a' := ?_) #[true, true, true, true, true, true, false, false, false, false, false, false, false, false] rfl rfl (by kernel_rfl) (fun _ _ _ h => h) (Or.inr ⟨by rfl, rfl⟩) ?_ ?_
  rotate_left
  · simp only [Act.put, List.setIfInBounds_toArray, List.set_cons_zero, List.set_cons_succ, i64_w, i32_w]
    rfl
  refine pure_ (i := 6) (N := some 40) (v := undef) (a' := ?_) #[true, true, true, true, true, true, true, false, false, false, false, false, false, false] rfl rfl (by kernel_rfl) (fun _ _ _ h => h) (Or.inr ⟨by rfl, rfl⟩) ?_ ?_
  rotate_left
  · simp only [Act.put, List.setIfInBounds_toArray, List.set_cons_zero, List.set_cons_succ, i64_w, i32_w]
    rfl
  refine pure_ (i := 7) (N := some 41) (v := undef) (a' := ?_) #[true, true, true, true, true, true, true, true, false, false, false, false, false, false] rfl rfl (by kernel_rfl) (fun _ _ _ h => h) (Or.inr ⟨by rfl, rfl⟩) ?_ ?_
  rotate_left
  · simp only [Act.put, List.setIfInBounds_toArray, List.set_cons_zero, List.set_cons_succ, i64_w, i32_w]
    rfl
  refine pure_ (i := 8) (N := some 42) (v := undef) (a' := ?_) #[true, true, true, true, true, true, true, true, true, false, false, false, false, false] rfl rfl (by kernel_rfl) (fun _ _ _ h => h) (Or.inr ⟨by rfl, rfl⟩) ?_ ?_
  rotate_left
  · simp only [Act.put, List.setIfInBounds_toArray, List.set_cons_zero, List.set_cons_succ, i64_w, i32_w]
    rfl
  refine pure_ (i := 9) (N := some 43) (v := undef) (a' := ?_) #[true, true, true, true, true, true, true, true, true, true, false, false, false, false] rfl rfl (by kernel_rfl) (fun _ _ _ h => h) (Or.inr ⟨by rfl, rfl⟩) ?_ ?_
  rotate_left
  · simp only [Act.put, List.setIfInBounds_toArray, List.set_cons_zero, List.set_cons_succ, i64_w, i32_w]
    rfl
  refine pure_ (i := 10) (N := some 44) (v := undef) (a' := ?_) #[true, true, true, true, true, true, true, true, true, true, true, false, false, false] rfl rfl (by kernel_rfl) (fun _ _ _ h => h) (Or.inr ⟨by rfl, rfl⟩) ?_ ?_
  rotate_left
  · simp only [Act.put, List.setIfInBounds_toArray, List.set_cons_zero, List.set_cons_succ, i64_w, i32_w]
    rfl
  refine pure_ (i := 11) (N := some 45) (v := undef) (a' := ?_) #[true, true, true, true, true, true, true, true, true, true, true, true, false, false] rfl rfl (by kernel_rfl) (fun _ _ _ h => h) (Or.inr ⟨by rfl, rfl⟩) ?_ ?_
  rotate_left
  · simp only [Act.put, List.setIfInBounds_toArray, List.set_cons_zero, List.set_cons_succ, i64_w, i32_w]
    rfl
  refine pure_ (i := 12) (N := some 46) (v := undef) (a' := ?_) #[true, true, true, true, true, true, true, true, true, true, true, true, true, false] rfl rfl (by kernel_rfl) (fun _ _ _ h => h) (Or.inr ⟨by rfl, rfl⟩) ?_ ?_
  rotate_left
  · simp only [Act.put, List.setIfInBounds_toArray, List.set_cons_zero, List.set_cons_succ, i64_w, i32_w]
    rfl
  refine pure_ (i := 13) (N := some 47) (v := ?_) (a' := ?_) #[true, true, true, true, true, true, true, true, true, true, true, true, true, true] rfl rfl (by kernel_rfl) (fun _ _ _ h => h) (Or.inl ⟨by rfl, ?_⟩) ?_ ?_
  rotate_left
  · intro w'
    go_simp
    with_reducible rfl
  rotate_left
  · simp only [Act.put, List.setIfInBounds_toArray, List.set_cons_zero, List.set_cons_succ, i64_w, i32_w]
    rfl
  refine done_ (by kernel_rfl) ?_
  clear hHeld
  go_upto_region 9 with fail
  have HB4 := Lib.hid (HB3.out.drew.drew)
  have x0 : w2.drew.drew.cell? ⟨w.heap.size, 2, none⟩ = some (.int .i64 (CW : Int)) := ckA HXX.out 2 _ rfl
  have x1 : w2.drew.drew.cell? ⟨w.heap.size, 3, none⟩ = some (.int .i64 (CH : Int)) := ckA HXX.out 3 _ rfl
  have x2 : w2.drew.drew.cell? ⟨g, 0, none⟩ = some (.int .i64 (W : Int)) := ckA (HI.out.below HB4.out).cell 0 _ rfl
  have x3 : w2.drew.drew.cell? ⟨g, 1, none⟩ = some (.int .i64 (H : Int)) := ckA (HI.out.below HB4.out).cell 1 _ rfl
  have HXY := Lib.hid (show w2.drew.drew.heap[w.heap.size]? = _ from HXX.out)
  clear HXX
  refine start_ (n := 16) (S := fun w' => w'.cell? ⟨w.heap.size, 2, none⟩ = some (.int .i64 (CW : Int)) ∧ w'.cell? ⟨w.heap.size, 3, none⟩ = some (.int .i64 (CH : Int)) ∧ w'.cell? ⟨g, 0, none⟩ = some (.int .i64 (W : Int)) ∧ w'.cell? ⟨g, 1, none⟩ = some (.int .i64 (H : Int))) (ds := []) #[false, false, false, false, false, false, false, false, false, false, false, false, false, false, false, false] (by kernel_rfl) rfl rfl ⟨x0, x1, x2, x3⟩ (fun hHeld => ?_)
  generalize w2.drew.drew = wd at HXY HB4 x0 x1 x2 x3 hHeld ⊢
  refine pure_ (i := 0) (N := some 53) (v := ?_) (a' := ?_) #[true, false, false, false, false, false, false, false, false, false, false, false, false, false, false, false] rfl rfl (by kernel_rfl) (fun _ _ _ h => h) (Or.inl ⟨by rfl, ?_⟩) ?_ ?_
  rotate_left
  · intro w'
    go_simp
    with_reducible rfl
  rotate_left
  · simp only [Act.put, List.setIfInBounds_toArray, List.set_cons_zero, List.set_cons_succ, i64_w, i32_w]
    rfl
  refine pure_ (i := 2) (N := some 55) (v := ?_) (a' := ?_) #[true, false, true, false, false, false, false, false, false, false, false, false, false, false, false, false] rfl rfl (by kernel_rfl) (fun _ _ _ h => h) (Or.inl ⟨by rfl, ?_⟩) ?_ ?_
  rotate_left
  · intro w'
    go_simp
    with_reducible rfl
  rotate_left
  · simp only [Act.put, List.setIfInBounds_toArray, List.set_cons_zero, List.set_cons_succ, i64_w, i32_w]
    rfl
  refine pure_ (i := 3) (N := some 56) (v := ?_) (a' := ?_) #[true, false, true, true, false, false, false, false, false, false, false, false, false, false, false, false] rfl rfl (by kernel_rfl) (fun _ _ _ h => h) (Or.inl ⟨by rfl, ?_⟩) ?_ ?_
  rotate_left
  · intro w'
    go_simp
    with_reducible rfl
  rotate_left
  · simp only [Act.put, List.setIfInBounds_toArray, List.set_cons_zero, List.set_cons_succ, i64_w, i32_w]
    rfl
  refine pure_ (i := 4) (N := some 57) (v := ?_) (a' := ?_) #[true, false, true, true, true, false, false, false, false, false, false, false, false, false, false, false] rfl rfl (by kernel_rfl) (fun _ _ _ h => h) (Or.inl ⟨by rfl, ?_⟩) ?_ ?_
  rotate_left
  · intro w'
    go_simp
    with_reducible rfl
  rotate_left
  · simp only [Act.put, List.setIfInBounds_toArray, List.set_cons_zero, List.set_cons_succ, i64_w, i32_w]
    rfl
  refine take_ (i := 1) (N := some 54) (v := ?_) (a' := ?_) #[true, true, true, true, true, false, false, false, false, false, false, false, false, false, false, false] rfl rfl (by kernel_rfl) (fun _ _ _ h => h) (Or.inl ⟨by rfl, ?_⟩) hHeld ?_ ?_
  rotate_left
  · rintro w' ⟨s0, s1, s2, s3⟩
    go_simp
    with_reducible rfl
  rotate_left
  · simp only [Act.put, List.setIfInBounds_toArray, List.set_cons_zero, List.set_cons_succ, i64_w, i32_w]
    rfl
  refine take_ (i := 5) (N := some 58) (v := ?_) (a' := ?_) #[true, true, true, true, true, true, false, false, false, false, false, false, false, false, false, false] rfl rfl (by kernel_rfl) (fun _ _ _ h => h) (Or.inl ⟨by rfl, ?_⟩) hHeld ?_ ?_
  rotate_left
  · rintro w' ⟨s0, s1, s2, s3⟩
    go_simp
    with_reducible rfl
  rotate_left
  · simp only [Act.put, List.setIfInBounds_toArray, List.set_cons_zero, List.set_cons_succ, i64_w, i32_w]
    rfl
  refine pure_ (i := 6) (N := some 59) (v := ?_) (a' := ?_) #[true, true, true, true, true, true, true, false, false, false, false, false, false, false, false, false] rfl rfl (by kernel_rfl) (fun _ _ _ h => h) (Or.inl ⟨by rfl, ?_⟩) ?_ ?_
  rotate_left
  · intro w'
    go_simp
    with_reducible rfl
  rotate_left
  · simp only [Act.put, List.setIfInBounds_toArray, List.set_cons_zero, List.set_cons_succ, i64_w, i32_w]
    rfl
  refine pure_ (i := 7) (N := some 60) (v := ?_) (a' := ?_) #[true, true, true, true, true, true, true, true, false, false, false, false, false, false, false, false] rfl rfl (by kernel_rfl) (fun _ _ _ h => h) (Or.inl ⟨by rfl, ?_⟩) ?_ ?_
  rotate_left
  · intro w'
    go_simp
    with_reducible rfl
  rotate_left
  · simp only [Act.put, List.setIfInBounds_toArray, List.set_cons_zero, List.set_cons_succ, i64_w, i32_w]
    rfl
  refine pure_ (i := 8) (N := some 61) (v := ?_) (a' := ?_) #[true, true, true, true, true, true, true, true, true, false, false, false, false, false, false, false] rfl rfl (by kernel_rfl) (fun _ _ _ h => h) (Or.inl ⟨by rfl, ?_⟩) ?_ ?_
  rotate_left
  · intro w'
    go_simp
    with_reducible rfl
  rotate_left
  · simp only [Act.put, List.setIfInBounds_toArray, List.set_cons_zero, List.set_cons_succ, i64_w, i32_w]
    rfl
  refine pure_ (i := 10) (N := some 63) (v := ?_) (a' := ?_) #[true, true, true, true, true, true, true, true, true, false, true, false, false, false, false, false] rfl rfl (by kernel_rfl) (fun _ _ _ h => h) (Or.inl ⟨by rfl, ?_⟩) ?_ ?_
  rotate_left
  · intro w'
    go_simp
    with_reducible rfl
  rotate_left
  · simp only [Act.put, List.setIfInBounds_toArray, List.set_cons_zero, List.set_cons_succ, i64_w, i32_w]
    rfl
  refine pure_ (i := 11) (N := some 64) (v := ?_) (a' := ?_) #[true, true, true, true, true, true, true, true, true, false, true, true, false, false, false, false] rfl rfl (by kernel_rfl) (fun _ _ _ h => h) (Or.inl ⟨by rfl, ?_⟩) ?_ ?_
  rotate_left
  · intro w'
    go_simp
    with_reducible rfl
  rotate_left
  · simp only [Act.put, List.setIfInBounds_toArray, List.set_cons_zero, List.set_cons_succ, i64_w, i32_w]
    rfl
  refine pure_ (i := 12) (N := some 65) (v := ?_) (a' := ?_) #[true, true, true, true, true, true, true, true, true, false, true, true, true, false, false, false] rfl rfl (by kernel_rfl) (fun _ _ _ h => h) (Or.inl ⟨by rfl, ?_⟩) ?_ ?_
  rotate_left
  · intro w'
    go_simp
    with_reducible rfl
  rotate_left
  · simp only [Act.put, List.setIfInBounds_toArray, List.set_cons_zero, List.set_cons_succ, i64_w, i32_w]
    rfl
  refine take_ (i := 9) (N := some 62) (v := ?_) (a' := ?_) #[true, true, true, true, true, true, true, true, true, true, true, true, true, false, false, false] rfl rfl (by kernel_rfl) (fun _ _ _ h => h) (Or.inl ⟨by rfl, ?_⟩) hHeld ?_ ?_
  rotate_left
  · rintro w' ⟨s0, s1, s2, s3⟩
    go_simp
    with_reducible rfl
  rotate_left
  · simp only [Act.put, List.setIfInBounds_toArray, List.set_cons_zero, List.set_cons_succ, i64_w, i32_w]
    rfl
  refine take_ (i := 13) (N := some 66) (v := ?_) (a' := ?_) #[true, true, true, true, true, true, true, true, true, true, true, true, true, true, false, false] rfl rfl (by kernel_rfl) (fun _ _ _ h => h) (Or.inl ⟨by rfl, ?_⟩) hHeld ?_ ?_
  rotate_left
  · rintro w' ⟨s0, s1, s2, s3⟩
    go_simp
    with_reducible rfl
  rotate_left
  · simp only [Act.put, List.setIfInBounds_toArray, List.set_cons_zero, List.set_cons_succ, i64_w, i32_w]
    rfl
  refine pure_ (i := 14) (N := some 67) (v := ?_) (a' := ?_) #[true, true, true, true, true, true, true, true, true, true, true, true, true, true, true, false] rfl rfl (by kernel_rfl) (fun _ _ _ h => h) (Or.inl ⟨by rfl, ?_⟩) ?_ ?_
  rotate_left
  · intro w'
    go_simp
    with_reducible rfl
  rotate_left
  · simp only [Act.put, List.setIfInBounds_toArray, List.set_cons_zero, List.set_cons_succ, i64_w, i32_w]
    rfl
  refine pure_ (i := 15) (N := some 68) (v := ?_) (a' := ?_) #[true, true, true, true, true, true, true, true, true, true, true, true, true, true, true, true] rfl rfl (by kernel_rfl) (fun _ _ _ h => h) (Or.inl ⟨by rfl, ?_⟩) ?_ ?_
  rotate_left
  · intro w'
    go_simp
    with_reducible rfl
  rotate_left
  · simp only [Act.put, List.setIfInBounds_toArray, List.set_cons_zero, List.set_cons_succ, i64_w, i32_w]
    rfl
  refine done_ (by kernel_rfl) ?_
  clear hHeld x0 x1 x2 x3 c0 c1 c2 c3
  go_upto_block 0 with fail
  obtain ⟨ba, hba⟩ : ∃ n, n = wd.heap.size := ⟨_, rfl⟩
  obtain ⟨wA, hwA⟩ : ∃ V, V = wd.alloc (.cells #[.int .i64 0, .int .i64 0, .int .i64 0, .int .i64 0] 43) := ⟨_, rfl⟩
  have hBA : Below wd.heap.size wd wA := by rw [hwA]; exact below_alloc (Below.refl _ _) _
  have HBW := Lib.hid (HB4.out.trans (hBA.mono HB4.out.size))
  have HXB := Lib.hid (blk_below HXY.out hBA)
  have HAT := Lib.hid (show wA.heap[ba]? = some (.cells #[.int .i64 0, .int .i64 0, .int .i64 0, .int .i64 0] 43 (0, 0)) from by rw [hwA, hba]; exact blk_new _ _)
  have HLT := Lib.hid (show w.heap.size < ba ∧ ba + 1 = wA.heap.size from ⟨by rw [hba]; exact lt_of_blk HXY.out, by rw [hwA, hba]; simp⟩)
  rw [← hwA, ← hba]
  clear hwA hba hBA HXY HB4
  have HAD := Lib.hid (show ∀ ad, A = some ad → ¬ (Q ad.block ∨ ad.block = ba) from fun ad had e => by
    have h1 := HAQ.out ad had
    have h2 := HLT.out
    rcases e with e | e
    · exact h1.1 e
    · omega)
  have HP0 := Lib.hid (show RPut wA g W H X Q w.heap.size ba #[.int .i64 l0, .int .i64 t0, .int .i64 (CW : Int), .int .i64 (CH : Int), .slice A xs.length cA] CW CH 0 r0 (.slice none 0 0) v Q wA from
    { ref := by rw [List.drop_zero]; exact HI.out.below HBW.out
      gr := fun k hk => .inl hk
      st := Step.refl _ _
      box := HXB.out
      at_ := HAT.out
      row := Kd.R_nil _ _ _ _ _
      own := fun k hk => by simp [Value.ownBlock] at hk
      le := Nat.zero_le _
      none_ := fun k hk => absurd hk (Nat.not_lt_zero k)
      lt := HLT.out
      Qlt := fun k hk => HI.out.lt k hk })
  go_wp2
  by_cases hc0 : CW = 0
  · have d1 : decide ((0 : Int) < (CW : Int)) = false := decide_eq_false (by omega)
    have d2 : decide (0 < CW) = false := decide_eq_false (by omega)
    have d3 : ((0 : Int) < (CW : Int)) = False := eq_false (by omega)
    have d4 : (0 < CW) = False := eq_false (by omega)
    have HC0 := Lib.hid hc0
    clear hc0
    go_loopg [9] 1 (fun kq v9 w' => kq = 1 ∧ v9 = .slice none 0 0 ∧ w' = wA)
    case atStart => exact ⟨rfl, rfl, rfl⟩
    case round =>
      obtain ⟨rfl, rfl, hwr⟩ := hrel
      subst hwr
      have q2 := ckA HP0.out.box 2 _ rfl
      go_upto_region 19 with fail
      clear d1 d2 d3 d4 q2
      have HPz := Lib.hid (HP0.out.below (below_drew (Below.refl _ wr)))
      have HCz := Lib.hid (Kd.C_below HX.out HBW.out |> fun h => C_keep h (fun ad had hlt => HPz.out.st.1.2 ad.block hlt (HAD.out ad had)))
      obtain ⟨Az, kz, hvz, _⟩ := row_re HPz.out.ref.row
      obtain ⟨nz, hnz⟩ : ∃ n, n = (X.drop 0).length := ⟨_, rfl⟩
      rw [← hnz] at hvz
      clear hnz
      subst hvz
      have s0 := ckA HPz.out.ref.cell 2 _ rfl
      have s1 := ckA HPz.out.box 0 _ rfl
      have s2 := ckA HPz.out.box 1 _ rfl
      have s3 := ckA HPz.out.box 2 _ rfl
      have s4 := ckA HPz.out.box 3 _ rfl
      have s5 := ckA HPz.out.box 4 _ rfl
      have s6 := ckA HPz.out.at_ 0 _ rfl
      have s7 := ckA HPz.out.at_ 1 _ rfl
      have s8 := ckA HPz.out.at_ 2 _ rfl
      have s9 := ckA HPz.out.at_ 3 _ rfl
      try dsimp only at s6 s7 s8 s9
      try simp only [r0] at s6 s7 s8 s9
      refine start_ (n := 15) (S := fun w' => w'.cell? ⟨g, 2, none⟩ = some (.slice Az nz kz) ∧ w'.cell? ⟨w.heap.size, 0, none⟩ = some (.int .i64 l0) ∧ w'.cell? ⟨w.heap.size, 1, none⟩ = some (.int .i64 t0) ∧ w'.cell? ⟨w.heap.size, 2, none⟩ = some (.int .i64 (CW : Int)) ∧ w'.cell? ⟨w.heap.size, 3, none⟩ = some (.int .i64 (CH : Int)) ∧ w'.cell? ⟨w.heap.size, 4, none⟩ = some (.slice A xs.length cA) ∧ w'.cell? ⟨ba, 0, none⟩ = some (.int .i64 (0)) ∧ w'.cell? ⟨ba, 1, none⟩ = some (.int .i64 (0)) ∧ w'.cell? ⟨ba, 2, none⟩ = some (.int .i64 (0)) ∧ w'.cell? ⟨ba, 3, none⟩ = some (.int .i64 (0))) (ds := [11, 14]) #[false, false, false, false, false, false, false, false, false, false, false, false, false, false, false] (by kernel_rfl) rfl rfl ⟨s0, s1, s2, s3, s4, s5, s6, s7, s8, s9⟩ (fun hHeld => ?_)
      generalize wr.drew = wd at HPz HCz s0 s1 s2 s3 s4 s5 s6 s7 s8 s9 hHeld ⊢; have LG := Lib.hid (show g < wd.heap.size ∧ w.heap.size < wd.heap.size ∧ ba < wd.heap.size from ⟨World.block_lt_of_cell? _ _ s0, World.block_lt_of_cell? _ _ s1, World.block_lt_of_cell? _ _ s6⟩)
      refine pure_ (i := 0) (N := some 104) (v := ?_) (a' := ?_) #[true, false, false, false, false, false, false, false, false, false, false, false, false, false, false] rfl rfl (by kernel_rfl) (fun _ _ _ h => h) (Or.inl ⟨by rfl, ?_⟩) ?_ ?_
      rotate_left
      · intro w'
        go_simp
        with_reducible rfl
      rotate_left
      · simp only [Act.put, List.setIfInBounds_toArray, List.set_cons_zero, List.set_cons_succ, i64_w, i32_w]
        rfl
      refine pure_ (i := 1) (N := some 105) (v := ?_) (a' := ?_) #[true, true, false, false, false, false, false, false, false, false, false, false, false, false, false] rfl rfl (by kernel_rfl) (fun _ _ _ h => h) (Or.inl ⟨by rfl, ?_⟩) ?_ ?_
      rotate_left
      · intro w'
        go_simp
        with_reducible rfl
      rotate_left
      · simp only [Act.put, List.setIfInBounds_toArray, List.set_cons_zero, List.set_cons_succ, i64_w, i32_w]
        rfl
      refine pure_ (i := 2) (N := some 106) (v := ?_) (a' := ?_) #[true, true, true, false, false, false, false, false, false, false, false, false, false, false, false] rfl rfl (by kernel_rfl) (fun _ _ _ h => h) (Or.inl ⟨by rfl, ?_⟩) ?_ ?_
      rotate_left
      · intro w'
        go_simp
        with_reducible rfl
      rotate_left
      · simp only [Act.put, List.setIfInBounds_toArray, List.set_cons_zero, List.set_cons_succ, i64_w, i32_w]
        rfl
      refine pure_ (i := 3) (N := some 107) (v := ?_) (a' := ?_) #[true, true, true, true, false, false, false, false, false, false, false, false, false, false, false] rfl rfl (by kernel_rfl) (fun _ _ _ h => h) (Or.inl ⟨by rfl, ?_⟩) ?_ ?_
      rotate_left
      · intro w'
        go_simp
        with_reducible rfl
      rotate_left
      · simp only [Act.put, List.setIfInBounds_toArray, List.set_cons_zero, List.set_cons_succ, i64_w, i32_w]
        rfl
      refine pure_ (i := 5) (N := some 109) (v := ?_) (a' := ?_) #[true, true, true, true, false, true, false, false, false, false, false, false, false, false, false] rfl rfl (by kernel_rfl) (fun _ _ _ h => h) (Or.inl ⟨by rfl, ?_⟩) ?_ ?_
      rotate_left
      · intro w'
        go_simp
        with_reducible rfl
      rotate_left
      · simp only [Act.put, List.setIfInBounds_toArray, List.set_cons_zero, List.set_cons_succ, i64_w, i32_w]
        rfl
      refine take_ (i := 4) (N := some 108) (v := ?_) (a' := ?_) #[true, true, true, true, true, true, false, false, false, false, false, false, false, false, false] rfl rfl (by kernel_rfl) (fun _ _ _ h => h) (Or.inl ⟨by rfl, ?_⟩) hHeld ?_ ?_
      rotate_left
      · rintro w' ⟨s0, s1, s2, s3, s4, s5, s6, s7, s8, s9⟩
        go_simp
        with_reducible rfl
      rotate_left
      · simp only [Act.put, List.setIfInBounds_toArray, List.set_cons_zero, List.set_cons_succ, i64_w, i32_w]
        rfl
      refine take_ (i := 6) (N := some 110) (v := ?_) (a' := ?_) #[true, true, true, true, true, true, true, false, false, false, false, false, false, false, false] rfl rfl (by kernel_rfl) (fun _ _ _ h => h) (Or.inl ⟨by rfl, ?_⟩) hHeld ?_ ?_
      rotate_left
      · rintro w' ⟨s0, s1, s2, s3, s4, s5, s6, s7, s8, s9⟩
        go_simp
        with_reducible rfl
      rotate_left
      · simp only [Act.put, List.setIfInBounds_toArray, List.set_cons_zero, List.set_cons_succ, i64_w, i32_w]
        rfl
      refine take_ (i := 8) (N := some 112) (v := ?_) (a' := ?_) #[true, true, true, true, true, true, true, false, true, false, false, false, false, false, false] rfl rfl (by kernel_rfl) (fun _ _ _ h => h) (Or.inl ⟨by rfl, ?_⟩) hHeld ?_ ?_
      rotate_left
      · rintro w' ⟨s0, s1, s2, s3, s4, s5, s6, s7, s8, s9⟩
        go_simp
        with_reducible rfl
      rotate_left
      · simp only [Act.put, List.setIfInBounds_toArray, List.set_cons_zero, List.set_cons_succ, i64_w, i32_w]
        rfl
      refine one_ (i := 7) (N := some 111) #[true, true, true, true, true, true, true, true, true, false, false, false, false, false, false] rfl rfl (by kernel_rfl) (by decide) (fun K hK => ?_)
      refine goes_ Try.func36 (by kernel_rfl) rfl #[.agg #[.int .i64 l0, .int .i64 t0, .int .i64 (CW : Int), .int .i64 (CH : Int), .slice A xs.length cA]] (by rfl) rfl rfl (by simp only [List.map_toArray, List.map_cons, List.map_nil]; rfl) ?_
      with_reducible refine (copied_c l0 t0 (CW : Int) (CH : Int) A cA xs wd HCz.out HN.out.2 HN.out.1).mono ?_
      rintro e w5 ⟨B5, d5, rfl, hR5, hb5⟩
      refine ⟨_, rfl, ?_⟩
      have HR5 := Lib.hid hR5
      have HB5 := Lib.hid hb5
      clear hR5 hb5
      refine hK.out _ _ ⟨(HB5.out.cell LG.out.1).trans s0, (HB5.out.cell LG.out.2.1).trans s1, (HB5.out.cell LG.out.2.1).trans s2, (HB5.out.cell LG.out.2.1).trans s3, (HB5.out.cell LG.out.2.1).trans s4, (HB5.out.cell LG.out.2.1).trans s5, (HB5.out.cell LG.out.2.2).trans s6, (HB5.out.cell LG.out.2.2).trans s7, (HB5.out.cell LG.out.2.2).trans s8, (HB5.out.cell LG.out.2.2).trans s9⟩ (fun hHeld => ?_)
      clear hK K
      refine norm_ (a' := ?_) ?_ ?_
      rotate_left
      · show Act.put _ (some 111) _ = _
        simp only [Act.put, List.setIfInBounds_toArray, List.set_cons_zero, List.set_cons_succ, i64_w, i32_w]
        rfl
      refine pure_ (i := 9) (N := some 113) (v := ?_) (a' := ?_) #[true, true, true, true, true, true, true, true, true, true, false, false, false, false, false] rfl rfl (by kernel_rfl) (fun _ _ _ h => h) (Or.inl ⟨by rfl, ?_⟩) ?_ ?_
      rotate_left
      · intro w'
        go_simp
        with_reducible rfl
      rotate_left
      · simp only [Act.put, List.setIfInBounds_toArray, List.set_cons_zero, List.set_cons_succ, i64_w, i32_w]
        rfl
      refine one_ (i := 10) (N := some 114) #[true, true, true, true, true, true, true, true, true, true, true, false, false, false, false] rfl rfl (by kernel_rfl) (by decide) (fun K hK => ?_)
      refine value_ (w1 := ?_) (v := ?_) (by rfl) rfl ?_ ?_
      rotate_left 2
      · go_simp
        constructor
        · rfl
        · rfl
      refine hK.out _ _ ⟨((HB5.out.trans (below_alloc (Below.refl _ w5) (.cells #[.string nm, .int .i64 l0, .int .i64 t0, .int .i64 (CW : Int), .int .i64 (CH : Int), .slice B5 xs.length d5, .int .i64 (0), .int .i64 (0), .int .i64 (0), .int .i64 (0)] 91) |>.mono HB5.out.size)).cell LG.out.1).trans s0, ((HB5.out.trans (below_alloc (Below.refl _ w5) (.cells #[.string nm, .int .i64 l0, .int .i64 t0, .int .i64 (CW : Int), .int .i64 (CH : Int), .slice B5 xs.length d5, .int .i64 (0), .int .i64 (0), .int .i64 (0), .int .i64 (0)] 91) |>.mono HB5.out.size)).cell LG.out.2.1).trans s1, ((HB5.out.trans (below_alloc (Below.refl _ w5) (.cells #[.string nm, .int .i64 l0, .int .i64 t0, .int .i64 (CW : Int), .int .i64 (CH : Int), .slice B5 xs.length d5, .int .i64 (0), .int .i64 (0), .int .i64 (0), .int .i64 (0)] 91) |>.mono HB5.out.size)).cell LG.out.2.1).trans s2, ((HB5.out.trans (below_alloc (Below.refl _ w5) (.cells #[.string nm, .int .i64 l0, .int .i64 t0, .int .i64 (CW : Int), .int .i64 (CH : Int), .slice B5 xs.length d5, .int .i64 (0), .int .i64 (0), .int .i64 (0), .int .i64 (0)] 91) |>.mono HB5.out.size)).cell LG.out.2.1).trans s3, ((HB5.out.trans (below_alloc (Below.refl _ w5) (.cells #[.string nm, .int .i64 l0, .int .i64 t0, .int .i64 (CW : Int), .int .i64 (CH : Int), .slice B5 xs.length d5, .int .i64 (0), .int .i64 (0), .int .i64 (0), .int .i64 (0)] 91) |>.mono HB5.out.size)).cell LG.out.2.1).trans s4, ((HB5.out.trans (below_alloc (Below.refl _ w5) (.cells #[.string nm, .int .i64 l0, .int .i64 t0, .int .i64 (CW : Int), .int .i64 (CH : Int), .slice B5 xs.length d5, .int .i64 (0), .int .i64 (0), .int .i64 (0), .int .i64 (0)] 91) |>.mono HB5.out.size)).cell LG.out.2.1).trans s5, ((HB5.out.trans (below_alloc (Below.refl _ w5) (.cells #[.string nm, .int .i64 l0, .int .i64 t0, .int .i64 (CW : Int), .int .i64 (CH : Int), .slice B5 xs.length d5, .int .i64 (0), .int .i64 (0), .int .i64 (0), .int .i64 (0)] 91) |>.mono HB5.out.size)).cell LG.out.2.2).trans s6, ((HB5.out.trans (below_alloc (Below.refl _ w5) (.cells #[.string nm, .int .i64 l0, .int .i64 t0, .int .i64 (CW : Int), .int .i64 (CH : Int), .slice B5 xs.length d5, .int .i64 (0), .int .i64 (0), .int .i64 (0), .int .i64 (0)] 91) |>.mono HB5.out.size)).cell LG.out.2.2).trans s7, ((HB5.out.trans (below_alloc (Below.refl _ w5) (.cells #[.string nm, .int .i64 l0, .int .i64 t0, .int .i64 (CW : Int), .int .i64 (CH : Int), .slice B5 xs.length d5, .int .i64 (0), .int .i64 (0), .int .i64 (0), .int .i64 (0)] 91) |>.mono HB5.out.size)).cell LG.out.2.2).trans s8, ((HB5.out.trans (below_alloc (Below.refl _ w5) (.cells #[.string nm, .int .i64 l0, .int .i64 t0, .int .i64 (CW : Int), .int .i64 (CH : Int), .slice B5 xs.length d5, .int .i64 (0), .int .i64 (0), .int .i64 (0), .int .i64 (0)] 91) |>.mono HB5.out.size)).cell LG.out.2.2).trans s9⟩ (fun hHeld => ?_)
      clear hK K
      refine norm_ (a' := ?_) ?_ ?_
      rotate_left
      · show Act.put _ (some 114) _ = _
        simp only [Act.put, List.setIfInBounds_toArray, List.set_cons_zero, List.set_cons_succ, i64_w, i32_w]
        rfl
      refine last_ (i := 11) (N := some 115) #[true, true, true, true, true, true, true, true, true, true, true, true, false, false, false] rfl rfl (by kernel_rfl) (by decide) (fun K hK => ?_)
      have HPl := Lib.hid (HPz.out.ref.below (HB5.out.trans (below_alloc (Below.refl _ w5) (.cells #[.string nm, .int .i64 l0, .int .i64 t0, .int .i64 (CW : Int), .int .i64 (CH : Int), .slice B5 xs.length d5, .int .i64 (0), .int .i64 (0), .int .i64 (0), .int .i64 (0)] 91) |>.mono HB5.out.size)))
      refine append_at_step kRe (W := w5.alloc (.cells #[.string nm, .int .i64 l0, .int .i64 t0, .int .i64 (CW : Int), .int .i64 (CH : Int), .slice B5 xs.length d5, .int .i64 (0), .int .i64 (0), .int .i64 (0), .int .i64 (0)] 91)) 0 (by rfl) (.tmp 108) (.tmp 114) 80 91 zRe 104 rfl undRe infoRe rfl (show 0 < 10 by omega) (by omega) (.slice Az nz kz) (X.drop 0) (⟨⟨nm, ⟨l0, t0, (CW : Int), (CH : Int), xs⟩, ⟨0, 0, 0, 0⟩⟩, B5, d5⟩ : Re) (#[.string nm, .int .i64 l0, .int .i64 t0, .int .i64 (CW : Int), .int .i64 (CH : Int), .slice B5 xs.length d5, .int .i64 (0), .int .i64 (0), .int .i64 (0), .int .i64 (0)] : Array Value).toList w5.heap.size (fun _ => True) (fun _ => False) rfl rfl rfl (fun _ hk => hk.elim) (fun _ _ => trivial) (blk_new w5 _) HPl.out.row (Nat.zero_le _) (by have h1 := HXL.out; rw [List.length_drop]; omega) ?_
      intro v9 w9 ho9 hg9 hat9
      refine hK.out _ _ ?_
      clear hK K
      refine norm_ (a' := ?_) ?_ ?_
      rotate_left
      · show Act.put _ (some 115) _ = _
        simp only [Act.put, List.setIfInBounds_toArray, List.set_cons_zero, List.set_cons_succ, i64_w, i32_w]
        rfl
      refine pure_ (i := 12) (N := some 116) (v := ?_) (a' := ?_) #[true, true, true, true, true, true, true, true, true, true, true, true, true, false, false] rfl rfl (by kernel_rfl) (fun _ _ _ h => h) (Or.inl ⟨by rfl, ?_⟩) ?_ ?_
      rotate_left
      · intro w'
        go_simp
        with_reducible rfl
      rotate_left
      · simp only [Act.put, List.setIfInBounds_toArray, List.set_cons_zero, List.set_cons_succ, i64_w, i32_w]
        rfl
      refine pure_ (i := 13) (N := some 117) (v := ?_) (a' := ?_) #[true, true, true, true, true, true, true, true, true, true, true, true, true, true, false] rfl rfl (by kernel_rfl) (fun _ _ _ h => h) (Or.inl ⟨by rfl, ?_⟩) ?_ ?_
      rotate_left
      · intro w'
        go_simp
        with_reducible rfl
      rotate_left
      · simp only [Act.put, List.setIfInBounds_toArray, List.set_cons_zero, List.set_cons_succ, i64_w, i32_w]
        rfl
      refine last_ (i := 14) (N := none) #[true, true, true, true, true, true, true, true, true, true, true, true, true, true, true] rfl rfl (by kernel_rfl) (by decide) (fun K hK => ?_)
      obtain ⟨A9, k9, rfl⟩ := Kd.R_slice ho9
      have g29 : w9.heap[g]? = some _ := (hg9.block g (lt_of_blk HPl.out.cell) (fun e => own_g HPl.out e.symm)).trans HPl.out.cell
      have c29 := ckA g29 2 _ rfl
      have f29 := free_of_one g29 2
      refine skip_ (w1 := ?_) (by rfl) rfl ?_ ?_
      rotate_left
      · go_simp
        rfl
      refine hK.out _ _ ?_
      clear hK K
      refine done_ (by kernel_rfl) ?_
      clear hHeld s0 s1 s2 s3 s4 s5 s6 s7 s8 s9
      go_wp2
      clear c29 f29 g29
      go_ret2
      have hlt := HPz.out.lt
      have hsz := HPz.out.size
      obtain ⟨Q9, hI9, hQ9, hS9⟩ := HPz.out.ref.push (w5 := w5.alloc (.cells #[.string nm, .int .i64 l0, .int .i64 t0, .int .i64 (CW : Int), .int .i64 (CH : Int), .slice B5 xs.length d5, .int .i64 (0), .int .i64 (0), .int .i64 (0), .int .i64 (0)] 91)) (HB5.out.trans (below_alloc (Below.refl _ w5) _ |>.mono HB5.out.size)) (⟨⟨nm, ⟨l0, t0, (CW : Int), (CH : Int), xs⟩, ⟨0, 0, 0, 0⟩⟩, B5, d5⟩ : Re) (Kd.C_below (Ru_C HR5.out) (below_alloc (Below.refl _ w5) _)) (Kd.R_reads' HR5.out).2.1 (fun ad had => by
        have had : B5 = some ad := had
        subst had
        have h1 := Ru_own HR5.out
        have h2 := Ru_lt HR5.out h1
        exact ⟨h2.1, by simp; omega⟩) ho9 hg9 hat9
      simp only [List.length_append, List.length_singleton, List.length_drop] at hI9 hS9
      refine ⟨_, 0, ⟨0, 0, 0, 0⟩, B5, d5, _, Q9, rfl, HPz.out.le, .inl ⟨HC0.out, rfl, rfl⟩, HPz.out.none_, hI9, fun k hk => ?_, ?_, ?_⟩
      · rcases hQ9 k hk with h | h
        · rcases HPz.out.gr k h with h | h
          · exact .inl h
          · exact .inr (by omega)
        · exact .inr (by omega)
      · refine ((Step.of_below HBW.out Q).trans HPz.out.st (fun k e => ?_)).trans hS9 (fun k e => ?_)
        · rcases e with e | e
          · exact .inl e
          · exact .inr (by omega)
        · rcases HPz.out.gr k e with h | h
          · exact .inl h
          · exact .inr (by omega)
      · have hRu := Rs_own HPz.out.row (fun k hk => hS9.1.2 k (Kd.R_lt HPz.out.row k hk) (HPz.out.own k hk))
        refine Kd.R_lower (Kd.R_mono (ok' := fun k => ¬ Q9 k) (Kd.R_tight rfl hRu) (fun k hk hq => ?_)) (by omega)
        rcases hQ9 k hq with h | h
        · exact HPz.out.own k hk.symm h
        · have := Kd.R_lt HPz.out.row k hk.symm
          omega
  · go_loopg [9] (X.length + 1) (fun kq v9 w' => ∃ d v' Q', RPut wA g W H X Q w.heap.size ba #[.int .i64 l0, .int .i64 t0, .int .i64 (CW : Int), .int .i64 (CH : Int), .slice A xs.length cA] CW CH d r0 v9 v' Q' w' ∧ X.length - d < kq)
    case atStart => exact ⟨0, v, Q, HP0.out, by omega⟩
    case round =>
      obtain ⟨d, v', Q', hP, hk⟩ := hrel
      obtain ⟨kd, rfl⟩ : ∃ k, gk = k + 1 := ⟨gk - 1, by omega⟩
      have HP := Lib.hid hP
      have HK := Lib.hid hk
      have HC0 := Lib.hid (show 1 ≤ CW from by omega)
      have q2 := ckA hP.box 2 _ rfl
      have q3 := ckA hP.box 3 _ rfl
      have d1 : decide ((0 : Int) < (CW : Int)) = true := decide_eq_true (by omega)
      have d2 : decide (0 < CW) = true := decide_eq_true (by omega)
      have d3 : ((0 : Int) < (CW : Int)) = True := eq_true (by omega)
      have d4 : (0 < CW) = True := eq_true (by omega)
      have HDM := Lib.hid (show (X.drop d).map Re.e = (X.map Re.e).drop d from List.map_drop)
      have HSD := Lib.hid (show ∀ x ∈ X.drop d, Sml x.e.r from fun x hx => HSM.out x (List.mem_of_mem_drop hx))
      have HXD := Lib.hid (show (X.drop d).length ≤ 100000 from by rw [List.length_drop]; have := HXL.out; omega)
      clear hP hk hc0
      cases hp : placeP ((X.map Re.e).drop d) W H CW CH with
      | some c1 =>
        obtain ⟨x, y, cw, ch⟩ := c1
        have HPL := Lib.hid hp
        clear hp
        go_upto_region 19 with (go_at_call 43
                                refine (refPlace_some HP.out.ref HXD.out HCW.out.1 HCW.out.2.1 HSD.out CW CH HCW.out.2.2.1 HCW.out.2.2.2 (x := x) (y := y) (cw := cw) (ch := ch) ?hp_).mono ?_
                                (case hp_ => rw [HDM.out]; exact HPL.out)
                                rintro e w1 ⟨rfl, hb1⟩
                                have hP1 := (HP.out.below hb1).below (below_alloc (Below.refl _ w1) (.cells #[.int .i64 x, .int .i64 y, .int .i64 cw, .int .i64 ch] 43))
                                have hlit := blk_new w1 (.cells #[.int .i64 x, .int .i64 y, .int .i64 cw, .int .i64 ch] 43)
                                have k0 := ckA hlit 0 _ rfl
                                have k1 := ckA hlit 1 _ rfl
                                have k2 := ckA hlit 2 _ rfl
                                have k3 := ckA hlit 3 _ rfl
                                have z0 := ckA hP1.at_ 0 _ rfl
                                have z1 := ckA hP1.at_ 1 _ rfl
                                have z2 := ckA hP1.at_ 2 _ rfl
                                have z3 := ckA hP1.at_ 3 _ rfl
                                have f0 := free_of_one hP1.at_ 0
                                have f1 := free_of_one hP1.at_ 1
                                have f2 := free_of_one hP1.at_ 2
                                have f3 := free_of_one hP1.at_ 3
                                have HP1 := Lib.hid hP1
                                clear hb1 hP1 hlit)
        clear k0 k1 k2 k3 z0 z1 z2 z3 f0 f1 f2 f3
        have HP2 := Lib.hid (HP1.out.put (x := x) (y := y) (cw := cw) (ch := ch))
        clear HP1
        generalize (((((w1.alloc (.cells #[.int .i64 x, .int .i64 y, .int .i64 cw, .int .i64 ch] 43)).setCell ⟨ba, 0, none⟩ (.int .i64 x)).setCell ⟨ba, 1, none⟩ (.int .i64 y)).setCell ⟨ba, 2, none⟩ (.int .i64 cw)).setCell ⟨ba, 3, none⟩ (.int .i64 ch)) = wz at HP2 ⊢
        have HPz := Lib.hid (HP2.out.below (below_drew (Below.refl _ wz)))
        have HCz := Lib.hid (Kd.C_below HX.out HBW.out |> fun h => C_keep h (fun ad had hlt => HPz.out.st.1.2 ad.block hlt (HAD.out ad had)))
        obtain ⟨Az, kz, hvz, _⟩ := row_re HPz.out.ref.row
        obtain ⟨nz, hnz⟩ : ∃ n, n = (X.drop d).length := ⟨_, rfl⟩
        rw [← hnz] at hvz
        clear hnz
        subst hvz
        have s0 := ckA HPz.out.ref.cell 2 _ rfl
        have s1 := ckA HPz.out.box 0 _ rfl
        have s2 := ckA HPz.out.box 1 _ rfl
        have s3 := ckA HPz.out.box 2 _ rfl
        have s4 := ckA HPz.out.box 3 _ rfl
        have s5 := ckA HPz.out.box 4 _ rfl
        have s6 := ckA HPz.out.at_ 0 _ rfl
        have s7 := ckA HPz.out.at_ 1 _ rfl
        have s8 := ckA HPz.out.at_ 2 _ rfl
        have s9 := ckA HPz.out.at_ 3 _ rfl
        try dsimp only at s6 s7 s8 s9
        try simp only [r0] at s6 s7 s8 s9
        refine start_ (n := 15) (S := fun w' => w'.cell? ⟨g, 2, none⟩ = some (.slice Az nz kz) ∧ w'.cell? ⟨w.heap.size, 0, none⟩ = some (.int .i64 l0) ∧ w'.cell? ⟨w.heap.size, 1, none⟩ = some (.int .i64 t0) ∧ w'.cell? ⟨w.heap.size, 2, none⟩ = some (.int .i64 (CW : Int)) ∧ w'.cell? ⟨w.heap.size, 3, none⟩ = some (.int .i64 (CH : Int)) ∧ w'.cell? ⟨w.heap.size, 4, none⟩ = some (.slice A xs.length cA) ∧ w'.cell? ⟨ba, 0, none⟩ = some (.int .i64 (x)) ∧ w'.cell? ⟨ba, 1, none⟩ = some (.int .i64 (y)) ∧ w'.cell? ⟨ba, 2, none⟩ = some (.int .i64 (cw)) ∧ w'.cell? ⟨ba, 3, none⟩ = some (.int .i64 (ch))) (ds := [11, 14]) #[false, false, false, false, false, false, false, false, false, false, false, false, false, false, false] (by kernel_rfl) rfl rfl ⟨s0, s1, s2, s3, s4, s5, s6, s7, s8, s9⟩ (fun hHeld => ?_)
        generalize wz.drew = wd at HPz HCz s0 s1 s2 s3 s4 s5 s6 s7 s8 s9 hHeld ⊢; have LG := Lib.hid (show g < wd.heap.size ∧ w.heap.size < wd.heap.size ∧ ba < wd.heap.size from ⟨World.block_lt_of_cell? _ _ s0, World.block_lt_of_cell? _ _ s1, World.block_lt_of_cell? _ _ s6⟩)
        refine pure_ (i := 0) (N := some 104) (v := ?_) (a' := ?_) #[true, false, false, false, false, false, false, false, false, false, false, false, false, false, false] rfl rfl (by kernel_rfl) (fun _ _ _ h => h) (Or.inl ⟨by rfl, ?_⟩) ?_ ?_
        rotate_left
        · intro w'
          go_simp
          with_reducible rfl
        rotate_left
        · simp only [Act.put, List.setIfInBounds_toArray, List.set_cons_zero, List.set_cons_succ, i64_w, i32_w]
          rfl
        refine pure_ (i := 1) (N := some 105) (v := ?_) (a' := ?_) #[true, true, false, false, false, false, false, false, false, false, false, false, false, false, false] rfl rfl (by kernel_rfl) (fun _ _ _ h => h) (Or.inl ⟨by rfl, ?_⟩) ?_ ?_
        rotate_left
        · intro w'
          go_simp
          with_reducible rfl
        rotate_left
        · simp only [Act.put, List.setIfInBounds_toArray, List.set_cons_zero, List.set_cons_succ, i64_w, i32_w]
          rfl
        refine pure_ (i := 2) (N := some 106) (v := ?_) (a' := ?_) #[true, true, true, false, false, false, false, false, false, false, false, false, false, false, false] rfl rfl (by kernel_rfl) (fun _ _ _ h => h) (Or.inl ⟨by rfl, ?_⟩) ?_ ?_
        rotate_left
        · intro w'
          go_simp
          with_reducible rfl
        rotate_left
        · simp only [Act.put, List.setIfInBounds_toArray, List.set_cons_zero, List.set_cons_succ, i64_w, i32_w]
          rfl
        refine pure_ (i := 3) (N := some 107) (v := ?_) (a' := ?_) #[true, true, true, true, false, false, false, false, false, false, false, false, false, false, false] rfl rfl (by kernel_rfl) (fun _ _ _ h => h) (Or.inl ⟨by rfl, ?_⟩) ?_ ?_
        rotate_left
        · intro w'
          go_simp
          with_reducible rfl
        rotate_left
        · simp only [Act.put, List.setIfInBounds_toArray, List.set_cons_zero, List.set_cons_succ, i64_w, i32_w]
          rfl
        refine pure_ (i := 5) (N := some 109) (v := ?_) (a' := ?_) #[true, true, true, true, false, true, false, false, false, false, false, false, false, false, false] rfl rfl (by kernel_rfl) (fun _ _ _ h => h) (Or.inl ⟨by rfl, ?_⟩) ?_ ?_
        rotate_left
        · intro w'
          go_simp
          with_reducible rfl
        rotate_left
        · simp only [Act.put, List.setIfInBounds_toArray, List.set_cons_zero, List.set_cons_succ, i64_w, i32_w]
          rfl
        refine take_ (i := 4) (N := some 108) (v := ?_) (a' := ?_) #[true, true, true, true, true, true, false, false, false, false, false, false, false, false, false] rfl rfl (by kernel_rfl) (fun _ _ _ h => h) (Or.inl ⟨by rfl, ?_⟩) hHeld ?_ ?_
        rotate_left
        · rintro w' ⟨s0, s1, s2, s3, s4, s5, s6, s7, s8, s9⟩
          go_simp
          with_reducible rfl
        rotate_left
        · simp only [Act.put, List.setIfInBounds_toArray, List.set_cons_zero, List.set_cons_succ, i64_w, i32_w]
          rfl
        refine take_ (i := 6) (N := some 110) (v := ?_) (a' := ?_) #[true, true, true, true, true, true, true, false, false, false, false, false, false, false, false] rfl rfl (by kernel_rfl) (fun _ _ _ h => h) (Or.inl ⟨by rfl, ?_⟩) hHeld ?_ ?_
        rotate_left
        · rintro w' ⟨s0, s1, s2, s3, s4, s5, s6, s7, s8, s9⟩
          go_simp
          with_reducible rfl
        rotate_left
        · simp only [Act.put, List.setIfInBounds_toArray, List.set_cons_zero, List.set_cons_succ, i64_w, i32_w]
          rfl
        refine take_ (i := 8) (N := some 112) (v := ?_) (a' := ?_) #[true, true, true, true, true, true, true, false, true, false, false, false, false, false, false] rfl rfl (by kernel_rfl) (fun _ _ _ h => h) (Or.inl ⟨by rfl, ?_⟩) hHeld ?_ ?_
        rotate_left
        · rintro w' ⟨s0, s1, s2, s3, s4, s5, s6, s7, s8, s9⟩
          go_simp
          with_reducible rfl
        rotate_left
        · simp only [Act.put, List.setIfInBounds_toArray, List.set_cons_zero, List.set_cons_succ, i64_w, i32_w]
          rfl
        refine one_ (i := 7) (N := some 111) #[true, true, true, true, true, true, true, true, true, false, false, false, false, false, false] rfl rfl (by kernel_rfl) (by decide) (fun K hK => ?_)
        refine goes_ Try.func36 (by kernel_rfl) rfl #[.agg #[.int .i64 l0, .int .i64 t0, .int .i64 (CW : Int), .int .i64 (CH : Int), .slice A xs.length cA]] (by rfl) rfl rfl (by simp only [List.map_toArray, List.map_cons, List.map_nil]; rfl) ?_
        with_reducible refine (copied_c l0 t0 (CW : Int) (CH : Int) A cA xs wd HCz.out HN.out.2 HN.out.1).mono ?_
        rintro e w5 ⟨B5, d5, rfl, hR5, hb5⟩
        refine ⟨_, rfl, ?_⟩
        have HR5 := Lib.hid hR5
        have HB5 := Lib.hid hb5
        clear hR5 hb5
        refine hK.out _ _ ⟨(HB5.out.cell LG.out.1).trans s0, (HB5.out.cell LG.out.2.1).trans s1, (HB5.out.cell LG.out.2.1).trans s2, (HB5.out.cell LG.out.2.1).trans s3, (HB5.out.cell LG.out.2.1).trans s4, (HB5.out.cell LG.out.2.1).trans s5, (HB5.out.cell LG.out.2.2).trans s6, (HB5.out.cell LG.out.2.2).trans s7, (HB5.out.cell LG.out.2.2).trans s8, (HB5.out.cell LG.out.2.2).trans s9⟩ (fun hHeld => ?_)
        clear hK K
        refine norm_ (a' := ?_) ?_ ?_
        rotate_left
        · show Act.put _ (some 111) _ = _
          simp only [Act.put, List.setIfInBounds_toArray, List.set_cons_zero, List.set_cons_succ, i64_w, i32_w]
          rfl
        refine pure_ (i := 9) (N := some 113) (v := ?_) (a' := ?_) #[true, true, true, true, true, true, true, true, true, true, false, false, false, false, false] rfl rfl (by kernel_rfl) (fun _ _ _ h => h) (Or.inl ⟨by rfl, ?_⟩) ?_ ?_
        rotate_left
        · intro w'
          go_simp
          with_reducible rfl
        rotate_left
        · simp only [Act.put, List.setIfInBounds_toArray, List.set_cons_zero, List.set_cons_succ, i64_w, i32_w]
          rfl
        refine one_ (i := 10) (N := some 114) #[true, true, true, true, true, true, true, true, true, true, true, false, false, false, false] rfl rfl (by kernel_rfl) (by decide) (fun K hK => ?_)
        refine value_ (w1 := ?_) (v := ?_) (by rfl) rfl ?_ ?_
        rotate_left 2
        · go_simp
          constructor
          · rfl
          · rfl
        refine hK.out _ _ ⟨((HB5.out.trans (below_alloc (Below.refl _ w5) (.cells #[.string nm, .int .i64 l0, .int .i64 t0, .int .i64 (CW : Int), .int .i64 (CH : Int), .slice B5 xs.length d5, .int .i64 (x), .int .i64 (y), .int .i64 (cw), .int .i64 (ch)] 91) |>.mono HB5.out.size)).cell LG.out.1).trans s0, ((HB5.out.trans (below_alloc (Below.refl _ w5) (.cells #[.string nm, .int .i64 l0, .int .i64 t0, .int .i64 (CW : Int), .int .i64 (CH : Int), .slice B5 xs.length d5, .int .i64 (x), .int .i64 (y), .int .i64 (cw), .int .i64 (ch)] 91) |>.mono HB5.out.size)).cell LG.out.2.1).trans s1, ((HB5.out.trans (below_alloc (Below.refl _ w5) (.cells #[.string nm, .int .i64 l0, .int .i64 t0, .int .i64 (CW : Int), .int .i64 (CH : Int), .slice B5 xs.length d5, .int .i64 (x), .int .i64 (y), .int .i64 (cw), .int .i64 (ch)] 91) |>.mono HB5.out.size)).cell LG.out.2.1).trans s2, ((HB5.out.trans (below_alloc (Below.refl _ w5) (.cells #[.string nm, .int .i64 l0, .int .i64 t0, .int .i64 (CW : Int), .int .i64 (CH : Int), .slice B5 xs.length d5, .int .i64 (x), .int .i64 (y), .int .i64 (cw), .int .i64 (ch)] 91) |>.mono HB5.out.size)).cell LG.out.2.1).trans s3, ((HB5.out.trans (below_alloc (Below.refl _ w5) (.cells #[.string nm, .int .i64 l0, .int .i64 t0, .int .i64 (CW : Int), .int .i64 (CH : Int), .slice B5 xs.length d5, .int .i64 (x), .int .i64 (y), .int .i64 (cw), .int .i64 (ch)] 91) |>.mono HB5.out.size)).cell LG.out.2.1).trans s4, ((HB5.out.trans (below_alloc (Below.refl _ w5) (.cells #[.string nm, .int .i64 l0, .int .i64 t0, .int .i64 (CW : Int), .int .i64 (CH : Int), .slice B5 xs.length d5, .int .i64 (x), .int .i64 (y), .int .i64 (cw), .int .i64 (ch)] 91) |>.mono HB5.out.size)).cell LG.out.2.1).trans s5, ((HB5.out.trans (below_alloc (Below.refl _ w5) (.cells #[.string nm, .int .i64 l0, .int .i64 t0, .int .i64 (CW : Int), .int .i64 (CH : Int), .slice B5 xs.length d5, .int .i64 (x), .int .i64 (y), .int .i64 (cw), .int .i64 (ch)] 91) |>.mono HB5.out.size)).cell LG.out.2.2).trans s6, ((HB5.out.trans (below_alloc (Below.refl _ w5) (.cells #[.string nm, .int .i64 l0, .int .i64 t0, .int .i64 (CW : Int), .int .i64 (CH : Int), .slice B5 xs.length d5, .int .i64 (x), .int .i64 (y), .int .i64 (cw), .int .i64 (ch)] 91) |>.mono HB5.out.size)).cell LG.out.2.2).trans s7, ((HB5.out.trans (below_alloc (Below.refl _ w5) (.cells #[.string nm, .int .i64 l0, .int .i64 t0, .int .i64 (CW : Int), .int .i64 (CH : Int), .slice B5 xs.length d5, .int .i64 (x), .int .i64 (y), .int .i64 (cw), .int .i64 (ch)] 91) |>.mono HB5.out.size)).cell LG.out.2.2).trans s8, ((HB5.out.trans (below_alloc (Below.refl _ w5) (.cells #[.string nm, .int .i64 l0, .int .i64 t0, .int .i64 (CW : Int), .int .i64 (CH : Int), .slice B5 xs.length d5, .int .i64 (x), .int .i64 (y), .int .i64 (cw), .int .i64 (ch)] 91) |>.mono HB5.out.size)).cell LG.out.2.2).trans s9⟩ (fun hHeld => ?_)
        clear hK K
        refine norm_ (a' := ?_) ?_ ?_
        rotate_left
        · show Act.put _ (some 114) _ = _
          simp only [Act.put, List.setIfInBounds_toArray, List.set_cons_zero, List.set_cons_succ, i64_w, i32_w]
          rfl
        refine last_ (i := 11) (N := some 115) #[true, true, true, true, true, true, true, true, true, true, true, true, false, false, false] rfl rfl (by kernel_rfl) (by decide) (fun K hK => ?_)
        have HPl := Lib.hid (HPz.out.ref.below (HB5.out.trans (below_alloc (Below.refl _ w5) (.cells #[.string nm, .int .i64 l0, .int .i64 t0, .int .i64 (CW : Int), .int .i64 (CH : Int), .slice B5 xs.length d5, .int .i64 (x), .int .i64 (y), .int .i64 (cw), .int .i64 (ch)] 91) |>.mono HB5.out.size)))
        refine append_at_step kRe (W := w5.alloc (.cells #[.string nm, .int .i64 l0, .int .i64 t0, .int .i64 (CW : Int), .int .i64 (CH : Int), .slice B5 xs.length d5, .int .i64 (x), .int .i64 (y), .int .i64 (cw), .int .i64 (ch)] 91)) 0 (by rfl) (.tmp 108) (.tmp 114) 80 91 zRe 104 rfl undRe infoRe rfl (show 0 < 10 by omega) (by omega) (.slice Az nz kz) (X.drop d) (⟨⟨nm, ⟨l0, t0, (CW : Int), (CH : Int), xs⟩, ⟨x, y, cw, ch⟩⟩, B5, d5⟩ : Re) (#[.string nm, .int .i64 l0, .int .i64 t0, .int .i64 (CW : Int), .int .i64 (CH : Int), .slice B5 xs.length d5, .int .i64 (x), .int .i64 (y), .int .i64 (cw), .int .i64 (ch)] : Array Value).toList w5.heap.size (fun _ => True) (fun _ => False) rfl rfl rfl (fun _ hk => hk.elim) (fun _ _ => trivial) (blk_new w5 _) HPl.out.row (Nat.zero_le _) (by have h1 := HXL.out; rw [List.length_drop]; omega) ?_
        intro v9 w9 ho9 hg9 hat9
        refine hK.out _ _ ?_
        clear hK K
        refine norm_ (a' := ?_) ?_ ?_
        rotate_left
        · show Act.put _ (some 115) _ = _
          simp only [Act.put, List.setIfInBounds_toArray, List.set_cons_zero, List.set_cons_succ, i64_w, i32_w]
          rfl
        refine pure_ (i := 12) (N := some 116) (v := ?_) (a' := ?_) #[true, true, true, true, true, true, true, true, true, true, true, true, true, false, false] rfl rfl (by kernel_rfl) (fun _ _ _ h => h) (Or.inl ⟨by rfl, ?_⟩) ?_ ?_
        rotate_left
        · intro w'
          go_simp
          with_reducible rfl
        rotate_left
        · simp only [Act.put, List.setIfInBounds_toArray, List.set_cons_zero, List.set_cons_succ, i64_w, i32_w]
          rfl
        refine pure_ (i := 13) (N := some 117) (v := ?_) (a' := ?_) #[true, true, true, true, true, true, true, true, true, true, true, true, true, true, false] rfl rfl (by kernel_rfl) (fun _ _ _ h => h) (Or.inl ⟨by rfl, ?_⟩) ?_ ?_
        rotate_left
        · intro w'
          go_simp
          with_reducible rfl
        rotate_left
        · simp only [Act.put, List.setIfInBounds_toArray, List.set_cons_zero, List.set_cons_succ, i64_w, i32_w]
          rfl
        refine last_ (i := 14) (N := none) #[true, true, true, true, true, true, true, true, true, true, true, true, true, true, true] rfl rfl (by kernel_rfl) (by decide) (fun K hK => ?_)
        obtain ⟨A9, k9, rfl⟩ := Kd.R_slice ho9
        have g29 : w9.heap[g]? = some _ := (hg9.block g (lt_of_blk HPl.out.cell) (fun e => own_g HPl.out e.symm)).trans HPl.out.cell
        have c29 := ckA g29 2 _ rfl
        have f29 := free_of_one g29 2
        refine skip_ (w1 := ?_) (by rfl) rfl ?_ ?_
        rotate_left
        · go_simp
          rfl
        refine hK.out _ _ ?_
        clear hK K
        refine done_ (by kernel_rfl) ?_
        clear hHeld s0 s1 s2 s3 s4 s5 s6 s7 s8 s9
        go_wp2
        clear c29 f29 g29
        go_ret2
        have hlt := HPz.out.lt
        have hsz := HPz.out.size
        obtain ⟨Q9, hI9, hQ9, hS9⟩ := HPz.out.ref.push (w5 := w5.alloc (.cells #[.string nm, .int .i64 l0, .int .i64 t0, .int .i64 (CW : Int), .int .i64 (CH : Int), .slice B5 xs.length d5, .int .i64 (x), .int .i64 (y), .int .i64 (cw), .int .i64 (ch)] 91)) (HB5.out.trans (below_alloc (Below.refl _ w5) _ |>.mono HB5.out.size)) (⟨⟨nm, ⟨l0, t0, (CW : Int), (CH : Int), xs⟩, ⟨x, y, cw, ch⟩⟩, B5, d5⟩ : Re) (Kd.C_below (Ru_C HR5.out) (below_alloc (Below.refl _ w5) _)) (Kd.R_reads' HR5.out).2.1 (fun ad had => by
          have had : B5 = some ad := had
          subst had
          have h1 := Ru_own HR5.out
          have h2 := Ru_lt HR5.out h1
          exact ⟨h2.1, by simp; omega⟩) ho9 hg9 hat9
        simp only [List.length_append, List.length_singleton, List.length_drop] at hI9 hS9
        refine ⟨_, d, ⟨x, y, cw, ch⟩, B5, d5, _, Q9, rfl, HPz.out.le, .inr ⟨HC0.out, HPL.out⟩, HPz.out.none_, hI9, fun k hk => ?_, ?_, ?_⟩
        · rcases hQ9 k hk with h | h
          · rcases HPz.out.gr k h with h | h
            · exact .inl h
            · exact .inr (by omega)
          · exact .inr (by omega)
        · refine ((Step.of_below HBW.out Q).trans HPz.out.st (fun k e => ?_)).trans hS9 (fun k e => ?_)
          · rcases e with e | e
            · exact .inl e
            · exact .inr (by omega)
          · rcases HPz.out.gr k e with h | h
            · exact .inl h
            · exact .inr (by omega)
        · have hRu := Rs_own HPz.out.row (fun k hk => hS9.1.2 k (Kd.R_lt HPz.out.row k hk) (HPz.out.own k hk))
          refine Kd.R_lower (Kd.R_mono (ok' := fun k => ¬ Q9 k) (Kd.R_tight rfl hRu) (fun k hk hq => ?_)) (by omega)
          rcases hQ9 k hq with h | h
          · exact HPz.out.own k hk.symm h
          · have := Kd.R_lt HPz.out.row k hk.symm
            omega
      | none =>
        have hdl : d < X.length := by
          rcases Nat.lt_or_ge d X.length with h1 | h1
          · exact h1
          · have h2 := HCW.out
            rw [List.drop_eq_nil_of_le (by rw [List.length_map]; exact h1), placeP_nil (by omega) (by omega)] at hp
            cases hp
        obtain ⟨z, hzX, hdr, htr⟩ := drop_cons hdl
        have HPL := Lib.hid hp
        have HDL := Lib.hid hdl
        have HTR := Lib.hid (show (((X.map Re.e).take d).map En.nm) ++ [z.e.nm] = ((X.map Re.e).take (d + 1)).map En.nm from by
          rw [← List.map_take, ← List.map_take, htr, List.map_append, List.map_append]
          rfl)
        have HTL := Lib.hid (show (((X.map Re.e).take d).map En.nm).length = d from by rw [List.length_map, List.length_take, List.length_map]; omega)
        obtain ⟨nz, hnz⟩ : ∃ n, n = (X.drop d).length := ⟨_, rfl⟩
        have HNZ := Lib.hid (show 0 < nz ∧ nz = (X.drop d).length ∧ (X.drop (d + 1)).length = nz - 1 ∧ (X.drop d).drop 1 = X.drop (d + 1) from by
          rw [hnz, List.length_drop, List.length_drop, List.drop_drop]
          exact ⟨by omega, rfl, by omega, rfl⟩)
        obtain ⟨Az, kz, hvz, hrz⟩ := row_re HP.out.ref.row
        obtain ⟨ga, rfl, _, hcl⟩ := hrz (by rw [← hnz]; exact HNZ.out.1)
        rw [← hnz] at hvz
        subst hvz
        have hkz : nz ≤ kz := (Kd.R_reads' HP.out.ref.row).2.1
        obtain ⟨Ac, hcut, hcutC⟩ := cutRe (some ⟨ga, 0, none⟩) nz kz HNZ.out.1 hkz
        have HCUT := Lib.hid hcutC
        have hz0 : wr.cell? ⟨ga, 0, none⟩ = some (.string z.e.nm) := hcl 0 z (by rw [hdr]; rfl) 0 _ rfl
        have HGA := Lib.hid (World.block_lt_of_cell? _ _ hz0)
        have HZ0 := Lib.hid hz0
        have i1 : ((0 : Int) < (nz : Int)) = True := eq_true (by have := HNZ.out.1; omega)
        have i2 : (0 < nz) = True := eq_true HNZ.out.1
        have HRC := Lib.hid (Kd.R_reads' HP.out.ref.row).2.2
        clear hp hdl hdr htr hnz hrz hcl hcutC hz0 hzX hkz
        go_wp2_with (first
          | (go_at_call 43
             refine (refPlace_none HP.out.ref HXD.out HCW.out.1 HCW.out.2.1 HSD.out CW CH HCW.out.2.2.1 HCW.out.2.2.2 ?hp_).mono ?_
             (case hp_ => rw [HDM.out]; exact HPL.out)
             rintro e w1 ⟨rfl, hb1⟩
             have hbz := hb1.trans (below_alloc (Below.refl _ w1) (.cells #[.int .i64 0, .int .i64 0, .int .i64 0, .int .i64 0] 43) |>.mono hb1.size)
             have hP1 := HP.out.below hbz
             have y2 := ckA hP1.ref.cell 2 _ rfl
             have y0 := (hbz.cell HGA.out).trans HZ0.out
             have HP1 := Lib.hid hP1
             have HB1 := Lib.hid hbz
             clear hb1 hP1 hbz)
          | ((with_reducible refine gate_builtin (b := .append) (xs := #[.tmp 84, .tmp 92]) rfl ?_); at_builtin
             go_loud (refine Kd.R_append Kd.string (w0 := w1.alloc (.cells #[.int .i64 0, .int .i64 0, .int .i64 0, .int .i64 0] 43)) (W := w1.alloc (.cells #[.int .i64 0, .int .i64 0, .int .i64 0, .int .i64 0] 43)) (ba + 1) rfl (.tmp 84) (.tmp 92) 46 9 (.string ⟨#[]⟩) 16 rfl undSs infoS rfl (by decide) (by omega) u9 (((X.map Re.e).take d).map En.nm) z.e.nm [.string z.e.nm] (fun _ => True) (fun _ => False) rfl ?aX rfl (fun _ hk => hk.elim) (fun _ _ => trivial) HP1.out.row (Below.refl _ _) HP1.out.size ?aL ?_)
             go_loud (case aX => rw [size1 w1]; rfl)
             go_loud (case aL => rw [HTL.out]; have h1 := HXL.out; have h2 := HDL.out; omega)
             intro u9' w9 ho9 hb9 hg9 hat9
             obtain ⟨hI9, _, _, _, _⟩ := HP1.out.rows hg9 hb9 ho9 hat9
             have y29 := ckA hI9.cell 2 _ rfl
             have HI9 := Lib.hid hI9
             have HO9 := Lib.hid ho9
             have HB9 := Lib.hid hb9
             have HG9 := Lib.hid hg9
             have HA9 := Lib.hid hat9
             clear ho9 hb9 hg9 hat9 hI9 y0 y2)
          | ((with_reducible refine gate_dst (N := 95) rfl ?_); refine Kd.R_lit kRe w9.heap.size 91 ?hg (N := 95) ?hd (w0 := w9) (xs := ([] : List Re)) (inner := []) (ok := fun _ => True) (okp := fun _ => True) ?hr ?hp (fun _ hk => hk) trivial (Below.refl _ _) (Nat.le_refl _) (by simp) ?_; (case hd => rfl); (case hg => rfl); (case hr => first | (go_simp; done) | (go_simp; rfl)); (case hp => exact (Reps.none _ _)); intro v95 w95 ho95 hb95 hg_ hnew_; have HO95 := Lib.hid ho95; have HB95 := Lib.hid hb95; have y295 := ckA (blk_below HI9.out.cell hb95) 2 _ rfl; clear hg_ hnew_ ho95 hb95 y29)
          | ((with_reducible refine gate_builtin (b := .append) (xs := #[.tmp 95, .tmp 100]) rfl ?_); at_builtin; go_loud (refine Kd.R_append_rows kRe (w0 := w9) w9.heap.size rfl (.tmp 95) (.tmp 100) 80 91 zRe 104 rfl undRe infoRe rfl (show 0 < 10 by omega) (by omega) v95 [] (X.drop (d + 1)) Ac (nz - 1) (kz - 1) (fun _ => True) (fun _ => False) rfl rfl ?aO ?aR (fun _ _ h => h) (fun _ h => h.elim) ?aF ?aB ?aS ?aL ?_); (case aR => exact Kd.C_below (CutRe_C HCUT.out HNZ.out HI9.out) HB95.out); (case aB => exact HB95.out); (case aF => exact fun _ _ => trivial); (case aO => exact HO95.out); (case aS => exact HB95.out.size); (case aL => have h1 := HXL.out; have h2 := HNZ.out.2.1; rw [List.length_drop] at h2; simp; omega); intro v11 w11 ho11 hb11 hg11 hat11; simp only [List.nil_append] at ho11; obtain ⟨A11, k11, rfl⟩ := Kd.R_slice ho11; have hgc := blk_below HI9.out.cell hb11; have y211 := ckA hgc 2 _ rfl; have f211 := free_of_one hgc 2; have HO11 := Lib.hid ho11; have HB11 := Lib.hid hb11; clear ho11 hb11 hg11 hat11 hgc y295))
        go_roundg kd
        case measure => omega
        case rel =>
          obtain ⟨Q'', hP⟩ := HP1.out.next HG9.out HB9.out (by rw [← HTR.out]; exact HO9.out) HA9.out HB11.out HO11.out HPL.out HDL.out
          have h1 := HK.out
          have h2 := HDL.out
          simp only [List.length_drop] at hP
          exact ⟨d + 1, _, Q'', hP, by omega⟩
end Go.Proofs.Ytoleencecfjcjaa.At

/- The reference's atlas, by its entries. -/
set_option linter.unusedVariables false
set_option linter.unusedSimpArgs false
namespace Go.Proofs.Ytoleencecfjcjaa.At
open Go.RowKit Go.Proofs.YtoleencecfjcjaaW.PrintWords Go.Proofs.YtoleencecfjcjaaW.PrintLast Go.Proofs.YtoleencecfjcjaaW.PrintMore Go.Proofs.Ytoleencecfjcjaa.Rng
theorem right_nonneg {l0 t0 w0 h0 : Int} {xs : List Int} (e2' : rightB ⟨l0, t0, w0, h0, xs⟩ = true) : 0 ≤ w0 ∧ 0 ≤ h0 := by
  by_cases e5 : 1 ≤ w0
  · have := right_some e2' e5
    simp only at this
    omega
  · have h1 : w0 = 0 ∨ w0 < 0 := by omega
    rcases h1 with rfl | h1
    · have h2 := congrArg Bm.h (right_none e2' rfl)
      have h2 : h0 = 0 := h2
      omega
    · have h2 := e2'
      unfold rightB at h2
      rw [Bool.or_eq_true] at h2
      rcases h2 with h2 | h2
      · have h3 := congrArg Bm.w ((sameB_iff _ _).1 h2)
        have h3 : w0 = 0 := h3
        omega
      · rw [Bool.and_eq_true] at h2
        have h3 := of_decide_eq_true h2.1
        simp only at h3
        omega
theorem Inv.sml {W H : Nat} {X : List Re} (h : Inv W H (X.map Re.e)) (hW : W ≤ 128) (hH : H ≤ 128) : ∀ x ∈ X, Sml x.e.r := fun x hx => by
  obtain ⟨X1, Y1, W1, H1, hr, hbw, hbh, h1, h2, h3, h4, _⟩ := h.dims (List.mem_map.2 ⟨x, hx, rfl⟩)
  rw [hr]
  unfold Sml
  simp only
  omega
theorem Inv.rows64 {W H : Nat} {X : List Re} (h : Inv W H (X.map Re.e)) : ∀ x ∈ X, x.e.b.rows.length ≤ 1000 := fun x hx => by
  obtain ⟨X1, Y1, W1, H1, hr, hbw, hbh, h1, h2, h3, h4, h5, h6, _⟩ := h.dims (List.mem_map.2 ⟨x, hx, rfl⟩)
  omega
theorem refNames_at {w : World} {g W H : Nat} {L : List En} {Q : Nat → Prop} (h : RefS w g W H L Q) (hL : L.length ≤ 90000) : Calls Try.prog 23 #[.pointer (some ⟨g, 0, none⟩)] w fun e w' => ∃ u, e = .returned u ∧ Kd.R Kd.string 9 w' w.heap.size (fun _ => True) u (L.map En.nm) ∧ Below w.heap.size w w' := by
  obtain ⟨X, v, h, rfl⟩ := h
  rw [List.length_map] at hL
  exact refNames_c h (by omega)
theorem refRect_at {w : World} {g W H : Nat} {L : List En} {Q : Nat → Prop} (h : RefS w g W H L Q) (hL : L.length ≤ 90000) (nm : ByteArray) : Calls Try.prog 17 #[.pointer (some ⟨g, 0, none⟩), .string nm] w fun e w' => e = .returned (.tuple #[rcV (rectP L nm).1, .bool (rectP L nm).2]) ∧ Below w.heap.size w w' := by
  obtain ⟨X, v, h, rfl⟩ := h
  rw [List.length_map] at hL
  exact refRect_c h (by omega) nm
theorem refGet_at {w : World} {g W H : Nat} {L : List En} {Q : Nat → Prop} (h : RefS w g W H L Q) (hI : Inv W H L) (hL : L.length ≤ 90000) (nm : ByteArray) : Calls Try.prog 14 #[.pointer (some ⟨g, 0, none⟩), .string nm] w fun e w' => ∃ u Q', e = .returned (.tuple #[.agg #[.int .i64 (getB L nm).1.l, .int .i64 (getB L nm).1.t, .int .i64 (getB L nm).1.w, .int .i64 (getB L nm).1.h, u], .bool (getB L nm).2]) ∧ Kd.R (Kd.int .u64) 92 w' w.heap.size (fun k => ¬ Q' k) u (getB L nm).1.rows ∧ RefS w' g W H (useP L nm) Q' ∧ (∀ k, Q' k → Q k ∨ w.heap.size ≤ k) ∧ Step Q w w' := by
  obtain ⟨X, v, h, rfl⟩ := h
  rw [List.length_map] at hL
  refine (refGet_c h (by omega) hI.names hI.rows64 nm).mono ?_
  rintro e w' ⟨u, X', v', Q', rfl, hR, h', hX, hq, hs⟩
  exact ⟨u, Q', rfl, hR, ⟨X', v', h', hX⟩, hq, hs⟩
theorem refPut_at {w : World} {g W H : Nat} {L : List En} {Q : Nat → Prop} (h : RefS w g W H L Q) (hI : Inv W H L) (hW : 1 ≤ W ∧ W ≤ 128) (hH : H ≤ 128) (hL : L.length ≤ 90000) (nm : ByteArray) (l0 t0 w0 h0 : Int) (A : Option Addr) (cA : Nat) (xs : List Int) (hC : Kd.C (Kd.int .u64) w A xs.length xs) (hA : ∀ ad, A = some ad → ¬ Q ad.block ∧ ad.block < w.heap.size) (hca : xs.length ≤ cA) (hn : xs.length ≤ 1000) (hr : ∀ x ∈ xs, 0 ≤ x ∧ x ≤ 18446744073709551615) :
    Calls Try.prog 20 #[.pointer (some ⟨g, 0, none⟩), .string nm, .agg #[.int .i64 l0, .int .i64 t0, .int .i64 w0, .int .i64 h0, .slice A xs.length cA]] w fun e w' => ∃ u Q', e = .returned (.tuple #[u, .int .i64 (putP W H L nm ⟨l0, t0, w0, h0, xs⟩).2.1]) ∧ Kd.R Kd.string 9 w' w.heap.size (fun k => ¬ Q' k) u (putP W H L nm ⟨l0, t0, w0, h0, xs⟩).1 ∧ RefS w' g W H (putP W H L nm ⟨l0, t0, w0, h0, xs⟩).2.2 Q' ∧ (∀ k, Q' k → Q k ∨ w.heap.size ≤ k) ∧ Step Q w w' := by
  have hs0 := h
  obtain ⟨X, v, h, rfl⟩ := h
  rw [List.length_map] at hL
  have c0 : w.cell? ⟨g, 0, none⟩ = some (.int .i64 (W : Int)) := ckA h.cell 0 _ rfl
  have same : ∀ {w' : World}, Below w.heap.size w w' → RefS w' g W H (X.map Re.e) Q ∧ Step Q w w' := fun hb => ⟨hs0.below hb, Step.of_below hb _⟩
  by_cases e1 : nm.size = 0
  · have hnm : nm = ⟨#[]⟩ := by
      apply ByteArray.ext
      exact Array.eq_empty_of_size_eq_zero e1
    subst hnm
    refine (refPut_empty hW.1 c0 l0 t0 w0 h0 A xs.length cA).mono ?_
    rintro e w' ⟨rfl, hb⟩
    unfold putP
    rw [if_pos (.inl e1)]
    exact ⟨_, Q, rfl, Kd.R_nil _ _ _ _ _, (same hb).1, fun k hk => .inl hk, (same hb).2⟩
  · by_cases e2 : rightB ⟨l0, t0, w0, h0, xs⟩ = false
    · refine (refPut_wrong hW.1 c0 nm l0 t0 w0 h0 A xs.length cA xs e1 hC hn hr e2).mono ?_
      rintro e w' ⟨rfl, hb⟩
      unfold putP
      rw [if_pos (.inr e2)]
      exact ⟨_, Q, rfl, Kd.R_nil _ _ _ _ _, (same hb).1, fun k hk => .inl hk, (same hb).2⟩
    · have e2' : rightB ⟨l0, t0, w0, h0, xs⟩ = true := by simpa using e2
      unfold putP
      rw [if_neg (by rintro (h | h) <;> contradiction)]
      rcases idx_get (X.map Re.e) nm with ⟨i1, e3⟩ | ⟨j, e, i1, i2, e3, i4⟩
      · rw [e3]
        unfold addP
        by_cases e4 : (W : Int) < w0 ∨ (H : Int) < h0
        · refine (refPut_full h hW.1 (by omega) nm i1 l0 t0 w0 h0 A xs.length cA xs e1 hC hn hr e2' e4).mono ?_
          rintro e w' ⟨rfl, hb⟩
          dsimp only
          rw [if_pos e4]
          exact ⟨_, Q, rfl, Kd.R_nil _ _ _ _ _, (same hb).1, fun k hk => .inl hk, (same hb).2⟩
        · have hw0 : 0 ≤ w0 ∧ 0 ≤ h0 := right_nonneg e2'
          obtain ⟨CW, rfl⟩ := Int.eq_ofNat_of_zero_le hw0.1
          obtain ⟨CH, rfl⟩ := Int.eq_ofNat_of_zero_le hw0.2
          refine (refPut_new h hW hH hL (hI.sml hW.2 hH) nm i1 l0 t0 CW CH A cA xs e1 hC hA hca hn hr e2' (by omega) (by omega)).mono ?_
          rintro e w' ⟨u, d, c, B, dd, v', Q', rfl, hd, hF, hnone, hR, hgr, hst, hrow⟩
          dsimp only
          rw [if_neg e4]
          by_cases e5 : (CW : Int) = 0
          · rw [if_pos e5]
            rcases hF with ⟨h1, rfl, rfl⟩ | ⟨h1, _⟩
            · exact ⟨u, Q', rfl, hrow, ⟨_, v', hR, by simp⟩, hgr, hst⟩
            · omega
          · rw [if_neg e5]
            rcases hF with ⟨h1, _⟩ | ⟨h1, h2⟩
            · omega
            · rw [fitL_at (W := W) (H := H) (w := CW) (h := CH) (by omega) (by omega) (X.map Re.e) d c (by rw [List.length_map]; exact hd) hnone h2]
              exact ⟨u, Q', rfl, hrow, ⟨_, v', hR, by simp [List.map_drop]⟩, hgr, hst⟩
      · rw [e3]
        have hnm : e.nm = nm := (nmEq_iff _ _).1 i4
        rw [List.getElem?_map] at i2
        obtain ⟨x, hx, rfl⟩ := Option.map_eq_some_iff.1 i2
        refine (refPut_hit h hW.1 (by omega) hI.rows64 hx nm i1 l0 t0 w0 h0 A xs.length cA xs e1 hC hn hr e2').mono ?_
        rintro e w' (⟨e4, rfl, hb⟩ | ⟨e4, rfl, v', Q', hR, hgr, hst⟩)
        · dsimp only
          rw [if_neg (by rw [e4]; exact Bool.false_ne_true)]
          exact ⟨_, Q, rfl, Kd.R_nil _ _ _ _ _, (same hb).1, fun k hk => .inl hk, (same hb).2⟩
        · dsimp only
          rw [if_pos e4]
          refine ⟨_, Q', rfl, Kd.R_nil _ _ _ _ _, ⟨_, v', hR, ?_⟩, hgr, hst⟩
          rw [← hnm] at e3 ⊢
          exact use_list hI.names hx e3
end Go.Proofs.Ytoleencecfjcjaa.At

