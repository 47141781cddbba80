/- Several texts of this claim, one behind the other: AuG, AuH, AuI, AuJ, AuK, AuL. -/
import Derived.Test.YtoleencecfjcjaaMgC
/- Put: what it refuses at once. -/
set_option linter.unusedVariables false
set_option linter.unusedSimpArgs false
namespace Go.Proofs.Ytoleencecfjcjaa.At
open Go.RowKit Go.Proofs.YtoleencecfjcjaaW.PrintWords Go.Proofs.YtoleencecfjcjaaW.PrintLast Go.Proofs.YtoleencecfjcjaaW.PrintMore Go.Proofs.Ytoleencecfjcjaa.Rng
set_option maxRecDepth 100000 in
set_option maxHeartbeats 4000000 in
theorem Put_empty (l t wd h : Int) (A : Option Addr) (n cA g W : Nat) (w : World) (hW : 1 ≤ W) (hg : w.cell? ⟨g, 0, none⟩ = some (.int .i64 (W : Int))) : Calls Try.prog 18 #[.pointer (some ⟨g, 0, none⟩), .string ⟨#[]⟩, .agg #[.int .i64 l, .int .i64 t, .int .i64 wd, .int .i64 h, .slice A n cA]] w fun e w' => e = .returned (.tuple #[.slice none 0 0, .int .i64 1]) ∧ Below w.heap.size w w' := by
  have h0 := (cell_alloc (o := .cells #[.int .i64 l, .int .i64 t, .int .i64 wd, .int .i64 h, .slice A n cA] 38) (World.block_lt_of_cell? _ _ hg)).trans hg
  have e0 : ((W : Int) == 0) = false := beq_eq_false_iff_ne.2 (by omega)
  clear hg hW
  go_enter Try.func18, Try.ntmps18
  go_wp2
  go_ret2
  exact ⟨rfl, below_alloc (Below.refl _ _) _⟩
theorem nm_ne {nm : ByteArray} (h : nm.size ≠ 0) : nm.toList.isEmpty = false := by
  cases e : nm.toList with
  | nil => exact absurd (congrArg ByteArray.size (ext_of_toList (a := nm) (b := ⟨#[]⟩) (by rw [e, toList_data])))  h
  | cons x l => rfl
set_option maxRecDepth 100000 in
set_option maxHeartbeats 4000000 in
theorem Put_wrong (nm : ByteArray) (l t wd h : Int) (A : Option Addr) (n cA g W : Nat) (xs : List Int) (w : World) (hnm : nm.size ≠ 0) (hW : 1 ≤ W) (hg : w.cell? ⟨g, 0, none⟩ = some (.int .i64 (W : Int))) (hx : Kd.C (Kd.int .u64) w A n xs) (hn : n ≤ 1000) (hr : ∀ x ∈ xs, 0 ≤ x ∧ x ≤ 18446744073709551615) (hb : rightB ⟨l, t, wd, h, xs⟩ = false) : Calls Try.prog 18 #[.pointer (some ⟨g, 0, none⟩), .string nm, .agg #[.int .i64 l, .int .i64 t, .int .i64 wd, .int .i64 h, .slice A n cA]] w fun e w' => e = .returned (.tuple #[.slice none 0 0, .int .i64 1]) ∧ Below w.heap.size w w' := by
  have h0 := (cell_alloc (o := .cells #[.int .i64 l, .int .i64 t, .int .i64 wd, .int .i64 h, .slice A n cA] 38) (World.block_lt_of_cell? _ _ hg)).trans hg
  have e0 : ((W : Int) == 0) = false := beq_eq_false_iff_ne.2 (by omega)
  have e1 := nm_ne hnm
  have HX := Lib.hid hx
  have HN := Lib.hid hn
  have HR := Lib.hid hr
  have HB := Lib.hid hb
  clear hg hW hnm hx hn hr hb
  go_enter Try.func18, Try.ntmps18
  go_wp2_with (go_at_call 37; with_reducible refine (Right_c l t wd h A n cA xs _ (Kd.C_below HX.out (below_alloc (Below.refl _ _) _)) HN.out HR.out).mono ?_; rintro e wx ⟨rfl, hbx⟩; have HBX := Lib.hid hbx; rw [HB.out]; clear hbx)
  go_ret2
  exact ⟨rfl, (below_alloc (Below.refl _ _) _).trans (HBX.out.mono (by simp))⟩
end Go.Proofs.Ytoleencecfjcjaa.At

/- Put: bitmaps that are too large; names that are there. -/
set_option linter.unusedVariables false
set_option linter.unusedSimpArgs false
namespace Go.Proofs.Ytoleencecfjcjaa.At
open Go.RowKit Go.Proofs.YtoleencecfjcjaaW.PrintWords Go.Proofs.YtoleencecfjcjaaW.PrintLast Go.Proofs.YtoleencecfjcjaaW.PrintMore Go.Proofs.Ytoleencecfjcjaa.Rng
set_option maxRecDepth 100000 in
set_option maxHeartbeats 4000000 in
theorem Put_full (nm : ByteArray) (l t wd h : Int) (A : Option Addr) (n cA g W H : Nat) (xs : List Int) {c2 c3 m c5 : Value} (w : World) (hnm : nm.size ≠ 0) (hW : 1 ≤ W) (hg : w.heap[g]? = some (.cells #[.int .i64 (W : Int), .int .i64 (H : Int), c2, c3, m, c5] 64 (0, 0))) (hx : Kd.C (Kd.int .u64) w A n xs) (hn : n ≤ 1000) (hr : ∀ x ∈ xs, 0 ≤ x ∧ x ≤ 18446744073709551615) (hb : rightB ⟨l, t, wd, h, xs⟩ = true) (hbig : (W : Int) < wd ∨ (H : Int) < h)
    (hl : ∀ V, Below w.heap.size w V → (Instr.lookup 62 m (.string nm) true).run Try.prog V = .ok (.tuple #[.pointer none, .bool false]) V) :
    Calls Try.prog 18 #[.pointer (some ⟨g, 0, none⟩), .string nm, .agg #[.int .i64 l, .int .i64 t, .int .i64 wd, .int .i64 h, .slice A n cA]] w fun e w' => e = .returned (.tuple #[.slice none 0 0, .int .i64 50]) ∧ Below w.heap.size w w' := by
  have h0 := (cell_alloc (o := .cells #[.int .i64 l, .int .i64 t, .int .i64 wd, .int .i64 h, .slice A n cA] 38) (lt_of_blk hg)).trans (ckA hg 0 _ rfl)
  have e0 : ((W : Int) == 0) = false := beq_eq_false_iff_ne.2 (by omega)
  have e1 := nm_ne hnm
  have HX := Lib.hid hx
  have HN := Lib.hid hn
  have HR := Lib.hid hr
  have HB := Lib.hid hb
  have HG := Lib.hid hg
  have HL := Lib.hid hl
  have HBG := Lib.hid hbig
  have HBX0 := Lib.hid (blk_new w (.cells #[.int .i64 l, .int .i64 t, .int .i64 wd, .int .i64 h, .slice A n cA] 38))
  clear hg hW hnm hx hn hr hb hl hbig
  go_enter Try.func18, Try.ntmps18
  go_upto_region 9 with (go_at_call 37; with_reducible refine (Right_c l t wd h A n cA xs _ (Kd.C_below HX.out (below_alloc (Below.refl _ _) _)) HN.out HR.out).mono ?_; rintro e wx ⟨rfl, hbx⟩; have HBX := Lib.hid hbx; have HB3 := Lib.hid ((below_alloc (Below.refl _ _) _).trans (hbx.mono (by simp)) : Below w.heap.size w wx); have HXX := Lib.hid (blk_below HBX0.out hbx); have hq := HL.out wx HB3.out; have g4 := ckA (blk_below HG.out HB3.out) 4 _ rfl; rw [HB.out]; clear hbx)
  have x0 : wx.drew.cell? ⟨w.heap.size, 2, none⟩ = some (.int .i64 wd) := ckA HXX.out 2 _ rfl
  have x1 : wx.drew.cell? ⟨w.heap.size, 3, none⟩ = some (.int .i64 h) := ckA HXX.out 3 _ rfl
  have x2 : wx.drew.cell? ⟨g, 0, none⟩ = some (.int .i64 (W : Int)) := ckA (blk_below HG.out HB3.out) 0 _ rfl
  have x3 : wx.drew.cell? ⟨g, 1, none⟩ = some (.int .i64 (H : Int)) := ckA (blk_below HG.out HB3.out) 1 _ rfl
  by_cases c0 : (W : Int) < wd
  · have d0 : decide ((W : Int) < wd) = true := decide_eq_true c0
    clear c0 h0 e0 e1 hq g4
    refine start_ (n := 16) (S := fun w' => w'.cell? ⟨w.heap.size, 2, none⟩ = some (.int .i64 wd) ∧ w'.cell? ⟨w.heap.size, 3, none⟩ = some (.int .i64 h) ∧ w'.cell? ⟨g, 0, none⟩ = some (.int .i64 (W : Int)) ∧ w'.cell? ⟨g, 1, none⟩ = some (.int .i64 (H : Int))) (ds := []) #[false, false, false, false, false, false, false, false, false, false, false, false, false, false, false, false] (by kernel_rfl) rfl rfl ⟨x0, x1, x2, x3⟩ (fun hHeld => ?_)
    refine pure_ (i := 0) (N := some 53) (v := ?_) (a' := ?_) #[true, false, false, false, false, false, false, false, false, false, false, false, false, false, false, false] rfl rfl (by kernel_rfl) (fun _ _ _ h => h) (Or.inl ⟨by rfl, ?_⟩) ?_ ?_
    rotate_left
    · intro w'
      go_simp
      with_reducible rfl
    rotate_left
    · simp only [Act.put, List.setIfInBounds_toArray, List.set_cons_zero, List.set_cons_succ, i64_w, i32_w]
      rfl
    refine pure_ (i := 2) (N := some 55) (v := ?_) (a' := ?_) #[true, false, true, false, false, false, false, false, false, false, false, false, false, false, false, false] rfl rfl (by kernel_rfl) (fun _ _ _ h => h) (Or.inl ⟨by rfl, ?_⟩) ?_ ?_
    rotate_left
    · intro w'
      go_simp
      with_reducible rfl
    rotate_left
    · simp only [Act.put, List.setIfInBounds_toArray, List.set_cons_zero, List.set_cons_succ, i64_w, i32_w]
      rfl
    refine pure_ (i := 3) (N := some 56) (v := ?_) (a' := ?_) #[true, false, true, true, false, false, false, false, false, false, false, false, false, false, false, false] rfl rfl (by kernel_rfl) (fun _ _ _ h => h) (Or.inl ⟨by rfl, ?_⟩) ?_ ?_
    rotate_left
    · intro w'
      go_simp
      with_reducible rfl
    rotate_left
    · simp only [Act.put, List.setIfInBounds_toArray, List.set_cons_zero, List.set_cons_succ, i64_w, i32_w]
      rfl
    refine pure_ (i := 4) (N := some 57) (v := ?_) (a' := ?_) #[true, false, true, true, true, false, false, false, false, false, false, false, false, false, false, false] rfl rfl (by kernel_rfl) (fun _ _ _ h => h) (Or.inl ⟨by rfl, ?_⟩) ?_ ?_
    rotate_left
    · intro w'
      go_simp
      with_reducible rfl
    rotate_left
    · simp only [Act.put, List.setIfInBounds_toArray, List.set_cons_zero, List.set_cons_succ, i64_w, i32_w]
      rfl
    refine take_ (i := 1) (N := some 54) (v := ?_) (a' := ?_) #[true, true, true, true, true, false, false, false, false, false, false, false, false, false, false, false] rfl rfl (by kernel_rfl) (fun _ _ _ h => h) (Or.inl ⟨by rfl, ?_⟩) hHeld ?_ ?_
    rotate_left
    · rintro w' ⟨s0, s1, s2, s3⟩
      go_simp
      with_reducible rfl
    rotate_left
    · simp only [Act.put, List.setIfInBounds_toArray, List.set_cons_zero, List.set_cons_succ, i64_w, i32_w]
      rfl
    refine take_ (i := 5) (N := some 58) (v := ?_) (a' := ?_) #[true, true, true, true, true, true, false, false, false, false, false, false, false, false, false, false] rfl rfl (by kernel_rfl) (fun _ _ _ h => h) (Or.inl ⟨by rfl, ?_⟩) hHeld ?_ ?_
    rotate_left
    · rintro w' ⟨s0, s1, s2, s3⟩
      go_simp
      with_reducible rfl
    rotate_left
    · simp only [Act.put, List.setIfInBounds_toArray, List.set_cons_zero, List.set_cons_succ, i64_w, i32_w]
      rfl
    refine pure_ (i := 6) (N := some 59) (v := ?_) (a' := ?_) #[true, true, true, true, true, true, true, false, false, false, false, false, false, false, false, false] rfl rfl (by kernel_rfl) (fun _ _ _ h => h) (Or.inl ⟨by rfl, ?_⟩) ?_ ?_
    rotate_left
    · intro w'
      go_simp
      with_reducible rfl
    rotate_left
    · simp only [Act.put, List.setIfInBounds_toArray, List.set_cons_zero, List.set_cons_succ, i64_w, i32_w]
      rfl
    refine pure_ (i := 7) (N := some 60) (v := ?_) (a' := ?_) #[true, true, true, true, true, true, true, true, false, false, false, false, false, false, false, false] rfl rfl (by kernel_rfl) (fun _ _ _ h => h) (Or.inl ⟨by rfl, ?_⟩) ?_ ?_
    rotate_left
    · intro w'
      go_simp
      with_reducible rfl
    rotate_left
    · simp only [Act.put, List.setIfInBounds_toArray, List.set_cons_zero, List.set_cons_succ, i64_w, i32_w]
      rfl
    refine pure_ (i := 8) (N := some 61) (v := undef) (a' := ?_) #[true, true, true, true, true, true, true, true, true, false, false, false, false, false, false, false] rfl rfl (by kernel_rfl) (fun _ _ _ h => h) (Or.inr ⟨by rfl, rfl⟩) ?_ ?_
    rotate_left
    · simp only [Act.put, List.setIfInBounds_toArray, List.set_cons_zero, List.set_cons_succ, i64_w, i32_w]
      rfl
    refine pure_ (i := 9) (N := some 62) (v := undef) (a' := ?_) #[true, true, true, true, true, true, true, true, true, true, false, false, false, false, false, false] rfl rfl (by kernel_rfl) (fun _ _ _ h => h) (Or.inr ⟨by rfl, rfl⟩) ?_ ?_
    rotate_left
    · simp only [Act.put, List.setIfInBounds_toArray, List.set_cons_zero, List.set_cons_succ, i64_w, i32_w]
      rfl
    refine pure_ (i := 10) (N := some 63) (v := undef) (a' := ?_) #[true, true, true, true, true, true, true, true, true, true, true, false, false, false, false, false] rfl rfl (by kernel_rfl) (fun _ _ _ h => h) (Or.inr ⟨by rfl, rfl⟩) ?_ ?_
    rotate_left
    · simp only [Act.put, List.setIfInBounds_toArray, List.set_cons_zero, List.set_cons_succ, i64_w, i32_w]
      rfl
    refine pure_ (i := 11) (N := some 64) (v := undef) (a' := ?_) #[true, true, true, true, true, true, true, true, true, true, true, true, false, false, false, false] rfl rfl (by kernel_rfl) (fun _ _ _ h => h) (Or.inr ⟨by rfl, rfl⟩) ?_ ?_
    rotate_left
    · simp only [Act.put, List.setIfInBounds_toArray, List.set_cons_zero, List.set_cons_succ, i64_w, i32_w]
      rfl
    refine pure_ (i := 12) (N := some 65) (v := undef) (a' := ?_) #[true, true, true, true, true, true, true, true, true, true, true, true, true, false, false, false] rfl rfl (by kernel_rfl) (fun _ _ _ h => h) (Or.inr ⟨by rfl, rfl⟩) ?_ ?_
    rotate_left
    · simp only [Act.put, List.setIfInBounds_toArray, List.set_cons_zero, List.set_cons_succ, i64_w, i32_w]
      rfl
    refine pure_ (i := 13) (N := some 66) (v := undef) (a' := ?_) #[true, true, true, true, true, true, true, true, true, true, true, true, true, true, false, false] rfl rfl (by kernel_rfl) (fun _ _ _ h => h) (Or.inr ⟨by rfl, rfl⟩) ?_ ?_
    rotate_left
    · simp only [Act.put, List.setIfInBounds_toArray, List.set_cons_zero, List.set_cons_succ, i64_w, i32_w]
      rfl
    refine pure_ (i := 14) (N := some 67) (v := undef) (a' := ?_) #[true, true, true, true, true, true, true, true, true, true, true, true, true, true, true, false] rfl rfl (by kernel_rfl) (fun _ _ _ h => h) (Or.inr ⟨by rfl, rfl⟩) ?_ ?_
    rotate_left
    · simp only [Act.put, List.setIfInBounds_toArray, List.set_cons_zero, List.set_cons_succ, i64_w, i32_w]
      rfl
    refine pure_ (i := 15) (N := some 68) (v := ?_) (a' := ?_) #[true, true, true, true, true, true, true, true, true, true, true, true, true, true, true, true] rfl rfl (by kernel_rfl) (fun _ _ _ h => h) (Or.inl ⟨by rfl, ?_⟩) ?_ ?_
    rotate_left
    · intro w'
      go_simp
      with_reducible rfl
    rotate_left
    · simp only [Act.put, List.setIfInBounds_toArray, List.set_cons_zero, List.set_cons_succ, i64_w, i32_w]
      rfl
    refine done_ (by kernel_rfl) ?_
    go_wp2
    go_ret2
    exact ⟨rfl, HB3.out.drew⟩
  · have d0 : decide ((W : Int) < wd) = false := decide_eq_false c0
    have d1 : decide ((H : Int) < h) = true := decide_eq_true (by rcases HBG.out with h | h; exact absurd h c0; exact h)
    clear c0 h0 e0 e1 hq g4
    refine start_ (n := 16) (S := fun w' => w'.cell? ⟨w.heap.size, 2, none⟩ = some (.int .i64 wd) ∧ w'.cell? ⟨w.heap.size, 3, none⟩ = some (.int .i64 h) ∧ w'.cell? ⟨g, 0, none⟩ = some (.int .i64 (W : Int)) ∧ w'.cell? ⟨g, 1, none⟩ = some (.int .i64 (H : Int))) (ds := []) #[false, false, false, false, false, false, false, false, false, false, false, false, false, false, false, false] (by kernel_rfl) rfl rfl ⟨x0, x1, x2, x3⟩ (fun hHeld => ?_)
    refine pure_ (i := 0) (N := some 53) (v := ?_) (a' := ?_) #[true, false, false, false, false, false, false, false, false, false, false, false, false, false, false, false] rfl rfl (by kernel_rfl) (fun _ _ _ h => h) (Or.inl ⟨by rfl, ?_⟩) ?_ ?_
    rotate_left
    · intro w'
      go_simp
      with_reducible rfl
    rotate_left
    · simp only [Act.put, List.setIfInBounds_toArray, List.set_cons_zero, List.set_cons_succ, i64_w, i32_w]
      rfl
    refine pure_ (i := 2) (N := some 55) (v := ?_) (a' := ?_) #[true, false, true, false, false, false, false, false, false, false, false, false, false, false, false, false] rfl rfl (by kernel_rfl) (fun _ _ _ h => h) (Or.inl ⟨by rfl, ?_⟩) ?_ ?_
    rotate_left
    · intro w'
      go_simp
      with_reducible rfl
    rotate_left
    · simp only [Act.put, List.setIfInBounds_toArray, List.set_cons_zero, List.set_cons_succ, i64_w, i32_w]
      rfl
    refine pure_ (i := 3) (N := some 56) (v := ?_) (a' := ?_) #[true, false, true, true, false, false, false, false, false, false, false, false, false, false, false, false] rfl rfl (by kernel_rfl) (fun _ _ _ h => h) (Or.inl ⟨by rfl, ?_⟩) ?_ ?_
    rotate_left
    · intro w'
      go_simp
      with_reducible rfl
    rotate_left
    · simp only [Act.put, List.setIfInBounds_toArray, List.set_cons_zero, List.set_cons_succ, i64_w, i32_w]
      rfl
    refine pure_ (i := 4) (N := some 57) (v := ?_) (a' := ?_) #[true, false, true, true, true, false, false, false, false, false, false, false, false, false, false, false] rfl rfl (by kernel_rfl) (fun _ _ _ h => h) (Or.inl ⟨by rfl, ?_⟩) ?_ ?_
    rotate_left
    · intro w'
      go_simp
      with_reducible rfl
    rotate_left
    · simp only [Act.put, List.setIfInBounds_toArray, List.set_cons_zero, List.set_cons_succ, i64_w, i32_w]
      rfl
    refine take_ (i := 1) (N := some 54) (v := ?_) (a' := ?_) #[true, true, true, true, true, false, false, false, false, false, false, false, false, false, false, false] rfl rfl (by kernel_rfl) (fun _ _ _ h => h) (Or.inl ⟨by rfl, ?_⟩) hHeld ?_ ?_
    rotate_left
    · rintro w' ⟨s0, s1, s2, s3⟩
      go_simp
      with_reducible rfl
    rotate_left
    · simp only [Act.put, List.setIfInBounds_toArray, List.set_cons_zero, List.set_cons_succ, i64_w, i32_w]
      rfl
    refine take_ (i := 5) (N := some 58) (v := ?_) (a' := ?_) #[true, true, true, true, true, true, false, false, false, false, false, false, false, false, false, false] rfl rfl (by kernel_rfl) (fun _ _ _ h => h) (Or.inl ⟨by rfl, ?_⟩) hHeld ?_ ?_
    rotate_left
    · rintro w' ⟨s0, s1, s2, s3⟩
      go_simp
      with_reducible rfl
    rotate_left
    · simp only [Act.put, List.setIfInBounds_toArray, List.set_cons_zero, List.set_cons_succ, i64_w, i32_w]
      rfl
    refine pure_ (i := 6) (N := some 59) (v := ?_) (a' := ?_) #[true, true, true, true, true, true, true, false, false, false, false, false, false, false, false, false] rfl rfl (by kernel_rfl) (fun _ _ _ h => h) (Or.inl ⟨by rfl, ?_⟩) ?_ ?_
    rotate_left
    · intro w'
      go_simp
      with_reducible rfl
    rotate_left
    · simp only [Act.put, List.setIfInBounds_toArray, List.set_cons_zero, List.set_cons_succ, i64_w, i32_w]
      rfl
    refine pure_ (i := 7) (N := some 60) (v := ?_) (a' := ?_) #[true, true, true, true, true, true, true, true, false, false, false, false, false, false, false, false] rfl rfl (by kernel_rfl) (fun _ _ _ h => h) (Or.inl ⟨by rfl, ?_⟩) ?_ ?_
    rotate_left
    · intro w'
      go_simp
      with_reducible rfl
    rotate_left
    · simp only [Act.put, List.setIfInBounds_toArray, List.set_cons_zero, List.set_cons_succ, i64_w, i32_w]
      rfl
    refine pure_ (i := 8) (N := some 61) (v := ?_) (a' := ?_) #[true, true, true, true, true, true, true, true, true, false, false, false, false, false, false, false] rfl rfl (by kernel_rfl) (fun _ _ _ h => h) (Or.inl ⟨by rfl, ?_⟩) ?_ ?_
    rotate_left
    · intro w'
      go_simp
      with_reducible rfl
    rotate_left
    · simp only [Act.put, List.setIfInBounds_toArray, List.set_cons_zero, List.set_cons_succ, i64_w, i32_w]
      rfl
    refine pure_ (i := 10) (N := some 63) (v := ?_) (a' := ?_) #[true, true, true, true, true, true, true, true, true, false, true, false, false, false, false, false] rfl rfl (by kernel_rfl) (fun _ _ _ h => h) (Or.inl ⟨by rfl, ?_⟩) ?_ ?_
    rotate_left
    · intro w'
      go_simp
      with_reducible rfl
    rotate_left
    · simp only [Act.put, List.setIfInBounds_toArray, List.set_cons_zero, List.set_cons_succ, i64_w, i32_w]
      rfl
    refine pure_ (i := 11) (N := some 64) (v := ?_) (a' := ?_) #[true, true, true, true, true, true, true, true, true, false, true, true, false, false, false, false] rfl rfl (by kernel_rfl) (fun _ _ _ h => h) (Or.inl ⟨by rfl, ?_⟩) ?_ ?_
    rotate_left
    · intro w'
      go_simp
      with_reducible rfl
    rotate_left
    · simp only [Act.put, List.setIfInBounds_toArray, List.set_cons_zero, List.set_cons_succ, i64_w, i32_w]
      rfl
    refine pure_ (i := 12) (N := some 65) (v := ?_) (a' := ?_) #[true, true, true, true, true, true, true, true, true, false, true, true, true, false, false, false] rfl rfl (by kernel_rfl) (fun _ _ _ h => h) (Or.inl ⟨by rfl, ?_⟩) ?_ ?_
    rotate_left
    · intro w'
      go_simp
      with_reducible rfl
    rotate_left
    · simp only [Act.put, List.setIfInBounds_toArray, List.set_cons_zero, List.set_cons_succ, i64_w, i32_w]
      rfl
    refine take_ (i := 9) (N := some 62) (v := ?_) (a' := ?_) #[true, true, true, true, true, true, true, true, true, true, true, true, true, false, false, false] rfl rfl (by kernel_rfl) (fun _ _ _ h => h) (Or.inl ⟨by rfl, ?_⟩) hHeld ?_ ?_
    rotate_left
    · rintro w' ⟨s0, s1, s2, s3⟩
      go_simp
      with_reducible rfl
    rotate_left
    · simp only [Act.put, List.setIfInBounds_toArray, List.set_cons_zero, List.set_cons_succ, i64_w, i32_w]
      rfl
    refine take_ (i := 13) (N := some 66) (v := ?_) (a' := ?_) #[true, true, true, true, true, true, true, true, true, true, true, true, true, true, false, false] rfl rfl (by kernel_rfl) (fun _ _ _ h => h) (Or.inl ⟨by rfl, ?_⟩) hHeld ?_ ?_
    rotate_left
    · rintro w' ⟨s0, s1, s2, s3⟩
      go_simp
      with_reducible rfl
    rotate_left
    · simp only [Act.put, List.setIfInBounds_toArray, List.set_cons_zero, List.set_cons_succ, i64_w, i32_w]
      rfl
    refine pure_ (i := 14) (N := some 67) (v := ?_) (a' := ?_) #[true, true, true, true, true, true, true, true, true, true, true, true, true, true, true, false] rfl rfl (by kernel_rfl) (fun _ _ _ h => h) (Or.inl ⟨by rfl, ?_⟩) ?_ ?_
    rotate_left
    · intro w'
      go_simp
      with_reducible rfl
    rotate_left
    · simp only [Act.put, List.setIfInBounds_toArray, List.set_cons_zero, List.set_cons_succ, i64_w, i32_w]
      rfl
    refine pure_ (i := 15) (N := some 68) (v := ?_) (a' := ?_) #[true, true, true, true, true, true, true, true, true, true, true, true, true, true, true, true] rfl rfl (by kernel_rfl) (fun _ _ _ h => h) (Or.inl ⟨by rfl, ?_⟩) ?_ ?_
    rotate_left
    · intro w'
      go_simp
      with_reducible rfl
    rotate_left
    · simp only [Act.put, List.setIfInBounds_toArray, List.set_cons_zero, List.set_cons_succ, i64_w, i32_w]
      rfl
    refine done_ (by kernel_rfl) ?_
    go_wp2
    go_ret2
    exact ⟨rfl, HB3.out.drew⟩
end Go.Proofs.Ytoleencecfjcjaa.At

/- Put of a name that is there. -/
set_option linter.unusedVariables false
set_option linter.unusedSimpArgs false
namespace Go.Proofs.Ytoleencecfjcjaa.At
open Go.RowKit Go.Proofs.YtoleencecfjcjaaW.PrintWords Go.Proofs.YtoleencecfjcjaaW.PrintLast Go.Proofs.YtoleencecfjcjaaW.PrintMore Go.Proofs.Ytoleencecfjcjaa.Rng
theorem Ru_C {w : World} {base : Nat} {A : Option Addr} {n c : Nat} {xs : List Int} (h : Kd.R (Kd.int .u64) 92 w base (fun _ => True) (.slice A n c) xs) : Kd.C (Kd.int .u64) w A n xs := by
  obtain ⟨A', c', e⟩ := Kd.R_slice h
  injection e with e1 e2 e3
  subst e1
  subst e2
  exact (Kd.R_reads' h).2.2
theorem Ru_len {w : World} {base : Nat} {A : Option Addr} {n c : Nat} {xs : List Int} (h : Kd.R (Kd.int .u64) 92 w base (fun _ => True) (.slice A n c) xs) (hl : xs.length ≤ 64) : n ≤ 1000 := by
  obtain ⟨A', c', e⟩ := Kd.R_slice h
  injection e with e1 e2 e3
  omega
set_option maxRecDepth 100000 in
set_option maxHeartbeats 8000000 in
theorem Put_hit {w : World} {g W H N : Nat} {l : List Ex} {gp gt b cp ct clk : Nat} {PX TK : List Nat} {px tk : Nat → Nat → Bool} {es : Array MapEntry} {mc : Nat} (h : AtI w g W H N l gp gt b cp ct clk PX TK px tk es mc) (hN : N ≤ 900000) {x : Ex} (hx : x ∈ l) (hnm : x.e.nm.size ≠ 0) (l0 t0 w0 h0 : Int) (A : Option Addr) (n cA : Nat) (xs : List Int) (hxs : Kd.C (Kd.int .u64) w A n xs) (hn : n ≤ 1000) (hr : ∀ x ∈ xs, 0 ≤ x ∧ x ≤ 18446744073709551615) (hb : rightB ⟨l0, t0, w0, h0, xs⟩ = true) :
    Calls Try.prog 18 #[.pointer (some ⟨g, 0, none⟩), .string x.e.nm, .agg #[.int .i64 l0, .int .i64 t0, .int .i64 w0, .int .i64 h0, .slice A n cA]] w fun e w' => (sameB x.e.b ⟨l0, t0, w0, h0, xs⟩ = false ∧ e = .returned (.tuple #[.slice none 0 0, .int .i64 6]) ∧ Below w.heap.size w w') ∨
      (sameB x.e.b ⟨l0, t0, w0, h0, xs⟩ = true ∧ e = .returned (.tuple #[.slice none 0 0, .int .i64 0]) ∧ AtI w' g W H (N + 1) (bump l x (clk + 1)) gp gt b cp ct (clk + 1) PX TK px tk es mc ∧ Step (fun k => k = g ∨ k = x.p) w w') := by
  have hH := h.lp
  subst hH
  obtain ⟨X, Y, CW, CH, hr0, hbw, hbh, hc1, hc2, hx1, hy1, hcc, hrl, hrs⟩ := h.inv.dims (List.mem_map.2 ⟨x, hx, rfl⟩)
  have hpx : ∀ k q, x.e.b.rows[k]? = some q → ∀ i : Nat, i < CW → px (Y + k) (X + i) = q.toNat.testBit i := fun k q hk i hi => by
    have := h.pix x hx k q hk i (by rw [hr0]; exact Int.ofNat_lt.2 hi)
    rw [hr0] at this
    exact this
  have HW := Lib.hid h.hW.2
  have HHH := Lib.hid h.hH.2
  have HCW := Lib.hid hc1
  have HD := Lib.hid (show X + CW ≤ W ∧ Y + CH ≤ PX.length ∧ (CH = 0 ∨ 0 < CW) ∧ x.e.b.rows.length = CH from ⟨hx1, hy1, hcc, hrl⟩)
  have HD4 := Lib.hid (show x.e.b.rows.length ≤ 64 from by omega)
  have HPB := Lib.hid (pix_bits hrl hrs hpx)
  have HSB := Lib.hid (show sameB x.e.b ⟨l0, t0, w0, h0, xs⟩ = sameB ⟨x.e.b.l, x.e.b.t, (CW : Int), (CH : Int), x.e.b.rows⟩ ⟨l0, t0, w0, h0, xs⟩ from by rw [← hbw, ← hbh])
  have HR0 := Lib.hid hr0
  have hg0 := (cell_alloc (o := .cells #[.int .i64 l0, .int .i64 t0, .int .i64 w0, .int .i64 h0, .slice A n cA] 38) (lt_of_blk h.blk)).trans (ckA h.blk 0 _ rfl)
  have e0 : ((W : Int) == 0) = false := beq_eq_false_iff_ne.2 (by have := h.hW; omega)
  have e1 := nm_ne hnm
  have HI := Lib.hid h
  have HXM := Lib.hid hx
  have HX := Lib.hid hxs
  have HN := Lib.hid hn
  have HNN := Lib.hid hN
  have HR := Lib.hid hr
  have HB := Lib.hid hb
  have HBX0 := Lib.hid (blk_new w (.cells #[.int .i64 l0, .int .i64 t0, .int .i64 w0, .int .i64 h0, .slice A n cA] 38))
  clear h hx hnm hxs hn hr hb hN hr0 hbw hbh hc1 hc2 hx1 hy1 hcc hrl hrs hpx
  go_enter Try.func18, Try.ntmps18
  go_upto_region 5 with (go_at_call 37; with_reducible refine (Right_c l0 t0 w0 h0 A n cA xs _ (Kd.C_below HX.out (below_alloc (Below.refl _ _) _)) HN.out HR.out).mono ?_; rintro e wx ⟨rfl, hbx⟩; have HB3 := Lib.hid ((below_alloc (Below.refl _ _) _).trans (hbx.mono (by simp)) : Below w.heap.size w wx); have HXX := Lib.hid (blk_below HBX0.out hbx); have hI := HI.out.below HB3.out; have hq := hI.ents.look hI.map hI.len hI.inv.names HXM.out true; have g4 := ckA hI.blk 4 _ rfl; rw [HB.out]; clear hbx hI)
  have HIw := Lib.hid (HI.out.below HB3.out.drew)
  have HBw := Lib.hid HB3.out.drew
  have HXw := Lib.hid (Kd.C_below HX.out HB3.out.drew)
  have x0 : wx.drew.cell? ⟨w.heap.size, 0, none⟩ = some (.int .i64 l0) := ckA HXX.out 0 _ rfl
  have x1 : wx.drew.cell? ⟨w.heap.size, 1, none⟩ = some (.int .i64 t0) := ckA HXX.out 1 _ rfl
  have x2 : wx.drew.cell? ⟨w.heap.size, 2, none⟩ = some (.int .i64 w0) := ckA HXX.out 2 _ rfl
  have x3 : wx.drew.cell? ⟨w.heap.size, 3, none⟩ = some (.int .i64 h0) := ckA HXX.out 3 _ rfl
  have x4 : wx.drew.cell? ⟨w.heap.size, 4, none⟩ = some (.slice A n cA) := ckA HXX.out 4 _ rfl
  have HEw := Lib.hid (show wx.drew.heap[x.p]? = some (.cells #[.int .i64 x.e.b.l, .int .i64 x.e.b.t, .int .i64 (X : Int), .int .i64 (Y : Int), .int .i64 (CW : Int), .int .i64 (CH : Int), .int .i64 (x.us : Int)] 94 (0, 0)) from by
    have h1 := HIw.out.ent x HXM.out
    simp only [Ex.cells, HR0.out] at h1
    exact h1)
  clear hg0 e0 e1 hq g4
  refine start_ (n := 6) (S := fun w' => w'.cell? ⟨w.heap.size, 0, none⟩ = some (.int .i64 l0) ∧ w'.cell? ⟨w.heap.size, 1, none⟩ = some (.int .i64 t0) ∧ w'.cell? ⟨w.heap.size, 2, none⟩ = some (.int .i64 w0) ∧ w'.cell? ⟨w.heap.size, 3, none⟩ = some (.int .i64 h0) ∧ w'.cell? ⟨w.heap.size, 4, none⟩ = some (.slice A n cA)) (ds := []) #[false, false, false, false, false, false] (by kernel_rfl) rfl rfl ⟨x0, x1, x2, x3, x4⟩ (fun hHeld => ?_)
  generalize wx.drew = wd at HIw HXw HBw HEw x0 x1 x2 x3 x4 hHeld ⊢; have LX := Lib.hid (show w.heap.size < wd.heap.size from World.block_lt_of_cell? _ _ x0)
  refine pure_ (i := 0) (N := some 44) (v := ?_) (a' := ?_) #[true, false, false, false, false, false] rfl rfl (by kernel_rfl) (fun _ _ _ h => h) (Or.inl ⟨by rfl, ?_⟩) ?_ ?_
  rotate_left
  · intro w'
    go_simp
    with_reducible rfl
  rotate_left
  · simp only [Act.put, List.setIfInBounds_toArray, List.set_cons_zero, List.set_cons_succ, i64_w, i32_w]
    rfl
  refine pure_ (i := 1) (N := some 45) (v := ?_) (a' := ?_) #[true, true, false, false, false, false] rfl rfl (by kernel_rfl) (fun _ _ _ h => h) (Or.inl ⟨by rfl, ?_⟩) ?_ ?_
  rotate_left
  · intro w'
    go_simp
    with_reducible rfl
  rotate_left
  · simp only [Act.put, List.setIfInBounds_toArray, List.set_cons_zero, List.set_cons_succ, i64_w, i32_w]
    rfl
  refine take_ (i := 3) (N := some 47) (v := ?_) (a' := ?_) #[true, true, false, true, false, false] rfl rfl (by kernel_rfl) (fun _ _ _ h => h) (Or.inl ⟨by rfl, ?_⟩) hHeld ?_ ?_
  rotate_left
  · rintro w' ⟨s0, s1, s2, s3, s4⟩
    go_simp
    with_reducible rfl
  rotate_left
  · simp only [Act.put, List.setIfInBounds_toArray, List.set_cons_zero, List.set_cons_succ, i64_w, i32_w]
    rfl
  refine one_ (i := 2) (N := some 46) #[true, true, true, true, false, false] rfl rfl (by kernel_rfl) (by decide) (fun K hK => ?_)
  refine goes_ Try.func33 (by kernel_rfl) rfl #[.pointer (some ⟨g, 0, none⟩), .pointer (some ⟨x.p, 0, none⟩)] (by rfl) rfl rfl (by simp only [List.map_toArray, List.map_cons, List.map_nil]; rfl) ?_
  with_reducible refine (bitmap_c (w := wd) x.e.b.rows HW.out HCW.out HHH.out HD.out.1 HD.out.2.1 HD.out.2.2.1 HIw.out.blk HEw.out HIw.out.op HIw.out.bp HIw.out.rp HD.out.2.2.2 HPB.out).mono ?_
  rintro e w3 ⟨⟨v, rfl, hR⟩, hB⟩
  refine ⟨_, rfl, ?_⟩
  obtain ⟨n9, A9, c9, rfl⟩ := Ru_slice hR
  have HR9 := Lib.hid hR
  have HB9 := Lib.hid hB
  clear hR hB
  refine hK.out _ _ ⟨(HB9.out.cell LX.out).trans x0, (HB9.out.cell LX.out).trans x1, (HB9.out.cell LX.out).trans x2, (HB9.out.cell LX.out).trans x3, (HB9.out.cell LX.out).trans x4⟩ (fun hHeld => ?_)
  clear hK K
  refine norm_ (a' := ?_) ?_ ?_
  rotate_left
  · show Act.put _ (some 46) _ = _
    simp only [Act.put, List.setIfInBounds_toArray, List.set_cons_zero, List.set_cons_succ, i64_w, i32_w]
    rfl
  refine one_ (i := 4) (N := some 48) #[true, true, true, true, true, false] rfl rfl (by kernel_rfl) (by decide) (fun K hK => ?_)
  refine goes_ Try.func38 (by kernel_rfl) rfl #[(.agg #[.int .i64 x.e.b.l, .int .i64 x.e.b.t, .int .i64 (CW : Int), .int .i64 (CH : Int), .slice A9 n9 c9]), .agg #[.int .i64 l0, .int .i64 t0, .int .i64 w0, .int .i64 h0, .slice A n cA]] (by rfl) rfl rfl (by simp only [List.map_toArray, List.map_cons, List.map_nil]; rfl) ?_
  with_reducible refine (Same_c x.e.b.l x.e.b.t (CW : Int) (CH : Int) l0 t0 w0 h0 A9 A n9 n c9 cA x.e.b.rows xs w3 (Ru_C HR9.out) (Kd.C_below HXw.out HB9.out) (Ru_len HR9.out HD4.out) HN.out).mono ?_
  rintro e w4 ⟨rfl, hB⟩
  refine ⟨_, rfl, ?_⟩
  have HB10 := Lib.hid hB
  clear hB
  refine hK.out _ _ ⟨((HB9.out.trans (HB10.out.mono HB9.out.size)).cell LX.out).trans x0, ((HB9.out.trans (HB10.out.mono HB9.out.size)).cell LX.out).trans x1, ((HB9.out.trans (HB10.out.mono HB9.out.size)).cell LX.out).trans x2, ((HB9.out.trans (HB10.out.mono HB9.out.size)).cell LX.out).trans x3, ((HB9.out.trans (HB10.out.mono HB9.out.size)).cell LX.out).trans x4⟩ (fun hHeld => ?_)
  clear hK K
  refine norm_ (a' := ?_) ?_ ?_
  rotate_left
  · show Act.put _ (some 48) _ = _
    simp only [Act.put, List.setIfInBounds_toArray, List.set_cons_zero, List.set_cons_succ, i64_w, i32_w]
    rfl
  refine pure_ (i := 5) (N := some 49) (v := ?_) (a' := ?_) #[true, true, true, true, true, true] rfl rfl (by kernel_rfl) (fun _ _ _ h => h) (Or.inl ⟨by rfl, ?_⟩) ?_ ?_
  rotate_left
  · intro w'
    go_simp
    with_reducible rfl
  rotate_left
  · simp only [Act.put, List.setIfInBounds_toArray, List.set_cons_zero, List.set_cons_succ, i64_w, i32_w]
    rfl
  refine done_ (by kernel_rfl) ?_
  have HB11 := Lib.hid (HBw.out.trans ((HB9.out.trans (HB10.out.mono HB9.out.size)).mono HBw.out.size))
  have HI4 := Lib.hid (HI.out.below HB11.out)
  clear hHeld x0 x1 x2 x3 x4
  cases hsm : sameB ⟨x.e.b.l, x.e.b.t, (CW : Int), (CH : Int), x.e.b.rows⟩ ⟨l0, t0, w0, h0, xs⟩ with
  | false =>
    go_wp2
    go_ret2
    exact .inl ⟨HSB.out.trans hsm, rfl, HB11.out⟩
  | true =>
    have HE4 := Lib.hid (show w4.heap[x.p]? = some (.cells #[.int .i64 x.e.b.l, .int .i64 x.e.b.t, .int .i64 x.e.r.x, .int .i64 x.e.r.y, .int .i64 x.e.r.w, .int .i64 x.e.r.h, .int .i64 (x.us : Int)] 94 (0, 0)) from HI4.out.ent x HXM.out)
    have HC4 := Lib.hid (show clk ≤ 1000000 from by have h1 := HI4.out.clk; have h2 := HNN.out; omega)
    go_wp2_with (go_at_call 32; with_reducible refine (use_c HC4.out (HI4.out.ne.2.2.2.1 x HXM.out).1 HI4.out.blk HE4.out).mono ?_; rintro e w5 ⟨rfl, hg5, he5, hs5⟩; have HG5 := Lib.hid hg5; have HE5 := Lib.hid he5; have HS5 := Lib.hid hs5; clear hg5 he5 hs5)
    go_ret2
    exact .inr ⟨HSB.out.trans hsm, rfl, HI4.out.use HXM.out HG5.out HE5.out HS5.out, (Step.of_below HB11.out _).trans HS5.out (fun k e => .inl e)⟩
end Go.Proofs.Ytoleencecfjcjaa.At

/- Put of something new: what its steps leave. -/
set_option linter.unusedVariables false
set_option linter.unusedSimpArgs false
namespace Go.Proofs.Ytoleencecfjcjaa.At
open Go.RowKit Go.Proofs.YtoleencecfjcjaaW.PrintWords Go.Proofs.YtoleencecfjcjaaW.PrintLast Go.Proofs.YtoleencecfjcjaaW.PrintMore Go.Proofs.Ytoleencecfjcjaa.Rng
open Go.ChangeMaps (setBlock)
theorem fitL_at {W H w h : Int} (hw : w ≤ W) (hh : h ≤ H) : ∀ (l : List En) (d : Nat) (c : Rc), d ≤ l.length → (∀ k, k < d → placeP (l.drop k) W H w h = none) → placeP (l.drop d) W H w h = some c → fitL W H w h l = ((l.take d).map En.nm, l.drop d, c)
  | [], d, c, hd, h1, h2 => by
    obtain rfl : d = 0 := by simpa using hd
    rw [List.drop_zero, placeP_nil hw hh] at h2
    injection h2 with h2
    rw [← h2]
    rfl
  | e :: l, 0, c, hd, h1, h2 => by
    rw [List.drop_zero] at h2
    simp [fitL, h2]
  | e :: l, d + 1, c, hd, h1, h2 => by
    have h3 := h1 0 (Nat.zero_lt_succ _)
    rw [List.drop_zero] at h3
    have ih := fitL_at hw hh l d c (by simpa using hd) (fun k hk => h1 (k + 1) (by omega)) h2
    simp [fitL, h3, ih]
theorem AtI.fits {w : World} {g W H N : Nat} {l : List Ex} {gp gt b cp ct clk : Nat} {PX TK : List Nat} {px tk : Nat → Nat → Bool} {es : Array MapEntry} {mc : Nat} (h : AtI w g W H N l gp gt b cp ct clk PX TK px tk es mc) {CW CH : Nat} (hw : 1 ≤ CW) (hh : 1 ≤ CH) (x y : Nat) (h1 : x + CW ≤ W) (h2 : y + CH ≤ H) :
    free (l.map Ex.e) ⟨(x : Int), (y : Int), (CW : Int), (CH : Int)⟩ = true ↔ ∀ i, i < CH → anyB (tk (y + i)) x CW = false := by
  refine fits_iff (W := W) (H := H) (fun x1 y1 a1 a2 => ?_) (fun e he => ?_) hw hh h1 h2
  · rw [h.taken x1 y1 a1 a2, List.any_map]
    rfl
  · obtain ⟨X, Y, W1, H1, hr, hbw, hbh, _, _, _, _, hcc, hrl, _⟩ := h.inv.dims he
    rcases h.inv.rect e he with ⟨_, h4⟩ | ⟨h3, h4, h5, _⟩
    · exact .inl h4
    · obtain ⟨hb, _⟩ := h.inv.right e he
      have h6 := right_some hb h3
      exact .inr ⟨by omega, by omega⟩
theorem place_some {w : World} {g W H N : Nat} {l : List Ex} {gp gt b cp ct clk : Nat} {PX TK : List Nat} {px tk : Nat → Nat → Bool} {es : Array MapEntry} {mc : Nat} (h : AtI w g W H N l gp gt b cp ct clk PX TK px tk es mc) {CW CH : Nat} (hw : 1 ≤ CW ∧ CW ≤ W) (hh : 1 ≤ CH ∧ CH ≤ H) {x y cw ch : Int} (hp : placeP (l.map Ex.e) W H CW CH = some ⟨x, y, cw, ch⟩) :
    Calls Try.prog 39 #[.pointer (some ⟨g, 0, none⟩), .int .i64 (CW : Int), .int .i64 (CH : Int)] w fun e w' => e = .returned (.tuple #[.agg #[.int .i64 x, .int .i64 y, .int .i64 cw, .int .i64 ch], .bool true]) ∧ Below w.heap.size w w' := by
  have hH := h.lt
  subst hH
  refine (place_c (L := l.map Ex.e) h.hW.2 h.hH.2 hw.1 hh.1 hw.2 hh.2 h.blk h.ot h.bt h.rt (fun x y h1 h2 => h.fits hw.1 hh.1 x y h1 h2)).mono ?_
  rintro e w' ⟨⟨c, h1, rfl⟩ | ⟨h1, _⟩, h2⟩
  · rw [hp] at h1
    injection h1 with h1
    subst h1
    exact ⟨rfl, h2⟩
  · rw [hp] at h1
    cases h1
theorem place_none {w : World} {g W H N : Nat} {l : List Ex} {gp gt b cp ct clk : Nat} {PX TK : List Nat} {px tk : Nat → Nat → Bool} {es : Array MapEntry} {mc : Nat} (h : AtI w g W H N l gp gt b cp ct clk PX TK px tk es mc) {CW CH : Nat} (hw : 1 ≤ CW ∧ CW ≤ W) (hh : 1 ≤ CH ∧ CH ≤ H) (hp : placeP (l.map Ex.e) W H CW CH = none) :
    Calls Try.prog 39 #[.pointer (some ⟨g, 0, none⟩), .int .i64 (CW : Int), .int .i64 (CH : Int)] w fun e w' => e = .returned (.tuple #[.agg #[.int .i64 0, .int .i64 0, .int .i64 0, .int .i64 0], .bool false]) ∧ Below w.heap.size w w' := by
  have hH := h.lt
  subst hH
  refine (place_c (L := l.map Ex.e) h.hW.2 h.hH.2 hw.1 hh.1 hw.2 hh.2 h.blk h.ot h.bt h.rt (fun x y h1 h2 => h.fits hw.1 hh.1 x y h1 h2)).mono ?_
  rintro e w' ⟨⟨c, h1, rfl⟩ | ⟨_, rfl⟩, h2⟩
  · rw [hp] at h1
    cases h1
  · exact ⟨rfl, h2⟩
theorem Step.setBlock_ {w : World} {b : Nat} {o0 : Obj} (hb : w.heap[b]? = some o0) (o : Obj) : Step (fun k => k = b) w (setBlock w b o) := by
  obtain ⟨_, ho⟩ := heap_set hb o
  have hz : (setBlock w b o).heap.size = w.heap.size := by simp [ChangeMaps.setBlock]
  exact ⟨⟨by rw [hz]; exact Nat.le_refl _, fun i _ hi => ho i hi⟩, ⟨rfl, rfl, rfl, by rw [hz]; exact Nat.le_refl _, fun i hi => by omega⟩⟩
/-- The oldest is removed. -/
theorem AtI.gone {w w4 : World} {g W H N : Nat} {x : Ex} {l : List Ex} {gp gt b cp ct clk : Nat} {PX TK : List Nat} {px tk : Nat → Nat → Bool} {es : Array MapEntry} {mc : Nat} (h : AtI w g W H N (x :: l) gp gt b cp ct clk PX TK px tk es mc) {X Y CW CH : Nat} (hr : x.e.r = ⟨(X : Int), (Y : Int), (CW : Int), (CH : Int)⟩)
    (hT : Rows TK W (setR tk X Y CW CH (fun _ _ => false)) w4) (hs : Step (fun k => k ∈ TK) w w4) :
    ∃ w5, (∀ ty, (Builtin.delete_ #[62, 9] ty #[.map (some b), .string x.e.nm]).run Try.prog w4 = .ok (.tuple #[]) w5) ∧ (∃ tk' es', AtI w5 g W H N l gp gt b cp ct clk PX TK px tk' es' mc) ∧ Step (fun k => k = b) w4 w5 := by
  obtain ⟨⟨a1, a2, a3, a4, a5, a6⟩, a7, a8, a9, a10, a11, a12, a13, a14, a15⟩ := h.ne
  have hm4 : w4.heap[b]? = some (.map es mc) := hs.same h.map (fun e => (a8 b e).2.2.2 rfl)
  obtain ⟨j, m, hj, hk, hv⟩ := h.ents.hit (List.mem_cons_self : x ∈ x :: l)
  have hsb := Step.setBlock_ hm4 (.map (es.eraseIdxIfInBounds j) mc)
  refine ⟨setBlock w4 b (.map (es.eraseIdxIfInBounds j) mc), fun ty => run_delete_hit hm4 (h.ents.keysOk h.len) x.e.nm (h.len x List.mem_cons_self) j m hj hk (h.ents.pair h.inv.names) ty, ⟨_, _, h.pop hr hj hk hv (heap_set hm4 _).1 (hT.same (fun p hp => hsb.1.2 p ?_ (fun e => (a8 p hp).2.2.2 e))) ?_⟩, hsb⟩
  · obtain ⟨i, hi⟩ := List.getElem?_of_mem hp
    exact lt_of_blk (hT i p hi)
  · exact (hs.mono (fun k hk => .inl hk)).trans hsb (fun k e => .inl (.inr e))
/-- A row of numbers whose block is left alone stays. -/
theorem C_keep {k : IntKind} {w w1 : World} {A : Option Addr} {n : Nat} {xs : List Int} (h : Kd.C (Kd.int k) w A n xs) (hb : ∀ ad, A = some ad → ad.block < w.heap.size → w1.heap[ad.block]? = w.heap[ad.block]?) : Kd.C (Kd.int k) w1 A n xs := by
  obtain ⟨h1, h2, h3⟩ := h
  refine ⟨h1, h2, fun hn => ?_⟩
  obtain ⟨ad, rfl, hc⟩ := h3 hn
  refine ⟨ad, rfl, fun j p hp => ?_⟩
  obtain ⟨cs, a, b, c⟩ := hc j p hp
  refine ⟨cs, a, b, fun i u hu => ?_⟩
  have h4 := c i u hu
  have h5 : (ad.add (j * (Kd.int k).sz + i)).block = ad.block := by unfold Addr.add; split <;> rfl
  rw [← h4]
  exact cell_eq (by rw [h5]; exact hb ad rfl (h5 ▸ World.block_lt_of_cell? _ _ h4))
end Go.Proofs.Ytoleencecfjcjaa.At

/- Put of something new. -/
set_option linter.unusedVariables false
set_option linter.unusedSimpArgs false
namespace Go.Proofs.Ytoleencecfjcjaa.At
open Go.RowKit Go.Proofs.YtoleencecfjcjaaW.PrintWords Go.Proofs.YtoleencecfjcjaaW.PrintLast Go.Proofs.YtoleencecfjcjaaW.PrintMore Go.Proofs.Ytoleencecfjcjaa.Rng
open Go.ChangeMaps (setBlock)
attribute [local go_sem] Oper.semAt_some
theorem wpIn_noP {F : Fence} {n : Nat} {P : Program} {c : Code} {Q : Exit → Act → World → Prop} {a : Act} {w : World} (h : c.wpIn F n P (noP Q) a w) : c.wpIn F n P Q a w := wpIn_mono h (fun e a w h => by cases e <;> first | exact h | exact h.elim)
theorem Rs_keep {w w1 : World} {base : Nat} {v : Value} {xs : List ByteArray} (h : Kd.R Kd.string 9 w base (fun _ => True) v xs) (hm : ∀ k, base ≤ k → k < w.heap.size → w1.heap[k]? = w.heap[k]?) : Kd.R Kd.string 9 w1 base (fun _ => True) v xs :=
  Kd.R_mono (Kd.R_move (Kd.R_bound h) (fun k hk => hm k hk.2.1 hk.2.2.1)) (fun _ _ => trivial)
/-- What is there while the oldest ones are removed. -/
structure PutL (wA : World) (g W H N : Nat) (l : List Ex) (gp gt b cp ct clk : Nat) (PX TK : List Nat) (px : Nat → Nat → Bool) (mc bx ge : Nat) (bm : Array Value) (l0 t0 : Int) (CW CH : Nat) (d : Nat) (G : List ByteArray) (c : Rc) (v : Value) (wr : World) : Prop where
  at_ : ∃ tk es, AtI wr g W H N (l.drop d) gp gt b cp ct clk PX TK px tk es mc
  box : wr.heap[bx]? = some (.cells bm 38 (0, 0))
  ent : wr.heap[ge]? = some (.cells #[.int .i64 l0, .int .i64 t0, .int .i64 c.x, .int .i64 c.y, .int .i64 c.w, .int .i64 c.h, .int .i64 0] 94 (0, 0))
  row : Kd.R Kd.string 9 wr (ge + 1) (fun _ => True) v G
  st : Step (fun k => k ∈ TK ∨ k = b ∨ k = ge) wA wr
  lt : ge < wr.heap.size
  le : d ≤ l.length
  none_ : ∀ k, k < d → placeP ((l.map Ex.e).drop k) W H CW CH = none
  old : ∀ k ∈ blksOf g gp gt b PX TK l, k < bx
  bl : bx < ge
  za : wA.heap.size = ge + 1
/-- Where the new one lies. -/
def Fin (l : List Ex) (W H CW CH d : Nat) (c : Rc) : Prop := (CW = 0 ∧ d = 0 ∧ c = r0) ∨ (1 ≤ CW ∧ placeP ((l.map Ex.e).drop d) W H CW CH = some c)
theorem cell_set7 {w : World} {b : Nat} {a0 a1 a2 a3 a4 a5 a6 v2 v3 v4 v5 : Value} {T : TypeId} (h : w.heap[b]? = some (.cells #[a0, a1, a2, a3, a4, a5, a6] T (0, 0))) :
    ((((w.setCell ⟨b, 2, none⟩ v2).setCell ⟨b, 3, none⟩ v3).setCell ⟨b, 4, none⟩ v4).setCell ⟨b, 5, none⟩ v5).heap[b]? = some (.cells #[a0, a1, v2, v3, v4, v5, a6] T (0, 0)) := cell_setB (cell_setB (cell_setB (cell_setB h 2 v2) 3 v3) 4 v4) 5 v5
theorem step_set7 (w : World) (b : Nat) (v2 v3 v4 v5 : Value) : Step (fun k => k = b) w ((((w.setCell ⟨b, 2, none⟩ v2).setCell ⟨b, 3, none⟩ v3).setCell ⟨b, 4, none⟩ v4).setCell ⟨b, 5, none⟩ v5) :=
  (((((Step.refl (fun k => k = b) w).setCell (p := ⟨b, 2, none⟩) (.inl rfl) v2).setCell (p := ⟨b, 3, none⟩) (.inl rfl) v3).setCell (p := ⟨b, 4, none⟩) (.inl rfl) v4).setCell (p := ⟨b, 5, none⟩) (.inl rfl) v5)
section
variable {wA : World} {g W H N : Nat} {l : List Ex} {gp gt b cp ct clk : Nat} {PX TK : List Nat} {px : Nat → Nat → Bool} {mc bx ge : Nat} {bm : Array Value} {l0 t0 : Int} {CW CH : Nat} {d : Nat} {G : List ByteArray} {c : Rc} {v : Value} {wr : World}
theorem blks_drop {k : Nat} (hk : k ∈ blksOf g gp gt b PX TK (l.drop d)) : k ∈ blksOf g gp gt b PX TK l := by
  simp only [blksOf, List.mem_cons, List.mem_append, List.mem_map] at hk ⊢
  rcases hk with h | h | h | h | h | ⟨z, h, e⟩
  · exact .inl h
  · exact .inr (.inl h)
  · exact .inr (.inr (.inl h))
  · exact .inr (.inr (.inr (.inl h)))
  · exact .inr (.inr (.inr (.inr (.inl h))))
  · exact .inr (.inr (.inr (.inr (.inr ⟨z, List.mem_of_mem_drop h, e⟩))))
/-- The row of what is gone changes. -/
theorem PutL.rows {w1 : World} (h : PutL wA g W H N l gp gt b cp ct clk PX TK px mc bx ge bm l0 t0 CW CH d G c v wr) (hb : Below (ge + 1) wr w1) {v' : Value} {G' : List ByteArray} (hR : Kd.R Kd.string 9 w1 (ge + 1) (fun _ => True) v' G') : PutL wA g W H N l gp gt b cp ct clk PX TK px mc bx ge bm l0 t0 CW CH d G' c v' w1 := by
  obtain ⟨tk, es, hI⟩ := h.at_
  have hs : ∀ k, k ≤ ge → w1.heap[k]? = wr.heap[k]? := fun k hk => hb.block k (by omega)
  refine ⟨⟨tk, es, hI.keep (fun k hk => hs k (by have h1 := h.old k (blks_drop hk); have h2 := h.bl; omega)) hb.size⟩, (hs bx (Nat.le_of_lt h.bl)).trans h.box, (hs ge (Nat.le_refl _)).trans h.ent, hR, ⟨⟨Nat.le_trans h.st.size hb.size, fun i hi hn => ?_⟩, h.st.2.trans (hb.mono (Nat.zero_le _))⟩, Nat.lt_of_lt_of_le h.lt hb.size, h.le, h.none_, h.old, h.bl, h.za⟩
  have h1 := h.za
  exact (hs i (by omega)).trans (h.st.1.2 i hi hn)
/-- New blocks. -/
theorem PutL.below {w1 : World} (h : PutL wA g W H N l gp gt b cp ct clk PX TK px mc bx ge bm l0 t0 CW CH d G c v wr) (hb : Below wr.heap.size wr w1) : PutL wA g W H N l gp gt b cp ct clk PX TK px mc bx ge bm l0 t0 CW CH d G c v w1 := by
  obtain ⟨tk, es, hI⟩ := h.at_
  exact ⟨⟨tk, es, hI.below hb⟩, blk_below h.box hb, blk_below h.ent hb, Kd.R_below h.row hb, h.st.trans (Step.of_below hb (fun k => k ∈ TK ∨ k = b ∨ k = ge)) (fun k e => .inl e), Nat.lt_of_lt_of_le h.lt hb.size, h.le, h.none_, h.old, h.bl, h.za⟩
/-- The place is written into the entry. -/
theorem PutL.put {x y cw ch : Int} (h : PutL wA g W H N l gp gt b cp ct clk PX TK px mc bx ge bm l0 t0 CW CH d G c v wr) : PutL wA g W H N l gp gt b cp ct clk PX TK px mc bx ge bm l0 t0 CW CH d G ⟨x, y, cw, ch⟩ v ((((wr.setCell ⟨ge, 2, none⟩ (.int .i64 x)).setCell ⟨ge, 3, none⟩ (.int .i64 y)).setCell ⟨ge, 4, none⟩ (.int .i64 cw)).setCell ⟨ge, 5, none⟩ (.int .i64 ch)) := by
  obtain ⟨tk, es, hI⟩ := h.at_
  have hs := step_set7 wr ge (.int .i64 x) (.int .i64 y) (.int .i64 cw) (.int .i64 ch)
  exact ⟨⟨tk, es, hI.keep (fun k hk => hs.1.2 k (hI.in_ hk) (fun e => by have h1 := h.old k (blks_drop hk); have h2 := h.bl; omega)) hs.size⟩, hs.same h.box (fun e => by have := h.bl; omega), cell_set7 h.ent, Rs_keep h.row (fun k hk hlt => hs.1.2 k hlt (fun e => by omega)), h.st.trans (hs.mono (fun k e => .inr (.inr e))) (fun k e => .inl e), Nat.lt_of_lt_of_le h.lt hs.size, h.le, h.none_, h.old, h.bl, h.za⟩
/-- The oldest one is gone. -/
theorem PutL.next {w5 : World} (h : PutL wA g W H N l gp gt b cp ct clk PX TK px mc bx ge bm l0 t0 CW CH d G c v wr) (hd : d < l.length) (hp : placeP ((l.map Ex.e).drop d) W H CW CH = none) (hI : ∃ tk es, AtI w5 g W H N (l.drop (d + 1)) gp gt b cp ct clk PX TK px tk es mc) (hs : Step (fun k => k ∈ TK ∨ k = b) wr w5) : PutL wA g W H N l gp gt b cp ct clk PX TK px mc bx ge bm l0 t0 CW CH (d + 1) G c v w5 := by
  have ho : ∀ k, (k ∈ TK ∨ k = b) → k < bx := fun k hk => h.old k (by
    simp only [blksOf, List.mem_cons, List.mem_append]
    rcases hk with hk | hk
    · exact .inr (.inr (.inr (.inr (.inl (.inr hk)))))
    · exact .inr (.inr (.inr (.inl hk))))
  have hbl := h.bl
  refine ⟨hI, hs.same h.box (fun e => by have := ho _ e; omega), hs.same h.ent (fun e => by have := ho _ e; omega), Rs_keep h.row (fun k hk hlt => hs.1.2 k hlt (fun e => by have := ho _ e; omega)), h.st.trans (hs.mono (fun k e => by rcases e with e | e; exact .inl e; exact .inr (.inl e))) (fun k e => .inl e), Nat.lt_of_lt_of_le h.lt hs.size, hd, fun k hk => ?_, h.old, h.bl, h.za⟩
  rcases Nat.lt_succ_iff_lt_or_eq.1 hk with hk | rfl
  · exact h.none_ k hk
  · exact hp
end
theorem bit_eq (q : Int) (i : Nat) (h0 : 0 ≤ q) (hq : q.toNat < 2 ^ 64) (hi : i ≤ 64) : (bits .and .u64 (q / 2 ^ min i 64) 1 == 1) = q.toNat.testBit i := by
  obtain ⟨n, rfl⟩ := Int.eq_ofNat_of_zero_le h0
  rw [Int.toNat_natCast] at hq
  have e1 : ((n : Int) / 2 ^ min i 64) = ((n / 2 ^ i : Nat) : Int) := by
    rw [Nat.min_eq_left hi, Int.natCast_ediv, Int.natCast_pow]
    rfl
  have hm : n / 2 ^ i < 2 ^ 64 := Nat.lt_of_le_of_lt (Nat.div_le_self _ _) hq
  rw [e1, Int.toNat_natCast, Nat.testBit_eq_decide_div_mod_eq]
  generalize n / 2 ^ i = m at hm
  have e2 : bits .and .u64 (m : Int) 1 = ((m % 2 : Nat) : Int) := by
    have e3 : IntKind.u64.wrap ((m % 2 : Nat) : Int) = ((m % 2 : Nat) : Int) := by rw [IntKind.wrap_u64]; omega
    have e4 : (2 : Nat) ^ IntKind.u64.bits = 18446744073709551616 := rfl
    have e5 : (2 : Nat) ^ 64 = 18446744073709551616 := rfl
    simp [Go.bits]
    rw [show m % 2 ^ IntKind.u64.bits = m from Nat.mod_eq_of_lt (by omega), show 1 % 2 ^ IntKind.u64.bits = 1 from by rw [e4], Nat.and_one_is_mod]
    exact e3
  rw [e2, Bool.eq_iff_iff, beq_iff_eq, decide_eq_true_eq]
  omega
theorem mark_at {w : World} {g W H N : Nat} {l : List Ex} {gp gt b cp ct clk : Nat} {PX TK : List Nat} {px tk : Nat → Nat → Bool} {es : Array MapEntry} {mc : Nat} (h : AtI w g W H N l gp gt b cp ct clk PX TK px tk es mc) (bo : Bool) {X Y CW CH : Nat} (h1 : X + CW ≤ W) (h2 : Y + CH ≤ H) (h3 : CH = 0 ∨ 0 < CW) :
    Calls Try.prog 40 #[.pointer (some ⟨g, 0, none⟩), .agg #[.int .i64 (X : Int), .int .i64 (Y : Int), .int .i64 (CW : Int), .int .i64 (CH : Int)], .bool bo] w fun e w' => e = .returned (.tuple #[]) ∧ Rows TK W (setR tk X Y CW CH (fun _ _ => bo)) w' ∧ Step (fun k => k ∈ TK) w w' := by
  have hH := h.lt
  have hn := h.ne
  subst hH
  exact mark_c bo h.hW.2 h.hH.2 h1 h2 h3 h.blk h.ot h.bt h.rt hn.2.2.2.2.2.2.2.2.1 (fun e => (hn.2.2.1 g e).1 rfl) (fun e => (hn.2.2.1 gt e).2.2.1 rfl)
theorem Fin.dims {W H : Nat} {l : List Ex} {CW CH d : Nat} {c : Rc} (h : Fin l W H CW CH d c) (h0 : CW = 0 → CH = 0) : ∃ X Y : Nat, c = ⟨(X : Int), (Y : Int), (CW : Int), (CH : Int)⟩ ∧ X + CW ≤ W ∧ Y + CH ≤ H := by
  rcases h with ⟨h1, h2, h3⟩ | ⟨h1, h2⟩
  · refine ⟨0, 0, ?_, by omega, by rw [h0 h1]; omega⟩
    rw [h3, h1, h0 h1]
    rfl
  · obtain ⟨b1, b2, b3, b4, b5, b6, b7⟩ := placeP_some h2
    obtain ⟨x, y, cw, ch⟩ := c
    simp only at b1 b2 b3 b4 b5 b6
    refine ⟨x.toNat, y.toNat, ?_, by omega, by omega⟩
    congr 1 <;> omega
theorem str_row0 {w : World} {base : Nat} {ok : Nat → Prop} {v : Value} {s : ByteArray} {ss : List ByteArray} (h : Kd.R Kd.string 9 w base ok v (s :: ss)) : ∃ q cap, v = .slice (some ⟨q, 0, none⟩) (ss.length + 1) cap ∧ w.cell? ⟨q, 0, none⟩ = some (.string s) := by
  obtain ⟨_, inner, ⟨hlen, hv⟩, hreps⟩ := h
  rcases hv with ⟨rfl, h0⟩ | ⟨G, cap, cur, rfl, hG, hH, hcap, hmax, hsz, htake⟩
  · simp at h0
  · refine ⟨G, cap, rfl, ?_⟩
    have h1 : inner = (s :: ss).map (fun n => Value.string n) := reps1_get hreps
    have h2 : cur.toList[0]? = some (.string s) := by
      have h3 : (cur.toList.take ((s :: ss).length * Kd.string.sz))[0]? = some (.string s) := by rw [htake, h1]; rfl
      rw [List.getElem?_take] at h3
      split at h3
      · exact h3
      · cases h3
    exact ckA hH 0 _ (by simpa using h2)
theorem drop_cons {α : Type} {l : List α} {d : Nat} (h : d < l.length) : ∃ x, x ∈ l ∧ l.drop d = x :: l.drop (d + 1) ∧ l.take (d + 1) = l.take d ++ [x] := by
  refine ⟨l[d], List.getElem_mem h, List.drop_eq_getElem_cons h, ?_⟩
  rw [List.take_add_one, List.getElem?_eq_getElem h]
  rfl
set_option maxRecDepth 100000 in
set_option maxHeartbeats 16000000 in
theorem Put_new {w : World} {g W H N : Nat} {l : List Ex} {gp gt b cp ct clk : Nat} {PX TK : List Nat} {px tk : Nat → Nat → Bool} {es : Array MapEntry} {mc : Nat} (h : AtI w g W H N l gp gt b cp ct clk PX TK px tk es mc) (hN : N ≤ 900000) (nm : ByteArray) (hnm : nm.size ≠ 0) (hnl : nm.size ≤ 9223372036854775807) (hmiss : ∀ x ∈ l, nmEq x.e.nm nm = false) (l0 t0 : Int) (CW CH : Nat) (A : Option Addr) (n cA : Nat) (xs : List Int) (hxs : Kd.C (Kd.int .u64) w A n xs) (hA : ∀ ad, A = some ad → ad.block ∉ blksOf g gp gt b PX TK l) (hn : n ≤ 1000) (hr : ∀ x ∈ xs, 0 ≤ x ∧ x ≤ 18446744073709551615) (hb : rightB ⟨l0, t0, (CW : Int), (CH : Int), xs⟩ = true) (hcw : CW ≤ W) (hch : CH ≤ H) :
    Calls Try.prog 18 #[.pointer (some ⟨g, 0, none⟩), .string nm, .agg #[.int .i64 l0, .int .i64 t0, .int .i64 (CW : Int), .int .i64 (CH : Int), .slice A n cA]] w fun e w' => ∃ v d c, e = .returned (.tuple #[v, .int .i64 0]) ∧ Fin l W H CW CH d c ∧ d ≤ l.length ∧ (∀ k, k < d → placeP ((l.map Ex.e).drop k) W H CW CH = none) ∧
      (∃ pn px' tk' es' mc', AtI w' g W H (N + 1) (l.drop d ++ [⟨pn, ⟨nm, ⟨l0, t0, (CW : Int), (CH : Int), xs⟩, c⟩, clk + 1⟩]) gp gt b cp ct (clk + 1) PX TK px' tk' es' mc' ∧ w.heap.size ≤ pn ∧ Kd.R Kd.string 9 w' w.heap.size (fun k => k ≠ pn) v ((l.take d).map (fun x => x.e.nm))) ∧ Step (fun k => k ∈ blksOf g gp gt b PX TK l) w w' := by
  have h00 : CW = 0 → CH = 0 := fun e => by
    have h1 := right_none hb (by rw [e]; rfl)
    have h2 := congrArg Bm.h h1
    exact Int.ofNat_eq_zero.1 h2
  have hrs : xs.length = CH ∧ CW ≤ 64 ∧ (CW = 0 ∨ 1 ≤ CH) ∧ ∀ r ∈ xs, 0 ≤ r ∧ r.toNat < 2 ^ CW := by
    by_cases e : CW = 0
    · have h1 := right_none hb (by rw [e]; rfl)
      have h2 : xs = [] := congrArg Bm.rows h1
      subst h2
      exact ⟨(h00 e).symm, by omega, .inl e, fun r hr => by cases hr⟩
    · obtain ⟨a1, a2, a3, a4, a5⟩ := right_some hb (show 1 ≤ (CW : Int) by omega)
      simp only at a1 a2 a3 a4 a5
      refine ⟨by omega, by omega, .inr (by omega), fun r hr' => ⟨(hr r hr').1, ?_⟩⟩
      have b1 := (hr r hr').1
      have b2 := a5 r hr'
      rw [Int.toNat_natCast] at b2
      have : ((r.toNat : Nat) : Int) < ((2 ^ CW : Nat) : Int) := by
        rw [Int.toNat_of_nonneg b1, Int.natCast_pow]
        exact b2
      exact Int.ofNat_lt.1 this
  obtain ⟨bx, hbx⟩ : ∃ bx, bx = w.heap.size := ⟨_, rfl⟩
  have hg0 := (cell_alloc (o := .cells #[.int .i64 l0, .int .i64 t0, .int .i64 (CW : Int), .int .i64 (CH : Int), .slice A n cA] 38) (lt_of_blk h.blk)).trans (ckA h.blk 0 _ rfl)
  have e0 : ((W : Int) == 0) = false := beq_eq_false_iff_ne.2 (by have := h.hW; omega)
  have e1 := nm_ne hnm
  have HI := Lib.hid h
  have HX := Lib.hid hxs
  have HN := Lib.hid hn
  have HNN := Lib.hid hN
  have HR := Lib.hid hr
  have HB := Lib.hid hb
  have HAB := Lib.hid hA
  have H00 := Lib.hid h00
  have HRS := Lib.hid hrs
  have HMS := Lib.hid hmiss
  have HNM := Lib.hid hnl
  have HCW := Lib.hid (show CW ≤ W ∧ CH ≤ H from ⟨hcw, hch⟩)
  have HBX0 := Lib.hid (blk_new w (.cells #[.int .i64 l0, .int .i64 t0, .int .i64 (CW : Int), .int .i64 (CH : Int), .slice A n cA] 38))
  have c0 : decide ((W : Int) < (CW : Int)) = false := decide_eq_false (by omega)
  have c2 : decide (W < CW) = false := decide_eq_false (by omega)
  have c3 : decide (H < CH) = false := decide_eq_false (by omega)
  have c1 : decide ((H : Int) < (CH : Int)) = false := decide_eq_false (by omega)
  clear h hnm hxs hn hr hb hN hA h00 hrs hmiss hnl hcw hch
  refine (callsIn_wide (n := 3)).1 ?_
  refine callsIn_of_wp_marks Try.func18 rfl trivial ?_ rfl
  refine wpIn_noP ?_
  refine wpIn_wide.2 ?_
  simp only [Try.ntmps18, List.size_toArray, List.length_cons, List.length_nil, Nat.reduceAdd, Nat.reduceSub, Array.replicate_succ, Array.replicate_zero, List.push_toArray, List.append_toArray, List.nil_append, List.cons_append]
  go_upto_region 9 with (go_at_call 37; with_reducible refine (Right_c l0 t0 (CW : Int) (CH : Int) A n cA xs _ (Kd.C_below HX.out (below_alloc (Below.refl _ _) _)) HN.out HR.out).mono ?_; rintro e wx ⟨rfl, hbx_⟩; have HB3 := Lib.hid ((below_alloc (Below.refl _ _) _).trans (hbx_.mono (by simp)) : Below w.heap.size w wx); have HXX := Lib.hid (blk_below HBX0.out hbx_); have hI := HI.out.below HB3.out; have hq := hI.ents.look_none hI.map hI.len HNM.out HMS.out true; have g4 := ckA hI.blk 4 _ rfl; rw [HB.out]; clear hbx_ hI)
  have HIw := Lib.hid (HI.out.below HB3.out.drew)
  have HBw := Lib.hid HB3.out.drew
  have HXw := Lib.hid (Kd.C_below HX.out HB3.out.drew)
  have HXd := Lib.hid (show wx.drew.heap[w.heap.size]? = _ from HXX.out)
  have x0 : wx.drew.cell? ⟨w.heap.size, 2, none⟩ = some (.int .i64 (CW : Int)) := ckA HXX.out 2 _ rfl
  have x1 : wx.drew.cell? ⟨w.heap.size, 3, none⟩ = some (.int .i64 (CH : Int)) := ckA HXX.out 3 _ rfl
  have x2 : wx.drew.cell? ⟨g, 0, none⟩ = some (.int .i64 (W : Int)) := ckA HIw.out.blk 0 _ rfl
  have x3 : wx.drew.cell? ⟨g, 1, none⟩ = some (.int .i64 (H : Int)) := ckA HIw.out.blk 1 _ rfl
  clear hg0 e0 e1 hq g4
  refine start_ (n := 16) (S := fun w' => w'.cell? ⟨w.heap.size, 2, none⟩ = some (.int .i64 (CW : Int)) ∧ w'.cell? ⟨w.heap.size, 3, none⟩ = some (.int .i64 (CH : Int)) ∧ w'.cell? ⟨g, 0, none⟩ = some (.int .i64 (W : Int)) ∧ w'.cell? ⟨g, 1, none⟩ = some (.int .i64 (H : Int))) (ds := []) #[false, false, false, false, false, false, false, false, false, false, false, false, false, false, false, false] (by kernel_rfl) rfl rfl ⟨x0, x1, x2, x3⟩ (fun hHeld => ?_)
  generalize wx.drew = wd at HIw HXw HBw HXd x0 x1 x2 x3 hHeld ⊢
  refine pure_ (i := 0) (N := some 53) (v := ?_) (a' := ?_) #[true, false, false, false, false, false, false, false, false, false, false, false, false, false, false, false] rfl rfl (by kernel_rfl) (fun _ _ _ h => h) (Or.inl ⟨by rfl, ?_⟩) ?_ ?_
  rotate_left
  · intro w'
    go_simp
    with_reducible rfl
  rotate_left
  · simp only [Act.put, List.setIfInBounds_toArray, List.set_cons_zero, List.set_cons_succ, i64_w, i32_w]
    rfl
  refine pure_ (i := 2) (N := some 55) (v := ?_) (a' := ?_) #[true, false, true, false, false, false, false, false, false, false, false, false, false, false, false, false] rfl rfl (by kernel_rfl) (fun _ _ _ h => h) (Or.inl ⟨by rfl, ?_⟩) ?_ ?_
  rotate_left
  · intro w'
    go_simp
    with_reducible rfl
  rotate_left
  · simp only [Act.put, List.setIfInBounds_toArray, List.set_cons_zero, List.set_cons_succ, i64_w, i32_w]
    rfl
  refine pure_ (i := 3) (N := some 56) (v := ?_) (a' := ?_) #[true, false, true, true, false, false, false, false, false, false, false, false, false, false, false, false] rfl rfl (by kernel_rfl) (fun _ _ _ h => h) (Or.inl ⟨by rfl, ?_⟩) ?_ ?_
  rotate_left
  · intro w'
    go_simp
    with_reducible rfl
  rotate_left
  · simp only [Act.put, List.setIfInBounds_toArray, List.set_cons_zero, List.set_cons_succ, i64_w, i32_w]
    rfl
  refine pure_ (i := 4) (N := some 57) (v := ?_) (a' := ?_) #[true, false, true, true, true, false, false, false, false, false, false, false, false, false, false, false] rfl rfl (by kernel_rfl) (fun _ _ _ h => h) (Or.inl ⟨by rfl, ?_⟩) ?_ ?_
  rotate_left
  · intro w'
    go_simp
    with_reducible rfl
  rotate_left
  · simp only [Act.put, List.setIfInBounds_toArray, List.set_cons_zero, List.set_cons_succ, i64_w, i32_w]
    rfl
  refine take_ (i := 1) (N := some 54) (v := ?_) (a' := ?_) #[true, true, true, true, true, false, false, false, false, false, false, false, false, false, false, false] rfl rfl (by kernel_rfl) (fun _ _ _ h => h) (Or.inl ⟨by rfl, ?_⟩) hHeld ?_ ?_
  rotate_left
  · rintro w' ⟨s0, s1, s2, s3⟩
    go_simp
    with_reducible rfl
  rotate_left
  · simp only [Act.put, List.setIfInBounds_toArray, List.set_cons_zero, List.set_cons_succ, i64_w, i32_w]
    rfl
  refine take_ (i := 5) (N := some 58) (v := ?_) (a' := ?_) #[true, true, true, true, true, true, false, false, false, false, false, false, false, false, false, false] rfl rfl (by kernel_rfl) (fun _ _ _ h => h) (Or.inl ⟨by rfl, ?_⟩) hHeld ?_ ?_
  rotate_left
  · rintro w' ⟨s0, s1, s2, s3⟩
    go_simp
    with_reducible rfl
  rotate_left
  · simp only [Act.put, List.setIfInBounds_toArray, List.set_cons_zero, List.set_cons_succ, i64_w, i32_w]
    rfl
  refine pure_ (i := 6) (N := some 59) (v := ?_) (a' := ?_) #[true, true, true, true, true, true, true, false, false, false, false, false, false, false, false, false] rfl rfl (by kernel_rfl) (fun _ _ _ h => h) (Or.inl ⟨by rfl, ?_⟩) ?_ ?_
  rotate_left
  · intro w'
    go_simp
    with_reducible rfl
  rotate_left
  · simp only [Act.put, List.setIfInBounds_toArray, List.set_cons_zero, List.set_cons_succ, i64_w, i32_w]
    rfl
  refine pure_ (i := 7) (N := some 60) (v := ?_) (a' := ?_) #[true, true, true, true, true, true, true, true, false, false, false, false, false, false, false, false] rfl rfl (by kernel_rfl) (fun _ _ _ h => h) (Or.inl ⟨by rfl, ?_⟩) ?_ ?_
  rotate_left
  · intro w'
    go_simp
    with_reducible rfl
  rotate_left
  · simp only [Act.put, List.setIfInBounds_toArray, List.set_cons_zero, List.set_cons_succ, i64_w, i32_w]
    rfl
  refine pure_ (i := 8) (N := some 61) (v := ?_) (a' := ?_) #[true, true, true, true, true, true, true, true, true, false, false, false, false, false, false, false] rfl rfl (by kernel_rfl) (fun _ _ _ h => h) (Or.inl ⟨by rfl, ?_⟩) ?_ ?_
  rotate_left
  · intro w'
    go_simp
    with_reducible rfl
  rotate_left
  · simp only [Act.put, List.setIfInBounds_toArray, List.set_cons_zero, List.set_cons_succ, i64_w, i32_w]
    rfl
  refine pure_ (i := 10) (N := some 63) (v := ?_) (a' := ?_) #[true, true, true, true, true, true, true, true, true, false, true, false, false, false, false, false] rfl rfl (by kernel_rfl) (fun _ _ _ h => h) (Or.inl ⟨by rfl, ?_⟩) ?_ ?_
  rotate_left
  · intro w'
    go_simp
    with_reducible rfl
  rotate_left
  · simp only [Act.put, List.setIfInBounds_toArray, List.set_cons_zero, List.set_cons_succ, i64_w, i32_w]
    rfl
  refine pure_ (i := 11) (N := some 64) (v := ?_) (a' := ?_) #[true, true, true, true, true, true, true, true, true, false, true, true, false, false, false, false] rfl rfl (by kernel_rfl) (fun _ _ _ h => h) (Or.inl ⟨by rfl, ?_⟩) ?_ ?_
  rotate_left
  · intro w'
    go_simp
    with_reducible rfl
  rotate_left
  · simp only [Act.put, List.setIfInBounds_toArray, List.set_cons_zero, List.set_cons_succ, i64_w, i32_w]
    rfl
  refine pure_ (i := 12) (N := some 65) (v := ?_) (a' := ?_) #[true, true, true, true, true, true, true, true, true, false, true, true, true, false, false, false] rfl rfl (by kernel_rfl) (fun _ _ _ h => h) (Or.inl ⟨by rfl, ?_⟩) ?_ ?_
  rotate_left
  · intro w'
    go_simp
    with_reducible rfl
  rotate_left
  · simp only [Act.put, List.setIfInBounds_toArray, List.set_cons_zero, List.set_cons_succ, i64_w, i32_w]
    rfl
  refine take_ (i := 9) (N := some 62) (v := ?_) (a' := ?_) #[true, true, true, true, true, true, true, true, true, true, true, true, true, false, false, false] rfl rfl (by kernel_rfl) (fun _ _ _ h => h) (Or.inl ⟨by rfl, ?_⟩) hHeld ?_ ?_
  rotate_left
  · rintro w' ⟨s0, s1, s2, s3⟩
    go_simp
    with_reducible rfl
  rotate_left
  · simp only [Act.put, List.setIfInBounds_toArray, List.set_cons_zero, List.set_cons_succ, i64_w, i32_w]
    rfl
  refine take_ (i := 13) (N := some 66) (v := ?_) (a' := ?_) #[true, true, true, true, true, true, true, true, true, true, true, true, true, true, false, false] rfl rfl (by kernel_rfl) (fun _ _ _ h => h) (Or.inl ⟨by rfl, ?_⟩) hHeld ?_ ?_
  rotate_left
  · rintro w' ⟨s0, s1, s2, s3⟩
    go_simp
    with_reducible rfl
  rotate_left
  · simp only [Act.put, List.setIfInBounds_toArray, List.set_cons_zero, List.set_cons_succ, i64_w, i32_w]
    rfl
  refine pure_ (i := 14) (N := some 67) (v := ?_) (a' := ?_) #[true, true, true, true, true, true, true, true, true, true, true, true, true, true, true, false] rfl rfl (by kernel_rfl) (fun _ _ _ h => h) (Or.inl ⟨by rfl, ?_⟩) ?_ ?_
  rotate_left
  · intro w'
    go_simp
    with_reducible rfl
  rotate_left
  · simp only [Act.put, List.setIfInBounds_toArray, List.set_cons_zero, List.set_cons_succ, i64_w, i32_w]
    rfl
  refine pure_ (i := 15) (N := some 68) (v := ?_) (a' := ?_) #[true, true, true, true, true, true, true, true, true, true, true, true, true, true, true, true] rfl rfl (by kernel_rfl) (fun _ _ _ h => h) (Or.inl ⟨by rfl, ?_⟩) ?_ ?_
  rotate_left
  · intro w'
    go_simp
    with_reducible rfl
  rotate_left
  · simp only [Act.put, List.setIfInBounds_toArray, List.set_cons_zero, List.set_cons_succ, i64_w, i32_w]
    rfl
  refine done_ (by kernel_rfl) ?_
  clear hHeld x1 x2 x3 c0 c1 c2 c3
  have y0 : wd.cell? ⟨w.heap.size, 0, none⟩ = some (.int .i64 l0) := ckA HXd.out 0 _ rfl
  have y1 : wd.cell? ⟨w.heap.size, 1, none⟩ = some (.int .i64 t0) := ckA HXd.out 1 _ rfl
  go_upto_region 12 with fail
  obtain ⟨ge, hge⟩ : ∃ x, x = wd.heap.size := ⟨_, rfl⟩
  obtain ⟨wA, hwA⟩ : ∃ V, V = wd.alloc (.cells #[.int .i64 l0, .int .i64 t0, .int .i64 0, .int .i64 0, .int .i64 0, .int .i64 0, .int .i64 0] 94) := ⟨_, rfl⟩
  have hBA : Below wd.heap.size wd wA := by rw [hwA]; exact below_alloc (Below.refl _ _) _
  have hbxd := lt_of_blk HXd.out
  have HPA := Lib.hid (show PutL wA g W H N l gp gt b cp ct clk PX TK px mc w.heap.size ge #[.int .i64 l0, .int .i64 t0, .int .i64 (CW : Int), .int .i64 (CH : Int), .slice A n cA] l0 t0 CW CH 0 [] r0 (.slice none 0 0) wA from
    { at_ := ⟨tk, es, by rw [List.drop_zero]; exact HIw.out.below hBA⟩
      box := blk_below HXd.out hBA
      ent := by rw [hwA, hge]; exact blk_new _ _
      row := Kd.R_nil _ _ _ _ _
      st := Step.refl _ _
      lt := by rw [hwA, hge]; simp
      le := Nat.zero_le _
      none_ := fun k hk => absurd hk (Nat.not_lt_zero k)
      old := fun k hk => HI.out.in_ hk
      bl := by omega
      za := by rw [hwA, hge]; simp })
  have HBA := Lib.hid (HBw.out.trans (hBA.mono HBw.out.size))
  rw [← hwA, ← hge]
  have z2 : wA.cell? ⟨w.heap.size, 2, none⟩ = some (.int .i64 (CW : Int)) := ckA HPA.out.box 2 _ rfl
  have HGE := Lib.hid (show w.heap.size < ge from by omega)
  clear hwA hBA hbxd hge y0 y1 x0
  obtain ⟨o0, ho0⟩ : ∃ o, o = decide (CW = 0) := ⟨_, rfl⟩
  have k1 : ((CW : Int) == 0) = o0 := by
    rw [ho0, Bool.eq_iff_iff]
    simp
  have k2 : (CW == 0) = o0 := by
    rw [ho0, Bool.eq_iff_iff]
    simp
  have k3 : decide (CW = 0) = o0 := ho0.symm
  have k4 : decide ((CW : Int) = 0) = o0 := by
    rw [ho0, Bool.eq_iff_iff]
    simp
  have HO0 := Lib.hid ho0
  clear ho0
  go_upto_block 0 with fail
  go_wp2
  clear k1 k2 k3 k4 z2
  go_loopg [6, 11] (l.length + 2) (fun kq v6 v11 w' => ∃ (d : Nat) (o : Bool) (c : Rc), v11 = .bool o ∧ (o = true → Fin l W H CW CH d c) ∧ (o = false → 1 ≤ CW) ∧ PutL wA g W H N l gp gt b cp ct clk PX TK px mc w.heap.size ge #[.int .i64 l0, .int .i64 t0, .int .i64 (CW : Int), .int .i64 (CH : Int), .slice A n cA] l0 t0 CW CH d ((l.take d).map (fun x => x.e.nm)) c v6 w' ∧ (if o then 0 else l.length - d + 1) < kq)
  case atStart =>
    refine ⟨0, o0, r0, rfl, fun e => .inl ⟨?_, rfl, rfl⟩, fun e => ?_, HPA.out, ?_⟩
    · have h1 := HO0.out
      rw [e] at h1
      exact of_decide_eq_true h1.symm
    · have h1 := HO0.out
      rw [e] at h1
      have h2 := of_decide_eq_false h1.symm
      omega
    · split <;> omega
  case round =>
    obtain ⟨d, o, c, rfl, hfin, hpos, hPL, hk⟩ := hrel
    have HFIN := Lib.hid hfin
    have HPOS := Lib.hid hpos
    have HPL := Lib.hid hPL
    have HK := Lib.hid hk
    clear hfin hpos hPL hk
    cases o with
    | true =>
      have HDM0 := Lib.hid (show (l.drop d).map Ex.e = (l.map Ex.e).drop d from List.map_drop)
      obtain ⟨X, Y, rfl, hXW, hYH⟩ := (HFIN.out rfl).dims H00.out
      obtain ⟨tk1, es1, hI1⟩ := HPL.out.at_
      have HI1 := Lib.hid hI1
      have HXY := Lib.hid (show X + CW ≤ W ∧ Y + CH ≤ H ∧ (CH = 0 ∨ 0 < CW) from ⟨hXW, hYH, by have := H00.out; omega⟩)
      have s2 := ckA HPL.out.ent 2 _ rfl
      have s3 := ckA HPL.out.ent 3 _ rfl
      have s4 := ckA HPL.out.ent 4 _ rfl
      have s5 := ckA HPL.out.ent 5 _ rfl
      clear hI1 hXW hYH
      go_upto_region 21 with (go_at_call 40
                              refine (mark_at HI1.out true HXY.out.1 HXY.out.2.1 HXY.out.2.2).mono ?_
                              rintro e w6 ⟨rfl, hT6, hS6⟩
                              have HT6 := Lib.hid hT6
                              have HS6 := Lib.hid hS6
                              clear hT6 hS6)
      clear s2 s3 s4 s5
      have hn := HI1.out.ne
      have hoT : ∀ k, k ∈ TK → k < w.heap.size := fun k hk => HPL.out.old k (by simp [blksOf, hk])
      have hoP : ∀ k, k ∈ PX → k < w.heap.size := fun k hk => HPL.out.old k (by simp [blksOf, hk])
      have hge6 := HS6.out.same HPL.out.ent (fun e => by have h1 := hoT _ e; have h2 := HPL.out.bl; omega)
      have hbx6 := HS6.out.same HPL.out.box (fun e => by have h1 := hoT _ e; omega)
      have hg6 := HS6.out.same HI1.out.blk (fun e => (hn.2.2.1 g e).1 rfl)
      have hP6 : Rows PX W px w6 := HI1.out.rp.same (fun p hp => HS6.out.1.2 p (by have h1 := hoP p hp; have h2 := HPL.out.lt; have h3 := HPL.out.bl; omega) (fun e => hn.2.2.2.2.1 p hp p e rfl))
      have hO6 : Outer gp W PX w6 := HI1.out.op.same (HS6.out.1.2 gp HI1.out.bp (fun e => (hn.2.2.1 gp e).2.1 rfl))
      have HE6 := Lib.hid hge6
      have HBX6 := Lib.hid hbx6
      have HG6 := Lib.hid hg6
      have HP6 := Lib.hid hP6
      have HO6 := Lib.hid hO6
      have HGP6 := Lib.hid (Nat.lt_of_lt_of_le HI1.out.bp HS6.out.size)
      have HOT := Lib.hid hoT
      have HOP := Lib.hid hoP
      have x2 : w6.drew.cell? ⟨g, 2, none⟩ = some (.slice (some ⟨gp, 0, none⟩) H cp) := ckA hg6 2 _ rfl
      have s2 : w6.drew.cell? ⟨ge, 2, none⟩ = some (.int .i64 (X : Int)) := ckA hge6 2 _ rfl
      have s3 : w6.drew.cell? ⟨ge, 3, none⟩ = some (.int .i64 (Y : Int)) := ckA hge6 3 _ rfl
      have s4 : w6.drew.cell? ⟨ge, 4, none⟩ = some (.int .i64 (CW : Int)) := ckA hge6 4 _ rfl
      have s5 : w6.drew.cell? ⟨ge, 5, none⟩ = some (.int .i64 (CH : Int)) := ckA hge6 5 _ rfl
      clear hn hoT hoP hge6 hbx6 hg6 hP6 hO6
      refine start_ (n := 9) (S := fun w' => w'.cell? ⟨g, 2, none⟩ = some (.slice (some ⟨gp, 0, none⟩) H cp) ∧ w'.cell? ⟨ge, 2, none⟩ = some (.int .i64 (X : Int)) ∧ w'.cell? ⟨ge, 3, none⟩ = some (.int .i64 (Y : Int)) ∧ w'.cell? ⟨ge, 4, none⟩ = some (.int .i64 (CW : Int)) ∧ w'.cell? ⟨ge, 5, none⟩ = some (.int .i64 (CH : Int))) (ds := [8]) #[false, false, false, false, false, false, false, false, false] (by kernel_rfl) rfl rfl ⟨x2, s2, s3, s4, s5⟩ (fun hHeld => ?_)
      refine pure_ (i := 0) (N := some 124) (v := ?_) (a' := ?_) #[true, false, false, false, false, false, false, false, false] rfl rfl (by kernel_rfl) (fun _ _ _ h => h) (Or.inl ⟨by rfl, ?_⟩) ?_ ?_
      rotate_left
      · intro w'
        go_simp
        with_reducible rfl
      rotate_left
      · simp only [Act.put, List.setIfInBounds_toArray, List.set_cons_zero, List.set_cons_succ, i64_w, i32_w]
        rfl
      refine pure_ (i := 1) (N := some 125) (v := ?_) (a' := ?_) #[true, true, false, false, false, false, false, false, false] rfl rfl (by kernel_rfl) (fun _ _ _ h => h) (Or.inl ⟨by rfl, ?_⟩) ?_ ?_
      rotate_left
      · intro w'
        go_simp
        with_reducible rfl
      rotate_left
      · simp only [Act.put, List.setIfInBounds_toArray, List.set_cons_zero, List.set_cons_succ, i64_w, i32_w]
        rfl
      refine pure_ (i := 2) (N := some 126) (v := ?_) (a' := ?_) #[true, true, true, false, false, false, false, false, false] rfl rfl (by kernel_rfl) (fun _ _ _ h => h) (Or.inl ⟨by rfl, ?_⟩) ?_ ?_
      rotate_left
      · intro w'
        go_simp
        with_reducible rfl
      rotate_left
      · simp only [Act.put, List.setIfInBounds_toArray, List.set_cons_zero, List.set_cons_succ, i64_w, i32_w]
        rfl
      refine pure_ (i := 4) (N := some 128) (v := ?_) (a' := ?_) #[true, true, true, false, true, false, false, false, false] rfl rfl (by kernel_rfl) (fun _ _ _ h => h) (Or.inl ⟨by rfl, ?_⟩) ?_ ?_
      rotate_left
      · intro w'
        go_simp
        with_reducible rfl
      rotate_left
      · simp only [Act.put, List.setIfInBounds_toArray, List.set_cons_zero, List.set_cons_succ, i64_w, i32_w]
        rfl
      refine pure_ (i := 5) (N := some 129) (v := ?_) (a' := ?_) #[true, true, true, false, true, true, false, false, false] rfl rfl (by kernel_rfl) (fun _ _ _ h => h) (Or.inl ⟨by rfl, ?_⟩) ?_ ?_
      rotate_left
      · intro w'
        go_simp
        with_reducible rfl
      rotate_left
      · simp only [Act.put, List.setIfInBounds_toArray, List.set_cons_zero, List.set_cons_succ, i64_w, i32_w]
        rfl
      refine pure_ (i := 6) (N := some 130) (v := ?_) (a' := ?_) #[true, true, true, false, true, true, true, false, false] rfl rfl (by kernel_rfl) (fun _ _ _ h => h) (Or.inl ⟨by rfl, ?_⟩) ?_ ?_
      rotate_left
      · intro w'
        go_simp
        with_reducible rfl
      rotate_left
      · simp only [Act.put, List.setIfInBounds_toArray, List.set_cons_zero, List.set_cons_succ, i64_w, i32_w]
        rfl
      refine take_ (i := 3) (N := some 127) (v := ?_) (a' := ?_) #[true, true, true, true, true, true, true, false, false] rfl rfl (by kernel_rfl) (fun _ _ _ h => h) (Or.inl ⟨by rfl, ?_⟩) hHeld ?_ ?_
      rotate_left
      · rintro w' ⟨s0, s1, s2, s3, s4⟩
        go_simp
        with_reducible rfl
      rotate_left
      · simp only [Act.put, List.setIfInBounds_toArray, List.set_cons_zero, List.set_cons_succ, i64_w, i32_w]
        rfl
      refine take_ (i := 7) (N := some 131) (v := ?_) (a' := ?_) #[true, true, true, true, true, true, true, true, false] rfl rfl (by kernel_rfl) (fun _ _ _ h => h) (Or.inl ⟨by rfl, ?_⟩) hHeld ?_ ?_
      rotate_left
      · rintro w' ⟨s0, s1, s2, s3, s4⟩
        go_simp
        with_reducible rfl
      rotate_left
      · simp only [Act.put, List.setIfInBounds_toArray, List.set_cons_zero, List.set_cons_succ, i64_w, i32_w]
        rfl
      refine last_ (i := 8) (N := some 132) #[true, true, true, true, true, true, true, true, true] rfl rfl (by kernel_rfl) (by decide) (fun K hK => ?_)
      refine goes_ Try.func41 (by kernel_rfl) rfl #[.slice (some ⟨gp, 0, none⟩) H cp, .agg #[.int .i64 (X : Int), .int .i64 (Y : Int), .int .i64 (CW : Int), .int .i64 (CH : Int)]] (by rfl) rfl rfl (by simp only [List.map_toArray, List.map_cons, List.map_nil]; rfl) ?_
      with_reducible refine (cells_any (some ⟨gp, 0, none⟩) H cp (X : Int) (Y : Int) (CW : Int) (CH : Int) w6.drew).mono ?_
      rintro e0 W0 ⟨rfl, hW0⟩
      refine ⟨_, rfl, ?_⟩
      have HW0 := Lib.hid hW0
      clear hW0
      refine hK.out _ _ ?_
      clear hK K
      refine norm_ (a' := ?_) ?_ ?_
      rotate_left
      · show Act.put _ (some 132) _ = _
        simp only [Act.put, List.setIfInBounds_toArray, List.set_cons_zero, List.set_cons_succ, i64_w, i32_w]
        rfl
      refine done_ (by kernel_rfl) ?_
      clear hHeld x2 s2 s3 s4 s5
      go_wp2
      obtain ⟨M, hM⟩ : ∃ M, M = w6.heap.size := ⟨_, rfl⟩
      have hMd : w6.drew.heap.size = M := hM.symm
      have hW0 := HW0.out
      have hbr : W0.heap[M]? = some (.cells #[.slice (some ⟨gp, 0, none⟩) PX.length cp] 61 (0, 0)) := by rw [hW0, ← hMd, HI.out.lp]; exact blk_alloc (blk_new _ _) _
      have hbc : W0.heap[M + 1]? = some (.cells #[.int .i64 (X : Int), .int .i64 (Y : Int), .int .i64 (CW : Int), .int .i64 (CH : Int)] 43 (0, 0)) := by
        have := blk_new (w6.drew.alloc (.cells #[.slice (some ⟨gp, 0, none⟩) H cp] 61)) (.cells #[.int .i64 (X : Int), .int .i64 (Y : Int), .int .i64 (CW : Int), .int .i64 (CH : Int)] 43)
        rw [hW0, ← hMd]
        simpa using this
      have hk0 : Below M w6 W0 := by rw [hW0, hM]; exact below_alloc (below_alloc (below_drew (Below.refl _ _)) _) _
      have hsz0 : M + 2 = W0.heap.size := by rw [hW0, ← hMd]; simp
      have hgeM : ge < M := by rw [hM]; exact lt_of_blk HE6.out
      have hgpM : gp < M := by rw [hM]; exact HGP6.out
      first | rw [hMd] | rw [← hM]
      have HM := Lib.hid hM
      have HZ0 := Lib.hid hsz0
      have HGM := Lib.hid hgeM
      have HK0 := Lib.hid hk0
      clear hW0 HW0 hMd
      have hPlen := HI.out.lp
      refine (wpIn_wide (n := 3)).1 ?_
      refine wpIn_rangeR (encs := Rw.encs X CW W) (X := Rw.X PX Y CH) (S := fun xs => xs.length = CH) (Sp := fun _ => True) (base := 0) (T0 := fun k => k = M + 1 ∨ k = M) (Rd := Outer gp W PX) rfl (fun h => absurd h (by simp [Fence.wide])) (gf := 58) (lb := #[.pointer (some ⟨M + 1, 0, none⟩), .pointer (some ⟨M, 0, none⟩)]) rfl trivial (enters_of Try.func58 (by kernel_rfl) rfl)
        ?hseq (fun _ => rfl) ?hX (fun pre O W' => O = (fun k => k < M) ∧ Step (fun k => k ∈ PX) w6 W' ∧ Rows PX W (setR px X Y CW pre.length (fun k i => (xs.getD k 0).toNat.testBit i)) W') (fun _ _ _ _ => False) ?hRd ?hI ?hIx (Nat.zero_le _) ?hT0 (fun k => k < M) ?hO ?h0
        ?a1 ?assign ?body ?done ?stop
      case assign =>
        intro L x W' K hK
        simp only [Rw.encs]
        gi_wp2
        exact hK
      case hseq => exact cells_iter _ 0 M (M + 1) gp W cp X Y CW CH PX W0 HI.out.hW.2 (by rw [hPlen]; exact HI.out.hH.2) HXY.out.1 (by rw [hPlen]; exact HXY.out.2.1) HXY.out.2.2 hbr hbc
      case hX => intro pre x W L o o' h _ _; exact h
      case hRd =>
        rintro pre O A ⟨rfl, hst, _⟩
        exact HO6.out.same (hst.1.2 gp (by omega) (fun e => (HI1.out.ne.2.1 gp e).2.1 rfl))
      case hI =>
        rintro pre O A B ⟨rfl, hst, hr'⟩ hs
        exact ⟨rfl, hst.trans hs (fun k hk => .inr (by have := hk.2; omega)), hr'.same (fun p hp => hs.1.2 p (by have := HOP.out p hp; have := hst.size; have := HPL.out.bl; omega) (fun e => e.2 (by have := HOP.out p hp; have := HPL.out.bl; omega)))⟩
      case hIx =>
        intro c pre O A B h
        exact h.elim
      case hT0 =>
        rintro k (rfl | rfl)
        · exact ⟨Nat.zero_le _, by omega⟩
        · exact ⟨Nat.zero_le _, by omega⟩
      case hO => exact fun k hk => ⟨Nat.zero_le _, by omega, by omega⟩
      case h0 => exact ⟨rfl, Step.of_below (by rw [← hM]; exact hk0) _, by rw [List.length_nil, setR_zero]; exact HP6.out.same (fun p hp => hk0.block p (by have := HOP.out p hp; have := HPL.out.bl; omega))⟩
      case body =>
        rintro L pre ⟨xk, xp⟩ O V ⟨rfl, hst, hr'⟩ ⟨hxk, hxp, hxl⟩ hO hsz
        simp only at hxk hxp
        subst hxk
        have hxq := List.mem_of_getElem? hxp
        obtain ⟨q, hq⟩ : ∃ q, q = xs.getD pre.length 0 := ⟨_, rfl⟩
        have hrow : V.heap[xp]? = some (.cells (boolsA W (fun z => if X ≤ z ∧ z < X + 0 then q.toNat.testBit (z - X) else px (Y + pre.length) z)) 4 (0, 0)) := by
          rw [hr' _ _ hxp]
          congr 2
          refine boolsA_congr (fun z hz => ?_)
          unfold setR
          rw [if_neg (by omega), if_neg (by omega)]
        have hbV : V.heap[w.heap.size]? = some (.cells #[.int .i64 l0, .int .i64 t0, .int .i64 (CW : Int), .int .i64 (CH : Int), .slice A n cA] 38 (0, 0)) := hst.same HBX6.out (fun e => by have := HOP.out _ e; omega)
        have hCV : Kd.C (Kd.int .u64) V A n xs := by
          refine C_keep HX.out (fun ad had hlt => ?_)
          have hno := HAB.out ad had
          have n1 : ad.block ∉ TK := fun e => hno (by simp [blksOf, e])
          have n2 : ad.block ≠ b := fun e => hno (by simp [blksOf, e])
          have n3 : ad.block ∉ PX := fun e => hno (by simp [blksOf, e])
          have n4 := HPL.out.bl
          have z1 := HBA.out.size
          have z2 := HPL.out.st.size
          have z3 := HS6.out.size
          rw [hst.1.2 ad.block (by omega) n3, HS6.out.1.2 ad.block (by omega) n1, HPL.out.st.1.2 ad.block (by omega) (fun e => by rcases e with e | e | e; exact n1 e; exact n2 e; omega), HBA.out.block ad.block hlt]
        have hxs := HRS.out.1
        have hxlen : n = xs.length := hCV.1.symm
        obtain ⟨ad, had, hcx⟩ := (Kd.reads_of_C (d := (0 : Int)) hCV).at_ (pre.length : Int) (by omega) (by omega)
        rw [Int.toNat_natCast] at hcx
        have hqe : rdOf 0 xs (pre.length : Int) = q := by rw [hq]; rfl
        rw [hqe] at hcx
        have hqb : 0 ≤ q ∧ q.toNat < 2 ^ CW := HRS.out.2.2.2 q (by rw [← hqe]; exact rd_mem (by omega))
        have hadx : ad.block ≠ xp := fun e => HAB.out ad had (by rw [e]; simp [blksOf, hxq])
        have hadl : (ad.add pre.length).block = ad.block := by unfold Addr.add; split <;> rfl
        have hbxp : w.heap.size ≠ xp := fun e => by have := HOP.out _ hxq; omega
        have HQB := Lib.hid hqb
        have HQ := Lib.hid hq
        have HADX := Lib.hid hadx
        have HADL := Lib.hid hadl
        have HBXP := Lib.hid hbxp
        have HCX := Lib.hid hcx
        have HBV := Lib.hid hbV
        have HROW := Lib.hid hrow
        have HST := Lib.hid hst
        have HRR := Lib.hid hr'
        have HXP := Lib.hid hxp
        have HO := Lib.hid hO
        have HXL := Lib.hid (show pre.length < n ∧ CW ≤ 64 from by have := HRS.out.2.1; omega)
        subst had
        clear hrow hbV hCV hst hr' hxp hO hqb hcx hadx hbxp hxs hxlen hqe hq hM hsz0 hbr hbc hk0 hgeM hgpM hPlen hadl
        gi_wp2
        gi_loopw [137] (fun v137 wr_ => ∃ i : Nat, v137 = .int .i64 (i : Int) ∧ i ≤ CW ∧ Step (fun k => k = xp) V wr_ ∧ wr_.heap[xp]? = some (.cells (boolsA W (fun z => if X ≤ z ∧ z < X + i then q.toNat.testBit (z - X) else px (Y + pre.length) z)) 4 (0, 0))) (fun v137 _ => ((CW : Int) - intOf v137).toNat)
        case atStart => exact ⟨0, rfl, Nat.zero_le _, Step.refl _ _, HROW.out⟩
        case round =>
          obtain ⟨i, rfl, hi, hs, hp⟩ := hrel
          have HS := Lib.hid hs
          have HP := Lib.hid hp
          by_cases hlt : i < CW
          · have t1 : decide ((i : Int) < (CW : Int)) = true := decide_eq_true (by omega)
            have i1 : ((0 : Int) ≤ (i : Int)) = True := eq_true (by omega)
            have i2 : ((i : Int) < (CW : Int)) = True := eq_true (by omega)
            have i3 : ((0 : Int) ≤ (pre.length : Int)) = True := eq_true (by omega)
            have i4 : ((pre.length : Int) < (n : Int)) = True := eq_true (by have := HXL.out; omega)
            have i5 : (pre.length < n) = True := eq_true HXL.out.1
            have i6 : (i < CW) = True := eq_true hlt
            have c4 : wr.cell? ⟨w.heap.size, 4, none⟩ = some (.slice (some ad) n cA) := ckA (hs.same HBV.out HBXP.out) 4 _ rfl
            have cq : wr.cell? (ad.add pre.length) = some (.int .u64 q) := (cell_eq (by rw [HADL.out]; exact hs.1.2 ad.block (by have := World.block_lt_of_cell? _ _ HCX.out; rw [HADL.out] at this; exact this) HADX.out)).trans HCX.out
            have cx : wr.cell? ⟨xp, X + i, none⟩ = some _ := ckA hp (X + i) _ (boolsA_get _ _ _ (by have := HXY.out; omega))
            have fx : wr.frozen? ⟨xp, X + i, none⟩ = false := free_of_one hp _
            have hw := sum1 i (by have := HXL.out; omega)
            have HLT := Lib.hid hlt
            obtain ⟨hw1_, hw2_⟩ := hw
            clear hs hp hi hlt
            gi_wp2
            rw [bit_eq q i HQB.out.1 (Nat.lt_of_lt_of_le HQB.out.2 (Nat.pow_le_pow_right (by decide) HXL.out.2)) (by have := HLT.out; have := HXL.out.2; clear hw1_ hw2_; omega)]
            refine ⟨⟨i + 1, by first | rfl | rw [hw2_], HLT.out, HS.out.setCell (p := ⟨xp, X + i, none⟩) (.inl rfl) _, ?_⟩, ?_⟩
            · clear hw1_ hw2_
              have hc := cell_setB HP.out (X + i) (.bool (q.toNat.testBit i))
              rw [boolsA_set] at hc
              rw [hc]
              congr 2
              refine boolsA_congr (fun z hz => ?_)
              by_cases e : z = X + i
              · subst e
                rw [if_pos rfl, if_pos (by omega), show X + i - X = i by omega]
              · rw [if_neg e]
                by_cases c : X ≤ z ∧ z < X + i
                · rw [if_pos c, if_pos (by omega)]
                · rw [if_neg c, if_neg (by omega)]
            · clear hw1_ hw2_
              have := HLT.out
              simp only [intOf]
              omega
          · have t1 : decide ((i : Int) < (CW : Int)) = false := decide_eq_false (by omega)
            have hie : i = CW := by omega
            subst hie
            clear hs hp hi hlt
            gi_wp2
            refine ⟨_, ⟨rfl, HST.out.trans HS.out (fun k e => by subst e; exact .inl hxq), ?_⟩, fun k h => .inl h, fun k h => Nat.lt_of_lt_of_le (HO.out k h).2 HS.out.size, HS.out.mono (fun k e => by subst e; have h1 := HOP.out _ hxq; have h2 := HGM.out; have h3 := HGE.out; omega)⟩
            rw [List.length_append, List.length_singleton]
            refine HRR.out.next HI.out.ne.2.2.2.2.2.2.2.1 HXP.out (fun q' hq' hne => HS.out.1.2 q' (by have h1 := HOP.out _ hq'; have h2 := HST.out.size; have h3 := HGM.out; have h4 := HGE.out; have h5 := HM.out; omega) hne) ?_
            rw [← HQ.out]
            exact HP.out
      case done =>
        rintro D xs' O V hD hS ⟨rfl, hst, hr'⟩ hOD hKD
        have hS' : xs'.length = CH := hS
        rw [hS'] at hr'
        have hn := HI1.out.ne
        have hgV : V.heap[g]? = _ := hst.same HG6.out (fun e => (hn.2.1 g e).1 rfl)
        have hmV : V.heap[b]? = some (.map es1 mc) := hst.same (HS6.out.same HI1.out.map (fun e => (hn.2.2.1 b e).2.2.2 rfl)) (fun e => (hn.2.1 b e).2.2.2 rfl)
        have hgeV := hst.same HE6.out (fun e => by have := HOP.out _ e; have := HGE.out; omega)
        have hup := run_update_new hmV (HI1.out.ents.keysOk HI1.out.len) nm HNM.out (fun m hm e => by
          obtain ⟨y, hy, e1, _⟩ := HI1.out.ents.mem hm
          rw [e1] at e
          injection e with e
          have := HMS.out y (List.mem_of_mem_drop hy)
          rw [e, nmEq_self] at this
          cases this) (.pointer (some ⟨ge, 0, none⟩))
        have hsb := Step.setBlock_ hmV (.map (es1.push ⟨.string nm, .pointer (some ⟨ge, 0, none⟩), mc⟩) (mc + 1))
        have hm2 := (heap_set hmV (.map (es1.push ⟨.string nm, .pointer (some ⟨ge, 0, none⟩), mc⟩) (mc + 1))).1
        have g4 := ckA hgV 4 _ rfl
        obtain ⟨V2, hV2⟩ : ∃ V2, V2 = setBlock V b (.map (es1.push ⟨.string nm, .pointer (some ⟨ge, 0, none⟩), mc⟩) (mc + 1)) := ⟨_, rfl⟩
        rw [← hV2] at hup hsb hm2
        have hbge : b < w.heap.size := HPL.out.old b (by simp [blksOf])
        have hgge : g < w.heap.size := HPL.out.old g (by simp [blksOf])
        have HG2 := Lib.hid (hsb.same hgV (fun e => hn.1.2.2.1 e.symm))
        have HE2 := Lib.hid (hsb.same hgeV (fun e => by have := HGE.out; omega))
        have HM2 := Lib.hid hm2
        have HSB := Lib.hid hsb
        have HST := Lib.hid hst
        have HRP := Lib.hid hr'
        have HKD := Lib.hid hKD
        have HLT2 := Lib.hid (show b < w.heap.size ∧ g < w.heap.size ∧ ge ≠ g from ⟨hbge, hgge, by have := HGE.out; omega⟩)
        have HCK := Lib.hid (show clk ≤ 1000000 from by have h1 := HI1.out.clk; have h2 := HNN.out; omega)
        clear hV2 hgV hmV hgeV hsb hm2 hst hr' hKD hn hbge hgge hM hsz0 hbr hbc hk0 hgeM hgpM hPlen
        go_wp2_with (go_at_call 32
                     refine (use_c (n := clk) HCK.out HLT2.out.2.2 HG2.out HE2.out).mono ?_
                     rintro e w8 ⟨rfl, hg8, he8, hs8⟩
                     have HG8 := Lib.hid hg8
                     have HE8 := Lib.hid he8
                     have HS8 := Lib.hid hs8
                     clear hg8 he8 hs8)
        have hDM : M + 2 ≤ D := by have := HZ0.out; omega
        have hn := HI1.out.ne
        have hgM := HGM.out
        have hgE := HGE.out
        have hMM := HM.out
        have hwr := HPL.out.lt
        have z0 := HBA.out.size
        have z1 := HPL.out.st.size
        have z2 := HS6.out.size
        have z3 := HST.out.size
        have z4 := HSB.out.size
        have z5 := HS8.out.size
        have hlt2 := HLT2.out
        have hD8 : w8.heap[D]? = some (.deferred (some [])) := HS8.out.same (HSB.out.same HKD.out (fun e => by omega)) (fun e => by rcases e with e | e <;> omega)
        have hsD := Step.putObj w8 D (.deferred none)
        have hT9 : Rows TK W (setR tk1 X Y CW CH (fun _ _ => true)) (w8.putObj D (.deferred none)) := HT6.out.same (fun p hp => by
          have h1 := HOT.out p hp
          rw [hsD.1.2 p (by omega) (by omega), HS8.out.1.2 p (by omega) (fun e => by rcases e with e | e; exact (hn.2.2.1 p hp).1 e; omega), HSB.out.1.2 p (by omega) (fun e => (hn.2.2.1 p hp).2.2.2 e), HST.out.1.2 p (by omega) (fun e => hn.2.2.2.2.1 p e p hp rfl)])
        have hP9 : Rows PX W (setR px X Y CW CH (fun k i => (xs.getD k 0).toNat.testBit i)) (w8.putObj D (.deferred none)) := HRP.out.same (fun p hp => by
          have h1 := HOP.out p hp
          rw [hsD.1.2 p (by omega) (by omega), HS8.out.1.2 p (by omega) (fun e => by rcases e with e | e; exact (hn.2.1 p hp).1 e; omega), HSB.out.1.2 p (by omega) (fun e => (hn.2.1 p hp).2.2.2 e)])
        have hs9 : Step (fun k => k = g ∨ k = b ∨ k ∈ PX ∨ k ∈ TK ∨ k = ge) wr (w8.putObj D (.deferred none)) := by
          refine ((((HS6.out.mono (fun k e => .inr (.inr (.inr (.inl e))))).trans HST.out (fun k e => .inl (.inr (.inr (.inl e))))).trans HSB.out (fun k e => .inl (.inr (.inl e)))).trans HS8.out (fun k e => .inl ?_)).trans hsD (fun k e => .inr (by omega))
          rcases e with e | e
          · exact .inl e
          · exact .inr (.inr (.inr (.inr e)))
        have hget : getP ((l.drop d).map Ex.e) nm = none := by
          rcases get_ex (l.drop d) nm with ⟨y, hy, e1, _⟩ | ⟨_, h2⟩
          · have := HMS.out y (List.mem_of_mem_drop hy)
            rw [e1, nmEq_self] at this
            cases this
          · exact h2
        have hold : ge ∉ blksOf g gp gt b PX TK (l.drop d) := fun e => by have := HPL.out.old ge (blks_drop e); omega
        have hinv : Inv W H (((l.drop d) ++ [(⟨ge, ⟨nm, ⟨l0, t0, (CW : Int), (CH : Int), xs⟩, ⟨(X : Int), (Y : Int), (CW : Int), (CH : Int)⟩⟩, clk + 1⟩ : Ex)]).map Ex.e) := by
          rw [List.map_append]
          refine HI1.out.inv.push _ hget HB.out (fun r hr => (HR.out r hr).1) ?_
          rcases (HFIN.out (by first | rfl | trivial)) with ⟨h1, h2, h3⟩ | ⟨h1, h2⟩
          · exact .inl ⟨by rw [h1]; rfl, h3⟩
          · refine .inr ⟨by show 1 ≤ (CW : Int); omega, (CH : Int), ?_, rfl⟩
            rw [HDM0.out]
            exact h2
        have hmain := HI1.out.push (w' := w8.putObj D (.deferred none)) (⟨ge, ⟨nm, ⟨l0, t0, (CW : Int), (CH : Int), xs⟩, ⟨(X : Int), (Y : Int), (CW : Int), (CH : Int)⟩⟩, clk + 1⟩ : Ex) rfl rfl rfl HRS.out.1 (fun k i => (xs.getD k 0).toNat.testBit i) (fun k q hk i _ => by
            have hk : xs[k]? = some q := hk
            show (xs.getD k 0).toNat.testBit i = _
            rw [List.getD_eq_getElem?_getD, hk]
            rfl) hold hinv HNM.out (hsD.same HG8.out (fun e => by omega)) (hsD.same (HS8.out.same HM2.out (fun e => by rcases e with e | e; exact hn.1.2.2.1 e; omega)) (fun e => by omega)) (hsD.same HE8.out (fun e => by have e : ge = D := e; omega)) hT9 hP9 hs9
        have hrow9 : Kd.R Kd.string 9 (w8.putObj D (.deferred none)) (ge + 1) (fun _ => True) u6 ((l.take d).map (fun x => x.e.nm)) := Rs_keep HPL.out.row (fun k hk hlt => hs9.1.2 k hlt (fun e => by
          rcases e with e | e | e | e | e
          · omega
          · omega
          · have := HOP.out k e; omega
          · have := HOT.out k e; omega
          · omega))
        have hrowF := Kd.R_mono (ok' := fun k => k ≠ ge) (Kd.R_bound hrow9) (fun k hk e => by have := hk.2.1; omega)
        have hstF : Step (fun k => k ∈ blksOf g gp gt b PX TK l) w (w8.putObj D (.deferred none)) := by
          refine ⟨⟨Nat.le_trans z0 (Nat.le_trans z1 hs9.size), fun i hi hno => ?_⟩, ((HBA.out.mono (Nat.zero_le _)).trans HPL.out.st.2).trans hs9.2⟩
          have n1 : i ∉ TK := fun e => hno (by simp [blksOf, e])
          have n2 : i ≠ b := fun e => hno (by simp [blksOf, e])
          have n3 : i ∉ PX := fun e => hno (by simp [blksOf, e])
          have n4 : i ≠ g := fun e => hno (by simp [blksOf, e])
          rw [hs9.1.2 i (by omega) (fun e => by rcases e with e | e | e | e | e; exact n4 e; exact n2 e; exact n3 e; exact n1 e; omega), HPL.out.st.1.2 i (by omega) (fun e => by rcases e with e | e | e; exact n1 e; exact n2 e; omega), HBA.out.block i hi]
        refine ⟨by simp, .inl ⟨_, _, rfl, run_takeDeferred hD8, ?_⟩⟩
        exact ⟨_, results_tmp2 rfl _ _ _, u6, d, _, rfl, (HFIN.out (by first | rfl | trivial)), HPL.out.le, HPL.out.none_, ⟨ge, _, _, _, _, hmain, by omega, Kd.R_lower hrowF (by omega)⟩, hstF⟩
      case stop =>
        intro D c pre O A hD hS h
        exact h.elim
    | false =>
      have q2 := ckA HPL.out.box 2 _ rfl
      have q3 := ckA HPL.out.box 3 _ rfl
      obtain ⟨tk1, es1, hI1⟩ := HPL.out.at_
      have HI1 := Lib.hid hI1
      have HDM := Lib.hid (show (l.drop d).map Ex.e = (l.map Ex.e).drop d from List.map_drop)
      have HC1 := Lib.hid (show 1 ≤ CW ∧ 1 ≤ CH from by
        have h1 := HPOS.out rfl
        have h2 := HRS.out.2.2.1
        omega)
      clear hI1
      cases hp : placeP ((l.map Ex.e).drop d) W H CW CH with
      | some c1 =>
        obtain ⟨x, y, cw, ch⟩ := c1
        have HP := Lib.hid hp
        clear hp
        go_wp2_with (go_at_call 39
                     refine (place_some (x := x) (y := y) (cw := cw) (ch := ch) HI1.out ⟨HC1.out.1, HCW.out.1⟩ ⟨HC1.out.2, HCW.out.2⟩ ?hp_).mono ?_
                     (case hp_ => rw [HDM.out]; exact HP.out)
                     rintro e w1 ⟨rfl, hb1⟩
                     have hL1 := HPL.out.below hb1
                     have z2 := ckA hL1.ent 2 _ rfl
                     have z3 := ckA hL1.ent 3 _ rfl
                     have z4 := ckA hL1.ent 4 _ rfl
                     have z5 := ckA hL1.ent 5 _ rfl
                     have f2 := free_of_one hL1.ent 2
                     have f3 := free_of_one hL1.ent 3
                     have f4 := free_of_one hL1.ent 4
                     have f5 := free_of_one hL1.ent 5
                     have HL1 := Lib.hid hL1
                     clear hb1 hL1)
        clear z2 z3 z4 z5 f2 f3 f4 f5
        cases gk with
        | zero => exact absurd HK.out (Nat.not_lt_zero _)
        | succ kk =>
          go_roundg kk
          case measure => omega
          case rel =>
            refine ⟨d, true, ⟨x, y, cw, ch⟩, rfl, fun _ => .inr ⟨HC1.out.1, HP.out⟩, (fun e => by cases e), HL1.out.put, ?_⟩
            have h1 := HK.out
            rw [if_neg (by decide)] at h1
            rw [if_pos rfl]
            omega
      | none =>
        have hdl : d < l.length := by
          rcases Nat.lt_or_ge d l.length with h1 | h1
          · exact h1
          · rw [List.drop_eq_nil_of_le (by rw [List.length_map]; exact h1), placeP_nil (by have := HCW.out; omega) (by have := HCW.out; omega)] at hp
            cases hp
        obtain ⟨z, hzl, hdr, htr⟩ := drop_cons hdl
        have HP := Lib.hid hp
        have HDL := Lib.hid hdl
        have HDR := Lib.hid hdr
        have HTR := Lib.hid htr
        have hI2 : AtI wr g W H N (z :: l.drop (d + 1)) gp gt b cp ct clk PX TK px tk1 es1 mc := by rw [← hdr]; exact HI1.out
        have hgt := hI2.lt
        obtain ⟨X1, Y1, W1, H1, hr1, _, _, _, _, hx1, hy1, hcc1, _, _⟩ := hI2.inv.dims (List.mem_map.2 ⟨z, List.mem_cons_self, rfl⟩)
        have HR1 := Lib.hid hr1
        have HD1 := Lib.hid (show X1 + W1 ≤ W ∧ Y1 + H1 ≤ H ∧ (H1 = 0 ∨ 0 < W1) from ⟨hx1, hy1, hcc1⟩)
        clear hp hdl hzl hdr htr hI2 hgt hr1 hx1 hy1 hcc1
        go_wp2_with (first
          | (go_at_call 39
             refine (place_none HI1.out ⟨HC1.out.1, HCW.out.1⟩ ⟨HC1.out.2, HCW.out.2⟩ ?hp_).mono ?_
             (case hp_ => rw [HDM.out]; exact HP.out)
             rintro e w1 ⟨rfl, hb1⟩
             have hL1 := HPL.out.below hb1
             have z2 := ckA hL1.ent 2 _ rfl
             have z3 := ckA hL1.ent 3 _ rfl
             have z4 := ckA hL1.ent 4 _ rfl
             have z5 := ckA hL1.ent 5 _ rfl
             have f2 := free_of_one hL1.ent 2
             have f3 := free_of_one hL1.ent 3
             have f4 := free_of_one hL1.ent 4
             have f5 := free_of_one hL1.ent 5
             have HL1 := Lib.hid hL1
             clear hb1 hL1)
          | (go_at_call 22
             have hL2 := HL1.out.put (x := 0) (y := 0) (cw := 0) (ch := 0)
             obtain ⟨tk2, es2, hI2⟩ := hL2.at_
             refine (Names_c hI2 HNN.out).mono ?_
             rintro e w3 ⟨v3, rfl, hR3, hb3⟩
             rw [HDR.out, List.map_cons] at hR3
             obtain ⟨q, cap, rfl, hq0⟩ := str_row0 hR3
             have hI3 := hI2.below hb3
             rw [HDR.out] at hI3
             have hq := hI3.ents.look hI3.map hI3.len hI3.inv.names (List.mem_cons_self : z ∈ z :: l.drop (d + 1)) false
             have hz3 : w3.heap[z.p]? = some (.cells #[.int .i64 z.e.b.l, .int .i64 z.e.b.t, .int .i64 (X1 : Int), .int .i64 (Y1 : Int), .int .i64 (W1 : Int), .int .i64 (H1 : Int), .int .i64 (z.us : Int)] 94 (0, 0)) := by
               have h1 := hI3.ent z List.mem_cons_self
               simp only [Ex.cells, HR1.out] at h1
               exact h1
             have g4 := ckA hI3.blk 4 _ rfl
             have s2 := ckA hz3 2 _ rfl
             have s3 := ckA hz3 3 _ rfl
             have s4 := ckA hz3 4 _ rfl
             have s5 := ckA hz3 5 _ rfl
             have HI3 := Lib.hid hI3
             have HL3 := Lib.hid (hL2.below hb3)
             clear hL2 hI2 hR3 hb3 hI3 hz3 z2 z3 z4 z5 f2 f3 f4 f5)
          | (go_at_call 40
             have hlt := HI3.out.lt
             refine (mark_at HI3.out false HD1.out.1 HD1.out.2.1 HD1.out.2.2).mono ?_
             rintro e w4 ⟨rfl, hT4, hS4⟩
             obtain ⟨w5, hdel, hI5, hS5⟩ := HI3.out.gone HR1.out hT4 hS4
             have g44 : w4.cell? ⟨g, 4, none⟩ = some (.map (some b)) := ckA (hS4.same HI3.out.blk (fun e => (HI3.out.ne.2.2.1 g e).1 rfl)) 4 _ rfl
             have HL5 := Lib.hid (HL3.out.next HDL.out HP.out hI5 ((hS4.mono (T' := fun k => k ∈ TK ∨ k = b) (fun k e => .inl e)).trans hS5 (fun k e => .inl (.inr e))))
             clear hlt hT4 hS4 hI5 hS5 s2 s3 s4 s5 g4 hq hq0)
          | ((with_reducible refine gate_builtin (b := .append) (xs := #[.tmp 114, .tmp 116]) rfl ?_); at_builtin
             go_loud (refine Kd.R_append Kd.string (w0 := w5) (W := w5) (ge + 1) rfl (.tmp 114) (.tmp 116) 46 9 (.string ⟨#[]⟩) 16 rfl undSs infoS rfl (by decide) (by omega) u6 ((l.take d).map (fun x => x.e.nm)) z.e.nm [.string z.e.nm] (fun _ => True) (fun _ => False) rfl ?aX rfl (fun _ hk => hk.elim) (fun _ _ => trivial) HL5.out.row (Below.refl _ _) HL5.out.lt ?aL ?_)
             go_loud (case aX => rfl)
             go_loud (case aL => rw [List.length_map, List.length_take]; have h1 := HI.out.len_le; have h2 := HNN.out; omega)
             intro v9 w9 ho9 hb9 hg9 hat9
             have HL9 := Lib.hid (HL5.out.rows hb9 ho9)
             clear ho9 hb9 hg9 hat9))
        cases gk with
        | zero => exact absurd HK.out (Nat.not_lt_zero _)
        | succ kk =>
          go_roundg kk
          case measure => omega
          case rel =>
            refine ⟨d + 1, false, ⟨0, 0, 0, 0⟩, rfl, (fun e => by cases e), fun _ => HC1.out.1, ?_, ?_⟩
            · rw [HTR.out, List.map_append]
              exact HL9.out
            · have h1 := HK.out
              have h2 := HDL.out
              rw [if_neg (by decide)] at h1 ⊢
              omega
end Go.Proofs.Ytoleencecfjcjaa.At

/- Put over an atlas. -/
set_option linter.unusedVariables false
set_option linter.unusedSimpArgs false
namespace Go.Proofs.Ytoleencecfjcjaa.At
open Go.RowKit Go.Proofs.YtoleencecfjcjaaW.PrintWords Go.Proofs.YtoleencecfjcjaaW.PrintLast Go.Proofs.YtoleencecfjcjaaW.PrintMore Go.Proofs.Ytoleencecfjcjaa.Rng
theorem Put_at {w : World} {g W H N : Nat} {L : List En} {Q : Nat → Prop} (h : AtIs w g W H N L Q) (hN : N ≤ 900000) (nm : ByteArray) (hnl : nm.size ≤ 9223372036854775807) (l0 t0 w0 h0 : Int) (A : Option Addr) (n cA : Nat) (xs : List Int) (hC : Kd.C (Kd.int .u64) w A n xs) (hA : ∀ ad, A = some ad → ¬ Q ad.block) (hn : n ≤ 1000) (hr : ∀ x ∈ xs, 0 ≤ x ∧ x ≤ 18446744073709551615) :
    Calls Try.prog 18 #[.pointer (some ⟨g, 0, none⟩), .string nm, .agg #[.int .i64 l0, .int .i64 t0, .int .i64 w0, .int .i64 h0, .slice A n cA]] w fun e w' => ∃ v Q', e = .returned (.tuple #[v, .int .i64 (putP W H L nm ⟨l0, t0, w0, h0, xs⟩).2.1]) ∧ Kd.R Kd.string 9 w' w.heap.size (fun k => ¬ Q' k) v (putP W H L nm ⟨l0, t0, w0, h0, xs⟩).1 ∧ AtIs w' g W H (N + 1) (putP W H L nm ⟨l0, t0, w0, h0, xs⟩).2.2 Q' ∧ (∀ k, Q' k → Q k ∨ w.heap.size ≤ k) ∧ Step Q w w' := by
  have hs0 := h
  obtain ⟨l, gp, gt, b, cp, ct, clk, PX, TK, px, tk, es, mc, h, rfl, hQ⟩ := h
  have c0 : w.cell? ⟨g, 0, none⟩ = some (.int .i64 (W : Int)) := ckA h.blk 0 _ rfl
  have same : ∀ {w' : World}, Below w.heap.size w w' → AtIs w' g W H (N + 1) (l.map Ex.e) Q ∧ Step Q w w' := fun hb => ⟨(hs0.below hb).more (Nat.le_succ _), Step.of_below hb _⟩
  by_cases e1 : nm.size = 0
  · have hnm : nm = ⟨#[]⟩ := by
      apply ByteArray.ext
      exact Array.eq_empty_of_size_eq_zero e1
    subst hnm
    refine (Put_empty l0 t0 w0 h0 A n cA g W w h.hW.1 c0).mono ?_
    rintro e w' ⟨rfl, hb⟩
    unfold putP
    rw [if_pos (.inl e1)]
    exact ⟨_, Q, rfl, Kd.R_nil _ _ _ _ _, (same hb).1, fun k hk => .inl hk, (same hb).2⟩
  · by_cases e2 : rightB ⟨l0, t0, w0, h0, xs⟩ = false
    · refine (Put_wrong nm l0 t0 w0 h0 A n cA g W xs w e1 h.hW.1 c0 hC hn hr e2).mono ?_
      rintro e w' ⟨rfl, hb⟩
      unfold putP
      rw [if_pos (.inr e2)]
      exact ⟨_, Q, rfl, Kd.R_nil _ _ _ _ _, (same hb).1, fun k hk => .inl hk, (same hb).2⟩
    · have e2' : rightB ⟨l0, t0, w0, h0, xs⟩ = true := by simpa using e2
      unfold putP
      rw [if_neg (by rintro (h | h) <;> contradiction)]
      rcases get_ex l nm with ⟨x, hx, rfl, e3⟩ | ⟨hx, e3⟩
      · rw [e3]
        refine (Put_hit h hN hx e1 l0 t0 w0 h0 A n cA xs hC hn hr e2').mono ?_
        rintro e w' (⟨e4, rfl, hb⟩ | ⟨e4, rfl, hI, hst⟩)
        · dsimp only
          rw [if_neg (by rw [e4]; exact Bool.false_ne_true)]
          exact ⟨_, Q, rfl, Kd.R_nil _ _ _ _ _, (same hb).1, fun k hk => .inl hk, (same hb).2⟩
        · dsimp only
          rw [if_pos e4]
          refine ⟨_, Q, rfl, Kd.R_nil _ _ _ _ _, ⟨_, gp, gt, b, cp, ct, clk + 1, PX, TK, px, tk, es, mc, hI, bump_ents _ h.inv.names hx, fun k => (hQ k).trans (bump_blks _ h.inv.names hx k)⟩, fun k hk => .inl hk, hst.mono (fun k hk => ?_)⟩
          rw [hQ k]
          rcases hk with rfl | rfl
          · simp [blksOf]
          · simp only [blksOf, List.mem_cons, List.mem_append, List.mem_map]
            exact .inr (.inr (.inr (.inr (.inr ⟨x, hx, rfl⟩))))
      · rw [e3]
        unfold addP
        by_cases e4 : (W : Int) < w0 ∨ (H : Int) < h0
        · refine (Put_full nm l0 t0 w0 h0 A n cA g W H xs w e1 h.hW.1 h.blk hC hn hr e2' e4 (fun V hV => h.ents.look_none (blk_below h.map hV) h.len hnl hx true)).mono ?_
          rintro e w' ⟨rfl, hb⟩
          dsimp only
          rw [if_pos e4]
          exact ⟨_, Q, rfl, Kd.R_nil _ _ _ _ _, (same hb).1, fun k hk => .inl hk, (same hb).2⟩
        · have hw0 : 0 ≤ w0 ∧ 0 ≤ h0 := by
            by_cases e5 : 1 ≤ w0
            · have := right_some e2' e5
              simp only at this
              omega
            · have h1 : w0 = 0 ∨ w0 < 0 := by omega
              rcases h1 with rfl | h1
              · have h2 := congrArg Bm.h (right_none e2' rfl)
                have h2 : h0 = 0 := h2
                omega
              · have h2 := e2'
                unfold rightB at h2
                rw [Bool.or_eq_true] at h2
                rcases h2 with h2 | h2
                · have h3 := congrArg Bm.w ((sameB_iff _ _).1 h2)
                  have h3 : w0 = 0 := h3
                  omega
                · rw [Bool.and_eq_true] at h2
                  have h3 := of_decide_eq_true h2.1
                  simp only at h3
                  omega
          obtain ⟨CW, rfl⟩ := Int.eq_ofNat_of_zero_le hw0.1
          obtain ⟨CH, rfl⟩ := Int.eq_ofNat_of_zero_le hw0.2
          have hle : CW ≤ W ∧ CH ≤ H := by omega
          refine (Put_new h hN nm e1 hnl hx l0 t0 CW CH A n cA xs hC (fun ad had hm => hA ad had ((hQ _).2 hm)) hn hr e2' hle.1 hle.2).mono ?_
          rintro e w' ⟨v, d, c, rfl, hF, hd, hnone, ⟨pn, px', tk', es', mc', hI, hpn, hR⟩, hst⟩
          dsimp only
          rw [if_neg e4]
          have hQ' : ∀ k, k ∈ blksOf g gp gt b PX TK (l.drop d ++ [(⟨pn, ⟨nm, ⟨l0, t0, (CW : Int), (CH : Int), xs⟩, c⟩, clk + 1⟩ : Ex)]) → k ∈ blksOf g gp gt b PX TK l ∨ k = pn := fun k hk => by
            simp only [blksOf, List.mem_cons, List.mem_append, List.mem_map] at hk ⊢
            rcases hk with h | h | h | h | h | ⟨z, h | h, e⟩
            · exact .inl (.inl h)
            · exact .inl (.inr (.inl h))
            · exact .inl (.inr (.inr (.inl h)))
            · exact .inl (.inr (.inr (.inr (.inl h))))
            · exact .inl (.inr (.inr (.inr (.inr (.inl h)))))
            · exact .inl (.inr (.inr (.inr (.inr (.inr ⟨z, List.mem_of_mem_drop h, e⟩)))))
            · simp only [List.not_mem_nil, or_false] at h
              subst h
              exact .inr e.symm
          have hR' : Kd.R Kd.string 9 w' w.heap.size (fun k => ¬ k ∈ blksOf g gp gt b PX TK (l.drop d ++ [(⟨pn, ⟨nm, ⟨l0, t0, (CW : Int), (CH : Int), xs⟩, c⟩, clk + 1⟩ : Ex)])) v ((l.take d).map (fun x => x.e.nm)) :=
            Kd.R_mono (Kd.R_bound hR) (fun k hk e => by
              rcases hQ' k e with h1 | h1
              · have h2 := h.in_ h1
                have h3 := hk.2.1
                omega
              · exact hk.1 h1)
          have hst' : Step Q w w' := hst.mono (fun k hk => (hQ k).2 hk)
          have hgr : ∀ k, k ∈ blksOf g gp gt b PX TK (l.drop d ++ [(⟨pn, ⟨nm, ⟨l0, t0, (CW : Int), (CH : Int), xs⟩, c⟩, clk + 1⟩ : Ex)]) → Q k ∨ w.heap.size ≤ k := fun k hk => by
            rcases hQ' k hk with h1 | h1
            · exact .inl ((hQ k).2 h1)
            · exact .inr (by omega)
          by_cases e5 : (CW : Int) = 0
          · rw [if_pos e5]
            rcases hF with ⟨h1, rfl, rfl⟩ | ⟨h1, _⟩
            · refine ⟨v, _, rfl, hR', ⟨_, gp, gt, b, cp, ct, clk + 1, PX, TK, px', tk', es', mc', hI, by simp, fun k => Iff.rfl⟩, hgr, hst'⟩
            · omega
          · rw [if_neg e5]
            rcases hF with ⟨h1, _⟩ | ⟨h1, h2⟩
            · omega
            · rw [fitL_at (W := W) (H := H) (w := CW) (h := CH) (by omega) (by omega) (l.map Ex.e) d c (by rw [List.length_map]; exact hd) hnone h2]
              refine ⟨v, _, rfl, ?_, ⟨_, gp, gt, b, cp, ct, clk + 1, PX, TK, px', tk', es', mc', hI, by simp [List.map_drop], fun k => Iff.rfl⟩, hgr, hst'⟩
              have e6 : ((l.map Ex.e).take d).map En.nm = (l.take d).map (fun x => x.e.nm) := by
                rw [← List.map_take, List.map_map]
                rfl
              rw [e6]
              exact hR'
end Go.Proofs.Ytoleencecfjcjaa.At

