/- Several texts of this claim, one behind the other: AvA, AvB, AvC, AvD, AvE, AvF, AvG. -/
import Derived.Test.YtoleencecfjcjaaMgD
/- The reference's Overlap, Same, Right. -/
set_option linter.unusedVariables false
set_option linter.unusedSimpArgs false
namespace Go.Proofs.Ytoleencecfjcjaa.At
open Go.RowKit Go.Proofs.YtoleencecfjcjaaW.PrintWords Go.Proofs.YtoleencecfjcjaaW.PrintLast Go.Proofs.YtoleencecfjcjaaW.PrintMore Go.Proofs.Ytoleencecfjcjaa.Rng
theorem addW {a b : Int} (h : -1000000 ≤ a ∧ a ≤ 1000000 ∧ -1000000 ≤ b ∧ b ≤ 1000000) : IntKind.i64.wrap (a + b) = a + b ∧ wrap64 (a + b) = a + b := by
  constructor
  · rw [IntKind.wrap_i64]; omega
  · unfold wrap64; omega
def Sml (r : Rc) : Prop := -1000000 ≤ r.x ∧ r.x ≤ 1000000 ∧ -1000000 ≤ r.y ∧ r.y ≤ 1000000 ∧ -1000000 ≤ r.w ∧ r.w ≤ 1000000 ∧ -1000000 ≤ r.h ∧ r.h ≤ 1000000
set_option maxRecDepth 100000 in
set_option maxHeartbeats 4000000 in
theorem Overlap_c (a b : Rc) (ha : Sml a) (hb : Sml b) (w : World) : Calls Try.prog 25 #[rcV a, rcV b] w fun e w' => e = .returned (.bool (over a b)) ∧ Below w.heap.size w w' := by
  obtain ⟨ax, ay, aw, ah⟩ := a
  obtain ⟨bx, by_, bw, bh⟩ := b
  unfold Sml at ha hb
  simp only at ha hb
  have HW := Lib.hid (show (IntKind.i64.wrap (bx + bw) = bx + bw ∧ wrap64 (bx + bw) = bx + bw) ∧ (IntKind.i64.wrap (ax + aw) = ax + aw ∧ wrap64 (ax + aw) = ax + aw) ∧ (IntKind.i64.wrap (by_ + bh) = by_ + bh ∧ wrap64 (by_ + bh) = by_ + bh) ∧ (IntKind.i64.wrap (ay + ah) = ay + ah ∧ wrap64 (ay + ah) = ay + ah) from ⟨addW (by omega), addW (by omega), addW (by omega), addW (by omega)⟩)
  clear ha hb
  unfold rcV over
  dsimp only
  go_enter Try.func25, Try.ntmps25
  by_cases c1 : ax < bx + bw
  · have d1 : decide (ax < bx + bw) = true := decide_eq_true c1
    by_cases c2 : bx < ax + aw
    · have d2 : decide (bx < ax + aw) = true := decide_eq_true c2
      by_cases c3 : ay < by_ + bh
      · have d3 : decide (ay < by_ + bh) = true := decide_eq_true c3
        by_cases c4 : by_ < ay + ah
        · have d4 : decide (by_ < ay + ah) = true := decide_eq_true c4
          have HR := Lib.hid (show decide (ax < bx + bw ∧ bx < ax + aw ∧ ay < by_ + bh ∧ by_ < ay + ah) = true from decide_eq_true ⟨c1, c2, c3, c4⟩)
          clear c1 c2 c3 c4
          rw [HR.out]; obtain ⟨⟨r1, r2⟩, ⟨r3, r4⟩, ⟨r5, r6⟩, ⟨r7, r8⟩⟩ := HW.out; go_wp2; go_ret; exact ⟨rfl, below_alloc (below_alloc (Below.refl _ _) _) _⟩
        · have d4 : decide (by_ < ay + ah) = false := decide_eq_false c4
          have HR := Lib.hid (show decide (ax < bx + bw ∧ bx < ax + aw ∧ ay < by_ + bh ∧ by_ < ay + ah) = false from decide_eq_false (fun h => c4 h.2.2.2))
          clear c1 c2 c3 c4
          rw [HR.out]; obtain ⟨⟨r1, r2⟩, ⟨r3, r4⟩, ⟨r5, r6⟩, ⟨r7, r8⟩⟩ := HW.out; go_wp2; go_ret; exact ⟨rfl, below_alloc (below_alloc (Below.refl _ _) _) _⟩
      · have d3 : decide (ay < by_ + bh) = false := decide_eq_false c3
        have HR := Lib.hid (show decide (ax < bx + bw ∧ bx < ax + aw ∧ ay < by_ + bh ∧ by_ < ay + ah) = false from decide_eq_false (fun h => c3 h.2.2.1))
        clear c1 c2 c3
        rw [HR.out]; obtain ⟨⟨r1, r2⟩, ⟨r3, r4⟩, ⟨r5, r6⟩, ⟨r7, r8⟩⟩ := HW.out; go_wp2; go_ret; exact ⟨rfl, below_alloc (below_alloc (Below.refl _ _) _) _⟩
    · have d2 : decide (bx < ax + aw) = false := decide_eq_false c2
      have HR := Lib.hid (show decide (ax < bx + bw ∧ bx < ax + aw ∧ ay < by_ + bh ∧ by_ < ay + ah) = false from decide_eq_false (fun h => c2 h.2.1))
      clear c1 c2
      rw [HR.out]; obtain ⟨⟨r1, r2⟩, ⟨r3, r4⟩, ⟨r5, r6⟩, ⟨r7, r8⟩⟩ := HW.out; go_wp2; go_ret; exact ⟨rfl, below_alloc (below_alloc (Below.refl _ _) _) _⟩
  · have d1 : decide (ax < bx + bw) = false := decide_eq_false c1
    have HR := Lib.hid (show decide (ax < bx + bw ∧ bx < ax + aw ∧ ay < by_ + bh ∧ by_ < ay + ah) = false from decide_eq_false (fun h => c1 h.1))
    clear c1
    rw [HR.out]; obtain ⟨⟨r1, r2⟩, ⟨r3, r4⟩, ⟨r5, r6⟩, ⟨r7, r8⟩⟩ := HW.out; go_wp2; go_ret; exact ⟨rfl, below_alloc (below_alloc (Below.refl _ _) _) _⟩
set_option maxRecDepth 100000 in
set_option maxHeartbeats 4000000 in
theorem refSame_c (l1 t1 w1 h1 l2 t2 w2 h2 : Int) (A B : Option Addr) (n m cA cB : Nat) (xs ys : List Int) (w : World) (hx : Kd.C (Kd.int .u64) w A n xs) (hy : Kd.C (Kd.int .u64) w B m ys) (hn : n ≤ 1000) (hm : m ≤ 1000) :
    Calls Try.prog 15 #[.agg #[.int .i64 l1, .int .i64 t1, .int .i64 w1, .int .i64 h1, .slice A n cA], .agg #[.int .i64 l2, .int .i64 t2, .int .i64 w2, .int .i64 h2, .slice B m cB]] w fun e w' => e = .returned (.bool (sameB ⟨l1, t1, w1, h1, xs⟩ ⟨l2, t2, w2, h2, ys⟩)) ∧ Below w.heap.size w w' := by
  have rx := Kd.reads_of_C (d := (0 : Int)) hx
  have ry := Kd.reads_of_C (d := (0 : Int)) hy
  have HRX := Lib.hid rx
  have HRY := Lib.hid ry
  have HXL := Lib.hid (show xs.length = n ∧ ys.length = m from ⟨rx.1, ry.1⟩)
  have HNM := Lib.hid (show n ≤ 1000 ∧ m ≤ 1000 from ⟨hn, hm⟩)
  clear rx ry hx hy hn hm
  have HX1 := Lib.hid (blk_alloc (blk_new w (.cells #[.int .i64 l1, .int .i64 t1, .int .i64 w1, .int .i64 h1, .slice A n cA] 38)) (.cells #[.int .i64 l2, .int .i64 t2, .int .i64 w2, .int .i64 h2, .slice B m cB] 38))
  have HX2 := Lib.hid (show ((w.alloc (.cells #[.int .i64 l1, .int .i64 t1, .int .i64 w1, .int .i64 h1, .slice A n cA] 38)).alloc (.cells #[.int .i64 l2, .int .i64 t2, .int .i64 w2, .int .i64 h2, .slice B m cB] 38)).heap[w.heap.size + 1]? = some (.cells #[.int .i64 l2, .int .i64 t2, .int .i64 w2, .int .i64 h2, .slice B m cB] 38 (0, 0)) from by
    have := blk_new (w.alloc (.cells #[.int .i64 l1, .int .i64 t1, .int .i64 w1, .int .i64 h1, .slice A n cA] 38)) (.cells #[.int .i64 l2, .int .i64 t2, .int .i64 w2, .int .i64 h2, .slice B m cB] 38)
    simpa using this)
  have HB0 := Lib.hid (below_alloc (below_alloc (Below.refl w.heap.size w) (.cells #[.int .i64 l1, .int .i64 t1, .int .i64 w1, .int .i64 h1, .slice A n cA] 38)) (.cells #[.int .i64 l2, .int .i64 t2, .int .i64 w2, .int .i64 h2, .slice B m cB] 38))
  go_enter Try.func15, Try.ntmps15
  by_cases e0 : l1 = l2
  · subst e0
    by_cases e1 : t1 = t2
    · subst e1
      by_cases e2 : w1 = w2
      · subst e2
        by_cases e3 : h1 = h2
        · subst e3
          by_cases e4 : n = m
          · subst e4
            have HSB := Lib.hid (show ∀ b : Bool, (∀ h : b = true, xs = ys) → (b = false → xs ≠ ys) → sameB ⟨l1, t1, w1, h1, xs⟩ ⟨l1, t1, w1, h1, ys⟩ = b from fun b hb1 hb2 => by
              simp only [sameB, beq_self_eq_true, Bool.true_and]
              cases b with
              | true => exact decide_eq_true (hb1 rfl)
              | false => exact decide_eq_false (hb2 rfl))
            go_upto_block 0 with fail
            go_wp2
            obtain ⟨W2, hW2⟩ : ∃ V, V = (w.alloc (.cells #[.int .i64 l1, .int .i64 t1, .int .i64 w1, .int .i64 h1, .slice A n cA] 38)).alloc (.cells #[.int .i64 l1, .int .i64 t1, .int .i64 w1, .int .i64 h1, .slice B n cB] 38) := ⟨_, rfl⟩
            rw [← hW2] at HX1 HX2 HB0
            rw [← hW2]
            clear hW2
            go_loopg [5] (n + 1) (fun kq v5 w' => ∃ j : Nat, v5 = .int .i64 (j : Int) ∧ j + kq = n + 1 ∧ j ≤ n ∧ xs.take j = ys.take j ∧ Below W2.heap.size W2 w')
            case atStart => exact ⟨0, rfl, by omega, by omega, rfl, Below.refl _ _⟩
            case round =>
              obtain ⟨j, rfl, hj, hjl, ht, hb⟩ := hrel
              have HT := Lib.hid ht
              have HB := Lib.hid hb
              have HJ := Lib.hid (show j + gk = n + 1 ∧ j ≤ n from ⟨hj, hjl⟩)
              have HBW := Lib.hid (HB0.out.trans (hb.mono HB0.out.size))
              have b1 := blk_below HX1.out hb
              have b2 := blk_below HX2.out hb
              have y1 : wr.cell? ⟨w.heap.size, 4, none⟩ = some (.slice A n cA) := ckA b1 4 _ rfl
              have HB1 := Lib.hid b1
              have HB2 := Lib.hid b2
              by_cases c0 : j < n
              · have d1 : decide ((j : Int) < (n : Int)) = true := decide_eq_true (by omega)
                have i1 : ((0 : Int) ≤ (j : Int)) = True := eq_true (by omega)
                have i2 : ((j : Int) < (n : Int)) = True := eq_true (by omega)
                have HC := Lib.hid c0
                obtain ⟨ad, hadA, hcx⟩ := (HRX.out.below HBW.out).at_ (j : Int) (by omega) (by omega)
                obtain ⟨bd, hadB, hcy⟩ := (HRY.out.below HBW.out).at_ (j : Int) (by omega) (by omega)
                subst hadA
                subst hadB
                rw [Int.toNat_natCast] at hcx hcy
                have HTS := Lib.hid (fun e => take_step (xs := xs) (ys := ys) (j := j) (by rw [HXL.out.1]; exact c0) (by rw [HXL.out.2]; exact c0) ht e)
                have HNE := Lib.hid (fun e => rd_ne (xs := xs) (ys := ys) (j := j) e)
                obtain ⟨x, hxe⟩ : ∃ x, rdOf 0 xs (j : Int) = x := ⟨_, rfl⟩
                obtain ⟨y, hye⟩ : ∃ y, rdOf 0 ys (j : Int) = y := ⟨_, rfl⟩
                rw [hxe] at hcx HTS HNE
                rw [hye] at hcy HTS HNE
                have HE := Lib.hid (sum1 j (by have := HNM.out; omega))
                have z1 : wr.drew.cell? ⟨w.heap.size, 4, none⟩ = some (.slice (some ad) n cA) := y1
                have z2 : wr.drew.cell? ⟨w.heap.size + 1, 4, none⟩ = some (.slice (some bd) n cB) := ckA HB2.out 4 _ rfl
                have z3 : wr.drew.cell? (ad.add j) = some (.int .u64 x) := hcx
                have z4 : wr.drew.cell? (bd.add j) = some (.int .u64 y) := hcy
                clear ht hb hj hjl c0 hxe hye b1 b2 hcx hcy
                go_upto_region 6 with fail
                refine start_ (n := 11) (S := fun w' => w'.cell? ⟨w.heap.size, 4, none⟩ = some (.slice (some ad) n cA) ∧ w'.cell? ⟨w.heap.size + 1, 4, none⟩ = some (.slice (some bd) n cB) ∧ w'.cell? (ad.add j) = some (.int .u64 x) ∧ w'.cell? (bd.add j) = some (.int .u64 y)) (ds := []) #[false, false, false, false, false, false, false, false, false, false, false] (by kernel_rfl) rfl rfl ⟨z1, z2, z3, z4⟩ (fun hHeld => ?_)
                refine pure_ (i := 0) (N := some 48) (v := ?_) (a' := ?_) #[true, false, false, false, false, false, false, false, false, false, false] rfl rfl (by kernel_rfl) (fun _ _ _ h => h) (Or.inl ⟨by rfl, ?_⟩) ?_ ?_
                rotate_left
                · intro w'
                  go_simp
                  with_reducible rfl
                rotate_left
                · simp only [Act.put, List.setIfInBounds_toArray, List.set_cons_zero, List.set_cons_succ, i64_w, i32_w]
                  rfl
                refine pure_ (i := 2) (N := some 50) (v := ?_) (a' := ?_) #[true, false, true, false, false, false, false, false, false, false, false] rfl rfl (by kernel_rfl) (fun _ _ _ h => h) (Or.inl ⟨by rfl, ?_⟩) ?_ ?_
                rotate_left
                · intro w'
                  go_simp
                  with_reducible rfl
                rotate_left
                · simp only [Act.put, List.setIfInBounds_toArray, List.set_cons_zero, List.set_cons_succ, i64_w, i32_w]
                  rfl
                refine pure_ (i := 5) (N := some 53) (v := ?_) (a' := ?_) #[true, false, true, false, false, true, false, false, false, false, false] rfl rfl (by kernel_rfl) (fun _ _ _ h => h) (Or.inl ⟨by rfl, ?_⟩) ?_ ?_
                rotate_left
                · intro w'
                  go_simp
                  with_reducible rfl
                rotate_left
                · simp only [Act.put, List.setIfInBounds_toArray, List.set_cons_zero, List.set_cons_succ, i64_w, i32_w]
                  rfl
                refine pure_ (i := 7) (N := some 55) (v := ?_) (a' := ?_) #[true, false, true, false, false, true, false, true, false, false, false] rfl rfl (by kernel_rfl) (fun _ _ _ h => h) (Or.inl ⟨by rfl, ?_⟩) ?_ ?_
                rotate_left
                · intro w'
                  go_simp
                  with_reducible rfl
                rotate_left
                · simp only [Act.put, List.setIfInBounds_toArray, List.set_cons_zero, List.set_cons_succ, i64_w, i32_w]
                  rfl
                refine take_ (i := 1) (N := some 49) (v := ?_) (a' := ?_) #[true, true, true, false, false, true, false, true, false, false, false] rfl rfl (by kernel_rfl) (fun _ _ _ h => h) (Or.inl ⟨by rfl, ?_⟩) hHeld ?_ ?_
                rotate_left
                · rintro w' ⟨s0, s1, s2, s3⟩
                  go_simp
                  with_reducible rfl
                rotate_left
                · simp only [Act.put, List.setIfInBounds_toArray, List.set_cons_zero, List.set_cons_succ, i64_w, i32_w]
                  rfl
                refine pure_ (i := 3) (N := some 51) (v := ?_) (a' := ?_) #[true, true, true, true, false, true, false, true, false, false, false] rfl rfl (by kernel_rfl) (fun _ _ _ h => h) (Or.inl ⟨by rfl, ?_⟩) ?_ ?_
                rotate_left
                · intro w'
                  go_simp
                  with_reducible rfl
                rotate_left
                · simp only [Act.put, List.setIfInBounds_toArray, List.set_cons_zero, List.set_cons_succ, i64_w, i32_w]
                  rfl
                refine take_ (i := 4) (N := some 52) (v := ?_) (a' := ?_) #[true, true, true, true, true, true, false, true, false, false, false] rfl rfl (by kernel_rfl) (fun _ _ _ h => h) (Or.inl ⟨by rfl, ?_⟩) hHeld ?_ ?_
                rotate_left
                · rintro w' ⟨s0, s1, s2, s3⟩
                  go_simp
                  with_reducible rfl
                rotate_left
                · simp only [Act.put, List.setIfInBounds_toArray, List.set_cons_zero, List.set_cons_succ, i64_w, i32_w]
                  rfl
                refine take_ (i := 6) (N := some 54) (v := ?_) (a' := ?_) #[true, true, true, true, true, true, true, true, false, false, false] rfl rfl (by kernel_rfl) (fun _ _ _ h => h) (Or.inl ⟨by rfl, ?_⟩) hHeld ?_ ?_
                rotate_left
                · rintro w' ⟨s0, s1, s2, s3⟩
                  go_simp
                  with_reducible rfl
                rotate_left
                · simp only [Act.put, List.setIfInBounds_toArray, List.set_cons_zero, List.set_cons_succ, i64_w, i32_w]
                  rfl
                refine pure_ (i := 8) (N := some 56) (v := ?_) (a' := ?_) #[true, true, true, true, true, true, true, true, true, false, false] rfl rfl (by kernel_rfl) (fun _ _ _ h => h) (Or.inl ⟨by rfl, ?_⟩) ?_ ?_
                rotate_left
                · intro w'
                  go_simp
                  with_reducible rfl
                rotate_left
                · simp only [Act.put, List.setIfInBounds_toArray, List.set_cons_zero, List.set_cons_succ, i64_w, i32_w]
                  rfl
                refine take_ (i := 9) (N := some 57) (v := ?_) (a' := ?_) #[true, true, true, true, true, true, true, true, true, true, false] rfl rfl (by kernel_rfl) (fun _ _ _ h => h) (Or.inl ⟨by rfl, ?_⟩) hHeld ?_ ?_
                rotate_left
                · rintro w' ⟨s0, s1, s2, s3⟩
                  go_simp
                  with_reducible rfl
                rotate_left
                · simp only [Act.put, List.setIfInBounds_toArray, List.set_cons_zero, List.set_cons_succ, i64_w, i32_w]
                  rfl
                refine pure_ (i := 10) (N := some 58) (v := ?_) (a' := ?_) #[true, true, true, true, true, true, true, true, true, true, true] rfl rfl (by kernel_rfl) (fun _ _ _ h => h) (Or.inl ⟨by rfl, ?_⟩) ?_ ?_
                rotate_left
                · intro w'
                  go_simp
                  with_reducible rfl
                rotate_left
                · simp only [Act.put, List.setIfInBounds_toArray, List.set_cons_zero, List.set_cons_succ, i64_w, i32_w]
                  rfl
                refine done_ (by kernel_rfl) ?_
                by_cases exy : x = y
                · subst exy
                  have n1 : (x != x) = false := by simp
                  obtain ⟨e1, e2⟩ := HE.out
                  clear hHeld z1 z2 z3 z4
                  cases gk with
                  | zero => exact absurd HJ.out (by have := HC.out; clear e1 e2; omega)
                  | succ kk =>
                    go_wp2
                    go_roundg kk
                    case measure => omega
                    case rel =>
                      clear e1 e2
                      exact ⟨j + 1, by first | rfl | rw [HE.out.2], by have := HJ.out; omega, HC.out, HTS.out (by first | rfl | trivial), HB.out.drew⟩
                · have n1 : (x != y) = true := by simpa using exy
                  have n2 : (x == y) = false := by simpa using exy
                  have n3 : decide (x = y) = false := decide_eq_false exy
                  have HXY := Lib.hid exy
                  clear exy hHeld z1 z2 z3 z4
                  go_wp2
                  go_ret
                  refine ⟨?_, HB0.out.trans (HB.out.drew.mono HB0.out.size)⟩
                  rw [HSB.out false (fun h => by cases h) (fun _ => of_decide_eq_false (HNE.out HXY.out))]
                  rfl
              · have d1 : decide ((j : Int) < (n : Int)) = false := decide_eq_false (by omega)
                have hje : j = n := by omega
                subst hje
                clear ht hb hj hjl c0 b1 b2
                go_wp2
                go_ret
                refine ⟨?_, HB0.out.trans (HB.out.mono HB0.out.size)⟩
                have hxy : xs = ys := by
                  have h1 := HT.out
                  have h2 := HXL.out
                  rwa [List.take_of_length_le (by omega), List.take_of_length_le (by omega)] at h1
                rw [HSB.out true (fun _ => hxy) (fun h => by cases h)]
                rfl
          · have u4 : ((n : Int) == (m : Int)) = false := by simp; omega
            have v4 : ((n : Int) != (m : Int)) = true := by simp; omega
            have d4 : decide ((n : Int) = (m : Int)) = false := decide_eq_false (by omega)
            have u5 : (n == m) = false := by simp; omega
            have v5 : (n != m) = true := by simp; omega
            have d5 : decide (n = m) = false := decide_eq_false (by omega)
            have E4 := Lib.hid e4
            clear e4
            go_wp2
            go_ret
            refine ⟨?_, HB0.out⟩
            have : sameB ⟨l1, t1, w1, h1, xs⟩ ⟨l1, t1, w1, h1, ys⟩ = false := by
              simp only [sameB, beq_self_eq_true, Bool.true_and]
              exact decide_eq_false (fun e => E4.out (by rw [← HXL.out.1, ← HXL.out.2, e]))
            rw [this]
            rfl
        · have u3 : (h1 == h2) = false := by simpa using e3
          have v3 : (h1 != h2) = true := by simpa using e3
          have d3 : decide (h1 = h2) = false := decide_eq_false e3
          have E3 := Lib.hid e3
          clear e3
          go_wp2
          go_ret
          exact ⟨by simp only [sameB, u3, beq_self_eq_true, Bool.true_and, Bool.false_and]; rfl, HB0.out⟩
      · have u2 : (w1 == w2) = false := by simpa using e2
        have v2 : (w1 != w2) = true := by simpa using e2
        have d2 : decide (w1 = w2) = false := decide_eq_false e2
        have E2 := Lib.hid e2
        clear e2
        go_wp2
        go_ret
        exact ⟨by simp only [sameB, u2, beq_self_eq_true, Bool.true_and, Bool.false_and]; rfl, HB0.out⟩
    · have u1 : (t1 == t2) = false := by simpa using e1
      have v1 : (t1 != t2) = true := by simpa using e1
      have d1 : decide (t1 = t2) = false := decide_eq_false e1
      have E1 := Lib.hid e1
      clear e1
      go_wp2
      go_ret
      exact ⟨by simp only [sameB, u1, beq_self_eq_true, Bool.true_and, Bool.false_and]; rfl, HB0.out⟩
  · have u0 : (l1 == l2) = false := by simpa using e0
    have v0 : (l1 != l2) = true := by simpa using e0
    have d0 : decide (l1 = l2) = false := decide_eq_false e0
    have E0 := Lib.hid e0
    clear e0
    go_wp2
    go_ret
    exact ⟨by simp only [sameB, u0, beq_self_eq_true, Bool.true_and, Bool.false_and]; rfl, HB0.out⟩
end Go.Proofs.Ytoleencecfjcjaa.At

/- The reference's Right. -/
set_option linter.unusedVariables false
set_option linter.unusedSimpArgs false
namespace Go.Proofs.Ytoleencecfjcjaa.At
open Go.RowKit Go.Proofs.YtoleencecfjcjaaW.PrintWords Go.Proofs.YtoleencecfjcjaaW.PrintLast Go.Proofs.YtoleencecfjcjaaW.PrintMore Go.Proofs.Ytoleencecfjcjaa.Rng
theorem subW (a : Int) (h : 1 ≤ a ∧ a ≤ 64) : IntKind.i64.wrap (10001 - a) = 10001 - a ∧ wrap64 (10001 - a) = 10001 - a := by
  constructor
  · rw [IntKind.wrap_i64]; omega
  · unfold wrap64; omega
theorem right_zero (xs : List Int) : rightB ⟨0, 0, 0, 0, xs⟩ = decide (xs.length = 0) := by
  have h1 : dimsOk ⟨0, 0, 0, 0, xs⟩ = false := decide_eq_false (by simp)
  unfold rightB
  rw [h1, Bool.false_and, Bool.or_false]
  cases xs with
  | nil => rfl
  | cons x l => rfl
theorem right_no {b : Bm} (hz : ¬ (b.w = 0 ∧ b.h = 0 ∧ b.l = 0 ∧ b.t = 0)) (hd : ¬ (1 ≤ b.w ∧ b.w ≤ 64 ∧ 1 ≤ b.h ∧ b.h ≤ 64 ∧ (b.rows.length : Int) = b.h ∧ -10000 ≤ b.l ∧ b.l ≤ 10001 - b.w ∧ -10000 ≤ b.t ∧ b.t ≤ 10001 - b.h)) : rightB b = false := by
  have h1 : dimsOk b = false := decide_eq_false hd
  unfold rightB
  rw [h1, Bool.false_and, Bool.or_false]
  cases h : sameB b b0 with
  | false => rfl
  | true =>
    have := (sameB_iff _ _).1 h
    exact absurd ⟨by rw [this]; rfl, by rw [this]; rfl, by rw [this]; rfl, by rw [this]; rfl⟩ hz
theorem right_all {b : Bm} (hd : 1 ≤ b.w ∧ b.w ≤ 64 ∧ 1 ≤ b.h ∧ b.h ≤ 64 ∧ (b.rows.length : Int) = b.h ∧ -10000 ≤ b.l ∧ b.l ≤ 10001 - b.w ∧ -10000 ≤ b.t ∧ b.t ≤ 10001 - b.h) : rightB b = b.rows.all (rowOk b.w) := by
  have h1 : dimsOk b = true := decide_eq_true hd
  unfold rightB
  rw [h1, Bool.true_and]
  cases h : sameB b b0 with
  | false => rfl
  | true =>
    have h2 := (sameB_iff _ _).1 h
    have h3 := congrArg Bm.w h2
    have h3 : b.w = 0 := h3
    omega
theorem all_step {xs : List Int} {j : Nat} {wd : Int} (hj : j < xs.length) (h : (xs.take j).all (rowOk wd) = true) (hr : rowOk wd (rdOf 0 xs (j : Int)) = true) : (xs.take (j + 1)).all (rowOk wd) = true := by
  have h1 : xs[j]? = some (rdOf 0 xs (j : Int)) := by simp [rdOf, hj]
  rw [List.take_add_one, h1, List.all_append, h]
  simp [hr]
theorem all_no {xs : List Int} {j : Nat} {wd : Int} (hj : j < xs.length) (hr : rowOk wd (rdOf 0 xs (j : Int)) = false) : xs.all (rowOk wd) = false := by
  rw [List.all_eq_false]
  exact ⟨_, rd_mem hj, by rw [hr]; exact Bool.false_ne_true⟩
theorem shr_ok (x : Int) (CW : Nat) (h0 : 0 ≤ x) (hc : CW ≤ 64) : x / 2 ^ min CW 64 = 0 ↔ rowOk (CW : Int) x = true := by
  rw [Nat.min_eq_left hc]
  unfold rowOk
  rw [Int.toNat_natCast, decide_eq_true_eq]
  have hp : (0 : Int) < 2 ^ CW := Int.pow_pos (by decide)
  constructor
  · intro h
    rcases Int.lt_or_le x (2 ^ CW) with h1 | h1
    · exact h1
    · have := Int.le_ediv_of_mul_le hp (show 1 * 2 ^ CW ≤ x by omega)
      omega
  · exact fun h => Int.ediv_eq_zero_of_lt h0 h
set_option maxRecDepth 100000 in
set_option maxHeartbeats 4000000 in
theorem refRight_c (l t wd h : Int) (A : Option Addr) (n cA : Nat) (xs : List Int) (w : World) (hx : Kd.C (Kd.int .u64) w A n xs) (hn : n ≤ 1000) (hr : ∀ x ∈ xs, 0 ≤ x ∧ x ≤ 18446744073709551615) :
    Calls Try.prog 42 #[.agg #[.int .i64 l, .int .i64 t, .int .i64 wd, .int .i64 h, .slice A n cA]] w fun e w' => e = .returned (.bool (rightB ⟨l, t, wd, h, xs⟩)) ∧ Below w.heap.size w w' := by
  have rx := Kd.reads_of_C (d := (0 : Int)) hx
  have hxl : xs.length = n := rx.1
  have HRX := Lib.hid rx
  have HXL := Lib.hid hxl
  have HN := Lib.hid hn
  have HRR := Lib.hid hr
  clear rx hx hn hr
  have HX1 := Lib.hid (blk_new w (.cells #[.int .i64 l, .int .i64 t, .int .i64 wd, .int .i64 h, .slice A n cA] 38))
  have HB0 := Lib.hid (below_alloc (Below.refl w.heap.size w) (.cells #[.int .i64 l, .int .i64 t, .int .i64 wd, .int .i64 h, .slice A n cA] 38))
  go_enter Try.func42, Try.ntmps42
  by_cases z0 : wd = 0
  · subst z0
    by_cases z1 : h = 0
    · subst z1
      by_cases z2 : l = 0
      · subst z2
        by_cases z3 : t = 0
        · subst z3
          rw [right_zero, hxl]
          clear hxl
          go_wp2
          go_ret
          refine ⟨?_, HB0.out⟩
          have hne : ((n : Int) == 0) = decide (n = 0) := by rw [Bool.eq_iff_iff]; simp
          show Ending.returned (.bool ((n : Int) == 0)) = _
          rw [hne]
        · have u_ : (t == 0) = false := beq_eq_false_iff_ne.2 z3
          have d_ : decide (t = 0) = false := decide_eq_false z3
          have HR := Lib.hid (show rightB ⟨0, t, 0, 0, xs⟩ = false from right_no (fun e => z3 e.2.2.2) (fun e => by have := e.1; simp only at this; omega))
          rw [HR.out]
          have HZ := Lib.hid z3
          clear z3 hxl
          go_wp2
          go_ret
          exact ⟨rfl, HB0.out⟩
      · have u_ : (l == 0) = false := beq_eq_false_iff_ne.2 z2
        have d_ : decide (l = 0) = false := decide_eq_false z2
        have HR := Lib.hid (show rightB ⟨l, t, 0, 0, xs⟩ = false from right_no (fun e => z2 e.2.2.1) (fun e => by have := e.1; simp only at this; omega))
        rw [HR.out]
        have HZ := Lib.hid z2
        clear z2 hxl
        go_wp2
        go_ret
        exact ⟨rfl, HB0.out⟩
    · have u_ : (h == 0) = false := beq_eq_false_iff_ne.2 z1
      have d_ : decide (h = 0) = false := decide_eq_false z1
      have HR := Lib.hid (show rightB ⟨l, t, 0, h, xs⟩ = false from right_no (fun e => z1 e.2.1) (fun e => by have := e.1; simp only at this; omega))
      rw [HR.out]
      have HZ := Lib.hid z1
      clear z1 hxl
      go_wp2
      go_ret
      exact ⟨rfl, HB0.out⟩
  · have u0 : (wd == 0) = false := beq_eq_false_iff_ne.2 z0
    have d0 : decide (wd = 0) = false := decide_eq_false z0
    by_cases k0 : wd < 1
    · have d0_ : decide (wd < 1) = true := decide_eq_true k0
      have HR := Lib.hid (show rightB ⟨l, t, wd, h, xs⟩ = false from right_no (fun e => z0 e.1) (fun e => by have e_ := e.1; simp only at e_; omega))
      rw [HR.out]
      clear k0 hxl
      go_wp2
      go_ret
      exact ⟨rfl, HB0.out⟩
    · have d0_ : decide (wd < 1) = false := decide_eq_false k0
      by_cases k1 : 64 < wd
      · have d1_ : decide (64 < wd) = true := decide_eq_true k1
        have HR := Lib.hid (show rightB ⟨l, t, wd, h, xs⟩ = false from right_no (fun e => z0 e.1) (fun e => by have e_ := e.2.1; simp only at e_; omega))
        rw [HR.out]
        clear k0 k1 hxl
        go_wp2
        go_ret
        exact ⟨rfl, HB0.out⟩
      · have d1_ : decide (64 < wd) = false := decide_eq_false k1
        by_cases k2 : h < 1
        · have d2_ : decide (h < 1) = true := decide_eq_true k2
          have HR := Lib.hid (show rightB ⟨l, t, wd, h, xs⟩ = false from right_no (fun e => z0 e.1) (fun e => by have e_ := e.2.2.1; simp only at e_; omega))
          rw [HR.out]
          clear k0 k1 k2 hxl
          go_wp2
          go_ret
          exact ⟨rfl, HB0.out⟩
        · have d2_ : decide (h < 1) = false := decide_eq_false k2
          by_cases k3 : 64 < h
          · have d3_ : decide (64 < h) = true := decide_eq_true k3
            have HR := Lib.hid (show rightB ⟨l, t, wd, h, xs⟩ = false from right_no (fun e => z0 e.1) (fun e => by have e_ := e.2.2.2.1; simp only at e_; omega))
            rw [HR.out]
            clear k0 k1 k2 k3 hxl
            go_wp2
            go_ret
            exact ⟨rfl, HB0.out⟩
          · have d3_ : decide (64 < h) = false := decide_eq_false k3
            by_cases k4 : (n : Int) = h
            · have u4 : ((n : Int) == h) = true := beq_iff_eq.2 k4
              have v4 : ((n : Int) != h) = false := by simp [k4]
              have d4 : decide ((n : Int) = h) = true := decide_eq_true k4
              by_cases k5 : l < -10000
              · have d5_ : decide (l < -10000) = true := decide_eq_true k5
                have HR := Lib.hid (show rightB ⟨l, t, wd, h, xs⟩ = false from right_no (fun e => z0 e.1) (fun e => by have e_ := e.2.2.2.2.2.1; simp only at e_; omega))
                rw [HR.out]
                clear k0 k1 k2 k3 k4 k5 hxl
                go_wp2
                go_ret
                exact ⟨rfl, HB0.out⟩
              · have d5_ : decide (l < -10000) = false := decide_eq_false k5
                obtain ⟨s6, r6⟩ : IntKind.i64.wrap (10001 - wd) = 10001 - wd ∧ wrap64 (10001 - wd) = 10001 - wd := subW wd (by omega)
                by_cases k6 : 10001 - wd < l
                · have d6_ : decide (10001 - wd < l) = true := decide_eq_true k6
                  have HR := Lib.hid (show rightB ⟨l, t, wd, h, xs⟩ = false from right_no (fun e => z0 e.1) (fun e => by have e_ := e.2.2.2.2.2.2.1; simp only at e_; omega))
                  rw [HR.out]
                  clear k0 k1 k2 k3 k4 k5 k6 hxl
                  go_wp2
                  go_ret
                  exact ⟨rfl, HB0.out⟩
                · have d6_ : decide (10001 - wd < l) = false := decide_eq_false k6
                  by_cases k7 : t < -10000
                  · have d7_ : decide (t < -10000) = true := decide_eq_true k7
                    have HR := Lib.hid (show rightB ⟨l, t, wd, h, xs⟩ = false from right_no (fun e => z0 e.1) (fun e => by have e_ := e.2.2.2.2.2.2.2.1; simp only at e_; omega))
                    rw [HR.out]
                    clear k0 k1 k2 k3 k4 k5 k6 k7 hxl
                    go_wp2
                    go_ret
                    exact ⟨rfl, HB0.out⟩
                  · have d7_ : decide (t < -10000) = false := decide_eq_false k7
                    obtain ⟨s8, r8⟩ : IntKind.i64.wrap (10001 - h) = 10001 - h ∧ wrap64 (10001 - h) = 10001 - h := subW h (by omega)
                    by_cases k8 : 10001 - h < t
                    · have d8_ : decide (10001 - h < t) = true := decide_eq_true k8
                      have HR := Lib.hid (show rightB ⟨l, t, wd, h, xs⟩ = false from right_no (fun e => z0 e.1) (fun e => by have e_ := e.2.2.2.2.2.2.2.2; simp only at e_; omega))
                      rw [HR.out]
                      clear k0 k1 k2 k3 k4 k5 k6 k7 k8 hxl
                      go_wp2
                      go_ret
                      exact ⟨rfl, HB0.out⟩
                    · have d8_ : decide (10001 - h < t) = false := decide_eq_false k8
                      have hd : 1 ≤ wd ∧ wd ≤ 64 ∧ 1 ≤ h ∧ h ≤ 64 ∧ (xs.length : Int) = h ∧ -10000 ≤ l ∧ l ≤ 10001 - wd ∧ -10000 ≤ t ∧ t ≤ 10001 - h := by rw [hxl]; omega
                      rw [right_all (b := ⟨l, t, wd, h, xs⟩) hd]
                      have HD := Lib.hid hd
                      clear k0 k1 k2 k3 k4 k5 k6 k7 k8 hd hxl
                      obtain ⟨CW, rfl⟩ := Int.eq_ofNat_of_zero_le (show 0 ≤ wd by have := HD.out; omega)
                      have HCW := Lib.hid (show CW ≤ 64 from by have := HD.out; omega)
                      go_upto_block 0 with fail
                      go_wp2
                      clear s6 r6 s8 r8 z0
                      obtain ⟨W2, hW2⟩ : ∃ V, V = w.alloc (.cells #[.int .i64 l, .int .i64 t, .int .i64 (CW : Int), .int .i64 h, .slice A n cA] 38) := ⟨_, rfl⟩
                      rw [← hW2] at HX1 HB0
                      rw [← hW2]
                      clear hW2
                      go_loopg [3] (n + 1) (fun kq v3 w' => ∃ j : Nat, v3 = .int .i64 (j : Int) ∧ j + kq = n + 1 ∧ j ≤ n ∧ (xs.take j).all (rowOk (CW : Int)) = true ∧ Below W2.heap.size W2 w')
                      case atStart => exact ⟨0, rfl, by omega, by omega, rfl, Below.refl _ _⟩
                      case round =>
                        obtain ⟨j, rfl, hj, hjl, ht, hb⟩ := hrel
                        have HT := Lib.hid ht
                        have HB := Lib.hid hb
                        have HJ := Lib.hid (show j + gk = n + 1 ∧ j ≤ n from ⟨hj, hjl⟩)
                        have HBW := Lib.hid (HB0.out.trans (hb.mono HB0.out.size))
                        have b1 := blk_below HX1.out hb
                        have y1 : wr.cell? ⟨w.heap.size, 4, none⟩ = some (.slice A n cA) := ckA b1 4 _ rfl
                        have HB1 := Lib.hid b1
                        by_cases c0 : j < n
                        · have d1 : decide ((j : Int) < (n : Int)) = true := decide_eq_true (by omega)
                          have i1 : ((0 : Int) ≤ (j : Int)) = True := eq_true (by omega)
                          have i2 : ((j : Int) < (n : Int)) = True := eq_true (by omega)
                          have HC := Lib.hid c0
                          obtain ⟨ad, hadA, hcx⟩ := (HRX.out.below HBW.out).at_ (j : Int) (by omega) (by omega)
                          subst hadA
                          rw [Int.toNat_natCast] at hcx
                          have HST := Lib.hid (fun e => all_step (xs := xs) (j := j) (wd := (CW : Int)) (by rw [HXL.out]; exact c0) ht e)
                          have HNO := Lib.hid (fun e => all_no (xs := xs) (j := j) (wd := (CW : Int)) (by rw [HXL.out]; exact c0) e)
                          have hxr := HRR.out _ (rd_mem (xs := xs) (j := j) (by rw [HXL.out]; exact c0))
                          obtain ⟨x, hxe⟩ : ∃ x, rdOf 0 xs (j : Int) = x := ⟨_, rfl⟩
                          rw [hxe] at hcx HST HNO hxr
                          have HSH := Lib.hid (shr_ok x CW hxr.1 HCW.out)
                          have HXR := Lib.hid hxr
                          have HE := Lib.hid (sum1 j (by have := HN.out; omega))
                          have z1 : wr.drew.cell? ⟨w.heap.size, 4, none⟩ = some (.slice (some ad) n cA) := y1
                          have z2 : wr.drew.cell? ⟨w.heap.size, 2, none⟩ = some (.int .i64 (CW : Int)) := ckA HB1.out 2 _ rfl
                          have z3 : wr.drew.cell? (ad.add j) = some (.int .u64 x) := hcx
                          clear ht hb hj hjl c0 hxe b1 hcx hxr
                          go_upto_region 8 with fail
                          by_cases c6 : CW < 64
                          · have g1 : decide ((CW : Int) < 64) = true := decide_eq_true (by omega)
                            have g2 : decide (CW < 64) = true := decide_eq_true c6
                            have g0 : ((0 : Int) ≤ (CW : Int)) = True := eq_true (by omega)
                            clear c6
                            cases hro : rowOk (CW : Int) x with
                            | true =>
                              have h0 := HSH.out.2 hro
                              have HRO := Lib.hid hro
                              have n1 : (x / 2 ^ min CW 64 != 0) = false := by simp [h0]
                              clear hro h0
                              refine start_ (n := 14) (S := fun w' => w'.cell? ⟨w.heap.size, 4, none⟩ = some (.slice (some ad) n cA) ∧ w'.cell? ⟨w.heap.size, 2, none⟩ = some (.int .i64 (CW : Int)) ∧ w'.cell? (ad.add j) = some (.int .u64 x)) (ds := []) #[false, false, false, false, false, false, false, false, false, false, false, false, false, false] (by kernel_rfl) rfl rfl ⟨z1, z2, z3⟩ (fun hHeld => ?_)
                              refine pure_ (i := 0) (N := some 85) (v := ?_) (a' := ?_) #[true, false, false, false, false, false, false, false, false, false, false, false, false, false] rfl rfl (by kernel_rfl) (fun _ _ _ h => h) (Or.inl ⟨by rfl, ?_⟩) ?_ ?_
                              rotate_left
                              · intro w'
                                go_simp
                                with_reducible rfl
                              rotate_left
                              · simp only [Act.put, List.setIfInBounds_toArray, List.set_cons_zero, List.set_cons_succ, i64_w, i32_w]
                                rfl
                              refine take_ (i := 1) (N := some 86) (v := ?_) (a' := ?_) #[true, true, false, false, false, false, false, false, false, false, false, false, false, false] rfl rfl (by kernel_rfl) (fun _ _ _ h => h) (Or.inl ⟨by rfl, ?_⟩) hHeld ?_ ?_
                              rotate_left
                              · rintro w' ⟨s0, s1, s2⟩
                                go_simp
                                with_reducible rfl
                              rotate_left
                              · simp only [Act.put, List.setIfInBounds_toArray, List.set_cons_zero, List.set_cons_succ, i64_w, i32_w]
                                rfl
                              refine pure_ (i := 2) (N := some 87) (v := ?_) (a' := ?_) #[true, true, true, false, false, false, false, false, false, false, false, false, false, false] rfl rfl (by kernel_rfl) (fun _ _ _ h => h) (Or.inl ⟨by rfl, ?_⟩) ?_ ?_
                              rotate_left
                              · intro w'
                                go_simp
                                with_reducible rfl
                              rotate_left
                              · simp only [Act.put, List.setIfInBounds_toArray, List.set_cons_zero, List.set_cons_succ, i64_w, i32_w]
                                rfl
                              refine pure_ (i := 3) (N := some 88) (v := ?_) (a' := ?_) #[true, true, true, true, false, false, false, false, false, false, false, false, false, false] rfl rfl (by kernel_rfl) (fun _ _ _ h => h) (Or.inl ⟨by rfl, ?_⟩) ?_ ?_
                              rotate_left
                              · intro w'
                                go_simp
                                with_reducible rfl
                              rotate_left
                              · simp only [Act.put, List.setIfInBounds_toArray, List.set_cons_zero, List.set_cons_succ, i64_w, i32_w]
                                rfl
                              refine pure_ (i := 4) (N := some 89) (v := ?_) (a' := ?_) #[true, true, true, true, true, false, false, false, false, false, false, false, false, false] rfl rfl (by kernel_rfl) (fun _ _ _ h => h) (Or.inl ⟨by rfl, ?_⟩) ?_ ?_
                              rotate_left
                              · intro w'
                                go_simp
                                with_reducible rfl
                              rotate_left
                              · simp only [Act.put, List.setIfInBounds_toArray, List.set_cons_zero, List.set_cons_succ, i64_w, i32_w]
                                rfl
                              refine pure_ (i := 6) (N := some 91) (v := ?_) (a' := ?_) #[true, true, true, true, true, false, true, false, false, false, false, false, false, false] rfl rfl (by kernel_rfl) (fun _ _ _ h => h) (Or.inl ⟨by rfl, ?_⟩) ?_ ?_
                              rotate_left
                              · intro w'
                                go_simp
                                with_reducible rfl
                              rotate_left
                              · simp only [Act.put, List.setIfInBounds_toArray, List.set_cons_zero, List.set_cons_succ, i64_w, i32_w]
                                rfl
                              refine pure_ (i := 9) (N := some 94) (v := ?_) (a' := ?_) #[true, true, true, true, true, false, true, false, false, true, false, false, false, false] rfl rfl (by kernel_rfl) (fun _ _ _ h => h) (Or.inl ⟨by rfl, ?_⟩) ?_ ?_
                              rotate_left
                              · intro w'
                                go_simp
                                with_reducible rfl
                              rotate_left
                              · simp only [Act.put, List.setIfInBounds_toArray, List.set_cons_zero, List.set_cons_succ, i64_w, i32_w]
                                rfl
                              refine take_ (i := 5) (N := some 90) (v := ?_) (a' := ?_) #[true, true, true, true, true, true, true, false, false, true, false, false, false, false] rfl rfl (by kernel_rfl) (fun _ _ _ h => h) (Or.inl ⟨by rfl, ?_⟩) hHeld ?_ ?_
                              rotate_left
                              · rintro w' ⟨s0, s1, s2⟩
                                go_simp
                                with_reducible rfl
                              rotate_left
                              · simp only [Act.put, List.setIfInBounds_toArray, List.set_cons_zero, List.set_cons_succ, i64_w, i32_w]
                                rfl
                              refine pure_ (i := 7) (N := some 92) (v := ?_) (a' := ?_) #[true, true, true, true, true, true, true, true, false, true, false, false, false, false] rfl rfl (by kernel_rfl) (fun _ _ _ h => h) (Or.inl ⟨by rfl, ?_⟩) ?_ ?_
                              rotate_left
                              · intro w'
                                go_simp
                                with_reducible rfl
                              rotate_left
                              · simp only [Act.put, List.setIfInBounds_toArray, List.set_cons_zero, List.set_cons_succ, i64_w, i32_w]
                                rfl
                              refine take_ (i := 8) (N := some 93) (v := ?_) (a' := ?_) #[true, true, true, true, true, true, true, true, true, true, false, false, false, false] rfl rfl (by kernel_rfl) (fun _ _ _ h => h) (Or.inl ⟨by rfl, ?_⟩) hHeld ?_ ?_
                              rotate_left
                              · rintro w' ⟨s0, s1, s2⟩
                                go_simp
                                with_reducible rfl
                              rotate_left
                              · simp only [Act.put, List.setIfInBounds_toArray, List.set_cons_zero, List.set_cons_succ, i64_w, i32_w]
                                rfl
                              refine take_ (i := 10) (N := some 95) (v := ?_) (a' := ?_) #[true, true, true, true, true, true, true, true, true, true, true, false, false, false] rfl rfl (by kernel_rfl) (fun _ _ _ h => h) (Or.inl ⟨by rfl, ?_⟩) hHeld ?_ ?_
                              rotate_left
                              · rintro w' ⟨s0, s1, s2⟩
                                go_simp
                                with_reducible rfl
                              rotate_left
                              · simp only [Act.put, List.setIfInBounds_toArray, List.set_cons_zero, List.set_cons_succ, i64_w, i32_w]
                                rfl
                              refine pure_ (i := 11) (N := some 96) (v := ?_) (a' := ?_) #[true, true, true, true, true, true, true, true, true, true, true, true, false, false] rfl rfl (by kernel_rfl) (fun _ _ _ h => h) (Or.inl ⟨by rfl, ?_⟩) ?_ ?_
                              rotate_left
                              · intro w'
                                go_simp
                                with_reducible rfl
                              rotate_left
                              · simp only [Act.put, List.setIfInBounds_toArray, List.set_cons_zero, List.set_cons_succ, i64_w, i32_w]
                                rfl
                              refine pure_ (i := 12) (N := some 97) (v := ?_) (a' := ?_) #[true, true, true, true, true, true, true, true, true, true, true, true, true, false] rfl rfl (by kernel_rfl) (fun _ _ _ h => h) (Or.inl ⟨by rfl, ?_⟩) ?_ ?_
                              rotate_left
                              · intro w'
                                go_simp
                                with_reducible rfl
                              rotate_left
                              · simp only [Act.put, List.setIfInBounds_toArray, List.set_cons_zero, List.set_cons_succ, i64_w, i32_w]
                                rfl
                              refine pure_ (i := 13) (N := some 98) (v := ?_) (a' := ?_) #[true, true, true, true, true, true, true, true, true, true, true, true, true, true] rfl rfl (by kernel_rfl) (fun _ _ _ h => h) (Or.inl ⟨by rfl, ?_⟩) ?_ ?_
                              rotate_left
                              · intro w'
                                go_simp
                                with_reducible rfl
                              rotate_left
                              · simp only [Act.put, List.setIfInBounds_toArray, List.set_cons_zero, List.set_cons_succ, i64_w, i32_w]
                                rfl
                              refine done_ (by kernel_rfl) ?_
                              obtain ⟨e1, e2⟩ := HE.out
                              clear hHeld z1 z2 z3 n1
                              cases gk with
                              | zero => exact absurd HJ.out (by have := HC.out; clear e1 e2; omega)
                              | succ kk =>
                                go_wp2
                                go_roundg kk
                                case measure => omega
                                case rel =>
                                  clear e1 e2
                                  exact ⟨j + 1, by first | rfl | rw [HE.out.2], by have := HJ.out; omega, HC.out, HST.out HRO.out, HB.out.drew⟩
                            | false =>
                              have h0 : ¬ x / 2 ^ min CW 64 = 0 := fun e => by have := HSH.out.1 e; rw [hro] at this; cases this
                              have HRO := Lib.hid hro
                              have n1 : (x / 2 ^ min CW 64 != 0) = true := by simpa using h0
                              clear hro h0
                              refine start_ (n := 14) (S := fun w' => w'.cell? ⟨w.heap.size, 4, none⟩ = some (.slice (some ad) n cA) ∧ w'.cell? ⟨w.heap.size, 2, none⟩ = some (.int .i64 (CW : Int)) ∧ w'.cell? (ad.add j) = some (.int .u64 x)) (ds := []) #[false, false, false, false, false, false, false, false, false, false, false, false, false, false] (by kernel_rfl) rfl rfl ⟨z1, z2, z3⟩ (fun hHeld => ?_)
                              refine pure_ (i := 0) (N := some 85) (v := ?_) (a' := ?_) #[true, false, false, false, false, false, false, false, false, false, false, false, false, false] rfl rfl (by kernel_rfl) (fun _ _ _ h => h) (Or.inl ⟨by rfl, ?_⟩) ?_ ?_
                              rotate_left
                              · intro w'
                                go_simp
                                with_reducible rfl
                              rotate_left
                              · simp only [Act.put, List.setIfInBounds_toArray, List.set_cons_zero, List.set_cons_succ, i64_w, i32_w]
                                rfl
                              refine take_ (i := 1) (N := some 86) (v := ?_) (a' := ?_) #[true, true, false, false, false, false, false, false, false, false, false, false, false, false] rfl rfl (by kernel_rfl) (fun _ _ _ h => h) (Or.inl ⟨by rfl, ?_⟩) hHeld ?_ ?_
                              rotate_left
                              · rintro w' ⟨s0, s1, s2⟩
                                go_simp
                                with_reducible rfl
                              rotate_left
                              · simp only [Act.put, List.setIfInBounds_toArray, List.set_cons_zero, List.set_cons_succ, i64_w, i32_w]
                                rfl
                              refine pure_ (i := 2) (N := some 87) (v := ?_) (a' := ?_) #[true, true, true, false, false, false, false, false, false, false, false, false, false, false] rfl rfl (by kernel_rfl) (fun _ _ _ h => h) (Or.inl ⟨by rfl, ?_⟩) ?_ ?_
                              rotate_left
                              · intro w'
                                go_simp
                                with_reducible rfl
                              rotate_left
                              · simp only [Act.put, List.setIfInBounds_toArray, List.set_cons_zero, List.set_cons_succ, i64_w, i32_w]
                                rfl
                              refine pure_ (i := 3) (N := some 88) (v := ?_) (a' := ?_) #[true, true, true, true, false, false, false, false, false, false, false, false, false, false] rfl rfl (by kernel_rfl) (fun _ _ _ h => h) (Or.inl ⟨by rfl, ?_⟩) ?_ ?_
                              rotate_left
                              · intro w'
                                go_simp
                                with_reducible rfl
                              rotate_left
                              · simp only [Act.put, List.setIfInBounds_toArray, List.set_cons_zero, List.set_cons_succ, i64_w, i32_w]
                                rfl
                              refine pure_ (i := 4) (N := some 89) (v := ?_) (a' := ?_) #[true, true, true, true, true, false, false, false, false, false, false, false, false, false] rfl rfl (by kernel_rfl) (fun _ _ _ h => h) (Or.inl ⟨by rfl, ?_⟩) ?_ ?_
                              rotate_left
                              · intro w'
                                go_simp
                                with_reducible rfl
                              rotate_left
                              · simp only [Act.put, List.setIfInBounds_toArray, List.set_cons_zero, List.set_cons_succ, i64_w, i32_w]
                                rfl
                              refine pure_ (i := 6) (N := some 91) (v := ?_) (a' := ?_) #[true, true, true, true, true, false, true, false, false, false, false, false, false, false] rfl rfl (by kernel_rfl) (fun _ _ _ h => h) (Or.inl ⟨by rfl, ?_⟩) ?_ ?_
                              rotate_left
                              · intro w'
                                go_simp
                                with_reducible rfl
                              rotate_left
                              · simp only [Act.put, List.setIfInBounds_toArray, List.set_cons_zero, List.set_cons_succ, i64_w, i32_w]
                                rfl
                              refine pure_ (i := 9) (N := some 94) (v := ?_) (a' := ?_) #[true, true, true, true, true, false, true, false, false, true, false, false, false, false] rfl rfl (by kernel_rfl) (fun _ _ _ h => h) (Or.inl ⟨by rfl, ?_⟩) ?_ ?_
                              rotate_left
                              · intro w'
                                go_simp
                                with_reducible rfl
                              rotate_left
                              · simp only [Act.put, List.setIfInBounds_toArray, List.set_cons_zero, List.set_cons_succ, i64_w, i32_w]
                                rfl
                              refine take_ (i := 5) (N := some 90) (v := ?_) (a' := ?_) #[true, true, true, true, true, true, true, false, false, true, false, false, false, false] rfl rfl (by kernel_rfl) (fun _ _ _ h => h) (Or.inl ⟨by rfl, ?_⟩) hHeld ?_ ?_
                              rotate_left
                              · rintro w' ⟨s0, s1, s2⟩
                                go_simp
                                with_reducible rfl
                              rotate_left
                              · simp only [Act.put, List.setIfInBounds_toArray, List.set_cons_zero, List.set_cons_succ, i64_w, i32_w]
                                rfl
                              refine pure_ (i := 7) (N := some 92) (v := ?_) (a' := ?_) #[true, true, true, true, true, true, true, true, false, true, false, false, false, false] rfl rfl (by kernel_rfl) (fun _ _ _ h => h) (Or.inl ⟨by rfl, ?_⟩) ?_ ?_
                              rotate_left
                              · intro w'
                                go_simp
                                with_reducible rfl
                              rotate_left
                              · simp only [Act.put, List.setIfInBounds_toArray, List.set_cons_zero, List.set_cons_succ, i64_w, i32_w]
                                rfl
                              refine take_ (i := 8) (N := some 93) (v := ?_) (a' := ?_) #[true, true, true, true, true, true, true, true, true, true, false, false, false, false] rfl rfl (by kernel_rfl) (fun _ _ _ h => h) (Or.inl ⟨by rfl, ?_⟩) hHeld ?_ ?_
                              rotate_left
                              · rintro w' ⟨s0, s1, s2⟩
                                go_simp
                                with_reducible rfl
                              rotate_left
                              · simp only [Act.put, List.setIfInBounds_toArray, List.set_cons_zero, List.set_cons_succ, i64_w, i32_w]
                                rfl
                              refine take_ (i := 10) (N := some 95) (v := ?_) (a' := ?_) #[true, true, true, true, true, true, true, true, true, true, true, false, false, false] rfl rfl (by kernel_rfl) (fun _ _ _ h => h) (Or.inl ⟨by rfl, ?_⟩) hHeld ?_ ?_
                              rotate_left
                              · rintro w' ⟨s0, s1, s2⟩
                                go_simp
                                with_reducible rfl
                              rotate_left
                              · simp only [Act.put, List.setIfInBounds_toArray, List.set_cons_zero, List.set_cons_succ, i64_w, i32_w]
                                rfl
                              refine pure_ (i := 11) (N := some 96) (v := ?_) (a' := ?_) #[true, true, true, true, true, true, true, true, true, true, true, true, false, false] rfl rfl (by kernel_rfl) (fun _ _ _ h => h) (Or.inl ⟨by rfl, ?_⟩) ?_ ?_
                              rotate_left
                              · intro w'
                                go_simp
                                with_reducible rfl
                              rotate_left
                              · simp only [Act.put, List.setIfInBounds_toArray, List.set_cons_zero, List.set_cons_succ, i64_w, i32_w]
                                rfl
                              refine pure_ (i := 12) (N := some 97) (v := ?_) (a' := ?_) #[true, true, true, true, true, true, true, true, true, true, true, true, true, false] rfl rfl (by kernel_rfl) (fun _ _ _ h => h) (Or.inl ⟨by rfl, ?_⟩) ?_ ?_
                              rotate_left
                              · intro w'
                                go_simp
                                with_reducible rfl
                              rotate_left
                              · simp only [Act.put, List.setIfInBounds_toArray, List.set_cons_zero, List.set_cons_succ, i64_w, i32_w]
                                rfl
                              refine pure_ (i := 13) (N := some 98) (v := ?_) (a' := ?_) #[true, true, true, true, true, true, true, true, true, true, true, true, true, true] rfl rfl (by kernel_rfl) (fun _ _ _ h => h) (Or.inl ⟨by rfl, ?_⟩) ?_ ?_
                              rotate_left
                              · intro w'
                                go_simp
                                with_reducible rfl
                              rotate_left
                              · simp only [Act.put, List.setIfInBounds_toArray, List.set_cons_zero, List.set_cons_succ, i64_w, i32_w]
                                rfl
                              refine done_ (by kernel_rfl) ?_
                              clear hHeld z1 z2 z3 n1
                              go_wp2
                              go_ret
                              refine ⟨?_, HB0.out.trans (HB.out.drew.mono HB0.out.size)⟩
                              rw [HNO.out HRO.out]
                              rfl
                          · have g1 : decide ((CW : Int) < 64) = false := decide_eq_false (by omega)
                            have g2 : decide (CW < 64) = false := decide_eq_false c6
                            have hro : rowOk (CW : Int) x = true := HSH.out.1 (by
                              have h1 := HXR.out
                              have h2 := HCW.out
                              have h3 : CW = 64 := by omega
                              rw [h3]
                              have h4 : (2 : Int) ^ min 64 64 = 18446744073709551616 := rfl
                              exact Int.ediv_eq_zero_of_lt h1.1 (by omega))
                            have HRO := Lib.hid hro
                            clear hro c6
                            refine start_ (n := 14) (S := fun w' => w'.cell? ⟨w.heap.size, 4, none⟩ = some (.slice (some ad) n cA) ∧ w'.cell? ⟨w.heap.size, 2, none⟩ = some (.int .i64 (CW : Int)) ∧ w'.cell? (ad.add j) = some (.int .u64 x)) (ds := []) #[false, false, false, false, false, false, false, false, false, false, false, false, false, false] (by kernel_rfl) rfl rfl ⟨z1, z2, z3⟩ (fun hHeld => ?_)
                            refine pure_ (i := 0) (N := some 85) (v := ?_) (a' := ?_) #[true, false, false, false, false, false, false, false, false, false, false, false, false, false] rfl rfl (by kernel_rfl) (fun _ _ _ h => h) (Or.inl ⟨by rfl, ?_⟩) ?_ ?_
                            rotate_left
                            · intro w'
                              go_simp
                              with_reducible rfl
                            rotate_left
                            · simp only [Act.put, List.setIfInBounds_toArray, List.set_cons_zero, List.set_cons_succ, i64_w, i32_w]
                              rfl
                            refine take_ (i := 1) (N := some 86) (v := ?_) (a' := ?_) #[true, true, false, false, false, false, false, false, false, false, false, false, false, false] rfl rfl (by kernel_rfl) (fun _ _ _ h => h) (Or.inl ⟨by rfl, ?_⟩) hHeld ?_ ?_
                            rotate_left
                            · rintro w' ⟨s0, s1, s2⟩
                              go_simp
                              with_reducible rfl
                            rotate_left
                            · simp only [Act.put, List.setIfInBounds_toArray, List.set_cons_zero, List.set_cons_succ, i64_w, i32_w]
                              rfl
                            refine pure_ (i := 2) (N := some 87) (v := ?_) (a' := ?_) #[true, true, true, false, false, false, false, false, false, false, false, false, false, false] rfl rfl (by kernel_rfl) (fun _ _ _ h => h) (Or.inl ⟨by rfl, ?_⟩) ?_ ?_
                            rotate_left
                            · intro w'
                              go_simp
                              with_reducible rfl
                            rotate_left
                            · simp only [Act.put, List.setIfInBounds_toArray, List.set_cons_zero, List.set_cons_succ, i64_w, i32_w]
                              rfl
                            refine pure_ (i := 3) (N := some 88) (v := ?_) (a' := ?_) #[true, true, true, true, false, false, false, false, false, false, false, false, false, false] rfl rfl (by kernel_rfl) (fun _ _ _ h => h) (Or.inl ⟨by rfl, ?_⟩) ?_ ?_
                            rotate_left
                            · intro w'
                              go_simp
                              with_reducible rfl
                            rotate_left
                            · simp only [Act.put, List.setIfInBounds_toArray, List.set_cons_zero, List.set_cons_succ, i64_w, i32_w]
                              rfl
                            refine pure_ (i := 4) (N := some 89) (v := undef) (a' := ?_) #[true, true, true, true, true, false, false, false, false, false, false, false, false, false] rfl rfl (by kernel_rfl) (fun _ _ _ h => h) (Or.inr ⟨by rfl, rfl⟩) ?_ ?_
                            rotate_left
                            · simp only [Act.put, List.setIfInBounds_toArray, List.set_cons_zero, List.set_cons_succ, i64_w, i32_w]
                              rfl
                            refine pure_ (i := 5) (N := some 90) (v := undef) (a' := ?_) #[true, true, true, true, true, true, false, false, false, false, false, false, false, false] rfl rfl (by kernel_rfl) (fun _ _ _ h => h) (Or.inr ⟨by rfl, rfl⟩) ?_ ?_
                            rotate_left
                            · simp only [Act.put, List.setIfInBounds_toArray, List.set_cons_zero, List.set_cons_succ, i64_w, i32_w]
                              rfl
                            refine pure_ (i := 6) (N := some 91) (v := undef) (a' := ?_) #[true, true, true, true, true, true, true, false, false, false, false, false, false, false] rfl rfl (by kernel_rfl) (fun _ _ _ h => h) (Or.inr ⟨by rfl, rfl⟩) ?_ ?_
                            rotate_left
                            · simp only [Act.put, List.setIfInBounds_toArray, List.set_cons_zero, List.set_cons_succ, i64_w, i32_w]
                              rfl
                            refine pure_ (i := 7) (N := some 92) (v := undef) (a' := ?_) #[true, true, true, true, true, true, true, true, false, false, false, false, false, false] rfl rfl (by kernel_rfl) (fun _ _ _ h => h) (Or.inr ⟨by rfl, rfl⟩) ?_ ?_
                            rotate_left
                            · simp only [Act.put, List.setIfInBounds_toArray, List.set_cons_zero, List.set_cons_succ, i64_w, i32_w]
                              rfl
                            refine pure_ (i := 8) (N := some 93) (v := undef) (a' := ?_) #[true, true, true, true, true, true, true, true, true, false, false, false, false, false] rfl rfl (by kernel_rfl) (fun _ _ _ h => h) (Or.inr ⟨by rfl, rfl⟩) ?_ ?_
                            rotate_left
                            · simp only [Act.put, List.setIfInBounds_toArray, List.set_cons_zero, List.set_cons_succ, i64_w, i32_w]
                              rfl
                            refine pure_ (i := 9) (N := some 94) (v := undef) (a' := ?_) #[true, true, true, true, true, true, true, true, true, true, false, false, false, false] rfl rfl (by kernel_rfl) (fun _ _ _ h => h) (Or.inr ⟨by rfl, rfl⟩) ?_ ?_
                            rotate_left
                            · simp only [Act.put, List.setIfInBounds_toArray, List.set_cons_zero, List.set_cons_succ, i64_w, i32_w]
                              rfl
                            refine pure_ (i := 10) (N := some 95) (v := undef) (a' := ?_) #[true, true, true, true, true, true, true, true, true, true, true, false, false, false] rfl rfl (by kernel_rfl) (fun _ _ _ h => h) (Or.inr ⟨by rfl, rfl⟩) ?_ ?_
                            rotate_left
                            · simp only [Act.put, List.setIfInBounds_toArray, List.set_cons_zero, List.set_cons_succ, i64_w, i32_w]
                              rfl
                            refine pure_ (i := 11) (N := some 96) (v := undef) (a' := ?_) #[true, true, true, true, true, true, true, true, true, true, true, true, false, false] rfl rfl (by kernel_rfl) (fun _ _ _ h => h) (Or.inr ⟨by rfl, rfl⟩) ?_ ?_
                            rotate_left
                            · simp only [Act.put, List.setIfInBounds_toArray, List.set_cons_zero, List.set_cons_succ, i64_w, i32_w]
                              rfl
                            refine pure_ (i := 12) (N := some 97) (v := undef) (a' := ?_) #[true, true, true, true, true, true, true, true, true, true, true, true, true, false] rfl rfl (by kernel_rfl) (fun _ _ _ h => h) (Or.inr ⟨by rfl, rfl⟩) ?_ ?_
                            rotate_left
                            · simp only [Act.put, List.setIfInBounds_toArray, List.set_cons_zero, List.set_cons_succ, i64_w, i32_w]
                              rfl
                            refine pure_ (i := 13) (N := some 98) (v := ?_) (a' := ?_) #[true, true, true, true, true, true, true, true, true, true, true, true, true, true] rfl rfl (by kernel_rfl) (fun _ _ _ h => h) (Or.inl ⟨by rfl, ?_⟩) ?_ ?_
                            rotate_left
                            · intro w'
                              go_simp
                              with_reducible rfl
                            rotate_left
                            · simp only [Act.put, List.setIfInBounds_toArray, List.set_cons_zero, List.set_cons_succ, i64_w, i32_w]
                              rfl
                            refine done_ (by kernel_rfl) ?_
                            obtain ⟨e1, e2⟩ := HE.out
                            clear hHeld z1 z2 z3
                            cases gk with
                            | zero => exact absurd HJ.out (by have := HC.out; clear e1 e2; omega)
                            | succ kk =>
                              go_wp2
                              go_roundg kk
                              case measure => omega
                              case rel =>
                                clear e1 e2
                                exact ⟨j + 1, by first | rfl | rw [HE.out.2], by have := HJ.out; omega, HC.out, HST.out HRO.out, HB.out.drew⟩
                        · have d1 : decide ((j : Int) < (n : Int)) = false := decide_eq_false (by omega)
                          have hje : j = n := by omega
                          subst hje
                          clear ht hb hj hjl c0 b1
                          go_wp2
                          go_ret
                          refine ⟨?_, HB0.out.trans (HB.out.mono HB0.out.size)⟩
                          have hal : xs.all (rowOk (CW : Int)) = true := by
                            have h1 := HT.out
                            have h2 := HXL.out
                            rwa [List.take_of_length_le (by omega)] at h1
                          rw [hal]
                          rfl
            · have u4 : ((n : Int) == h) = false := beq_eq_false_iff_ne.2 k4
              have v4 : ((n : Int) != h) = true := by simpa using k4
              have d4 : decide ((n : Int) = h) = false := decide_eq_false k4
              have HR := Lib.hid (show rightB ⟨l, t, wd, h, xs⟩ = false from right_no (fun e => z0 e.1) (fun e => by have e_ := e.2.2.2.2.1; simp only [hxl] at e_; omega))
              rw [HR.out]
              clear k0 k1 k2 k3 k4 hxl
              go_wp2
              go_ret
              exact ⟨rfl, HB0.out⟩
end Go.Proofs.Ytoleencecfjcjaa.At

/- The reference's atlas: its state; find, Names, Rect. -/
set_option linter.unusedVariables false
set_option linter.unusedSimpArgs false
namespace Go.Proofs.Ytoleencecfjcjaa.At
open Go.RowKit Go.Proofs.YtoleencecfjcjaaW.PrintWords Go.Proofs.YtoleencecfjcjaaW.PrintLast Go.Proofs.YtoleencecfjcjaaW.PrintMore Go.Proofs.Ytoleencecfjcjaa.Rng
/-- An entry with where its rows lie. -/
structure Re where
  e : En
  A : Option Addr
  c : Nat
def Re.cells (x : Re) : List Value := [.string x.e.nm, .int .i64 x.e.b.l, .int .i64 x.e.b.t, .int .i64 x.e.b.w, .int .i64 x.e.b.h, .slice x.A x.e.b.rows.length x.c, .int .i64 x.e.r.x, .int .i64 x.e.r.y, .int .i64 x.e.r.w, .int .i64 x.e.r.h]
def kRe : Kd Re where
  sz := 10
  E := []
  K := fun _ x cs => cs = x.cells
  M := fun _ _ _ x cs => cs = x.cells
  K_len := by rintro w x cs rfl; rfl
  K_one := by
    rintro w x cs rfl u hu
    simp [Re.cells] at hu
    rcases hu with rfl | rfl | rfl | rfl | rfl | rfl | rfl | rfl | rfl | rfl <;> rfl
  K_below := fun _ h => h
  K_of_M := fun h => h
  M_mono := fun _ h => h
  M_bound := fun h => h
  M_move := fun _ h => h
  M_lower := fun _ h => h
def zRe : Value := .agg #[.string ⟨#[]⟩, .int .i64 0, .int .i64 0, .int .i64 0, .int .i64 0, .slice none 0 0, .int .i64 0, .int .i64 0, .int .i64 0, .int .i64 0]
theorem undRe : Try.prog.underlying 80 = some (.slice 91) := by kernel_rfl
theorem infoRe : (Try.prog.info? 91).map (fun i => (i.zero, i.size, i.bytes)) = some (some zRe, kRe.sz, 104) := by kernel_rfl
theorem inf10 {cs : Array Value} (h : cs.size = 10) : (Try.prog.info? 91).map (·.size) = some cs.size := by rw [h]; kernel_rfl
structure RefI (w : World) (g W H : Nat) (X : List Re) (v : Value) (Q : Nat → Prop) : Prop where
  cell : w.heap[g]? = some (.cells #[.int .i64 (W : Int), .int .i64 (H : Int), v] 82 (0, 0))
  row : Kd.R kRe 91 w 0 (fun _ => True) v X
  own : ∀ k, v.ownBlock = some k → Q k
  good : ∀ x ∈ X, Kd.C (Kd.int .u64) w x.A x.e.b.rows.length x.e.b.rows ∧ x.e.b.rows.length ≤ x.c ∧ ∀ ad, x.A = some ad → Q ad.block ∧ ad.block ≠ g ∧ v.ownBlock ≠ some ad.block
  gQ : Q g
  lt : ∀ k, Q k → k < w.heap.size
def RefS (w : World) (g W H : Nat) (L : List En) (Q : Nat → Prop) : Prop := ∃ X v, RefI w g W H X v Q ∧ X.map Re.e = L
theorem own_g {w : World} {g W H : Nat} {X : List Re} {v : Value} {Q : Nat → Prop} (h : RefI w g W H X v Q) : v.ownBlock ≠ some g := fun e => by
  obtain ⟨_, cs, h1⟩ := own_blk h.row e
  rw [h.cell] at h1
  injection h1 with h1
  injection h1 with _ h1
  exact absurd h1 (by decide)
theorem Re_keep {e base : Nat} {w w1 : World} {v : Value} {X : List Re} (h : Kd.R kRe e w base (fun _ => True) v X) (hm : ∀ k, v.ownBlock = some k → w1.heap[k]? = w.heap[k]?) : Kd.R kRe e w1 base (fun _ => True) v X :=
  Kd.R_mono (Kd.R_move (Kd.R_tight rfl h) (fun k hk => hm k hk.symm)) (fun _ _ => trivial)
theorem RefI.keep {w w1 : World} {g W H : Nat} {X : List Re} {v : Value} {Q T : Nat → Prop} (h : RefI w g W H X v Q) (hs : Step T w w1) (hT : ∀ k, T k → ¬ Q k) : RefI w1 g W H X v Q where
  cell := hs.same h.cell (fun e => hT g e h.gQ)
  row := Re_keep h.row (fun k hk => hs.1.2 k (h.lt k (h.own k hk)) (fun e => hT k e (h.own k hk)))
  own := h.own
  good := fun x hx => ⟨C_keep (h.good x hx).1 (fun ad had hlt => hs.1.2 ad.block hlt (fun e => hT _ e ((h.good x hx).2.2 ad had).1)), (h.good x hx).2⟩
  gQ := h.gQ
  lt := fun k hk => Nat.lt_of_lt_of_le (h.lt k hk) hs.size
theorem RefI.below {w w1 : World} {g W H : Nat} {X : List Re} {v : Value} {Q : Nat → Prop} (h : RefI w g W H X v Q) (hb : Below w.heap.size w w1) : RefI w1 g W H X v Q := h.keep (Step.of_below hb (fun _ => False)) (fun _ e => e.elim)
theorem RefS.keep {w w1 : World} {g W H : Nat} {L : List En} {Q T : Nat → Prop} (h : RefS w g W H L Q) (hs : Step T w w1) (hT : ∀ k, T k → ¬ Q k) : RefS w1 g W H L Q := by
  obtain ⟨X, v, h, e⟩ := h
  exact ⟨X, v, h.keep hs hT, e⟩
theorem RefS.below {w w1 : World} {g W H : Nat} {L : List En} {Q : Nat → Prop} (h : RefS w g W H L Q) (hb : Below w.heap.size w w1) : RefS w1 g W H L Q := h.keep (Step.of_below hb (fun _ => False)) (fun _ e => e.elim)
/-- The slice of the entries. -/
theorem row_re {w : World} {base : Nat} {ok : Nat → Prop} {v : Value} {X : List Re} (h : Kd.R kRe 91 w base ok v X) : ∃ A cap, v = .slice A X.length cap ∧ (0 < X.length → ∃ ga, A = some ⟨ga, 0, none⟩ ∧ v.ownBlock = some ga ∧ ∀ j x, X[j]? = some x → w.rangeAt ga (j * 10) x.cells) := by
  obtain ⟨_, inner, ⟨hlen, hv⟩, hreps⟩ := h
  have hz : kRe.sz = 10 := rfl
  rw [hz] at hlen hv hreps
  rcases hv with ⟨rfl, h0⟩ | ⟨G, cap, cur, rfl, hG, hH, hcap, hmax, hsz, htake⟩
  · refine ⟨none, 0, by rw [h0], fun hn => absurd hn (by omega)⟩
  · refine ⟨some ⟨G, 0, none⟩, cap, rfl, fun hn => ⟨G, rfl, by simp [Value.ownBlock], fun j x hx i u hu => ?_⟩⟩
    have h1 := hreps.2 j x hx
    have hj : j < X.length := (List.getElem?_eq_some_iff.1 hx).1
    have h1 : List.take 10 (List.drop (j * 10) inner) = x.cells := h1
    have hi : i < 10 := (List.getElem?_eq_some_iff.1 hu).1
    have h2 : inner[j * 10 + i]? = some u := by
      rw [← h1, List.getElem?_take, if_pos hi, List.getElem?_drop] at hu
      exact hu
    rw [← htake, List.getElem?_take] at h2
    split at h2
    · exact ckA hH _ _ (by simpa using h2)
    · cases h2
def idxP (L : List En) (nm : ByteArray) : Int := match L.findIdx? (fun e => nmEq e.nm nm) with
  | some j => (j : Int)
  | none => -1
theorem idx_none {L : List En} {nm : ByteArray} (h : ∀ e ∈ L, nmEq e.nm nm = false) : idxP L nm = -1 := by
  unfold idxP
  rw [List.findIdx?_eq_none_iff.2 (fun e he => h e he)]
theorem idx_some {L : List En} {nm : ByteArray} {j : Nat} {e : En} (hj : L[j]? = some e) (he : nmEq e.nm nm = true) (h : ∀ e ∈ L.take j, nmEq e.nm nm = false) : idxP L nm = (j : Int) := by
  have hlt := (List.getElem?_eq_some_iff.1 hj).1
  have hge := (List.getElem?_eq_some_iff.1 hj).2
  unfold idxP
  have : L.findIdx? (fun e => nmEq e.nm nm) = some j := by
    rw [List.findIdx?_eq_some_iff_getElem]
    refine ⟨hlt, by rw [hge]; exact he, fun i hi => ?_⟩
    have h1 := h (L[i]'(by omega)) (List.mem_take_iff_getElem.2 ⟨i, by omega, rfl⟩)
    simp [h1]
  rw [this]
set_option maxRecDepth 100000 in
set_option maxHeartbeats 4000000 in
theorem find_c {w : World} {g W H : Nat} {X : List Re} {v : Value} {Q : Nat → Prop} (h : RefI w g W H X v Q) (hX : X.length ≤ 1000000) (nm : ByteArray) : Calls Try.prog 34 #[.pointer (some ⟨g, 0, none⟩), .string nm] w fun e w' => e = .returned (.int .i64 (idxP (X.map Re.e) nm)) ∧ w' = w := by
  obtain ⟨A, cap, rfl, hr⟩ := row_re h.row
  have q2 : w.cell? ⟨g, 2, none⟩ = some (.slice A X.length cap) := ckA h.cell 2 _ rfl
  have HX := Lib.hid hX
  have HR := Lib.hid hr
  clear h hX hr
  go_enter Try.func34, Try.ntmps34
  go_wp2
  go_loopg [5] (X.length + 1) (fun kq v5 w' => ∃ j : Nat, v5 = .int .i64 (j : Int) ∧ j + kq = X.length + 1 ∧ j ≤ X.length ∧ (∀ e ∈ (X.map Re.e).take j, nmEq e.nm nm = false) ∧ w' = w)
  case atStart => exact ⟨0, rfl, by omega, by omega, fun e he => by simp at he, rfl⟩
  case round =>
    obtain ⟨j, rfl, hj, hjl, hno, hwr⟩ := hrel
    subst hwr
    have HJ := Lib.hid (show j + gk = X.length + 1 ∧ j ≤ X.length from ⟨hj, hjl⟩)
    have HNO := Lib.hid hno
    by_cases c0 : j < X.length
    · have d1 : decide ((j : Int) < (X.length : Int)) = true := decide_eq_true (by omega)
      have i1 : ((0 : Int) ≤ (j : Int)) = True := eq_true (by omega)
      have i2 : ((j : Int) < (X.length : Int)) = True := eq_true (by omega)
      have HC := Lib.hid c0
      obtain ⟨ga, rfl, _, hcl⟩ := HR.out (by omega)
      obtain ⟨x, hx⟩ : ∃ x, X[j]? = some x := ⟨X[j], List.getElem?_eq_getElem c0⟩
      have z0 : wr.cell? ⟨ga, j * 10, none⟩ = some (.string x.e.nm) := hcl j x hx 0 _ rfl
      have HE := Lib.hid (sum1 j)
      have HXE := Lib.hid (show (X.map Re.e)[j]? = some x.e from by rw [List.getElem?_map, hx]; rfl)
      clear hj hjl hno c0 hcl hx
      cases hb : nmEq x.e.nm nm with
      | true =>
        have n1 : (x.e.nm.toList == nm.toList) = true := hb
        have HB := Lib.hid hb
        clear hb
        go_wp2
        go_ret
        refine ⟨?_, rfl⟩
        rw [idx_some HXE.out HB.out HNO.out]
        rfl
      | false =>
        have n1 : (x.e.nm.toList == nm.toList) = false := hb
        have HB := Lib.hid hb
        have HS1 := Lib.hid (show IntKind.i64.wrap ((j : Int) + 1) = ((j + 1 : Nat) : Int) ∧ wrap64 ((j : Int) + 1) = ((j + 1 : Nat) : Int) from by
          have h1 := HX.out
          have h2 := HC.out
          constructor
          · rw [IntKind.wrap_i64]; omega
          · unfold wrap64; omega)
        obtain ⟨e1, e2⟩ := HS1.out
        clear hb
        cases gk with
        | zero => exact absurd HJ.out (by have := HC.out; clear e1 e2; omega)
        | succ kk =>
          go_wp2
          go_roundg kk
          case measure => omega
          case rel =>
            clear e1 e2
            refine ⟨j + 1, by first | rfl | rw [HS1.out.2], by have := HJ.out; omega, HC.out, fun e he => ?_, rfl⟩
            rw [List.take_add_one, HXE.out] at he
            rcases List.mem_append.1 he with he | he
            · exact HNO.out e he
            · simp at he
              rw [he]
              exact HB.out
    · have d1 : decide ((j : Int) < (X.length : Int)) = false := decide_eq_false (by omega)
      have hje : j = X.length := by omega
      subst hje
      clear hj hjl hno c0
      go_wp2
      go_ret
      refine ⟨?_, rfl⟩
      rw [idx_none (fun e he => HNO.out e (by rw [List.take_of_length_le (by rw [List.length_map]; omega)]; exact he))]
      rfl
end Go.Proofs.Ytoleencecfjcjaa.At

/- The reference's atlas: New, Names, Rect, copied. -/
set_option linter.unusedVariables false
set_option linter.unusedSimpArgs false
namespace Go.Proofs.Ytoleencecfjcjaa.At
open Go.RowKit Go.Proofs.YtoleencecfjcjaaW.PrintWords Go.Proofs.YtoleencecfjcjaaW.PrintLast Go.Proofs.YtoleencecfjcjaaW.PrintMore Go.Proofs.Ytoleencecfjcjaa.Rng
theorem idx_get (L : List En) (nm : ByteArray) : (idxP L nm = -1 ∧ getP L nm = none) ∨ ∃ (j : Nat) (e : En), idxP L nm = (j : Int) ∧ L[j]? = some e ∧ getP L nm = some e ∧ nmEq e.nm nm = true := by
  unfold idxP getP
  cases h : L.findIdx? (fun e => nmEq e.nm nm) with
  | none =>
    rw [List.findIdx?_eq_none_iff] at h
    exact .inl ⟨rfl, List.find?_eq_none.2 (fun e he => by rw [h e he]; exact Bool.false_ne_true)⟩
  | some j =>
    rw [List.findIdx?_eq_some_iff_getElem] at h
    obtain ⟨hj, h1, h2⟩ := h
    refine .inr ⟨j, L[j], rfl, List.getElem?_eq_getElem hj, ?_, h1⟩
    rw [List.find?_eq_some_iff_getElem]
    exact ⟨h1, j, hj, rfl, fun i hi => by simpa using h2 i hi⟩
set_option maxRecDepth 100000 in
set_option maxHeartbeats 4000000 in
theorem refNew_c (W H : Nat) (hW : 1 ≤ W ∧ W ≤ 128) (hH : 1 ≤ H ∧ H ≤ 128) (w : World) : Calls Try.prog 11 #[.int .i64 (W : Int), .int .i64 (H : Int)] w fun e w' => ∃ g, e = .returned (.pointer (some ⟨g, 0, none⟩)) ∧ w.heap.size ≤ g ∧ RefS w' g W H [] (fun k => k = g) ∧ Below w.heap.size w w' := by
  have t1 : decide ((W : Int) < 1) = false := decide_eq_false (by omega)
  have t2 : decide (128 < (W : Int)) = false := decide_eq_false (by omega)
  have t3 : decide ((H : Int) < 1) = false := decide_eq_false (by omega)
  have t4 : decide (128 < (H : Int)) = false := decide_eq_false (by omega)
  clear hW hH
  go_enter Try.func11, Try.ntmps11
  go_wp2
  go_ret
  exact ⟨_, rfl, Nat.le_refl _, ⟨[], _, ⟨blk_new _ _, Kd.R_nil _ _ _ _ _, fun k hk => by simp [Value.ownBlock] at hk, fun x hx => absurd hx (by simp), rfl, fun k hk => by subst hk; simp⟩, rfl⟩, below_alloc (Below.refl _ _) _⟩
set_option maxRecDepth 100000 in
set_option maxHeartbeats 4000000 in
theorem refNames_c {w : World} {g W H : Nat} {X : List Re} {v : Value} {Q : Nat → Prop} (h : RefI w g W H X v Q) (hX : X.length ≤ 1000000) : Calls Try.prog 23 #[.pointer (some ⟨g, 0, none⟩)] w fun e w' => ∃ u, e = .returned u ∧ Kd.R Kd.string 9 w' w.heap.size (fun _ => True) u ((X.map Re.e).map En.nm) ∧ Below w.heap.size w w' := by
  have HI := Lib.hid h
  obtain ⟨A, cap, rfl, hr⟩ := row_re h.row
  have HX := Lib.hid hX
  clear h hX hr
  go_enter Try.func23, Try.ntmps23
  go_wp2
  go_loopg [3, 4] (X.length + 1) (fun kq v3 v4 w' => ∃ j : Nat, v4 = .int .i64 (j : Int) ∧ j + kq = X.length + 1 ∧ j ≤ X.length ∧ Kd.R Kd.string 9 w' w.heap.size (fun _ => True) v3 (((X.map Re.e).map En.nm).take j) ∧ Below w.heap.size w w')
  case atStart => exact ⟨0, rfl, by omega, by omega, Kd.R_nil _ _ _ _ _, Below.refl _ _⟩
  case round =>
    obtain ⟨j, rfl, hj, hjl, hro, hb⟩ := hrel
    have HJ := Lib.hid (show j + gk = X.length + 1 ∧ j ≤ X.length from ⟨hj, hjl⟩)
    have HRO := Lib.hid hro
    have HB := Lib.hid hb
    have hI := HI.out.below hb
    have q2 := ckA hI.cell 2 _ rfl
    by_cases c0 : j < X.length
    · have d1 : decide ((j : Int) < (X.length : Int)) = true := decide_eq_true (by omega)
      have i1 : ((0 : Int) ≤ (j : Int)) = True := eq_true (by omega)
      have i2 : ((j : Int) < (X.length : Int)) = True := eq_true (by omega)
      have HC := Lib.hid c0
      obtain ⟨A', cap', e0, hr⟩ := row_re hI.row
      injection e0 with e1 _ e3
      subst e1
      obtain ⟨ga, rfl, _, hcl⟩ := hr (by omega)
      obtain ⟨x, hx⟩ : ∃ x, X[j]? = some x := ⟨X[j], List.getElem?_eq_getElem c0⟩
      have z0 : wr.cell? ⟨ga, j * 10, none⟩ = some (.string x.e.nm) := hcl j x hx 0 _ rfl
      have HXE := Lib.hid (show ((X.map Re.e).map En.nm).take (j + 1) = ((X.map Re.e).map En.nm).take j ++ [x.e.nm] from by
        rw [List.take_add_one, List.getElem?_map, List.getElem?_map, hx]
        rfl)
      have HS1 := Lib.hid (show IntKind.i64.wrap ((j : Int) + 1) = ((j + 1 : Nat) : Int) ∧ wrap64 ((j : Int) + 1) = ((j + 1 : Nat) : Int) from by
        have h1 := HX.out
        have h2 := HC.out
        constructor
        · rw [IntKind.wrap_i64]; omega
        · unfold wrap64; omega)
      clear hj hjl c0 hcl hx hr hI e3 hb hro
      obtain ⟨e1, e2⟩ := HS1.out
      cases gk with
      | zero => exact absurd HJ.out (by have := HC.out; clear e1 e2; omega)
      | succ kk =>
        go_wp2_with ((with_reducible refine gate_builtin (b := .append) (xs := #[.tmp 18, .tmp 27]) rfl ?_); at_builtin
                     go_loud (refine Kd.R_append Kd.string (w0 := w) (W := wr) w.heap.size rfl (.tmp 18) (.tmp 27) 46 9 (.string ⟨#[]⟩) 16 rfl undSs infoS rfl (by decide) (by omega) u3 (((X.map Re.e).map En.nm).take j) x.e.nm [.string x.e.nm] (fun _ => True) (fun _ => False) rfl ?aX rfl (fun _ hk => hk.elim) (fun _ _ => trivial) HRO.out HB.out HB.out.size ?aL ?_)
                     go_loud (case aX => rfl)
                     go_loud (case aL => clear e1 e2; rw [List.length_take]; have := HX.out; have := HC.out; omega)
                     intro v9 w9 ho9 hb9 hg9 hat9
                     have HO9 := Lib.hid ho9
                     have HB9 := Lib.hid hb9
                     clear ho9 hb9 hg9 hat9)
        go_roundg kk
        case measure => omega
        case rel =>
          clear e1 e2
          exact ⟨j + 1, by first | rfl | rw [HS1.out.2], by have := HJ.out; omega, HC.out, by rw [HXE.out]; exact HO9.out, HB9.out⟩
    · have d1 : decide ((j : Int) < (X.length : Int)) = false := decide_eq_false (by omega)
      have hje : j = X.length := by omega
      subst hje
      clear hj hjl c0 hI hb hro
      go_wp2
      go_ret
      have h1 := HRO.out
      rw [List.take_of_length_le (by simp)] at h1
      exact ⟨_, rfl, h1, HB.out⟩
set_option maxRecDepth 100000 in
set_option maxHeartbeats 4000000 in
theorem refRect_c {w : World} {g W H : Nat} {X : List Re} {v : Value} {Q : Nat → Prop} (h : RefI w g W H X v Q) (hX : X.length ≤ 1000000) (nm : ByteArray) : Calls Try.prog 17 #[.pointer (some ⟨g, 0, none⟩), .string nm] w fun e w' => e = .returned (.tuple #[rcV (rectP (X.map Re.e) nm).1, .bool (rectP (X.map Re.e) nm).2]) ∧ Below w.heap.size w w' := by
  have HI := Lib.hid h
  have HX := Lib.hid hX
  have hI1 := h.below (below_alloc (Below.refl _ w) (.cells #[.int .i64 0, .int .i64 0, .int .i64 0, .int .i64 0] 43))
  have HI1 := Lib.hid hI1
  unfold rectP rcV
  rcases idx_get (X.map Re.e) nm with ⟨e1, e2⟩ | ⟨j, e, e1, e2, e3, _⟩
  · rw [e2]
    have HE1 := Lib.hid e1
    clear h hX hI1 e1 e2
    go_enter Try.func17, Try.ntmps17
    go_wp2_with (go_at_call 34; refine (find_c HI1.out HX.out nm).mono ?_; rintro e w2 ⟨rfl, rfl⟩; rw [HE1.out])
    refine bodyPost_ret (results_ct rfl _ _ w.heap.size 43 _ (0, 0) _ rfl (blk_new w _) Try.underlying43 rfl (inf4 rfl)) rfl ⟨rfl, below_alloc (Below.refl _ _) _⟩
  · rw [e3]
    rw [List.getElem?_map] at e2
    obtain ⟨x, hx, rfl⟩ := Option.map_eq_some_iff.1 e2
    have hjl : j < X.length := (List.getElem?_eq_some_iff.1 hx).1
    obtain ⟨A, cap, rfl, hr⟩ := row_re hI1.row
    obtain ⟨ga, rfl, _, hcl⟩ := hr (by omega)
    have q2 := ckA hI1.cell 2 _ rfl
    have z6 := hcl j x hx 6 _ rfl
    have z7 := hcl j x hx 7 _ rfl
    have z8 := hcl j x hx 8 _ rfl
    have z9 := hcl j x hx 9 _ rfl
    have i1 : ((0 : Int) ≤ (j : Int)) = True := eq_true (by omega)
    have i2 : ((j : Int) < (X.length : Int)) = True := eq_true (by omega)
    have i3 : (j < X.length) = True := eq_true hjl
    have d1 : decide ((j : Int) < 0) = false := decide_eq_false (by omega)
    have HE1 := Lib.hid e1
    clear h hX hI1 hr hcl hx hjl e1 e2 e3
    dsimp only
    go_enter Try.func17, Try.ntmps17
    go_wp2_with (go_at_call 34; refine (find_c HI1.out HX.out nm).mono ?_; rintro e w2 ⟨rfl, rfl⟩; rw [HE1.out])
    refine bodyPost_ret (results_ct rfl _ _ w.heap.size 43 _ (0, 0) _ rfl (blk_new w _) Try.underlying43 rfl (inf4 rfl)) rfl ⟨rfl, below_alloc (Below.refl _ _) _⟩
end Go.Proofs.Ytoleencecfjcjaa.At

/- The reference's atlas: copied, use. -/
set_option linter.unusedVariables false
set_option linter.unusedSimpArgs false
namespace Go.Proofs.Ytoleencecfjcjaa.At
open Go.RowKit Go.Proofs.YtoleencecfjcjaaW.PrintWords Go.Proofs.YtoleencecfjcjaaW.PrintLast Go.Proofs.YtoleencecfjcjaaW.PrintMore Go.Proofs.Ytoleencecfjcjaa.Rng
theorem undU : Try.prog.underlying 36 = some (.slice 92) := by kernel_rfl
theorem infoU : (Try.prog.info? 92).map (fun i => (i.zero, i.size, i.bytes)) = some (some (.int .u64 0), (Kd.int .u64).sz, 8) := by kernel_rfl
set_option maxRecDepth 100000 in
set_option maxHeartbeats 4000000 in
theorem copied_c (l t wd h : Int) (A : Option Addr) (c : Nat) (xs : List Int) (w : World) (hx : Kd.C (Kd.int .u64) w A xs.length xs) (hc : xs.length ≤ c) (hn : xs.length ≤ 1000) :
    Calls Try.prog 36 #[.agg #[.int .i64 l, .int .i64 t, .int .i64 wd, .int .i64 h, .slice A xs.length c]] w fun e w' => ∃ B d, e = .returned (.agg #[.int .i64 l, .int .i64 t, .int .i64 wd, .int .i64 h, .slice B xs.length d]) ∧ Kd.R (Kd.int .u64) 92 w' w.heap.size (fun _ => True) (.slice B xs.length d) xs ∧ Below w.heap.size w w' := by
  obtain ⟨W1, hW1⟩ : ∃ V, V = (w.alloc (.cells #[.int .i64 l, .int .i64 t, .int .i64 wd, .int .i64 h, .slice A xs.length c] 38)).alloc (.cells #[.int .i64 0, .int .i64 0, .int .i64 0, .int .i64 0, .slice none 0 0] 38) := ⟨_, rfl⟩
  have hb1 : Below w.heap.size w W1 := by rw [hW1]; exact below_alloc (below_alloc (Below.refl _ _) _) _
  have hz1 : W1.heap.size = w.heap.size + 2 := by rw [hW1]; simp
  have hx1 : W1.heap[w.heap.size]? = some (.cells #[.int .i64 l, .int .i64 t, .int .i64 wd, .int .i64 h, .slice A xs.length c] 38 (0, 0)) := by rw [hW1]; exact blk_alloc (blk_new _ _) _
  have hx2 : W1.heap[w.heap.size + 1]? = some (.cells #[.int .i64 0, .int .i64 0, .int .i64 0, .int .i64 0, .slice none 0 0] 38 (0, 0)) := by
    have := blk_new (w.alloc (.cells #[.int .i64 l, .int .i64 t, .int .i64 wd, .int .i64 h, .slice A xs.length c] 38)) (.cells #[.int .i64 0, .int .i64 0, .int .i64 0, .int .i64 0, .slice none 0 0] 38)
    rw [hW1]
    simpa using this
  have HX := Lib.hid (Kd.C_below hx hb1)
  have HN := Lib.hid (show xs.length ≤ 1000 ∧ xs.length ≤ c from ⟨hn, hc⟩)
  have HB1 := Lib.hid hb1
  have HZ1 := Lib.hid hz1
  have HX1 := Lib.hid hx1
  have HX2 := Lib.hid hx2
  clear hx hn hc
  go_enter Try.func36, Try.ntmps36
  go_upto_region 1 with fail
  rw [← hW1]
  have a4 := ckA hx1 4 _ rfl
  clear hW1 hb1 hx1 hx2 hz1
  go_wp2_with (first
    | ((with_reducible refine gate_dst (N := 3) rfl ?_); refine Kd.R_lit (Kd.int .u64) W1.heap.size 92 ?hg (N := 3) ?hd (w0 := W1) (xs := ([] : List Int)) (inner := []) (ok := fun _ => True) (okp := fun _ => True) ?hr ?hp (fun _ hk => hk) trivial (Below.refl _ _) (Nat.le_refl _) (by simp) ?_; (case hd => rfl); (case hg => rfl); (case hr => first | (go_simp; done) | (go_simp; rfl)); (case hp => exact (Reps.none _ _)); intro v3 w3 ho3 hb3 hg_ hnew_; have HO3 := Lib.hid ho3; have HB3 := Lib.hid hb3; have b4 := ckA (blk_below HX1.out hb3) 4 _ rfl; clear hg_ hnew_ ho3 hb3 a4)
    | ((with_reducible refine gate_builtin (b := .append) (xs := #[.tmp 3, .tmp 5]) rfl ?_); at_builtin; go_loud (refine Kd.R_append_rows (Kd.int .u64) (w0 := W1) W1.heap.size rfl (.tmp 3) (.tmp 5) 36 92 (.int .u64 0) 8 rfl undU infoU rfl (by decide) (by omega) v3 [] xs A xs.length c (fun _ => True) (fun _ => False) rfl rfl ?aO ?aR (fun _ _ h => h) (fun _ h => h.elim) ?aF ?aB ?aS ?aL ?_); (case aR => exact Kd.C_below HX.out HB3.out); (case aB => exact HB3.out); (case aF => exact fun _ _ => trivial); (case aO => exact HO3.out); (case aS => exact HB3.out.size); (case aL => have := HN.out; simp; omega); intro v6 w6 ho6 hb6 hg6 hat6; simp only [List.nil_append] at ho6; obtain ⟨B6, d6, rfl⟩ := Kd.R_slice ho6; have hy1 := blk_below HX1.out hb6; have hy2 := blk_below HX2.out hb6; have c0 := ckA hy1 0 _ rfl; have c1 := ckA hy1 1 _ rfl; have c2 := ckA hy1 2 _ rfl; have c3 := ckA hy1 3 _ rfl; have c4 := ckA hy1 4 _ rfl; have f4 := free_of_one hy1 4; have k0 := ckA hy2 0 _ rfl; have k1 := ckA hy2 1 _ rfl; have k2 := ckA hy2 2 _ rfl; have k3 := ckA hy2 3 _ rfl; have k4 := ckA hy2 4 _ rfl; have m0 := free_of_one hy2 0; have m1 := free_of_one hy2 1; have m2 := free_of_one hy2 2; have m3 := free_of_one hy2 3; have m4 := free_of_one hy2 4; have HY1 := Lib.hid hy1; have HY2 := Lib.hid hy2; have HO6 := Lib.hid ho6; have HB6 := Lib.hid hb6; clear ho6 hb6 hg6 hat6 hy1 hy2))
  have hs1 : Step (fun k => k = w.heap.size) w6 (w6.setCell ⟨w.heap.size, 4, none⟩ (.slice B6 xs.length d6)) := (Step.refl (fun k => k = w.heap.size) w6).setCell (p := ⟨w.heap.size, 4, none⟩) (.inl rfl) _
  have hs2 := step_set5 (w6.setCell ⟨w.heap.size, 4, none⟩ (.slice B6 xs.length d6)) (w.heap.size + 1) (.int .i64 l) (.int .i64 t) (.int .i64 wd) (.int .i64 h) (.slice B6 xs.length d6)
  have hz := HZ1.out
  have hz6 := HB6.out.size
  refine bodyPost_ret (results_c rfl _ _ (w.heap.size + 1) 38 _ (0, 0) _ rfl (cell_set5 (hs1.same HY2.out (fun e => by omega))) Try.underlying38 rfl (inf5 rfl)) rfl ⟨B6, d6, rfl, ?_, ?_⟩
  · refine Kd.R_lower (Ru_move HO6.out (fun k hk => ?_)) (show w.heap.size ≤ W1.heap.size by omega)
    have hk2 := Ru_lt HO6.out hk
    rw [hs2.1.2 k (Nat.lt_of_lt_of_le hk2.2 hs1.size) (by omega), hs1.1.2 k hk2.2 (by omega)]
  · refine (HB1.out.trans (HB6.out.mono (by omega))).trans ?_
    exact ((hs1.mono (T' := fun k => k = w.heap.size ∨ k = w.heap.size + 1) (fun k e => .inl e)).trans hs2 (fun k e => .inl (.inr e))).below (fun k e => by omega) (by omega)
/-- The entries ahead of k, without that at i. -/
def restK {α : Type} (X : List α) (i k : Nat) : List α := (X.take k).eraseIdx i
theorem restK_eq {α : Type} (X : List α) (i k : Nat) : restK X i k = (X.take k).take i ++ (X.take k).drop (i + 1) := List.eraseIdx_eq_take_drop_succ ..
theorem restK_same {α : Type} {X : List α} {i : Nat} : restK X i (i + 1) = restK X i i := by
  rw [restK_eq, restK_eq, List.take_take, List.take_take, Nat.min_eq_left (by omega), Nat.min_self, List.drop_eq_nil_of_le (by rw [List.length_take]; omega), List.drop_eq_nil_of_le (by rw [List.length_take]; omega)]
theorem restK_next {α : Type} {X : List α} {i k : Nat} {x : α} (hx : X[k]? = some x) (hk : k ≠ i) : restK X i (k + 1) = restK X i k ++ [x] := by
  have h := (List.getElem?_eq_some_iff.1 hx).1
  have hl : (X.take k).length = k := by rw [List.length_take]; omega
  rw [restK_eq, restK_eq, List.take_add_one, hx]
  show (X.take k ++ [x]).take i ++ (X.take k ++ [x]).drop (i + 1) = _
  by_cases h1 : i < k
  · rw [List.take_append_of_le_length (by omega), List.drop_append_of_le_length (by omega), List.append_assoc]
  · rw [List.take_of_length_le (l := X.take k ++ [x]) (by rw [List.length_append, hl, List.length_singleton]; omega), List.drop_eq_nil_of_le (show (X.take k ++ [x]).length ≤ i + 1 by rw [List.length_append, hl, List.length_singleton]; omega), List.take_of_length_le (l := X.take k) (by omega), List.drop_eq_nil_of_le (show (X.take k).length ≤ i + 1 by omega), List.append_nil, List.append_nil]
theorem restK_len {α : Type} (X : List α) (i k : Nat) : (restK X i k).length ≤ k := by
  unfold restK
  exact Nat.le_trans (List.length_eraseIdx_le ..) (by rw [List.length_take]; omega)
theorem restK_mem {α : Type} {X : List α} {i k : Nat} {y : α} (h : y ∈ restK X i k) : y ∈ X := List.mem_of_mem_take (List.mem_of_mem_eraseIdx h)
theorem sumN {j : Nat} (h : j ≤ 1000000) : IntKind.i64.wrap ((j : Int) + 1) = ((j + 1 : Nat) : Int) ∧ wrap64 ((j : Int) + 1) = ((j + 1 : Nat) : Int) := by
  constructor
  · rw [IntKind.wrap_i64]; omega
  · unfold wrap64; omega
theorem rangeAt_blk {W : World} {g : Nat} {cs : Array Value} {T : TypeId} (h : W.heap[g]? = some (.cells cs T (0, 0))) : W.rangeAt g 0 cs.toList := fun i u hu => by
  rw [Nat.zero_add]
  exact ckA h i u (by simpa using hu)
/-- The entries are now these, in a row of their own. -/
theorem RefI.into {w w9 : World} {g W H : Nat} {X X' : List Re} {v v' : Value} {Q : Nat → Prop} (h : RefI w g W H X v Q) (hb : Below w.heap.size w w9) (hR : Kd.R kRe 91 w9 w.heap.size (fun _ => True) v' X') (hX : ∀ x ∈ X', x ∈ X) :
    ∃ Q', RefI (w9.setCell ⟨g, 2, none⟩ v') g W H X' v' Q' ∧ (∀ k, Q' k → Q k ∨ w.heap.size ≤ k) ∧ Step Q w (w9.setCell ⟨g, 2, none⟩ v') := by
  have hs : Step (fun k => k = g) w9 (w9.setCell ⟨g, 2, none⟩ v') := (Step.refl (fun k => k = g) w9).setCell (p := ⟨g, 2, none⟩) (.inl rfl) _
  have hg := h.lt g h.gQ
  have hge : ∀ k, v'.ownBlock = some k → w.heap.size ≤ k ∧ k < w9.heap.size := fun k hk => ⟨(own_blk hR hk).1, Kd.R_lt hR k hk⟩
  refine ⟨fun k => Q k ∨ v'.ownBlock = some k, ⟨?_, Re_keep (Kd.R_lower hR (Nat.zero_le _)) (fun k hk => hs.1.2 k (hge k hk).2 (fun e => by have := (hge k hk).1; omega)), fun k hk => .inr hk, fun x hx => ⟨?_, (h.good x (hX x hx)).2.1, fun ad had => ?_⟩, .inl h.gQ, fun k hk => ?_⟩, fun k hk => ?_, ?_⟩
  · exact cell_setB (blk_below h.cell hb) 2 v'
  · refine C_keep (h.good x (hX x hx)).1 (fun ad had hlt => ?_)
    have h1 := (h.good x (hX x hx)).2.2 ad had
    rw [hs.1.2 ad.block (Nat.lt_of_lt_of_le hlt hb.size) h1.2.1, hb.block ad.block hlt]
  · have h1 := (h.good x (hX x hx)).2.2 ad had
    exact ⟨.inl h1.1, h1.2.1, fun e => by have h2 := (hge _ e).1; have h3 := h.lt _ h1.1; omega⟩
  · rcases hk with hk | hk
    · exact Nat.lt_of_lt_of_le (h.lt k hk) (Nat.le_trans hb.size hs.size)
    · exact Nat.lt_of_lt_of_le (hge k hk).2 hs.size
  · rcases hk with hk | hk
    · exact .inl hk
    · exact .inr (hge k hk).1
  · exact (Step.of_below hb Q).trans hs (fun k e => by subst e; exact .inl h.gQ)
set_option maxRecDepth 100000 in
set_option maxHeartbeats 8000000 in
theorem refUse_c {w : World} {g W H : Nat} {X : List Re} {v : Value} {Q : Nat → Prop} (h : RefI w g W H X v Q) (hX : X.length ≤ 100000) {i : Nat} {x : Re} (hx : X[i]? = some x) : Calls Try.prog 35 #[.pointer (some ⟨g, 0, none⟩), .int .i64 (i : Int)] w fun e w' => e = .returned (.tuple #[]) ∧ ∃ v' Q', RefI w' g W H (restK X i X.length ++ [x]) v' Q' ∧ (∀ k, Q' k → Q k ∨ w.heap.size ≤ k) ∧ Step Q w w' := by
  have HI := Lib.hid h
  have hi : i < X.length := (List.getElem?_eq_some_iff.1 hx).1
  obtain ⟨A, cap, rfl, hr⟩ := row_re h.row
  obtain ⟨ga, rfl, hown, hcl⟩ := hr (by omega)
  have q2 := ckA h.cell 2 _ rfl
  have HX := Lib.hid hX
  have HXI := Lib.hid hx
  have hrg := hcl i x hx
  have HCL := Lib.hid hcl
  have HOW := Lib.hid hown
  obtain ⟨x0, hx0⟩ : ∃ y, y = x := ⟨_, rfl⟩
  have HX0 := Lib.hid hx0
  obtain ⟨⟨a0, ⟨a1, a2, a3, a4, a5⟩, ⟨a6, a7, a8, a9⟩⟩, aA, ac⟩ := x
  simp only [Re.cells] at hrg
  have HRG := Lib.hid hrg
  have i1 : ((0 : Int) ≤ (i : Int)) = True := eq_true (by omega)
  have i2 : ((i : Int) < (X.length : Int)) = True := eq_true (by omega)
  have i3 : (i < X.length) = True := eq_true hi
  have HLT := Lib.hid hi
  clear h hX hr hx hcl hown hrg hi hx0
  go_enter Try.func35, Try.ntmps35
  go_upto_region 1 with (refine wpList_load_mid rfl 91 (.tmp 12) rfl ga (i * 10) rfl (#[.string a0, .int .i64 a1, .int .i64 a2, .int .i64 a3, .int .i64 a4, .slice aA a5.length ac, .int .i64 a6, .int .i64 a7, .int .i64 a8, .int .i64 a9] : Array Value).toList _ HRG.out Try.underlying91 rfl (inf10 rfl) ?_)
  obtain ⟨W1, hW1⟩ : ∃ V, V = w.alloc (.cells #[.string a0, .int .i64 a1, .int .i64 a2, .int .i64 a3, .int .i64 a4, .slice aA a5.length ac, .int .i64 a6, .int .i64 a7, .int .i64 a8, .int .i64 a9] 91) := ⟨_, rfl⟩
  have hE1 : W1.heap[w.heap.size]? = some (.cells #[.string a0, .int .i64 a1, .int .i64 a2, .int .i64 a3, .int .i64 a4, .slice aA a5.length ac, .int .i64 a6, .int .i64 a7, .int .i64 a8, .int .i64 a9] 91 (0, 0)) := by rw [hW1]; exact blk_new _ _
  have hB1 : Below w.heap.size w W1 := by rw [hW1]; exact below_alloc (Below.refl _ _) _
  have hz1 := lt_of_blk hE1
  rw [← hW1]
  have HE1 := Lib.hid hE1
  have HB1 := Lib.hid hB1
  have HZ1 := Lib.hid hz1
  clear hW1 hE1 hB1 hz1 HRG q2
  go_upto_block 0 with fail
  go_wp2
  go_loopg [5, 6] (X.length + 1) (fun kq v5 v6 w' => ∃ j : Nat, v6 = .int .i64 (j : Int) ∧ j + kq = X.length + 1 ∧ j ≤ X.length ∧ Kd.R kRe 91 w' (w.heap.size + 1) (fun _ => True) v5 (restK X i j) ∧ Below (w.heap.size + 1) W1 w')
  case atStart => exact ⟨0, rfl, by omega, by omega, Kd.R_nil _ _ _ _ _, Below.refl _ _⟩
  case round =>
    obtain ⟨j, rfl, hj, hjl, hro, hb⟩ := hrel
    have HJ := Lib.hid (show j + gk = X.length + 1 ∧ j ≤ X.length from ⟨hj, hjl⟩)
    have HRO := Lib.hid hro
    have HB := Lib.hid hb
    have HBW := Lib.hid (HB1.out.trans (hb.mono (Nat.le_succ _)))
    have hI := HI.out.below HBW.out
    have q2 := ckA hI.cell 2 _ rfl
    by_cases c0 : j < X.length
    · have d1 : decide ((j : Int) < (X.length : Int)) = true := decide_eq_true (by omega)
      have j1 : ((0 : Int) ≤ (j : Int)) = True := eq_true (by omega)
      have j2 : ((j : Int) < (X.length : Int)) = True := eq_true (by omega)
      have HC := Lib.hid c0
      have HS1 := Lib.hid (sumN (j := j) (by have := HX.out; omega))
      by_cases cij : j = i
      · have n1 : ((j : Int) != (i : Int)) = false := by simp [cij]
        have n2 : (j != i) = false := by simp [cij]
        have n3 : ((j : Int) == (i : Int)) = true := by simp [cij]
        have n4 : decide ((j : Int) = (i : Int)) = true := by simp [cij]
        have n5 : (j == i) = true := by simp [cij]
        have HCI := Lib.hid cij
        clear hj hjl hro hb hI c0 cij
        obtain ⟨e1, e2⟩ := HS1.out
        cases gk with
        | zero => exact absurd HJ.out (by have := HC.out; clear e1 e2; omega)
        | succ kk =>
          go_wp2
          go_roundg kk
          case measure => omega
          case rel =>
            clear e1 e2
            refine ⟨j + 1, by first | rfl | rw [HS1.out.2], by have := HJ.out; omega, HC.out, ?_, HB.out⟩
            have h1 := HRO.out
            have h2 := HCI.out
            subst h2
            rw [restK_same]
            exact h1
      · have n1 : ((j : Int) != (i : Int)) = true := by simp; omega
        have n2 : (j != i) = true := by simp [cij]
        have n3 : ((j : Int) == (i : Int)) = false := by simp; omega
        have n4 : decide ((j : Int) = (i : Int)) = false := decide_eq_false (by omega)
        have n5 : (j == i) = false := by simp [cij]
        obtain ⟨y, hy⟩ : ∃ y, X[j]? = some y := ⟨X[j], List.getElem?_eq_getElem c0⟩
        have hnext := restK_next (i := i) hy cij
        have HCI := Lib.hid cij
        obtain ⟨A', cap', e0, hr'⟩ := row_re hI.row
        injection e0 with e1 _ e3
        subst e1
        obtain ⟨ga', e4, _, hcl'⟩ := hr' (by omega)
        injection e4 with e4
        injection e4 with e4
        subst e4
        have hrg := hcl' j y hy
        obtain ⟨y0, hy0⟩ : ∃ z, z = y := ⟨_, rfl⟩
        have HY0 := Lib.hid hy0
        obtain ⟨⟨b0, ⟨b1, b2, b3, b4, b5⟩, ⟨b6, b7, b8, b9⟩⟩, bA, bc⟩ := y
        simp only [Re.cells] at hrg
        have HRG := Lib.hid hrg
        have HNX := Lib.hid hnext
        clear hj hjl hro hb hI c0 cij hr' hcl' hrg hnext hy e3 hy0
        obtain ⟨e1, e2⟩ := HS1.out
        cases gk with
        | zero => exact absurd HJ.out (by have := HC.out; clear e1 e2; omega)
        | succ kk =>
          go_wp2_with (first
            | (refine wpList_load_mid rfl 91 (.tmp 32) rfl ga (j * 10) rfl (#[.string b0, .int .i64 b1, .int .i64 b2, .int .i64 b3, .int .i64 b4, .slice bA b5.length bc, .int .i64 b6, .int .i64 b7, .int .i64 b8, .int .i64 b9] : Array Value).toList _ HRG.out Try.underlying91 rfl (inf10 rfl) ?_)
            | ((with_reducible refine gate_builtin (b := .append) (xs := #[.tmp 26, .tmp 34]) rfl ?_); at_builtin
               go_loud (refine Kd.R_append kRe (w0 := W1) (W := wr) (w.heap.size + 1) rfl (.tmp 26) (.tmp 34) 80 91 zRe 104 rfl undRe infoRe rfl (show 0 < 10 by omega) (by omega) u5 (restK X i j) (⟨⟨b0, ⟨b1, b2, b3, b4, b5⟩, ⟨b6, b7, b8, b9⟩⟩, bA, bc⟩ : Re) [.string b0, .int .i64 b1, .int .i64 b2, .int .i64 b3, .int .i64 b4, .slice bA b5.length bc, .int .i64 b6, .int .i64 b7, .int .i64 b8, .int .i64 b9] (fun _ => True) (fun _ => False) rfl ?aX ?aP (fun _ hk => hk.elim) (fun _ _ => trivial) HRO.out HB.out ?aS ?aL ?_)
               go_loud (case aX => rfl)
               go_loud (case aP => exact rfl)
               go_loud (case aS => clear e1 e2; have h1 := HB.out.size; have h2 := HZ1.out; omega)
               go_loud (case aL => clear e1 e2; have h1 := restK_len X i j; have h2 := HX.out; have h3 := HC.out; omega)
               intro v9 w9 ho9 hb9 hg9 hat9
               have HO9 := Lib.hid ho9
               have HB9 := Lib.hid hb9
               clear ho9 hb9 hg9 hat9))
          go_roundg kk
          case measure => omega
          case rel =>
            clear e1 e2
            exact ⟨j + 1, by first | rfl | rw [HS1.out.2], by have := HJ.out; omega, HC.out, by rw [HNX.out]; exact HO9.out, HB9.out⟩
    · have d1 : decide ((j : Int) < (X.length : Int)) = false := decide_eq_false (by omega)
      have hje : j = X.length := by omega
      subst hje
      have HRGe := Lib.hid (rangeAt_blk (HB.out.block w.heap.size (by omega) ▸ HE1.out : wr.heap[w.heap.size]? = some (.cells #[.string a0, .int .i64 a1, .int .i64 a2, .int .i64 a3, .int .i64 a4, .slice aA a5.length ac, .int .i64 a6, .int .i64 a7, .int .i64 a8, .int .i64 a9] 91 (0, 0))))
      clear hj hjl c0 hro hb hI
      go_wp2_with (first
        | (refine wpList_load_mid rfl 91 (.tmp 4) rfl w.heap.size 0 rfl (#[.string a0, .int .i64 a1, .int .i64 a2, .int .i64 a3, .int .i64 a4, .slice aA a5.length ac, .int .i64 a6, .int .i64 a7, .int .i64 a8, .int .i64 a9] : Array Value).toList _ HRGe.out Try.underlying91 rfl (inf10 rfl) ?_)
        | ((with_reducible refine gate_builtin (b := .append) (xs := #[.tmp 37, .tmp 39]) rfl ?_); at_builtin
           go_loud (refine Kd.R_append kRe (w0 := W1) (W := wr) (w.heap.size + 1) rfl (.tmp 37) (.tmp 39) 80 91 zRe 104 rfl undRe infoRe rfl (show 0 < 10 by omega) (by omega) u5 (restK X i X.length) (⟨⟨a0, ⟨a1, a2, a3, a4, a5⟩, ⟨a6, a7, a8, a9⟩⟩, aA, ac⟩ : Re) [.string a0, .int .i64 a1, .int .i64 a2, .int .i64 a3, .int .i64 a4, .slice aA a5.length ac, .int .i64 a6, .int .i64 a7, .int .i64 a8, .int .i64 a9] (fun _ => True) (fun _ => False) rfl ?aX ?aP (fun _ hk => hk.elim) (fun _ _ => trivial) HRO.out HB.out ?aS ?aL ?_)
           go_loud (case aX => rfl)
           go_loud (case aP => exact rfl)
           go_loud (case aS => have h1 := HB.out.size; have h2 := HZ1.out; omega)
           go_loud (case aL => have h1 := restK_len X i X.length; have h2 := HX.out; omega)
           intro v9 w9 ho9 hb9 hg9 hat9
           obtain ⟨A9, k9, rfl⟩ := Kd.R_slice ho9
           have hI9 := HI.out.below (HB1.out.trans (hb9.mono (Nat.le_succ _)))
           have q29 := ckA hI9.cell 2 _ rfl
           have f29 := free_of_one hI9.cell 2
           have HI9 := Lib.hid hI9
           have HO9 := Lib.hid ho9
           have HB9 := Lib.hid hb9
           clear ho9 hb9 hg9 hat9 hI9))
      refine bodyPost_end (results_none rfl _ _ _) rfl ⟨rfl, ?_⟩
      obtain ⟨Q', h1, h2, h3⟩ := HI.out.into (HB1.out.trans (HB9.out.mono (Nat.le_succ _))) (Kd.R_lower HO9.out (Nat.le_succ _)) (fun y hy => by
        rcases List.mem_append.1 hy with hy | hy
        · exact restK_mem hy
        · rw [List.mem_singleton.1 hy]
          exact List.mem_of_getElem? HXI.out)
      simp only [List.length_append, List.length_singleton] at h1 h3
      exact ⟨_, Q', h1, h2, h3⟩
end Go.Proofs.Ytoleencecfjcjaa.At

/- The reference's place. -/
set_option linter.unusedVariables false
set_option linter.unusedSimpArgs false
namespace Go.Proofs.Ytoleencecfjcjaa.At
open Go.RowKit Go.Proofs.YtoleencecfjcjaaW.PrintWords Go.Proofs.YtoleencecfjcjaaW.PrintLast Go.Proofs.YtoleencecfjcjaaW.PrintMore Go.Proofs.Ytoleencecfjcjaa.Rng
def freeJ (L : List En) (c : Rc) (j : Nat) : Bool := (L.take j).all (fun e => !over c e.r)
theorem freeJ_all {L : List En} {c : Rc} {j : Nat} (h : L.length ≤ j) : freeJ L c j = free L c := by
  unfold freeJ free
  rw [List.take_of_length_le h]
theorem freeJ_no {L : List En} {c : Rc} {j : Nat} (h : freeJ L c j = false) : free L c = false := by
  unfold freeJ at h
  unfold free
  rw [List.all_eq_false] at h ⊢
  obtain ⟨e, he, h1⟩ := h
  exact ⟨e, List.mem_of_mem_take he, h1⟩
theorem freeJ_next {L : List En} {c : Rc} {j : Nat} {e : En} (he : L[j]? = some e) (h : freeJ L c j = true) : freeJ L c (j + 1) = !over c e.r := by
  unfold freeJ at h ⊢
  rw [List.take_add_one, he, List.all_append, h]
  simp
theorem Overlap_x (ax ay aw ah : Int) (b : Rc) (ha : Sml ⟨ax, ay, aw, ah⟩) (hb : Sml b) (w : World) : Calls Try.prog 25 #[.agg #[.int .i64 ax, .int .i64 ay, .int .i64 aw, .int .i64 ah], .agg #[.int .i64 b.x, .int .i64 b.y, .int .i64 b.w, .int .i64 b.h]] w fun e w' => e = .returned (.bool (over ⟨ax, ay, aw, ah⟩ b)) ∧ Below w.heap.size w w' := Overlap_c ⟨ax, ay, aw, ah⟩ b ha hb w
theorem sumXY {a b : Nat} (h : a + b ≤ 1000) : IntKind.i64.wrap ((a : Int) + (b : Int)) = (a : Int) + (b : Int) ∧ wrap64 ((a : Int) + (b : Int)) = (a : Int) + (b : Int) := by
  constructor
  · rw [IntKind.wrap_i64]; omega
  · unfold wrap64; omega
set_option maxRecDepth 100000 in
set_option maxHeartbeats 16000000 in
theorem refPlace_c {w : World} {g W H : Nat} {X : List Re} {v : Value} {Q : Nat → Prop} (h : RefI w g W H X v Q) (hX : X.length ≤ 100000) (hW : W ≤ 128) (hH : H ≤ 128) (hS : ∀ x ∈ X, Sml x.e.r) (CW CH : Nat) (hw : CW ≤ W) (hh : CH ≤ H) : Calls Try.prog 43 #[.pointer (some ⟨g, 0, none⟩), .int .i64 (CW : Int), .int .i64 (CH : Int)] w fun e w' => ((∃ c : Rc, placeP (X.map Re.e) W H CW CH = some c ∧ e = .returned (.tuple #[.agg #[.int .i64 c.x, .int .i64 c.y, .int .i64 c.w, .int .i64 c.h], .bool true])) ∨ placeP (X.map Re.e) W H CW CH = none ∧ e = .returned (.tuple #[.agg #[.int .i64 0, .int .i64 0, .int .i64 0, .int .i64 0], .bool false])) ∧ Below w.heap.size w w' := by
  obtain ⟨A, cap, rfl, hr⟩ := row_re h.row
  have HI := Lib.hid h
  have HX := Lib.hid hX
  have HWH := Lib.hid (show W ≤ 128 ∧ H ≤ 128 ∧ CW ≤ W ∧ CH ≤ H from ⟨hW, hH, hw, hh⟩)
  have HS := Lib.hid hS
  have HZ := Lib.hid (blk_new w (.cells #[.int .i64 0, .int .i64 0, .int .i64 0, .int .i64 0] 43))
  have HB0 := Lib.hid (below_alloc (Below.refl w.heap.size w) (.cells #[.int .i64 0, .int .i64 0, .int .i64 0, .int .i64 0] 43))
  clear h hX hr hW hH hw hh hS
  go_enter Try.func43, Try.ntmps43
  go_upto_block 0 with fail
  go_wp2
  go_loopg [8] (H + 2 - CH) (fun kq v8 w' => ∃ y : Nat, v8 = .int .i64 (y : Int) ∧ y + CH + kq = H + 2 ∧ y + CH ≤ H + 1 ∧ colP (X.map Re.e) W CW CH (H + 1 - CH - y) (y : Int) = placeP (X.map Re.e) W H CW CH ∧ w'.heap[w.heap.size]? = some (.cells #[.int .i64 0, .int .i64 0, .int .i64 0, .int .i64 0] 43 (0, 0)) ∧ Below w.heap.size w w')
  case atStart =>
    have h1 := HWH.out
    refine ⟨0, rfl, by omega, by omega, ?_, HZ.out, HB0.out⟩
    unfold placeP
    congr 1
    omega
  case round =>
    obtain ⟨y, rfl, hk, hy, hcol, hz, hb⟩ := hrel
    obtain ⟨ky, rfl⟩ : ∃ k, gk = k + 1 := ⟨gk - 1, by omega⟩
    have HK := Lib.hid (show y + CH + (ky + 1) = H + 2 ∧ y + CH ≤ H + 1 from ⟨hk, hy⟩)
    have HCOL := Lib.hid hcol
    have HZy := Lib.hid hz
    have HBy := Lib.hid hb
    have hI := HI.out.below hb
    have g1 := ckA hI.cell 1 _ rfl
    have HS1 := Lib.hid (sumXY (a := y) (b := CH) (by have := HWH.out; omega))
    have HSY := Lib.hid (sumN (j := y) (by have := HWH.out; omega))
    by_cases c0 : y + CH ≤ H
    · have d1 : decide ((y : Int) + (CH : Int) ≤ (H : Int)) = true := decide_eq_true (by omega)
      have HC0 := Lib.hid c0
      clear hk hy hcol hz hb hI c0
      obtain ⟨e1, e2⟩ := HS1.out
      go_upto_block 2 with fail
      clear e1 e2
      go_wp2
      go_loopg [9] (W + 2 - CW) (fun kq v9 w' => ∃ x : Nat, v9 = .int .i64 (x : Int) ∧ x + CW + kq = W + 2 ∧ x + CW ≤ W + 1 ∧ (rowP (X.map Re.e) CW CH (y : Int) (W + 1 - CW - x) (x : Int)).or (colP (X.map Re.e) W CW CH (H - CH - y) ((y : Int) + 1)) = placeP (X.map Re.e) W H CW CH ∧ w'.heap[w.heap.size]? = some (.cells #[.int .i64 0, .int .i64 0, .int .i64 0, .int .i64 0] 43 (0, 0)) ∧ Below w.heap.size w w')
      case atStart =>
        have h1 := HWH.out
        have h2 := HC0.out
        refine ⟨0, rfl, by omega, by omega, ?_, HZy.out, HBy.out⟩
        rw [← HCOL.out, show H + 1 - CH - y = (H - CH - y) + 1 by omega, colP]
        congr 2
        omega
      case round =>
        have HKY := Lib.hid HK.out
        clear HK HZy HBy g1
        obtain ⟨x, rfl, hk, hx, hrow, hz, hb⟩ := hrel
        obtain ⟨kx, rfl⟩ : ∃ k, gk = k + 1 := ⟨gk - 1, by omega⟩
        have HKX := Lib.hid (show x + CW + (kx + 1) = W + 2 ∧ x + CW ≤ W + 1 from ⟨hk, hx⟩)
        have HROW := Lib.hid hrow
        have HZx := Lib.hid hz
        have HBx := Lib.hid hb
        have hI := HI.out.below hb
        have g0 := ckA hI.cell 0 _ rfl
        have HS2 := Lib.hid (sumXY (a := x) (b := CW) (by have := HWH.out; omega))
        have HSX := Lib.hid (sumN (j := x) (by have := HWH.out; omega))
        have HIx := Lib.hid hI
        by_cases c1 : x + CW ≤ W
        · have d2 : decide ((x : Int) + (CW : Int) ≤ (W : Int)) = true := decide_eq_true (by omega)
          have HC1 := Lib.hid c1
          clear hk hx hrow hz hb hI c1
          obtain ⟨e1, e2⟩ := HS2.out
          have HXB := Lib.hid (blk_new wr (.cells #[.int .i64 (x : Int), .int .i64 (y : Int), .int .i64 (CW : Int), .int .i64 (CH : Int)] 43))
          have HXL := Lib.hid (below_alloc (Below.refl wr.heap.size wr) (.cells #[.int .i64 (x : Int), .int .i64 (y : Int), .int .i64 (CW : Int), .int .i64 (CH : Int)] 43))
          go_upto_block 4 with fail
          clear e1 e2
          go_wp2
          obtain ⟨bx, hbx⟩ : ∃ n, n = wr.heap.size := ⟨_, rfl⟩
          obtain ⟨wx, hwx⟩ : ∃ V, V = wr.alloc (.cells #[.int .i64 (x : Int), .int .i64 (y : Int), .int .i64 (CW : Int), .int .i64 (CH : Int)] 43) := ⟨_, rfl⟩
          rw [← hwx, ← hbx] at HXB HXL
          rw [← hwx, ← hbx]
          have HBW := Lib.hid (HBx.out.trans (HXL.out.mono (by rw [hbx]; exact HBx.out.size)) : Below w.heap.size w wx)
          have HBX := Lib.hid (show w.heap.size < bx ∧ bx < wx.heap.size from ⟨by rw [hbx]; exact lt_of_blk HZx.out, lt_of_blk HXB.out⟩)
          have HZ2 := Lib.hid ((HXL.out.block w.heap.size HBX.out.1).trans HZx.out)
          clear hwx hbx HXL
          go_loopg [11, 12] (X.length + 1) (fun kq v11 v12 w' => ∃ j : Nat, v12 = .int .i64 (j : Int) ∧ j + kq = X.length + 1 ∧ j ≤ X.length ∧ v11 = .bool (freeJ (X.map Re.e) ⟨(x : Int), (y : Int), (CW : Int), (CH : Int)⟩ j) ∧ Below wx.heap.size wx w')
          case atStart => exact ⟨0, rfl, by omega, by omega, rfl, Below.refl _ _⟩
          case round =>
            obtain ⟨j, rfl, hk, hj, rfl, hb⟩ := hrel
            obtain ⟨kj, rfl⟩ : ∃ k, gk = k + 1 := ⟨gk - 1, by omega⟩
            have HJ := Lib.hid (show j + (kj + 1) = X.length + 1 ∧ j ≤ X.length from ⟨hk, hj⟩)
            have HBj := Lib.hid hb
            have HBWj := Lib.hid (HBW.out.trans (hb.mono HBW.out.size))
            have hI := HI.out.below HBWj.out
            have q2 := ckA hI.cell 2 _ rfl
            have hzj := blk_below HZ2.out hb
            have hxj := blk_below HXB.out hb
            have HXJ := Lib.hid hxj
            have HZJ := Lib.hid hzj
            obtain ⟨fr, hfr⟩ : ∃ b, b = freeJ (X.map Re.e) ⟨(x : Int), (y : Int), (CW : Int), (CH : Int)⟩ j := ⟨_, rfl⟩
            have HFR := Lib.hid hfr
            rw [← hfr]
            clear hfr
            have HTAKE := Lib.hid (show free (X.map Re.e) ⟨(x : Int), (y : Int), (CW : Int), (CH : Int)⟩ = true → placeP (X.map Re.e) W H CW CH = some ⟨(x : Int), (y : Int), (CW : Int), (CH : Int)⟩ from fun e => by
              have h1 := HC1.out
              rw [← HROW.out, show W + 1 - CW - x = (W - CW - x) + 1 by omega, rowP, if_pos e]
              rfl)
            have HSKIP := Lib.hid (show free (X.map Re.e) ⟨(x : Int), (y : Int), (CW : Int), (CH : Int)⟩ = false → (rowP (X.map Re.e) CW CH (y : Int) (W + 1 - CW - (x + 1)) ((x + 1 : Nat) : Int)).or (colP (X.map Re.e) W CW CH (H - CH - y) ((y : Int) + 1)) = placeP (X.map Re.e) W H CW CH from fun e => by
              have h1 := HC1.out
              rw [← HROW.out, show W + 1 - CW - x = (W + 1 - CW - (x + 1)) + 1 by omega, rowP, if_neg (by rw [e]; exact Bool.false_ne_true)]
              rfl)
            cases fr with
            | false =>
              have hfree := freeJ_no HFR.out.symm
              have HFREE := Lib.hid hfree
              clear hk hb hI hzj hxj hfree
              by_cases c2 : j < X.length
              · have d3 : decide ((j : Int) < (X.length : Int)) = true := decide_eq_true (by omega)
                have d4 : decide (j < X.length) = true := decide_eq_true c2
                have i3 : (j < X.length) = True := eq_true c2
                clear c2
                obtain ⟨e1, e2⟩ := HSX.out
                go_wp2
                go_roundg kx
                case measure => omega
                case rel =>
                  clear e1 e2
                  have h1 := HKX.out
                  have h2 := HC1.out
                  exact ⟨x + 1, by first | rfl | rw [HSX.out.2], by omega, by omega, HSKIP.out HFREE.out, HZJ.out, HBWj.out⟩
              · have d3 : decide ((j : Int) < (X.length : Int)) = false := decide_eq_false (by omega)
                have d4 : decide (j < X.length) = false := decide_eq_false c2
                have i3 : (j < X.length) = False := eq_false c2
                clear c2
                obtain ⟨e1, e2⟩ := HSX.out
                go_wp2
                go_roundg kx
                case measure => omega
                case rel =>
                  clear e1 e2
                  have h1 := HKX.out
                  have h2 := HC1.out
                  exact ⟨x + 1, by first | rfl | rw [HSX.out.2], by omega, by omega, HSKIP.out HFREE.out, HZJ.out, HBWj.out⟩
            | true =>
              by_cases c2 : j < X.length
              · have d3 : decide ((j : Int) < (X.length : Int)) = true := decide_eq_true (by omega)
                have i1 : ((0 : Int) ≤ (j : Int)) = True := eq_true (by omega)
                have i2 : ((j : Int) < (X.length : Int)) = True := eq_true (by omega)
                have i3 : (j < X.length) = True := eq_true c2
                have HC2 := Lib.hid c2
                obtain ⟨A', cap', e0, hr'⟩ := row_re hI.row
                injection e0 with e1 _ e3
                subst e1
                obtain ⟨ga, rfl, _, hcl⟩ := hr' (by omega)
                obtain ⟨z, hz⟩ : ∃ z, X[j]? = some z := ⟨X[j], List.getElem?_eq_getElem c2⟩
                have y6 : wr.drew.cell? ⟨ga, j * 10 + 6, none⟩ = some (.int .i64 z.e.r.x) := hcl j z hz 6 _ rfl
                have y7 : wr.drew.cell? ⟨ga, j * 10 + 7, none⟩ = some (.int .i64 z.e.r.y) := hcl j z hz 7 _ rfl
                have y8 : wr.drew.cell? ⟨ga, j * 10 + 8, none⟩ = some (.int .i64 z.e.r.w) := hcl j z hz 8 _ rfl
                have y9 : wr.drew.cell? ⟨ga, j * 10 + 9, none⟩ = some (.int .i64 z.e.r.h) := hcl j z hz 9 _ rfl
                have y2 : wr.drew.cell? ⟨g, 2, none⟩ = some (.slice (some ⟨ga, 0, none⟩) X.length cap) := q2
                have x0 : wr.drew.cell? ⟨bx, 0, none⟩ = some (.int .i64 (x : Int)) := ckA hxj 0 _ rfl
                have x1 : wr.drew.cell? ⟨bx, 1, none⟩ = some (.int .i64 (y : Int)) := ckA hxj 1 _ rfl
                have x2 : wr.drew.cell? ⟨bx, 2, none⟩ = some (.int .i64 (CW : Int)) := ckA hxj 2 _ rfl
                have x3 : wr.drew.cell? ⟨bx, 3, none⟩ = some (.int .i64 (CH : Int)) := ckA hxj 3 _ rfl
                have HNX := Lib.hid (freeJ_next (L := X.map Re.e) (e := z.e) (by rw [List.getElem?_map, hz]; rfl) HFR.out.symm)
                have HSZ := Lib.hid (HS.out z (List.mem_of_getElem? hz))
                have HSC := Lib.hid (show Sml ⟨(x : Int), (y : Int), (CW : Int), (CH : Int)⟩ from by have h1 := HWH.out; have h2 := HC1.out; have h3 := HC0.out; unfold Sml; simp only; omega)
                have HSJ := Lib.hid (sumN (j := j) (by have := HX.out; omega))
                clear hk hj hb hI hzj hxj hr' hcl hz e3 c2
                go_upto_region 12 with fail
                refine start_ (n := 12) (S := fun w' => w'.cell? ⟨bx, 0, none⟩ = some (.int .i64 (x : Int)) ∧ w'.cell? ⟨bx, 1, none⟩ = some (.int .i64 (y : Int)) ∧ w'.cell? ⟨bx, 2, none⟩ = some (.int .i64 (CW : Int)) ∧ w'.cell? ⟨bx, 3, none⟩ = some (.int .i64 (CH : Int)) ∧ w'.cell? ⟨g, 2, none⟩ = some (.slice (some ⟨ga, 0, none⟩) X.length cap) ∧ w'.cell? ⟨ga, j * 10 + 6, none⟩ = some (.int .i64 z.e.r.x) ∧ w'.cell? ⟨ga, j * 10 + 7, none⟩ = some (.int .i64 z.e.r.y) ∧ w'.cell? ⟨ga, j * 10 + 8, none⟩ = some (.int .i64 z.e.r.w) ∧ w'.cell? ⟨ga, j * 10 + 9, none⟩ = some (.int .i64 z.e.r.h)) (ds := [9]) #[false, false, false, false, false, false, false, false, false, false, false, false] (by kernel_rfl) rfl rfl ⟨x0, x1, x2, x3, y2, y6, y7, y8, y9⟩ (fun hHeld => ?_)
                refine pure_ (i := 1) (N := some 51) (v := ?_) (a' := ?_) #[false, true, false, false, false, false, false, false, false, false, false, false] rfl rfl (by kernel_rfl) (fun _ _ _ h => h) (Or.inl ⟨by rfl, ?_⟩) ?_ ?_
                rotate_left
                · intro w'
                  go_simp
                  with_reducible rfl
                rotate_left
                · simp only [Act.put, List.setIfInBounds_toArray, List.set_cons_zero, List.set_cons_succ, i64_w, i32_w]
                  rfl
                refine pure_ (i := 2) (N := some 52) (v := ?_) (a' := ?_) #[false, true, true, false, false, false, false, false, false, false, false, false] rfl rfl (by kernel_rfl) (fun _ _ _ h => h) (Or.inl ⟨by rfl, ?_⟩) ?_ ?_
                rotate_left
                · intro w'
                  go_simp
                  with_reducible rfl
                rotate_left
                · simp only [Act.put, List.setIfInBounds_toArray, List.set_cons_zero, List.set_cons_succ, i64_w, i32_w]
                  rfl
                refine pure_ (i := 3) (N := some 53) (v := ?_) (a' := ?_) #[false, true, true, true, false, false, false, false, false, false, false, false] rfl rfl (by kernel_rfl) (fun _ _ _ h => h) (Or.inl ⟨by rfl, ?_⟩) ?_ ?_
                rotate_left
                · intro w'
                  go_simp
                  with_reducible rfl
                rotate_left
                · simp only [Act.put, List.setIfInBounds_toArray, List.set_cons_zero, List.set_cons_succ, i64_w, i32_w]
                  rfl
                refine pure_ (i := 5) (N := some 55) (v := ?_) (a' := ?_) #[false, true, true, true, false, true, false, false, false, false, false, false] rfl rfl (by kernel_rfl) (fun _ _ _ h => h) (Or.inl ⟨by rfl, ?_⟩) ?_ ?_
                rotate_left
                · intro w'
                  go_simp
                  with_reducible rfl
                rotate_left
                · simp only [Act.put, List.setIfInBounds_toArray, List.set_cons_zero, List.set_cons_succ, i64_w, i32_w]
                  rfl
                refine take_ (i := 0) (N := some 50) (v := ?_) (a' := ?_) #[true, true, true, true, false, true, false, false, false, false, false, false] rfl rfl (by kernel_rfl) (fun _ _ _ h => h) (Or.inl ⟨by rfl, ?_⟩) hHeld ?_ ?_
                rotate_left
                · rintro w' ⟨s0, s1, s2, s3, s4, s5, s6, s7, s8⟩
                  go_simp
                  with_reducible rfl
                rotate_left
                · simp only [Act.put, List.setIfInBounds_toArray, List.set_cons_zero, List.set_cons_succ, i64_w, i32_w]
                  rfl
                refine take_ (i := 4) (N := some 54) (v := ?_) (a' := ?_) #[true, true, true, true, true, true, false, false, false, false, false, false] rfl rfl (by kernel_rfl) (fun _ _ _ h => h) (Or.inl ⟨by rfl, ?_⟩) hHeld ?_ ?_
                rotate_left
                · rintro w' ⟨s0, s1, s2, s3, s4, s5, s6, s7, s8⟩
                  go_simp
                  with_reducible rfl
                rotate_left
                · simp only [Act.put, List.setIfInBounds_toArray, List.set_cons_zero, List.set_cons_succ, i64_w, i32_w]
                  rfl
                refine pure_ (i := 6) (N := some 56) (v := ?_) (a' := ?_) #[true, true, true, true, true, true, true, false, false, false, false, false] rfl rfl (by kernel_rfl) (fun _ _ _ h => h) (Or.inl ⟨by rfl, ?_⟩) ?_ ?_
                rotate_left
                · intro w'
                  go_simp
                  with_reducible rfl
                rotate_left
                · simp only [Act.put, List.setIfInBounds_toArray, List.set_cons_zero, List.set_cons_succ, i64_w, i32_w]
                  rfl
                refine pure_ (i := 7) (N := some 57) (v := ?_) (a' := ?_) #[true, true, true, true, true, true, true, true, false, false, false, false] rfl rfl (by kernel_rfl) (fun _ _ _ h => h) (Or.inl ⟨by rfl, ?_⟩) ?_ ?_
                rotate_left
                · intro w'
                  go_simp
                  with_reducible rfl
                rotate_left
                · simp only [Act.put, List.setIfInBounds_toArray, List.set_cons_zero, List.set_cons_succ, i64_w, i32_w]
                  rfl
                refine take_ (i := 8) (N := some 58) (v := ?_) (a' := ?_) #[true, true, true, true, true, true, true, true, true, false, false, false] rfl rfl (by kernel_rfl) (fun _ _ _ h => h) (Or.inl ⟨by rfl, ?_⟩) hHeld ?_ ?_
                rotate_left
                · rintro w' ⟨s0, s1, s2, s3, s4, s5, s6, s7, s8⟩
                  go_simp
                  with_reducible rfl
                rotate_left
                · simp only [Act.put, List.setIfInBounds_toArray, List.set_cons_zero, List.set_cons_succ, i64_w, i32_w]
                  rfl
                refine last_ (i := 9) (N := some 59) #[true, true, true, true, true, true, true, true, true, true, false, false] rfl rfl (by kernel_rfl) (by decide) (fun K hK => ?_)
                refine goes_ Try.func25 (by kernel_rfl) rfl #[.agg #[.int .i64 (x : Int), .int .i64 (y : Int), .int .i64 (CW : Int), .int .i64 (CH : Int)], .agg #[.int .i64 z.e.r.x, .int .i64 z.e.r.y, .int .i64 z.e.r.w, .int .i64 z.e.r.h]] (by rfl) rfl rfl (by simp only [List.map_toArray, List.map_cons, List.map_nil]; rfl) ?_
                with_reducible refine (Overlap_x (x : Int) (y : Int) (CW : Int) (CH : Int) z.e.r HSC.out HSZ.out wr.drew).mono ?_
                rintro e w9 ⟨rfl, hov⟩
                refine ⟨_, rfl, ?_⟩
                have HOV := Lib.hid hov
                clear hov
                refine hK.out _ _ ?_
                clear hK K
                refine norm_ (a' := ?_) ?_ ?_
                rotate_left
                · show Act.put _ (some 59) _ = _
                  simp only [Act.put, List.setIfInBounds_toArray, List.set_cons_zero, List.set_cons_succ, i64_w, i32_w]
                  rfl
                refine pure_ (i := 10) (N := some 60) (v := ?_) (a' := ?_) #[true, true, true, true, true, true, true, true, true, true, true, false] rfl rfl (by kernel_rfl) (fun _ _ _ h => h) (Or.inl ⟨by rfl, ?_⟩) ?_ ?_
                rotate_left
                · intro w'
                  go_simp
                  with_reducible rfl
                rotate_left
                · simp only [Act.put, List.setIfInBounds_toArray, List.set_cons_zero, List.set_cons_succ, i64_w, i32_w]
                  rfl
                refine pure_ (i := 11) (N := some 11) (v := ?_) (a' := ?_) #[true, true, true, true, true, true, true, true, true, true, true, true] rfl rfl (by kernel_rfl) (fun _ _ _ h => h) (Or.inl ⟨by rfl, ?_⟩) ?_ ?_
                rotate_left
                · intro w'
                  go_simp
                  with_reducible rfl
                rotate_left
                · simp only [Act.put, List.setIfInBounds_toArray, List.set_cons_zero, List.set_cons_succ, i64_w, i32_w]
                  rfl
                refine done_ (by kernel_rfl) ?_
                clear hHeld x0 x1 x2 x3 y2 y6 y7 y8 y9
                obtain ⟨e1, e2⟩ := HSJ.out
                go_wp2
                go_roundg kj
                case measure => omega
                case rel =>
                  clear e1 e2
                  have h1 := HJ.out
                  exact ⟨j + 1, by first | rfl | rw [HSJ.out.2], by omega, HC2.out, by rw [HNX.out], HBj.out.drew.trans (HOV.out.mono HBj.out.size)⟩
              · have d3 : decide ((j : Int) < (X.length : Int)) = false := decide_eq_false (by omega)
                have hje : j = X.length := by omega
                subst hje
                have x0 := ckA hxj 0 _ rfl
                have x1 := ckA hxj 1 _ rfl
                have x2 := ckA hxj 2 _ rfl
                have x3 := ckA hxj 3 _ rfl
                have z0 := ckA hzj 0 _ rfl
                have z1 := ckA hzj 1 _ rfl
                have z2 := ckA hzj 2 _ rfl
                have z3 := ckA hzj 3 _ rfl
                have f0 := free_of_one hzj 0
                have f1 := free_of_one hzj 1
                have f2 := free_of_one hzj 2
                have f3 := free_of_one hzj 3
                have HPS := Lib.hid (HTAKE.out ((freeJ_all (by rw [List.length_map]; exact Nat.le_refl _)).symm.trans HFR.out.symm))
                clear hk hj hb hI hzj hxj c2
                go_wp2
                have hset := step_set4 wr w.heap.size (.int .i64 (x : Int)) (.int .i64 (y : Int)) (.int .i64 (CW : Int)) (.int .i64 (CH : Int))
                refine bodyPost_ret (results_ct rfl _ _ w.heap.size 43 _ (0, 0) _ rfl (cell_set4 HZJ.out) Try.underlying43 rfl (inf4 rfl)) rfl ⟨.inl ⟨_, HPS.out, rfl⟩, HBWj.out.trans (hset.below (fun k e => by omega) HBWj.out.size)⟩
        · have d2 : decide ((x : Int) + (CW : Int) ≤ (W : Int)) = false := decide_eq_false (by omega)
          have HC1 := Lib.hid c1
          clear hk hx hrow hz hb hI c1
          obtain ⟨e1, e2⟩ := HS2.out
          obtain ⟨e3, e4⟩ := HSY.out
          go_wp2
          go_roundg ky
          case measure => omega
          case rel =>
            clear e1 e2 e3 e4
            have h1 := HKY.out
            have h2 := HC0.out
            have h3 := HC1.out
            have h4 := HKX.out
            refine ⟨y + 1, by first | rfl | rw [HSY.out.2], by omega, by omega, ?_, HZx.out, HBx.out⟩
            rw [← HROW.out, show W + 1 - CW - x = 0 by omega, show H + 1 - CH - (y + 1) = H - CH - y by omega, rowP]
            rfl
    · have d1 : decide ((y : Int) + (CH : Int) ≤ (H : Int)) = false := decide_eq_false (by omega)
      have hp0 : placeP (X.map Re.e) W H CW CH = none := by
        rw [← hcol, show H + 1 - CH - y = 0 by omega]
        rfl
      have HP0 := Lib.hid hp0
      clear hk hy hcol hz hb hI c0 hp0
      obtain ⟨e1, e2⟩ := HS1.out
      have z0 := ckA HZy.out 0 _ rfl
      have z1 := ckA HZy.out 1 _ rfl
      have z2 := ckA HZy.out 2 _ rfl
      have z3 := ckA HZy.out 3 _ rfl
      have f0 := free_of_one HZy.out 0
      have f1 := free_of_one HZy.out 1
      have f2 := free_of_one HZy.out 2
      have f3 := free_of_one HZy.out 3
      go_wp2
      clear e1 e2
      have hset := step_set4 wr w.heap.size (.int .i64 0) (.int .i64 0) (.int .i64 0) (.int .i64 0)
      refine bodyPost_ret (results_ct rfl _ _ w.heap.size 43 _ (0, 0) _ rfl (cell_set4 HZy.out) Try.underlying43 rfl (inf4 rfl)) rfl ⟨.inr ⟨HP0.out, rfl⟩, HBy.out.trans (hset.below (fun k e => by omega) HBy.out.size)⟩
end Go.Proofs.Ytoleencecfjcjaa.At

/- The reference's Get. -/
set_option linter.unusedVariables false
set_option linter.unusedSimpArgs false
namespace Go.Proofs.Ytoleencecfjcjaa.At
open Go.RowKit Go.Proofs.YtoleencecfjcjaaW.PrintWords Go.Proofs.YtoleencecfjcjaaW.PrintLast Go.Proofs.YtoleencecfjcjaaW.PrintMore Go.Proofs.Ytoleencecfjcjaa.Rng
theorem nm_filter_one {L : List En} (hn : L.Pairwise (fun a b => nmEq a.nm b.nm = false)) {i : Nat} {e : En} (he : L[i]? = some e) : L.filter (fun x => !nmEq x.nm e.nm) = L.eraseIdx i := by
  induction L generalizing i with
  | nil => simp at he
  | cons a L ih =>
    rw [List.pairwise_cons] at hn
    cases i with
    | zero =>
      simp at he
      subst he
      rw [List.eraseIdx_zero, List.tail_cons, List.filter_cons_of_neg (by rw [nmEq_self]; decide)]
      exact List.filter_eq_self.2 (fun x hx => by rw [nmEq_comm, hn.1 x hx]; rfl)
    | succ i =>
      rw [List.getElem?_cons_succ] at he
      rw [List.eraseIdx_cons_succ, List.filter_cons_of_pos (by rw [hn.1 e (List.mem_of_getElem? he)]; rfl), ih hn.2 he]
theorem map_erase {α β : Type} (f : α → β) : ∀ (l : List α) (i : Nat), (l.eraseIdx i).map f = (l.map f).eraseIdx i
  | [], _ => by simp
  | a :: l, 0 => rfl
  | a :: l, i + 1 => by
    rw [List.eraseIdx_cons_succ, List.map_cons, List.map_cons, List.eraseIdx_cons_succ, map_erase f l i]
theorem use_list {X : List Re} (hn : (X.map Re.e).Pairwise (fun a b => nmEq a.nm b.nm = false)) {i : Nat} {x : Re} (hx : X[i]? = some x) (hg : getP (X.map Re.e) x.e.nm = some x.e) : (restK X i X.length ++ [x]).map Re.e = useP (X.map Re.e) x.e.nm := by
  have hx' : (X.map Re.e)[i]? = some x.e := by rw [List.getElem?_map, hx]; rfl
  unfold useP
  rw [hg, nm_filter_one hn hx', List.map_append]
  unfold restK
  rw [List.take_length, map_erase]
  rfl
set_option maxRecDepth 100000 in
set_option maxHeartbeats 8000000 in
theorem refGet_c {w : World} {g W H : Nat} {X : List Re} {v : Value} {Q : Nat → Prop} (h : RefI w g W H X v Q) (hX : X.length ≤ 100000) (hn : (X.map Re.e).Pairwise (fun a b => nmEq a.nm b.nm = false)) (hrow : ∀ x ∈ X, x.e.b.rows.length ≤ 1000) (nm : ByteArray) : Calls Try.prog 14 #[.pointer (some ⟨g, 0, none⟩), .string nm] w fun e w' => ∃ u X' v' Q', e = .returned (.tuple #[.agg #[.int .i64 (getB (X.map Re.e) nm).1.l, .int .i64 (getB (X.map Re.e) nm).1.t, .int .i64 (getB (X.map Re.e) nm).1.w, .int .i64 (getB (X.map Re.e) nm).1.h, u], .bool (getB (X.map Re.e) nm).2]) ∧ Kd.R (Kd.int .u64) 92 w' w.heap.size (fun k => ¬ Q' k) u (getB (X.map Re.e) nm).1.rows ∧ RefI w' g W H X' v' Q' ∧ X'.map Re.e = useP (X.map Re.e) nm ∧ (∀ k, Q' k → Q k ∨ w.heap.size ≤ k) ∧ Step Q w w' := by
  have HI := Lib.hid h
  have HX := Lib.hid hX
  obtain ⟨W1, hW1⟩ : ∃ V, V = w.alloc (.cells #[.int .i64 0, .int .i64 0, .int .i64 0, .int .i64 0, .slice none 0 0] 38) := ⟨_, rfl⟩
  have hb1 : Below w.heap.size w W1 := by rw [hW1]; exact below_alloc (Below.refl _ _) _
  have hz1 : W1.heap[w.heap.size]? = some (.cells #[.int .i64 0, .int .i64 0, .int .i64 0, .int .i64 0, .slice none 0 0] 38 (0, 0)) := by rw [hW1]; exact blk_new _ _
  have HB1 := Lib.hid hb1
  have HZ1 := Lib.hid hz1
  have HI1 := Lib.hid (h.below hb1)
  unfold getB
  rcases idx_get (X.map Re.e) nm with ⟨e1, e2⟩ | ⟨j, e, e1, e2, e3, e4⟩
  · rw [e2, useP_none e2]
    have HE1 := Lib.hid e1
    clear h hX hn hrow hb1 hz1 e1 e2
    go_enter Try.func14, Try.ntmps14
    go_upto_region 1 with fail
    rw [← hW1]
    clear hW1
    have z0 := ckA HZ1.out 0 _ rfl
    have z1 := ckA HZ1.out 1 _ rfl
    have z2 := ckA HZ1.out 2 _ rfl
    have z3 := ckA HZ1.out 3 _ rfl
    have z4 := ckA HZ1.out 4 _ rfl
    have f0 := free_of_one HZ1.out 0
    have f1 := free_of_one HZ1.out 1
    have f2 := free_of_one HZ1.out 2
    have f3 := free_of_one HZ1.out 3
    have f4 := free_of_one HZ1.out 4
    go_wp2_with (go_at_call 34; refine (find_c HI1.out (Nat.le_trans HX.out (by decide)) nm).mono ?_; rintro e w2 ⟨rfl, rfl⟩; rw [HE1.out])
    have hset := step_set5 w2 w.heap.size (.int .i64 0) (.int .i64 0) (.int .i64 0) (.int .i64 0) (.slice none 0 0)
    refine bodyPost_ret (results_ct rfl _ _ w.heap.size 38 _ (0, 0) _ rfl (cell_set5 HZ1.out) Try.underlying38 rfl (inf5 rfl)) rfl ⟨_, X, v, Q, rfl, Kd.R_nil _ _ _ _ _, HI1.out.keep hset (fun k e hq => by subst e; exact Nat.lt_irrefl _ (HI.out.lt _ hq)), rfl, fun k hk => .inl hk, (Step.of_below HB1.out Q).trans hset (fun k e => .inr (by omega))⟩
  · have hnm : e.nm = nm := (nmEq_iff _ _).1 e4
    rw [List.getElem?_map] at e2
    obtain ⟨x, hx, rfl⟩ := Option.map_eq_some_iff.1 e2
    subst hnm
    rw [e3]
    have hul := use_list hn hx e3
    have HUL := Lib.hid hul
    have HE1 := Lib.hid e1
    have HXX := Lib.hid hx
    have HRL := Lib.hid (hrow x (List.mem_of_getElem? hx))
    have hjl : j < X.length := (List.getElem?_eq_some_iff.1 hx).1
    have d1 : decide ((j : Int) < 0) = false := decide_eq_false (by omega)
    dsimp only
    obtain ⟨m, hm⟩ : ∃ m, m = (restK X j X.length).length := ⟨_, rfl⟩
    have HM := Lib.hid hm
    have HML := Lib.hid (show m ≤ 100000 from by rw [hm]; exact Nat.le_trans (restK_len X j X.length) hX)
    clear h hX hn hrow hb1 hz1 e1 e2 e3 e4 hul hx hm
    go_enter Try.func14, Try.ntmps14
    go_upto_region 1 with fail
    rw [← hW1]
    clear hW1
    go_upto_region 5 with (first
      | (go_at_call 34; refine (find_c HI1.out (Nat.le_trans HX.out (by decide)) x.e.nm).mono ?_; rintro e w2 ⟨rfl, rfl⟩; rw [HE1.out])
      | (go_at_call 35; refine (refUse_c HI1.out HX.out HXX.out).mono ?_; rintro e w3 ⟨rfl, v3, Q3, hI3, hQ3, hS3⟩; have HI3 := Lib.hid hI3; have HQ3 := Lib.hid hQ3; have HS3 := Lib.hid hS3; clear hI3 hQ3 hS3))
    obtain ⟨A3, cap, rfl, hr⟩ := row_re HI3.out.row
    have hlen : (restK X j X.length ++ [x]).length = m + 1 := by rw [List.length_append, List.length_singleton, HM.out]
    rw [hlen] at hr HI3
    obtain ⟨ga, rfl, _, hcl⟩ := hr (Nat.succ_pos _)
    have hlast : (restK X j X.length ++ [x])[m]? = some x := by
      rw [HM.out, List.getElem?_append_right (Nat.le_refl _), Nat.sub_self]
      rfl
    have hgood := HI3.out.good x (List.mem_of_getElem? hlast)
    have q2 : w3.drew.cell? ⟨g, 2, none⟩ = some (.slice (some ⟨ga, 0, none⟩) (m + 1) cap) := ckA HI3.out.cell 2 _ rfl
    have y1 : w3.drew.cell? ⟨ga, m * 10 + 1, none⟩ = some (.int .i64 x.e.b.l) := hcl m x hlast 1 _ rfl
    have y2 : w3.drew.cell? ⟨ga, m * 10 + 2, none⟩ = some (.int .i64 x.e.b.t) := hcl m x hlast 2 _ rfl
    have y3 : w3.drew.cell? ⟨ga, m * 10 + 3, none⟩ = some (.int .i64 x.e.b.w) := hcl m x hlast 3 _ rfl
    have y4 : w3.drew.cell? ⟨ga, m * 10 + 4, none⟩ = some (.int .i64 x.e.b.h) := hcl m x hlast 4 _ rfl
    have y5 : w3.drew.cell? ⟨ga, m * 10 + 5, none⟩ = some (.slice x.A x.e.b.rows.length x.c) := hcl m x hlast 5 _ rfl
    have HGD := Lib.hid hgood
    have HZ3 := Lib.hid (HS3.out.same HZ1.out (fun hq => Nat.lt_irrefl _ (HI.out.lt _ hq)))
    have i1 : ((0 : Int) ≤ (m : Int)) = True := eq_true (by omega)
    have i2 : ((m : Int) < ((m + 1 : Nat) : Int)) = True := eq_true (by omega)
    have s1 : IntKind.i64.wrap (((m + 1 : Nat) : Int) - 1) = (m : Int) := by rw [IntKind.wrap_i64]; have := HML.out; omega
    have s2 : wrap64 (((m + 1 : Nat) : Int) - 1) = (m : Int) := by unfold wrap64; have := HML.out; omega
    have s3 : IntKind.i64.wrap ((m : Int) + 1 - 1) = (m : Int) := by rw [IntKind.wrap_i64]; have := HML.out; omega
    have s4 : wrap64 ((m : Int) + 1 - 1) = (m : Int) := by unfold wrap64; have := HML.out; omega
    have s5 : IntKind.i64.wrap (m : Int) = (m : Int) := by rw [IntKind.wrap_i64]; have := HML.out; omega
    have s6 : wrap64 (m : Int) = (m : Int) := by unfold wrap64; have := HML.out; omega
    have i3 : ((m : Int) < (m : Int) + 1) = True := eq_true (by omega)
    clear hr hlen hcl hlast hgood
    refine start_ (n := 16) (S := fun w' => w'.cell? ⟨g, 2, none⟩ = some (.slice (some ⟨ga, 0, none⟩) (m + 1) cap) ∧ w'.cell? ⟨ga, m * 10 + 1, none⟩ = some (.int .i64 x.e.b.l) ∧ w'.cell? ⟨ga, m * 10 + 2, none⟩ = some (.int .i64 x.e.b.t) ∧ w'.cell? ⟨ga, m * 10 + 3, none⟩ = some (.int .i64 x.e.b.w) ∧ w'.cell? ⟨ga, m * 10 + 4, none⟩ = some (.int .i64 x.e.b.h) ∧ w'.cell? ⟨ga, m * 10 + 5, none⟩ = some (.slice x.A x.e.b.rows.length x.c)) (ds := [13, 14]) #[false, false, false, false, false, false, false, false, false, false, false, false, false, false, false, false] (by kernel_rfl) rfl rfl ⟨q2, y1, y2, y3, y4, y5⟩ (fun hHeld => ?_)
    refine pure_ (i := 0) (N := some 16) (v := ?_) (a' := ?_) #[true, false, false, false, false, false, false, false, false, false, false, false, false, false, false, false] rfl rfl (by kernel_rfl) (fun _ _ _ h => h) (Or.inl ⟨by rfl, ?_⟩) ?_ ?_
    rotate_left
    · intro w'
      go_simp
      with_reducible rfl
    rotate_left
    · simp only [Act.put, List.setIfInBounds_toArray, List.set_cons_zero, List.set_cons_succ, i64_w, i32_w]
      rfl
    refine pure_ (i := 1) (N := some 17) (v := ?_) (a' := ?_) #[true, true, false, false, false, false, false, false, false, false, false, false, false, false, false, false] rfl rfl (by kernel_rfl) (fun _ _ _ h => h) (Or.inl ⟨by rfl, ?_⟩) ?_ ?_
    rotate_left
    · intro w'
      go_simp
      with_reducible rfl
    rotate_left
    · simp only [Act.put, List.setIfInBounds_toArray, List.set_cons_zero, List.set_cons_succ, i64_w, i32_w]
      rfl
    refine pure_ (i := 2) (N := some 18) (v := ?_) (a' := ?_) #[true, true, true, false, false, false, false, false, false, false, false, false, false, false, false, false] rfl rfl (by kernel_rfl) (fun _ _ _ h => h) (Or.inl ⟨by rfl, ?_⟩) ?_ ?_
    rotate_left
    · intro w'
      go_simp
      with_reducible rfl
    rotate_left
    · simp only [Act.put, List.setIfInBounds_toArray, List.set_cons_zero, List.set_cons_succ, i64_w, i32_w]
      rfl
    refine pure_ (i := 4) (N := some 20) (v := ?_) (a' := ?_) #[true, true, true, false, true, false, false, false, false, false, false, false, false, false, false, false] rfl rfl (by kernel_rfl) (fun _ _ _ h => h) (Or.inl ⟨by rfl, ?_⟩) ?_ ?_
    rotate_left
    · intro w'
      go_simp
      with_reducible rfl
    rotate_left
    · simp only [Act.put, List.setIfInBounds_toArray, List.set_cons_zero, List.set_cons_succ, i64_w, i32_w]
      rfl
    refine pure_ (i := 5) (N := some 21) (v := ?_) (a' := ?_) #[true, true, true, false, true, true, false, false, false, false, false, false, false, false, false, false] rfl rfl (by kernel_rfl) (fun _ _ _ h => h) (Or.inl ⟨by rfl, ?_⟩) ?_ ?_
    rotate_left
    · intro w'
      go_simp
      with_reducible rfl
    rotate_left
    · simp only [Act.put, List.setIfInBounds_toArray, List.set_cons_zero, List.set_cons_succ, i64_w, i32_w]
      rfl
    refine pure_ (i := 6) (N := some 22) (v := ?_) (a' := ?_) #[true, true, true, false, true, true, true, false, false, false, false, false, false, false, false, false] rfl rfl (by kernel_rfl) (fun _ _ _ h => h) (Or.inl ⟨by rfl, ?_⟩) ?_ ?_
    rotate_left
    · intro w'
      go_simp
      with_reducible rfl
    rotate_left
    · simp only [Act.put, List.setIfInBounds_toArray, List.set_cons_zero, List.set_cons_succ, i64_w, i32_w]
      rfl
    refine take_ (i := 3) (N := some 19) (v := ?_) (a' := ?_) #[true, true, true, true, true, true, true, false, false, false, false, false, false, false, false, false] rfl rfl (by kernel_rfl) (fun _ _ _ h => h) (Or.inl ⟨by rfl, ?_⟩) hHeld ?_ ?_
    rotate_left
    · rintro w' ⟨s0, s1, s2, s3, s4, s5⟩
      go_simp
      with_reducible rfl
    rotate_left
    · simp only [Act.put, List.setIfInBounds_toArray, List.set_cons_zero, List.set_cons_succ, i64_w, i32_w]
      rfl
    refine take_ (i := 7) (N := some 23) (v := ?_) (a' := ?_) #[true, true, true, true, true, true, true, true, false, false, false, false, false, false, false, false] rfl rfl (by kernel_rfl) (fun _ _ _ h => h) (Or.inl ⟨by rfl, ?_⟩) hHeld ?_ ?_
    rotate_left
    · rintro w' ⟨s0, s1, s2, s3, s4, s5⟩
      go_simp
      with_reducible rfl
    rotate_left
    · simp only [Act.put, List.setIfInBounds_toArray, List.set_cons_zero, List.set_cons_succ, i64_w, i32_w]
      rfl
    refine pure_ (i := 8) (N := some 24) (v := ?_) (a' := ?_) #[true, true, true, true, true, true, true, true, true, false, false, false, false, false, false, false] rfl rfl (by kernel_rfl) (fun _ _ _ h => h) (Or.inl ⟨by rfl, ?_⟩) ?_ ?_
    rotate_left
    · intro w'
      go_simp
      with_reducible rfl
    rotate_left
    · simp only [Act.put, List.setIfInBounds_toArray, List.set_cons_zero, List.set_cons_succ, i64_w, i32_w]
      rfl
    refine pure_ (i := 9) (N := some 25) (v := ?_) (a' := ?_) #[true, true, true, true, true, true, true, true, true, true, false, false, false, false, false, false] rfl rfl (by kernel_rfl) (fun _ _ _ h => h) (Or.inl ⟨by rfl, ?_⟩) ?_ ?_
    rotate_left
    · intro w'
      go_simp
      with_reducible rfl
    rotate_left
    · simp only [Act.put, List.setIfInBounds_toArray, List.set_cons_zero, List.set_cons_succ, i64_w, i32_w]
      rfl
    refine pure_ (i := 10) (N := some 26) (v := ?_) (a' := ?_) #[true, true, true, true, true, true, true, true, true, true, true, false, false, false, false, false] rfl rfl (by kernel_rfl) (fun _ _ _ h => h) (Or.inl ⟨by rfl, ?_⟩) ?_ ?_
    rotate_left
    · intro w'
      go_simp
      with_reducible rfl
    rotate_left
    · simp only [Act.put, List.setIfInBounds_toArray, List.set_cons_zero, List.set_cons_succ, i64_w, i32_w]
      rfl
    refine pure_ (i := 11) (N := some 27) (v := ?_) (a' := ?_) #[true, true, true, true, true, true, true, true, true, true, true, true, false, false, false, false] rfl rfl (by kernel_rfl) (fun _ _ _ h => h) (Or.inl ⟨by rfl, ?_⟩) ?_ ?_
    rotate_left
    · intro w'
      go_simp
      with_reducible rfl
    rotate_left
    · simp only [Act.put, List.setIfInBounds_toArray, List.set_cons_zero, List.set_cons_succ, i64_w, i32_w]
      rfl
    refine take_ (i := 12) (N := some 28) (v := ?_) (a' := ?_) #[true, true, true, true, true, true, true, true, true, true, true, true, true, false, false, false] rfl rfl (by kernel_rfl) (fun _ _ _ h => h) (Or.inl ⟨by rfl, ?_⟩) hHeld ?_ ?_
    rotate_left
    · rintro w' ⟨s0, s1, s2, s3, s4, s5⟩
      go_simp
      with_reducible rfl
    rotate_left
    · simp only [Act.put, List.setIfInBounds_toArray, List.set_cons_zero, List.set_cons_succ, i64_w, i32_w]
      rfl
    refine last_ (i := 13) (N := some 29) #[true, true, true, true, true, true, true, true, true, true, true, true, true, true, false, false] rfl rfl (by kernel_rfl) (by decide) (fun K hK => ?_)
    refine goes_ Try.func36 (by kernel_rfl) rfl #[.agg #[.int .i64 x.e.b.l, .int .i64 x.e.b.t, .int .i64 x.e.b.w, .int .i64 x.e.b.h, .slice x.A x.e.b.rows.length x.c]] (by rfl) rfl rfl (by simp only [List.map_toArray, List.map_cons, List.map_nil]; rfl) ?_
    with_reducible refine (copied_c x.e.b.l x.e.b.t x.e.b.w x.e.b.h x.A x.c x.e.b.rows w3.drew (Kd.C_below HGD.out.1 (below_drew (Below.refl _ _))) HGD.out.2.1 HRL.out).mono ?_
    rintro e w5 ⟨B5, d5, rfl, hR5, hb5⟩
    refine ⟨_, rfl, ?_⟩
    have HR5 := Lib.hid hR5
    have HB5 := Lib.hid hb5
    have hz5 := blk_below (show w3.drew.heap[w.heap.size]? = _ from HZ3.out) hb5
    have z0 := ckA hz5 0 _ rfl
    have z1 := ckA hz5 1 _ rfl
    have z2 := ckA hz5 2 _ rfl
    have z3 := ckA hz5 3 _ rfl
    have z4 := ckA hz5 4 _ rfl
    have f0 := free_of_one hz5 0
    have f1 := free_of_one hz5 1
    have f2 := free_of_one hz5 2
    have f3 := free_of_one hz5 3
    have f4 := free_of_one hz5 4
    have HZ5 := Lib.hid hz5
    clear hR5 hb5 hz5
    refine hK.out _ _ ?_
    clear hK K
    refine norm_ (a' := ?_) ?_ ?_
    rotate_left
    · show Act.put _ (some 29) _ = _
      simp only [Act.put, List.setIfInBounds_toArray, List.set_cons_zero, List.set_cons_succ, i64_w, i32_w]
      rfl
    refine last_ (i := 14) (N := none) #[true, true, true, true, true, true, true, true, true, true, true, true, true, true, true, false] rfl rfl (by kernel_rfl) (by decide) (fun K hK => ?_)
    refine skip_ (w1 := ?_) (by rfl) rfl ?_ ?_
    rotate_left
    · go_simp
      rfl
    refine hK.out _ _ ?_
    clear hK K
    refine pure_ (i := 15) (N := some 5) (v := ?_) (a' := ?_) #[true, true, true, true, true, true, true, true, true, true, true, true, true, true, true, true] rfl rfl (by kernel_rfl) (fun _ _ _ h => h) (Or.inl ⟨by rfl, ?_⟩) ?_ ?_
    rotate_left
    · intro w'
      go_simp
      with_reducible rfl
    rotate_left
    · simp only [Act.put, List.setIfInBounds_toArray, List.set_cons_zero, List.set_cons_succ, i64_w, i32_w]
      rfl
    refine done_ (by kernel_rfl) ?_
    clear hHeld q2 y1 y2 y3 y4 y5 s1 s2 s3 s4 s5 s6 i1 i2 i3 z0 z1 z2 z3 z4 f0 f1 f2 f3 f4
    go_wp2
    have hset := step_set5 w5 w.heap.size (.int .i64 x.e.b.l) (.int .i64 x.e.b.t) (.int .i64 x.e.b.w) (.int .i64 x.e.b.h) (.slice B5 x.e.b.rows.length d5)
    have h3 : w.heap.size < w3.heap.size := lt_of_blk HZ3.out
    have h5 := HB5.out.size
    have hno : ∀ k, k = w.heap.size → ¬ Q3 k := fun k e hq => by
      rcases HQ3.out k hq with h | h
      · have := HI.out.lt k h; omega
      · have h6 := HB1.out.size
        have h7 := lt_of_blk HZ1.out
        omega
    refine bodyPost_ret (results_ct rfl _ _ w.heap.size 38 _ (0, 0) _ rfl (cell_set5 HZ5.out) Try.underlying38 rfl (inf5 rfl)) rfl ⟨_, _, _, Q3, rfl, ?_, (HI3.out.below (below_drew (Below.refl _ _)) |>.below HB5.out).keep hset hno, HUL.out, fun k hk => ?_, ?_⟩
    · have hR := Ru_move HR5.out (fun k hk => hset.1.2 k (Ru_lt HR5.out hk).2 (fun e => by have h8 := (Ru_lt HR5.out hk).1; have h9 : w3.drew.heap.size = w3.heap.size := rfl; omega))
      exact Kd.R_lower (Kd.R_mono (ok' := fun k => ¬ Q3 k) (Kd.R_bound hR) (fun k hk hq => by
        have h8 := HI3.out.lt k hq
        have h9 : w3.drew.heap.size ≤ k := hk.2.1
        have h10 : w3.drew.heap.size = w3.heap.size := rfl
        omega)) (show w.heap.size ≤ w3.drew.heap.size from Nat.le_of_lt h3)
    · rcases HQ3.out k hk with h | h
      · exact .inl h
      · exact .inr (Nat.le_trans HB1.out.size h)
    · refine (((Step.of_below HB1.out Q).trans HS3.out (fun k e => .inl e)).trans ((Step.of_below (below_drew (Below.refl _ _)) Q).trans (Step.of_below HB5.out Q) (fun k e => .inl e)) (fun k e => .inl e)).trans hset (fun k e => .inr (by omega))
end Go.Proofs.Ytoleencecfjcjaa.At

