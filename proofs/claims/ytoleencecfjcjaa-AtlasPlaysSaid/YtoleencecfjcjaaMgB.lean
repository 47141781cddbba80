/- Several texts of this claim, one behind the other: AtG, AtH, AtI, AtJ, AtK, AtL, AtM, AtN, AtO, AtP, AtQ, AtR, AtS, AtT, AtU, AtV, AtW, AtX, AtY, AtZ. -/
import Derived.Test.YtoleencecfjcjaaMgA
import Derived.Shelf.Strconv.Itoa0
import Derived.WideKeyEntry
import Derived.DeepKeys4
import Derived.Maps.RangeRun
/- use; slices.Equal of uint64. -/
set_option linter.unusedVariables false
set_option linter.unusedSimpArgs false
namespace Go.Proofs.Ytoleencecfjcjaa.At
open Go.RowKit Go.Proofs.YtoleencecfjcjaaW.PrintWords Go.Proofs.YtoleencecfjcjaaW.PrintLast Go.Proofs.Ytoleencecfjcjaa.Rng
set_option maxRecDepth 100000 in
set_option maxHeartbeats 4000000 in
theorem use_c {w : World} {g ge n : Nat} {c0 c1 c2 c3 c4 x0 x1 x2 x3 x4 x5 x6 : Value} (hn : n ≤ 1000000) (hne : ge ≠ g)
    (hg : w.heap[g]? = some (.cells #[c0, c1, c2, c3, c4, .int .i64 (n : Int)] 64 (0, 0)))
    (he : w.heap[ge]? = some (.cells #[x0, x1, x2, x3, x4, x5, x6] 94 (0, 0))) :
    Calls Try.prog 32 #[.pointer (some ⟨g, 0, none⟩), .pointer (some ⟨ge, 0, none⟩)] w fun e w' => e = .returned (.tuple #[]) ∧ w'.heap[g]? = some (.cells #[c0, c1, c2, c3, c4, .int .i64 ((n + 1 : Nat) : Int)] 64 (0, 0)) ∧
      w'.heap[ge]? = some (.cells #[x0, x1, x2, x3, x4, x5, .int .i64 ((n + 1 : Nat) : Int)] 94 (0, 0)) ∧ Step (fun k => k = g ∨ k = ge) w w' := by
  have g5 := ckA hg 5 _ rfl
  have f5 := free_of_one hg 5
  have e6 := ckA he 6 _ rfl
  have f6 := free_of_one he 6
  have hne1 : (ge == g) = false := by simpa using hne
  have hne2 : (g == ge) = false := by simpa using Ne.symm hne
  have hs : IntKind.i64.wrap ((n : Int) + 1) = ((n + 1 : Nat) : Int) ∧ wrap64 ((n : Int) + 1) = ((n + 1 : Nat) : Int) := by
    constructor
    · rw [IntKind.wrap_i64]; omega
    · unfold wrap64; omega
  have HG := Lib.hid hg
  have HE := Lib.hid he
  have HS := Lib.hid hs
  have hc6 : (w.setCell ⟨g, 5, none⟩ (.int .i64 ((n + 1 : Nat) : Int))).heap[ge]? = some (.cells #[x0, x1, x2, x3, x4, x5, x6] 94 (0, 0)) :=
    ((Step.refl (fun k => k = g) w).setCell (p := ⟨g, 5, none⟩) (.inl rfl) _).same he hne
  have HC6 := Lib.hid hc6
  have hc5 := cell_setB hg 5 (.int .i64 ((n + 1 : Nat) : Int))
  have HC5 := Lib.hid hc5
  have k6 := ckA hc6 6 _ rfl
  have l6 := free_of_one hc6 6
  have k5 := ckA hc5 5 _ rfl
  clear hg he hs hn hc6 hc5
  go_enter Try.func32, Try.ntmps32
  obtain ⟨s1, s2⟩ := HS.out
  go_wp2
  refine bodyPost_end (results_none rfl _ _ _) rfl ⟨rfl, ?_, ?_, ?_⟩
  · exact ((Step.refl (fun k => k = ge) _).setCell (p := ⟨ge, 6, none⟩) (.inl rfl) _).same HC5.out (fun e => hne e.symm)
  · exact cell_setB HC6.out 6 (.int .i64 ((n + 1 : Nat) : Int))
  · exact ((Step.refl (fun k => k = g ∨ k = ge) w).setCell (p := ⟨g, 5, none⟩) (.inl (.inl rfl)) _).setCell (p := ⟨ge, 6, none⟩) (.inl (.inr rfl)) _
end Go.Proofs.Ytoleencecfjcjaa.At

/- slices.Equal of uint64; scan.Same. -/
set_option linter.unusedVariables false
set_option linter.unusedSimpArgs false
namespace Go.Proofs.Ytoleencecfjcjaa.At
open Go.RowKit Go.Proofs.YtoleencecfjcjaaW.PrintWords Go.Proofs.YtoleencecfjcjaaW.PrintLast Go.Proofs.Ytoleencecfjcjaa.Rng
theorem take_step {xs ys : List Int} {j : Nat} (hx : j < xs.length) (hy : j < ys.length) (h : xs.take j = ys.take j) (e : rdOf 0 xs (j : Int) = rdOf 0 ys (j : Int)) : xs.take (j + 1) = ys.take (j + 1) := by
  simp only [rdOf, Int.toNat_natCast, List.getD_eq_getElem?_getD] at e
  rw [List.take_add_one, List.take_add_one, h]
  rw [List.getElem?_eq_getElem hx, List.getElem?_eq_getElem hy] at e ⊢
  simp at e
  rw [e]
theorem rd_ne {xs ys : List Int} {j : Nat} (e : rdOf 0 xs (j : Int) ≠ rdOf 0 ys (j : Int)) : decide (xs = ys) = false := by
  refine decide_eq_false (fun h => e ?_)
  rw [h]
set_option maxRecDepth 100000 in
set_option maxHeartbeats 4000000 in
theorem Equal_c (A B : Option Addr) (n m cA cB : Nat) (xs ys : List Int) (w : World) (hx : Kd.C (Kd.int .u64) w A n xs) (hy : Kd.C (Kd.int .u64) w B m ys) (hn : n ≤ 1000) (hm : m ≤ 1000) :
    Calls Try.prog 56 #[.slice A n cA, .slice B m cB] w fun e w' => e = .returned (.bool (decide (xs = ys))) ∧ Below w.heap.size w w' := by
  have rx := Kd.reads_of_C (d := (0 : Int)) hx
  have ry := Kd.reads_of_C (d := (0 : Int)) hy
  have HRX := Lib.hid rx
  have HRY := Lib.hid ry
  clear hx hy rx ry
  go_enter Try.func56, Try.ntmps56
  by_cases hnm : n = m
  · subst hnm
    go_wp2
    go_loopg [13] (n + 1) (fun kq v13 w' => ∃ j : Nat, v13 = .int .i64 (j : Int) ∧ j + kq = n + 1 ∧ j ≤ n ∧ xs.take j = ys.take j ∧ Below w.heap.size w w')
    case atStart => exact ⟨0, rfl, by omega, by omega, rfl, Below.refl _ _⟩
    case round =>
      obtain ⟨j, rfl, hj, hjl, ha, hb⟩ := hrel
      have HA := Lib.hid ha
      have HB := Lib.hid hb
      have HJ := Lib.hid (show j + gk = n + 1 ∧ j ≤ n from ⟨hj, hjl⟩)
      by_cases c0 : j < n
      · have d1 : decide ((j : Int) < (n : Int)) = true := decide_eq_true (by omega)
        have i1 : ((0 : Int) ≤ (j : Int)) = True := eq_true (by omega)
        have i2 : ((j : Int) < (n : Int)) = True := eq_true (by omega)
        have HC := Lib.hid c0
        obtain ⟨ad, rfl, hcx⟩ := (HRX.out.below hb).at_ (j : Int) (by omega) (by omega)
        obtain ⟨ae, rfl, hcy⟩ := (HRY.out.below hb).at_ (j : Int) (by omega) (by omega)
        rw [Int.toNat_natCast] at hcx hcy
        have dcx : wr.drew.cell? (ad.add j) = _ := hcx
        have dcy : wr.drew.cell? (ae.add j) = _ := hcy
        obtain ⟨x, hxe⟩ : ∃ x, x = rdOf 0 xs (j : Int) := ⟨_, rfl⟩
        obtain ⟨y, hye⟩ : ∃ y, y = rdOf 0 ys (j : Int) := ⟨_, rfl⟩
        rw [← hxe] at hcx dcx
        rw [← hye] at hcy dcy
        have HX := Lib.hid hxe
        have HY := Lib.hid hye
        have HE := Lib.hid (sum1 j (by omega))
        clear ha hb hj hjl c0 hxe hye
        by_cases hxy : x = y
        · have t1 : (x == y) = true := by simpa using hxy
          have t2 : (x != y) = false := by simpa using hxy
          have HXY := Lib.hid hxy
          clear hxy
          cases gk with
          | zero => exact absurd HJ.out (by omega)
          | succ kk =>
            go_wp2
            refine start_ (n := 9) (S := fun w' => w'.cell? (ad.add j) = some (.int .u64 x) ∧ w'.cell? (ae.add j) = some (.int .u64 y)) (ds := []) #[false, false, false, false, false, false, false, false, false] (by kernel_rfl) rfl rfl ⟨dcx, dcy⟩ (fun hHeld => ?_)
            refine pure_ (i := 0) (N := some 16) (v := ?_) (a' := ?_) #[true, false, false, false, false, false, false, false, false] rfl rfl (by kernel_rfl) (fun _ _ _ h => h) (Or.inl ⟨by rfl, ?_⟩) ?_ ?_
            rotate_left
            · intro w'
              go_simp
              with_reducible rfl
            rotate_left
            · simp only [Act.put, List.setIfInBounds_toArray, List.set_cons_zero, List.set_cons_succ, i64_w, i32_w]
              rfl
            refine pure_ (i := 1) (N := some 17) (v := ?_) (a' := ?_) #[true, true, false, false, false, false, false, false, false] rfl rfl (by kernel_rfl) (fun _ _ _ h => h) (Or.inl ⟨by rfl, ?_⟩) ?_ ?_
            rotate_left
            · intro w'
              go_simp
              with_reducible rfl
            rotate_left
            · simp only [Act.put, List.setIfInBounds_toArray, List.set_cons_zero, List.set_cons_succ, i64_w, i32_w]
              rfl
            refine pure_ (i := 2) (N := some 18) (v := ?_) (a' := ?_) #[true, true, true, false, false, false, false, false, false] rfl rfl (by kernel_rfl) (fun _ _ _ h => h) (Or.inl ⟨by rfl, ?_⟩) ?_ ?_
            rotate_left
            · intro w'
              go_simp
              with_reducible rfl
            rotate_left
            · simp only [Act.put, List.setIfInBounds_toArray, List.set_cons_zero, List.set_cons_succ, i64_w, i32_w]
              rfl
            refine pure_ (i := 4) (N := some 20) (v := ?_) (a' := ?_) #[true, true, true, false, true, false, false, false, false] rfl rfl (by kernel_rfl) (fun _ _ _ h => h) (Or.inl ⟨by rfl, ?_⟩) ?_ ?_
            rotate_left
            · intro w'
              go_simp
              with_reducible rfl
            rotate_left
            · simp only [Act.put, List.setIfInBounds_toArray, List.set_cons_zero, List.set_cons_succ, i64_w, i32_w]
              rfl
            refine pure_ (i := 5) (N := some 21) (v := ?_) (a' := ?_) #[true, true, true, false, true, true, false, false, false] rfl rfl (by kernel_rfl) (fun _ _ _ h => h) (Or.inl ⟨by rfl, ?_⟩) ?_ ?_
            rotate_left
            · intro w'
              go_simp
              with_reducible rfl
            rotate_left
            · simp only [Act.put, List.setIfInBounds_toArray, List.set_cons_zero, List.set_cons_succ, i64_w, i32_w]
              rfl
            refine pure_ (i := 6) (N := some 22) (v := ?_) (a' := ?_) #[true, true, true, false, true, true, true, false, false] rfl rfl (by kernel_rfl) (fun _ _ _ h => h) (Or.inl ⟨by rfl, ?_⟩) ?_ ?_
            rotate_left
            · intro w'
              go_simp
              with_reducible rfl
            rotate_left
            · simp only [Act.put, List.setIfInBounds_toArray, List.set_cons_zero, List.set_cons_succ, i64_w, i32_w]
              rfl
            refine take_ (i := 3) (N := some 19) (v := ?_) (a' := ?_) #[true, true, true, true, true, true, true, false, false] rfl rfl (by kernel_rfl) (fun _ _ _ h => h) (Or.inl ⟨by rfl, ?_⟩) hHeld ?_ ?_
            rotate_left
            · rintro w' ⟨s0, s1⟩
              go_simp
              with_reducible rfl
            rotate_left
            · simp only [Act.put, List.setIfInBounds_toArray, List.set_cons_zero, List.set_cons_succ, i64_w, i32_w]
              rfl
            refine take_ (i := 7) (N := some 23) (v := ?_) (a' := ?_) #[true, true, true, true, true, true, true, true, false] rfl rfl (by kernel_rfl) (fun _ _ _ h => h) (Or.inl ⟨by rfl, ?_⟩) hHeld ?_ ?_
            rotate_left
            · rintro w' ⟨s0, s1⟩
              go_simp
              with_reducible rfl
            rotate_left
            · simp only [Act.put, List.setIfInBounds_toArray, List.set_cons_zero, List.set_cons_succ, i64_w, i32_w]
              rfl
            refine pure_ (i := 8) (N := some 24) (v := ?_) (a' := ?_) #[true, true, true, true, true, true, true, true, true] rfl rfl (by kernel_rfl) (fun _ _ _ h => h) (Or.inl ⟨by rfl, ?_⟩) ?_ ?_
            rotate_left
            · intro w'
              go_simp
              with_reducible rfl
            rotate_left
            · simp only [Act.put, List.setIfInBounds_toArray, List.set_cons_zero, List.set_cons_succ, i64_w, i32_w]
              rfl
            refine done_ (by kernel_rfl) ?_
            obtain ⟨e1, e2⟩ := HE.out
            go_wp2
            go_roundg kk
            case measure => omega
            case rel => exact ⟨j + 1, by first | rfl | rw [e2], by have := HJ.out; omega, by have := HC.out; omega, take_step (by rw [HRX.out.1]; exact HC.out) (by rw [HRY.out.1]; exact HC.out) HA.out (by rw [← HX.out, ← HY.out]; exact HXY.out), HB.out.drew⟩
        · have t1 : (x == y) = false := by simpa using hxy
          have t2 : (x != y) = true := by simpa using hxy
          have HXY := Lib.hid hxy
          clear hxy
          go_wp2
          refine start_ (n := 9) (S := fun w' => w'.cell? (ad.add j) = some (.int .u64 x) ∧ w'.cell? (ae.add j) = some (.int .u64 y)) (ds := []) #[false, false, false, false, false, false, false, false, false] (by kernel_rfl) rfl rfl ⟨dcx, dcy⟩ (fun hHeld => ?_)
          refine pure_ (i := 0) (N := some 16) (v := ?_) (a' := ?_) #[true, false, false, false, false, false, false, false, false] rfl rfl (by kernel_rfl) (fun _ _ _ h => h) (Or.inl ⟨by rfl, ?_⟩) ?_ ?_
          rotate_left
          · intro w'
            go_simp
            with_reducible rfl
          rotate_left
          · simp only [Act.put, List.setIfInBounds_toArray, List.set_cons_zero, List.set_cons_succ, i64_w, i32_w]
            rfl
          refine pure_ (i := 1) (N := some 17) (v := ?_) (a' := ?_) #[true, true, false, false, false, false, false, false, false] rfl rfl (by kernel_rfl) (fun _ _ _ h => h) (Or.inl ⟨by rfl, ?_⟩) ?_ ?_
          rotate_left
          · intro w'
            go_simp
            with_reducible rfl
          rotate_left
          · simp only [Act.put, List.setIfInBounds_toArray, List.set_cons_zero, List.set_cons_succ, i64_w, i32_w]
            rfl
          refine pure_ (i := 2) (N := some 18) (v := ?_) (a' := ?_) #[true, true, true, false, false, false, false, false, false] rfl rfl (by kernel_rfl) (fun _ _ _ h => h) (Or.inl ⟨by rfl, ?_⟩) ?_ ?_
          rotate_left
          · intro w'
            go_simp
            with_reducible rfl
          rotate_left
          · simp only [Act.put, List.setIfInBounds_toArray, List.set_cons_zero, List.set_cons_succ, i64_w, i32_w]
            rfl
          refine pure_ (i := 4) (N := some 20) (v := ?_) (a' := ?_) #[true, true, true, false, true, false, false, false, false] rfl rfl (by kernel_rfl) (fun _ _ _ h => h) (Or.inl ⟨by rfl, ?_⟩) ?_ ?_
          rotate_left
          · intro w'
            go_simp
            with_reducible rfl
          rotate_left
          · simp only [Act.put, List.setIfInBounds_toArray, List.set_cons_zero, List.set_cons_succ, i64_w, i32_w]
            rfl
          refine pure_ (i := 5) (N := some 21) (v := ?_) (a' := ?_) #[true, true, true, false, true, true, false, false, false] rfl rfl (by kernel_rfl) (fun _ _ _ h => h) (Or.inl ⟨by rfl, ?_⟩) ?_ ?_
          rotate_left
          · intro w'
            go_simp
            with_reducible rfl
          rotate_left
          · simp only [Act.put, List.setIfInBounds_toArray, List.set_cons_zero, List.set_cons_succ, i64_w, i32_w]
            rfl
          refine pure_ (i := 6) (N := some 22) (v := ?_) (a' := ?_) #[true, true, true, false, true, true, true, false, false] rfl rfl (by kernel_rfl) (fun _ _ _ h => h) (Or.inl ⟨by rfl, ?_⟩) ?_ ?_
          rotate_left
          · intro w'
            go_simp
            with_reducible rfl
          rotate_left
          · simp only [Act.put, List.setIfInBounds_toArray, List.set_cons_zero, List.set_cons_succ, i64_w, i32_w]
            rfl
          refine take_ (i := 3) (N := some 19) (v := ?_) (a' := ?_) #[true, true, true, true, true, true, true, false, false] rfl rfl (by kernel_rfl) (fun _ _ _ h => h) (Or.inl ⟨by rfl, ?_⟩) hHeld ?_ ?_
          rotate_left
          · rintro w' ⟨s0, s1⟩
            go_simp
            with_reducible rfl
          rotate_left
          · simp only [Act.put, List.setIfInBounds_toArray, List.set_cons_zero, List.set_cons_succ, i64_w, i32_w]
            rfl
          refine take_ (i := 7) (N := some 23) (v := ?_) (a' := ?_) #[true, true, true, true, true, true, true, true, false] rfl rfl (by kernel_rfl) (fun _ _ _ h => h) (Or.inl ⟨by rfl, ?_⟩) hHeld ?_ ?_
          rotate_left
          · rintro w' ⟨s0, s1⟩
            go_simp
            with_reducible rfl
          rotate_left
          · simp only [Act.put, List.setIfInBounds_toArray, List.set_cons_zero, List.set_cons_succ, i64_w, i32_w]
            rfl
          refine pure_ (i := 8) (N := some 24) (v := ?_) (a' := ?_) #[true, true, true, true, true, true, true, true, true] rfl rfl (by kernel_rfl) (fun _ _ _ h => h) (Or.inl ⟨by rfl, ?_⟩) ?_ ?_
          rotate_left
          · intro w'
            go_simp
            with_reducible rfl
          rotate_left
          · simp only [Act.put, List.setIfInBounds_toArray, List.set_cons_zero, List.set_cons_succ, i64_w, i32_w]
            rfl
          refine done_ (by kernel_rfl) ?_
          go_wp2
          go_ret
          have hd := rd_ne (xs := xs) (ys := ys) (j := j) (by rw [← HX.out, ← HY.out]; exact HXY.out)
          exact ⟨by rw [hd]; rfl, HB.out.drew⟩
      · have d1 : decide ((j : Int) < (n : Int)) = false := decide_eq_false (by omega)
        have hje : j = n := by omega
        subst hje
        clear ha hb hj hjl c0
        go_wp2
        go_ret
        have hd : decide (xs = ys) = true := decide_eq_true (by
          have h1 := HA.out
          have hl1 := HRX.out.1
          have hl2 := HRY.out.1
          rwa [List.take_of_length_le (by omega), List.take_of_length_le (by omega)] at h1)
        exact ⟨by rw [hd]; rfl, HB.out⟩
  · have d0 : ((n : Int) == (m : Int)) = false := by simpa using fun h => hnm (by omega)
    have d1 : ((n : Int) != (m : Int)) = true := by simpa using fun h => hnm (by omega)
    have HN := Lib.hid hnm
    clear hnm
    go_wp2
    go_ret
    have hd : decide (xs = ys) = false := decide_eq_false (fun h => HN.out (by rw [← HRX.out.1, ← HRY.out.1, h]))
    exact ⟨by rw [hd]; rfl, Below.refl _ _⟩
end Go.Proofs.Ytoleencecfjcjaa.At

/- scan.Same. -/
set_option linter.unusedVariables false
set_option linter.unusedSimpArgs false
namespace Go.Proofs.Ytoleencecfjcjaa.At
open Go.RowKit Go.Proofs.YtoleencecfjcjaaW.PrintWords Go.Proofs.YtoleencecfjcjaaW.PrintLast Go.Proofs.Ytoleencecfjcjaa.Rng
set_option maxRecDepth 100000 in
set_option maxHeartbeats 8000000 in
theorem Same_c (l1 t1 w1 h1 l2 t2 w2 h2 : Int) (A B : Option Addr) (n m cA cB : Nat) (xs ys : List Int) (w : World) (hx : Kd.C (Kd.int .u64) w A n xs) (hy : Kd.C (Kd.int .u64) w B m ys) (hn : n ≤ 1000) (hm : m ≤ 1000) :
    Calls Try.prog 38 #[.agg #[.int .i64 l1, .int .i64 t1, .int .i64 w1, .int .i64 h1, .slice A n cA], .agg #[.int .i64 l2, .int .i64 t2, .int .i64 w2, .int .i64 h2, .slice B m cB]] w fun e w' => e = .returned (.bool (sameB ⟨l1, t1, w1, h1, xs⟩ ⟨l2, t2, w2, h2, ys⟩)) ∧ Below w.heap.size w w' := by
  have HRX := Lib.hid hx
  have HRY := Lib.hid hy
  clear hx hy
  go_enter Try.func38, Try.ntmps38
  by_cases e0 : l1 = l2
  · subst e0
    by_cases e1 : t1 = t2
    · subst e1
      by_cases e2 : w1 = w2
      · subst e2
        by_cases e3 : h1 = h2
        · subst e3
          go_wp2_with (go_at_call 56; with_reducible refine (Equal_c A B n m cA cB xs ys _ (Kd.C_below HRX.out ?_) (Kd.C_below HRY.out ?_) hn hm).mono ?_; exact below_alloc (below_alloc (Below.refl _ _) _) _; exact below_alloc (below_alloc (Below.refl _ _) _) _; rintro e wx ⟨rfl, hbx⟩; have HX := Lib.hid hbx; clear hbx)
          go_ret
          exact ⟨by simp only [sameB, beq_self_eq_true, Bool.true_and]; rfl, (below_alloc (below_alloc (Below.refl _ _) _) _).trans (HX.out.mono (by simp; omega))⟩
        · have u3 : (h1 == h2) = false := by simpa using e3
          have d3 : decide (h1 = h2) = false := decide_eq_false e3
          have E3 := Lib.hid e3
          clear e3
          go_wp2
          go_ret
          exact ⟨by simp only [sameB, u3, beq_self_eq_true, Bool.true_and, Bool.false_and]; rfl, below_alloc (below_alloc (Below.refl _ _) _) _⟩
      · have u2 : (w1 == w2) = false := by simpa using e2
        have d2 : decide (w1 = w2) = false := decide_eq_false e2
        have E2 := Lib.hid e2
        clear e2
        go_wp2
        go_ret
        exact ⟨by simp only [sameB, u2, beq_self_eq_true, Bool.true_and, Bool.false_and]; rfl, below_alloc (below_alloc (Below.refl _ _) _) _⟩
    · have u1 : (t1 == t2) = false := by simpa using e1
      have d1 : decide (t1 = t2) = false := decide_eq_false e1
      have E1 := Lib.hid e1
      clear e1
      go_wp2
      go_ret
      exact ⟨by simp only [sameB, u1, beq_self_eq_true, Bool.true_and, Bool.false_and]; rfl, below_alloc (below_alloc (Below.refl _ _) _) _⟩
  · have u0 : (l1 == l2) = false := by simpa using e0
    have d0 : decide (l1 = l2) = false := decide_eq_false e0
    have E0 := Lib.hid e0
    clear e0
    go_wp2
    go_ret
    exact ⟨by simp only [sameB, u0, beq_self_eq_true, Bool.true_and, Bool.false_and]; rfl, below_alloc (below_alloc (Below.refl _ _) _) _⟩
end Go.Proofs.Ytoleencecfjcjaa.At

/- bits.Len64; the closures of scan.Right. -/
set_option linter.unusedVariables false
set_option linter.unusedSimpArgs false
namespace Go.Proofs.Ytoleencecfjcjaa.At
open Go.RowKit Go.Proofs.YtoleencecfjcjaaW.PrintWords Go.Proofs.YtoleencecfjcjaaW.PrintLast Go.Proofs.Ytoleencecfjcjaa.Rng Go.Shelf
set_option maxRecDepth 100000 in
set_option maxHeartbeats 4000000 in
theorem within_c (n a b : Int) (w : World) : Calls Try.prog 52 #[.int .i64 n, .int .i64 a, .int .i64 b] w fun e w' => e = .returned (.bool (decide (a ≤ n) && decide (n ≤ b))) ∧ w' = w := by
  go_enter Try.func52, Try.ntmps52
  by_cases h1 : a ≤ n
  · have t1 : decide (a ≤ n) = true := decide_eq_true h1
    clear h1
    go_wp2
    go_ret
    exact ⟨by rw [t1]; rfl, rfl⟩
  · have t1 : decide (a ≤ n) = false := decide_eq_false h1
    clear h1
    go_wp2
    go_ret
    exact ⟨by rw [t1]; rfl, rfl⟩
def numsL : Ren := ⟨fun n => match n with | 129 => 55 | _ => 0, fun n => match n with | 3 => 3 | 4 => 4 | 5 => 5 | 9 => 9 | 46 => 35 | 53 => 92 | _ => 0, fun n => n⟩
set_option maxRecDepth 100000 in
theorem lays129 : Lays.n129 Try.prog numsL := {
  mixed := by kernel_rfl,
  f129 := by kernel_rfl,
  t3 := by kernel_rfl,
  a3 := fun _ => by kernel_rfl,
  z3 := fun _ => by kernel_rfl,
  v3 := fun _ => by kernel_rfl,
  t4 := by kernel_rfl,
  a4 := fun _ => by kernel_rfl,
  z4 := fun _ => by kernel_rfl,
  v4 := fun _ => by kernel_rfl,
  t5 := by kernel_rfl,
  a5 := fun _ => by kernel_rfl,
  z5 := fun _ => by kernel_rfl,
  v5 := fun _ => by kernel_rfl,
  t9 := by kernel_rfl,
  a9 := fun _ => by kernel_rfl,
  z9 := fun _ => by kernel_rfl,
  v9 := fun _ => by kernel_rfl,
  t46 := by kernel_rfl,
  a46 := fun _ => by kernel_rfl,
  z46 := fun _ => by kernel_rfl,
  v46 := fun _ => by kernel_rfl,
  t53 := by kernel_rfl,
  a53 := fun _ => by kernel_rfl,
  z53 := fun _ => by kernel_rfl,
  v53 := fun _ => by kernel_rfl }
theorem Len64_c (x : Int) (w : World) (h0 : 0 ≤ x) (h1 : x ≤ 18446744073709551615) : Calls Try.prog 55 #[.int .u64 x] w fun e w' => e = .returned (.int .i64 (Lib.bitLen x.toNat)) ∧ w' = w := Any.bits_Len64 lays129 x w h0 h1
theorem bitLenAux_le : ∀ (f x k : Nat), x < 2 ^ f → (Lib.bitLenAux f x ≤ k ↔ x < 2 ^ k)
  | 0, x, k, h => by
    have h0 : x = 0 := by simpa using h
    subst h0
    exact ⟨fun _ => Nat.two_pow_pos k, fun _ => Nat.zero_le _⟩
  | f + 1, x, k, h => by
    unfold Lib.bitLenAux
    by_cases h0 : x = 0
    · subst h0
      exact ⟨fun _ => Nat.two_pow_pos k, fun _ => by simp⟩
    · rw [if_neg h0]
      rw [Nat.pow_succ] at h
      cases k with
      | zero =>
        rw [Nat.pow_zero]
        omega
      | succ k =>
        have ih := bitLenAux_le f (x / 2) k (by omega)
        rw [Nat.pow_succ]
        omega
theorem bitLen_le {x : Nat} (k : Nat) (h : x < 18446744073709551616) : Lib.bitLen x ≤ k ↔ x < 2 ^ k := bitLenAux_le 64 x k h
set_option maxRecDepth 100000 in
set_option maxHeartbeats 4000000 in
/-- Is a row too long? -/
theorem long_c (x wd : Int) (b : Nat) (cs : Array Value) (w : World) (h0 : 0 ≤ x) (h1 : x ≤ 18446744073709551615) (hb : w.heap[b]? = some (.cells cs 38 (0, 0))) (hc : cs[2]? = some (.int .i64 wd)) :
    Calls Try.prog 54 #[.int .u64 x, .pointer (some ⟨b, 0, none⟩)] w fun e w' => e = .returned (.bool (decide (wd < (Lib.bitLen x.toNat : Int)))) ∧ Below w.heap.size w w' := by
  have c2 : w.drew.cell? ⟨b, 2, none⟩ = some (.int .i64 wd) := ckA hb 2 _ hc
  go_enter Try.func54, Try.ntmps54
  go_wp2
  refine start_ (n := 6) (S := fun w' => w'.cell? ⟨b, 2, none⟩ = some (.int .i64 wd)) (ds := []) #[false, false, false, false, false, false] (by kernel_rfl) rfl rfl (c2) (fun hHeld => ?_)
  refine pure_ (i := 0) (N := some 4) (v := ?_) (a' := ?_) #[true, false, false, false, false, false] rfl rfl (by kernel_rfl) (fun _ _ _ h => h) (Or.inl ⟨by rfl, ?_⟩) ?_ ?_
  rotate_left
  · intro w'
    go_simp
    with_reducible rfl
  rotate_left
  · simp only [Act.put, List.setIfInBounds_toArray, List.set_cons_zero, List.set_cons_succ, i64_w, i32_w]
    rfl
  refine pure_ (i := 2) (N := some 6) (v := ?_) (a' := ?_) #[true, false, true, false, false, false] rfl rfl (by kernel_rfl) (fun _ _ _ h => h) (Or.inl ⟨by rfl, ?_⟩) ?_ ?_
  rotate_left
  · intro w'
    go_simp
    with_reducible rfl
  rotate_left
  · simp only [Act.put, List.setIfInBounds_toArray, List.set_cons_zero, List.set_cons_succ, i64_w, i32_w]
    rfl
  refine take_ (i := 3) (N := some 7) (v := ?_) (a' := ?_) #[true, false, true, true, false, false] rfl rfl (by kernel_rfl) (fun _ _ _ h => h) (Or.inl ⟨by rfl, ?_⟩) hHeld ?_ ?_
  rotate_left
  · intro w' s0
    go_simp
    with_reducible rfl
  rotate_left
  · simp only [Act.put, List.setIfInBounds_toArray, List.set_cons_zero, List.set_cons_succ, i64_w, i32_w]
    rfl
  refine one_ (i := 1) (N := some 5) #[true, true, true, true, false, false] rfl rfl (by kernel_rfl) (by decide) (fun K hK => ?_)
  refine goes_ Try.func55 (by kernel_rfl) rfl #[.int .u64 x] (by rfl) rfl rfl (by simp only [List.map_toArray, List.map_cons, List.map_nil]; rfl) ?_
  with_reducible refine (Len64_c x _ h0 h1).mono ?_
  rintro e wx ⟨rfl, rfl⟩
  refine ⟨_, rfl, ?_⟩
  refine hK.out _ _ (c2) (fun hHeld => ?_)
  clear hK K
  refine norm_ (a' := ?_) ?_ ?_
  rotate_left
  · show Act.put _ (some 5) _ = _
    simp only [Act.put, List.setIfInBounds_toArray, List.set_cons_zero, List.set_cons_succ, i64_w, i32_w]
    rfl
  refine pure_ (i := 4) (N := some 8) (v := ?_) (a' := ?_) #[true, true, true, true, true, false] rfl rfl (by kernel_rfl) (fun _ _ _ h => h) (Or.inl ⟨by rfl, ?_⟩) ?_ ?_
  rotate_left
  · intro w'
    go_simp
    with_reducible rfl
  rotate_left
  · simp only [Act.put, List.setIfInBounds_toArray, List.set_cons_zero, List.set_cons_succ, i64_w, i32_w]
    rfl
  refine pure_ (i := 5) (N := some 3) (v := ?_) (a' := ?_) #[true, true, true, true, true, true] rfl rfl (by kernel_rfl) (fun _ _ _ h => h) (Or.inl ⟨by rfl, ?_⟩) ?_ ?_
  rotate_left
  · intro w'
    go_simp
    with_reducible rfl
  rotate_left
  · simp only [Act.put, List.setIfInBounds_toArray, List.set_cons_zero, List.set_cons_succ, i64_w, i32_w]
    rfl
  refine done_ (by kernel_rfl) ?_
  go_wp2
  go_ret
  exact ⟨rfl, below_drew (Below.refl _ _)⟩
end Go.Proofs.Ytoleencecfjcjaa.At

/- slices.IndexFunc, ContainsFunc with the closure of scan.Right. -/
set_option linter.unusedVariables false
set_option linter.unusedSimpArgs false
namespace Go.Proofs.Ytoleencecfjcjaa.At
open Go.RowKit Go.Proofs.YtoleencecfjcjaaW.PrintWords Go.Proofs.YtoleencecfjcjaaW.PrintLast Go.Proofs.Ytoleencecfjcjaa.Rng
def tooLong (wd x : Int) : Bool := decide (wd < (Lib.bitLen x.toNat : Int))
theorem any_step {xs : List Int} {j : Nat} {wd : Int} (hj : j < xs.length) (h : (xs.take j).any (tooLong wd) = false) : (xs.take (j + 1)).any (tooLong wd) = tooLong wd (rdOf 0 xs (j : Int)) := by
  rw [List.take_add_one, List.any_append, h, List.getElem?_eq_getElem hj]
  simp [rdOf, hj]
theorem any_true {xs : List Int} {j : Nat} {wd : Int} (hj : j < xs.length) (h : tooLong wd (rdOf 0 xs (j : Int)) = true) : xs.any (tooLong wd) = true := by
  refine List.any_eq_true.2 ⟨xs[j], List.getElem_mem hj, ?_⟩
  simpa [rdOf, hj] using h
theorem rd_mem {xs : List Int} {j : Nat} (hj : j < xs.length) : rdOf 0 xs (j : Int) ∈ xs := by
  simp [rdOf, hj]
set_option maxRecDepth 100000 in
set_option maxHeartbeats 4000000 in
theorem IndexFunc_c (A : Option Addr) (n cA b : Nat) (xs : List Int) (wd : Int) (cs : Array Value) (w : World) (hx : Kd.C (Kd.int .u64) w A n xs) (hn : n ≤ 1000) (hr : ∀ x ∈ xs, 0 ≤ x ∧ x ≤ 18446744073709551615)
    (hb : w.heap[b]? = some (.cells cs 38 (0, 0))) (hc : cs[2]? = some (.int .i64 wd)) :
    Calls Try.prog 63 #[.slice A n cA, .func (.func 54) #[] #[.pointer (some ⟨b, 0, none⟩)]] w fun e w' => ∃ r : Int, e = .returned (.int .i64 r) ∧ decide (0 ≤ r) = xs.any (tooLong wd) ∧ Below w.heap.size w w' := by
  have rx := Kd.reads_of_C (d := (0 : Int)) hx
  have hxl : xs.length = n := rx.1
  have HRX := Lib.hid rx
  have HXL := Lib.hid hxl
  have HBB := Lib.hid hb
  have HCC := Lib.hid hc
  clear hx rx hxl hb hc
  go_enter Try.func63, Try.ntmps63
  go_wp2
  go_loopg [8] (n + 1) (fun kq v8 w' => ∃ j : Nat, v8 = .int .i64 (j : Int) ∧ j + kq = n + 1 ∧ j ≤ n ∧ (xs.take j).any (tooLong wd) = false ∧ Below w.heap.size w w')
  case atStart => exact ⟨0, rfl, by omega, by omega, rfl, Below.refl _ _⟩
  case round =>
    obtain ⟨j, rfl, hj, hjl, ha, hb⟩ := hrel
    have HA := Lib.hid ha
    have HB := Lib.hid hb
    have HJ := Lib.hid (show j + gk = n + 1 ∧ j ≤ n from ⟨hj, hjl⟩)
    by_cases c0 : j < n
    · have d1 : decide ((j : Int) < (n : Int)) = true := decide_eq_true (by omega)
      have i1 : ((0 : Int) ≤ (j : Int)) = True := eq_true (by omega)
      have i2 : ((j : Int) < (n : Int)) = True := eq_true (by omega)
      have HC := Lib.hid c0
      obtain ⟨ad, rfl, hcx⟩ := (HRX.out.below hb).at_ (j : Int) (by omega) (by omega)
      rw [Int.toNat_natCast] at hcx
      have HM := Lib.hid (hr _ (rd_mem (xs := xs) (j := j) (by rw [HXL.out]; exact c0)))
      have HS := Lib.hid (any_step (xs := xs) (j := j) (wd := wd) (by rw [HXL.out]; exact c0) ha)
      have HT := Lib.hid (fun h => any_true (xs := xs) (j := j) (wd := wd) (by rw [HXL.out]; exact c0) h)
      obtain ⟨x, hxe⟩ : ∃ x, rdOf 0 xs (j : Int) = x := ⟨_, rfl⟩
      rw [hxe] at hcx HM HS HT
      have HE := Lib.hid (sum1 j (by omega))
      clear ha hb hj hjl c0 hxe
      obtain ⟨v, hv⟩ : ∃ v, tooLong wd x = v := ⟨_, rfl⟩
      have HLC : Hid (∀ W : World, W.heap[b]? = some (.cells cs 38 (0, 0)) → Calls Try.prog 54 #[.int .u64 x, .pointer (some ⟨b, 0, none⟩)] W fun e w' => e = .returned (.bool v) ∧ Below W.heap.size W w') := Lib.hid (fun W hW => by
        have := long_c x wd b cs W HM.out.1 HM.out.2 hW HCC.out
        unfold tooLong at hv
        rw [hv] at this
        exact this)
      rw [hv] at HS HT
      clear hv
      cases v with
      | true =>
        go_wp2_with (go_at_call 54; with_reducible refine (HLC.out _ ?_).mono ?_; exact blk_below HBB.out HB.out; rintro e wx ⟨rfl, hbx⟩; have HX := Lib.hid hbx; clear hbx)
        go_ret
        exact ⟨(j : Int), rfl, (decide_eq_true (by omega)).trans (HT.out (by first | rfl | trivial)).symm, HB.out.trans (HX.out.mono HB.out.size)⟩
      | false =>
        cases gk with
        | zero => exact absurd HJ.out (by omega)
        | succ kk =>
          obtain ⟨e1, e2⟩ := HE.out
          go_wp2_with (go_at_call 54; with_reducible refine (HLC.out _ ?_).mono ?_; exact blk_below HBB.out HB.out; rintro e wx ⟨rfl, hbx⟩; have HX := Lib.hid hbx; clear hbx)
          go_roundg kk
          case measure => omega
          case rel => exact ⟨j + 1, by first | rfl | rw [e2], by have := HJ.out; omega, by have := HC.out; omega, HS.out, HB.out.trans (HX.out.mono HB.out.size)⟩
    · have d1 : decide ((j : Int) < (n : Int)) = false := decide_eq_false (by omega)
      have hje : j = n := by omega
      subst hje
      clear ha hb hj hjl c0
      go_wp2
      go_ret
      have hd : xs.any (tooLong wd) = false := by
        have h1 := HA.out
        have h2 := HXL.out
        rwa [List.take_of_length_le (by omega)] at h1
      exact ⟨-1, rfl, by rw [hd]; rfl, HB.out⟩
set_option maxRecDepth 100000 in
set_option maxHeartbeats 4000000 in
theorem ContainsFunc_c (A : Option Addr) (n cA b : Nat) (xs : List Int) (wd : Int) (cs : Array Value) (w : World) (hx : Kd.C (Kd.int .u64) w A n xs) (hn : n ≤ 1000) (hr : ∀ x ∈ xs, 0 ≤ x ∧ x ≤ 18446744073709551615)
    (hb : w.heap[b]? = some (.cells cs 38 (0, 0))) (hc : cs[2]? = some (.int .i64 wd)) :
    Calls Try.prog 53 #[.slice A n cA, .func (.func 54) #[] #[.pointer (some ⟨b, 0, none⟩)]] w fun e w' => e = .returned (.bool (xs.any (tooLong wd))) ∧ Below w.heap.size w w' := by
  go_enter Try.func53, Try.ntmps53
  go_wp2_with (go_at_call 63; refine (IndexFunc_c A n cA b xs wd cs _ hx hn hr hb hc).mono ?_; rintro e w1 ⟨r, rfl, hr1, hb1⟩; have HR := Lib.hid hr1; have HB1 := Lib.hid hb1; clear hr1 hb1)
  go_ret
  exact ⟨by rw [← HR.out]; rfl, HB1.out⟩
end Go.Proofs.Ytoleencecfjcjaa.At

/- scan.Right. -/
set_option linter.unusedVariables false
set_option linter.unusedSimpArgs false
namespace Go.Proofs.Ytoleencecfjcjaa.At
open Go.RowKit Go.Proofs.YtoleencecfjcjaaW.PrintWords Go.Proofs.YtoleencecfjcjaaW.PrintLast Go.Proofs.Ytoleencecfjcjaa.Rng
theorem sub_w (wd : Int) (h : (decide (1 ≤ wd) && decide (wd ≤ 64)) = true) : IntKind.i64.wrap (10001 - wd) = 10001 - wd ∧ wrap64 (10001 - wd) = 10001 - wd := by
  simp only [Bool.and_eq_true, decide_eq_true_eq] at h
  constructor
  · rw [IntKind.wrap_i64]; omega
  · unfold wrap64; omega
theorem rows_ok (wd : Int) (xs : List Int) (h : (decide (1 ≤ wd) && decide (wd ≤ 64)) = true) (hr : ∀ x ∈ xs, 0 ≤ x ∧ x ≤ 18446744073709551615) : (!xs.any (tooLong wd)) = xs.all (rowOk wd) := by
  simp only [Bool.and_eq_true, decide_eq_true_eq] at h
  have key : ∀ x ∈ xs, (tooLong wd x = false ↔ rowOk wd x = true) := fun x hx => by
    obtain ⟨x0, x1⟩ := hr x hx
    have hb := bitLen_le (x := x.toNat) wd.toNat (by omega)
    have hp : ((2 ^ wd.toNat : Nat) : Int) = 2 ^ wd.toNat := by simp
    simp only [tooLong, rowOk, decide_eq_false_iff_not, decide_eq_true_eq]
    rw [← hp]
    omega
  rw [Bool.eq_iff_iff, Bool.not_eq_true', List.any_eq_false, List.all_eq_true]
  constructor
  · intro hh x hx
    exact (key x hx).1 (by simpa using hh x hx)
  · intro hh x hx
    have := (key x hx).2 (hh x hx)
    simp [this]
theorem right_dims (l t wd h : Int) (xs : List Int) : dimsOk ⟨l, t, wd, h, xs⟩ = ((decide (1 ≤ wd) && decide (wd ≤ 64)) && ((decide (1 ≤ h) && decide (h ≤ 64)) && (decide ((xs.length : Int) = h) && ((decide (-10000 ≤ l) && decide (l ≤ 10001 - wd)) && (decide (-10000 ≤ t) && decide (t ≤ 10001 - h)))))) := by
  simp only [dimsOk, Bool.decide_and, Bool.and_assoc]

set_option maxRecDepth 100000 in
set_option maxHeartbeats 8000000 in
theorem Right_c (l t wd h : Int) (A : Option Addr) (n cA : Nat) (xs : List Int) (w : World) (hx : Kd.C (Kd.int .u64) w A n xs) (hn : n ≤ 1000) (hr : ∀ x ∈ xs, 0 ≤ x ∧ x ≤ 18446744073709551615) :
    Calls Try.prog 37 #[.agg #[.int .i64 l, .int .i64 t, .int .i64 wd, .int .i64 h, .slice A n cA]] w fun e w' => e = .returned (.bool (rightB ⟨l, t, wd, h, xs⟩)) ∧ Below w.heap.size w w' := by
  have HRX := Lib.hid hx
  have HR := Lib.hid hr
  have HL := Lib.hid (show xs.length = n from (Kd.reads_of_C (d := (0 : Int)) hx).1)
  clear hx hr
  have HS : ∀ v, sameB ⟨l, t, wd, h, xs⟩ ⟨0, 0, 0, 0, []⟩ = v → Hid (∀ W : World, Below w.heap.size w W → Calls Try.prog 38 #[.agg #[.int .i64 l, .int .i64 t, .int .i64 wd, .int .i64 h, .slice A n cA], .agg #[.int .i64 0, .int .i64 0, .int .i64 0, .int .i64 0, .slice none 0 0]] W fun e w' => e = .returned (.bool v) ∧ Below W.heap.size W w') := fun v hv => Lib.hid (fun W hW => by
    have := Same_c l t wd h 0 0 0 0 A none n 0 cA 0 xs [] W (Kd.C_below HRX.out hW) (Kd.C_nil _ W) hn (by omega)
    rw [hv] at this
    exact this)
  have HW : ∀ (x a b : Int) (v : Bool), (decide (a ≤ x) && decide (x ≤ b)) = v → Hid (∀ W : World, Calls Try.prog 52 #[.int .i64 x, .int .i64 a, .int .i64 b] W fun e w' => e = .returned (.bool v) ∧ w' = W) := fun x a b v hv => Lib.hid (fun W => by
    have := within_c x a b W
    rw [hv] at this
    exact this)
  have hrB : rightB ⟨l, t, wd, h, xs⟩ = (sameB ⟨l, t, wd, h, xs⟩ ⟨0, 0, 0, 0, []⟩ || (((decide (1 ≤ wd) && decide (wd ≤ 64)) && ((decide (1 ≤ h) && decide (h ≤ 64)) && (decide ((n : Int) = h) && ((decide (-10000 ≤ l) && decide (l ≤ 10001 - wd)) && (decide (-10000 ≤ t) && decide (t ≤ 10001 - h)))))) && xs.all (rowOk wd))) := by
    rw [rightB, right_dims, HL.out]
    rfl
  rw [hrB]
  clear hrB
  go_enter Try.func37, Try.ntmps37
  cases v0 : sameB ⟨l, t, wd, h, xs⟩ ⟨0, 0, 0, 0, []⟩ with
  | true =>
    have H0 := HS _ v0
    clear HS HW v0
    go_wp2_with (go_at_call 38; with_reducible refine (H0.out _ ?_).mono ?_; exact below_alloc (Below.refl _ _) _; rintro e wx ⟨rfl, hbx⟩; have HX := Lib.hid hbx; clear hbx)
    go_ret
    exact ⟨rfl, (below_alloc (Below.refl _ _) _).trans (HX.out.mono (by simp))⟩
  | false =>
    have H0 := HS _ v0
    clear HS v0
    cases v0 : (decide (1 ≤ wd) && decide (wd ≤ 64)) with
    | false =>
      have W0 := HW _ _ _ _ v0
      have V0 := Lib.hid v0
      clear v0
      go_wp2_with (first | (go_at_call 38; with_reducible refine (H0.out _ ?_).mono ?_; exact below_alloc (Below.refl _ _) _; rintro e wx ⟨rfl, hbx⟩; have hbb := blk_below (blk_new w (.cells #[.int .i64 l, .int .i64 t, .int .i64 wd, .int .i64 h, .slice A n cA] 38)) hbx; have c0 := ckA hbb 0 _ rfl; have c1 := ckA hbb 1 _ rfl; have c2 := ckA hbb 2 _ rfl; have c3 := ckA hbb 3 _ rfl; have c4 := ckA hbb 4 _ rfl; have HBB := Lib.hid hbb; have HX := Lib.hid hbx; clear hbb hbx) | (go_at_call 52; (first | (with_reducible refine (W0.out _).mono ?_)); rintro e wz ⟨rfl, rfl⟩))
      go_ret
      exact ⟨by simp only [V0.out, Bool.true_and, Bool.false_and, Bool.false_or, Bool.and_false]; rfl, (below_alloc (Below.refl _ _) _).trans (HX.out.mono (by simp))⟩
    | true =>
      have W0 := HW _ _ _ _ v0
      have V0 := Lib.hid v0
      clear v0
      cases v1 : (decide (1 ≤ h) && decide (h ≤ 64)) with
      | false =>
        have W1 := HW _ _ _ _ v1
        have V1 := Lib.hid v1
        clear v1
        go_wp2_with (first | (go_at_call 38; with_reducible refine (H0.out _ ?_).mono ?_; exact below_alloc (Below.refl _ _) _; rintro e wx ⟨rfl, hbx⟩; have hbb := blk_below (blk_new w (.cells #[.int .i64 l, .int .i64 t, .int .i64 wd, .int .i64 h, .slice A n cA] 38)) hbx; have c0 := ckA hbb 0 _ rfl; have c1 := ckA hbb 1 _ rfl; have c2 := ckA hbb 2 _ rfl; have c3 := ckA hbb 3 _ rfl; have c4 := ckA hbb 4 _ rfl; have HBB := Lib.hid hbb; have HX := Lib.hid hbx; clear hbb hbx) | (go_at_call 52; (first | (with_reducible refine (W0.out _).mono ?_) | (with_reducible refine (W1.out _).mono ?_)); rintro e wz ⟨rfl, rfl⟩))
        go_ret
        exact ⟨by simp only [V0.out, V1.out, Bool.true_and, Bool.false_and, Bool.false_or, Bool.and_false]; rfl, (below_alloc (Below.refl _ _) _).trans (HX.out.mono (by simp))⟩
      | true =>
        have W1 := HW _ _ _ _ v1
        have V1 := Lib.hid v1
        clear v1
        cases v2 : decide ((n : Int) = h) with
        | false =>
          have V2 := Lib.hid v2
          have u2 : ((n : Int) == h) = false := by simpa using v2
          go_wp2_with (first | (go_at_call 38; with_reducible refine (H0.out _ ?_).mono ?_; exact below_alloc (Below.refl _ _) _; rintro e wx ⟨rfl, hbx⟩; have hbb := blk_below (blk_new w (.cells #[.int .i64 l, .int .i64 t, .int .i64 wd, .int .i64 h, .slice A n cA] 38)) hbx; have c0 := ckA hbb 0 _ rfl; have c1 := ckA hbb 1 _ rfl; have c2 := ckA hbb 2 _ rfl; have c3 := ckA hbb 3 _ rfl; have c4 := ckA hbb 4 _ rfl; have HBB := Lib.hid hbb; have HX := Lib.hid hbx; clear hbb hbx) | (go_at_call 52; (first | (with_reducible refine (W0.out _).mono ?_) | (with_reducible refine (W1.out _).mono ?_)); rintro e wz ⟨rfl, rfl⟩))
          go_ret
          exact ⟨by simp only [V0.out, V1.out, V2.out, Bool.true_and, Bool.false_and, Bool.false_or, Bool.and_false]; rfl, (below_alloc (Below.refl _ _) _).trans (HX.out.mono (by simp))⟩
        | true =>
          have V2 := Lib.hid v2
          have u2 : ((n : Int) == h) = true := by simpa using v2
          cases v3 : (decide (-10000 ≤ l) && decide (l ≤ 10001 - wd)) with
          | false =>
            have W3 := HW _ _ _ _ v3
            have V3 := Lib.hid v3
            clear v3
            obtain ⟨s1, s2⟩ := sub_w wd V0.out
            go_wp2_with (first | (go_at_call 38; with_reducible refine (H0.out _ ?_).mono ?_; exact below_alloc (Below.refl _ _) _; rintro e wx ⟨rfl, hbx⟩; have hbb := blk_below (blk_new w (.cells #[.int .i64 l, .int .i64 t, .int .i64 wd, .int .i64 h, .slice A n cA] 38)) hbx; have c0 := ckA hbb 0 _ rfl; have c1 := ckA hbb 1 _ rfl; have c2 := ckA hbb 2 _ rfl; have c3 := ckA hbb 3 _ rfl; have c4 := ckA hbb 4 _ rfl; have HBB := Lib.hid hbb; have HX := Lib.hid hbx; clear hbb hbx) | (go_at_call 52; (first | (with_reducible refine (W0.out _).mono ?_) | (with_reducible refine (W1.out _).mono ?_) | (with_reducible refine (W3.out _).mono ?_)); rintro e wz ⟨rfl, rfl⟩))
            go_ret
            exact ⟨by simp only [V0.out, V1.out, V2.out, V3.out, Bool.true_and, Bool.false_and, Bool.false_or, Bool.and_false]; rfl, (below_alloc (Below.refl _ _) _).trans (HX.out.mono (by simp))⟩
          | true =>
            have W3 := HW _ _ _ _ v3
            have V3 := Lib.hid v3
            clear v3
            cases v4 : (decide (-10000 ≤ t) && decide (t ≤ 10001 - h)) with
            | false =>
              have W4 := HW _ _ _ _ v4
              have V4 := Lib.hid v4
              clear v4
              obtain ⟨s1, s2⟩ := sub_w wd V0.out
              obtain ⟨s3, s4⟩ := sub_w h V1.out
              go_wp2_with (first | (go_at_call 38; with_reducible refine (H0.out _ ?_).mono ?_; exact below_alloc (Below.refl _ _) _; rintro e wx ⟨rfl, hbx⟩; have hbb := blk_below (blk_new w (.cells #[.int .i64 l, .int .i64 t, .int .i64 wd, .int .i64 h, .slice A n cA] 38)) hbx; have c0 := ckA hbb 0 _ rfl; have c1 := ckA hbb 1 _ rfl; have c2 := ckA hbb 2 _ rfl; have c3 := ckA hbb 3 _ rfl; have c4 := ckA hbb 4 _ rfl; have HBB := Lib.hid hbb; have HX := Lib.hid hbx; clear hbb hbx) | (go_at_call 52; (first | (with_reducible refine (W0.out _).mono ?_) | (with_reducible refine (W1.out _).mono ?_) | (with_reducible refine (W3.out _).mono ?_) | (with_reducible refine (W4.out _).mono ?_)); rintro e wz ⟨rfl, rfl⟩))
              go_ret
              exact ⟨by simp only [V0.out, V1.out, V2.out, V3.out, V4.out, Bool.true_and, Bool.false_and, Bool.false_or, Bool.and_false]; rfl, (below_alloc (Below.refl _ _) _).trans (HX.out.mono (by simp))⟩
            | true =>
              have W4 := HW _ _ _ _ v4
              have V4 := Lib.hid v4
              clear v4
              obtain ⟨s1, s2⟩ := sub_w wd V0.out
              obtain ⟨s3, s4⟩ := sub_w h V1.out
              go_wp2_with (first | (go_at_call 38; with_reducible refine (H0.out _ ?_).mono ?_; exact below_alloc (Below.refl _ _) _; rintro e wx ⟨rfl, hbx⟩; have hbb := blk_below (blk_new w (.cells #[.int .i64 l, .int .i64 t, .int .i64 wd, .int .i64 h, .slice A n cA] 38)) hbx; have c0 := ckA hbb 0 _ rfl; have c1 := ckA hbb 1 _ rfl; have c2 := ckA hbb 2 _ rfl; have c3 := ckA hbb 3 _ rfl; have c4 := ckA hbb 4 _ rfl; have HBB := Lib.hid hbb; have HX := Lib.hid hbx; clear hbb hbx) | (go_at_call 52; (first | (with_reducible refine (W0.out _).mono ?_) | (with_reducible refine (W1.out _).mono ?_) | (with_reducible refine (W3.out _).mono ?_) | (with_reducible refine (W4.out _).mono ?_)); rintro e wz ⟨rfl, rfl⟩) | (go_at_call 53; refine (ContainsFunc_c A n cA w.heap.size xs wd #[.int .i64 l, .int .i64 t, .int .i64 wd, .int .i64 h, .slice A n cA] _ (Kd.C_below HRX.out ((below_alloc (Below.refl _ _) _).trans (HX.out.mono (by simp)))) hn HR.out HBB.out rfl).mono ?_; rintro e wy ⟨rfl, hby⟩; have HY := Lib.hid hby; clear hby))
              go_ret
              rw [← rows_ok wd xs V0.out HR.out]
              exact ⟨by simp only [V0.out, V1.out, V2.out, V3.out, V4.out, Bool.true_and, Bool.false_or]; rfl, ((below_alloc (Below.refl _ _) _).trans (HX.out.mono (by simp))).trans (HY.out.mono (by have := HX.out.size; simp at this; omega))⟩
end Go.Proofs.Ytoleencecfjcjaa.At

/- The atlas's map: names as keys, pointers to entries. -/
set_option linter.unusedVariables false
set_option linter.unusedSimpArgs false
namespace Go.Proofs.Ytoleencecfjcjaa.At
open Go.RowKit Go.Proofs.YtoleencecfjcjaaW.PrintWords Go.Proofs.YtoleencecfjcjaaW.PrintLast Go.Proofs.Ytoleencecfjcjaa.Rng Go.WideMaps Go.WideElems
open Go.ChangeShapes Go.WideShapes Go.MapKept
open Go.ChangeMaps (modify_eq_set setBlock keptBut_setBlock heap_setBlock_same heap_setBlock_other)
theorem undM : Try.prog.underlying 62 = some (.map 9 84) := by kernel_rfl
theorem undStr : Try.prog.underlying 9 = some .string := by kernel_rfl
theorem lawS : KeyLaw Try.prog 9 := WideMaps.string_law undStr
theorem str_key (s : ByteArray) (h : s.size ≤ 9223372036854775807) : ∃ l, keyOf Try.prog 9 (.string s) = some l := by
  refine ⟨.string s.data.toList, ?_⟩
  unfold keyOf
  rw [undStr]
  unfold mapKey
  rw [undStr]
  exact if_pos h
def KeysOk (es : Array MapEntry) : Prop := ∀ e ∈ es.toList, ∃ n : ByteArray, n.size ≤ 9223372036854775807 ∧ e.key = .string n
theorem KeysOk.keys {es : Array MapEntry} (h : KeysOk es) : ∀ e ∈ es.toList, ∃ l, keyOf Try.prog 9 e.key = some l := fun e he => by
  obtain ⟨n, h1, h2⟩ := h e he
  rw [h2]
  exact str_key n h1
theorem idx_of {l : List MapEntry} (hp : l.Pairwise (fun x y => x.key ≠ y.key)) {i j : Nat} {x y : MapEntry} (hi : l[i]? = some x) (hj : l[j]? = some y) (h : x.key = y.key) : i = j := by
  obtain ⟨a1, a2⟩ := List.getElem?_eq_some_iff.1 hi
  obtain ⟨b1, b2⟩ := List.getElem?_eq_some_iff.1 hj
  rw [List.pairwise_iff_getElem] at hp
  by_cases c : i < j
  · exact absurd (by rw [a2, b2, h]) (hp i j a1 b1 c)
  · by_cases c2 : j < i
    · exact absurd (by rw [a2, b2, h]) (hp j i b1 a1 c2)
    · omega
theorem run_lookup_hit {w : World} {b : Nat} {es : Array MapEntry} {clock : Nat} (hb : w.heap[b]? = some (.map es clock)) (hk : KeysOk es) (n : ByteArray) (hn : n.size ≤ 9223372036854775807) (j : Nat) (e0 : MapEntry) (hj : es.toList[j]? = some e0) (he : e0.key = .string n) (hp : es.toList.Pairwise (fun x y => x.key ≠ y.key)) (ok : Bool) :
    (Instr.lookup 62 (.map (some b)) (.string n) ok).run Try.prog w = .ok (if ok then .tuple #[e0.val, .bool true] else e0.val) w := by
  obtain ⟨kl, hkey⟩ := str_key n hn
  rcases lawS.find w hkey es.toList hk.keys with ⟨h1, h2⟩ | ⟨i, e1, h1, h2, h3⟩
  · exact absurd he (h2 e0 (List.mem_of_getElem? hj))
  · obtain rfl := idx_of hp h2 hj (h3.trans he.symm)
    obtain rfl : e1 = e0 := Option.some.inj (h2.symm.trans hj)
    simp [Instr.lookup, run_underlying undM, MapKept.run_getObj_map hb, lawS.check w _ hkey, h1, Result.andThen]
theorem zeroP (w : World) : (zeroValue 84).run Try.prog w = .ok (.pointer none) w := by kernel_rfl
theorem run_lookup_miss {w : World} {b : Nat} {es : Array MapEntry} {clock : Nat} (hb : w.heap[b]? = some (.map es clock)) (hk : KeysOk es) (n : ByteArray) (hn : n.size ≤ 9223372036854775807) (hm : ∀ e ∈ es.toList, e.key ≠ .string n) (ok : Bool) :
    (Instr.lookup 62 (.map (some b)) (.string n) ok).run Try.prog w = .ok (if ok then .tuple #[.pointer none, .bool false] else .pointer none) w := by
  obtain ⟨kl, hkey⟩ := str_key n hn
  rcases lawS.find w hkey es.toList hk.keys with ⟨h1, h2⟩ | ⟨i, e1, h1, h2, h3⟩
  · simp [Instr.lookup, run_underlying undM, MapKept.run_getObj_map hb, lawS.check w _ hkey, h1, zeroP, Result.andThen]
  · exact absurd h3 (hm e1 (List.mem_of_getElem? h2))
theorem run_update_new {w : World} {b : Nat} {es : Array MapEntry} {clock : Nat} (hb : w.heap[b]? = some (.map es clock)) (hk : KeysOk es) (n : ByteArray) (hn : n.size ≤ 9223372036854775807) (hm : ∀ e ∈ es.toList, e.key ≠ .string n) (val : Value) :
    (Instr.mapUpdate 62 (.map (some b)) (.string n) val).run Try.prog w = .ok () (setBlock w b (.map (es.push ⟨.string n, val, clock⟩) (clock + 1))) := by
  obtain ⟨kl, hkey⟩ := str_key n hn
  rcases lawS.find w hkey es.toList hk.keys with ⟨h1, h2⟩ | ⟨i, e1, h1, h2, h3⟩
  · simp [Instr.mapUpdate, run_underlying undM, MapKept.run_getObj_map hb, lawS.check w _ hkey, h1, MapKept.run_setObj_map _ hb, Result.andThen, setBlock]
  · exact absurd h3 (hm e1 (List.mem_of_getElem? h2))
theorem run_delete_hit {w : World} {b : Nat} {es : Array MapEntry} {clock : Nat} (hb : w.heap[b]? = some (.map es clock)) (hk : KeysOk es) (n : ByteArray) (hn : n.size ≤ 9223372036854775807) (j : Nat) (e0 : MapEntry) (hj : es.toList[j]? = some e0) (he : e0.key = .string n) (hp : es.toList.Pairwise (fun x y => x.key ≠ y.key)) (ty : TypeId) :
    (Builtin.delete_ #[62, 9] ty #[.map (some b), .string n]).run Try.prog w = .ok (.tuple #[]) (setBlock w b (.map (es.eraseIdxIfInBounds j) clock)) := by
  obtain ⟨kl, hkey⟩ := str_key n hn
  rcases lawS.find w hkey es.toList hk.keys with ⟨h1, h2⟩ | ⟨i, e1, h1, h2, h3⟩
  · exact absurd he (h2 e0 (List.mem_of_getElem? hj))
  · obtain rfl := idx_of hp h2 hj (h3.trans he.symm)
    simp [Builtin.delete_, run_underlying undM, MapKept.run_getObj_map hb, lawS.check w _ hkey, h1, MapKept.run_setObj_map _ hb, Result.andThen, setBlock]
end Go.Proofs.Ytoleencecfjcjaa.At

/- Rect; Get where there is nothing. -/
set_option linter.unusedVariables false
set_option linter.unusedSimpArgs false
namespace Go.Proofs.Ytoleencecfjcjaa.At
open Go.RowKit Go.Proofs.YtoleencecfjcjaaW.PrintWords Go.Proofs.YtoleencecfjcjaaW.PrintLast Go.Proofs.Ytoleencecfjcjaa.Rng
set_option maxRecDepth 100000 in
set_option maxHeartbeats 4000000 in
theorem Rect_miss (n : ByteArray) (g : Nat) (w : World) (m : Value) {c0 c1 c2 c3 c5 : Value} (hg : w.heap[g]? = some (.cells #[c0, c1, c2, c3, m, c5] 64 (0, 0)))
    (hl : ∀ W, Below w.heap.size w W → (Instr.lookup 62 m (.string n) false).run Try.prog W = .ok (.pointer none) W) :
    Calls Try.prog 16 #[.pointer (some ⟨g, 0, none⟩), .string n] w fun e w' => e = .returned (.tuple #[.agg #[.int .i64 0, .int .i64 0, .int .i64 0, .int .i64 0], .bool false]) ∧ Below w.heap.size w w' := by
  have hq := hl _ (below_alloc (Below.refl _ w) (.cells #[.int .i64 0, .int .i64 0, .int .i64 0, .int .i64 0] 43))
  have g4 := ckA (blk_alloc hg (.cells #[.int .i64 0, .int .i64 0, .int .i64 0, .int .i64 0] 43)) 4 _ rfl
  clear hl hg
  go_enter Try.func16, Try.ntmps16
  go_wp2
  refine bodyPost_ret (results_ct rfl _ _ w.heap.size 43 _ (0, 0) _ rfl (blk_new w _) Try.underlying43 rfl (inf4 rfl)) rfl ⟨rfl, below_alloc (Below.refl _ _) _⟩
set_option maxRecDepth 100000 in
set_option maxHeartbeats 4000000 in
theorem Rect_hit (n : ByteArray) (g ge : Nat) (w : World) (m : Value) {c0 c1 c2 c3 c5 x0 x1 x6 : Value} {rx ry rw rh : Int} (hg : w.heap[g]? = some (.cells #[c0, c1, c2, c3, m, c5] 64 (0, 0)))
    (he : w.heap[ge]? = some (.cells #[x0, x1, .int .i64 rx, .int .i64 ry, .int .i64 rw, .int .i64 rh, x6] 94 (0, 0)))
    (hl : ∀ W, Below w.heap.size w W → (Instr.lookup 62 m (.string n) false).run Try.prog W = .ok (.pointer (some ⟨ge, 0, none⟩)) W) :
    Calls Try.prog 16 #[.pointer (some ⟨g, 0, none⟩), .string n] w fun e w' => e = .returned (.tuple #[.agg #[.int .i64 rx, .int .i64 ry, .int .i64 rw, .int .i64 rh], .bool true]) ∧ Below w.heap.size w w' := by
  have hq := hl _ (below_alloc (Below.refl _ w) (.cells #[.int .i64 0, .int .i64 0, .int .i64 0, .int .i64 0] 43))
  have g4 := ckA (blk_alloc hg (.cells #[.int .i64 0, .int .i64 0, .int .i64 0, .int .i64 0] 43)) 4 _ rfl
  have e2 := ckA (blk_alloc he (.cells #[.int .i64 0, .int .i64 0, .int .i64 0, .int .i64 0] 43)) 2 _ rfl
  have e3 := ckA (blk_alloc he (.cells #[.int .i64 0, .int .i64 0, .int .i64 0, .int .i64 0] 43)) 3 _ rfl
  have e4 := ckA (blk_alloc he (.cells #[.int .i64 0, .int .i64 0, .int .i64 0, .int .i64 0] 43)) 4 _ rfl
  have e5 := ckA (blk_alloc he (.cells #[.int .i64 0, .int .i64 0, .int .i64 0, .int .i64 0] 43)) 5 _ rfl
  clear hl hg he
  go_enter Try.func16, Try.ntmps16
  go_wp2
  refine bodyPost_ret (results_ct rfl _ _ w.heap.size 43 _ (0, 0) _ rfl (blk_new w _) Try.underlying43 rfl (inf4 rfl)) rfl ⟨rfl, below_alloc (Below.refl _ _) _⟩
set_option maxRecDepth 100000 in
set_option maxHeartbeats 4000000 in
theorem Get_miss (n : ByteArray) (g : Nat) (w : World) (m : Value) {c0 c1 c2 c3 c5 : Value} (hg : w.heap[g]? = some (.cells #[c0, c1, c2, c3, m, c5] 64 (0, 0)))
    (hl : ∀ W, Below w.heap.size w W → (Instr.lookup 62 m (.string n) false).run Try.prog W = .ok (.pointer none) W) :
    Calls Try.prog 13 #[.pointer (some ⟨g, 0, none⟩), .string n] w fun e w' => e = .returned (.tuple #[.agg #[.int .i64 0, .int .i64 0, .int .i64 0, .int .i64 0, .slice none 0 0], .bool false]) ∧ Below w.heap.size w w' := by
  have hq := hl _ (below_alloc (Below.refl _ w) (.cells #[.int .i64 0, .int .i64 0, .int .i64 0, .int .i64 0, .slice none 0 0] 38))
  have g4 := ckA (blk_alloc hg (.cells #[.int .i64 0, .int .i64 0, .int .i64 0, .int .i64 0, .slice none 0 0] 38)) 4 _ rfl
  clear hl hg
  go_enter Try.func13, Try.ntmps13
  go_wp2
  refine bodyPost_ret (results_ct rfl _ _ w.heap.size 38 _ (0, 0) _ rfl (blk_new w _) Try.underlying38 rfl (inf5 rfl)) rfl ⟨rfl, below_alloc (Below.refl _ _) _⟩
end Go.Proofs.Ytoleencecfjcjaa.At

/- Get of an entry. -/
set_option linter.unusedVariables false
set_option linter.unusedSimpArgs false
namespace Go.Proofs.Ytoleencecfjcjaa.At
open Go.RowKit Go.Proofs.YtoleencecfjcjaaW.PrintWords Go.Proofs.YtoleencecfjcjaaW.PrintLast Go.Proofs.Ytoleencecfjcjaa.Rng
set_option maxRecDepth 100000 in
set_option maxHeartbeats 4000000 in
theorem Get_hit (nm : ByteArray) {w : World} {g ge gp b n W cap X Y CW CH : Nat} {Q : List Nat} {px : Nat → Nat → Bool} {c0 c1 c3 : Value} {bl bt us : Int} (rs : List Int) (o : Obj) (hW : W ≤ 128) (hC : CW ≤ 64) (hQ : Q.length ≤ 128) (h1 : X + CW ≤ W) (h2 : Y + CH ≤ Q.length) (h3 : CH = 0 ∨ 0 < CW) (hn : n ≤ 1000000) (hne : ge ≠ g)
    (hg : w.heap[g]? = some (.cells #[c0, c1, .slice (some ⟨gp, 0, none⟩) Q.length cap, c3, .map (some b), .int .i64 (n : Int)] 64 (0, 0)))
    (he : w.heap[ge]? = some (.cells #[.int .i64 bl, .int .i64 bt, .int .i64 (X : Int), .int .i64 (Y : Int), .int .i64 (CW : Int), .int .i64 (CH : Int), .int .i64 us] 94 (0, 0)))
    (ho : Outer gp W Q w) (hr : Rows Q W px w) (hgp : gp < w.heap.size) (hgg : gp ≠ g ∧ gp ≠ ge) (hqg : ∀ p ∈ Q, p ≠ g ∧ p ≠ ge) (hb : w.heap[b]? = some o) (hbg : b ≠ g ∧ b ≠ ge) (hrl : rs.length = CH) (hrs : ∀ k r, rs[k]? = some r → r = (bitsOf (fun i => px (Y + k) (X + i)) CW : Int))
    (hl : ∀ V : World, V.heap[b]? = some o → (Instr.lookup 62 (.map (some b)) (.string nm) false).run Try.prog V = .ok (.pointer (some ⟨ge, 0, none⟩)) V) :
    Calls Try.prog 13 #[.pointer (some ⟨g, 0, none⟩), .string nm] w fun e w' => (∃ v, e = .returned (.tuple #[.agg #[.int .i64 bl, .int .i64 bt, .int .i64 (CW : Int), .int .i64 (CH : Int), v], .bool true]) ∧ Kd.R (Kd.int .u64) 92 w' w.heap.size (fun _ => True) v rs) ∧
      w'.heap[g]? = some (.cells #[c0, c1, .slice (some ⟨gp, 0, none⟩) Q.length cap, c3, .map (some b), .int .i64 ((n + 1 : Nat) : Int)] 64 (0, 0)) ∧
      w'.heap[ge]? = some (.cells #[.int .i64 bl, .int .i64 bt, .int .i64 (X : Int), .int .i64 (Y : Int), .int .i64 (CW : Int), .int .i64 (CH : Int), .int .i64 ((n + 1 : Nat) : Int)] 94 (0, 0)) ∧ Step (fun k => k = g ∨ k = ge) w w' := by
  have hglt := lt_of_blk hg
  have helt := lt_of_blk he
  have hblt := lt_of_blk hb
  have hQlt : ∀ p, p ∈ Q → p < w.heap.size := fun p hp => by
    obtain ⟨k, hk⟩ := List.getElem?_of_mem hp
    exact lt_of_blk (hr k p hk)
  have HQL := Lib.hid hQlt
  clear hQlt
  have hb0 := blk_alloc hb (.cells #[.int .i64 0, .int .i64 0, .int .i64 0, .int .i64 0, .slice none 0 0] 38)
  have hg0 := blk_alloc hg (.cells #[.int .i64 0, .int .i64 0, .int .i64 0, .int .i64 0, .slice none 0 0] 38)
  have he0 := blk_alloc he (.cells #[.int .i64 0, .int .i64 0, .int .i64 0, .int .i64 0, .slice none 0 0] 38)
  have hq := hl _ hb0
  have g4 := ckA hg0 4 _ rfl
  have HB0 := Lib.hid hb0
  have HG0 := Lib.hid hg0
  have HE0 := Lib.hid he0
  have HLL := Lib.hid hl
  clear hb0 hg0 he0 hl hg he hb
  go_enter Try.func13, Try.ntmps13
  go_wp2_with (first
    | (go_at_call 32; with_reducible refine (use_c hn hne HG0.out HE0.out).mono ?_; rintro e w1 ⟨rfl, hg1, he1, hs1⟩; have HG1 := Lib.hid hg1; have HE1 := Lib.hid he1; have HS1 := Lib.hid hs1
       have hz := hs1.same (blk_new w (.cells #[.int .i64 0, .int .i64 0, .int .i64 0, .int .i64 0, .slice none 0 0] 38)) (fun e => by rcases e with e | e <;> omega)
       have HZ := Lib.hid hz
       have hb1 := hs1.same HB0.out (fun e => by rcases e with e | e <;> omega)
       have hq1 := HLL.out w1 hb1
       have g41 := ckA hg1 4 _ rfl
       clear hg1 he1 hs1 hz hb1)
    | (go_at_call 33
       have hs1 := HS1.out
       have hsw : Step (fun k => k = g ∨ k = ge) w _ := (Step.of_below (below_alloc (Below.refl _ w) (.cells #[.int .i64 0, .int .i64 0, .int .i64 0, .int .i64 0, .slice none 0 0] 38)) _).trans hs1 (fun k e => .inl e)
       have ho1 : Outer gp W Q _ := fun k p hp => (cell_eq (p := ⟨gp, k, none⟩) (hsw.1.2 gp hgp (fun e => by rcases e with e | e <;> omega))).trans (ho k p hp)
       have hr1 : Rows Q W px _ := hr.same (fun p hp => hsw.1.2 p (HQL.out p hp) (fun e => by have := hqg p hp; rcases e with e | e <;> omega))
       refine (bitmap_c rs hW hC hQ h1 h2 h3 HG1.out HE1.out ho1 (Nat.lt_of_lt_of_le hgp hsw.size) hr1 hrl hrs).mono ?_
       rintro e w2 ⟨⟨v, rfl, hR⟩, hB2⟩
       obtain ⟨nv, Av, cv, rfl⟩ := Ru_slice hR
       have hz := blk_below HZ.out hB2
       have z0 := ckA hz 0 _ rfl
       have z1 := ckA hz 1 _ rfl
       have z2 := ckA hz 2 _ rfl
       have z3 := ckA hz 3 _ rfl
       have z4 := ckA hz 4 _ rfl
       have f0 := free_of_one hz 0
       have f1 := free_of_one hz 1
       have f2 := free_of_one hz 2
       have f3 := free_of_one hz 3
       have f4 := free_of_one hz 4
       have HZ2 := Lib.hid hz
       have HR := Lib.hid hR
       have HB2 := Lib.hid hB2
       have HSW := Lib.hid hsw
       clear hs1 hsw ho1 hr1 hR hz hB2))
  have hset := fun V : World => step_set5 V w.heap.size (.int .i64 bl) (.int .i64 bt) (.int .i64 (CW : Int)) (.int .i64 (CH : Int)) (.slice Av nv cv)
  have hsz := HS1.out.size
  have hsz' : w.heap.size + 1 ≤ _ := Nat.le_trans (by simp) hsz
  refine bodyPost_ret (results_ct rfl _ _ w.heap.size 38 _ (0, 0) _ rfl (cell_set5 HZ2.out) Try.underlying38 rfl (inf5 rfl)) rfl ⟨⟨_, rfl, ?_⟩, ?_, ?_, ?_⟩
  · refine Kd.R_lower (Ru_move HR.out (fun k hk => ?_)) (Nat.le_of_lt hsz')
    have hk2 := Ru_lt HR.out hk
    exact (hset _).1.2 k hk2.2 (fun e => by omega)
  · exact (hset _).same (blk_below HG1.out HB2.out) (fun e => by omega)
  · exact (hset _).same (blk_below HE1.out HB2.out) (fun e => by omega)
  · exact (HSW.out.trans (Step.of_below HB2.out (fun k => k = g ∨ k = ge)) (fun k e => .inl e)).trans (hset _) (fun k e => .inr (by omega))
end Go.Proofs.Ytoleencecfjcjaa.At

/- New with sizes that are none. -/
set_option linter.unusedVariables false
set_option linter.unusedSimpArgs false
namespace Go.Proofs.Ytoleencecfjcjaa.At
open Go.RowKit Go.Proofs.YtoleencecfjcjaaW.PrintWords Go.Proofs.YtoleencecfjcjaaW.PrintLast Go.Proofs.Ytoleencecfjcjaa.Rng
set_option maxRecDepth 100000 in
set_option maxHeartbeats 4000000 in
theorem New_bad (a b : Int) (w : World) (h : a < 1 ∨ 128 < a ∨ b < 1 ∨ 128 < b) : Calls Try.prog 10 #[.int .i64 a, .int .i64 b] w fun e w' => e = .returned (.pointer none) ∧ w' = w := by
  go_enter Try.func10, Try.ntmps10
  by_cases h1 : a < 1
  · have t1 : decide (a < 1) = true := decide_eq_true h1
    clear h h1
    go_wp2
    go_ret
    exact ⟨rfl, rfl⟩
  · have t1 : decide (a < 1) = false := decide_eq_false h1
    by_cases h2 : 128 < a
    · have t2 : decide (128 < a) = true := decide_eq_true h2
      clear h h1 h2
      go_wp2
      go_ret
      exact ⟨rfl, rfl⟩
    · have t2 : decide (128 < a) = false := decide_eq_false h2
      by_cases h3 : b < 1
      · have t3 : decide (b < 1) = true := decide_eq_true h3
        clear h h1 h2 h3
        go_wp2
        go_ret
        exact ⟨rfl, rfl⟩
      · have t3 : decide (b < 1) = false := decide_eq_false h3
        have t4 : decide (128 < b) = true := decide_eq_true (by omega)
        clear h h1 h2 h3
        go_wp2
        go_ret
        exact ⟨rfl, rfl⟩
end Go.Proofs.Ytoleencecfjcjaa.At

/- Bits and rows, plain. -/
set_option linter.unusedVariables false
namespace Go.Proofs.Ytoleencecfjcjaa.At
theorem bitsOf_testBit (r : Nat) : ∀ n, bitsOf (fun i => r.testBit i) n = r % 2 ^ n
  | 0 => by simp [bitsOf, Nat.mod_one]
  | n + 1 => by
    rw [bitsOf, bitsOf_testBit r n, Nat.pow_succ, Nat.mod_mul, Nat.testBit_eq_decide_div_mod_eq]
    by_cases h : r / 2 ^ n % 2 = 1
    · rw [h, if_pos (by simp), Nat.mul_one]
    · rw [show r / 2 ^ n % 2 = 0 by omega, if_neg (by simp)]
      rfl
theorem bitsOf_congr {f g : Nat → Bool} : ∀ {n : Nat}, (∀ i, i < n → f i = g i) → bitsOf f n = bitsOf g n
  | 0, _ => rfl
  | n + 1, h => by
    rw [bitsOf, bitsOf, bitsOf_congr (fun i hi => h i (by omega)), h n (by omega)]
/-- The pixels of a row say the row. -/
theorem bits_row {f : Nat → Bool} {r n : Nat} (hr : r < 2 ^ n) (h : ∀ i, i < n → f i = r.testBit i) : bitsOf f n = r := by
  rw [bitsOf_congr h, bitsOf_testBit, Nat.mod_eq_of_lt hr]
end Go.Proofs.Ytoleencecfjcjaa.At

/- What an atlas is in the heap. -/
set_option linter.unusedVariables false
namespace Go.Proofs.Ytoleencecfjcjaa.At
open Go.RowKit Go.Proofs.YtoleencecfjcjaaW.PrintWords Go.Proofs.YtoleencecfjcjaaW.PrintLast Go.Proofs.Ytoleencecfjcjaa.Rng
/-- An entry with its block and when it was used. -/
structure Ex where
  p : Nat
  e : En
  us : Nat
def Ex.cells (x : Ex) : Array Value := #[.int .i64 x.e.b.l, .int .i64 x.e.b.t, .int .i64 x.e.r.x, .int .i64 x.e.r.y, .int .i64 x.e.r.w, .int .i64 x.e.r.h, .int .i64 (x.us : Int)]
def Ex.kv (x : Ex) : Value × Value := (.string x.e.nm, .pointer (some ⟨x.p, 0, none⟩))
/-- The map's entries are these. -/
def EntsOf (es : Array MapEntry) (l : List Ex) : Prop := (es.toList.map (fun m => (m.key, m.val))).Perm (l.map Ex.kv)
/-- A pixel lies in a rectangle. -/
def inR (r : Rc) (x y : Nat) : Bool := decide (r.x ≤ (x : Int) ∧ (x : Int) < r.x + r.w ∧ r.y ≤ (y : Int) ∧ (y : Int) < r.y + r.h)
structure AtI (w : World) (g W H N : Nat) (l : List Ex) (gp gt b cp ct clk : Nat) (PX TK : List Nat) (px tk : Nat → Nat → Bool) (es : Array MapEntry) (mc : Nat) : Prop where
  hW : 1 ≤ W ∧ W ≤ 128
  hH : 1 ≤ H ∧ H ≤ 128
  blk : w.heap[g]? = some (.cells #[.int .i64 (W : Int), .int .i64 (H : Int), .slice (some ⟨gp, 0, none⟩) H cp, .slice (some ⟨gt, 0, none⟩) H ct, .map (some b), .int .i64 (clk : Int)] 64 (0, 0))
  lp : PX.length = H
  lt : TK.length = H
  bp : gp < w.heap.size
  bt : gt < w.heap.size
  op : Outer gp W PX w
  ot : Outer gt W TK w
  rp : Rows PX W px w
  rt : Rows TK W tk w
  map : w.heap[b]? = some (.map es mc)
  ents : EntsOf es l
  born : ∀ e ∈ es.toList, e.born < mc
  bnd : (es.toList.map (·.born)).Nodup
  ent : ∀ x ∈ l, w.heap[x.p]? = some (.cells x.cells 94 (0, 0))
  nd : (g :: gp :: gt :: b :: (PX ++ TK ++ l.map Ex.p)).Nodup
  used : l.Pairwise (fun x y => x.us < y.us)
  le : ∀ x ∈ l, x.us ≤ clk
  inv : Inv W H (l.map Ex.e)
  taken : ∀ x y, x < W → y < H → (tk y x = l.any (fun e => inR e.e.r x y))
  pix : ∀ x ∈ l, ∀ k q, x.e.b.rows[k]? = some q → ∀ i : Nat, (i : Int) < x.e.r.w → px (x.e.r.y.toNat + k) (x.e.r.x.toNat + i) = q.toNat.testBit i
  len : ∀ x ∈ l, x.e.nm.size ≤ 9223372036854775807
  clk : clk ≤ N
/-- The atlas's own blocks. -/
def blksOf (g gp gt b : Nat) (PX TK : List Nat) (l : List Ex) : List Nat := g :: gp :: gt :: b :: (PX ++ TK ++ l.map Ex.p)
/-- An atlas of these entries, in the order of use; its blocks are those of Q. -/
def AtIs (w : World) (g W H N : Nat) (L : List En) (Q : Nat → Prop) : Prop := ∃ l gp gt b cp ct clk PX TK px tk es mc, AtI w g W H N l gp gt b cp ct clk PX TK px tk es mc ∧ l.map Ex.e = L ∧ ∀ k, Q k ↔ k ∈ blksOf g gp gt b PX TK l
end Go.Proofs.Ytoleencecfjcjaa.At

/- A place is free if none of its pixels is taken. -/
set_option linter.unusedVariables false
namespace Go.Proofs.Ytoleencecfjcjaa.At
theorem anyB_false {f : Nat → Bool} {X n : Nat} : anyB f X n = false ↔ ∀ j, j < n → f (X + j) = false := by
  unfold anyB
  rw [List.any_eq_false]
  constructor
  · intro h j hj
    simpa using h j (List.mem_range.2 hj)
  · intro h j hj
    simpa using h j (List.mem_range.1 hj)
theorem fits_iff {W H CW CH x y : Nat} {L : List En} {tk : Nat → Nat → Bool} (htk : ∀ x y, x < W → y < H → tk y x = L.any (fun e => inR e.r x y)) (hL : ∀ e ∈ L, e.r = r0 ∨ 1 ≤ e.r.w ∧ 1 ≤ e.r.h) (hw : 1 ≤ CW) (hh : 1 ≤ CH) (h1 : x + CW ≤ W) (h2 : y + CH ≤ H) :
    free L ⟨(x : Int), (y : Int), (CW : Int), (CH : Int)⟩ = true ↔ ∀ i, i < CH → anyB (tk (y + i)) x CW = false := by
  unfold free
  rw [List.all_eq_true]
  constructor
  · intro h i hi
    rw [anyB_false]
    intro j hj
    rw [htk _ _ (by omega) (by omega), List.any_eq_false]
    intro e he
    have ho := h e he
    simp only [over, inR, Bool.not_eq_true', decide_eq_false_iff_not, decide_eq_true_eq] at ho ⊢
    intro hc
    apply ho
    omega
  · intro h e he
    simp only [over, Bool.not_eq_true', decide_eq_false_iff_not]
    intro hc
    have hp : 1 ≤ e.r.w ∧ 1 ≤ e.r.h := by
      rcases hL e he with h0 | h0
      · rw [h0] at hc
        simp only [r0] at hc
        omega
      · exact h0
    obtain ⟨X, hX⟩ : ∃ X : Nat, (X : Int) = max (x : Int) e.r.x := ⟨(max (x : Int) e.r.x).toNat, by omega⟩
    obtain ⟨Y, hY⟩ : ∃ Y : Nat, (Y : Int) = max (y : Int) e.r.y := ⟨(max (y : Int) e.r.y).toNat, by omega⟩
    have hi : Y - y < CH := by omega
    have hj : X - x < CW := by omega
    have h3 := anyB_false.1 (h (Y - y) hi) (X - x) hj
    rw [show y + (Y - y) = Y by omega, show x + (X - x) = X by omega, htk _ _ (by omega) (by omega), List.any_eq_false] at h3
    have h4 := h3 e he
    simp only [inR, decide_eq_true_eq] at h4
    apply h4
    omega
end Go.Proofs.Ytoleencecfjcjaa.At

/- Pixels taken, when an entry comes or goes. -/
set_option linter.unusedVariables false
namespace Go.Proofs.Ytoleencecfjcjaa.At
def Taken (W H : Nat) (tk : Nat → Nat → Bool) (L : List En) : Prop := ∀ x y, x < W → y < H → tk y x = L.any (fun e => inR e.r x y)
theorem inR_nat (X Y CW CH x y : Nat) : inR ⟨(X : Int), (Y : Int), (CW : Int), (CH : Int)⟩ x y = decide (Y ≤ y ∧ y < Y + CH ∧ X ≤ x ∧ x < X + CW) := by
  unfold inR
  refine decide_eq_decide.2 ⟨fun h => ?_, fun h => ?_⟩ <;> simp only at h ⊢ <;> omega
theorem Taken.add {W H X Y CW CH : Nat} {tk : Nat → Nat → Bool} {L : List En} {e : En} (h : Taken W H tk L) (he : e.r = ⟨(X : Int), (Y : Int), (CW : Int), (CH : Int)⟩) : Taken W H (setR tk X Y CW CH (fun _ _ => true)) (L ++ [e]) := by
  intro x y hx hy
  rw [List.any_append, List.any_cons, List.any_nil, Bool.or_false, he, inR_nat, ← h x y hx hy]
  unfold setR
  by_cases c : Y ≤ y ∧ y < Y + CH ∧ X ≤ x ∧ x < X + CW
  · rw [if_pos c, decide_eq_true c, Bool.or_true]
  · rw [if_neg c, decide_eq_false c, Bool.or_false]
theorem Taken.del {W H X Y CW CH : Nat} {tk : Nat → Nat → Bool} {L : List En} {e : En} (h : Taken W H tk (e :: L)) (he : e.r = ⟨(X : Int), (Y : Int), (CW : Int), (CH : Int)⟩) (ha : ∀ e' ∈ L, over e.r e'.r = false) : Taken W H (setR tk X Y CW CH (fun _ _ => false)) L := by
  intro x y hx hy
  have h1 := h x y hx hy
  rw [List.any_cons, he, inR_nat] at h1
  unfold setR
  by_cases c : Y ≤ y ∧ y < Y + CH ∧ X ≤ x ∧ x < X + CW
  · rw [if_pos c]
    refine Eq.symm (List.any_eq_false.2 (fun e' he' hin => ?_))
    have h2 := ha e' he'
    rw [he] at h2
    simp only [over, inR, decide_eq_false_iff_not, decide_eq_true_eq] at h2 hin
    apply h2
    omega
  · rw [if_neg c, h1, decide_eq_false c, Bool.false_or]
theorem pix_new (px : Nat → Nat → Bool) (X Y CW CH : Nat) (b : Nat → Nat → Bool) {k i : Nat} (hk : k < CH) (hi : i < CW) : setR px X Y CW CH b (Y + k) (X + i) = b k i := by
  unfold setR
  rw [if_pos ⟨by omega, by omega, by omega, by omega⟩, show Y + k - Y = k by omega, show X + i - X = i by omega]
/-- What lies elsewhere keeps its pixels. -/
theorem pix_keep (px : Nat → Nat → Bool) (X Y CW CH : Nat) (b : Nat → Nat → Bool) {r : Rc} {k i : Nat} (hx : 0 ≤ r.x) (hy : 0 ≤ r.y) (ho : over ⟨(X : Int), (Y : Int), (CW : Int), (CH : Int)⟩ r = false) (hk : (k : Int) < r.h) (hi : (i : Int) < r.w) :
    setR px X Y CW CH b (r.y.toNat + k) (r.x.toNat + i) = px (r.y.toNat + k) (r.x.toNat + i) := by
  unfold setR
  rw [if_neg]
  intro c
  simp only [over, decide_eq_false_iff_not] at ho
  apply ho
  omega
end Go.Proofs.Ytoleencecfjcjaa.At

/- The map's entries and the atlas's: lookups. -/
set_option linter.unusedVariables false
namespace Go.Proofs.Ytoleencecfjcjaa.At
open Go.RowKit Go.Proofs.YtoleencecfjcjaaW.PrintWords Go.Proofs.YtoleencecfjcjaaW.PrintLast Go.Proofs.Ytoleencecfjcjaa.Rng
theorem EntsOf.mem {es : Array MapEntry} {l : List Ex} (h : EntsOf es l) {m : MapEntry} (hm : m ∈ es.toList) : ∃ x ∈ l, m.key = .string x.e.nm ∧ m.val = .pointer (some ⟨x.p, 0, none⟩) := by
  have h1 : (m.key, m.val) ∈ l.map Ex.kv := h.mem_iff.1 (List.mem_map.2 ⟨m, hm, rfl⟩)
  obtain ⟨x, hx, e⟩ := List.mem_map.1 h1
  injection e with e1 e2
  exact ⟨x, hx, e1.symm, e2.symm⟩
theorem EntsOf.hit {es : Array MapEntry} {l : List Ex} (h : EntsOf es l) {x : Ex} (hx : x ∈ l) : ∃ (j : Nat) (m : MapEntry), es.toList[j]? = some m ∧ m.key = .string x.e.nm ∧ m.val = .pointer (some ⟨x.p, 0, none⟩) := by
  have h1 : x.kv ∈ es.toList.map (fun m => (m.key, m.val)) := h.mem_iff.2 (List.mem_map.2 ⟨x, hx, rfl⟩)
  obtain ⟨m, hm, e⟩ := List.mem_map.1 h1
  obtain ⟨j, hj⟩ := List.getElem?_of_mem hm
  injection e with e1 e2
  exact ⟨j, m, hj, e1, e2⟩
theorem EntsOf.keysOk {es : Array MapEntry} {l : List Ex} (h : EntsOf es l) (hl : ∀ x ∈ l, x.e.nm.size ≤ 9223372036854775807) : KeysOk es := fun m hm => by
  obtain ⟨x, hx, e, _⟩ := h.mem hm
  exact ⟨x.e.nm, hl x hx, e⟩
theorem EntsOf.pair {es : Array MapEntry} {l : List Ex} (h : EntsOf es l) (hn : (l.map Ex.e).Pairwise (fun a b => nmEq a.nm b.nm = false)) : es.toList.Pairwise (fun x y => x.key ≠ y.key) := by
  have h1 : (l.map Ex.kv).Pairwise (fun a b => a.1 ≠ b.1) := by
    rw [List.pairwise_map] at hn ⊢
    refine hn.imp (fun {a b} hab e => ?_)
    injection e with e
    rw [e, nmEq_self] at hab
    cases hab
  have h2 : (es.toList.map (fun m => (m.key, m.val))).Pairwise (fun a b => a.1 ≠ b.1) := (h.pairwise_iff (fun {a b} hab => fun e => hab e.symm)).2 h1
  rw [List.pairwise_map] at h2
  exact h2
/-- What is looked up. -/
theorem EntsOf.look {w : World} {b : Nat} {es : Array MapEntry} {mc : Nat} {l : List Ex} (h : EntsOf es l) (hb : w.heap[b]? = some (.map es mc)) (hl : ∀ x ∈ l, x.e.nm.size ≤ 9223372036854775807) (hn : (l.map Ex.e).Pairwise (fun a b => nmEq a.nm b.nm = false)) {x : Ex} (hx : x ∈ l) (ok : Bool) :
    (Instr.lookup 62 (.map (some b)) (.string x.e.nm) ok).run Try.prog w = .ok (if ok then .tuple #[.pointer (some ⟨x.p, 0, none⟩), .bool true] else .pointer (some ⟨x.p, 0, none⟩)) w := by
  obtain ⟨j, m, hj, hk, hv⟩ := h.hit hx
  rw [run_lookup_hit hb (h.keysOk hl) x.e.nm (hl x hx) j m hj hk (h.pair hn) ok, hv]
theorem EntsOf.look_none {w : World} {b : Nat} {es : Array MapEntry} {mc : Nat} {l : List Ex} (h : EntsOf es l) (hb : w.heap[b]? = some (.map es mc)) (hl : ∀ x ∈ l, x.e.nm.size ≤ 9223372036854775807) {nm : ByteArray} (hnm : nm.size ≤ 9223372036854775807) (hx : ∀ x ∈ l, nmEq x.e.nm nm = false) (ok : Bool) :
    (Instr.lookup 62 (.map (some b)) (.string nm) ok).run Try.prog w = .ok (if ok then .tuple #[.pointer none, .bool false] else .pointer none) w :=
  run_lookup_miss hb (h.keysOk hl) nm hnm (fun m hm e => by
    obtain ⟨x, hxl, e1, _⟩ := h.mem hm
    rw [e1] at e
    injection e with e
    have := hx x hxl
    rw [e, nmEq_self] at this
    cases this) ok
end Go.Proofs.Ytoleencecfjcjaa.At

/- The map's entries, when one comes or goes. -/
set_option linter.unusedVariables false
namespace Go.Proofs.Ytoleencecfjcjaa.At
open Go.RowKit Go.Proofs.YtoleencecfjcjaaW.PrintWords Go.Proofs.YtoleencecfjcjaaW.PrintLast Go.Proofs.Ytoleencecfjcjaa.Rng
theorem EntsOf.push {es : Array MapEntry} {l : List Ex} (h : EntsOf es l) (x : Ex) (c : Nat) : EntsOf (es.push ⟨.string x.e.nm, .pointer (some ⟨x.p, 0, none⟩), c⟩) (l ++ [x]) := by
  unfold EntsOf at h ⊢
  rw [Array.toList_push, List.map_append, List.map_append]
  exact h.append (List.Perm.refl _)
theorem perm_eraseIdx {α : Type} : ∀ {l : List α} {j : Nat} {m : α}, l[j]? = some m → l.Perm (m :: l.eraseIdx j)
  | [], _, _, h => by simp at h
  | a :: l, 0, m, h => by
    simp at h
    rw [h]
    simp
  | a :: l, j + 1, m, h => by
    rw [List.getElem?_cons_succ] at h
    rw [List.eraseIdx_cons_succ]
    exact ((perm_eraseIdx h).cons a).trans (List.Perm.swap _ _ _)
theorem EntsOf.del {es : Array MapEntry} {l : List Ex} {x : Ex} (h : EntsOf es (x :: l)) {j : Nat} {m : MapEntry} (hj : es.toList[j]? = some m) (hk : m.key = .string x.e.nm) (hv : m.val = .pointer (some ⟨x.p, 0, none⟩)) : EntsOf (es.eraseIdxIfInBounds j) l := by
  unfold EntsOf at h ⊢
  have hlt : j < es.size := by
    have := (List.getElem?_eq_some_iff.1 hj).1
    simpa using this
  have e : (es.eraseIdxIfInBounds j).toList = es.toList.eraseIdx j := by
    unfold Array.eraseIdxIfInBounds
    rw [dif_pos hlt]
    simp
  rw [e]
  have h1 := ((perm_eraseIdx hj).map (fun m : MapEntry => (m.key, m.val))).symm.trans h
  rw [List.map_cons, List.map_cons, hk, hv] at h1
  exact h1.cons_inv
end Go.Proofs.Ytoleencecfjcjaa.At

/- An atlas stays one under new blocks. -/
set_option linter.unusedVariables false
namespace Go.Proofs.Ytoleencecfjcjaa.At
open Go.RowKit Go.Proofs.YtoleencecfjcjaaW.PrintWords Go.Proofs.YtoleencecfjcjaaW.PrintLast Go.Proofs.Ytoleencecfjcjaa.Rng
theorem Outer.same {gp W : Nat} {P : List Nat} {w w1 : World} (h : Outer gp W P w) (hg : w1.heap[gp]? = w.heap[gp]?) : Outer gp W P w1 := fun k p hp => (cell_eq (p := ⟨gp, k, none⟩) hg).trans (h k p hp)
/-- What leaves the atlas's blocks alone leaves the atlas. -/
theorem AtI.keep {w w1 : World} {g W H N : Nat} {l : List Ex} {gp gt b cp ct clk : Nat} {PX TK : List Nat} {px tk : Nat → Nat → Bool} {es : Array MapEntry} {mc : Nat} (h : AtI w g W H N l gp gt b cp ct clk PX TK px tk es mc) (hk : ∀ k ∈ blksOf g gp gt b PX TK l, w1.heap[k]? = w.heap[k]?) (hs : w.heap.size ≤ w1.heap.size) : AtI w1 g W H N l gp gt b cp ct clk PX TK px tk es mc :=
  { h with
    blk := (hk g (by simp [blksOf])).trans h.blk
    bp := Nat.lt_of_lt_of_le h.bp hs
    bt := Nat.lt_of_lt_of_le h.bt hs
    op := h.op.same (hk gp (by simp [blksOf]))
    ot := h.ot.same (hk gt (by simp [blksOf]))
    rp := h.rp.same (fun p hp => hk p (by simp [blksOf, hp]))
    rt := h.rt.same (fun p hp => hk p (by simp [blksOf, hp]))
    map := (hk b (by simp [blksOf])).trans h.map
    ent := fun x hx => (hk x.p (by simp only [blksOf, List.mem_cons, List.mem_append, List.mem_map]; exact .inr (.inr (.inr (.inr (.inr ⟨x, hx, rfl⟩)))))).trans (h.ent x hx) }
theorem AtI.in_ {w : World} {g W H N : Nat} {l : List Ex} {gp gt b cp ct clk : Nat} {PX TK : List Nat} {px tk : Nat → Nat → Bool} {es : Array MapEntry} {mc : Nat} (h : AtI w g W H N l gp gt b cp ct clk PX TK px tk es mc) {k : Nat} (hk : k ∈ blksOf g gp gt b PX TK l) : k < w.heap.size := by
  simp only [blksOf, List.mem_cons, List.mem_append, List.mem_map] at hk
  rcases hk with rfl | rfl | rfl | rfl | (hk | hk) | ⟨x, hx, rfl⟩
  · exact lt_of_blk h.blk
  · exact h.bp
  · exact h.bt
  · exact lt_of_blk h.map
  · obtain ⟨i, hi⟩ := List.getElem?_of_mem hk
    exact lt_of_blk (h.rp i _ hi)
  · obtain ⟨i, hi⟩ := List.getElem?_of_mem hk
    exact lt_of_blk (h.rt i _ hi)
  · exact lt_of_blk (h.ent x hx)
theorem AtI.below {w w1 : World} {g W H N : Nat} {l : List Ex} {gp gt b cp ct clk : Nat} {PX TK : List Nat} {px tk : Nat → Nat → Bool} {es : Array MapEntry} {mc : Nat} (h : AtI w g W H N l gp gt b cp ct clk PX TK px tk es mc) (hb : Below w.heap.size w w1) : AtI w1 g W H N l gp gt b cp ct clk PX TK px tk es mc :=
  h.keep (fun k hk => hb.block k (h.in_ hk)) hb.size
theorem AtIs.lt {w : World} {g W H N : Nat} {L : List En} {Q : Nat → Prop} (h : AtIs w g W H N L Q) {k : Nat} (hk : Q k) : k < w.heap.size := by
  obtain ⟨l, gp, gt, b, cp, ct, clk, PX, TK, px, tk, es, mc, h, e, hQ⟩ := h
  exact h.in_ ((hQ k).1 hk)
theorem AtIs.keep {w w1 : World} {g W H N : Nat} {L : List En} {Q T : Nat → Prop} (h : AtIs w g W H N L Q) (hs : Step T w w1) (hT : ∀ k, T k → ¬ Q k) : AtIs w1 g W H N L Q := by
  obtain ⟨l, gp, gt, b, cp, ct, clk, PX, TK, px, tk, es, mc, h, e, hQ⟩ := h
  exact ⟨l, gp, gt, b, cp, ct, clk, PX, TK, px, tk, es, mc, h.keep (fun k hk => hs.1.2 k (h.in_ hk) (fun t => hT k t ((hQ k).2 hk))) hs.size, e, hQ⟩
theorem AtIs.below {w w1 : World} {g W H N : Nat} {L : List En} {Q : Nat → Prop} (h : AtIs w g W H N L Q) (hb : Below w.heap.size w w1) : AtIs w1 g W H N L Q := h.keep (Step.of_below hb (fun _ => False)) (fun k e => e.elim)
theorem AtIs.inv {w : World} {g W H N : Nat} {L : List En} {Q : Nat → Prop} (h : AtIs w g W H N L Q) : Inv W H L := by
  obtain ⟨l, gp, gt, b, cp, ct, clk, PX, TK, px, tk, es, mc, h, rfl, hQ⟩ := h
  exact h.inv
end Go.Proofs.Ytoleencecfjcjaa.At

/- Rect over an atlas. -/
set_option linter.unusedVariables false
namespace Go.Proofs.Ytoleencecfjcjaa.At
open Go.RowKit Go.Proofs.YtoleencecfjcjaaW.PrintWords Go.Proofs.YtoleencecfjcjaaW.PrintLast Go.Proofs.Ytoleencecfjcjaa.Rng
def rcV (r : Rc) : Value := .agg #[.int .i64 r.x, .int .i64 r.y, .int .i64 r.w, .int .i64 r.h]
def rectP (L : List En) (nm : ByteArray) : Rc × Bool := match getP L nm with
  | some e => (e.r, true)
  | none => (r0, false)
/-- What is found. -/
theorem get_ex (l : List Ex) (nm : ByteArray) : (∃ x ∈ l, x.e.nm = nm ∧ getP (l.map Ex.e) nm = some x.e) ∨ ((∀ x ∈ l, nmEq x.e.nm nm = false) ∧ getP (l.map Ex.e) nm = none) := by
  unfold getP
  rw [List.find?_map]
  cases h : l.find? ((fun e : En => nmEq e.nm nm) ∘ Ex.e) with
  | some x =>
    have h1 := List.find?_some h
    exact .inl ⟨x, List.mem_of_find?_eq_some h, (nmEq_iff _ _).1 h1, rfl⟩
  | none =>
    refine .inr ⟨fun x hx => ?_, rfl⟩
    have := List.find?_eq_none.1 h x hx
    simpa using this
theorem Rect_at {w : World} {g W H N : Nat} {L : List En} {Q : Nat → Prop} (h : AtIs w g W H N L Q) (nm : ByteArray) (hn : nm.size ≤ 9223372036854775807) :
    Calls Try.prog 16 #[.pointer (some ⟨g, 0, none⟩), .string nm] w fun e w' => e = .returned (.tuple #[rcV (rectP L nm).1, .bool (rectP L nm).2]) ∧ Below w.heap.size w w' := by
  obtain ⟨l, gp, gt, b, cp, ct, clk, PX, TK, px, tk, es, mc, h, rfl, hQ⟩ := h
  unfold rectP
  rcases get_ex l nm with ⟨x, hx, rfl, e⟩ | ⟨hx, e⟩
  · rw [e]
    exact Rect_hit x.e.nm g x.p w (.map (some b)) h.blk (h.ent x hx) (fun V hV => h.ents.look (blk_below h.map hV) h.len h.inv.names hx false)
  · rw [e]
    exact Rect_miss nm g w (.map (some b)) h.blk (fun V hV => h.ents.look_none (blk_below h.map hV) h.len hn hx false)
end Go.Proofs.Ytoleencecfjcjaa.At

/- An entry is used: it is the last one then. -/
set_option linter.unusedVariables false
namespace Go.Proofs.Ytoleencecfjcjaa.At
open Go.RowKit Go.Proofs.YtoleencecfjcjaaW.PrintWords Go.Proofs.YtoleencecfjcjaaW.PrintLast Go.Proofs.Ytoleencecfjcjaa.Rng
/-- The entries, when one is used. -/
def bump (l : List Ex) (x : Ex) (u : Nat) : List Ex := l.filter (fun y => !nmEq y.e.nm x.e.nm) ++ [⟨x.p, x.e, u⟩]
theorem perm_last {α : Type} (f : α → α → Bool) (hf : ∀ a, f a a = true) : ∀ {l : List α} {x : α}, l.Pairwise (fun a b => f a b = false ∧ f b a = false) → x ∈ l → l.Perm (l.filter (fun y => !f y x) ++ [x])
  | [], _, _, h => by cases h
  | a :: l, x, hp, h => by
    rw [List.pairwise_cons] at hp
    rcases List.mem_cons.1 h with rfl | h'
    · have e : (x :: l).filter (fun y => !f y x) = l := by
        rw [List.filter_cons_of_neg (by simp [hf])]
        exact List.filter_eq_self.2 (fun y hy => by simp [(hp.1 y hy).2])
      rw [e]
      exact (List.perm_append_singleton x l).symm
    · rw [List.filter_cons_of_pos (by simp [(hp.1 x h').1])]
      exact (perm_last f hf hp.2 h').cons a
theorem pw_of {α : Type} {R : α → α → Prop} (hs : ∀ a b, R a b → R b a) : ∀ {l : List α} {x y : α}, l.Pairwise R → x ∈ l → y ∈ l → x ≠ y → R x y
  | [], _, _, _, h, _, _ => by cases h
  | a :: l, x, y, hp, hx, hy, hne => by
    rw [List.pairwise_cons] at hp
    rcases List.mem_cons.1 hx with e1 | hx'
    · rcases List.mem_cons.1 hy with e2 | hy'
      · exact absurd (e1.trans e2.symm) hne
      · rw [e1]; exact hp.1 y hy'
    · rcases List.mem_cons.1 hy with e2 | hy'
      · rw [e2]; exact hs _ _ (hp.1 x hx')
      · exact pw_of hs hp.2 hx' hy' hne
theorem names_sym {l : List Ex} (h : (l.map Ex.e).Pairwise (fun a b => nmEq a.nm b.nm = false)) : l.Pairwise (fun a b => nmEq a.e.nm b.e.nm = false ∧ nmEq b.e.nm a.e.nm = false) := by
  rw [List.pairwise_map] at h
  exact h.imp (fun {a b} h => ⟨h, (nmEq_comm _ _).trans h⟩)
theorem bump_perm {l : List Ex} {x : Ex} (h : (l.map Ex.e).Pairwise (fun a b => nmEq a.nm b.nm = false)) (hx : x ∈ l) : l.Perm (l.filter (fun y => !nmEq y.e.nm x.e.nm) ++ [x]) :=
  perm_last (fun a b : Ex => nmEq a.e.nm b.e.nm) (fun a => nmEq_self _) (names_sym h) hx
theorem bump_map {γ : Type} (f : Ex → γ) {l : List Ex} {x : Ex} {u : Nat} (hf : f ⟨x.p, x.e, u⟩ = f x) (h : (l.map Ex.e).Pairwise (fun a b => nmEq a.nm b.nm = false)) (hx : x ∈ l) : (l.map f).Perm ((bump l x u).map f) := by
  have h1 := (bump_perm h hx).map f
  unfold bump
  rw [List.map_append, List.map_cons, List.map_nil, hf]
  rw [List.map_append, List.map_cons, List.map_nil] at h1
  exact h1
theorem getP_mem {l : List Ex} {x : Ex} (h : (l.map Ex.e).Pairwise (fun a b => nmEq a.nm b.nm = false)) (hx : x ∈ l) : getP (l.map Ex.e) x.e.nm = some x.e := by
  rcases get_ex l x.e.nm with ⟨y, hy, e1, e2⟩ | ⟨h1, _⟩
  · rw [e2]
    by_cases e : y = x
    · rw [e]
    · have := (pw_of (fun a b hab => ⟨hab.2, hab.1⟩) (names_sym h) hy hx e).1
      rw [e1, nmEq_self] at this
      cases this
  · have := h1 x hx
    rw [nmEq_self] at this
    cases this
theorem bump_ents {l : List Ex} {x : Ex} (u : Nat) (h : (l.map Ex.e).Pairwise (fun a b => nmEq a.nm b.nm = false)) (hx : x ∈ l) : (bump l x u).map Ex.e = useP (l.map Ex.e) x.e.nm := by
  unfold useP bump
  rw [getP_mem h hx, List.map_append, List.filter_map]
  rfl
theorem mem_bump {l : List Ex} {x y : Ex} {u : Nat} (h : y ∈ bump l x u) : (y ∈ l ∧ nmEq y.e.nm x.e.nm = false) ∨ y = ⟨x.p, x.e, u⟩ := by
  rcases List.mem_append.1 h with h | h
  · exact .inl ⟨(List.mem_filter.1 h).1, by simpa using (List.mem_filter.1 h).2⟩
  · exact .inr (List.mem_singleton.1 h)
theorem Inv.perm {W H : Int} {L L' : List En} (h : Inv W H L) (hp : L.Perm L') : Inv W H L' where
  names := (hp.pairwise_iff (fun {a b} hab => (nmEq_comm _ _).trans hab)).1 h.names
  right := fun e he => h.right e (hp.mem_iff.2 he)
  rect := fun e he => h.rect e (hp.mem_iff.2 he)
  apart := (hp.pairwise_iff (fun {a b} hab => (over_comm _ _).trans hab)).1 h.apart
theorem AtI.use {w w' : World} {g W H N : Nat} {l : List Ex} {gp gt b cp ct clk : Nat} {PX TK : List Nat} {px tk : Nat → Nat → Bool} {es : Array MapEntry} {mc : Nat} (h : AtI w g W H N l gp gt b cp ct clk PX TK px tk es mc) {x : Ex} (hx : x ∈ l)
    (hg : w'.heap[g]? = some (.cells #[.int .i64 (W : Int), .int .i64 (H : Int), .slice (some ⟨gp, 0, none⟩) H cp, .slice (some ⟨gt, 0, none⟩) H ct, .map (some b), .int .i64 ((clk + 1 : Nat) : Int)] 64 (0, 0)))
    (he : w'.heap[x.p]? = some (.cells (Ex.cells ⟨x.p, x.e, clk + 1⟩) 94 (0, 0))) (hs : Step (fun k => k = g ∨ k = x.p) w w') :
    AtI w' g W H (N + 1) (bump l x (clk + 1)) gp gt b cp ct (clk + 1) PX TK px tk es mc := by
  have hnd := h.nd
  have hxp : x.p ∈ l.map Ex.p := List.mem_map.2 ⟨x, hx, rfl⟩
  simp only [List.nodup_cons, List.mem_cons, List.mem_append, not_or] at hnd
  obtain ⟨⟨n1, n2, n3, ⟨n4, n5⟩, n6⟩, ⟨n7, n8, ⟨n9, n10⟩, n11⟩, ⟨n12, ⟨n13, n14⟩, n15⟩, ⟨⟨n16, n17⟩, n18⟩, n19⟩ := hnd
  have hPT := List.nodup_append.1 n19
  have hP1 := List.nodup_append.1 hPT.1
  have hpx : ∀ p ∈ PX, p ≠ x.p := fun p hp => hPT.2.2 p (List.mem_append_left _ hp) x.p hxp
  have htk : ∀ p ∈ TK, p ≠ x.p := fun p hp => hPT.2.2 p (List.mem_append_right _ hp) x.p hxp
  have hgp : gp ≠ x.p := fun e => n11 (by rw [e]; exact hxp)
  have hgt : gt ≠ x.p := fun e => n15 (by rw [e]; exact hxp)
  have hbx : b ≠ x.p := fun e => n18 (by rw [e]; exact hxp)
  have sm : ∀ k, k < w.heap.size → k ≠ g → k ≠ x.p → w'.heap[k]? = w.heap[k]? := fun k hk a1 a2 => hs.1.2 k hk (fun e => by rcases e with e | e <;> contradiction)
  have hmap : (l.map Ex.p).Perm ((bump l x (clk + 1)).map Ex.p) := bump_map Ex.p rfl h.inv.names hx
  have hep : (l.map Ex.e).Perm ((bump l x (clk + 1)).map Ex.e) := bump_map Ex.e rfl h.inv.names hx
  have hPl : ∀ p ∈ PX, p < w.heap.size := fun p hp => by
    obtain ⟨k, hk⟩ := List.getElem?_of_mem hp
    exact lt_of_blk (h.rp k p hk)
  have hTl : ∀ p ∈ TK, p < w.heap.size := fun p hp => by
    obtain ⟨k, hk⟩ := List.getElem?_of_mem hp
    exact lt_of_blk (h.rt k p hk)
  exact
  { hW := h.hW
    hH := h.hH
    blk := hg
    lp := h.lp
    lt := h.lt
    bp := Nat.lt_of_lt_of_le h.bp hs.size
    bt := Nat.lt_of_lt_of_le h.bt hs.size
    op := h.op.same (sm gp h.bp (fun e => n1 e.symm) hgp)
    ot := h.ot.same (sm gt h.bt (fun e => n2 e.symm) hgt)
    rp := h.rp.same (fun p hp => sm p (hPl p hp) (fun e => n4 (e ▸ hp)) (hpx p hp))
    rt := h.rt.same (fun p hp => sm p (hTl p hp) (fun e => n5 (e ▸ hp)) (htk p hp))
    map := (sm b (lt_of_blk h.map) (fun e => n3 e.symm) hbx).trans h.map
    ents := h.ents.trans (bump_map Ex.kv rfl h.inv.names hx)
    born := h.born
    bnd := h.bnd
    ent := fun y hy => by
      rcases mem_bump hy with ⟨h1, h2⟩ | rfl
      · have hne : y.p ≠ x.p := fun e => by
          have hnd2 : (l.map Ex.p).Nodup := hPT.2.1
          have : y = x := by
            rw [List.Nodup, List.pairwise_map] at hnd2
            by_cases e2 : y = x
            · exact e2
            · exact absurd e (pw_of (R := fun a b : Ex => a.p ≠ b.p) (fun a b hab => fun e => hab e.symm) hnd2 h1 hx e2)
          rw [this, nmEq_self] at h2
          cases h2
        exact (sm y.p (lt_of_blk (h.ent y h1)) (fun e => n6 (e ▸ List.mem_map.2 ⟨y, h1, rfl⟩)) hne).trans (h.ent y h1)
      · exact he
    nd := by
      refine (List.Perm.nodup_iff ?_).1 h.nd
      exact ((((hmap.append_left (PX ++ TK)).cons b).cons gt).cons gp).cons g
    used := by
      unfold bump
      rw [List.pairwise_append]
      refine ⟨h.used.filter _, List.pairwise_singleton _ _, fun a ha c hc => ?_⟩
      obtain rfl := List.mem_singleton.1 hc
      have := h.le a (List.mem_filter.1 ha).1
      show a.us < clk + 1
      omega
    le := fun y hy => by
      rcases mem_bump hy with ⟨h1, h2⟩ | rfl
      · have := h.le y h1; omega
      · exact Nat.le_refl _
    inv := h.inv.perm hep
    taken := fun x1 y1 a1 a2 => by
      have h1 := h.taken x1 y1 a1 a2
      have h2 := hep.any_eq (f := fun e : En => inR e.r x1 y1)
      rw [List.any_map, List.any_map] at h2
      exact h1.trans h2
    pix := fun y hy => by
      rcases mem_bump hy with ⟨h1, h2⟩ | rfl
      · exact h.pix y h1
      · exact h.pix x hx
    len := fun y hy => by
      rcases mem_bump hy with ⟨h1, h2⟩ | rfl
      · exact h.len y h1
      · exact h.len x hx
    clk := Nat.succ_le_succ h.clk }
theorem bump_blks {g gp gt b : Nat} {PX TK : List Nat} {l : List Ex} {x : Ex} (u : Nat) (h : (l.map Ex.e).Pairwise (fun a b => nmEq a.nm b.nm = false)) (hx : x ∈ l) (k : Nat) : k ∈ blksOf g gp gt b PX TK l ↔ k ∈ blksOf g gp gt b PX TK (bump l x u) := by
  have hmap : (l.map Ex.p).Perm ((bump l x u).map Ex.p) := bump_map Ex.p rfl h hx
  unfold blksOf
  exact (((((hmap.append_left (PX ++ TK)).cons b).cons gt).cons gp).cons g).mem_iff
end Go.Proofs.Ytoleencecfjcjaa.At

/- Get over an atlas. -/
set_option linter.unusedVariables false
namespace Go.Proofs.Ytoleencecfjcjaa.At
open Go.RowKit Go.Proofs.YtoleencecfjcjaaW.PrintWords Go.Proofs.YtoleencecfjcjaaW.PrintLast Go.Proofs.Ytoleencecfjcjaa.Rng
theorem right_none {b : Bm} (h : rightB b = true) (hw : b.w = 0) : b = b0 := by
  unfold rightB at h
  rw [Bool.or_eq_true] at h
  rcases h with h | h
  · exact (sameB_iff _ _).1 h
  · rw [Bool.and_eq_true] at h
    have := of_decide_eq_true h.1
    omega
theorem right_some {b : Bm} (h : rightB b = true) (hw : 1 ≤ b.w) : b.w ≤ 64 ∧ 1 ≤ b.h ∧ b.h ≤ 64 ∧ (b.rows.length : Int) = b.h ∧ ∀ r ∈ b.rows, r < 2 ^ b.w.toNat := by
  unfold rightB at h
  rw [Bool.or_eq_true] at h
  rcases h with h | h
  · rw [(sameB_iff _ _).1 h] at hw
    exact absurd hw (by decide)
  · rw [Bool.and_eq_true] at h
    have h1 := of_decide_eq_true h.1
    refine ⟨h1.2.1, h1.2.2.1, h1.2.2.2.1, h1.2.2.2.2.1, fun r hr => ?_⟩
    have := List.all_eq_true.1 h.2 r hr
    exact of_decide_eq_true this
/-- An entry's rectangle in numbers. -/
theorem Inv.dims {W H : Nat} {L : List En} (h : Inv W H L) {e : En} (he : e ∈ L) : ∃ X Y CW CH : Nat, e.r = ⟨(X : Int), (Y : Int), (CW : Int), (CH : Int)⟩ ∧ e.b.w = (CW : Int) ∧ e.b.h = (CH : Int) ∧ CW ≤ 64 ∧ CH ≤ 64 ∧ X + CW ≤ W ∧ Y + CH ≤ H ∧ (CH = 0 ∨ 0 < CW) ∧ e.b.rows.length = CH ∧ ∀ r ∈ e.b.rows, 0 ≤ r ∧ r.toNat < 2 ^ CW := by
  obtain ⟨h1, h2⟩ := h.right e he
  rcases h.rect e he with ⟨h3, h4⟩ | ⟨h3, h4, h5, h6, h7, h8, h9⟩
  · have hb := right_none h1 h3
    refine ⟨0, 0, 0, 0, h4, h3, by rw [hb]; rfl, by omega, by omega, by omega, by omega, .inl rfl, by rw [hb]; rfl, fun r hr => ?_⟩
    rw [hb] at hr
    cases hr
  · obtain ⟨a1, a2, a3, a4, a5⟩ := right_some h1 h3
    obtain ⟨⟨x, y, rw_, rh⟩, hr⟩ : ∃ r, e.r = r := ⟨_, rfl⟩
    rw [hr] at h4 h5 h6 h7 h8 h9 ⊢
    simp only at h4 h5 h6 h7 h8 h9
    refine ⟨x.toNat, y.toNat, e.b.w.toNat, e.b.h.toNat, ?_, by omega, by omega, by omega, by omega, by omega, by omega, .inr (by omega), by omega, fun r hr => ⟨h2 r hr, ?_⟩⟩
    · congr 1 <;> omega
    · have b1 := h2 r hr
      have b2 := a5 r hr
      have : ((r.toNat : Nat) : Int) < ((2 ^ e.b.w.toNat : Nat) : Int) := by
        rw [Int.toNat_of_nonneg b1, Int.natCast_pow]
        exact b2
      exact Int.ofNat_lt.1 this
def getB (L : List En) (nm : ByteArray) : Bm × Bool := match getP L nm with
  | some e => (e.b, true)
  | none => (b0, false)
theorem AtIs.more {w : World} {g W H N M : Nat} {L : List En} {Q : Nat → Prop} (h : AtIs w g W H N L Q) (hM : N ≤ M) : AtIs w g W H M L Q := by
  obtain ⟨l, gp, gt, b, cp, ct, clk, PX, TK, px, tk, es, mc, h, e, hQ⟩ := h
  exact ⟨l, gp, gt, b, cp, ct, clk, PX, TK, px, tk, es, mc, { h with clk := Nat.le_trans h.clk hM }, e, hQ⟩
theorem useP_none {L : List En} {nm : ByteArray} (h : getP L nm = none) : useP L nm = L := by
  unfold useP
  rw [h]
  unfold getP at h
  rw [List.find?_eq_none] at h
  simp only [Option.toList_none, List.append_nil]
  exact List.filter_eq_self.2 (fun e he => by have := h e he; simpa using this)
theorem pix_bits {px : Nat → Nat → Bool} {X Y CW CH : Nat} {rs : List Int} (hrl : rs.length = CH) (hb : ∀ r ∈ rs, 0 ≤ r ∧ r.toNat < 2 ^ CW) (hp : ∀ k q, rs[k]? = some q → ∀ i : Nat, i < CW → px (Y + k) (X + i) = q.toNat.testBit i) (k : Nat) (r : Int) (hk : rs[k]? = some r) : r = (bitsOf (fun i => px (Y + k) (X + i)) CW : Int) := by
  obtain ⟨h1, h2⟩ := hb r (List.mem_of_getElem? hk)
  rw [bits_row h2 (fun i hi => hp k r hk i hi)]
  omega
/-- The blocks of an entry, of the rows, and of the atlas are different ones. -/
theorem AtI.ne {w : World} {g W H N : Nat} {l : List Ex} {gp gt b cp ct clk : Nat} {PX TK : List Nat} {px tk : Nat → Nat → Bool} {es : Array MapEntry} {mc : Nat} (h : AtI w g W H N l gp gt b cp ct clk PX TK px tk es mc) :
    (gp ≠ g ∧ gt ≠ g ∧ b ≠ g ∧ gp ≠ gt ∧ gp ≠ b ∧ gt ≠ b) ∧ (∀ p ∈ PX, p ≠ g ∧ p ≠ gp ∧ p ≠ gt ∧ p ≠ b) ∧ (∀ p ∈ TK, p ≠ g ∧ p ≠ gp ∧ p ≠ gt ∧ p ≠ b) ∧ (∀ x ∈ l, x.p ≠ g ∧ x.p ≠ gp ∧ x.p ≠ gt ∧ x.p ≠ b) ∧ (∀ p ∈ PX, ∀ q ∈ TK, p ≠ q) ∧ (∀ p ∈ PX, ∀ x ∈ l, p ≠ x.p) ∧ (∀ p ∈ TK, ∀ x ∈ l, p ≠ x.p) ∧ PX.Nodup ∧ TK.Nodup ∧ (l.map Ex.p).Nodup := by
  have hnd := h.nd
  simp only [List.nodup_cons, List.mem_cons, List.mem_append, not_or] at hnd
  obtain ⟨⟨n1, n2, n3, ⟨n4, n5⟩, n6⟩, ⟨n7, n8, ⟨n9, n10⟩, n11⟩, ⟨n12, ⟨n13, n14⟩, n15⟩, ⟨⟨n16, n17⟩, n18⟩, n19⟩ := hnd
  have hPT := List.nodup_append.1 n19
  have hP1 := List.nodup_append.1 hPT.1
  have mx : ∀ x ∈ l, x.p ∈ l.map Ex.p := fun x hx => List.mem_map.2 ⟨x, hx, rfl⟩
  exact ⟨⟨fun e => n1 e.symm, fun e => n2 e.symm, fun e => n3 e.symm, n7, n8, n12⟩, fun p hp => ⟨fun e => n4 (e ▸ hp), fun e => n9 (e ▸ hp), fun e => n13 (e ▸ hp), fun e => n16 (e ▸ hp)⟩, fun p hp => ⟨fun e => n5 (e ▸ hp), fun e => n10 (e ▸ hp), fun e => n14 (e ▸ hp), fun e => n17 (e ▸ hp)⟩,
    fun x hx => ⟨fun e => n6 (e ▸ mx x hx), fun e => n11 (e ▸ mx x hx), fun e => n15 (e ▸ mx x hx), fun e => n18 (e ▸ mx x hx)⟩, fun p hp q hq => hP1.2.2 p hp q hq, fun p hp x hx => hPT.2.2 p (List.mem_append_left _ hp) x.p (mx x hx), fun p hp x hx => hPT.2.2 p (List.mem_append_right _ hp) x.p (mx x hx), hP1.1, hP1.2.1, hPT.2.1⟩
theorem Get_at {w : World} {g W H N : Nat} {L : List En} {Q : Nat → Prop} (h : AtIs w g W H N L Q) (hN : N ≤ 1000000) (nm : ByteArray) (hn : nm.size ≤ 9223372036854775807) :
    Calls Try.prog 13 #[.pointer (some ⟨g, 0, none⟩), .string nm] w fun e w' => (∃ v, e = .returned (.tuple #[.agg #[.int .i64 (getB L nm).1.l, .int .i64 (getB L nm).1.t, .int .i64 (getB L nm).1.w, .int .i64 (getB L nm).1.h, v], .bool (getB L nm).2]) ∧ Kd.R (Kd.int .u64) 92 w' w.heap.size (fun _ => True) v (getB L nm).1.rows) ∧ AtIs w' g W H (N + 1) (useP L nm) Q ∧ Step Q w w' := by
  have h0 := h
  obtain ⟨l, gp, gt, b, cp, ct, clk, PX, TK, px, tk, es, mc, h, rfl, hQ⟩ := h
  rcases get_ex l nm with ⟨x, hx, rfl, e⟩ | ⟨hx, e⟩
  · have hH := h.lp
    subst hH
    have hxL : x.e ∈ l.map Ex.e := List.mem_map.2 ⟨x, hx, rfl⟩
    obtain ⟨X, Y, CW, CH, hr, hbw, hbh, hc1, hc2, hx1, hy1, hcc, hrl, hrs⟩ := h.inv.dims hxL
    have hent := h.ent x hx
    have he : w.heap[x.p]? = some (.cells #[.int .i64 x.e.b.l, .int .i64 x.e.b.t, .int .i64 (X : Int), .int .i64 (Y : Int), .int .i64 (CW : Int), .int .i64 (CH : Int), .int .i64 (x.us : Int)] 94 (0, 0)) := by
      simp only [Ex.cells, hr] at hent
      exact hent
    obtain ⟨⟨a1, a2, a3, a4, a5, a6⟩, a7, a8, a9, a10, a11, a12, a13, a14, a15⟩ := h.ne
    have hpx : ∀ k q, x.e.b.rows[k]? = some q → ∀ i : Nat, i < CW → px (Y + k) (X + i) = q.toNat.testBit i := fun k q hk i hi => by
      have := h.pix x hx k q hk i (by rw [hr]; exact Int.ofNat_lt.2 hi)
      rw [hr] at this
      exact this
    have hclk := h.clk
    refine (Get_hit x.e.nm x.e.b.rows (.map es mc) h.hW.2 hc1 h.hH.2 hx1 hy1 hcc (by omega) (a9 x hx).1 h.blk he h.op h.rp h.bp ⟨a1, fun e => (a9 x hx).2.1 e.symm⟩ (fun p hp => ⟨(a7 p hp).1, a11 p hp x hx⟩) h.map ⟨a3, fun e => (a9 x hx).2.2.2 e.symm⟩ hrl (pix_bits hrl hrs hpx) (fun V hV => h.ents.look hV h.len h.inv.names hx false)).mono ?_
    rintro e' w' ⟨⟨v, rfl, hR⟩, hg', he', hst⟩
    have he2 : w'.heap[x.p]? = some (.cells (Ex.cells ⟨x.p, x.e, clk + 1⟩) 94 (0, 0)) := by
      simp only [Ex.cells, hr]
      exact he'
    unfold getB
    rw [e]
    simp only [hbw, hbh]
    refine ⟨⟨v, rfl, hR⟩, ⟨_, gp, gt, b, cp, ct, clk + 1, PX, TK, px, tk, es, mc, h.use hx hg' he2 hst, bump_ents _ h.inv.names hx, fun k => (hQ k).trans (bump_blks _ h.inv.names hx k)⟩, hst.mono (fun k hk => ?_)⟩
    rw [hQ k]
    unfold blksOf
    rcases hk with rfl | rfl
    · exact List.mem_cons_self
    · exact List.mem_cons_of_mem _ (List.mem_cons_of_mem _ (List.mem_cons_of_mem _ (List.mem_cons_of_mem _ (List.mem_append_right _ (List.mem_map.2 ⟨x, hx, rfl⟩)))))
  · refine (Get_miss nm g w (.map (some b)) h.blk (fun V hV => h.ents.look_none (blk_below h.map hV) h.len hn hx false)).mono ?_
    rintro e' w' ⟨rfl, hb⟩
    unfold getB
    rw [e, useP_none e]
    exact ⟨⟨_, rfl, Kd.R_nil _ _ _ _ _⟩, (h0.below hb).more (Nat.le_succ _), Step.of_below hb _⟩
end Go.Proofs.Ytoleencecfjcjaa.At

