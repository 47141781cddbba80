/- Several texts of this claim, one behind the other: DfA, DfB, DfC, DfD, DfE, DfF, DfG, DfH, DfI, DfJ. -/
import Derived.Test.YtjjpiedcdcdejaaPby2
import Derived.Test.YtjjpiedcdcdejaaMgW
import Derived.WideKeyEntry
import Derived.DeepKeys4
import Derived.Deep.MidRow
import Derived.Lib.ConvBytes
import Derived.Lib.SmallJoins
import Derived.Deep.DeepCutAuto
import Derived.Deep.CutBlock
import Derived.Lib.AppendStr
/- diff.common. -/
set_option linter.unusedVariables false
set_option linter.unusedSimpArgs false
namespace Go.Proofs.Ytjjpiedcdcdejaa.Df
open Go.RowKit Go.Proofs.YtjjpiedcdcdejaaW.PrintWords Go.Proofs.YtjjpiedcdcdejaaW.PrintLast Go.Proofs.YtjjpiedcdcdejaaW.PrintMore Go.Proofs.Ytjjpiedcdcdejaa.Pb Go.Proofs.Ytjjpiedcdcdejaa.Gw
attribute [local go_sem] max2_int min2_int max_two min_two max_three min_three max_four min_four   -- for this text's walks alone
/-- How many bytes two strings have in common from a place on. -/
def cml : Nat → ByteArray → ByteArray → Nat → Nat
  | 0, _, _, _ => 0
  | k + 1, a, b, i => if i < a.size ∧ i < b.size ∧ bt a (i : Int) = bt b (i : Int) then cml k a b (i + 1) + 1 else 0
/-- How many bytes two strings have in common at their beginnings. -/
def cm (a b : ByteArray) : Nat := cml (min a.size b.size + 1) a b 0
theorem cml_le (a b : ByteArray) : ∀ k i, i ≤ min a.size b.size → i + cml k a b i ≤ min a.size b.size
  | 0, i, h => by simpa [cml] using h
  | k + 1, i, h => by
    unfold cml
    split
    · rename_i hc
      have := cml_le a b k (i + 1) (by omega)
      omega
    · omega
theorem cm_le (a b : ByteArray) : cm a b ≤ min a.size b.size := by have := cml_le a b (min a.size b.size + 1) 0 (Nat.zero_le _); unfold cm; omega
set_option maxHeartbeats 8000000 in
set_option maxRecDepth 100000 in
theorem common_calls (a0 a1 : ByteArray) (h0 : a0.size ≤ 4611686018427387904) (w : World) :
    Calls Try.prog 28 #[.string a0, .string a1] w fun e w' => e = .returned (.int .i64 (cm a0 a1)) ∧ Below w.heap.size w w' := by
  have HB := Lib.hid (Below.refl w.heap.size w)
  obtain ⟨K, hK⟩ : ∃ K, K = min a0.size a1.size + 1 := ⟨_, rfl⟩
  obtain ⟨R, hR⟩ : ∃ R, R = cm a0 a1 := ⟨_, rfl⟩
  have hI := Lib.hid (show (0 : Nat) + cml K a0 a1 0 = R ∧ (0 : Nat) + K ≥ min a0.size a1.size + 1 by subst hK; subst hR; unfold cm; omega)
  rw [← hR]
  clear hR hK
  go_enter Try.func28, Try.ntmps28
  go_wp2
  go_loopg [5] K (fun kq v5 w' => ∃ (x : Int) (i : Nat), v5 = .int .i64 x ∧ x = (i : Int) ∧ i + cml kq a0 a1 i = R ∧ i + kq ≥ min a0.size a1.size + 1 ∧ i ≤ min a0.size a1.size ∧ Below w.heap.size w w')
  case atStart => exact ⟨0, 0, rfl, rfl, hI.out.1, hI.out.2, Nat.zero_le _, HB.out⟩
  case round =>
    clear hI HB
    obtain ⟨x, i, rfl, hx, hi1, hi2, hi3, HB⟩ := hrel
    cases gk with
    | zero => omega
    | succ k1 =>
      have HB' := Lib.hid HB
      clear HB
      simp only [cml] at hi1
      obtain ⟨m, hm⟩ : ∃ m : Int, m = (if a1.size < a0.size then (a1.size : Int) else (a0.size : Int)) := ⟨_, rfl⟩
      have hm' := hm.symm
      by_cases c1 : i < a0.size ∧ i < a1.size
      · have p1 : (0 ≤ x) = True := eq_true (by omega)
        have p2 : (x < (a0.size : Int)) = True := eq_true (by omega)
        have p3 : (x < (a1.size : Int)) = True := eq_true (by omega)
        have hx7 := bt_at a0 x
        have hx8 := bt_at a1 x
        have hlt : decide (x < m) = true := decide_eq_true (by rw [hm]; split <;> omega)
        by_cases c2 : bt a0 (i : Int) = bt a1 (i : Int)
        · rw [if_pos ⟨c1.1, c1.2, c2⟩] at hi1
          rw [← hx] at c2; have c2b : (bt a0 x == bt a1 x) = true := beq_iff_eq.mpr c2
          have hw := Lib.hid (show wrap64 (x + 1) = ((i + 1 : Nat) : Int) by unfold wrap64; omega)
          have hI := Lib.hid (show i + 1 + cml k1 a0 a1 (i + 1) = R ∧ i + 1 + k1 ≥ min a0.size a1.size + 1 ∧ i + 1 ≤ min a0.size a1.size by omega)
          clear hi1 hi2 hi3 c1 c2 hm hx
          go_wp2
          refine start_ (n := 16) (S := fun w' => True) (ds := []) #[false, false, false, false, false, false, false, false, false, false, false, false, false, false, false, false] (by kernel_rfl) rfl rfl trivial (fun hHeld => ?_)
          refine pure_ (i := 0) (N := some 6) (v := ?_) (a' := ?_) #[true, false, false, false, false, false, false, false, false, false, false, false, false, false, false, false] rfl rfl (by kernel_rfl) (fun _ _ _ h => h) (Or.inl ⟨by rfl, ?_⟩) ?_ ?_
          rotate_left
          · intro w'
            go_simp
            with_reducible rfl
          rotate_left
          · simp only [Act.put, List.setIfInBounds_toArray, List.set_cons_zero, List.set_cons_succ, i64_w, i32_w]
            rfl
          refine pure_ (i := 1) (N := some 7) (v := ?_) (a' := ?_) #[true, true, false, false, false, false, false, false, false, false, false, false, false, false, false, false] rfl rfl (by kernel_rfl) (fun _ _ _ h => h) (Or.inl ⟨by rfl, ?_⟩) ?_ ?_
          rotate_left
          · intro w'
            go_simp
            with_reducible rfl
          rotate_left
          · simp only [Act.put, List.setIfInBounds_toArray, List.set_cons_zero, List.set_cons_succ, i64_w, i32_w]
            rfl
          refine pure_ (i := 2) (N := some 8) (v := ?_) (a' := ?_) #[true, true, true, false, false, false, false, false, false, false, false, false, false, false, false, false] rfl rfl (by kernel_rfl) (fun _ _ _ h => h) (Or.inl ⟨by rfl, ?_⟩) ?_ ?_
          rotate_left
          · intro w'
            go_simp
            with_reducible rfl
          rotate_left
          · simp only [Act.put, List.setIfInBounds_toArray, List.set_cons_zero, List.set_cons_succ, i64_w, i32_w]
            rfl
          refine pure_ (i := 3) (N := some 9) (v := ?_) (a' := ?_) #[true, true, true, true, false, false, false, false, false, false, false, false, false, false, false, false] rfl rfl (by kernel_rfl) (fun _ _ _ h => h) (Or.inl ⟨by rfl, ?_⟩) ?_ ?_
          rotate_left
          · intro w'
            go_simp
            with_reducible rfl
          rotate_left
          · simp only [Act.put, List.setIfInBounds_toArray, List.set_cons_zero, List.set_cons_succ, i64_w, i32_w]
            rfl
          refine pure_ (i := 4) (N := some 10) (v := ?_) (a' := ?_) #[true, true, true, true, true, false, false, false, false, false, false, false, false, false, false, false] rfl rfl (by kernel_rfl) (fun _ _ _ h => h) (Or.inl ⟨by rfl, ?_⟩) ?_ ?_
          rotate_left
          · intro w'
            go_simp
            with_reducible rfl
          rotate_left
          · simp only [Act.put, List.setIfInBounds_toArray, List.set_cons_zero, List.set_cons_succ, i64_w, i32_w]
            rfl
          refine pure_ (i := 5) (N := some 11) (v := ?_) (a' := ?_) #[true, true, true, true, true, true, false, false, false, false, false, false, false, false, false, false] rfl rfl (by kernel_rfl) (fun _ _ _ h => h) (Or.inl ⟨by rfl, ?_⟩) ?_ ?_
          rotate_left
          · intro w'
            go_simp
            with_reducible rfl
          rotate_left
          · simp only [Act.put, List.setIfInBounds_toArray, List.set_cons_zero, List.set_cons_succ, i64_w, i32_w]
            rfl
          refine pure_ (i := 6) (N := some 12) (v := ?_) (a' := ?_) #[true, true, true, true, true, true, true, false, false, false, false, false, false, false, false, false] rfl rfl (by kernel_rfl) (fun _ _ _ h => h) (Or.inl ⟨by rfl, ?_⟩) ?_ ?_
          rotate_left
          · intro w'
            go_simp
            with_reducible rfl
          rotate_left
          · simp only [Act.put, List.setIfInBounds_toArray, List.set_cons_zero, List.set_cons_succ, i64_w, i32_w]
            rfl
          refine pure_ (i := 7) (N := some 13) (v := ?_) (a' := ?_) #[true, true, true, true, true, true, true, true, false, false, false, false, false, false, false, false] rfl rfl (by kernel_rfl) (fun _ _ _ h => h) (Or.inl ⟨by rfl, ?_⟩) ?_ ?_
          rotate_left
          · intro w'
            go_simp
            with_reducible rfl
          rotate_left
          · simp only [Act.put, List.setIfInBounds_toArray, List.set_cons_zero, List.set_cons_succ, i64_w, i32_w]
            rfl
          refine pure_ (i := 8) (N := some 14) (v := ?_) (a' := ?_) #[true, true, true, true, true, true, true, true, true, false, false, false, false, false, false, false] rfl rfl (by kernel_rfl) (fun _ _ _ h => h) (Or.inl ⟨by rfl, ?_⟩) ?_ ?_
          rotate_left
          · intro w'
            go_simp
            with_reducible rfl
          rotate_left
          · simp only [Act.put, List.setIfInBounds_toArray, List.set_cons_zero, List.set_cons_succ, i64_w, i32_w]
            rfl
          refine pure_ (i := 9) (N := some 15) (v := ?_) (a' := ?_) #[true, true, true, true, true, true, true, true, true, true, false, false, false, false, false, false] rfl rfl (by kernel_rfl) (fun _ _ _ h => h) (Or.inl ⟨by rfl, ?_⟩) ?_ ?_
          rotate_left
          · intro w'
            go_simp
            with_reducible rfl
          rotate_left
          · simp only [Act.put, List.setIfInBounds_toArray, List.set_cons_zero, List.set_cons_succ, i64_w, i32_w]
            rfl
          refine pure_ (i := 11) (N := some 17) (v := ?_) (a' := ?_) #[true, true, true, true, true, true, true, true, true, true, false, true, false, false, false, false] rfl rfl (by kernel_rfl) (fun _ _ _ h => h) (Or.inl ⟨by rfl, ?_⟩) ?_ ?_
          rotate_left
          · intro w'
            go_simp
            with_reducible rfl
          rotate_left
          · simp only [Act.put, List.setIfInBounds_toArray, List.set_cons_zero, List.set_cons_succ, i64_w, i32_w]
            rfl
          refine pure_ (i := 12) (N := some 18) (v := ?_) (a' := ?_) #[true, true, true, true, true, true, true, true, true, true, false, true, true, false, false, false] rfl rfl (by kernel_rfl) (fun _ _ _ h => h) (Or.inl ⟨by rfl, ?_⟩) ?_ ?_
          rotate_left
          · intro w'
            go_simp
            with_reducible rfl
          rotate_left
          · simp only [Act.put, List.setIfInBounds_toArray, List.set_cons_zero, List.set_cons_succ, i64_w, i32_w]
            rfl
          refine take_ (i := 10) (N := some 16) (v := ?_) (a' := ?_) #[true, true, true, true, true, true, true, true, true, true, true, true, true, false, false, false] rfl rfl (by kernel_rfl) (fun _ _ _ h => h) (Or.inl ⟨by rfl, ?_⟩) hHeld ?_ ?_
          rotate_left
          · intro w' _
            go_simp
            with_reducible rfl
          rotate_left
          · simp only [Act.put, List.setIfInBounds_toArray, List.set_cons_zero, List.set_cons_succ, i64_w, i32_w]
            rfl
          refine take_ (i := 13) (N := some 19) (v := ?_) (a' := ?_) #[true, true, true, true, true, true, true, true, true, true, true, true, true, true, false, false] rfl rfl (by kernel_rfl) (fun _ _ _ h => h) (Or.inl ⟨by rfl, ?_⟩) hHeld ?_ ?_
          rotate_left
          · intro w' _
            go_simp
            with_reducible rfl
          rotate_left
          · simp only [Act.put, List.setIfInBounds_toArray, List.set_cons_zero, List.set_cons_succ, i64_w, i32_w]
            rfl
          refine pure_ (i := 14) (N := some 20) (v := ?_) (a' := ?_) #[true, true, true, true, true, true, true, true, true, true, true, true, true, true, true, false] rfl rfl (by kernel_rfl) (fun _ _ _ h => h) (Or.inl ⟨by rfl, ?_⟩) ?_ ?_
          rotate_left
          · intro w'
            go_simp
            with_reducible rfl
          rotate_left
          · simp only [Act.put, List.setIfInBounds_toArray, List.set_cons_zero, List.set_cons_succ, i64_w, i32_w]
            rfl
          refine pure_ (i := 15) (N := some 21) (v := ?_) (a' := ?_) #[true, true, true, true, true, true, true, true, true, true, true, true, true, true, true, true] rfl rfl (by kernel_rfl) (fun _ _ _ h => h) (Or.inl ⟨by rfl, ?_⟩) ?_ ?_
          rotate_left
          · intro w'
            go_simp
            with_reducible rfl
          rotate_left
          · simp only [Act.put, List.setIfInBounds_toArray, List.set_cons_zero, List.set_cons_succ, i64_w, i32_w]
            rfl
          refine done_ (by kernel_rfl) ?_
          go_wp2
          go_roundg k1
          case measure => omega
          case rel => exact ⟨_, i + 1, rfl, hw.out, hI.out.1, hI.out.2.1, hI.out.2.2, by repeat (first | exact HB'.out | apply below_drew1)⟩
        · rw [if_neg (fun h => c2 h.2.2)] at hi1
          rw [← hx] at c2; have c2b : (bt a0 x == bt a1 x) = false := beq_eq_false_iff_ne.mpr c2
          have hR := Lib.hid (show x = (R : Int) by omega)
          clear hi1 hi2 hi3 c1 c2 hm hx
          go_wp2
          refine start_ (n := 16) (S := fun w' => True) (ds := []) #[false, false, false, false, false, false, false, false, false, false, false, false, false, false, false, false] (by kernel_rfl) rfl rfl trivial (fun hHeld => ?_)
          refine pure_ (i := 0) (N := some 6) (v := ?_) (a' := ?_) #[true, false, false, false, false, false, false, false, false, false, false, false, false, false, false, false] rfl rfl (by kernel_rfl) (fun _ _ _ h => h) (Or.inl ⟨by rfl, ?_⟩) ?_ ?_
          rotate_left
          · intro w'
            go_simp
            with_reducible rfl
          rotate_left
          · simp only [Act.put, List.setIfInBounds_toArray, List.set_cons_zero, List.set_cons_succ, i64_w, i32_w]
            rfl
          refine pure_ (i := 1) (N := some 7) (v := ?_) (a' := ?_) #[true, true, false, false, false, false, false, false, false, false, false, false, false, false, false, false] rfl rfl (by kernel_rfl) (fun _ _ _ h => h) (Or.inl ⟨by rfl, ?_⟩) ?_ ?_
          rotate_left
          · intro w'
            go_simp
            with_reducible rfl
          rotate_left
          · simp only [Act.put, List.setIfInBounds_toArray, List.set_cons_zero, List.set_cons_succ, i64_w, i32_w]
            rfl
          refine pure_ (i := 2) (N := some 8) (v := ?_) (a' := ?_) #[true, true, true, false, false, false, false, false, false, false, false, false, false, false, false, false] rfl rfl (by kernel_rfl) (fun _ _ _ h => h) (Or.inl ⟨by rfl, ?_⟩) ?_ ?_
          rotate_left
          · intro w'
            go_simp
            with_reducible rfl
          rotate_left
          · simp only [Act.put, List.setIfInBounds_toArray, List.set_cons_zero, List.set_cons_succ, i64_w, i32_w]
            rfl
          refine pure_ (i := 3) (N := some 9) (v := ?_) (a' := ?_) #[true, true, true, true, false, false, false, false, false, false, false, false, false, false, false, false] rfl rfl (by kernel_rfl) (fun _ _ _ h => h) (Or.inl ⟨by rfl, ?_⟩) ?_ ?_
          rotate_left
          · intro w'
            go_simp
            with_reducible rfl
          rotate_left
          · simp only [Act.put, List.setIfInBounds_toArray, List.set_cons_zero, List.set_cons_succ, i64_w, i32_w]
            rfl
          refine pure_ (i := 4) (N := some 10) (v := ?_) (a' := ?_) #[true, true, true, true, true, false, false, false, false, false, false, false, false, false, false, false] rfl rfl (by kernel_rfl) (fun _ _ _ h => h) (Or.inl ⟨by rfl, ?_⟩) ?_ ?_
          rotate_left
          · intro w'
            go_simp
            with_reducible rfl
          rotate_left
          · simp only [Act.put, List.setIfInBounds_toArray, List.set_cons_zero, List.set_cons_succ, i64_w, i32_w]
            rfl
          refine pure_ (i := 5) (N := some 11) (v := ?_) (a' := ?_) #[true, true, true, true, true, true, false, false, false, false, false, false, false, false, false, false] rfl rfl (by kernel_rfl) (fun _ _ _ h => h) (Or.inl ⟨by rfl, ?_⟩) ?_ ?_
          rotate_left
          · intro w'
            go_simp
            with_reducible rfl
          rotate_left
          · simp only [Act.put, List.setIfInBounds_toArray, List.set_cons_zero, List.set_cons_succ, i64_w, i32_w]
            rfl
          refine pure_ (i := 6) (N := some 12) (v := ?_) (a' := ?_) #[true, true, true, true, true, true, true, false, false, false, false, false, false, false, false, false] rfl rfl (by kernel_rfl) (fun _ _ _ h => h) (Or.inl ⟨by rfl, ?_⟩) ?_ ?_
          rotate_left
          · intro w'
            go_simp
            with_reducible rfl
          rotate_left
          · simp only [Act.put, List.setIfInBounds_toArray, List.set_cons_zero, List.set_cons_succ, i64_w, i32_w]
            rfl
          refine pure_ (i := 7) (N := some 13) (v := ?_) (a' := ?_) #[true, true, true, true, true, true, true, true, false, false, false, false, false, false, false, false] rfl rfl (by kernel_rfl) (fun _ _ _ h => h) (Or.inl ⟨by rfl, ?_⟩) ?_ ?_
          rotate_left
          · intro w'
            go_simp
            with_reducible rfl
          rotate_left
          · simp only [Act.put, List.setIfInBounds_toArray, List.set_cons_zero, List.set_cons_succ, i64_w, i32_w]
            rfl
          refine pure_ (i := 8) (N := some 14) (v := ?_) (a' := ?_) #[true, true, true, true, true, true, true, true, true, false, false, false, false, false, false, false] rfl rfl (by kernel_rfl) (fun _ _ _ h => h) (Or.inl ⟨by rfl, ?_⟩) ?_ ?_
          rotate_left
          · intro w'
            go_simp
            with_reducible rfl
          rotate_left
          · simp only [Act.put, List.setIfInBounds_toArray, List.set_cons_zero, List.set_cons_succ, i64_w, i32_w]
            rfl
          refine pure_ (i := 9) (N := some 15) (v := ?_) (a' := ?_) #[true, true, true, true, true, true, true, true, true, true, false, false, false, false, false, false] rfl rfl (by kernel_rfl) (fun _ _ _ h => h) (Or.inl ⟨by rfl, ?_⟩) ?_ ?_
          rotate_left
          · intro w'
            go_simp
            with_reducible rfl
          rotate_left
          · simp only [Act.put, List.setIfInBounds_toArray, List.set_cons_zero, List.set_cons_succ, i64_w, i32_w]
            rfl
          refine pure_ (i := 11) (N := some 17) (v := ?_) (a' := ?_) #[true, true, true, true, true, true, true, true, true, true, false, true, false, false, false, false] rfl rfl (by kernel_rfl) (fun _ _ _ h => h) (Or.inl ⟨by rfl, ?_⟩) ?_ ?_
          rotate_left
          · intro w'
            go_simp
            with_reducible rfl
          rotate_left
          · simp only [Act.put, List.setIfInBounds_toArray, List.set_cons_zero, List.set_cons_succ, i64_w, i32_w]
            rfl
          refine pure_ (i := 12) (N := some 18) (v := ?_) (a' := ?_) #[true, true, true, true, true, true, true, true, true, true, false, true, true, false, false, false] rfl rfl (by kernel_rfl) (fun _ _ _ h => h) (Or.inl ⟨by rfl, ?_⟩) ?_ ?_
          rotate_left
          · intro w'
            go_simp
            with_reducible rfl
          rotate_left
          · simp only [Act.put, List.setIfInBounds_toArray, List.set_cons_zero, List.set_cons_succ, i64_w, i32_w]
            rfl
          refine take_ (i := 10) (N := some 16) (v := ?_) (a' := ?_) #[true, true, true, true, true, true, true, true, true, true, true, true, true, false, false, false] rfl rfl (by kernel_rfl) (fun _ _ _ h => h) (Or.inl ⟨by rfl, ?_⟩) hHeld ?_ ?_
          rotate_left
          · intro w' _
            go_simp
            with_reducible rfl
          rotate_left
          · simp only [Act.put, List.setIfInBounds_toArray, List.set_cons_zero, List.set_cons_succ, i64_w, i32_w]
            rfl
          refine take_ (i := 13) (N := some 19) (v := ?_) (a' := ?_) #[true, true, true, true, true, true, true, true, true, true, true, true, true, true, false, false] rfl rfl (by kernel_rfl) (fun _ _ _ h => h) (Or.inl ⟨by rfl, ?_⟩) hHeld ?_ ?_
          rotate_left
          · intro w' _
            go_simp
            with_reducible rfl
          rotate_left
          · simp only [Act.put, List.setIfInBounds_toArray, List.set_cons_zero, List.set_cons_succ, i64_w, i32_w]
            rfl
          refine pure_ (i := 14) (N := some 20) (v := ?_) (a' := ?_) #[true, true, true, true, true, true, true, true, true, true, true, true, true, true, true, false] rfl rfl (by kernel_rfl) (fun _ _ _ h => h) (Or.inl ⟨by rfl, ?_⟩) ?_ ?_
          rotate_left
          · intro w'
            go_simp
            with_reducible rfl
          rotate_left
          · simp only [Act.put, List.setIfInBounds_toArray, List.set_cons_zero, List.set_cons_succ, i64_w, i32_w]
            rfl
          refine pure_ (i := 15) (N := some 21) (v := ?_) (a' := ?_) #[true, true, true, true, true, true, true, true, true, true, true, true, true, true, true, true] rfl rfl (by kernel_rfl) (fun _ _ _ h => h) (Or.inl ⟨by rfl, ?_⟩) ?_ ?_
          rotate_left
          · intro w'
            go_simp
            with_reducible rfl
          rotate_left
          · simp only [Act.put, List.setIfInBounds_toArray, List.set_cons_zero, List.set_cons_succ, i64_w, i32_w]
            rfl
          refine done_ (by kernel_rfl) ?_
          go_wp2
          go_ret
          exact ⟨by rw [← hR.out]; rfl, by repeat (first | exact HB'.out | apply below_drew1)⟩
      · rw [if_neg (fun h => c1 ⟨h.1, h.2.1⟩)] at hi1
        have hlt : decide (x < m) = false := decide_eq_false (by rw [hm]; split <;> omega)
        have hR := Lib.hid (show x = (R : Int) by omega)
        clear hi1 hi2 hi3 c1 hm hx
        go_wp2
        refine start_ (n := 16) (S := fun w' => True) (ds := []) #[false, false, false, false, false, false, false, false, false, false, false, false, false, false, false, false] (by kernel_rfl) rfl rfl trivial (fun hHeld => ?_)
        refine pure_ (i := 0) (N := some 6) (v := ?_) (a' := ?_) #[true, false, false, false, false, false, false, false, false, false, false, false, false, false, false, false] rfl rfl (by kernel_rfl) (fun _ _ _ h => h) (Or.inl ⟨by rfl, ?_⟩) ?_ ?_
        rotate_left
        · intro w'
          go_simp
          with_reducible rfl
        rotate_left
        · simp only [Act.put, List.setIfInBounds_toArray, List.set_cons_zero, List.set_cons_succ, i64_w, i32_w]
          rfl
        refine pure_ (i := 1) (N := some 7) (v := ?_) (a' := ?_) #[true, true, false, false, false, false, false, false, false, false, false, false, false, false, false, false] rfl rfl (by kernel_rfl) (fun _ _ _ h => h) (Or.inl ⟨by rfl, ?_⟩) ?_ ?_
        rotate_left
        · intro w'
          go_simp
          with_reducible rfl
        rotate_left
        · simp only [Act.put, List.setIfInBounds_toArray, List.set_cons_zero, List.set_cons_succ, i64_w, i32_w]
          rfl
        refine pure_ (i := 2) (N := some 8) (v := ?_) (a' := ?_) #[true, true, true, false, false, false, false, false, false, false, false, false, false, false, false, false] rfl rfl (by kernel_rfl) (fun _ _ _ h => h) (Or.inl ⟨by rfl, ?_⟩) ?_ ?_
        rotate_left
        · intro w'
          go_simp
          with_reducible rfl
        rotate_left
        · simp only [Act.put, List.setIfInBounds_toArray, List.set_cons_zero, List.set_cons_succ, i64_w, i32_w]
          rfl
        refine pure_ (i := 3) (N := some 9) (v := ?_) (a' := ?_) #[true, true, true, true, false, false, false, false, false, false, false, false, false, false, false, false] rfl rfl (by kernel_rfl) (fun _ _ _ h => h) (Or.inl ⟨by rfl, ?_⟩) ?_ ?_
        rotate_left
        · intro w'
          go_simp
          with_reducible rfl
        rotate_left
        · simp only [Act.put, List.setIfInBounds_toArray, List.set_cons_zero, List.set_cons_succ, i64_w, i32_w]
          rfl
        refine pure_ (i := 4) (N := some 10) (v := ?_) (a' := ?_) #[true, true, true, true, true, false, false, false, false, false, false, false, false, false, false, false] rfl rfl (by kernel_rfl) (fun _ _ _ h => h) (Or.inl ⟨by rfl, ?_⟩) ?_ ?_
        rotate_left
        · intro w'
          go_simp
          with_reducible rfl
        rotate_left
        · simp only [Act.put, List.setIfInBounds_toArray, List.set_cons_zero, List.set_cons_succ, i64_w, i32_w]
          rfl
        refine pure_ (i := 5) (N := some 11) (v := ?_) (a' := ?_) #[true, true, true, true, true, true, false, false, false, false, false, false, false, false, false, false] rfl rfl (by kernel_rfl) (fun _ _ _ h => h) (Or.inl ⟨by rfl, ?_⟩) ?_ ?_
        rotate_left
        · intro w'
          go_simp
          with_reducible rfl
        rotate_left
        · simp only [Act.put, List.setIfInBounds_toArray, List.set_cons_zero, List.set_cons_succ, i64_w, i32_w]
          rfl
        refine pure_ (i := 6) (N := some 12) (v := ?_) (a' := ?_) #[true, true, true, true, true, true, true, false, false, false, false, false, false, false, false, false] rfl rfl (by kernel_rfl) (fun _ _ _ h => h) (Or.inl ⟨by rfl, ?_⟩) ?_ ?_
        rotate_left
        · intro w'
          go_simp
          with_reducible rfl
        rotate_left
        · simp only [Act.put, List.setIfInBounds_toArray, List.set_cons_zero, List.set_cons_succ, i64_w, i32_w]
          rfl
        refine pure_ (i := 7) (N := some 13) (v := ?_) (a' := ?_) #[true, true, true, true, true, true, true, true, false, false, false, false, false, false, false, false] rfl rfl (by kernel_rfl) (fun _ _ _ h => h) (Or.inl ⟨by rfl, ?_⟩) ?_ ?_
        rotate_left
        · intro w'
          go_simp
          with_reducible rfl
        rotate_left
        · simp only [Act.put, List.setIfInBounds_toArray, List.set_cons_zero, List.set_cons_succ, i64_w, i32_w]
          rfl
        refine pure_ (i := 8) (N := some 14) (v := undef) (a' := ?_) #[true, true, true, true, true, true, true, true, true, false, false, false, false, false, false, false] rfl rfl (by kernel_rfl) (fun _ _ _ h => h) (Or.inr ⟨by rfl, rfl⟩) ?_ ?_
        rotate_left
        · simp only [Act.put, List.setIfInBounds_toArray, List.set_cons_zero, List.set_cons_succ, i64_w, i32_w]
          rfl
        refine pure_ (i := 9) (N := some 15) (v := undef) (a' := ?_) #[true, true, true, true, true, true, true, true, true, true, false, false, false, false, false, false] rfl rfl (by kernel_rfl) (fun _ _ _ h => h) (Or.inr ⟨by rfl, rfl⟩) ?_ ?_
        rotate_left
        · simp only [Act.put, List.setIfInBounds_toArray, List.set_cons_zero, List.set_cons_succ, i64_w, i32_w]
          rfl
        refine pure_ (i := 10) (N := some 16) (v := undef) (a' := ?_) #[true, true, true, true, true, true, true, true, true, true, true, false, false, false, false, false] rfl rfl (by kernel_rfl) (fun _ _ _ h => h) (Or.inr ⟨by rfl, rfl⟩) ?_ ?_
        rotate_left
        · simp only [Act.put, List.setIfInBounds_toArray, List.set_cons_zero, List.set_cons_succ, i64_w, i32_w]
          rfl
        refine pure_ (i := 11) (N := some 17) (v := undef) (a' := ?_) #[true, true, true, true, true, true, true, true, true, true, true, true, false, false, false, false] rfl rfl (by kernel_rfl) (fun _ _ _ h => h) (Or.inr ⟨by rfl, rfl⟩) ?_ ?_
        rotate_left
        · simp only [Act.put, List.setIfInBounds_toArray, List.set_cons_zero, List.set_cons_succ, i64_w, i32_w]
          rfl
        refine pure_ (i := 12) (N := some 18) (v := undef) (a' := ?_) #[true, true, true, true, true, true, true, true, true, true, true, true, true, false, false, false] rfl rfl (by kernel_rfl) (fun _ _ _ h => h) (Or.inr ⟨by rfl, rfl⟩) ?_ ?_
        rotate_left
        · simp only [Act.put, List.setIfInBounds_toArray, List.set_cons_zero, List.set_cons_succ, i64_w, i32_w]
          rfl
        refine pure_ (i := 13) (N := some 19) (v := undef) (a' := ?_) #[true, true, true, true, true, true, true, true, true, true, true, true, true, true, false, false] rfl rfl (by kernel_rfl) (fun _ _ _ h => h) (Or.inr ⟨by rfl, rfl⟩) ?_ ?_
        rotate_left
        · simp only [Act.put, List.setIfInBounds_toArray, List.set_cons_zero, List.set_cons_succ, i64_w, i32_w]
          rfl
        refine pure_ (i := 14) (N := some 20) (v := undef) (a' := ?_) #[true, true, true, true, true, true, true, true, true, true, true, true, true, true, true, false] rfl rfl (by kernel_rfl) (fun _ _ _ h => h) (Or.inr ⟨by rfl, rfl⟩) ?_ ?_
        rotate_left
        · simp only [Act.put, List.setIfInBounds_toArray, List.set_cons_zero, List.set_cons_succ, i64_w, i32_w]
          rfl
        refine pure_ (i := 15) (N := some 21) (v := ?_) (a' := ?_) #[true, true, true, true, true, true, true, true, true, true, true, true, true, true, true, true] rfl rfl (by kernel_rfl) (fun _ _ _ h => h) (Or.inl ⟨by rfl, ?_⟩) ?_ ?_
        rotate_left
        · intro w'
          go_simp
          with_reducible rfl
        rotate_left
        · simp only [Act.put, List.setIfInBounds_toArray, List.set_cons_zero, List.set_cons_succ, i64_w, i32_w]
          rfl
        refine done_ (by kernel_rfl) ?_
        go_wp2
        go_ret
        exact ⟨by rw [← hR.out]; rfl, by repeat (first | exact HB'.out | apply below_drew1)⟩
end Go.Proofs.Ytjjpiedcdcdejaa.Df

/- A map of []int whose keys are four bytes: entries found, and laid. -/
set_option linter.unusedVariables false
set_option linter.unusedSimpArgs false
namespace Go.Proofs.Ytjjpiedcdcdejaa.Df
open Go.RowKit Go.Proofs.YtjjpiedcdcdejaaW.PrintWords Go.Proofs.YtjjpiedcdcdejaaW.PrintLast Go.Proofs.YtjjpiedcdcdejaaW.PrintMore Go.Proofs.Ytjjpiedcdcdejaa.Pb Go.Proofs.Ytjjpiedcdcdejaa.Gw Go.WideMaps Go.WideElems
open Go.ChangeShapes Go.WideShapes Go.MapKept
open Go.ChangeMaps (modify_eq_set setBlock keptBut_setBlock heap_setBlock_same)
/-- Four bytes as an array. -/
def kv (q : ByteArray) : Value := .agg #[.int .u8 (q.data.toList.getD 0 0).toNat, .int .u8 (q.data.toList.getD 1 0).toNat, .int .u8 (q.data.toList.getD 2 0).toNat, .int .u8 (q.data.toList.getD 3 0).toNat]
theorem und4 : Try.prog.underlying 59 = some (.array 4 5) := by kernel_rfl
theorem und8 : Try.prog.underlying 5 = some (.int .u8) := by kernel_rfl
theorem undM : Try.prog.underlying 56 = some (.map 59 22) := by kernel_rfl
theorem cells4 : Try.prog.cellsOf 59 = 4 := by kernel_rfl
theorem cells8 : Try.prog.cellsOf 5 = 1 := by kernel_rfl
theorem row4 : (59 : TypeId) < Try.prog.types.size := of_decide_eq_true (by kernel_rfl)
theorem laidOut : laidOutB Try.prog = true := by kernel_rfl
theorem law4 : KeyLaw Try.prog 59 := deep_law_laid laidOut (m := 2) (by omega) row4 (by kernel_rfl) (by rw [und4])
theorem zeroM (w : World) : (zeroValue 22).run Try.prog w = .ok (.slice none 0 0) w := by kernel_rfl
theorem kType : Try.prog.keyType 59 = true := by kernel_rfl
theorem u8_wf (b : UInt8) : (Lit.int .u8 (b.toNat : Int)).wf = true := by
  have := b.toNat_lt
  simp [Lit.wf, IntKind.min, IntKind.max, IntKind.signed, IntKind.bits]; omega
theorem keyLits_arr (d : Nat) (cs : List Value) : Try.prog.keyLits (d + 1) 59 cs = if cs.length = 4 then ((List.range 4).mapM fun i => Try.prog.keyLits d 5 ((cs.drop (i * 1)).take 1)).map List.flatten else none := by
  rw [Program.keyLits.eq_def]
  simp only [und4, cells4, cells8]
theorem kv_key (q : ByteArray) : ∃ l, keyOf Try.prog 59 (kv q) = some l := by
  have hf : (kv q).formed Try.prog 59 = true := by simp [kv, Value.formed, und4, cells4]
  have hk : ∀ (d : Nat) (b : UInt8), Try.prog.keyLits (d + 1) 5 [.int .u8 (b.toNat : Int)] = some [.int .u8 (b.toNat : Int)] := fun d b => by
    rw [Program.keyLits.eq_def]
    simp only [und8]
    rw [if_pos ⟨trivial, u8_wf b⟩]
  obtain ⟨n, hn⟩ : ∃ n, Try.prog.types.size = n + 1 := ⟨Try.prog.types.size - 1, by have := Nat.lt_of_le_of_lt (Nat.zero_le _) row4; omega⟩
  unfold keyOf
  rw [und4]
  simp only [kType, hf, Bool.and_self, if_true]
  rw [hn, keyLits_arr]
  have : (kv q).cells.toList = [.int .u8 (q.data.toList.getD 0 0).toNat, .int .u8 (q.data.toList.getD 1 0).toNat, .int .u8 (q.data.toList.getD 2 0).toNat, .int .u8 (q.data.toList.getD 3 0).toNat] := rfl
  rw [this]
  simp [List.range, List.range.loop, hk]
theorem kv_inj {q q' : ByteArray} (h : q.size = 4) (h' : q'.size = 4) (e : kv q = kv q') : q = q' := by
  apply ByteArray.ext
  apply Array.ext'
  obtain ⟨⟨l⟩⟩ := q
  obtain ⟨⟨l'⟩⟩ := q'
  have h1 : l.length = 4 := h
  have h1' : l'.length = 4 := h'
  match l, l', h1, h1' with
  | [a, b, c, d], [a', b', c', d'], _, _ =>
    simp [kv] at e
    obtain ⟨e1, e2, e3, e4⟩ := e
    simp [UInt8.toNat_inj.1 (Int.ofNat_inj.1 e1), UInt8.toNat_inj.1 (Int.ofNat_inj.1 e2), UInt8.toNat_inj.1 (Int.ofNat_inj.1 e3), UInt8.toNat_inj.1 (Int.ofNat_inj.1 e4)]
/-- What a lookup of an entry finds. -/
theorem entry_run {w : World} {b : Nat} {es : Array MapEntry} {clock : Nat} (hb : w.heap[b]? = some (.map es clock)) (hk : ∀ e ∈ es.toList, ∃ l, keyOf Try.prog 59 e.key = some l)
    (s1 : ∀ x ∈ es.toList, x.born < clock) (s2 : (es.toList.map (·.born)).Nodup) (q : ByteArray) :
    (∃ (j : Nat) (e0 : MapEntry), es.toList[j]? = some e0 ∧ e0.key = kv q ∧ (Instr.mapEntry 56 (.map (some b)) (kv q)).run Try.prog w = .ok (.tuple #[e0.val, .int .i64 (e0.born : Int)]) (setBlock w b (.map es clock)) ∧
      ∀ (w2 : World) (val : Value), w2.heap[b]? = some (.map es clock) → (Instr.entryStore 56 (.map (some b)) (.int .i64 (e0.born : Int)) val).run Try.prog w2 = .ok () (setBlock w2 b (.map (es.modify j (fun e => { e with val := val })) clock))) ∨
    ((∀ x ∈ es.toList, x.key ≠ kv q) ∧ (Instr.mapEntry 56 (.map (some b)) (kv q)).run Try.prog w = .ok (.tuple #[.slice none 0 0, .int .i64 (clock : Int)]) (setBlock w b (.map (es.push ⟨kv q, .slice none 0 0, clock⟩) (clock + 1))) ∧
      ∀ (w2 : World) (val : Value), w2.heap[b]? = some (.map (es.push ⟨kv q, .slice none 0 0, clock⟩) (clock + 1)) → (Instr.entryStore 56 (.map (some b)) (.int .i64 (clock : Int)) val).run Try.prog w2 = .ok () (setBlock w2 b (.map (es.push ⟨kv q, val, clock⟩) (clock + 1)))) := by
  obtain ⟨kl, hkey⟩ := kv_key q
  rcases law4.find w hkey es.toList hk with ⟨h1, h2⟩ | ⟨j, e0, h1, h2, h3⟩
  · refine Or.inr ⟨h2, ?_, fun w2 val hw2 => ?_⟩
    · simp [Instr.mapEntry, run_underlying undM, MapKept.run_getObj_map hb, law4.check w false hkey, h1, zeroM, MapKept.run_setObj_map _ hb, Result.andThen, setBlock, goInt]
    · have hidx : (es.push ⟨kv q, .slice none 0 0, clock⟩).findIdx? (fun e => ((e.born : Nat) : Int) == ((clock : Nat) : Int)) = some es.size := by
        rw [findIdx_arr]
        have := findIdx_born (l := (es.push ⟨kv q, .slice none 0 0, clock⟩).toList) (j := es.size) (e0 := ⟨kv q, .slice none 0 0, clock⟩) (by
          simp only [Array.toList_push, List.map_append, List.map_cons, List.map_nil]
          refine List.nodup_append.2 ⟨s2, by simp, fun a ha c hc e1 => ?_⟩
          simp only [List.mem_singleton] at hc
          obtain ⟨x, hx, rfl⟩ := List.mem_map.1 ha
          have := s1 x hx
          omega) (by simp)
        exact this
      have hmod : (es.push ⟨kv q, .slice none 0 0, clock⟩).modify es.size (fun e => { e with val := val }) = es.push ⟨kv q, val, clock⟩ := by
        apply Array.ext'
        rw [Array.toList_modify, Array.toList_push, Array.toList_push, ← Array.length_toList, modify_last]
      simp [Instr.entryStore, MapKept.run_getObj_map hw2, asInt, asIntOf, hidx, hmod, MapKept.run_setObj_map _ hw2, Result.andThen, setBlock]
  · have hj : es[j]? = some e0 := by simpa using h2
    have hsame : es.modify j (fun e => { e with key := kv q }) = es := by
      apply Array.ext'
      rw [Array.toList_modify, modify_eq_set _ _ _ _ h2]
      have : ({ e0 with key := kv q } : MapEntry) = e0 := by rw [← h3]
      rw [this]
      exact set_self _ _ _ h2
    refine Or.inl ⟨j, e0, h2, h3, ?_, fun w2 val hw2 => ?_⟩
    · simp [Instr.mapEntry, run_underlying undM, MapKept.run_getObj_map hb, law4.check w false hkey, h1, hj, h3, law4.stays w hkey, hsame, MapKept.run_setObj_map _ hb, Result.andThen, setBlock, goInt]
    · have hidx : es.findIdx? (fun e => ((e.born : Nat) : Int) == ((e0.born : Nat) : Int)) = some j := by
        rw [findIdx_arr]
        exact findIdx_born s2 h2
      simp [Instr.entryStore, MapKept.run_getObj_map hw2, asInt, asIntOf, hidx, MapKept.run_setObj_map _ hw2, Result.andThen, setBlock]
end Go.Proofs.Ytjjpiedcdcdejaa.Df

/- What the map of places is, and how it grows. -/
set_option linter.unusedVariables false
set_option linter.unusedSimpArgs false
namespace Go.Proofs.Ytjjpiedcdcdejaa.Df
open Go.RowKit Go.Proofs.YtjjpiedcdcdejaaW.PrintWords Go.Proofs.YtjjpiedcdcdejaaW.PrintLast Go.Proofs.YtjjpiedcdcdejaaW.PrintMore Go.Proofs.Ytjjpiedcdcdejaa.Pb Go.Proofs.Ytjjpiedcdcdejaa.Gw Go.WideMaps Go.WideElems
open Go.ChangeShapes Go.WideShapes Go.MapKept
open Go.ChangeMaps (modify_eq_set setBlock keptBut_setBlock heap_setBlock_same heap_setBlock_other)
/-- Where four bytes begin among the first n places. -/
def occ (s q : ByteArray) (n : Nat) : List Int := ((List.range n).filter (fun j => decide (s.extract j (j + 4) = q))).map (fun j : Nat => (j : Int))
theorem occ_zero (s q : ByteArray) : occ s q 0 = [] := rfl
theorem occ_succ (s q : ByteArray) (n : Nat) : occ s q (n + 1) = occ s q n ++ (if s.extract n (n + 4) = q then [(n : Int)] else []) := by
  unfold occ
  rw [List.range_succ, List.filter_append, List.map_append]
  by_cases h : s.extract n (n + 4) = q
  · simp [h]
  · simp [h]
theorem occ_len (s q : ByteArray) (n : Nat) : (occ s q n).length ≤ n := by
  unfold occ
  rw [List.length_map]
  exact Nat.le_trans (List.length_filter_le _ _) (by simp)
/-- A row of numbers that only its own slice holds. -/
def RowI (W : World) (base : Nat) (v : Value) (xs : List Int) : Prop := (Kd.int .i64).R 3 W base (fun k => some k = v.ownBlock) v xs
theorem RowI.step {W W' : World} {base : Nat} {v : Value} {xs : List Int} (h : RowI W base v xs) (hm : ∀ k, some k = v.ownBlock → k < W.heap.size → W'.heap[k]? = W.heap[k]?) : RowI W' base v xs := Kd.R_step h hm
theorem RowI.of {W : World} {base : Nat} {v : Value} {xs : List Int} {ok : Nat → Prop} (h : (Kd.int .i64).R 3 W base ok v xs) : RowI W base v xs := Kd.R_tight rfl h
theorem RowI.typed {W : World} {base : Nat} {v : Value} {xs : List Int} (h : RowI W base v xs) : ∀ k, v.ownBlock = some k → ∃ cells, W.heap[k]? = some (.cells cells 3 (0, 0)) := Kd.R_typed h
theorem RowI.lt {W : World} {base : Nat} {v : Value} {xs : List Int} (h : RowI W base v xs) : ∀ k, v.ownBlock = some k → k < W.heap.size := Kd.R_lt h
theorem RowI.nil (W : World) (base : Nat) : RowI W base (.slice none 0 0) [] := Kd.R_nil _ _ _ _ _
def Far (x y : MapEntry) : Prop := x.key ≠ y.key ∧ ∀ k, x.val.ownBlock = some k → y.val.ownBlock ≠ some k
theorem Far.symm {x y : MapEntry} (h : Far x y) : Far y x := ⟨fun e => h.1 e.symm, fun k hk he => h.2 k he hk⟩
structure MapIs (s : ByteArray) (n : Nat) (base : Nat) (b : Nat) (es : Array MapEntry) (clock : Nat) (W : World) : Prop where
  at_ : W.heap[b]? = some (.map es clock)
  lo : base ≤ b
  born : ∀ x ∈ es.toList, x.born < clock
  nodup : (es.toList.map (·.born)).Nodup
  apart : es.toList.Pairwise Far
  rows : ∀ x ∈ es.toList, ∃ q, q.size = 4 ∧ x.key = kv q ∧ RowI W base x.val (occ s q n)
  all : ∀ q, q.size = 4 → occ s q n ≠ [] → ∃ x ∈ es.toList, x.key = kv q
theorem MapIs.lt {s : ByteArray} {n base b : Nat} {es : Array MapEntry} {clock : Nat} {W : World} (h : MapIs s n base b es clock W) : b < W.heap.size := (Array.getElem?_eq_some_iff.1 h.at_).1
theorem MapIs.ne {s : ByteArray} {n base b : Nat} {es : Array MapEntry} {clock : Nat} {W : World} (h : MapIs s n base b es clock W) {v : Value} {xs : List Int} (hv : RowI W base v xs) : v.ownBlock ≠ some b := fun e => by
  obtain ⟨c, hc⟩ := hv.typed b e
  rw [h.at_] at hc
  cases hc
/-- Nothing that the map holds is touched. -/
theorem MapIs.step {s : ByteArray} {n base b : Nat} {es : Array MapEntry} {clock : Nat} {W W' : World} (h : MapIs s n base b es clock W) (hm : ∀ k, base ≤ k → k < W.heap.size → W'.heap[k]? = W.heap[k]?) : MapIs s n base b es clock W' :=
  ⟨(hm b h.lo h.lt).trans h.at_, h.lo, h.born, h.nodup, h.apart, fun x hx => by
    obtain ⟨q, h1, h2, h3⟩ := h.rows x hx
    exact ⟨q, h1, h2, h3.step (fun k hk hlt => hm k (Kd.R_base h3 k hk.symm) hlt)⟩, h.all⟩
theorem MapIs.keys {s : ByteArray} {n base b : Nat} {es : Array MapEntry} {clock : Nat} {W : World} (h : MapIs s n base b es clock W) : ∀ e ∈ es.toList, ∃ l, keyOf Try.prog 59 e.key = some l := fun e he => by
  obtain ⟨q, _, h2, _⟩ := h.rows e he
  rw [h2]
  exact kv_key q
theorem MapIs.new (s : ByteArray) (base : Nat) (W : World) (h : base ≤ W.heap.size) : MapIs s 0 base W.heap.size #[] 0 (W.alloc (.map #[] 0)) :=
  ⟨(MapKept.heap_alloc W _).1, h, by simp, by simp, by simp, by simp, fun q _ hq => absurd (occ_zero s q) hq⟩
theorem alloc_setBlock (W : World) (o m : Obj) (b : Nat) (hb : b < W.heap.size) : setBlock (W.alloc o) b m = (setBlock W b m).alloc o := by
  have : (W.heap.push o).setIfInBounds b m = (W.heap.setIfInBounds b m).push o := by
    apply Array.ext_getElem?
    intro i
    simp only [Array.getElem?_setIfInBounds, Array.getElem?_push, Array.size_setIfInBounds, Array.size_push]
    by_cases e : b = i
    · subst e
      simp [Nat.ne_of_lt hb, hb]
      omega
    · simp [e]
  unfold setBlock World.alloc
  rw [this]
theorem pairwise_set {α : Type} {R : α → α → Prop} {l : List α} {j : Nat} {a : α} (h : l.Pairwise R) (h1 : ∀ i x, i ≠ j → l[i]? = some x → R x a ∧ R a x) : (l.set j a).Pairwise R := by
  rw [List.pairwise_iff_getElem] at h ⊢
  intro i k hi hk hik
  rw [List.length_set] at hi hk
  rw [List.getElem_set, List.getElem_set]
  split
  · split
    · omega
    · exact (h1 k _ (by omega) (List.getElem?_eq_getElem hk)).2
  · split
    · exact (h1 i _ (by omega) (List.getElem?_eq_getElem hi)).1
    · exact h i k hi hk hik
theorem far_at {l : List MapEntry} (h : l.Pairwise Far) {i j : Nat} {x y : MapEntry} (hij : i ≠ j) (hx : l[i]? = some x) (hy : l[j]? = some y) : Far x y := by
  obtain ⟨hi, rfl⟩ := List.getElem?_eq_some_iff.1 hx
  obtain ⟨hj, rfl⟩ := List.getElem?_eq_some_iff.1 hy
  rw [List.pairwise_iff_getElem] at h
  rcases Nat.lt_or_gt_of_ne hij with c | c
  · exact h i j hi hj c
  · exact (h j i hj hi c).symm
/-- One entry more. -/
theorem places_step {s : ByteArray} {n base b : Nat} {es : Array MapEntry} {clock : Nat} {W : World} (h : MapIs s n base b es clock W) (o : Obj) (hq : (s.extract n (n + 4)).size = 4) :
    ∃ (v0 : Value) (st : Int) (W1 : World), (Instr.mapEntry 56 (.map (some b)) (kv (s.extract n (n + 4)))).run Try.prog (W.alloc o) = .ok (.tuple #[v0, .int .i64 st]) (W1.alloc o) ∧
      RowI W1 base v0 (occ s (s.extract n (n + 4)) n) ∧ Below base W W1 ∧ W1.heap.size = W.heap.size ∧
      ∀ (w1 : World) (v1 : Value), RowI w1 base v1 (occ s (s.extract n (n + 4)) n ++ [(n : Int)]) → W1.grownBy w1 v0.ownBlock → (v1.ownBlock = v0.ownBlock ∨ ∃ g, v1.ownBlock = some g ∧ W1.heap.size ≤ g) →
        ∃ (es' : Array MapEntry) (clock' : Nat) (w2 : World), (Instr.entryStore 56 (.map (some b)) (.int .i64 st) v1).run Try.prog w1 = .ok () w2 ∧ MapIs s (n + 1) base b es' clock' w2 ∧ Below base w1 w2 := by
  obtain ⟨q, hqd⟩ : ∃ q, q = s.extract n (n + 4) := ⟨_, rfl⟩
  rw [← hqd] at hq ⊢
  have hlt := h.lt
  have hbo : (W.alloc o).heap[b]? = some (.map es clock) := ((MapKept.heap_alloc W o).2 b hlt).trans h.at_
  have hother : ∀ q', q' ≠ q → occ s q' (n + 1) = occ s q' n := fun q' hne => by rw [occ_succ, if_neg (fun e => hne (by rw [hqd, e])), List.append_nil]
  have hself : occ s q (n + 1) = occ s q n ++ [(n : Int)] := by rw [occ_succ, if_pos hqd.symm]
  have hB : ∀ (w : World) (m m' : Obj), Below base w (setBlock w b m) := fun w m m' => ⟨rfl, rfl, rfl, by simp [setBlock], fun k hk => by
    have := h.lo
    simp [setBlock, Array.getElem?_setIfInBounds]; omega⟩
  rcases entry_run hbo h.keys h.born h.nodup q with ⟨j, e0, h1, h2, h3, h4⟩ | ⟨h2, h3, h4⟩
  · rw [alloc_setBlock W o _ b hlt] at h3
    have ho : ∀ k, k ≠ b → (setBlock W b (.map es clock)).heap[k]? = W.heap[k]? := fun k hk => heap_setBlock_other h.at_ _ hk
    obtain ⟨qe, q1, q2, q3⟩ := h.rows e0 (List.mem_of_getElem? h1)
    have : qe = q := kv_inj q1 hq (q2.symm.trans h2)
    subst this
    have hs1 : (setBlock W b (.map es clock)).heap[b]? = some (.map es clock) := heap_setBlock_same h.at_ _
    have hR1 : RowI (setBlock W b (.map es clock)) base e0.val (occ s qe n) := q3.step (fun k hk _ => ho k (fun e => h.ne q3 (by rw [← hk, e])))
    have hsz : (setBlock W b (.map es clock)).heap.size = W.heap.size := by simp [setBlock]
    refine ⟨e0.val, e0.born, setBlock W b (.map es clock), h3, hR1, hB _ _ (.map es clock), hsz, fun w1 v1 hv1 hg hat => ?_⟩
    have hb1 : w1.heap[b]? = some (.map es clock) := (hg.block b (by rw [hsz]; exact hlt) (fun e => h.ne q3 e.symm)).trans hs1
    have hl : (es.modify j (fun e => { e with val := v1 })).toList = es.toList.set j { e0 with val := v1 } := by rw [Array.toList_modify, modify_eq_set _ _ _ _ h1]
    have hj : j < es.toList.length := (List.getElem?_eq_some_iff.1 h1).1
    have ho2 : ∀ k, k ≠ b → (setBlock w1 b (.map (es.modify j (fun e => { e with val := v1 })) clock)).heap[k]? = w1.heap[k]? := fun k hk => heap_setBlock_other hb1 _ hk
    have hmem : ∀ x, x ∈ es.toList.set j { e0 with val := v1 } → x = { e0 with val := v1 } ∨ ∃ i, i ≠ j ∧ es.toList[i]? = some x := by
      intro x hx
      obtain ⟨i, hi⟩ := List.mem_iff_getElem?.1 hx
      rw [List.getElem?_set] at hi
      split at hi
      · exact Or.inl (Option.some.inj hi).symm
      · exact Or.inr ⟨i, fun e => by omega, hi⟩
    refine ⟨_, clock, _, h4 w1 v1 hb1, ⟨heap_setBlock_same hb1 _, h.lo, ?_, ?_, ?_, ?_, ?_⟩, hB _ _ (.map es clock)⟩
    · rw [hl]
      intro x hx
      rcases hmem x hx with rfl | ⟨i, _, hi⟩
      · exact h.born e0 (List.mem_of_getElem? h1)
      · exact h.born x (List.mem_of_getElem? hi)
    · rw [hl, List.map_set]
      have : (es.toList.map (·.born)).set j e0.born = es.toList.map (·.born) := set_self _ _ _ (by rw [List.getElem?_map, h1]; rfl)
      rw [this]
      exact h.nodup
    · rw [hl]
      refine pairwise_set h.apart (fun i x hij hx => ?_)
      have hf := far_at h.apart hij hx h1
      obtain ⟨q', a1, a2, a3⟩ := h.rows x (List.mem_of_getElem? hx)
      have : Far x { e0 with val := v1 } := ⟨hf.1, fun k hk he => by
        rcases hat with hat | ⟨g, hg1, hg2⟩
        · exact hf.2 k hk (by rw [← hat]; exact he)
        · rw [hg1] at he
          have := a3.lt k hk
          rw [hsz] at hg2
          injection he with he
          omega⟩
      exact ⟨this, this.symm⟩
    · rw [hl]
      intro x hx
      rcases hmem x hx with rfl | ⟨i, hij, hi⟩
      · refine ⟨qe, q1, q2, ?_⟩
        rw [hself]
        exact hv1.step (fun k hk _ => ho2 k (fun e => by
          obtain ⟨c, hc⟩ := hv1.typed k hk.symm
          rw [e, hb1] at hc
          cases hc))
      · obtain ⟨q', a1, a2, a3⟩ := h.rows x (List.mem_of_getElem? hi)
        have hf := far_at h.apart hij hi h1
        have hne : q' ≠ qe := fun e => hf.1 (by rw [a2, e, ← q2])
        refine ⟨q', a1, a2, ?_⟩
        rw [hother q' hne]
        refine a3.step (fun k hk hlt' => ?_)
        have hkb : k ≠ b := fun e => h.ne a3 (by rw [← hk, e])
        exact (ho2 k hkb).trans ((hg.block k (by rw [hsz]; exact hlt') (fun e => hf.2 k hk.symm e.symm)).trans (ho k hkb))
    · rw [hl]
      intro q' hq' hocc
      by_cases e : q' = qe
      · subst e
        exact ⟨{ e0 with val := v1 }, List.mem_iff_getElem?.2 ⟨j, by rw [List.getElem?_set, if_pos rfl]; first | rfl | (rw [if_pos hj]) | (simp [hj])⟩, q2⟩
      · rw [hother q' e] at hocc
        obtain ⟨x, hx, hk⟩ := h.all q' hq' hocc
        obtain ⟨i, hi⟩ := List.mem_iff_getElem?.1 hx
        have hij : j ≠ i := fun e1 => by
          subst e1
          rw [h1] at hi
          cases hi
          exact e (kv_inj hq' hq (hk.symm.trans q2))
        exact ⟨x, List.mem_iff_getElem?.2 ⟨i, by rw [List.getElem?_set]; simp [hij, hi]⟩, hk⟩
  · rw [alloc_setBlock W o _ b hlt] at h3
    obtain ⟨m1, hm1⟩ : ∃ m1, m1 = Obj.map (es.push ⟨kv q, .slice none 0 0, clock⟩) (clock + 1) := ⟨_, rfl⟩
    rw [← hm1] at h3
    have ho : ∀ k, k ≠ b → (setBlock W b m1).heap[k]? = W.heap[k]? := fun k hk => heap_setBlock_other h.at_ _ hk
    have hnil : occ s q n = [] := by
      by_cases e : occ s q n = []
      · exact e
      · obtain ⟨x, hx, hk⟩ := h.all q hq e
        exact absurd hk (h2 x hx)
    have hs1 : (setBlock W b m1).heap[b]? = some m1 := heap_setBlock_same h.at_ _
    have hsz : (setBlock W b m1).heap.size = W.heap.size := by simp [setBlock]
    refine ⟨.slice none 0 0, clock, setBlock W b m1, h3, by rw [hnil]; exact RowI.nil _ _, hB _ _ m1, hsz, fun w1 v1 hv1 hg hat => ?_⟩
    have hb1 : w1.heap[b]? = some m1 := (hg.block b (by rw [hsz]; exact hlt) (by simp [Value.ownBlock])).trans hs1
    rw [hm1] at hb1
    have ho2 : ∀ k, k ≠ b → (setBlock w1 b (.map (es.push ⟨kv q, v1, clock⟩) (clock + 1))).heap[k]? = w1.heap[k]? := fun k hk => heap_setBlock_other hb1 _ hk
    have hnew : ∀ k, v1.ownBlock = some k → W.heap.size ≤ k := fun k hk => by
      rcases hat with hat | ⟨g, hg1, hg2⟩
      · rw [hat] at hk
        simp [Value.ownBlock] at hk
      · rw [hg1] at hk
        injection hk with hk
        omega
    refine ⟨_, clock + 1, _, h4 w1 v1 hb1, ⟨heap_setBlock_same hb1 _, h.lo, ?_, ?_, ?_, ?_, ?_⟩, hB _ _ m1⟩
    · intro x hx
      rw [Array.toList_push, List.mem_append, List.mem_singleton] at hx
      rcases hx with hx | rfl
      · have := h.born x hx
        omega
      · exact Nat.lt_succ_self _
    · rw [Array.toList_push, List.map_append]
      refine List.nodup_append.2 ⟨h.nodup, by simp, fun a ha c hc e1 => ?_⟩
      simp only [List.map_cons, List.map_nil, List.mem_singleton] at hc
      obtain ⟨x, hx, rfl⟩ := List.mem_map.1 ha
      have := h.born x hx
      omega
    · rw [Array.toList_push]
      refine List.pairwise_append.2 ⟨h.apart, by simp, fun x hx y hy => ?_⟩
      rw [List.mem_singleton] at hy
      subst hy
      obtain ⟨q', a1, a2, a3⟩ := h.rows x hx
      refine ⟨h2 x hx, fun k hk he => ?_⟩
      have b1 := a3.lt k hk
      have b2 := hnew k he
      omega
    · intro x hx
      rw [Array.toList_push, List.mem_append, List.mem_singleton] at hx
      rcases hx with hx | rfl
      · obtain ⟨q', a1, a2, a3⟩ := h.rows x hx
        have hne : q' ≠ q := fun e => h2 x hx (by rw [a2, e])
        refine ⟨q', a1, a2, ?_⟩
        rw [hother q' hne]
        refine a3.step (fun k hk hlt' => ?_)
        have hkb : k ≠ b := fun e => h.ne a3 (by rw [← hk, e])
        exact (ho2 k hkb).trans ((hg.block k (by rw [hsz]; exact hlt') (by simp [Value.ownBlock])).trans (ho k hkb))
      · refine ⟨q, hq, rfl, ?_⟩
        rw [hself]
        exact hv1.step (fun k hk _ => ho2 k (fun e => by
          obtain ⟨c, hc⟩ := hv1.typed k hk.symm
          rw [e, hb1] at hc
          cases hc))
    · intro q' hq' hocc
      rw [Array.toList_push]
      by_cases e : q' = q
      · subst e
        exact ⟨_, List.mem_append_right _ (List.mem_singleton.2 rfl), rfl⟩
      · rw [hother q' e] at hocc
        obtain ⟨x, hx, hk⟩ := h.all q' hq' hocc
        exact ⟨x, List.mem_append_left _ hx, hk⟩
end Go.Proofs.Ytjjpiedcdcdejaa.Df

/- diff.places. -/
set_option linter.unusedVariables false
set_option linter.unusedSimpArgs false
namespace Go.Proofs.Ytjjpiedcdcdejaa.Df
open Go.RowKit Go.Proofs.YtjjpiedcdcdejaaW.PrintWords Go.Proofs.YtjjpiedcdcdejaaW.PrintLast Go.Proofs.YtjjpiedcdcdejaaW.PrintMore Go.Proofs.Ytjjpiedcdcdejaa.Pb Go.Proofs.Ytjjpiedcdcdejaa.Gw
theorem blk_cell {w : World} {D : Nat} {cs : Array Value} {T : TypeId} (h : w.heap[D]? = some (.cells cs T (0, 0))) (j : Nat) (hj : j < cs.size) : w.cell? ⟨D, j, none⟩ = some cs[j] ∧ w.frozen? ⟨D, j, none⟩ = false := by
  constructor
  · simp [World.cell?, h, hj]
  · simp [World.frozen?, h]
theorem below_cells {B b : Nat} {a : World} (hb : B ≤ b) : ∀ (vs : List Value) (o : Nat) (w : World), Below B a w → Below B a (w.setCells b o vs)
  | [], _, _, h => h
  | v :: vs, o, w, h => below_cells hb vs (o + 1) _ (h.setCell (p := ⟨b, o, none⟩) hb v)
theorem there_blk {w : World} {D n : Nat} {cs : Array Value} {T : TypeId} (h : w.heap[D]? = some (.cells cs T (0, 0))) (hn : cs.size = n) : w.there D 0 n := fun j hj => by
  rw [Nat.zero_add, (blk_cell h j (by omega)).1]
  exact ⟨rfl, (blk_cell h j (by omega)).2⟩
/-- Four bytes' cells. -/
def kc (q : ByteArray) : Array Value := #[.int .u8 (q.data.toList.getD 0 0).toNat, .int .u8 (q.data.toList.getD 1 0).toNat, .int .u8 (q.data.toList.getD 2 0).toNat, .int .u8 (q.data.toList.getD 3 0).toNat]
theorem size4 : (Try.prog.info? 59).map (·.size) = some 4 := by kernel_rfl
theorem kc_one (q : ByteArray) : (kc q).all (·.oneCell') = true := by
  refine Array.all_eq_true_iff_forall_mem.2 (fun v hv => ?_)
  simp only [kc, List.mem_toArray, List.mem_cons, List.not_mem_nil, or_false] at hv
  rcases hv with rfl | rfl | rfl | rfl <;> rfl
theorem kv_kc (q : ByteArray) : kv q = .agg (kc q) := rfl
/-- The conversion of four bytes, as the walk wants it. -/
theorem conv4 (W : World) (q : ByteArray) (hq : q.size = 4) : ∃ (C : Nat) (Wb : World), (convert 9 51 (.string q)).run Try.prog W = .ok (.slice (some ⟨W.heap.size, 0, none⟩) 4 C) Wb ∧ Wb.rangeAt W.heap.size 0 (kc q).toList ∧ Below W.heap.size W Wb ∧ Wb.heap.size = W.heap.size + 1 := by
  have h1 := Lib.run_convert_string_bytes W 9 51 5 q (P := Try.prog) Try.underlying9 Try.underlying51 Try.underlying5
  rw [hq] at h1
  refine ⟨_, _, h1, ?_, Joins.below_bytesWorld _ _ _ _ (Nat.le_refl _), Lib.bytesWorld_size _ _ _⟩
  · intro j v hv
    have hj : j < 4 := (List.getElem?_eq_some_iff.1 hv).1
    rw [Nat.zero_add, Lib.bytesWorld_cell W _ q j (by omega)]
    match j, hj with
    | 0, _ => exact hv
    | 1, _ => exact hv
    | 2, _ => exact hv
    | 3, _ => exact hv
theorem run_arrayAt (a : Option Addr) (c : Nat) (w : World) : (Instr.arrayAt 59 (.slice a 4 c)).run Try.prog w = .ok (.pointer a) w := by
  simp [Instr.arrayAt, run_underlying und4, Result.andThen]
theorem run_makeMap (w : World) : (Instr.makeMap 56 none).run Try.prog w = .ok (.map (some w.heap.size)) (w.alloc (.map #[] 0)) := by
  simp [Instr.makeMap, Result.andThen]
set_option maxHeartbeats 4000000 in
set_option maxRecDepth 100000 in
theorem places_calls (s : ByteArray) (hs : s.size ≤ 1048576) (w : World) :
    Calls Try.prog 26 #[.string s] w fun e w' => ∃ (b : Nat) (es : Array MapEntry) (clock : Nat), e = .returned (.map (some b)) ∧ MapIs s (s.size - 3) w.heap.size b es clock w' ∧ Below w.heap.size w w' := by
  have HM := Lib.hid (MapIs.new s w.heap.size w (Nat.le_refl _))
  have HB := Lib.hid (below_alloc (Below.refl w.heap.size w) (.map #[] 0))
  have hmk := run_makeMap w
  go_enter Try.func26, Try.ntmps26
  go_wp2
  go_loopg [4] (s.size - 3 + 1) (fun kq v4 w' => ∃ (x : Int) (i : Nat) (es : Array MapEntry) (clock : Nat), v4 = .int .i64 x ∧ x = (i : Int) ∧ i + kq = s.size - 3 + 1 ∧ i ≤ s.size - 3 ∧ MapIs s i w.heap.size w.heap.size es clock w' ∧ Below w.heap.size w w')
  case atStart => exact ⟨0, 0, #[], 0, rfl, rfl, by omega, by omega, HM.out, HB.out⟩
  case round =>
    clear HM HB
    obtain ⟨x, i, es, clock, rfl, hx, hi, hi2, HM, HB⟩ := hrel
    cases gk with
    | zero => omega
    | succ k1 =>
      have HM' := Lib.hid HM
      have HB' := Lib.hid HB
      clear HM HB
      have hw := Lib.hid (show wrap64 (x + 4) = x + 4 by unfold wrap64; omega)
      have hw1 := Lib.hid (show wrap64 (x + 1) = x + 1 by unfold wrap64; omega)
      by_cases c : i + 4 ≤ s.size
      · have c0 : decide (wrap64 (x + 4) ≤ (s.size : Int)) = true := decide_eq_true (by rw [hw.out]; omega)
        have p1 : (0 ≤ x) = True := eq_true (by omega)
        have p2 : (x ≤ wrap64 (x + 4)) = True := eq_true (by rw [hw.out]; omega)
        have p3 : (wrap64 (x + 4) ≤ (s.size : Int)) = True := eq_true (by rw [hw.out]; omega)
        obtain ⟨q, hqd⟩ : ∃ q, s.extract x.toNat (wrap64 (x + 4)).toNat = q := ⟨_, rfl⟩
        have hqe : q = s.extract i (i + 4) := by rw [← hqd, hw.out, hx]; congr 1 <;> omega
        have hq4 : q.size = 4 := by rw [hqe, ByteArray.size_extract]; omega
        have HI := Lib.hid (show x = (i : Int) ∧ i + 1 + k1 = s.size - 3 + 1 ∧ i + 1 ≤ s.size - 3 ∧ q = s.extract i (i + 4) from ⟨hx, by omega, by omega, hqe⟩)
        obtain ⟨C, Wb, hcv, hra, hbb, hsz⟩ := conv4 wr q hq4
        have hth : (Wb.alloc (.cells #[.int .u8 0, .int .u8 0, .int .u8 0, .int .u8 0] 59)).there (wr.heap.size + 1) 0 (kc q).size := there_blk (cs := #[.int .u8 0, .int .u8 0, .int .u8 0, .int .u8 0]) (T := 59) (by rw [← hsz]; exact (MapKept.heap_alloc Wb _).1) rfl
        have hrs := World.rangeAt_setCells_same _ (wr.heap.size + 1) 0 (kc q).toList hth
        have hb5 : Below wr.heap.size wr ((Wb.alloc (.cells #[.int .u8 0, .int .u8 0, .int .u8 0, .int .u8 0] 59)).setCells (wr.heap.size + 1) 0 (kc q).toList) :=
          below_cells (Nat.le_succ _) _ _ _ (hbb.alloc (by rw [hsz]; omega) _)
        obtain ⟨W5, hW5⟩ : ∃ W5, (Wb.alloc (.cells #[.int .u8 0, .int .u8 0, .int .u8 0, .int .u8 0] 59)).setCells (wr.heap.size + 1) 0 (kc q).toList = W5 := ⟨_, rfl⟩
        rw [hW5] at hrs hb5
        have hM5 := HM'.out.step (fun k _ hk => hb5.block k hk)
        obtain ⟨v0, st, W1, hE, hR0, hB1, hsz1, hstep⟩ := places_step hM5 (.cells #[.int .i64 x] 3) (by rw [← hqe]; exact hq4)
        rw [← hqe] at hE hR0 hstep
        rw [kv_kc] at hE
        have HRA := Lib.hid hra
        have HTH := Lib.hid hth
        have HIN := Lib.hid (show (Try.prog.info? 59).map (·.size) = some (kc q).size from size4)
        have HONE := Lib.hid (show (kc q).all (·.oneCell') = true from kc_one q)
        have HRS := Lib.hid hrs
        have HW5 := Lib.hid hW5
        have HBX := Lib.hid ((HB'.out.trans (hb5.mono HB'.out.size)).trans hB1)
        have HR0 := Lib.hid hR0
        have HSZ := Lib.hid hsz1
        have HST := Lib.hid hstep
        have HLEN := Lib.hid (show (occ s q i).length ≤ 1048576 from Nat.le_trans (occ_len _ _ _) (by omega))
        have harr := run_arrayAt (some ⟨wr.heap.size, 0, none⟩) C Wb
        have HL := Lib.hid (show w.heap.size ≤ W1.heap.size from HBX.out.size)
        clear hx hi hi2 hqe hra hbb hq4 c hth hrs hb5 hM5 hR0 hB1 hsz1 hstep hW5 HM' HB'
        go_wp2_with (first
          | (refine wpList_load_mid rfl 59 (.tmp 20) rfl wr.heap.size 0 rfl (kc q).toList _ HRA.out Try.underlying59 rfl (by kernel_rfl) ?_)
          | (refine wpList_store_mid rfl 59 (.tmp 5) (.tmp 21) rfl (wr.heap.size + 1) 0 (kc q) rfl rfl HTH.out HIN.out HONE.out ?_; rw [HW5.out])
          | (refine wpList_load_mid rfl 59 (.tmp 5) rfl (wr.heap.size + 1) 0 rfl (kc q).toList _ HRS.out Try.underlying59 rfl (by kernel_rfl) ?_)
          | ((with_reducible refine gate_builtin (b := .append) (xs := #[.tmp 24, .tmp 26]) rfl ?_); at_builtin; refine Kd.R_append (Kd.int .i64) (w0 := W1) w.heap.size rfl (.tmp 24) (.tmp 26) 22 3 (.int .i64 0) 8 rfl Try.underlying22 infoInt rfl (by decide) (by omega) v0 (occ s q i) x [.int .i64 x] (fun k => some k = v0.ownBlock ∨ W1.heap.size ≤ k) (fun _ => False) rfl ?aX ?aP (fun _ h => h.elim) ?aF ?aO ?aB ?aS ?aL ?_; (case aX => rw [HSZ.out]; rfl); (case aP => exact rfl); (case aF => exact (fun _ h => Or.inr h)); (case aO => exact Kd.R_mono HR0.out (fun _ h => Or.inl h)); (case aB => exact Below.refl _ _); (case aS => exact HL.out); (case aL => have := HLEN.out; omega); intro v1 w1 ho1 hb1 hg1 hat1; obtain ⟨es', clock', w2, hS, hM2, hB2⟩ := HST.out w1 v1 (RowI.of (by rw [← HI.out.1]; exact ho1)) hg1 hat1; have HM2 := Lib.hid hM2; have HBY := Lib.hid ((HBX.out.trans hb1).trans hB2); clear ho1 hb1 hg1 hat1 hM2 hB2))
        go_roundg k1
        case measure => omega
        case rel => exact ⟨_, i + 1, es', clock', rfl, by rw [hw1.out, HI.out.1]; rfl, HI.out.2.1, HI.out.2.2.1, HM2.out, HBY.out⟩
      · have c0 : decide (wrap64 (x + 4) ≤ (s.size : Int)) = false := decide_eq_false (by rw [hw.out]; omega)
        have hin : i = s.size - 3 := by omega
        subst hin
        clear hx hi hi2 c
        go_wp2
        go_ret
        exact ⟨_, es, clock, rfl, HM'.out, HB'.out⟩
end Go.Proofs.Ytjjpiedcdcdejaa.Df

/- diff.Make's closure: it takes a copy, and the string ahead of it. -/
set_option linter.unusedVariables false
set_option linter.unusedSimpArgs false
namespace Go.Proofs.Ytjjpiedcdcdejaa.Df
open Go.RowKit Go.Proofs.YtjjpiedcdcdejaaW.PrintWords Go.Proofs.YtjjpiedcdcdejaaW.PrintLast Go.Proofs.YtjjpiedcdcdejaaW.PrintMore Go.Proofs.Ytjjpiedcdcdejaa.Pb Go.Proofs.Ytjjpiedcdcdejaa.Gw
theorem ck {w : World} {b : Nat} {cs : Array Value} {T : TypeId} {fr : Nat × Nat} (hb : w.heap[b]? = some (.cells cs T fr)) (j : Nat) (v : Value) (hv : cs[j]? = some v) : w.cell? ⟨b, j, none⟩ = some v := by
  simp [World.cell?, hb, hv]
theorem one_set {w : World} {b : Nat} {v u : Value} {T : TypeId} (h : w.heap[b]? = some (.cells #[v] T (0, 0))) : (w.setCell ⟨b, 0, none⟩ u).heap[b]? = some (.cells #[u] T (0, 0)) := by
  have hlt := (Array.getElem?_eq_some_iff.1 h).1
  have he := (Array.getElem?_eq_some_iff.1 h).2
  have : (w.setCell ⟨b, 0, none⟩ u).heap[b]? = (w.heap[b]?).map (fun | .cells c e f => .cells (c.setIfInBounds 0 u) e f | o => o) := by
    simp [World.setCell, Array.getElem?_modify]
    rfl
  rw [this, h]
  rfl
theorem set_other {w : World} {b k : Nat} (u : Value) (hk : k ≠ b) : (w.setCell ⟨b, 0, none⟩ u).heap[k]? = w.heap[k]? := Below.heap_setCell w ⟨b, 0, none⟩ u k hk
/-- The closure's own variables. -/
def Nb (g k : Nat) : Prop := k = g ∨ k = g + 2 ∨ k = g + 3
/-- What the closure holds: the copies, the strings, and where the next string begins; ahead of block g all is as it was. -/
structure TS (g : Nat) (W : World) (cs : List Int) (ts : List ByteArray) (fr : Int) (vc vt : Value) : Prop where
  hc : W.heap[g]? = some (.cells #[vc] 22 (0, 0))
  ht : W.heap[g + 2]? = some (.cells #[vt] 32 (0, 0))
  hf : W.heap[g + 3]? = some (.cells #[.int .i64 fr] 3 (0, 0))
  rc : (Kd.int .i64).R 3 W g (fun k => ¬ Nb g k) vc cs
  rt : Kd.string.R 9 W g (fun k => ¬ Nb g k) vt ts
theorem TS.lt {g : Nat} {W : World} {cs : List Int} {ts : List ByteArray} {fr : Int} {vc vt : Value} (h : TS g W cs ts fr vc vt) : g + 4 ≤ W.heap.size := (Array.getElem?_eq_some_iff.1 h.hf).1
theorem Nb.lt {g k : Nat} (h : Nb g k) : k < g + 4 := by unfold Nb at h; omega
theorem nb0 (g : Nat) : Nb g g := .inl rfl
theorem nb2 (g : Nat) : Nb g (g + 2) := .inr (.inl rfl)
theorem nb3 (g : Nat) : Nb g (g + 3) := .inr (.inr rfl)
theorem nb_new {g n k : Nat} (h : g + 4 ≤ n) (hk : n ≤ k) : ¬ Nb g k := fun e => by have := e.lt; omega
theorem row_keep {α : Type} {d : Kd α} {e g : Nat} {W : World} {v : Value} {xs : List α} (h : d.R e W g (fun k => ¬ Nb g k) v xs) {c : Nat} (hc : Nb g c) (u : Value) : d.R e (W.setCell ⟨c, 0, none⟩ u) g (fun k => ¬ Nb g k) v xs :=
  Kd.R_move h (fun k hk => set_other _ (fun e => hk (e ▸ hc)))
theorem row2 (W : World) (x y : Int) : ReadsRow (fun (z : Int) (c : List Value) => c = [.int .i64 z]) 1 (W.alloc (.cells #[.int .i64 x, .int .i64 y] 3)) (some ⟨W.heap.size, 0, none⟩) 2 [x, y] := by
  have hb := (MapKept.heap_alloc W (.cells #[.int .i64 x, .int .i64 y] 3)).1
  refine ⟨rfl, by omega, fun _ => ⟨_, rfl, fun j p hp => ⟨[.int .i64 p], rfl, rfl, fun i u hi => ?_⟩⟩⟩
  match i, hi with
  | 0, hi =>
    cases hi
    match j, hp with
    | 0, hp => cases hp; exact ck hb 0 _ rfl
    | 1, hp => cases hp; exact ck hb 1 _ rfl
theorem TS.put_t {g : Nat} {wd w9 : World} {cs : List Int} {ts ts' : List ByteArray} {fr : Int} {vc vt v9 : Value} (h : TS g wd cs ts fr vc vt) (ho : ∀ k, Nb g k → w9.heap[k]? = wd.heap[k]?)
    (hc : (Kd.int .i64).R 3 w9 g (fun k => ¬ Nb g k) vc cs) (ht : Kd.string.R 9 w9 g (fun k => ¬ Nb g k) v9 ts') : TS g (w9.setCell ⟨g + 2, 0, none⟩ v9) cs ts' fr vc v9 := by
  refine ⟨?_, one_set ((ho _ (nb2 g)).trans h.ht), ?_, row_keep hc (nb2 g) _, row_keep ht (nb2 g) _⟩
  · rw [set_other _ (by omega), ho _ (nb0 g)]; exact h.hc
  · rw [set_other _ (by omega), ho _ (nb3 g)]; exact h.hf
theorem TS.put_f {g : Nat} {w : World} {cs : List Int} {ts : List ByteArray} {fr fr' : Int} {vc vt : Value} (h : TS g w cs ts fr vc vt) : TS g (w.setCell ⟨g + 3, 0, none⟩ (.int .i64 fr')) cs ts fr' vc vt := by
  refine ⟨?_, ?_, one_set h.hf, row_keep h.rc (nb3 g) _, row_keep h.rt (nb3 g) _⟩
  · rw [set_other _ (by omega)]; exact h.hc
  · rw [set_other _ (by omega)]; exact h.ht
set_option maxHeartbeats 4000000 in
set_option maxRecDepth 100000 in
theorem take_calls (g g3 : Nat) (W : World) (tg : ByteArray) (cs : List Int) (ts : List ByteArray) (fr at_ from_ n : Int) (vc vt : Value) (hT : TS g W cs ts fr vc vt) (h3 : W.heap[g3]? = some (.cells #[.string tg] 9 (0, 0))) (hg3 : g3 < g)
    (h0 : 0 ≤ fr) (h1 : fr ≤ at_) (h2 : at_ ≤ tg.size) (hn0 : 0 ≤ n) (hn : n ≤ 1048576) (htg : tg.size ≤ 1048576) (hcl : cs.length ≤ 4194304) (htl : ts.length ≤ 4194304) :
    Calls Try.prog 27 #[.int .i64 at_, .int .i64 from_, .int .i64 n, .pointer (some ⟨g, 0, none⟩), .pointer (some ⟨g + 2, 0, none⟩), .pointer (some ⟨g3, 0, none⟩), .pointer (some ⟨g + 3, 0, none⟩)] W fun e w' =>
      e = .returned (.tuple #[]) ∧ Below g W w' ∧ ∃ vc' vt', TS g w' (cs ++ [from_, n]) (ts ++ [tg.extract fr.toNat at_.toNat]) (at_ + n) vc' vt' := by
  have c6 := ck hT.hc 0 vc rfl
  have HT := Lib.hid hT
  have H3 := Lib.hid h3
  have hlt := Lib.hid hT.lt
  have HC := Lib.hid hcl
  have HTL := Lib.hid htl
  have HG3 := Lib.hid hg3
  have hnc : ∀ k, Nb g k → some k ≠ vc.ownBlock := fun k hk e => hT.rc.1 k e.symm hk
  have HNC := Lib.hid hnc
  clear hT h3 hcl htl hg3 hnc
  go_enter Try.func27, Try.ntmps27
  go_wp2_with ((with_reducible refine gate_builtin (b := .append) (xs := #[.tmp 10, .tmp 13]) rfl ?_); at_builtin; refine Kd.R_append_rows (Kd.int .i64) (w0 := W.alloc (.cells #[.int .i64 from_, .int .i64 n] 3)) g rfl (.tmp 10) (.tmp 13) 22 3 (.int .i64 0) 8 rfl Try.underlying22 infoInt rfl (by decide) (by omega) vc cs [from_, n] _ _ _ (fun k => ¬ Nb g k) (fun _ => False) rfl rfl ?aO ?aR (fun _ _ h => h) (fun _ h => h.elim) ?aF ?aB ?aS ?aL ?_; (case aR => exact row2 W from_ n); (case aO => exact Kd.R_alloc HT.out.rc _); (case aF => exact fun k hk => nb_new (Nat.le_trans hlt.out (below_alloc (Below.refl W.heap.size W) _).size) hk); (case aB => exact Below.refl _ _); (case aS => exact Nat.le_trans (by have := hlt.out; omega) (below_alloc (Below.refl W.heap.size W) _).size); (case aL => have := HC.out; omega); intro v1 w1 ho1 hb1 hg1 hat1; obtain ⟨A1, d1, e1⟩ := Kd.R_slice ho1; obtain ⟨L1, hL1⟩ : ∃ L, L = (cs ++ [from_, n]).length := ⟨_, rfl⟩; rw [← hL1] at e1; clear hL1; subst e1; have hold1 := Lib.hid (fun k (hk : Nb g k) => (hg1.block k (Nat.lt_of_lt_of_le (Nat.lt_of_lt_of_le hk.lt hlt.out) (below_alloc (Below.refl W.heap.size W) _).size) (HNC.out k hk)).trans ((MapKept.heap_alloc W _).2 k (Nat.lt_of_lt_of_le hk.lt hlt.out))); have q6a := ck ((hold1.out g (nb0 g)).trans HT.out.hc) 0 vc rfl; have q6b := (blk_cell ((hold1.out g (nb0 g)).trans HT.out.hc) 0 (Nat.zero_lt_one)).2; have HO1 := Lib.hid ho1; have HB1 := Lib.hid hb1; have HG1 := Lib.hid hg1; clear ho1 hb1 hg1 hat1)
  have hT2 : TS g (w1.setCell ⟨g, 0, none⟩ (.slice A1 L1 d1)) (cs ++ [from_, n]) ts fr (.slice A1 L1 d1) vt := by
    have hg1 := (hold1.out g (nb0 g)).trans HT.out.hc
    refine ⟨one_set hg1, ?_, ?_, ?_, ?_⟩
    · rw [set_other _ (by omega), hold1.out _ (nb2 g)]; exact HT.out.ht
    · rw [set_other _ (by omega), hold1.out _ (nb3 g)]; exact HT.out.hf
    · exact row_keep HO1.out (nb0 g) _
    · have hr := Kd.R_over' (Kd.R_alloc HT.out.rt (.cells #[.int .i64 from_, .int .i64 n] 3)) (Kd.R_typed (Kd.R_alloc HT.out.rc (.cells #[.int .i64 from_, .int .i64 n] 3))) (by decide) HG1.out
      exact row_keep hr (nb0 g) _
  have hb2 : Below g W (w1.setCell ⟨g, 0, none⟩ (.slice A1 L1 d1)) := (((Below.refl g W).alloc (by have := hlt.out; omega) _).trans (HB1.out.mono (by omega))).setCell (p := ⟨g, 0, none⟩) (Nat.le_refl _) _
  clear q6a q6b hold1 HO1 HB1 HG1 c6 HT
  generalize w1.setCell ⟨g, 0, none⟩ (.slice A1 L1 d1) = w2 at hT2 hb2 ⊢
  generalize (Value.slice A1 L1 d1) = vc' at hT2
  have p1 : (0 ≤ fr) = True := eq_true h0
  have p2 : (fr ≤ at_) = True := eq_true h1
  have p3 : (at_ ≤ (tg.size : Int)) = True := eq_true h2
  have e7 : w2.drew.cell? ⟨g + 2, 0, none⟩ = some vt := ck hT2.ht 0 vt rfl
  have e8 : w2.drew.cell? ⟨g + 3, 0, none⟩ = some (.int .i64 fr) := ck hT2.hf 0 (.int .i64 fr) rfl
  have e3 : w2.drew.cell? ⟨g3, 0, none⟩ = some (.string tg) := ck ((hb2.block g3 HG3.out).trans H3.out) 0 (.string tg) rfl
  have HT2 := Lib.hid hT2
  have HB2 := Lib.hid hb2
  have H0 := Lib.hid h0
  have H1 := Lib.hid h1
  have H2 := Lib.hid h2
  have HNT := Lib.hid (fun k (hk : Nb g k) (e : some k = vt.ownBlock) => hT2.rt.1 k e.symm hk : ∀ k, Nb g k → some k ≠ vt.ownBlock)
  have HLT := Lib.hid hT2.lt
  have HTd := Lib.hid (show TS g w2.drew (cs ++ [from_, n]) ts fr vc' vt from ⟨HT2.out.hc, HT2.out.ht, HT2.out.hf, Kd.R_drew HT2.out.rc, Kd.R_drew HT2.out.rt⟩)
  have HBd := Lib.hid (HB2.out.drew)
  have HLTd := Lib.hid (show g + 4 ≤ w2.drew.heap.size from HLT.out)
  have hl7 := World.block_lt_of_cell? _ _ e7
  have hl8 := World.block_lt_of_cell? _ _ e8
  have hl3 := World.block_lt_of_cell? _ _ e3
  clear hT2 hb2 h0 h1 h2
  go_wp2
  refine start_ (n := 8) (S := fun w' => w'.cell? ⟨g + 2, 0, none⟩ = some vt ∧ w'.cell? ⟨g3, 0, none⟩ = some (.string tg) ∧ w'.cell? ⟨g + 3, 0, none⟩ = some (.int .i64 fr)) (ds := [6, 7]) #[false, false, false, false, false, false, false, false] (by kernel_rfl) rfl rfl ⟨e7, e3, e8⟩ (fun hHeld => ?_)
  generalize w2.drew = wd at HTd HBd HLTd e7 e3 e8 hl7 hl8 hl3 hHeld ⊢
  refine pure_ (i := 3) (N := some 18) (v := ?_) (a' := ?_) #[false, false, false, true, false, false, false, false] rfl rfl (by kernel_rfl) (fun _ _ _ h => h) (Or.inl ⟨by rfl, ?_⟩) ?_ ?_
  rotate_left
  · intro w'
    go_simp
    with_reducible rfl
  rotate_left
  · simp only [Act.put, List.setIfInBounds_toArray, List.set_cons_zero, List.set_cons_succ, i64_w, i32_w]
    rfl
  refine take_ (i := 0) (N := some 15) (v := ?_) (a' := ?_) #[true, false, false, true, false, false, false, false] rfl rfl (by kernel_rfl) (fun _ _ _ h => h) (Or.inl ⟨by rfl, ?_⟩) hHeld ?_ ?_
  rotate_left
  · rintro w' ⟨s0, s1, s2⟩
    go_simp
    with_reducible rfl
  rotate_left
  · simp only [Act.put, List.setIfInBounds_toArray, List.set_cons_zero, List.set_cons_succ, i64_w, i32_w]
    rfl
  refine take_ (i := 1) (N := some 16) (v := ?_) (a' := ?_) #[true, true, false, true, false, false, false, false] rfl rfl (by kernel_rfl) (fun _ _ _ h => h) (Or.inl ⟨by rfl, ?_⟩) hHeld ?_ ?_
  rotate_left
  · rintro w' ⟨s0, s1, s2⟩
    go_simp
    with_reducible rfl
  rotate_left
  · simp only [Act.put, List.setIfInBounds_toArray, List.set_cons_zero, List.set_cons_succ, i64_w, i32_w]
    rfl
  refine take_ (i := 2) (N := some 17) (v := ?_) (a' := ?_) #[true, true, true, true, false, false, false, false] rfl rfl (by kernel_rfl) (fun _ _ _ h => h) (Or.inl ⟨by rfl, ?_⟩) hHeld ?_ ?_
  rotate_left
  · rintro w' ⟨s0, s1, s2⟩
    go_simp
    with_reducible rfl
  rotate_left
  · simp only [Act.put, List.setIfInBounds_toArray, List.set_cons_zero, List.set_cons_succ, i64_w, i32_w]
    rfl
  refine pure_ (i := 4) (N := some 19) (v := ?_) (a' := ?_) #[true, true, true, true, true, false, false, false] rfl rfl (by kernel_rfl) (fun _ _ _ h => h) (Or.inl ⟨by rfl, ?_⟩) ?_ ?_
  rotate_left
  · intro w'
    go_simp
    with_reducible rfl
  rotate_left
  · simp only [Act.put, List.setIfInBounds_toArray, List.set_cons_zero, List.set_cons_succ, i64_w, i32_w]
    rfl
  refine one_ (i := 5) (N := some 20) #[true, true, true, true, true, true, false, false] rfl rfl (by kernel_rfl) (by decide) (fun K hK => ?_)
  refine value_ (w1 := ?_) (v := ?_) (by rfl) rfl ?_ ?_
  rotate_left 2
  · go_simp
    constructor
    · rfl
    · rfl
  refine hK.out _ _ ⟨(World.cell?_alloc_lt _ _ _ hl7).trans e7, (World.cell?_alloc_lt _ _ _ hl3).trans e3, (World.cell?_alloc_lt _ _ _ hl8).trans e8⟩ (fun hHeld => ?_)
  clear hK K
  refine norm_ (a' := ?_) ?_ ?_
  rotate_left
  · show Act.put _ (some 20) _ = _
    simp only [Act.put, List.setIfInBounds_toArray, List.set_cons_zero, List.set_cons_succ, i64_w, i32_w]
    rfl
  refine last_ (i := 6) (N := some 21) #[true, true, true, true, true, true, true, false] rfl rfl (by kernel_rfl) (by decide) (fun K hK => ?_)
  refine Kd.R_append_step Kd.string (w0 := wd) g (by rfl) (.tmp 15) (.tmp 20) 32 9 (.string ⟨#[]⟩) 16 rfl Try.underlying32 infoStr rfl (by decide) (by omega) vt ts (tg.extract fr.toNat at_.toNat) [.string (tg.extract fr.toNat at_.toNat)] (fun k => ¬ Nb g k) (fun _ => False) rfl rfl ?aP (fun _ hk => hk.elim) ?aF ?aO ?aB ?aS ?aL ?_
  (case aP => exact rfl)
  (case aF => exact fun k hk => nb_new HLTd.out hk)
  (case aO => exact HTd.out.rt)
  (case aB => exact Below.refl _ _)
  (case aS => have := HLTd.out; omega)
  (case aL => have := HTL.out; omega)
  intro v9 w9 ho9 hb9 hg9 hat9
  obtain ⟨A2, d2, e2⟩ := Kd.R_slice ho9
  obtain ⟨L2, hL2⟩ : ∃ L, L = (ts ++ [tg.extract fr.toNat at_.toNat]).length := ⟨_, rfl⟩
  rw [← hL2] at e2
  clear hL2
  subst e2
  have hold2 := Lib.hid (fun k (hk : Nb g k) => hg9.block k (Nat.lt_of_lt_of_le hk.lt HLTd.out) (HNT.out k hk))
  have r7a := ck ((hold2.out (g + 2) (nb2 g)).trans HTd.out.ht) 0 vt rfl
  have r7b := (blk_cell ((hold2.out (g + 2) (nb2 g)).trans HTd.out.ht) 0 (Nat.zero_lt_one)).2
  have HT3 := Lib.hid (TS.put_t HTd.out hold2.out (Kd.R_over' HTd.out.rc (Kd.R_typed HTd.out.rt) (by decide) hg9) ho9)
  have HB3 := Lib.hid ((HBd.out.trans (hb9.mono (by omega))).setCell (p := ⟨g + 2, 0, none⟩) (by show g ≤ g + 2; omega) (.slice A2 L2 d2))
  clear ho9 hb9 hg9 hat9 hold2
  refine hK.out _ _ ?_
  clear hK K
  refine norm_ (a' := ?_) ?_ ?_
  rotate_left
  · show Act.put _ (some 21) _ = _
    simp only [Act.put, List.setIfInBounds_toArray, List.set_cons_zero, List.set_cons_succ, i64_w, i32_w]
    rfl
  refine last_ (i := 7) (N := none) #[true, true, true, true, true, true, true, true] rfl rfl (by kernel_rfl) (by decide) (fun K hK => ?_)
  refine skip_ (w1 := ?_) (by rfl) rfl ?_ ?_
  rotate_left
  · go_simp
    rfl
  refine hK.out _ _ ?_
  clear hK K
  refine done_ (by kernel_rfl) ?_
  clear r7a r7b e7 e3 e8 hl7 hl8 hl3
  generalize w9.setCell ⟨g + 2, 0, none⟩ (.slice A2 L2 d2) = w3 at HT3 HB3 ⊢
  generalize (Value.slice A2 L2 d2) = vt' at HT3
  have f8 := ck HT3.out.hf 0 (.int .i64 fr) rfl
  have f8b := (blk_cell HT3.out.hf 0 (Nat.zero_lt_one)).2
  have hw : wrap64 (at_ + n) = at_ + n := by have h2 := H2.out; have h0 := H0.out; have h1 := H1.out; unfold wrap64; omega
  go_wp2
  first | go_end0 | ((try simp only [Exit.inBlock, Exit.then]); refine bodyPost_ret (results_none rfl _ _ _) rfl ?_)
  exact ⟨rfl, HB3.out.setCell (p := ⟨g + 3, 0, none⟩) (by show g ≤ g + 3; omega) _, vc', vt', TS.put_f HT3.out⟩
end Go.Proofs.Ytjjpiedcdcdejaa.Df

/- Lookups in the map of places; what Make computes, plain. -/
set_option linter.unusedVariables false
set_option linter.unusedSimpArgs false
namespace Go.Proofs.Ytjjpiedcdcdejaa.Df
open Go.RowKit Go.Proofs.YtjjpiedcdcdejaaW.PrintWords Go.Proofs.YtjjpiedcdcdejaaW.PrintLast Go.Proofs.YtjjpiedcdcdejaaW.PrintMore Go.Proofs.Ytjjpiedcdcdejaa.Pb Go.Proofs.Ytjjpiedcdcdejaa.Gw Go.WideMaps Go.WideElems
open Go.ChangeShapes Go.WideShapes Go.MapKept
theorem lookup_run {s : ByteArray} {n base b : Nat} {es : Array MapEntry} {clock : Nat} {W : World} (h : MapIs s n base b es clock W) (q : ByteArray) (hq : q.size = 4) :
    ∃ v, (Instr.lookup 56 (.map (some b)) (kv q) false).run Try.prog W = .ok v W ∧ RowI W base v (occ s q n) := by
  obtain ⟨kl, hkey⟩ := kv_key q
  rcases law4.find W hkey es.toList h.keys with ⟨h1, h2⟩ | ⟨j, e0, h1, h2, h3⟩
  · refine ⟨.slice none 0 0, by simp [Instr.lookup, run_underlying undM, MapKept.run_getObj_map h.at_, law4.check W _ hkey, h1, zeroM, Result.andThen], ?_⟩
    have : occ s q n = [] := by
      by_cases e : occ s q n = []
      · exact e
      · obtain ⟨x, hx, hk⟩ := h.all q hq e
        exact absurd hk (h2 x hx)
    rw [this]
    exact RowI.nil _ _
  · refine ⟨e0.val, by simp [Instr.lookup, run_underlying undM, MapKept.run_getObj_map h.at_, law4.check W _ hkey, h1, Result.andThen], ?_⟩
    obtain ⟨qe, q1, q2, q3⟩ := h.rows e0 (List.mem_of_getElem? h2)
    have : qe = q := kv_inj q1 hq (q2.symm.trans h3)
    subst this
    exact q3
theorem TS.new (w : World) : TS w.heap.size ((((w.alloc (.cells #[.slice none 0 0] 22)).alloc (.cells #[] 9)).alloc (.cells #[.slice (some ⟨w.heap.size + 1, 0, none⟩) 0 0] 32)).alloc (.cells #[.int .i64 0] 3)) [] [] 0 (.slice none 0 0) (.slice (some ⟨w.heap.size + 1, 0, none⟩) 0 0) := by
  have hs : ∀ (X : World) (o : Obj), (X.alloc o).heap.size = X.heap.size + 1 := fun X o => by simp [World.alloc, -World.alloc_eq]
  have hn : ∀ (X : World) (o : Obj) (k : Nat), k = X.heap.size → (X.alloc o).heap[k]? = some o := fun X o k hk => by rw [hk]; exact (MapKept.heap_alloc X o).1
  have ho : ∀ (X : World) (o : Obj) (k : Nat), k < X.heap.size → (X.alloc o).heap[k]? = X.heap[k]? := fun X o k hk => (MapKept.heap_alloc X o).2 k hk
  refine ⟨?_, ?_, ?_, Kd.R_nil _ _ _ _ _, ?_⟩
  · rw [ho _ _ _ (by simp only [hs]; omega), ho _ _ _ (by simp only [hs]; omega), ho _ _ _ (by simp only [hs]; omega), hn _ _ _ rfl]
  · rw [ho _ _ _ (by simp only [hs]; omega), hn _ _ _ (by simp only [hs])]
  · rw [hn _ _ _ (by simp only [hs])]
  · have h1 := World.ownsRow_lit (base := w.heap.size) (e := 9) (size := 1) (w.alloc (.cells #[.slice none 0 0] 22)) #[] 0 (by rw [hs]; omega) (by decide) (by rfl)
    rw [hs] at h1
    have h2 : Kd.string.R 9 ((w.alloc (.cells #[.slice none 0 0] 22)).alloc (.cells #[] 9)) w.heap.size (fun k => ¬ Nb w.heap.size k) (.slice (some ⟨w.heap.size + 1, 0, none⟩) 0 0) [] := ⟨fun k hk => by
      have : w.heap.size + 1 = k := by simpa [Value.ownBlock] using hk
      unfold Nb; omega, [], h1, Reps.none _ _⟩
    exact Kd.R_alloc (Kd.R_alloc h2 _) _
theorem TS.below {g : Nat} {W W' : World} {cs : List Int} {ts : List ByteArray} {fr : Int} {vc vt : Value} (h : TS g W cs ts fr vc vt) (hb : Below W.heap.size W W') : TS g W' cs ts fr vc vt := by
  have hl := h.lt
  exact ⟨(hb.block _ (by omega)).trans h.hc, (hb.block _ (by omega)).trans h.ht, (hb.block _ (by omega)).trans h.hf, Kd.R_below h.rc hb, Kd.R_below h.rt hb⟩
theorem occ_mem {s q : ByteArray} {n : Nat} {y : Int} (h : y ∈ occ s q n) : 0 ≤ y ∧ y < n := by
  unfold occ at h
  obtain ⟨i, hi, rfl⟩ := List.mem_map.1 h
  have := List.mem_range.1 (List.mem_filter.1 hi).1
  omega
/-- One string is put behind a row of one's own, wherever its cell lies. -/
theorem append_str1 (W : World) (base : Nat) (v : Value) (ts : List ByteArray) (x : ByteArray) (ad : Addr) (c : Nat) (ok : Nat → Prop) (HO : Kd.string.R 9 W base ok v ts) (hfr : ∀ k, W.heap.size ≤ k → ok k) (hc : W.cell? ad = some (.string x)) (hbase : base ≤ W.heap.size) (hl : ts.length ≤ 1000000) :
    ∃ v1 w1, (Builtin.append_ #[32, 32] 32 #[v, .slice (some ad) 1 c]).run Try.prog W = .ok v1 w1 ∧ Kd.string.R 9 w1 base ok v1 (ts ++ [x]) ∧ W.grownBy w1 v.ownBlock := by
  obtain ⟨i0, hi, hz⟩ := Option.map_eq_some_iff.1 infoStr
  simp only [Prod.mk.injEq] at hz
  obtain ⟨hz0, hz1, hz2⟩ := hz
  obtain ⟨v1, w1, hrun, h2, hg, _, hat⟩ := run_append_own_at (P := Try.prog) W base 32 32 9 i0 (.string ⟨#[]⟩) 1 16 Try.underlying32 hi hz0 hz1 hz2 rfl (by decide) v ts.length _ (Kd.own_of_R HO) ad 1 c [.string x] rfl (fun j u hj => by
    match j, hj with
    | 0, hj => cases hj; exact hc) (fun u hu => by simp at hu; subst hu; rfl) (by simp only [maxLen]; omega) (by omega) hbase
  refine ⟨v1, w1, hrun, ?_, hg⟩
  have h3 : w1.ownsRow base 9 1 v1 (ts ++ [x]).length (encs Value.string (ts ++ [x])) := by rw [encs_append, List.length_append]; exact h2
  refine Kd.R_of_own h3 (fun k hk => ?_)
  rcases hat with hat | hat
  · exact HO.1 k (hat ▸ hk)
  · rw [hat] at hk
    injection hk with hk
    exact hfr k (by omega)
theorem append_step {ops : Array Oper} {o : Oper} {a : Act} {Q : Exit → Act → World → Prop} {Kc : Act → World → Prop} {W w1 : World} {v v1 u : Value} (hw : Region.wanted o (yielded ops a.tmps) = true) (s x : Operand) (t : TypeId)
    (ho : o.op = .call { callee := .builtin .append, args := #[s, x], argTypes := #[t, t] }) (hty : o.type = t) (hs : a.eval s = v) (hx : a.eval x = u) (hrun : (Builtin.append_ #[t, t] t #[v, u]).run Try.prog W = .ok v1 w1) (h : Kc (a.put o.dst v1) w1) :
    if Region.wanted o (yielded ops a.tmps) = true then Oper.wp Try.prog o a W Kc Q else Kc (a.put o.dst undef) W := by
  rw [if_pos hw]
  unfold Oper.wp execOp
  simp only [ho, hty, resolve, invoke, builtin, Sem.run_bind, Sem.run_pure, Result.andThen_ok, List.map_toArray, List.map_cons, List.map_nil, hs, hx, hrun]
  exact h
/-- How many bytes are alike from place k of the base and place a of the target on. -/
def like (s tg : ByteArray) (k : Int) (a : Nat) : Nat := cm (s.extract k.toNat s.size) (tg.extract a tg.size)
theorem like_le (s tg : ByteArray) (k : Int) (a : Nat) : like s tg k a ≤ tg.size - a := by
  have := cm_le (s.extract k.toNat s.size) (tg.extract a tg.size)
  unfold like
  rw [ByteArray.size_extract, ByteArray.size_extract] at this
  omega
/-- The first of the longest ones, up to the first that reaches the target's end. -/
def best (s tg : ByteArray) (a : Nat) : List Int → Int → Int → Int × Int
  | [], f, m => (f, m)
  | k :: l, f, m =>
    let f1 := if m < (like s tg k a : Int) then k else f
    let m1 := if m < (like s tg k a : Int) then (like s tg k a : Int) else m
    if (a : Int) + m1 = tg.size then (f1, m1) else best s tg a l f1 m1
theorem best_bound (s tg : ByteArray) (a : Nat) (ha : a ≤ tg.size) : ∀ (l : List Int) (f m : Int), 0 ≤ m → m ≤ (tg.size : Int) - a → 0 ≤ (best s tg a l f m).2 ∧ (best s tg a l f m).2 ≤ (tg.size : Int) - a
  | [], f, m, h0, h1 => ⟨h0, h1⟩
  | k :: l, f, m, h0, h1 => by
    have hl := like_le s tg k a
    have key : ∀ f1 m1 : Int, 0 ≤ m1 → m1 ≤ (tg.size : Int) - a → 0 ≤ (if (a : Int) + m1 = tg.size then (f1, m1) else best s tg a l f1 m1).2 ∧ (if (a : Int) + m1 = tg.size then (f1, m1) else best s tg a l f1 m1).2 ≤ (tg.size : Int) - a := by
      intro f1 m1 h0 h1
      split
      · exact ⟨h0, h1⟩
      · exact best_bound s tg a ha l f1 m1 h0 h1
    have hm : 0 ≤ (if m < (like s tg k a : Int) then (like s tg k a : Int) else m) ∧ (if m < (like s tg k a : Int) then (like s tg k a : Int) else m) ≤ (tg.size : Int) - a := by split <;> omega
    exact key _ _ hm.1 hm.2
theorem best_yes_end {s tg : ByteArray} {a : Nat} {z f m n : Int} {l : List Int} (hn : n = (like s tg z a : Int)) (h : m < n) (e : (a : Int) + n = tg.size) : best s tg a (z :: l) f m = (z, n) := by
  subst hn; unfold best; dsimp only; rw [if_pos h, if_pos h, if_pos e]
theorem best_yes {s tg : ByteArray} {a : Nat} {z f m n : Int} {l : List Int} (hn : n = (like s tg z a : Int)) (h : m < n) (e : ¬ (a : Int) + n = tg.size) : best s tg a (z :: l) f m = best s tg a l z n := by
  subst hn; conv => lhs; unfold best
  dsimp only; rw [if_pos h, if_pos h, if_neg e]
theorem best_no_end {s tg : ByteArray} {a : Nat} {z f m n : Int} {l : List Int} (hn : n = (like s tg z a : Int)) (h : ¬ m < n) (e : (a : Int) + m = tg.size) : best s tg a (z :: l) f m = (f, m) := by
  subst hn; unfold best; dsimp only; rw [if_neg h, if_neg h, if_pos e]
theorem best_no {s tg : ByteArray} {a : Nat} {z f m n : Int} {l : List Int} (hn : n = (like s tg z a : Int)) (h : ¬ m < n) (e : ¬ (a : Int) + m = tg.size) : best s tg a (z :: l) f m = best s tg a l f m := by
  subst hn; conv => lhs; unfold best
  dsimp only; rw [if_neg h, if_neg h, if_neg e]
/-- What is taken from a place on. -/
def bestAt (s tg : ByteArray) (a : Nat) : Int × Int := best s tg a (occ s (tg.extract a (a + 4)) (s.size - 3)) 0 0
theorem bestAt_bound (s tg : ByteArray) (a : Nat) (ha : a ≤ tg.size) : 0 ≤ (bestAt s tg a).2 ∧ (bestAt s tg a).2 ≤ (tg.size : Int) - a := best_bound s tg a ha _ 0 0 (Int.le_refl 0) (by omega)
/-- The copies and the strings. -/
def pcs (s tg : ByteArray) : Nat → Nat → Nat → List Int → List ByteArray → List Int × List ByteArray
  | 0, _, fr, cs, ts => (cs, ts ++ [tg.extract fr tg.size])
  | k + 1, a, fr, cs, ts =>
    if a + 4 ≤ tg.size then
      if (bestAt s tg a).2 = 0 then pcs s tg k (a + 1) fr cs ts
      else pcs s tg k (a + (bestAt s tg a).2.toNat) (a + (bestAt s tg a).2.toNat) (cs ++ [(bestAt s tg a).1, (bestAt s tg a).2]) (ts ++ [tg.extract fr a])
    else (cs, ts ++ [tg.extract fr tg.size])
theorem pcs_end {s tg : ByteArray} {k a fr : Nat} {cs : List Int} {ts : List ByteArray} (h : ¬ a + 4 ≤ tg.size) : pcs s tg (k + 1) a fr cs ts = (cs, ts ++ [tg.extract fr tg.size]) := by
  unfold pcs; rw [if_neg h]
theorem pcs_skip {s tg : ByteArray} {k a fr : Nat} {cs : List Int} {ts : List ByteArray} (h : a + 4 ≤ tg.size) (h0 : (bestAt s tg a).2 = 0) : pcs s tg (k + 1) a fr cs ts = pcs s tg k (a + 1) fr cs ts := by
  conv => lhs; unfold pcs
  rw [if_pos h, if_pos h0]
theorem pcs_take {s tg : ByteArray} {k a fr : Nat} {cs : List Int} {ts : List ByteArray} (h : a + 4 ≤ tg.size) (h0 : ¬ (bestAt s tg a).2 = 0) :
    pcs s tg (k + 1) a fr cs ts = pcs s tg k (a + (bestAt s tg a).2.toNat) (a + (bestAt s tg a).2.toNat) (cs ++ [(bestAt s tg a).1, (bestAt s tg a).2]) (ts ++ [tg.extract fr a]) := by
  conv => lhs; unfold pcs
  rw [if_pos h, if_neg h0]
def Pcs (s tg : ByteArray) : List Int × List ByteArray := pcs s tg (tg.size + 1) 0 0 [] []
/-- A base of too many bytes is as none. -/
def base6 (s : ByteArray) : ByteArray := if s.size ≤ 65536 then s else ⟨#[]⟩
theorem base6_le (s : ByteArray) : (base6 s).size ≤ 65536 := by
  unfold base6
  split
  · assumption
  · exact Nat.zero_le _
def diff_Make.f (k : Nat) (s tg : ByteArray) : Option ByteArray :=
  if tg.size ≤ 65536 then (wire_Ints.f k (Pcs (base6 s) tg).1).bind fun x => (wire_Texts.f k (Pcs (base6 s) tg).2).bind fun y => if x.size + y.size ≤ 1000000000 then some (x ++ y) else none
  else some ⟨#[]⟩
end Go.Proofs.Ytjjpiedcdcdejaa.Df

/- diff.Make. -/
set_option linter.unusedVariables false
set_option linter.unusedSimpArgs false
namespace Go.Proofs.Ytjjpiedcdcdejaa.Df
open Go.RowKit Go.Proofs.YtjjpiedcdcdejaaW.PrintWords Go.Proofs.YtjjpiedcdcdejaaW.PrintLast Go.Proofs.YtjjpiedcdcdejaaW.PrintMore Go.Proofs.Ytjjpiedcdcdejaa.Pb Go.Proofs.Ytjjpiedcdcdejaa.Gw
theorem R_some {α : Type} {d : Kd α} {e base n c : Nat} {W : World} {ok : Nat → Prop} {A : Option Addr} {l : List α} (h : d.R e W base ok (.slice A n c) l) (hl : 0 < l.length) : ∃ g, A = some ⟨g, 0, none⟩ := by
  have hn := (Kd.R_reads' h).1
  obtain ⟨inner, h1, h2⟩ := Kd.R_own h
  rcases h2 with ⟨h3, h4⟩ | ⟨g, cap, cur, h3, _⟩
  · injection h3 with _ h3 _; omega
  · injection h3 with h3 _ _; exact ⟨g, h3⟩
def CutB (s tg : ByteArray) (a : Nat) (wr : World) (v11 v12 : Value) (wx : World) : Prop := v11 = .int .i64 (bestAt s tg a).1 ∧ v12 = .int .i64 (bestAt s tg a).2 ∧ Below wr.heap.size wr wx
set_option maxHeartbeats 8000000 in
set_option maxRecDepth 100000 in
theorem diff_Make.calls (k : Nat) (a0 a1 r : ByteArray) (w : World) (h : diff_Make.f k a0 a1 = some r) :
    Calls Try.prog 12 #[.string a0, .string a1] w fun e w' => e = .returned (.string r) ∧ Below w.heap.size w w' := by
  unfold diff_Make.f at h
  have HBB := Lib.hid (below_alloc (Below.refl w.heap.size w) (.cells #[.string a1] 9))
  have hbl : (w.alloc (.cells #[.string a1] 9)).heap[w.heap.size]? = some (.cells #[.string a1] 9 (0, 0)) := (MapKept.heap_alloc w _).1
  have HBL := Lib.hid hbl
  have cx := ck hbl 0 (.string a1) rfl
  clear hbl
  by_cases c1 : a1.size ≤ 65536
  · rw [if_pos c1] at h
    have HH := Lib.hid h
    have C1 := Lib.hid c1
    have d1 : decide (65536 < (a1.size : Int)) = false := decide_eq_false (by omega)
    have d1' : (65536 < a1.size) = False := eq_false (by omega)
    clear h c1
    go_enter Try.func12, Try.ntmps12
    go_upto_if 21 with fail
    go_cut [0] (fun v0 wx => v0 = .string (base6 a0) ∧ wx = w.alloc (.cells #[.string a1] 9))
    case first =>
      by_cases c2 : a0.size ≤ 65536
      · have d2 : decide (65536 < (a0.size : Int)) = false := decide_eq_false (by omega)
        have d2' : (65536 < a0.size) = False := eq_false (by omega)
        have hb6 : base6 a0 = a0 := by unfold base6; rw [if_pos c2]
        clear c2
        simp only [d2]
        go_wp2
        go_meet
        exact ⟨by rw [hb6], rfl⟩
      · have d2 : decide (65536 < (a0.size : Int)) = true := decide_eq_true (by omega)
        have d2' : (65536 < a0.size) = True := eq_true (by omega)
        have hb6 : base6 a0 = ⟨#[]⟩ := by unfold base6; rw [if_neg c2]
        clear c2
        simp only [d2]
        go_wp2
        go_meet
        exact ⟨by rw [hb6], rfl⟩
    case rest =>
      obtain ⟨rfl, rfl⟩ := hcut
      have hs := base6_le a0
      generalize base6 a0 = s at HH hs ⊢
      have HS := Lib.hid hs
      go_wp2_with ((go_at_call 26); (with_reducible refine (places_calls s (by omega) _).mono ?_); rintro e w1 ⟨b, es, clock, rfl, hM, hb1⟩; have HM := Lib.hid hM; have HB1 := Lib.hid hb1; clear hM hb1)
      have H3 := Lib.hid ((HB1.out.block w.heap.size (World.block_lt_of_cell? _ _ cx)).trans HBL.out)
      have hgl := Lib.hid (show w.heap.size < w1.heap.size from (Array.getElem?_eq_some_iff.1 H3.out).1)
      have HTN := Lib.hid (TS.new w1)
      have HBN := Lib.hid (((((Below.refl w1.heap.size w1).alloc (Nat.le_refl _) (.cells #[.slice none 0 0] 22)).alloc (below_alloc (Below.refl _ _) _).size (.cells #[] 9)).alloc ((below_alloc (below_alloc (Below.refl _ _) _) _).size) (.cells #[.slice (some ⟨w1.heap.size + 1, 0, none⟩) 0 0] 32)).alloc ((below_alloc (below_alloc (below_alloc (Below.refl _ _) _) _) _).size) (.cells #[.int .i64 0] 3))
      go_loopg [10] (a1.size + 1) (fun kq v10 w' => ∃ (x : Int) (a fr : Nat) (cs : List Int) (ts : List ByteArray) (vc vt : Value), v10 = .int .i64 x ∧ x = (a : Int) ∧ TS w1.heap.size w' cs ts (fr : Int) vc vt ∧ Below w1.heap.size w1 w' ∧ fr ≤ a ∧ a ≤ a1.size ∧ a1.size + 1 ≤ a + kq ∧ cs.length ≤ 2 * a ∧ ts.length ≤ a ∧ pcs s a1 kq a fr cs ts = Pcs s a1)
      case atStart => exact ⟨0, 0, 0, [], [], _, _, rfl, rfl, HTN.out, HBN.out, Nat.le_refl _, Nat.zero_le _, by omega, by simp, by simp, rfl⟩
      case round =>
        clear HTN HBN cx
        obtain ⟨x, a, fr, cs, ts, vc, vt, rfl, hx, hT, hB, hfa, ha, hk, hcl, htl, hP⟩ := hrel
        cases gk with
        | zero => omega
        | succ k1 =>
          have hb3 := (hB.block w.heap.size hgl.out).trans H3.out
          have c3 := ck hb3 0 (.string a1) rfl
          have HT := Lib.hid hT
          have HB := Lib.hid hB
          have HB3 := Lib.hid hb3
          have hw4 := Lib.hid (show wrap64 (x + 4) = x + 4 by have := C1.out; unfold wrap64; omega)
          clear hT hB hb3
          by_cases c : a + 4 ≤ a1.size
          · have c0 : decide (wrap64 (x + 4) ≤ (a1.size : Int)) = true := decide_eq_true (by rw [hw4.out]; omega)
            have p1 : (0 ≤ x) = True := eq_true (by omega)
            have p2 : (x ≤ wrap64 (x + 4)) = True := eq_true (by rw [hw4.out]; omega)
            have p3 : (wrap64 (x + 4) ≤ (a1.size : Int)) = True := eq_true (by rw [hw4.out]; omega)
            have p4 : (x ≤ (a1.size : Int)) = True := eq_true (by omega)
            obtain ⟨q, hqd⟩ : ∃ q, a1.extract x.toNat (wrap64 (x + 4)).toNat = q := ⟨_, rfl⟩
            have hqe : q = a1.extract a (a + 4) := by rw [← hqd, hw4.out, hx]; congr 1 <;> omega
            have hq4 : q.size = 4 := by rw [hqe, ByteArray.size_extract]; omega
            obtain ⟨C, Wb, hcv, hra, hbb, hsz⟩ := conv4 wr q hq4
            have harr := run_arrayAt (some ⟨wr.heap.size, 0, none⟩) C Wb
            have hbw : Below w1.heap.size w1 Wb := HB.out.trans (hbb.mono HB.out.size)
            have hMb := HM.out.step (fun k _ hk => hbw.block k hk)
            obtain ⟨v, hlk, hR⟩ := lookup_run hMb q hq4
            rw [kv_kc] at hlk
            obtain ⟨L, hL⟩ : ∃ L, L = occ s q (s.size - 3) := ⟨_, rfl⟩
            rw [← hL] at hR
            obtain ⟨Av, Cv, rfl⟩ := Kd.R_slice hR
            have c3b := (hbb.cell (World.block_lt_of_cell? _ _ c3)).trans c3
            have HR := Lib.hid hR
            have HRA := Lib.hid hra
            have HBB' := Lib.hid hbb
            have HL := Lib.hid hL
            have HQE := Lib.hid hqe
            have HK := Lib.hid (show x = (a : Int) ∧ fr ≤ a ∧ a + 4 ≤ a1.size ∧ a1.size + 1 ≤ a + (k1 + 1) ∧ cs.length ≤ 2 * a ∧ ts.length ≤ a from ⟨hx, hfa, c, hk, hcl, htl⟩)
            have HP := Lib.hid hP
            have HBW := Lib.hid hbw
            clear hR hra hbb hL hqe hx hfa ha hk hcl htl hP c hbw hMb hq4
            go_upto_block 2 with (refine wpList_load_mid rfl 59 (.tmp 38) rfl wr.heap.size 0 rfl (kc q).toList _ HRA.out Try.underlying59 rfl (by kernel_rfl) ?_)
            go_cut [11, 12] (fun v11 v12 wx => CutB s a1 a Wb v11 v12 wx)
            case first =>
              go_wp2_with fail
              go_loopg [11, 12, 42] (L.length + 1) (fun kq v11 v12 v42 w' => ∃ (f m y : Int) (j : Nat), v11 = .int .i64 f ∧ v12 = .int .i64 m ∧ v42 = .int .i64 y ∧ y = (j : Int) ∧ j + kq = L.length + 1 ∧ j ≤ L.length ∧ best s a1 a (L.drop j) f m = bestAt s a1 a ∧ 0 ≤ m ∧ m ≤ (a1.size : Int) - a ∧ Below Wb.heap.size Wb w')
              case atStart => exact ⟨0, 0, 0, 0, rfl, rfl, rfl, rfl, by omega, Nat.zero_le _, by rw [List.drop_zero, HL.out, HQE.out]; rfl, by omega, by have := HK.out; omega, Below.refl _ _⟩
              case round =>
                obtain ⟨f, m, y, j, rfl, rfl, rfl, hy, hj, hjl, hbest, hm0, hm1, hBi⟩ := hrel
                cases gk with
                | zero => omega
                | succ k2 =>
                  by_cases hjn : j < L.length
                  · have e1 : decide (y < (L.length : Int)) = true := decide_eq_true (by omega)
                    obtain ⟨gv, rfl⟩ := R_some HR.out (by omega)
                    have hcell := (Kd.R_cell 0 HR.out y (by omega) (by omega)).1
                    have hz : L.drop j = rdOf 0 L y :: L.drop (j + 1) := by
                      rw [List.drop_eq_getElem_cons hjn, show rdOf 0 L y = L[j] by rw [hy]; simp [rdOf, hjn]]
                    have hzm : rdOf 0 L y ∈ occ s q (s.size - 3) := by rw [← HL.out, show rdOf 0 L y = L[j] by rw [hy]; simp [rdOf, hjn]]; exact List.getElem_mem hjn
                    have hzb := occ_mem hzm
                    generalize rdOf 0 L y = z at hcell hz hzb
                    have hcz := (hBi.cell (World.block_lt_of_cell? _ _ hcell)).trans hcell
                    have c3i := (hBi.cell (World.block_lt_of_cell? _ _ c3b)).trans c3b
                    have s1 : (0 ≤ y) = True := eq_true (by omega)
                    have s2 : (y < (L.length : Int)) = True := eq_true (by omega)
                    have s3 : (0 ≤ z) = True := eq_true hzb.1
                    have s4 : (z ≤ (s.size : Int)) = True := eq_true (by omega)
                    have s5 : (0 ≤ x) = True := p1
                    rw [hz] at hbest
                    have hlb := like_le s a1 z a
                    have HBi := Lib.hid hBi
                    have HBE := Lib.hid hbest
                    have HJ := Lib.hid (show y = (j : Int) ∧ j + 1 + k2 = L.length + 1 ∧ j + 1 ≤ L.length ∧ 0 ≤ m ∧ m ≤ (a1.size : Int) - a ∧ like s a1 z a ≤ a1.size - a from ⟨hy, by omega, hjn, hm0, hm1, hlb⟩)
                    clear hcell hz hzm hzb hBi hbest hy hj hjl hm0 hm1 hjn hlb
                    obtain ⟨n, hn⟩ : ∃ n : Int, n = (like s a1 z a : Int) := ⟨_, rfl⟩
                    have HCM := Lib.hid (show ∀ W, Calls Try.prog 28 #[.string (s.extract z.toNat s.size), .string (a1.extract x.toNat a1.size)] W fun e w' => e = .returned (.int .i64 n) ∧ Below W.heap.size W w' from fun W => by
                      have h1 := common_calls (s.extract z.toNat s.size) (a1.extract x.toNat a1.size) (by rw [ByteArray.size_extract]; have := HS.out; omega) W
                      have h2 : cm (s.extract z.toNat s.size) (a1.extract x.toNat a1.size) = like s a1 z a := by unfold like; rw [show x.toNat = a by have := HK.out.1; omega]
                      rw [h2, ← hn] at h1
                      exact h1)
                    have HN := Lib.hid hn
                    have c3d : wr.drew.cell? ⟨w.heap.size, 0, none⟩ = some (.string a1) := c3i
                    clear hn
                    go_wp2
                    refine start_ (n := 8) (S := fun w' => w'.cell? ⟨w.heap.size, 0, none⟩ = some (.string a1)) (ds := [6]) #[false, false, false, false, false, false, false, false] (by kernel_rfl) rfl rfl (c3d) (fun hHeld => ?_)
                    refine pure_ (i := 0) (N := some 46) (v := ?_) (a' := ?_) #[true, false, false, false, false, false, false, false] rfl rfl (by kernel_rfl) (fun _ _ _ h => h) (Or.inl ⟨by rfl, ?_⟩) ?_ ?_
                    rotate_left
                    · intro w'
                      go_simp
                      with_reducible rfl
                    rotate_left
                    · simp only [Act.put, List.setIfInBounds_toArray, List.set_cons_zero, List.set_cons_succ, i64_w, i32_w]
                      rfl
                    refine pure_ (i := 1) (N := some 47) (v := ?_) (a' := ?_) #[true, true, false, false, false, false, false, false] rfl rfl (by kernel_rfl) (fun _ _ _ h => h) (Or.inl ⟨by rfl, ?_⟩) ?_ ?_
                    rotate_left
                    · intro w'
                      go_simp
                      with_reducible rfl
                    rotate_left
                    · simp only [Act.put, List.setIfInBounds_toArray, List.set_cons_zero, List.set_cons_succ, i64_w, i32_w]
                      rfl
                    refine pure_ (i := 2) (N := some 48) (v := ?_) (a' := ?_) #[true, true, true, false, false, false, false, false] rfl rfl (by kernel_rfl) (fun _ _ _ h => h) (Or.inl ⟨by rfl, ?_⟩) ?_ ?_
                    rotate_left
                    · intro w'
                      go_simp
                      with_reducible rfl
                    rotate_left
                    · simp only [Act.put, List.setIfInBounds_toArray, List.set_cons_zero, List.set_cons_succ, i64_w, i32_w]
                      rfl
                    refine pure_ (i := 4) (N := some 50) (v := ?_) (a' := ?_) #[true, true, true, false, true, false, false, false] rfl rfl (by kernel_rfl) (fun _ _ _ h => h) (Or.inl ⟨by rfl, ?_⟩) ?_ ?_
                    rotate_left
                    · intro w'
                      go_simp
                      with_reducible rfl
                    rotate_left
                    · simp only [Act.put, List.setIfInBounds_toArray, List.set_cons_zero, List.set_cons_succ, i64_w, i32_w]
                      rfl
                    refine take_ (i := 3) (N := some 49) (v := ?_) (a' := ?_) #[true, true, true, true, true, false, false, false] rfl rfl (by kernel_rfl) (fun _ _ _ h => h) (Or.inl ⟨by rfl, ?_⟩) hHeld ?_ ?_
                    rotate_left
                    · intro w' s0
                      go_simp
                      with_reducible rfl
                    rotate_left
                    · simp only [Act.put, List.setIfInBounds_toArray, List.set_cons_zero, List.set_cons_succ, i64_w, i32_w]
                      rfl
                    refine pure_ (i := 5) (N := some 51) (v := ?_) (a' := ?_) #[true, true, true, true, true, true, false, false] rfl rfl (by kernel_rfl) (fun _ _ _ h => h) (Or.inl ⟨by rfl, ?_⟩) ?_ ?_
                    rotate_left
                    · intro w'
                      go_simp
                      with_reducible rfl
                    rotate_left
                    · simp only [Act.put, List.setIfInBounds_toArray, List.set_cons_zero, List.set_cons_succ, i64_w, i32_w]
                      rfl
                    refine last_ (i := 6) (N := some 52) #[true, true, true, true, true, true, true, false] rfl rfl (by kernel_rfl) (by decide) (fun K hK => ?_)
                    refine goes_ Try.func28 (by kernel_rfl) rfl #[.string (s.extract z.toNat s.size), .string (a1.extract x.toNat a1.size)] (by rfl) rfl rfl (by simp only [List.map_toArray, List.map_cons, List.map_nil]; rfl) ?_
                    with_reducible refine (HCM.out _).mono ?_
                    rintro e w3 ⟨rfl, hb3⟩
                    refine ⟨_, rfl, ?_⟩
                    refine hK.out _ _ ?_
                    clear hK K
                    refine norm_ (a' := ?_) ?_ ?_
                    rotate_left
                    · show Act.put _ (some 52) _ = _
                      simp only [Act.put, List.setIfInBounds_toArray, List.set_cons_zero, List.set_cons_succ, i64_w, i32_w]
                      rfl
                    refine pure_ (i := 7) (N := some 15) (v := ?_) (a' := ?_) #[true, true, true, true, true, true, true, true] rfl rfl (by kernel_rfl) (fun _ _ _ h => h) (Or.inl ⟨by rfl, ?_⟩) ?_ ?_
                    rotate_left
                    · intro w'
                      go_simp
                      with_reducible rfl
                    rotate_left
                    · simp only [Act.put, List.setIfInBounds_toArray, List.set_cons_zero, List.set_cons_succ, i64_w, i32_w]
                      rfl
                    refine done_ (by kernel_rfl) ?_
                    have HB3i := Lib.hid (HBi.out.drew.trans (hb3.mono HBi.out.size))
                    have c3j := (hb3.cell (World.block_lt_of_cell? _ _ c3d)).trans c3d
                    clear hb3 c3i c3d hcz
                    have HL2 := Lib.hid (show L.length ≤ 65536 by have := occ_len s q (s.size - 3); rw [← HL.out] at this; have := HS.out; omega)
                    by_cases dm : m < n
                    · by_cases de : x + n = (a1.size : Int)
                      · have d1 : decide (m < n) = true := decide_eq_true dm
                        have hwv : wrap64 (x + n) = x + n := by have h1 := HJ.out; have h2 := HK.out; have h3 := HN.out; have h4 := C1.out; unfold wrap64; omega
                        have d2 : (x + n == (a1.size : Int)) = true := beq_iff_eq.mpr de
                        have hst := Lib.hid (show (z, n) = bestAt s a1 a from ((best_yes_end HN.out dm (by rw [← HK.out.1]; exact de)).symm.trans HBE.out))
                        clear dm de
                        go_wp2
                        go_meet
                        exact ⟨by rw [← hst.out], by rw [← hst.out], HB3i.out⟩
                      · have d1 : decide (m < n) = true := decide_eq_true dm
                        have hwv : wrap64 (x + n) = x + n := by have h1 := HJ.out; have h2 := HK.out; have h3 := HN.out; have h4 := C1.out; unfold wrap64; omega
                        have d2 : (x + n == (a1.size : Int)) = false := beq_eq_false_iff_ne.mpr de
                        have hst := Lib.hid (show best s a1 a (L.drop (j + 1)) z n = bestAt s a1 a from ((best_yes HN.out dm (by rw [← HK.out.1]; exact de)).symm.trans HBE.out))
                        have hwy := Lib.hid (show wrap64 (y + 1) = ((j + 1 : Nat) : Int) by have h1 := HJ.out; have h2 := HL2.out; unfold wrap64; omega)
                        have HBD := Lib.hid (show 0 ≤ n ∧ n ≤ (a1.size : Int) - a by have h1 := HJ.out; have h3 := HN.out; have h2 := HK.out; omega)
                        clear dm de
                        go_wp2
                        go_roundg k2
                        case measure => have h1 := HJ.out; omega
                        case rel => exact ⟨z, n, _, j + 1, rfl, rfl, rfl, hwy.out, HJ.out.2.1, HJ.out.2.2.1, hst.out, HBD.out.1, HBD.out.2, HB3i.out⟩
                    · by_cases de : x + m = (a1.size : Int)
                      · have d1 : decide (m < n) = false := decide_eq_false dm
                        have hwv : wrap64 (x + m) = x + m := by have h1 := HJ.out; have h2 := HK.out; have h3 := HN.out; have h4 := C1.out; unfold wrap64; omega
                        have d2 : (x + m == (a1.size : Int)) = true := beq_iff_eq.mpr de
                        have hst := Lib.hid (show (f, m) = bestAt s a1 a from ((best_no_end HN.out dm (by rw [← HK.out.1]; exact de)).symm.trans HBE.out))
                        clear dm de
                        go_wp2
                        go_meet
                        exact ⟨by rw [← hst.out], by rw [← hst.out], HB3i.out⟩
                      · have d1 : decide (m < n) = false := decide_eq_false dm
                        have hwv : wrap64 (x + m) = x + m := by have h1 := HJ.out; have h2 := HK.out; have h3 := HN.out; have h4 := C1.out; unfold wrap64; omega
                        have d2 : (x + m == (a1.size : Int)) = false := beq_eq_false_iff_ne.mpr de
                        have hst := Lib.hid (show best s a1 a (L.drop (j + 1)) f m = bestAt s a1 a from ((best_no HN.out dm (by rw [← HK.out.1]; exact de)).symm.trans HBE.out))
                        have hwy := Lib.hid (show wrap64 (y + 1) = ((j + 1 : Nat) : Int) by have h1 := HJ.out; have h2 := HL2.out; unfold wrap64; omega)
                        have HBD := Lib.hid (show 0 ≤ m ∧ m ≤ (a1.size : Int) - a by have h1 := HJ.out; have h3 := HN.out; have h2 := HK.out; omega)
                        clear dm de
                        go_wp2
                        go_roundg k2
                        case measure => have h1 := HJ.out; omega
                        case rel => exact ⟨f, m, _, j + 1, rfl, rfl, rfl, hwy.out, HJ.out.2.1, HJ.out.2.2.1, hst.out, HBD.out.1, HBD.out.2, HB3i.out⟩
                  · have e1 : decide (y < (L.length : Int)) = false := decide_eq_false (by omega)
                    have hd : L.drop j = [] := List.drop_eq_nil_of_le (by omega)
                    rw [hd] at hbest
                    have hf : f = (bestAt s a1 a).1 := by rw [← hbest]; rfl
                    have hmm : m = (bestAt s a1 a).2 := by rw [← hbest]; rfl
                    have HF := Lib.hid hf
                    have HMM := Lib.hid hmm
                    have HBi := Lib.hid hBi
                    clear hy hj hjl hbest hm0 hm1 hBi hjn hd hf hmm
                    go_wp2
                    go_meet
                    exact ⟨by rw [HF.out], by rw [HMM.out], HBi.out⟩
            case rest =>
              obtain ⟨rfl, rfl, hBc⟩ := hcut
              have hbb := bestAt_bound s a1 a (by have := HK.out; omega)
              have hTc := HT.out.below (HBB'.out.trans (hBc.mono HBB'.out.size))
              have hBwc := HBW.out.trans (hBc.mono HBW.out.size)
              have HTC := Lib.hid hTc
              have HBC := Lib.hid hBwc
              have hPs := HP.out
              by_cases hm0 : (bestAt s a1 a).2 = 0
              · rw [pcs_skip HK.out.2.2.1 hm0] at hPs
                have HPS := Lib.hid hPs
                obtain ⟨f, hf⟩ : ∃ f, f = (bestAt s a1 a).1 := ⟨_, rfl⟩
                rw [← hf, hm0]
                have hwx := Lib.hid (show wrap64 (x + 1) = ((a + 1 : Nat) : Int) by have h2 := HK.out; have h4 := C1.out; unfold wrap64; omega)
                clear hf hm0 hPs hbb hTc hBwc hBc
                go_wp2
                go_roundg k1
                case measure => omega
                case rel => exact ⟨_, a + 1, fr, cs, ts, vc, vt, rfl, hwx.out, HTC.out, HBC.out, by have := HK.out; omega, by have := HK.out; omega, by have := HK.out; omega, by have := HK.out; omega, by have := HK.out; omega, HPS.out⟩
              · rw [pcs_take HK.out.2.2.1 hm0] at hPs
                generalize (bestAt s a1 a).1 = f at hPs ⊢
                generalize (bestAt s a1 a).2 = m at hPs hbb hm0 ⊢
                have HPS := Lib.hid hPs
                have HMB := Lib.hid (show 0 < m ∧ m ≤ (a1.size : Int) - a by omega)
                have d1 : (m == 0) = false := beq_eq_false_iff_ne.mpr hm0
                have HTK := Lib.hid (show Calls Try.prog 27 #[.int .i64 x, .int .i64 f, .int .i64 m, .pointer (some ⟨w1.heap.size, 0, none⟩), .pointer (some ⟨w1.heap.size + 1 + 1, 0, none⟩), .pointer (some ⟨w.heap.size, 0, none⟩), .pointer (some ⟨w1.heap.size + 1 + 1 + 1, 0, none⟩)] wc _ from
                  take_calls w1.heap.size w.heap.size wc a1 cs ts (fr : Int) x f m vc vt hTc ((hBwc.block w.heap.size hgl.out).trans H3.out) hgl.out (by omega) (by have := HK.out; omega) (by have := HK.out; omega) (by omega) (by have := C1.out; omega) (by have := C1.out; omega) (by have := HK.out; have := C1.out; omega) (by have := HK.out; have := C1.out; omega))
                clear hm0 hPs hbb hTc hBwc hBc
                have hwx := Lib.hid (show wrap64 (x + m) = ((a + m.toNat : Nat) : Int) by have h2 := HK.out; have h4 := C1.out; have h5 := HMB.out; unfold wrap64; omega)
                go_wp2_with ((go_at_call 27); (with_reducible refine (HTK.out).mono ?_); rintro e w4 ⟨rfl, hb4, vc', vt', hT4⟩; have HB4 := Lib.hid hb4; have HT4 := Lib.hid hT4; clear hb4 hT4)
                go_roundg k1
                case measure => omega
                case rel => exact ⟨_, a + m.toNat, a + m.toNat, cs ++ [f, m], ts ++ [a1.extract fr a], vc', vt', rfl, hwx.out, (by
                    have h := HT4.out
                    rw [show x + m = ((a + m.toNat : Nat) : Int) by have h2 := HK.out; have h5 := HMB.out; omega, show ((fr : Int)).toNat = fr by omega, show x.toNat = a by have h2 := HK.out; omega] at h
                    exact h), HBC.out.trans HB4.out, Nat.le_refl _, by have h2 := HK.out; have h5 := HMB.out; omega, by have h2 := HK.out; have h5 := HMB.out; omega, by have h2 := HK.out; have h5 := HMB.out; simp only [List.length_append, List.length_cons, List.length_nil]; omega, by have h2 := HK.out; have h5 := HMB.out; simp only [List.length_append, List.length_cons, List.length_nil]; omega, HPS.out⟩
          · have c0 : decide (wrap64 (x + 4) ≤ (a1.size : Int)) = false := decide_eq_false (by rw [hw4.out]; omega)
            rw [pcs_end c] at hP
            have hh := HH.out
            rw [← hP] at hh
            obtain ⟨x1, hx1, hh⟩ := Option.bind_eq_some_iff.1 hh
            obtain ⟨y1, hy1, hh⟩ := Option.bind_eq_some_iff.1 hh
            by_cases hsz : x1.size + y1.size ≤ 1000000000
            · rw [if_pos hsz] at hh
              obtain rfl := Option.some.inj hh
              obtain ⟨Ac, dc, rfl⟩ := Kd.R_slice HT.out.rc
              have e6 : wr.drew.cell? ⟨w1.heap.size, 0, none⟩ = some (.slice Ac cs.length dc) := ck HT.out.hc 0 _ rfl
              have e7 : wr.drew.cell? ⟨w1.heap.size + 1 + 1, 0, none⟩ = some vt := ck HT.out.ht 0 _ rfl
              have e8 : wr.drew.cell? ⟨w1.heap.size + 1 + 1 + 1, 0, none⟩ = some (.int .i64 (fr : Int)) := ck HT.out.hf 0 _ rfl
              have e3 : wr.drew.cell? ⟨w.heap.size, 0, none⟩ = some (.string a1) := c3
              have p1 : (0 ≤ (fr : Int)) = True := eq_true (by omega)
              have p2 : ((fr : Int) ≤ (a1.size : Int)) = True := eq_true (by omega)
              have p3 : (fr ≤ a1.size) = True := eq_true (by omega)
              have l6 := World.block_lt_of_cell? _ _ e6
              have l7 := World.block_lt_of_cell? _ _ e7
              have l8 := World.block_lt_of_cell? _ _ e8
              have l3 := World.block_lt_of_cell? _ _ e3
              have HTd := Lib.hid (show TS w1.heap.size wr.drew cs ts (fr : Int) (.slice Ac cs.length dc) vt from ⟨HT.out.hc, HT.out.ht, HT.out.hf, Kd.R_drew HT.out.rc, Kd.R_drew HT.out.rt⟩)
              have HBd := Lib.hid HB.out.drew
              have HCd := Lib.hid (Kd.R_reads' HTd.out.rc).2.2
              have hdc := Lib.hid (Kd.R_reads' HTd.out.rc).2.1
              have hadd : (9223372036854775807 < x1.size + y1.size) = False := eq_false (by omega)
              have HX1 := Lib.hid hx1
              have HY1 := Lib.hid hy1
              have HK := Lib.hid (show x = (a : Int) ∧ fr ≤ a ∧ a ≤ a1.size ∧ ts.length ≤ a ∧ a1.size ≤ 65536 from ⟨hx, hfa, ha, htl, C1.out⟩)
              clear hx1 hy1 hx hfa ha htl hk hcl hP c hsz
              go_wp2
              refine start_ (n := 11) (S := fun w' => w'.cell? ⟨w1.heap.size, 0, none⟩ = some (.slice Ac cs.length dc) ∧ w'.cell? ⟨w1.heap.size + 1 + 1, 0, none⟩ = some vt ∧ w'.cell? ⟨w.heap.size, 0, none⟩ = some (.string a1) ∧ w'.cell? ⟨w1.heap.size + 1 + 1 + 1, 0, none⟩ = some (.int .i64 (fr : Int))) (ds := [7, 8]) #[false, false, false, false, false, false, false, false, false, false, false] (by kernel_rfl) rfl rfl ⟨e6, e7, e3, e8⟩ (fun hHeld => ?_)
              generalize wr.drew = wd at HTd HBd HCd e6 e7 e3 e8 l6 l7 l3 l8 hHeld ⊢; have HX := Lib.hid (Below.refl wd.heap.size wd)
              refine take_ (i := 0) (N := some 77) (v := ?_) (a' := ?_) #[true, false, false, false, false, false, false, false, false, false, false] rfl rfl (by kernel_rfl) (fun _ _ _ h => h) (Or.inl ⟨by rfl, ?_⟩) hHeld ?_ ?_
              rotate_left
              · rintro w' ⟨s0, s1, s2, s3⟩
                go_simp
                with_reducible rfl
              rotate_left
              · simp only [Act.put, List.setIfInBounds_toArray, List.set_cons_zero, List.set_cons_succ, i64_w, i32_w]
                rfl
              refine take_ (i := 2) (N := some 79) (v := ?_) (a' := ?_) #[true, false, true, false, false, false, false, false, false, false, false] rfl rfl (by kernel_rfl) (fun _ _ _ h => h) (Or.inl ⟨by rfl, ?_⟩) hHeld ?_ ?_
              rotate_left
              · rintro w' ⟨s0, s1, s2, s3⟩
                go_simp
                with_reducible rfl
              rotate_left
              · simp only [Act.put, List.setIfInBounds_toArray, List.set_cons_zero, List.set_cons_succ, i64_w, i32_w]
                rfl
              refine take_ (i := 3) (N := some 80) (v := ?_) (a' := ?_) #[true, false, true, true, false, false, false, false, false, false, false] rfl rfl (by kernel_rfl) (fun _ _ _ h => h) (Or.inl ⟨by rfl, ?_⟩) hHeld ?_ ?_
              rotate_left
              · rintro w' ⟨s0, s1, s2, s3⟩
                go_simp
                with_reducible rfl
              rotate_left
              · simp only [Act.put, List.setIfInBounds_toArray, List.set_cons_zero, List.set_cons_succ, i64_w, i32_w]
                rfl
              refine take_ (i := 4) (N := some 81) (v := ?_) (a' := ?_) #[true, false, true, true, true, false, false, false, false, false, false] rfl rfl (by kernel_rfl) (fun _ _ _ h => h) (Or.inl ⟨by rfl, ?_⟩) hHeld ?_ ?_
              rotate_left
              · rintro w' ⟨s0, s1, s2, s3⟩
                go_simp
                with_reducible rfl
              rotate_left
              · simp only [Act.put, List.setIfInBounds_toArray, List.set_cons_zero, List.set_cons_succ, i64_w, i32_w]
                rfl
              refine pure_ (i := 5) (N := some 82) (v := ?_) (a' := ?_) #[true, false, true, true, true, true, false, false, false, false, false] rfl rfl (by kernel_rfl) (fun _ _ _ h => h) (Or.inl ⟨by rfl, ?_⟩) ?_ ?_
              rotate_left
              · intro w'
                go_simp
                with_reducible rfl
              rotate_left
              · simp only [Act.put, List.setIfInBounds_toArray, List.set_cons_zero, List.set_cons_succ, i64_w, i32_w]
                rfl
              refine join_ (σ := Value) 4 #[true, true, true, true, true, true, true, false, false, false, false] (fun s => [(78, .string x1), (83, s)]) (fun s w' => Below wd.heap.size wd w' ∧ ∃ gb, s = .slice (some ⟨gb, 0, none⟩) 1 1 ∧ w'.cell? ⟨gb, 0, none⟩ = some (.string (a1.extract fr a1.size))) ?_ ?_
              rotate_left
              · intro hCont
                refine two_ (i := 1) (j := 6) (Ni := some 78) (Nj := some 83) #[true, true, true, true, true, true, false, false, false, false, false] #[true, false, true, true, true, true, true, false, false, false, false] rfl rfl rfl rfl (by kernel_rfl) (by decide) (by decide) (fun K hK => ?_) (fun K hK => ?_)
                · skip
                  refine goes_ Try.func29 (by kernel_rfl) rfl #[.slice Ac cs.length dc] (by rfl) rfl rfl (by simp only [List.map_toArray, List.map_cons, List.map_nil]; rfl) ?_
                  with_reducible refine (wire_Ints.calls k Ac dc cs x1 _ (Kd.C_below HCd.out HX.out) hdc.out HX1.out).mono ?_
                  rintro e wx ⟨rfl, hbx⟩
                  refine ⟨_, rfl, ?_⟩
                  have n_ := Lib.hid (HX.out.trans (hbx.mono HX.out.size)); clear HX; have HX := n_; clear n_
                  refine hK.out _ _ ⟨(HX.out.cell l6).trans e6, (HX.out.cell l7).trans e7, (HX.out.cell l3).trans e3, (HX.out.cell l8).trans e8⟩ (fun hHeld => ?_)
                  clear hK K
                  refine norm_ (a' := ?_) ?_ ?_
                  rotate_left
                  · show Act.put _ (some 78) _ = _
                    simp only [Act.put, List.setIfInBounds_toArray, List.set_cons_zero, List.set_cons_succ, i64_w, i32_w]
                    rfl
                  refine one_ (i := 6) (N := some 83) #[true, true, true, true, true, true, true, false, false, false, false] rfl rfl (by kernel_rfl) (by decide) (fun K hK => ?_)
                  refine value_ (w1 := ?_) (v := ?_) (by rfl) rfl ?_ ?_
                  rotate_left 2
                  · go_simp
                    constructor
                    · rfl
                    · rfl
                  have HG := Lib.hid (ck (MapKept.heap_alloc wx (.cells #[.string (a1.extract fr a1.size)] 9)).1 0 (.string (a1.extract fr a1.size)) rfl)
                  have n_ := Lib.hid (HX.out.alloc HX.out.size (.cells #[.string (a1.extract fr a1.size)] 9)); clear HX; have HX := n_; clear n_
                  refine hK.out _ _ ⟨(HX.out.cell l6).trans e6, (HX.out.cell l7).trans e7, (HX.out.cell l3).trans e3, (HX.out.cell l8).trans e8⟩ (fun hHeld => ?_)
                  clear hK K
                  refine norm_ (a' := ?_) ?_ ?_
                  rotate_left
                  · show Act.put _ (some 83) _ = _
                    simp only [Act.put, List.setIfInBounds_toArray, List.set_cons_zero, List.set_cons_succ, i64_w, i32_w]
                    rfl
                  exact norm_ (by simp only [putAll, Act.put, List.setIfInBounds_toArray, List.set_cons_zero, List.set_cons_succ]) (hCont (.slice (some ⟨wx.heap.size, 0, none⟩) 1 1) _ ⟨HX.out, wx.heap.size, rfl, HG.out⟩)
                · skip
                  refine value_ (w1 := ?_) (v := ?_) (by rfl) rfl ?_ ?_
                  rotate_left 2
                  · go_simp
                    constructor
                    · rfl
                    · rfl
                  have HG := Lib.hid (ck (MapKept.heap_alloc wd (.cells #[.string (a1.extract fr a1.size)] 9)).1 0 (.string (a1.extract fr a1.size)) rfl)
                  have n_ := Lib.hid (below_alloc (Below.refl wd.heap.size wd) (.cells #[.string (a1.extract fr a1.size)] 9)); clear HX; have HX := n_; clear n_
                  refine hK.out _ _ ⟨(HX.out.cell l6).trans e6, (HX.out.cell l7).trans e7, (HX.out.cell l3).trans e3, (HX.out.cell l8).trans e8⟩ (fun hHeld => ?_)
                  clear hK K
                  refine norm_ (a' := ?_) ?_ ?_
                  rotate_left
                  · show Act.put _ (some 83) _ = _
                    simp only [Act.put, List.setIfInBounds_toArray, List.set_cons_zero, List.set_cons_succ, i64_w, i32_w]
                    rfl
                  refine one_ (i := 1) (N := some 78) #[true, true, true, true, true, true, true, false, false, false, false] rfl rfl (by kernel_rfl) (by decide) (fun K hK => ?_)
                  refine goes_ Try.func29 (by kernel_rfl) rfl #[.slice Ac cs.length dc] (by rfl) rfl rfl (by simp only [List.map_toArray, List.map_cons, List.map_nil]; rfl) ?_
                  with_reducible refine (wire_Ints.calls k Ac dc cs x1 _ (Kd.C_below HCd.out HX.out) hdc.out HX1.out).mono ?_
                  rintro e wx ⟨rfl, hbx⟩
                  refine ⟨_, rfl, ?_⟩
                  have HG6 := Lib.hid ((hbx.cell (World.block_lt_of_cell? _ _ HG.out)).trans HG.out)
                  have n_ := Lib.hid (HX.out.trans (hbx.mono HX.out.size)); clear HX; have HX := n_; clear n_
                  refine hK.out _ _ ⟨(HX.out.cell l6).trans e6, (HX.out.cell l7).trans e7, (HX.out.cell l3).trans e3, (HX.out.cell l8).trans e8⟩ (fun hHeld => ?_)
                  clear hK K
                  refine norm_ (a' := ?_) ?_ ?_
                  rotate_left
                  · show Act.put _ (some 78) _ = _
                    simp only [Act.put, List.setIfInBounds_toArray, List.set_cons_zero, List.set_cons_succ, i64_w, i32_w]
                    rfl
                  exact norm_ (by simp only [putAll, Act.put, List.setIfInBounds_toArray, List.set_cons_zero, List.set_cons_succ]) (hCont (.slice (some ⟨wd.heap.size, 0, none⟩) 1 1) _ ⟨HX.out, wd.heap.size, rfl, HG6.out⟩)
              rintro s w' ⟨hF1, gb, rfl, hgb⟩
              have HX := Lib.hid hF1
              have hHeld : w'.cell? ⟨w1.heap.size, 0, none⟩ = some (.slice Ac cs.length dc) ∧ w'.cell? ⟨w1.heap.size + 1 + 1, 0, none⟩ = some vt ∧ w'.cell? ⟨w.heap.size, 0, none⟩ = some (.string a1) ∧ w'.cell? ⟨w1.heap.size + 1 + 1 + 1, 0, none⟩ = some (.int .i64 (fr : Int)) := ⟨(HX.out.cell l6).trans e6, (HX.out.cell l7).trans e7, (HX.out.cell l3).trans e3, (HX.out.cell l8).trans e8⟩
              refine norm_ (a' := ?_) ?_ ?_
              rotate_left
              · simp only [putAll, Act.put, List.setIfInBounds_toArray, List.set_cons_zero, List.set_cons_succ]
                rfl
              refine last_ (i := 7) (N := some 84) #[true, true, true, true, true, true, true, true, false, false, false] rfl rfl (by kernel_rfl) (by decide) (fun K hK => ?_)
              obtain ⟨v9, w9, hrun9, hr9, hg9⟩ := append_str1 w' w1.heap.size vt ts (a1.extract fr a1.size) ⟨gb, 0, none⟩ 1 (fun k => ¬ Nb w1.heap.size k) (Kd.R_below HTd.out.rt HX.out) (fun k hk => nb_new (Nat.le_trans HTd.out.lt HX.out.size) hk) hgb (Nat.le_trans (by have := HTd.out.lt; omega) HX.out.size) (by have := HK.out; omega)
              refine append_step (by rfl) (.tmp 79) (.tmp 83) 32 rfl rfl rfl rfl hrun9 ?_
              obtain ⟨At, dt, rfl⟩ := Kd.R_slice hr9
              have HR9 := Lib.hid hr9
              have HB9 := Lib.hid ((HBd.out.trans (HX.out.mono HBd.out.size)).grown hg9 (Nat.le_trans HBd.out.size HX.out.size) (fun k hk => Kd.R_base HTd.out.rt k hk))
              refine hK.out _ _ ?_
              clear hK K
              refine norm_ (a' := ?_) ?_ ?_
              rotate_left
              · show Act.put _ (some 84) _ = _
                simp only [Act.put, List.setIfInBounds_toArray, List.set_cons_zero, List.set_cons_succ, i64_w, i32_w]
                rfl
              refine last_ (i := 8) (N := some 85) #[true, true, true, true, true, true, true, true, true, false, false] rfl rfl (by kernel_rfl) (by decide) (fun K hK => ?_)
              refine goes_ Try.func30 (by kernel_rfl) rfl #[.slice At (ts ++ [a1.extract fr a1.size]).length dt] (by rfl) rfl rfl (by simp only [List.map_toArray, List.map_cons, List.map_nil]; rfl) ?_
              with_reducible refine (wire_Texts.calls k At dt (ts ++ [a1.extract fr a1.size]) y1 _ (Kd.R_reads' HR9.out).2.2 (Kd.R_reads' HR9.out).2.1 HY1.out).mono ?_
              rintro e wy ⟨rfl, hby⟩
              refine ⟨_, rfl, ?_⟩
              refine hK.out _ _ ?_
              clear hK K
              refine norm_ (a' := ?_) ?_ ?_
              rotate_left
              · show Act.put _ (some 85) _ = _
                simp only [Act.put, List.setIfInBounds_toArray, List.set_cons_zero, List.set_cons_succ, i64_w, i32_w]
                rfl
              refine pure_ (i := 9) (N := some 86) (v := ?_) (a' := ?_) #[true, true, true, true, true, true, true, true, true, true, false] rfl rfl (by kernel_rfl) (fun _ _ _ h => h) (Or.inl ⟨by rfl, ?_⟩) ?_ ?_
              rotate_left
              · intro w'
                go_simp
                with_reducible rfl
              rotate_left
              · simp only [Act.put, List.setIfInBounds_toArray, List.set_cons_zero, List.set_cons_succ, i64_w, i32_w]
                rfl
              refine pure_ (i := 10) (N := some 4) (v := ?_) (a' := ?_) #[true, true, true, true, true, true, true, true, true, true, true] rfl rfl (by kernel_rfl) (fun _ _ _ h => h) (Or.inl ⟨by rfl, ?_⟩) ?_ ?_
              rotate_left
              · intro w'
                go_simp
                with_reducible rfl
              rotate_left
              · simp only [Act.put, List.setIfInBounds_toArray, List.set_cons_zero, List.set_cons_succ, i64_w, i32_w]
                rfl
              refine done_ (by kernel_rfl) ?_
              go_wp2
              go_ret
              exact ⟨rfl, ((HBB.out.trans (HB1.out.mono HBB.out.size)).trans (HB9.out.mono (Nat.le_of_lt hgl.out))).trans (hby.mono (Nat.le_trans (Nat.le_of_lt hgl.out) HB9.out.size))⟩
            · rw [if_neg hsz] at hh
              cases hh
  · rw [if_neg c1] at h
    obtain rfl := Option.some.inj h
    have d1 : decide (65536 < (a1.size : Int)) = true := decide_eq_true (by omega)
    have d1' : (65536 < a1.size) = True := eq_true (by omega)
    clear h c1
    go_enter Try.func12, Try.ntmps12
    go_wp2
    go_ret
    exact ⟨rfl, HBB.out⟩
end Go.Proofs.Ytjjpiedcdcdejaa.Df

/- A row of bytes of one's own, which began as a string's conversion: strings put behind it. -/
set_option linter.unusedVariables false
set_option linter.unusedSimpArgs false
namespace Go.Proofs.Ytjjpiedcdcdejaa.Df
open Go.RowKit Go.Proofs.YtjjpiedcdcdejaaW.PrintWords Go.Proofs.YtjjpiedcdcdejaaW.PrintLast Go.Proofs.YtjjpiedcdcdejaaW.PrintMore Go.Proofs.Ytjjpiedcdcdejaa.Pb Go.Proofs.Ytjjpiedcdcdejaa.Gw Go.Lib
def BR (W : World) (base : Nat) (v : Value) (xs : ByteArray) : Prop := ∃ g cap, v = .slice (some ⟨g, 0, none⟩) xs.size cap ∧ base ≤ g ∧ g < W.heap.size ∧ xs.size ≤ cap ∧ W.rangeAt g 0 (strCells xs) ∧ W.there g 0 cap
theorem BR.below {W W' : World} {base : Nat} {v : Value} {xs : ByteArray} (h : BR W base v xs) (hb : Below W.heap.size W W') : BR W' base v xs := by
  obtain ⟨g, cap, h1, h2, h3, h4, h5, h6⟩ := h
  have hc : ∀ j, W'.cell? ⟨g, j, none⟩ = W.cell? ⟨g, j, none⟩ := fun j => hb.cell h3
  have hf : ∀ j, W'.frozen? ⟨g, j, none⟩ = W.frozen? ⟨g, j, none⟩ := fun j => hb.frozen h3
  exact ⟨g, cap, h1, h2, Nat.lt_of_lt_of_le h3 hb.size, h4, fun j v hv => (hc _).trans (h5 j v hv), fun j hj => by rw [hc, hf]; exact h6 j hj⟩
theorem und9 : Try.prog.underlying 9 = some .string := Try.underlying9
/-- Another string behind it. -/
theorem append_bytes (W : World) (base : Nat) (v : Value) (xs t : ByteArray) (h : BR W base v xs) (hl : xs.size + t.size ≤ 1000000000) (hbase : base ≤ W.heap.size) :
    ∃ v1 w1, (Builtin.append_ #[51, 9] 51 #[v, .string t]).run Try.prog W = .ok v1 w1 ∧ BR w1 base v1 (xs ++ t) ∧ W.grownBy w1 v.ownBlock := by
  obtain ⟨g, cap, rfl, hg, hlt, hcap, hr, hth⟩ := h
  obtain ⟨i0, hi, hz⟩ := Option.map_eq_some_iff.1 info5
  simp only [Prod.mk.injEq] at hz
  obtain ⟨hz0, hz1, hz2⟩ := hz
  have hsz : (xs ++ t).size = xs.size + t.size := ByteArray.size_append
  have hcells : strCells (xs ++ t) = strCells xs ++ strCells t := by simp [strCells, ByteArray.data_append]
  by_cases hroom : xs.size + t.size ≤ cap
  · have hf := run_firstCells_string (P := Try.prog) W 1 t
    have hthn : W.there g xs.size (strCells t).length := fun j hj => by
      rw [strCells_length] at hj
      have := hth (xs.size + j) (by omega)
      rwa [Nat.zero_add] at this
    have hst := run_storeCells_cells (P := Try.prog) g xs.size (strCells t) 0 W (fun j hj => by have := (hthn j hj).1; simpa using this) (fun j hj => by have := (hthn j hj).2; simpa using this) (strCells_oneCell t)
    simp only [Nat.add_zero] at hst
    refine ⟨.slice (some ⟨g, 0, none⟩) (xs.size + t.size) cap, W.setCells g xs.size (strCells t), ?_, ⟨g, cap, by rw [hsz], hg, ?_, by rw [hsz]; exact hroom, ?_, World.there_setCells hth g xs.size (strCells t)⟩, ?_⟩
    · simp [Builtin.append_, run_underlying Try.underlying51, run_underlying und9, sizeOf, typeInfo, hi, hz1, Builtin.lenOf, hroom, hf, Addr.add_lit, hst]
    · exact Nat.lt_of_lt_of_le hlt (below_cells (Nat.zero_le g) (strCells t) xs.size W (Below.refl 0 W)).size
    · rw [hcells]
      have h1 := World.rangeAt_setCells_apart hr g xs.size (strCells t) (Or.inr (Or.inl (by rw [strCells_length]; omega)))
      have h2 := World.rangeAt_setCells_same W g xs.size (strCells t) hthn
      intro j v hv
      rw [List.getElem?_append] at hv
      split at hv
      · exact h1 j v hv
      · rename_i hj
        have := h2 (j - (strCells xs).length) v hv
        rw [strCells_length] at this hj
        rwa [show xs.size + (j - xs.size) = 0 + j by omega] at this
    · have hbk : ∀ k, k ≠ g → (W.setCells g xs.size (strCells t)).heap[k]? = W.heap[k]? := by
        intro k hk
        have : ∀ (vs : List Value) (o : Nat) (w : World), (w.setCells g o vs).heap[k]? = w.heap[k]? := by
          intro vs
          induction vs with
          | nil => intro o w; rfl
          | cons a l ih => intro o w; exact (ih (o + 1) _).trans (Below.heap_setCell w ⟨g, o, none⟩ a k hk)
        exact this _ _ _
      have hB := below_cells (Nat.zero_le g) (strCells t) xs.size W (Below.refl 0 W)
      exact ⟨hB.os, hB.tape, hB.output, hB.size, fun k _ hk => hbk k (fun e => hk (by simp [Value.ownBlock, e]))⟩
  · have holds : ∀ j u, (strCells xs)[j]? = some u → W.cell? ((⟨g, 0, none⟩ : Addr).add j) = some u := fun j u hu => by
      rw [Addr.add_mid]
      exact hr j u hu
    have hrun := run_append_grow_string (P := Try.prog) W 51 9 51 5 i0 (.int .u8 0) Try.underlying51 und9 hi hz0 ⟨g, 0, none⟩ xs.size cap (strCells xs) (by rw [hz1, strCells_length]; omega) holds t (by omega) (by omega) (by rw [hz2]; exact growslice_fits (by omega) (by omega))
    have hge := grownCap_ge W (xs.size + t.size) cap 5
    have hnb : (W.drew.alloc (.cells ((strCells xs).toArray ++ (strCells t).toArray ++ Builtin.zeroCells (Value.int .u8 0).cells (grownCap W (xs.size + t.size) cap 5 - (xs.size + t.size))) 5)).heap[W.heap.size]? = some (.cells ((strCells xs).toArray ++ (strCells t).toArray ++ Builtin.zeroCells (Value.int .u8 0).cells (grownCap W (xs.size + t.size) cap 5 - (xs.size + t.size))) 5 (0, 0)) := (MapKept.heap_alloc W.drew _).1
    have hcs : ((strCells xs).toArray ++ (strCells t).toArray ++ Builtin.zeroCells (Value.int .u8 0).cells (grownCap W (xs.size + t.size) cap 5 - (xs.size + t.size))).size = grownCap W (xs.size + t.size) cap 5 := by
      have hz1 : (Value.int IntKind.u8 0).cells.size = 1 := rfl
      simp only [Array.size_append, List.size_toArray, size_zeroCells, hz1, strCells_length]
      omega
    refine ⟨_, _, hrun, ⟨W.heap.size, grownCap W (xs.size + t.size) cap 5, by rw [hsz], hbase, (Array.getElem?_eq_some_iff.1 hnb).1, by rw [hsz]; exact hge, ?_, there_blk hnb hcs⟩, ⟨rfl, rfl, rfl, ((Below.refl W.heap.size W).drew.alloc (Nat.le_refl _) _).size, fun k hk _ => (MapKept.heap_alloc W.drew _).2 k hk⟩⟩
    intro j v hv
    rw [hcells] at hv
    rw [Nat.zero_add]
    refine ck hnb j v ?_
    have hj : j < (strCells xs ++ strCells t).length := (List.getElem?_eq_some_iff.1 hv).1
    rw [← Array.getElem?_toList]
    simp only [Array.toList_append]
    rw [List.getElem?_append_left (by simpa using hj)]
    exact hv
/-- A string's conversion. -/
theorem bytes_of (W : World) (s : ByteArray) : ∃ v1 w1, (convert 9 51 (.string s)).run Try.prog W = .ok v1 w1 ∧ BR w1 W.heap.size v1 s ∧ Below W.heap.size W w1 := by
  have h1 := Lib.run_convert_string_bytes W 9 51 5 s (P := Try.prog) Try.underlying9 Try.underlying51 Try.underlying5
  have hge := grownCap_ge W s.size 0 5
  have hb := Lib.bytesWorld_at_new W 5 s
  have hcs : (bytesCells W 5 s).size = grownCap W s.size 0 5 := by
    simp only [bytesCells, Array.size_append, Array.size_map, Array.size_replicate]
    have : s.data.size = s.size := rfl
    omega
  refine ⟨_, _, h1, ⟨W.heap.size, _, rfl, Nat.le_refl _, by rw [Lib.bytesWorld_size]; omega, hge, fun j v hv => ?_, fun j hj => ?_⟩, Joins.below_bytesWorld _ _ _ _ (Nat.le_refl _)⟩
  · have hj : j < s.size := by have := (List.getElem?_eq_some_iff.1 hv).1; rwa [strCells_length] at this
    rw [Nat.zero_add, Lib.bytesWorld_cell W _ s j hj, ← hv]
    have hj' : j < s.data.toList.length := hj
    simp only [strCells, List.getElem?_map, List.getD_eq_getElem?_getD, List.getElem?_eq_getElem hj', Option.map_some, Option.getD_some]
  · rw [Nat.zero_add]
    have hj' : j < (bytesCells W 5 s).size := by rw [hcs]; exact hj
    refine ⟨by simp [World.cell?, hb, hj'], ?_⟩
    simp [World.frozen?, hb]
    omega
/-- And back. -/
theorem string_of (W : World) (base : Nat) (v : Value) (xs : ByteArray) (h : BR W base v xs) : (convert 51 9 v).run Try.prog W = .ok (.string xs) W := by
  obtain ⟨g, cap, rfl, hg, hlt, hcap, hr, hth⟩ := h
  have hx : strOfNums (xs.data.toList.map fun b => (b.toNat : Int)) = xs := by
    apply ByteArray.ext
    apply Array.ext'
    rw [strOfNums_data, List.map_map]
    exact (List.map_congr_left (fun b _ => by simp)).trans (List.map_id _)
  have := run_convert_bytes_arg W 51 5 Try.underlying51 Try.underlying5 g 0 xs.size cap (xs.data.toList.map fun b => (b.toNat : Int)) (by rw [List.length_map]; rfl) (fun i hi => hr i _ (by
    have hi' : i < xs.data.toList.length := hi
    have hi2 : i < (xs.data.toList.map fun b => (b.toNat : Int)).length := by rw [List.length_map]; exact hi'
    simp only [strCells, List.getElem?_map, List.getD_eq_getElem?_getD, List.getElem?_eq_getElem hi', Option.map_some, Option.getD_some])) 9 Try.underlying9 (P := Try.prog)
  rw [hx] at this
  exact this
end Go.Proofs.Ytjjpiedcdcdejaa.Df

/- What Apply computes, plain. -/
set_option linter.unusedVariables false
set_option linter.unusedSimpArgs false
namespace Go.Proofs.Ytjjpiedcdcdejaa.Df
open Go.RowKit Go.Proofs.YtjjpiedcdcdejaaW.PrintWords Go.Proofs.YtjjpiedcdcdejaaW.PrintLast Go.Proofs.YtjjpiedcdcdejaaW.PrintMore Go.Proofs.Ytjjpiedcdcdejaa.Pb Go.Proofs.Ytjjpiedcdcdejaa.Gw
theorem append_step2 {ops : Array Oper} {o : Oper} {a : Act} {Q : Exit → Act → World → Prop} {Kc : Act → World → Prop} {W w1 : World} {v v1 u : Value} (hw : Region.wanted o (yielded ops a.tmps) = true) (s x : Operand) (t t2 : TypeId)
    (ho : o.op = .call { callee := .builtin .append, args := #[s, x], argTypes := #[t, t2] }) (hty : o.type = t) (hs : a.eval s = v) (hx : a.eval x = u) (hrun : (Builtin.append_ #[t, t2] t #[v, u]).run Try.prog W = .ok v1 w1) (h : Kc (a.put o.dst v1) w1) :
    if Region.wanted o (yielded ops a.tmps) = true then Oper.wp Try.prog o a W Kc Q else Kc (a.put o.dst undef) W := by
  rw [if_pos hw]
  unfold Oper.wp execOp
  simp only [ho, hty, resolve, invoke, builtin, Sem.run_bind, Sem.run_pure, Result.andThen_ok, List.map_toArray, List.map_cons, List.map_nil, hs, hx, hrun]
  exact h
theorem append_wpl {ops : Array Oper} {rest : List Oper} {o : Oper} {a : Act} {Q : Exit → Act → World → Prop} {W w1 : World} {v v1 u : Value} (hgd : o.guard = none) (s x : Operand) (t t2 : TypeId)
    (ho : o.op = .call { callee := .builtin .append, args := #[s, x], argTypes := #[t, t2] }) (hty : o.type = t) (hs : a.eval s = v) (hx : a.eval x = u) (hrun : (Builtin.append_ #[t, t2] t #[v, u]).run Try.prog W = .ok v1 w1) (h : wpList Try.prog ops Q rest (a.put o.dst v1) w1) :
    wpList Try.prog ops Q (o :: rest) a W := by
  refine wpList_plain hgd fun K hK => ?_
  unfold Oper.wp execOp
  simp only [ho, hty, resolve, invoke, builtin, Sem.run_bind, Sem.run_pure, Result.andThen_ok, List.map_toArray, List.map_cons, List.map_nil, hs, hx, hrun]
  exact hK _ _ h
/-- A copy that the base has not. -/
def outOf (s : ByteArray) (f n : Int) : Prop := f < 0 ∨ n < 1 ∨ (s.size : Int) < f ∨ (s.size : Int) - f < n
instance (s : ByteArray) (f n : Int) : Decidable (outOf s f n) := by unfold outOf; infer_instance
/-- How many bytes there will be, cut at 65537; none: a copy that the base has not. -/
def chkI (s : ByteArray) (cs : List Int) (ts : List ByteArray) : Nat → Nat → Int → Option Int
  | 0, _, many => some many
  | r + 1, k, many => if outOf s (rdOf 0 cs (2 * (k : Int))) (rdOf 0 cs (2 * (k : Int) + 1)) then none
    else chkI s cs ts r (k + 1) (mn (many + rdOf 0 cs (2 * (k : Int) + 1) + ((rdOf ByteArray.empty ts ((k : Int) + 1)).size : Int)) 65537)
/-- The target. -/
def glueI (s : ByteArray) (cs : List Int) (ts : List ByteArray) : Nat → Nat → ByteArray → ByteArray
  | 0, _, out => out
  | r + 1, k, out => glueI s cs ts r (k + 1) (out ++ (s.extract (rdOf 0 cs (2 * (k : Int))).toNat s.size).extract 0 (rdOf 0 cs (2 * (k : Int) + 1)).toNat ++ rdOf ByteArray.empty ts ((k : Int) + 1))
def applyF (s : ByteArray) (cs : List Int) (ts : List ByteArray) (q : ByteArray) (b : Bool) : ByteArray × Int :=
  if b = true ∨ 0 < q.size ∨ ¬ 2 * ts.length = cs.length + 2 then (⟨#[]⟩, 4)
  else match chkI s cs ts (ts.length - 1) 0 ((rdOf ByteArray.empty ts 0).size : Int) with
    | none => (⟨#[]⟩, 3)
    | some m => if 65536 < m then (⟨#[]⟩, 2) else (glueI s cs ts (ts.length - 1) 0 (rdOf ByteArray.empty ts 0), 0)
def diff_Apply.f (k : Nat) (a0 a1 : ByteArray) : Option (ByteArray × Int) :=
  (wire_Reader_Ints.f k a1 false).bind fun c => (wire_Reader_Texts.f k c.2.1 c.2.2).bind fun t =>
    if a0.size ≤ 1000000000 ∧ c.1.length ≤ 1000000000 ∧ t.1.length ≤ 1000000000 ∧ ∀ x ∈ t.1, x.size ≤ 1000000000 then some (applyF a0 c.1 t.1 t.2.1 t.2.2) else none
theorem chkI_out {s : ByteArray} {cs : List Int} {ts : List ByteArray} {r k : Nat} {many f n : Int} (hr : 0 < r) (hf : f = rdOf 0 cs (2 * (k : Int))) (hn : n = rdOf 0 cs (2 * (k : Int) + 1)) (ho : outOf s f n) : chkI s cs ts r k many = none := by
  obtain ⟨m, rfl⟩ : ∃ m, r = m + 1 := ⟨r - 1, by omega⟩
  subst hf hn
  rw [chkI, if_pos ho]
theorem chkI_in {s : ByteArray} {cs : List Int} {ts : List ByteArray} {t : ByteArray} {r k : Nat} {many f n : Int} (hr : 0 < r) (hf : f = rdOf 0 cs (2 * (k : Int))) (hn : n = rdOf 0 cs (2 * (k : Int) + 1)) (ht : t = rdOf ByteArray.empty ts ((k : Int) + 1)) (ho : ¬ outOf s f n) :
    chkI s cs ts r k many = chkI s cs ts (r - 1) (k + 1) (mn (many + n + (t.size : Int)) 65537) := by
  obtain ⟨m, rfl⟩ : ∃ m, r = m + 1 := ⟨r - 1, by omega⟩
  subst hf hn ht
  rw [chkI, if_neg ho]
  rfl
theorem applyF_rng {s q : ByteArray} {cs : List Int} {ts : List ByteArray} (hl : 2 * ts.length = cs.length + 2) (hq : ¬ 0 < q.size) (h : chkI s cs ts (ts.length - 1) 0 ((rdOf ByteArray.empty ts 0).size : Int) = none) : applyF s cs ts q false = (⟨#[]⟩, 3) := by
  unfold applyF
  rw [if_neg (by rintro (h | h | h); cases h; exact hq h; exact h hl), h]
theorem applyF_many {s q : ByteArray} {cs : List Int} {ts : List ByteArray} {m : Int} (hl : 2 * ts.length = cs.length + 2) (hq : ¬ 0 < q.size) (h : chkI s cs ts (ts.length - 1) 0 ((rdOf ByteArray.empty ts 0).size : Int) = some m) (hm : 65536 < m) : applyF s cs ts q false = (⟨#[]⟩, 2) := by
  unfold applyF
  rw [if_neg (by rintro (h | h | h); cases h; exact hq h; exact h hl), h]
  exact if_pos hm
theorem applyF_ok {s q : ByteArray} {cs : List Int} {ts : List ByteArray} {m : Int} (hl : 2 * ts.length = cs.length + 2) (hq : ¬ 0 < q.size) (h : chkI s cs ts (ts.length - 1) 0 ((rdOf ByteArray.empty ts 0).size : Int) = some m) (hm : ¬ 65536 < m) :
    applyF s cs ts q false = (glueI s cs ts (ts.length - 1) 0 (rdOf ByteArray.empty ts 0), 0) := by
  unfold applyF
  rw [if_neg (by rintro (h | h | h); cases h; exact hq h; exact h hl), h]
  exact if_neg hm
theorem chk_up (s : ByteArray) (cs : List Int) (ts : List ByteArray) : ∀ (r k : Nat) (m many : Int), chkI s cs ts r k m = some many → many ≤ 65536 → m ≤ 65536
  | 0, _, m, many, h, hm => by rw [chkI] at h; cases h; exact hm
  | r + 1, k, m, many, h, hm => by
    rw [chkI] at h
    split at h
    · cases h
    · rename_i ho
      have h1 := chk_up s cs ts r (k + 1) _ many h hm
      have h2 : ¬ rdOf 0 cs (2 * (k : Int) + 1) < 1 := fun e => ho (Or.inr (Or.inl e))
      unfold mn at h1
      split at h1 <;> omega
theorem chk_next {s : ByteArray} {cs : List Int} {ts : List ByteArray} {t : ByteArray} {r k : Nat} {m many f n : Int} (hr : 0 < r) (hf : f = rdOf 0 cs (2 * (k : Int))) (hn : n = rdOf 0 cs (2 * (k : Int) + 1)) (ht : t = rdOf ByteArray.empty ts ((k : Int) + 1))
    (h : chkI s cs ts r k m = some many) (hm : many ≤ 65536) : ¬ outOf s f n ∧ m + n + (t.size : Int) ≤ 65536 ∧ chkI s cs ts (r - 1) (k + 1) (m + n + (t.size : Int)) = some many := by
  by_cases ho : outOf s f n
  · rw [chkI_out hr hf hn ho] at h
    cases h
  · rw [chkI_in hr hf hn ht ho] at h
    have h1 := chk_up _ _ _ _ _ _ _ h hm
    have h2 : mn (m + n + (t.size : Int)) 65537 = m + n + (t.size : Int) := by unfold mn at h1 ⊢; split at h1 <;> (split <;> omega)
    rw [h2] at h h1
    exact ⟨ho, h1, h⟩
theorem glueI_next {s : ByteArray} {cs : List Int} {ts : List ByteArray} {t out : ByteArray} {r k : Nat} {f n : Int} (hr : 0 < r) (hf : f = rdOf 0 cs (2 * (k : Int))) (hn : n = rdOf 0 cs (2 * (k : Int) + 1)) (ht : t = rdOf ByteArray.empty ts ((k : Int) + 1)) :
    glueI s cs ts r k out = glueI s cs ts (r - 1) (k + 1) (out ++ (s.extract f.toNat s.size).extract 0 n.toNat ++ t) := by
  obtain ⟨m, rfl⟩ : ∃ m, r = m + 1 := ⟨r - 1, by omega⟩
  subst hf hn ht
  rfl
theorem mn_bound {x : Int} (h0 : 0 ≤ x) : 0 ≤ mn x 65537 ∧ mn x 65537 ≤ 1000000000 := by unfold mn; split <;> omega
end Go.Proofs.Ytjjpiedcdcdejaa.Df

/- diff.Apply. -/
set_option linter.unusedVariables false
set_option linter.unusedSimpArgs false
namespace Go.Proofs.Ytjjpiedcdcdejaa.Df
open Go.RowKit Go.Proofs.YtjjpiedcdcdejaaW.PrintWords Go.Proofs.YtjjpiedcdcdejaaW.PrintLast Go.Proofs.YtjjpiedcdcdejaaW.PrintMore Go.Proofs.Ytjjpiedcdcdejaa.Pb Go.Proofs.Ytjjpiedcdcdejaa.Gw
theorem BR.base {W : World} {base : Nat} {v : Value} {xs : ByteArray} (h : BR W base v xs) : ∀ k, v.ownBlock = some k → base ≤ k := by
  obtain ⟨g, cap, rfl, h2, _⟩ := h
  intro k hk
  have : g = k := by simpa [Value.ownBlock] using hk
  omega
theorem rd_le {ts : List ByteArray} (h : ∀ x ∈ ts, x.size ≤ 1000000000) (i : Int) : (rdOf ByteArray.empty ts i).size ≤ 1000000000 := by
  unfold rdOf
  rw [List.getD_eq_getElem?_getD]
  cases e : ts[i.toNat]? with
  | none => exact Nat.zero_le _
  | some x => exact h x (List.mem_of_getElem? e)
set_option maxHeartbeats 3000000 in
set_option maxRecDepth 100000 in
theorem diff_Apply.calls (k : Nat) (a0 a1 r : ByteArray) (er : Int) (w : World) (h : diff_Apply.f k a0 a1 = some (r, er)) :
    Calls Try.prog 16 #[.string a0, .string a1] w fun e w' => e = .returned (.tuple #[.string r, .int .i64 er]) ∧ Below w.heap.size w w' := by
  unfold diff_Apply.f at h
  obtain ⟨⟨cs, q1, b1⟩, hc, h⟩ := Option.bind_eq_some_iff.1 h
  obtain ⟨⟨ts, q2, b2⟩, ht, h⟩ := Option.bind_eq_some_iff.1 h
  by_cases hg : a0.size ≤ 1000000000 ∧ cs.length ≤ 1000000000 ∧ ts.length ≤ 1000000000 ∧ ∀ x ∈ ts, x.size ≤ 1000000000
  · rw [if_pos hg] at h
    have h := Option.some.inj h
    have HH := Lib.hid h
    have HC := Lib.hid hc
    have HT := Lib.hid ht
    have HG := Lib.hid hg
    have hcl := Lib.hid hg.2.1
    clear h hc ht hg
    go_enter Try.func16, Try.ntmps16
    go_upto_region 3 with (first
      | ((go_at_call 19); (with_reducible refine (wire_New.calls a1 a1 false w w (Below.refl _ _) rfl).mono ?_); rintro e w1 ⟨g, rfl, hi1, hb1, hbx⟩; have HI1 := Lib.hid hi1; have HB1 := Lib.hid hb1; clear hi1 hb1 hbx)
      | ((go_at_call 20); (with_reducible refine (wire_Reader_Ints.calls k g a1 false cs q1 b1 w w1 HI1.out HB1.out HC.out).mono ?_); rintro e w2 ⟨vc, rfl, hrc, hi2, hb2, hk2⟩; have HRC := Lib.hid hrc; have HI2 := Lib.hid hi2; have HB2 := Lib.hid hb2; clear hrc hi2 hb2 hk2)
      | ((go_at_call 21); (with_reducible refine (wire_Reader_Texts.calls k g q1 b1 ts q2 b2 w w2 HI2.out HB2.out HT.out).mono ?_); rintro e w3 ⟨vt, rfl, hrt, hi3, hb3, hk3⟩; have HRT := Lib.hid hrt; have HI3 := Lib.hid hi3; have HB3 := Lib.hid hb3; have HCC := Lib.hid (Kd.R_keep (HI2.out.apart (Kd.R_bound HRC.out) (by decide)) hk3 (fun _ h => h.2)); clear hrt hi3 hb3 hk3))
    obtain ⟨Ac, dc, rfl⟩ := Kd.R_slice HCC.out
    obtain ⟨At, dt, rfl⟩ := Kd.R_slice HRT.out
    cases b2 with
    | true =>
      have hA : applyF a0 cs ts q2 true = (⟨#[]⟩, 4) := if_pos (Or.inl rfl)
      have hh := HH.out.symm.trans hA
      injection hh with hr he
      subst hr he
      go_wp2_with ((go_at_call 22); (with_reducible refine (wire_Reader_Bad.calls g q2 true true q2 true w w3 HI3.out HB3.out rfl).mono ?_); rintro e w4 ⟨rfl, hi4, hb4, hk4⟩; have HI4 := Lib.hid hi4; have HB4 := Lib.hid hb4; have HC4 := Lib.hid (Kd.R_keep (HI3.out.apart (Kd.R_bound HCC.out) (by decide)) hk4 (fun _ h => h.2)); have HT4 := Lib.hid (Kd.R_keep (HI3.out.apart (Kd.R_bound HRT.out) (by decide)) hk4 (fun _ h => h.2)); clear hi4 hb4 hk4)
      go_ret2
      exact ⟨rfl, HB4.out⟩
    | false =>
      by_cases hq : 0 < q2.size
      · have hA : applyF a0 cs ts q2 false = (⟨#[]⟩, 4) := if_pos (Or.inr (Or.inl hq))
        have hh := HH.out.symm.trans hA
        injection hh with hr he
        subst hr he
        have d1 : decide (0 < (q2.size : Int)) = true := decide_eq_true (by omega)
        have d1' : (0 < q2.size) = True := eq_true hq
        clear hq hA
        go_wp2_with (first | ((go_at_call 22); (with_reducible refine (wire_Reader_Bad.calls g q2 false false q2 false w w3 HI3.out HB3.out rfl).mono ?_); rintro e w4 ⟨rfl, hi4, hb4, hk4⟩; have HI4 := Lib.hid hi4; have HB4 := Lib.hid hb4; have HC4 := Lib.hid (Kd.R_keep (HI3.out.apart (Kd.R_bound HCC.out) (by decide)) hk4 (fun _ h => h.2)); have HT4 := Lib.hid (Kd.R_keep (HI3.out.apart (Kd.R_bound HRT.out) (by decide)) hk4 (fun _ h => h.2)); clear hi4 hb4 hk4) | ((go_at_call 23); (with_reducible refine (wire_Reader_Left.calls g q2 false (q2.size : Int) q2 false w w4 HI4.out HB4.out (by simp [wire_Reader_Left.f, wire_Reader_Bad.f])).mono ?_); rintro e w5 ⟨rfl, hi5, hb5, hk5⟩; have HI5 := Lib.hid hi5; have HB5 := Lib.hid hb5; have HC5 := Lib.hid (Kd.R_keep (HI4.out.apart (Kd.R_bound HC4.out) (by decide)) hk5 (fun _ h => h.2)); have HT5 := Lib.hid (Kd.R_keep (HI4.out.apart (Kd.R_bound HT4.out) (by decide)) hk5 (fun _ h => h.2)); clear hi5 hb5 hk5))
        go_ret2
        exact ⟨rfl, HB5.out⟩
      · by_cases hl : 2 * ts.length = cs.length + 2
        · have hgg := HG.out
          have d1 : decide (0 < (q2.size : Int)) = false := decide_eq_false (by omega)
          have d1' : (0 < q2.size) = False := eq_false hq
          have w1' : wrap64 (2 * (ts.length : Int)) = 2 * (ts.length : Int) := by unfold wrap64; omega
          have w2' : wrap64 ((cs.length : Int) + 2) = (cs.length : Int) + 2 := by unfold wrap64; omega
          have d2 : ((2 * (ts.length : Int)) == ((cs.length : Int) + 2)) = true := beq_iff_eq.mpr (by omega)
          have d2' : ((2 * (ts.length : Int)) != ((cs.length : Int) + 2)) = false := bne_eq_false_iff_eq.mpr (by omega)
          have HL := Lib.hid (show 2 * ts.length = cs.length + 2 ∧ ts.length ≤ 1000000000 ∧ a0.size ≤ 1000000000 from ⟨hl, hgg.2.2.1, hgg.1⟩)
          have HTS := Lib.hid hgg.2.2.2
          have HQ := Lib.hid hq
          clear hgg hq hl
          obtain ⟨gt, rfl⟩ := R_some HRT.out (by have := HL.out; omega)
          go_upto_region 5 with (first | ((go_at_call 22); (with_reducible refine (wire_Reader_Bad.calls g q2 false false q2 false w w3 HI3.out HB3.out rfl).mono ?_); rintro e w4 ⟨rfl, hi4, hb4, hk4⟩; have HI4 := Lib.hid hi4; have HB4 := Lib.hid hb4; have HC4 := Lib.hid (Kd.R_keep (HI3.out.apart (Kd.R_bound HCC.out) (by decide)) hk4 (fun _ h => h.2)); have HT4 := Lib.hid (Kd.R_keep (HI3.out.apart (Kd.R_bound HRT.out) (by decide)) hk4 (fun _ h => h.2)); clear hi4 hb4 hk4) | ((go_at_call 23); (with_reducible refine (wire_Reader_Left.calls g q2 false (q2.size : Int) q2 false w w4 HI4.out HB4.out (by simp [wire_Reader_Left.f, wire_Reader_Bad.f])).mono ?_); rintro e w5 ⟨rfl, hi5, hb5, hk5⟩; have HI5 := Lib.hid hi5; have HB5 := Lib.hid hb5; have HC5 := Lib.hid (Kd.R_keep (HI4.out.apart (Kd.R_bound HC4.out) (by decide)) hk5 (fun _ h => h.2)); have HT5 := Lib.hid (Kd.R_keep (HI4.out.apart (Kd.R_bound HT4.out) (by decide)) hk5 (fun _ h => h.2)); clear hi5 hb5 hk5))
          have c0 : w5.cell? ⟨gt, 0, none⟩ = some (.string (rdOf ByteArray.empty ts 0)) := (Kd.R_cell ByteArray.empty HT5.out 0 (Int.le_refl 0) (by have := HL.out; omega)).1
          have i1 : ((0 : Int) < (ts.length : Int)) = True := eq_true (by have := HL.out; omega)
          have i1' : (0 < ts.length) = True := eq_true (by have := HL.out; omega)
          have i2 : ((1 : Int) ≤ (ts.length : Int)) = True := eq_true (by have := HL.out; omega)
          have i2' : (1 ≤ ts.length) = True := eq_true (by have := HL.out; omega)
          go_upto_block 0 with fail
          have hdt := Lib.hid (Kd.R_reads' HT5.out).2.1
          obtain ⟨Bs, hBs⟩ : ∃ B : Option Addr, (if dt = 1 then some (⟨gt, 0, none⟩ : Addr) else some ⟨gt, 1, none⟩) = B := ⟨_, rfl⟩
          have HBs := Lib.hid hBs
          simp only [hBs]
          obtain ⟨L, hLe⟩ : ∃ L, ts.length - 1 = L := ⟨_, rfl⟩
          simp only [hLe]
          have HLE := Lib.hid hLe
          clear hBs hLe d1 d1' d2 d2' w1' w2'
          go_wp2_with fail
          go_loopg [9, 46] (L + 1) (fun kq v9 v46 w' => ∃ (many y : Int) (j : Nat), v9 = .int .i64 many ∧ v46 = .int .i64 y ∧ y = (j : Int) ∧ j + kq = L + 1 ∧ j ≤ L ∧ chkI a0 cs ts (L - j) j many = chkI a0 cs ts (ts.length - 1) 0 ((rdOf ByteArray.empty ts 0).size : Int) ∧ 0 ≤ many ∧ many ≤ 1000000000 ∧ Below w5.heap.size w5 w')
          case atStart => exact ⟨_, 0, 0, rfl, rfl, rfl, by omega, Nat.zero_le _, by rw [HLE.out]; rfl, by omega, by have := rd_le HTS.out 0; omega, Below.refl _ _⟩
          case round =>
            clear c0 i1 i1' i2 i2'
            obtain ⟨many, y, j, rfl, rfl, hy, hj, hjl, hchk, hm0, hm1, hBi⟩ := hrel
            cases gk with
            | zero => omega
            | succ k1 =>
              by_cases hjn : j < L
              · have e1 : decide (y < (L : Int)) = true := decide_eq_true (by omega)
                have s1 : (0 ≤ y) = True := eq_true (by omega)
                have s2 : (y < (L : Int)) = True := eq_true (by omega)
                have hB1 : Bs = some ⟨gt, 1, none⟩ := by
                  rw [← HBs.out]
                  split
                  · rename_i hd
                    have h1 := hdt.out
                    have h2 := HLE.out
                    omega
                  · rfl
                subst hB1
                obtain ⟨gc, rfl⟩ := R_some HC5.out (by have h1 := HL.out; have h2 := HLE.out; omega)
                have ht1 := (Kd.R_cell ByteArray.empty HT5.out (y + 1) (by omega) (by have h2 := HLE.out; omega)).1
                rw [show (y + 1).toNat = 1 + y.toNat by omega] at ht1
                have hc1 := (Kd.R_cell 0 HC5.out (2 * y) (by omega) (by have h1 := HL.out; have h2 := HLE.out; omega)).1
                have hc2 := (Kd.R_cell 0 HC5.out (2 * y + 1) (by omega) (by have h1 := HL.out; have h2 := HLE.out; omega)).1
                obtain ⟨t, ht⟩ : ∃ t, t = rdOf ByteArray.empty ts (y + 1) := ⟨_, rfl⟩
                obtain ⟨f, hf⟩ : ∃ f, f = rdOf 0 cs (2 * y) := ⟨_, rfl⟩
                obtain ⟨n, hn⟩ : ∃ n, n = rdOf 0 cs (2 * y + 1) := ⟨_, rfl⟩
                rw [← ht] at ht1
                rw [← hf] at hc1
                rw [← hn] at hc2
                have hct := (hBi.cell (World.block_lt_of_cell? _ _ ht1)).trans ht1
                have k1c : wr.drew.cell? ⟨gc, (2 * y).toNat, none⟩ = some (.int .i64 f) := (hBi.cell (World.block_lt_of_cell? _ _ hc1)).trans hc1
                have k2c : wr.drew.cell? ⟨gc, (2 * y + 1).toNat, none⟩ = some (.int .i64 n) := (hBi.cell (World.block_lt_of_cell? _ _ hc2)).trans hc2
                have w2e : wrap64 (2 * y) = 2 * y := by have h1 := HL.out; have h2 := HLE.out; unfold wrap64; omega
                have w3e : wrap64 (2 * y + 1) = 2 * y + 1 := by have h1 := HL.out; have h2 := HLE.out; unfold wrap64; omega
                have p1 : (0 ≤ 2 * y) = True := eq_true (by omega)
                have p2 : (2 * y < (cs.length : Int)) = True := eq_true (by have h1 := HL.out; have h2 := HLE.out; omega)
                have p3 : (0 ≤ 2 * y + 1) = True := eq_true (by omega)
                have p4 : (2 * y + 1 < (cs.length : Int)) = True := eq_true (by have h1 := HL.out; have h2 := HLE.out; omega)
                have HBi := Lib.hid hBi
                have HFN := Lib.hid (show f = rdOf 0 cs (2 * (j : Int)) ∧ n = rdOf 0 cs (2 * (j : Int) + 1) ∧ t = rdOf ByteArray.empty ts ((j : Int) + 1) by rw [← hy]; exact ⟨hf, hn, ht⟩)
                have HCK := Lib.hid hchk
                have HJ := Lib.hid (show j < L ∧ y = (j : Int) ∧ j + 1 + k1 = L + 1 ∧ 0 ≤ many ∧ many ≤ 1000000000 from ⟨hjn, hy, by omega, hm0, hm1⟩)
                clear ht1 hc1 hc2 ht hf hn hBi hchk hy hj hjl hm0 hm1 hjn
                go_wp2
                refine start_ (n := 13) (S := fun w' => w'.cell? ⟨gc, (2 * y).toNat, none⟩ = some (.int .i64 f) ∧ w'.cell? ⟨gc, (2 * y + 1).toNat, none⟩ = some (.int .i64 n)) (ds := []) #[false, false, false, false, false, false, false, false, false, false, false, false, false] (by kernel_rfl) rfl rfl ⟨k1c, k2c⟩ (fun hHeld => ?_)
                refine pure_ (i := 0) (N := some 51) (v := ?_) (a' := ?_) #[true, false, false, false, false, false, false, false, false, false, false, false, false] rfl rfl (by kernel_rfl) (fun _ _ _ h => h) (Or.inl ⟨by rfl, ?_⟩) ?_ ?_
                rotate_left
                · intro w'
                  go_simp
                  with_reducible rfl
                rotate_left
                · simp only [Act.put, List.setIfInBounds_toArray, List.set_cons_zero, List.set_cons_succ, i64_w, i32_w]
                  rfl
                refine pure_ (i := 1) (N := some 52) (v := ?_) (a' := ?_) #[true, true, false, false, false, false, false, false, false, false, false, false, false] rfl rfl (by kernel_rfl) (fun _ _ _ h => h) (Or.inl ⟨by rfl, ?_⟩) ?_ ?_
                rotate_left
                · intro w'
                  go_simp
                  with_reducible rfl
                rotate_left
                · simp only [Act.put, List.setIfInBounds_toArray, List.set_cons_zero, List.set_cons_succ, i64_w, i32_w]
                  rfl
                refine pure_ (i := 2) (N := some 53) (v := ?_) (a' := ?_) #[true, true, true, false, false, false, false, false, false, false, false, false, false] rfl rfl (by kernel_rfl) (fun _ _ _ h => h) (Or.inl ⟨by rfl, ?_⟩) ?_ ?_
                rotate_left
                · intro w'
                  go_simp
                  with_reducible rfl
                rotate_left
                · simp only [Act.put, List.setIfInBounds_toArray, List.set_cons_zero, List.set_cons_succ, i64_w, i32_w]
                  rfl
                refine pure_ (i := 3) (N := some 54) (v := ?_) (a' := ?_) #[true, true, true, true, false, false, false, false, false, false, false, false, false] rfl rfl (by kernel_rfl) (fun _ _ _ h => h) (Or.inl ⟨by rfl, ?_⟩) ?_ ?_
                rotate_left
                · intro w'
                  go_simp
                  with_reducible rfl
                rotate_left
                · simp only [Act.put, List.setIfInBounds_toArray, List.set_cons_zero, List.set_cons_succ, i64_w, i32_w]
                  rfl
                refine pure_ (i := 5) (N := some 56) (v := ?_) (a' := ?_) #[true, true, true, true, false, true, false, false, false, false, false, false, false] rfl rfl (by kernel_rfl) (fun _ _ _ h => h) (Or.inl ⟨by rfl, ?_⟩) ?_ ?_
                rotate_left
                · intro w'
                  go_simp
                  with_reducible rfl
                rotate_left
                · simp only [Act.put, List.setIfInBounds_toArray, List.set_cons_zero, List.set_cons_succ, i64_w, i32_w]
                  rfl
                refine pure_ (i := 6) (N := some 57) (v := ?_) (a' := ?_) #[true, true, true, true, false, true, true, false, false, false, false, false, false] rfl rfl (by kernel_rfl) (fun _ _ _ h => h) (Or.inl ⟨by rfl, ?_⟩) ?_ ?_
                rotate_left
                · intro w'
                  go_simp
                  with_reducible rfl
                rotate_left
                · simp only [Act.put, List.setIfInBounds_toArray, List.set_cons_zero, List.set_cons_succ, i64_w, i32_w]
                  rfl
                refine pure_ (i := 7) (N := some 58) (v := ?_) (a' := ?_) #[true, true, true, true, false, true, true, true, false, false, false, false, false] rfl rfl (by kernel_rfl) (fun _ _ _ h => h) (Or.inl ⟨by rfl, ?_⟩) ?_ ?_
                rotate_left
                · intro w'
                  go_simp
                  with_reducible rfl
                rotate_left
                · simp only [Act.put, List.setIfInBounds_toArray, List.set_cons_zero, List.set_cons_succ, i64_w, i32_w]
                  rfl
                refine pure_ (i := 8) (N := some 59) (v := ?_) (a' := ?_) #[true, true, true, true, false, true, true, true, true, false, false, false, false] rfl rfl (by kernel_rfl) (fun _ _ _ h => h) (Or.inl ⟨by rfl, ?_⟩) ?_ ?_
                rotate_left
                · intro w'
                  go_simp
                  with_reducible rfl
                rotate_left
                · simp only [Act.put, List.setIfInBounds_toArray, List.set_cons_zero, List.set_cons_succ, i64_w, i32_w]
                  rfl
                refine pure_ (i := 9) (N := some 60) (v := ?_) (a' := ?_) #[true, true, true, true, false, true, true, true, true, true, false, false, false] rfl rfl (by kernel_rfl) (fun _ _ _ h => h) (Or.inl ⟨by rfl, ?_⟩) ?_ ?_
                rotate_left
                · intro w'
                  go_simp
                  with_reducible rfl
                rotate_left
                · simp only [Act.put, List.setIfInBounds_toArray, List.set_cons_zero, List.set_cons_succ, i64_w, i32_w]
                  rfl
                refine take_ (i := 4) (N := some 55) (v := ?_) (a' := ?_) #[true, true, true, true, true, true, true, true, true, true, false, false, false] rfl rfl (by kernel_rfl) (fun _ _ _ h => h) (Or.inl ⟨by rfl, ?_⟩) hHeld ?_ ?_
                rotate_left
                · rintro w' ⟨s0, s1⟩
                  go_simp
                  with_reducible rfl
                rotate_left
                · simp only [Act.put, List.setIfInBounds_toArray, List.set_cons_zero, List.set_cons_succ, i64_w, i32_w]
                  rfl
                refine pure_ (i := 11) (N := some 12) (v := ?_) (a' := ?_) #[true, true, true, true, true, true, true, true, true, true, false, true, false] rfl rfl (by kernel_rfl) (fun _ _ _ h => h) (Or.inl ⟨by rfl, ?_⟩) ?_ ?_
                rotate_left
                · intro w'
                  go_simp
                  with_reducible rfl
                rotate_left
                · simp only [Act.put, List.setIfInBounds_toArray, List.set_cons_zero, List.set_cons_succ, i64_w, i32_w]
                  rfl
                refine take_ (i := 10) (N := some 61) (v := ?_) (a' := ?_) #[true, true, true, true, true, true, true, true, true, true, true, true, false] rfl rfl (by kernel_rfl) (fun _ _ _ h => h) (Or.inl ⟨by rfl, ?_⟩) hHeld ?_ ?_
                rotate_left
                · rintro w' ⟨s0, s1⟩
                  go_simp
                  with_reducible rfl
                rotate_left
                · simp only [Act.put, List.setIfInBounds_toArray, List.set_cons_zero, List.set_cons_succ, i64_w, i32_w]
                  rfl
                refine pure_ (i := 12) (N := some 13) (v := ?_) (a' := ?_) #[true, true, true, true, true, true, true, true, true, true, true, true, true] rfl rfl (by kernel_rfl) (fun _ _ _ h => h) (Or.inl ⟨by rfl, ?_⟩) ?_ ?_
                rotate_left
                · intro w'
                  go_simp
                  with_reducible rfl
                rotate_left
                · simp only [Act.put, List.setIfInBounds_toArray, List.set_cons_zero, List.set_cons_succ, i64_w, i32_w]
                  rfl
                refine done_ (by kernel_rfl) ?_
                by_cases h1 : f < 0
                · have f1 : decide (f < 0) = true := decide_eq_true h1
                  have hE : applyF a0 cs ts q2 false = (⟨#[]⟩, 3) := applyF_rng HL.out.1 HQ.out (HCK.out.symm.trans (chkI_out (by have := HJ.out; omega) HFN.out.1 HFN.out.2.1 (by exact Or.inl h1)))
                  have hh := HH.out.symm.trans hE
                  injection hh with hr he
                  subst hr he
                  clear hE
                  go_wp2
                  go_ret2
                  exact ⟨rfl, HB5.out.trans (HBi.out.drew.mono HB5.out.size)⟩
                · have f1 : decide (f < 0) = false := decide_eq_false h1
                  by_cases h2 : n < 1
                  · have f2 : decide (n < 1) = true := decide_eq_true h2
                    have hE : applyF a0 cs ts q2 false = (⟨#[]⟩, 3) := applyF_rng HL.out.1 HQ.out (HCK.out.symm.trans (chkI_out (by have := HJ.out; omega) HFN.out.1 HFN.out.2.1 (by exact Or.inr (Or.inl h2))))
                    have hh := HH.out.symm.trans hE
                    injection hh with hr he
                    subst hr he
                    clear hE
                    go_wp2
                    go_ret2
                    exact ⟨rfl, HB5.out.trans (HBi.out.drew.mono HB5.out.size)⟩
                  · have f2 : decide (n < 1) = false := decide_eq_false h2
                    by_cases h3 : (a0.size : Int) < f
                    · have f3 : decide ((a0.size : Int) < f) = true := decide_eq_true h3
                      have hE : applyF a0 cs ts q2 false = (⟨#[]⟩, 3) := applyF_rng HL.out.1 HQ.out (HCK.out.symm.trans (chkI_out (by have := HJ.out; omega) HFN.out.1 HFN.out.2.1 (by exact Or.inr (Or.inr (Or.inl h3)))))
                      have hh := HH.out.symm.trans hE
                      injection hh with hr he
                      subst hr he
                      clear hE
                      go_wp2
                      go_ret2
                      exact ⟨rfl, HB5.out.trans (HBi.out.drew.mono HB5.out.size)⟩
                    · have f3 : decide ((a0.size : Int) < f) = false := decide_eq_false h3
                      have wse : wrap64 ((a0.size : Int) - f) = (a0.size : Int) - f := by have h4 := HL.out; unfold wrap64; omega
                      by_cases h4 : (a0.size : Int) - f < n
                      · have f4 : decide ((a0.size : Int) - f < n) = true := decide_eq_true h4
                        have hE : applyF a0 cs ts q2 false = (⟨#[]⟩, 3) := applyF_rng HL.out.1 HQ.out (HCK.out.symm.trans (chkI_out (by have := HJ.out; omega) HFN.out.1 HFN.out.2.1 (by exact Or.inr (Or.inr (Or.inr h4)))))
                        have hh := HH.out.symm.trans hE
                        injection hh with hr he
                        subst hr he
                        clear hE
                        go_wp2
                        go_ret2
                        exact ⟨rfl, HB5.out.trans (HBi.out.drew.mono HB5.out.size)⟩
                      · have f4 : decide ((a0.size : Int) - f < n) = false := decide_eq_false h4
                        have hno : ¬ outOf a0 f n := by rintro (h | h | h | h); exact h1 h; exact h2 h; exact h3 h; exact h4 h
                        have hck := HCK.out
                        rw [chkI_in (by have := HJ.out; omega) HFN.out.1 HFN.out.2.1 HFN.out.2.2 hno] at hck
                        have htb : t.size ≤ 1000000000 := by rw [HFN.out.2.2]; exact rd_le HTS.out _
                        have wa : wrap64 (many + n) = many + n := by have h5 := HJ.out; have h6 := HL.out; unfold wrap64; omega
                        have wb : wrap64 (many + n + (t.size : Int)) = many + n + (t.size : Int) := by have h5 := HJ.out; have h6 := HL.out; unfold wrap64; omega
                        have hmb := Lib.hid (mn_bound (x := many + n + (t.size : Int)) (by have h5 := HJ.out; omega))
                        have HCK2 := Lib.hid hck
                        have hwy := Lib.hid (show wrap64 (y + 1) = ((j + 1 : Nat) : Int) by have h5 := HJ.out; have h6 := HL.out; have h7 := HLE.out; unfold wrap64; omega)
                        clear h1 h2 h3 h4 hno hck htb
                        go_wp2
                        go_roundg k1
                        case measure => have := HJ.out; omega
                        case rel => exact ⟨mn (many + n + (t.size : Int)) 65537, _, j + 1, congrArg (Value.int IntKind.i64) (by unfold mn; split <;> omega), rfl, hwy.out, by have := HJ.out; omega, HJ.out.1, (by rw [show L - (j + 1) = L - j - 1 by omega]; exact HCK2.out), hmb.out.1, hmb.out.2, HBi.out.drew⟩
              · have e1 : decide (y < (L : Int)) = false := decide_eq_false (by omega)
                have hjL : L - j = 0 := by omega
                rw [hjL] at hchk
                have hmany : chkI a0 cs ts (ts.length - 1) 0 ((rdOf ByteArray.empty ts 0).size : Int) = some many := hchk.symm
                have HBi := Lib.hid hBi
                by_cases hm : 65536 < many
                · have hE := applyF_many HL.out.1 HQ.out hmany hm
                  have hh := HH.out.symm.trans hE
                  injection hh with hr he
                  subst hr he
                  have f1 : decide (65536 < many) = true := decide_eq_true hm
                  clear hE hm hmany hchk hjL hy hj hjl hm0 hm1 hjn hBi
                  go_wp2
                  go_ret2
                  exact ⟨rfl, HB5.out.trans (HBi.out.mono HB5.out.size)⟩
                · have hE := applyF_ok HL.out.1 HQ.out hmany hm
                  have hh := HH.out.symm.trans hE
                  injection hh with hr he
                  subst hr he
                  have f1 : decide (65536 < many) = false := decide_eq_false hm
                  have HMY := Lib.hid hmany
                  have HM := Lib.hid hm
                  clear hE hm hmany hchk hjL hy hj hjl hm0 hm1 hjn hBi
                  have c0 : wr.cell? ⟨gt, 0, none⟩ = some (.string (rdOf ByteArray.empty ts 0)) := by
                    have h1 := (Kd.R_cell ByteArray.empty HT5.out 0 (Int.le_refl 0) (by have := HL.out; omega)).1
                    exact (HBi.out.cell (World.block_lt_of_cell? _ _ h1)).trans h1
                  have i1 : ((0 : Int) < (ts.length : Int)) = True := eq_true (by have := HL.out; omega)
                  have i1' : (0 < ts.length) = True := eq_true (by have := HL.out; omega)
                  have i2 : ((1 : Int) ≤ (ts.length : Int)) = True := eq_true (by have := HL.out; omega)
                  have i2' : (1 ≤ ts.length) = True := eq_true (by have := HL.out; omega)
                  obtain ⟨v6, w6, hcv, hbr, hb6⟩ := bytes_of wr (rdOf ByteArray.empty ts 0)
                  have HBR := Lib.hid hbr
                  have HB6 := Lib.hid hb6
                  clear hbr hb6
                  have hBs2 := HBs.out
                  have hLe2 := HLE.out
                  go_wp2
                  go_loopg [14, 99] (L + 1) (fun kq v14 v99 w' => ∃ (y2 : Int) (j2 : Nat) (out : ByteArray), v99 = .int .i64 y2 ∧ y2 = (j2 : Int) ∧ j2 + kq = L + 1 ∧ j2 ≤ L ∧ BR w' wr.heap.size v14 out ∧ Below wr.heap.size wr w' ∧ chkI a0 cs ts (L - j2) j2 (out.size : Int) = some many ∧ glueI a0 cs ts (L - j2) j2 out = glueI a0 cs ts (ts.length - 1) 0 (rdOf ByteArray.empty ts 0))
                  case atStart => exact ⟨0, 0, rdOf ByteArray.empty ts 0, rfl, rfl, by omega, Nat.zero_le _, HBR.out, HB6.out, by rw [← HMY.out, HLE.out]; rfl, by rw [HLE.out]; rfl⟩
                  case round =>
                    clear c0 i1 i1' i2 i2' hBs2 hLe2 hcv
                    obtain ⟨y2, j2, out, rfl, hy, hj, hjl, hbr, hb, hck, hgl⟩ := hrel
                    cases gk with
                    | zero => omega
                    | succ k1 =>
                      by_cases hjn : j2 < L
                      · have e2 : decide (y2 < (L : Int)) = true := decide_eq_true (by omega)
                        have s1 : (0 ≤ y2) = True := eq_true (by omega)
                        have s2 : (y2 < (L : Int)) = True := eq_true (by omega)
                        have hB1 : Bs = some ⟨gt, 1, none⟩ := by
                          rw [← HBs.out]
                          split
                          · rename_i hd
                            have h1 := hdt.out
                            have h2 := HLE.out
                            omega
                          · rfl
                        subst hB1
                        obtain ⟨gc, rfl⟩ := R_some HC5.out (by have h1 := HL.out; have h2 := HLE.out; omega)
                        have hbw := HBi.out.trans (hb.mono HBi.out.size)
                        have ht1 := (Kd.R_cell ByteArray.empty HT5.out (y2 + 1) (by omega) (by have h2 := HLE.out; omega)).1
                        rw [show (y2 + 1).toNat = 1 + y2.toNat by omega] at ht1
                        have hc1 := (Kd.R_cell 0 HC5.out (2 * y2) (by omega) (by have h1 := HL.out; have h2 := HLE.out; omega)).1
                        have hc2 := (Kd.R_cell 0 HC5.out (2 * y2 + 1) (by omega) (by have h1 := HL.out; have h2 := HLE.out; omega)).1
                        obtain ⟨t, ht⟩ : ∃ t, t = rdOf ByteArray.empty ts (y2 + 1) := ⟨_, rfl⟩
                        obtain ⟨f, hf⟩ : ∃ f, f = rdOf 0 cs (2 * y2) := ⟨_, rfl⟩
                        obtain ⟨n, hn⟩ : ∃ n, n = rdOf 0 cs (2 * y2 + 1) := ⟨_, rfl⟩
                        rw [← ht] at ht1
                        rw [← hf] at hc1
                        rw [← hn] at hc2
                        rw [hy] at hf hn ht
                        obtain ⟨hno, hsm, hck2⟩ := chk_next (by omega) hf hn ht hck (by have := HM.out; omega)
                        rw [glueI_next (by omega) hf hn ht] at hgl
                        have hf0 : 0 ≤ f := by by_cases h : f < 0; exact absurd (Or.inl h) hno; omega
                        have hn1 : 1 ≤ n := by by_cases h : n < 1; exact absurd (Or.inr (Or.inl h)) hno; omega
                        have hfs : f ≤ (a0.size : Int) := by by_cases h : (a0.size : Int) < f; exact absurd (Or.inr (Or.inr (Or.inl h))) hno; omega
                        have hns : n ≤ (a0.size : Int) - f := by by_cases h : (a0.size : Int) - f < n; exact absurd (Or.inr (Or.inr (Or.inr h))) hno; omega
                        have hes : (a0.extract f.toNat a0.size).size = a0.size - f.toNat := by rw [ByteArray.size_extract]; omega
                        have hps : ((a0.extract f.toNat a0.size).extract 0 n.toNat).size = n.toNat := by rw [ByteArray.size_extract, hes]; omega
                        have hct := (hbw.cell (World.block_lt_of_cell? _ _ ht1)).trans ht1
                        have k1c : wr.drew.cell? ⟨gc, (2 * y2).toNat, none⟩ = some (.int .i64 f) := (hbw.cell (World.block_lt_of_cell? _ _ hc1)).trans hc1
                        have k2c : wr.drew.cell? ⟨gc, (2 * y2 + 1).toNat, none⟩ = some (.int .i64 n) := (hbw.cell (World.block_lt_of_cell? _ _ hc2)).trans hc2
                        obtain ⟨v9, w9, hrun9, hbr9, hg9⟩ := append_bytes wr.drew _ _ out ((a0.extract f.toNat a0.size).extract 0 n.toNat) (hbr.below (Below.drew (Below.refl _ _))) (by rw [hps]; omega) hb.size
                        have hb9 := hb.drew.grown hg9 hb.size hbr.base
                        obtain ⟨vA, wA, hrunA, hbrA, hgA⟩ := append_bytes w9 _ _ _ t hbr9 (by rw [ByteArray.size_append, hps]; omega) hb9.size
                        have hbA := hb9.grown hgA hb9.size hbr9.base
                        have hsA : ((out ++ (a0.extract f.toNat a0.size).extract 0 n.toNat ++ t).size : Int) = (out.size : Int) + n + (t.size : Int) := by rw [ByteArray.size_append, ByteArray.size_append, hps]; omega
                        rw [← hsA, show L - j2 - 1 = L - (j2 + 1) by omega] at hck2
                        rw [show L - j2 - 1 = L - (j2 + 1) by omega] at hgl
                        have HR9 := Lib.hid hrun9
                        have HRA := Lib.hid hrunA
                        have HBA := Lib.hid hbrA
                        have HbA := Lib.hid hbA
                        have HC2 := Lib.hid hck2
                        have HGL := Lib.hid hgl
                        have w2e : wrap64 (2 * y2) = 2 * y2 := by have h1 := HL.out; have h2 := HLE.out; unfold wrap64; omega
                        have w3e : wrap64 (2 * y2 + 1) = 2 * y2 + 1 := by have h1 := HL.out; have h2 := HLE.out; unfold wrap64; omega
                        have hwy := Lib.hid (show wrap64 (y2 + 1) = ((j2 + 1 : Nat) : Int) by have h6 := HL.out; have h7 := HLE.out; unfold wrap64; omega)
                        have p1 : (0 ≤ 2 * y2) = True := eq_true (by omega)
                        have p2 : (2 * y2 < (cs.length : Int)) = True := eq_true (by have h1 := HL.out; have h2 := HLE.out; omega)
                        have p3 : (0 ≤ 2 * y2 + 1) = True := eq_true (by omega)
                        have p4 : (2 * y2 + 1 < (cs.length : Int)) = True := eq_true (by have h1 := HL.out; have h2 := HLE.out; omega)
                        have p5 : (0 ≤ f) = True := eq_true hf0
                        have p6 : (f ≤ (a0.size : Int)) = True := eq_true hfs
                        have p7 : (0 ≤ n) = True := eq_true (by omega)
                        have p8 : (n ≤ ((a0.extract f.toNat a0.size).size : Int)) = True := eq_true (by rw [hes]; omega)
                        have p9 : (n ≤ ((a0.size - f.toNat : Nat) : Int)) = True := eq_true (by omega)
                        have HJ := Lib.hid (show j2 < L ∧ j2 + 1 + k1 = L + 1 from ⟨hjn, by omega⟩)
                        clear ht1 hc1 hc2 ht hf hn hb hck hgl hy hj hjl hjn hbw hno hsm hck2 hf0 hn1 hfs hns hes hps hrun9 hbr9 hg9 hb9 hrunA hbrA hgA hbA hsA hbr
                        go_wp2
                        refine start_ (n := 17) (S := fun w' => w'.cell? ⟨gc, (2 * y2).toNat, none⟩ = some (.int .i64 f) ∧ w'.cell? ⟨gc, (2 * y2 + 1).toNat, none⟩ = some (.int .i64 n)) (ds := [15]) #[false, false, false, false, false, false, false, false, false, false, false, false, false, false, false, false, false] (by kernel_rfl) rfl rfl ⟨k1c, k2c⟩ (fun hHeld => ?_)
                        refine pure_ (i := 0) (N := some 104) (v := ?_) (a' := ?_) #[true, false, false, false, false, false, false, false, false, false, false, false, false, false, false, false, false] rfl rfl (by kernel_rfl) (fun _ _ _ h => h) (Or.inl ⟨by rfl, ?_⟩) ?_ ?_
                        rotate_left
                        · intro w'
                          go_simp
                          with_reducible rfl
                        rotate_left
                        · simp only [Act.put, List.setIfInBounds_toArray, List.set_cons_zero, List.set_cons_succ, i64_w, i32_w]
                          rfl
                        refine pure_ (i := 1) (N := some 105) (v := ?_) (a' := ?_) #[true, true, false, false, false, false, false, false, false, false, false, false, false, false, false, false, false] rfl rfl (by kernel_rfl) (fun _ _ _ h => h) (Or.inl ⟨by rfl, ?_⟩) ?_ ?_
                        rotate_left
                        · intro w'
                          go_simp
                          with_reducible rfl
                        rotate_left
                        · simp only [Act.put, List.setIfInBounds_toArray, List.set_cons_zero, List.set_cons_succ, i64_w, i32_w]
                          rfl
                        refine pure_ (i := 2) (N := some 106) (v := ?_) (a' := ?_) #[true, true, true, false, false, false, false, false, false, false, false, false, false, false, false, false, false] rfl rfl (by kernel_rfl) (fun _ _ _ h => h) (Or.inl ⟨by rfl, ?_⟩) ?_ ?_
                        rotate_left
                        · intro w'
                          go_simp
                          with_reducible rfl
                        rotate_left
                        · simp only [Act.put, List.setIfInBounds_toArray, List.set_cons_zero, List.set_cons_succ, i64_w, i32_w]
                          rfl
                        refine pure_ (i := 3) (N := some 107) (v := ?_) (a' := ?_) #[true, true, true, true, false, false, false, false, false, false, false, false, false, false, false, false, false] rfl rfl (by kernel_rfl) (fun _ _ _ h => h) (Or.inl ⟨by rfl, ?_⟩) ?_ ?_
                        rotate_left
                        · intro w'
                          go_simp
                          with_reducible rfl
                        rotate_left
                        · simp only [Act.put, List.setIfInBounds_toArray, List.set_cons_zero, List.set_cons_succ, i64_w, i32_w]
                          rfl
                        refine pure_ (i := 4) (N := some 108) (v := ?_) (a' := ?_) #[true, true, true, true, true, false, false, false, false, false, false, false, false, false, false, false, false] rfl rfl (by kernel_rfl) (fun _ _ _ h => h) (Or.inl ⟨by rfl, ?_⟩) ?_ ?_
                        rotate_left
                        · intro w'
                          go_simp
                          with_reducible rfl
                        rotate_left
                        · simp only [Act.put, List.setIfInBounds_toArray, List.set_cons_zero, List.set_cons_succ, i64_w, i32_w]
                          rfl
                        refine pure_ (i := 5) (N := some 109) (v := ?_) (a' := ?_) #[true, true, true, true, true, true, false, false, false, false, false, false, false, false, false, false, false] rfl rfl (by kernel_rfl) (fun _ _ _ h => h) (Or.inl ⟨by rfl, ?_⟩) ?_ ?_
                        rotate_left
                        · intro w'
                          go_simp
                          with_reducible rfl
                        rotate_left
                        · simp only [Act.put, List.setIfInBounds_toArray, List.set_cons_zero, List.set_cons_succ, i64_w, i32_w]
                          rfl
                        refine pure_ (i := 8) (N := some 112) (v := ?_) (a' := ?_) #[true, true, true, true, true, true, false, false, true, false, false, false, false, false, false, false, false] rfl rfl (by kernel_rfl) (fun _ _ _ h => h) (Or.inl ⟨by rfl, ?_⟩) ?_ ?_
                        rotate_left
                        · intro w'
                          go_simp
                          with_reducible rfl
                        rotate_left
                        · simp only [Act.put, List.setIfInBounds_toArray, List.set_cons_zero, List.set_cons_succ, i64_w, i32_w]
                          rfl
                        refine pure_ (i := 9) (N := some 113) (v := ?_) (a' := ?_) #[true, true, true, true, true, true, false, false, true, true, false, false, false, false, false, false, false] rfl rfl (by kernel_rfl) (fun _ _ _ h => h) (Or.inl ⟨by rfl, ?_⟩) ?_ ?_
                        rotate_left
                        · intro w'
                          go_simp
                          with_reducible rfl
                        rotate_left
                        · simp only [Act.put, List.setIfInBounds_toArray, List.set_cons_zero, List.set_cons_succ, i64_w, i32_w]
                          rfl
                        refine pure_ (i := 10) (N := some 114) (v := ?_) (a' := ?_) #[true, true, true, true, true, true, false, false, true, true, true, false, false, false, false, false, false] rfl rfl (by kernel_rfl) (fun _ _ _ h => h) (Or.inl ⟨by rfl, ?_⟩) ?_ ?_
                        rotate_left
                        · intro w'
                          go_simp
                          with_reducible rfl
                        rotate_left
                        · simp only [Act.put, List.setIfInBounds_toArray, List.set_cons_zero, List.set_cons_succ, i64_w, i32_w]
                          rfl
                        refine pure_ (i := 11) (N := some 115) (v := ?_) (a' := ?_) #[true, true, true, true, true, true, false, false, true, true, true, true, false, false, false, false, false] rfl rfl (by kernel_rfl) (fun _ _ _ h => h) (Or.inl ⟨by rfl, ?_⟩) ?_ ?_
                        rotate_left
                        · intro w'
                          go_simp
                          with_reducible rfl
                        rotate_left
                        · simp only [Act.put, List.setIfInBounds_toArray, List.set_cons_zero, List.set_cons_succ, i64_w, i32_w]
                          rfl
                        refine pure_ (i := 12) (N := some 116) (v := ?_) (a' := ?_) #[true, true, true, true, true, true, false, false, true, true, true, true, true, false, false, false, false] rfl rfl (by kernel_rfl) (fun _ _ _ h => h) (Or.inl ⟨by rfl, ?_⟩) ?_ ?_
                        rotate_left
                        · intro w'
                          go_simp
                          with_reducible rfl
                        rotate_left
                        · simp only [Act.put, List.setIfInBounds_toArray, List.set_cons_zero, List.set_cons_succ, i64_w, i32_w]
                          rfl
                        refine take_ (i := 6) (N := some 110) (v := ?_) (a' := ?_) #[true, true, true, true, true, true, true, false, true, true, true, true, true, false, false, false, false] rfl rfl (by kernel_rfl) (fun _ _ _ h => h) (Or.inl ⟨by rfl, ?_⟩) hHeld ?_ ?_
                        rotate_left
                        · rintro w' ⟨s0, s1⟩
                          go_simp
                          with_reducible rfl
                        rotate_left
                        · simp only [Act.put, List.setIfInBounds_toArray, List.set_cons_zero, List.set_cons_succ, i64_w, i32_w]
                          rfl
                        refine pure_ (i := 7) (N := some 111) (v := ?_) (a' := ?_) #[true, true, true, true, true, true, true, true, true, true, true, true, true, false, false, false, false] rfl rfl (by kernel_rfl) (fun _ _ _ h => h) (Or.inl ⟨by rfl, ?_⟩) ?_ ?_
                        rotate_left
                        · intro w'
                          go_simp
                          with_reducible rfl
                        rotate_left
                        · simp only [Act.put, List.setIfInBounds_toArray, List.set_cons_zero, List.set_cons_succ, i64_w, i32_w]
                          rfl
                        refine take_ (i := 13) (N := some 117) (v := ?_) (a' := ?_) #[true, true, true, true, true, true, true, true, true, true, true, true, true, true, false, false, false] rfl rfl (by kernel_rfl) (fun _ _ _ h => h) (Or.inl ⟨by rfl, ?_⟩) hHeld ?_ ?_
                        rotate_left
                        · rintro w' ⟨s0, s1⟩
                          go_simp
                          with_reducible rfl
                        rotate_left
                        · simp only [Act.put, List.setIfInBounds_toArray, List.set_cons_zero, List.set_cons_succ, i64_w, i32_w]
                          rfl
                        refine pure_ (i := 14) (N := some 118) (v := ?_) (a' := ?_) #[true, true, true, true, true, true, true, true, true, true, true, true, true, true, true, false, false] rfl rfl (by kernel_rfl) (fun _ _ _ h => h) (Or.inl ⟨by rfl, ?_⟩) ?_ ?_
                        rotate_left
                        · intro w'
                          go_simp
                          with_reducible rfl
                        rotate_left
                        · simp only [Act.put, List.setIfInBounds_toArray, List.set_cons_zero, List.set_cons_succ, i64_w, i32_w]
                          rfl
                        refine last_ (i := 15) (N := some 119) #[true, true, true, true, true, true, true, true, true, true, true, true, true, true, true, true, false] rfl rfl (by kernel_rfl) (by decide) (fun K hK => ?_)
                        refine append_step2 (by rfl) (.tmp 104) (.tmp 118) 51 9 rfl rfl rfl rfl HR9.out ?_
                        refine hK.out _ _ ?_
                        clear hK K
                        refine norm_ (a' := ?_) ?_ ?_
                        rotate_left
                        · show Act.put _ (some 119) _ = _
                          simp only [Act.put, List.setIfInBounds_toArray, List.set_cons_zero, List.set_cons_succ, i64_w, i32_w]
                          rfl
                        refine pure_ (i := 16) (N := some 14) (v := ?_) (a' := ?_) #[true, true, true, true, true, true, true, true, true, true, true, true, true, true, true, true, true] rfl rfl (by kernel_rfl) (fun _ _ _ h => h) (Or.inl ⟨by rfl, ?_⟩) ?_ ?_
                        rotate_left
                        · intro w'
                          go_simp
                          with_reducible rfl
                        rotate_left
                        · simp only [Act.put, List.setIfInBounds_toArray, List.set_cons_zero, List.set_cons_succ, i64_w, i32_w]
                          rfl
                        refine done_ (by kernel_rfl) ?_
                        go_wp2_with ((with_reducible refine gate_builtin (b := .append) (xs := #[.tmp 120, .tmp 121]) rfl ?_); at_builtin; refine append_wpl rfl (.tmp 120) (.tmp 121) 51 9 rfl rfl rfl rfl HRA.out ?_)
                        go_roundg k1
                        case measure => have := HJ.out; omega
                        case rel => exact ⟨_, j2 + 1, _, rfl, hwy.out, by have := HJ.out; omega, HJ.out.1, HBA.out, HbA.out, HC2.out, HGL.out⟩
                      · have e2 : decide (y2 < (L : Int)) = false := decide_eq_false (by omega)
                        have hjL : L - j2 = 0 := by omega
                        rw [hjL] at hgl
                        have hgo : out = glueI a0 cs ts (ts.length - 1) 0 (rdOf ByteArray.empty ts 0) := hgl
                        have HGO := Lib.hid hgo
                        have hsb := string_of _ _ _ _ hbr
                        have HBB := Lib.hid hb
                        clear hgo hgl hck hjL hjn hj hjl hy hbr hb
                        go_wp2
                        go_ret2
                        exact ⟨by rw [← HGO.out]; rfl, HB5.out.trans ((HBi.out.trans (HBB.out.mono HBi.out.size)).mono HB5.out.size)⟩
        · have hA : applyF a0 cs ts q2 false = (⟨#[]⟩, 4) := if_pos (Or.inr (Or.inr hl))
          have hh := HH.out.symm.trans hA
          injection hh with hr he
          subst hr he
          have hgg := HG.out
          have d1 : decide (0 < (q2.size : Int)) = false := decide_eq_false (by omega)
          have d1' : (0 < q2.size) = False := eq_false hq
          have w1' : wrap64 (2 * (ts.length : Int)) = 2 * (ts.length : Int) := by unfold wrap64; omega
          have w2' : wrap64 ((cs.length : Int) + 2) = (cs.length : Int) + 2 := by unfold wrap64; omega
          have d2 : ((2 * (ts.length : Int)) == ((cs.length : Int) + 2)) = false := beq_eq_false_iff_ne.mpr (by omega)
          have d2' : ((2 * (ts.length : Int)) != ((cs.length : Int) + 2)) = true := bne_iff_ne.mpr (by omega)
          clear hq hA hl hgg
          go_wp2_with (first | ((go_at_call 22); (with_reducible refine (wire_Reader_Bad.calls g q2 false false q2 false w w3 HI3.out HB3.out rfl).mono ?_); rintro e w4 ⟨rfl, hi4, hb4, hk4⟩; have HI4 := Lib.hid hi4; have HB4 := Lib.hid hb4; have HC4 := Lib.hid (Kd.R_keep (HI3.out.apart (Kd.R_bound HCC.out) (by decide)) hk4 (fun _ h => h.2)); have HT4 := Lib.hid (Kd.R_keep (HI3.out.apart (Kd.R_bound HRT.out) (by decide)) hk4 (fun _ h => h.2)); clear hi4 hb4 hk4) | ((go_at_call 23); (with_reducible refine (wire_Reader_Left.calls g q2 false (q2.size : Int) q2 false w w4 HI4.out HB4.out (by simp [wire_Reader_Left.f, wire_Reader_Bad.f])).mono ?_); rintro e w5 ⟨rfl, hi5, hb5, hk5⟩; have HI5 := Lib.hid hi5; have HB5 := Lib.hid hb5; have HC5 := Lib.hid (Kd.R_keep (HI4.out.apart (Kd.R_bound HC4.out) (by decide)) hk5 (fun _ h => h.2)); have HT5 := Lib.hid (Kd.R_keep (HI4.out.apart (Kd.R_bound HT4.out) (by decide)) hk5 (fun _ h => h.2)); clear hi5 hb5 hk5))
          go_ret2
          exact ⟨rfl, HB5.out⟩
  · rw [if_neg hg] at h
    cases h
end Go.Proofs.Ytjjpiedcdcdejaa.Df

