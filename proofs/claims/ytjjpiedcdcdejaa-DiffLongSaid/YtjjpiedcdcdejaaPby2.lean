-- Printed for this claim by its own gprint.py, over contracts proved by hand; not trusted: Lean checks it.
import Derived.Test.YtjjpiedcdcdejaaMgY
namespace Go.Proofs.Ytjjpiedcdcdejaa.Pb
open Go.RowKit Go.Proofs.Ytjjpiedcdcdejaa.Gw Go.Proofs.YtjjpiedcdcdejaaW.PrintWords Go.Proofs.YtjjpiedcdcdejaaW.PrintLast Go.Proofs.YtjjpiedcdcdejaaW.PrintMore
open Go.Proofs.Ytjjpiedcdcdejaa.Gw
attribute [local go_sem] max2_int min2_int max_two min_two max_three min_three max_four min_four   -- for this text's walks alone
set_option linter.unusedVariables false
set_option linter.unusedSimpArgs false

/-! ### abugidaref24_longest: function 48 -/
mutual
def abugidaref24_longest.l0 : Nat → ByteArray → ByteArray → Int → Int → Int → Int → Option (Int × Int)
  | 0, _, _, _, _, _, _ => none
  | k + 1, x0, x1, x2, x8, x9, x10 => if x10 < (x0.size : Int) then (abugidaref24_longest.l1 k x0 x1 x2 x8 x9 x10 0) else (some (x8, x9))
def abugidaref24_longest.l1 : Nat → ByteArray → ByteArray → Int → Int → Int → Int → Int → Option (Int × Int)
  | 0, _, _, _, _, _, _, _ => none
  | k + 1, x0, x1, x2, x8, x9, x10, x11 => if (wrap64 (x10 + x11)) < (x0.size : Int) then (if (wrap64 (x2 + x11)) < (x1.size : Int) then (if 0 ≤ (wrap64 (x10 + x11)) then (if 0 ≤ (wrap64 (x2 + x11)) then (if (bt x0 (wrap64 (x10 + x11))) = (bt x1 (wrap64 (x2 + x11))) then (abugidaref24_longest.l1 k x0 x1 x2 x8 x9 x10 (wrap64 (x11 + 1))) else (if x11 > x9 then (abugidaref24_longest.l0 k x0 x1 x2 x10 x11 (wrap64 (x10 + 1))) else (abugidaref24_longest.l0 k x0 x1 x2 x8 x9 (wrap64 (x10 + 1))))) else (none)) else (none)) else (if x11 > x9 then (abugidaref24_longest.l0 k x0 x1 x2 x10 x11 (wrap64 (x10 + 1))) else (abugidaref24_longest.l0 k x0 x1 x2 x8 x9 (wrap64 (x10 + 1))))) else (if x11 > x9 then (abugidaref24_longest.l0 k x0 x1 x2 x10 x11 (wrap64 (x10 + 1))) else (abugidaref24_longest.l0 k x0 x1 x2 x8 x9 (wrap64 (x10 + 1))))
end
def abugidaref24_longest.f (k : Nat) (a0 : ByteArray) (a1 : ByteArray) (a2 : Int) : Option (Int × Int) := abugidaref24_longest.l0 k a0 a1 a2 0 0 0
set_option maxHeartbeats 8000000 in
set_option maxRecDepth 100000 in
theorem abugidaref24_longest.calls (k : Nat) (a0 : ByteArray) (a1 : ByteArray) (a2 : Int) (r1 : Int) (r2 : Int) (w : World) (h : abugidaref24_longest.f k a0 a1 a2 = some (r1, r2)) :
    Calls Try.prog 48 #[.string a0, .string a1, .int .i64 a2] w fun e w' => e = .returned (.tuple #[.int .i64 r1, .int .i64 r2]) ∧ Drawn0 w w' := by
  have H : (abugidaref24_longest.l0 k a0 a1 a2 0 0 0) = some (r1, r2) := h
  clear h
  have H' := Aside0.mk H
  clear H
  go_enter Try.func48, Try.ntmps48
  go_wp2
  repeat (go_quiet (fail); try go_wp2)
  go_loopg [8, 9, 10] k (fun kq v8 v9 v10 w' => ∃ (x8_1 : Int) (x9_1 : Int) (x10_1 : Int), v8 = .int .i64 x8_1 ∧ v9 = .int .i64 x9_1 ∧ v10 = .int .i64 x10_1 ∧ Aside0 (abugidaref24_longest.l0 kq a0 a1 a2 x8_1 x9_1 x10_1 = some (r1, r2)) ∧ Aside0 (kq ≤ k) ∧ Drawn0 w w')
  case atStart => exact ⟨(0), (0), (0), (by first | rfl | (simp; done) | (simp [*]; done)), (by first | rfl | (simp; done) | (simp [*]; done)), (by first | rfl | (simp; done) | (simp [*]; done)), H', ⟨Nat.le_refl _⟩, by repeat (first | exact Drawn0.refl _ | apply Drawn0.step)⟩
  case round =>
    clear H'
    try clear p2
    obtain ⟨x8_1, x9_1, x10_1, rfl, rfl, rfl, HA, HK1, ⟨m1, rfl⟩⟩ := hrel
    cases gk with
    | zero => exact absurd HA.out (by simp [abugidaref24_longest.l0])
    | succ k1 =>
      have H := HA.out
      clear HA
      simp only [abugidaref24_longest.l0] at H
      by_cases c4 : x10_1 < (a0.size : Int)
      · rw [if_pos c4] at H
        have c4b0 : decide (x10_1 < (a0.size : Int)) = true := decide_eq_true c4
        clear c4
        have H' := Aside0.mk H
        clear H
        go_wp2
        repeat (go_quiet (fail); try go_wp2)
        go_loopg [11] k1 (fun kq v11 w' => ∃ (x11_2 : Int), v11 = .int .i64 x11_2 ∧ Aside0 (abugidaref24_longest.l1 kq a0 a1 a2 x8_1 x9_1 x10_1 x11_2 = some (r1, r2)) ∧ Aside0 (kq ≤ k1) ∧ Drawn0 w w')
        case atStart => exact ⟨(0), (by first | rfl | (simp; done) | (simp [*]; done)), H', ⟨Nat.le_refl _⟩, by repeat (first | exact Drawn0.refl _ | apply Drawn0.step)⟩
        case round =>
          clear H'
          try clear p2
          try clear c4
          try clear c4b0
          try clear p2
          obtain ⟨x11_2, rfl, HA, HK2, ⟨m2, rfl⟩⟩ := hrel
          cases gk with
          | zero => exact absurd HA.out (by simp [abugidaref24_longest.l1])
          | succ k2 =>
            have H := HA.out
            clear HA
            simp only [abugidaref24_longest.l1] at H
            by_cases c5 : (wrap64 (x10_1 + x11_2)) < (a0.size : Int)
            · rw [if_pos c5] at H
              have c5b0 : decide ((wrap64 (x10_1 + x11_2)) < (a0.size : Int)) = true := decide_eq_true c5
              clear c5
              by_cases c6 : (wrap64 (a2 + x11_2)) < (a1.size : Int)
              · rw [if_pos c6] at H
                have c6b0 : decide ((wrap64 (a2 + x11_2)) < (a1.size : Int)) = true := decide_eq_true c6
                clear c6
                obtain ⟨ji7, hji7⟩ : ∃ j_ : Int, (wrap64 (x10_1 + x11_2)) = j_ := ⟨_, rfl⟩
                replace H : (if 0 ≤ (ji7) then (if 0 ≤ (wrap64 (a2 + x11_2)) then (if (bt a0 (ji7)) = (bt a1 (wrap64 (a2 + x11_2))) then (abugidaref24_longest.l1 k2 a0 a1 a2 x8_1 x9_1 x10_1 (wrap64 (x11_2 + 1))) else (if x11_2 > x9_1 then (abugidaref24_longest.l0 k2 a0 a1 a2 x10_1 x11_2 (wrap64 (x10_1 + 1))) else (abugidaref24_longest.l0 k2 a0 a1 a2 x8_1 x9_1 (wrap64 (x10_1 + 1))))) else (none)) else (none)) = some (r1, r2) := by first | (rw [hji7] at H; exact H) | (simp only [hji7] at H ⊢; exact H)
                (try rw [hji7] at c5b0)
                have hji7w : (IntKind.i64.wrap (x10_1 + x11_2)) = ji7 := (i64_w _).trans hji7
                by_cases c8 : 0 ≤ (ji7)
                · rw [if_pos c8] at H
                  have c8b0 : decide (0 ≤ (ji7)) = true := decide_eq_true c8
                  clear c8
                  obtain ⟨ji10, hji10⟩ : ∃ j_ : Int, (wrap64 (a2 + x11_2)) = j_ := ⟨_, rfl⟩
                  replace H : (if 0 ≤ (ji10) then (if (bt a0 (ji7)) = (bt a1 (ji10)) then (abugidaref24_longest.l1 k2 a0 a1 a2 x8_1 x9_1 x10_1 (wrap64 (x11_2 + 1))) else (if x11_2 > x9_1 then (abugidaref24_longest.l0 k2 a0 a1 a2 x10_1 x11_2 (wrap64 (x10_1 + 1))) else (abugidaref24_longest.l0 k2 a0 a1 a2 x8_1 x9_1 (wrap64 (x10_1 + 1))))) else (none)) = some (r1, r2) := by first | (rw [hji10] at H; exact H) | (simp only [hji10] at H ⊢; exact H)
                  (try rw [hji10] at c6b0)
                  have hji10w : (IntKind.i64.wrap (a2 + x11_2)) = ji10 := (i64_w _).trans hji10
                  by_cases c11 : 0 ≤ (ji10)
                  · rw [if_pos c11] at H
                    have c11b0 : decide (0 ≤ (ji10)) = true := decide_eq_true c11
                    clear c11
                    by_cases c13 : (bt a0 (ji7)) = (bt a1 (ji10))
                    · rw [if_pos c13] at H
                      have c13b0 : ((bt a0 (ji7)) == (bt a1 (ji10))) = true := beq_iff_eq.mpr c13
                      have c13b1 : ((bt a0 (ji7)) != (bt a1 (ji10))) = false := bne_eq_false_iff_eq.mpr c13
                      clear c13
                      have H' := Aside0.mk H
                      clear H
                      have p9 : 0 ≤ ((ji7) : Int) := of_decide_eq_true (by first | (with_reducible assumption) | assumption)
                      have q9 : (ji7) < (a0.size : Int) := of_decide_eq_true (by first | (with_reducible assumption) | assumption)
                      have hx9 := bt_at a0 (ji7)
                      replace p9 := eq_true p9
                      replace q9 := eq_true q9
                      have p12 : 0 ≤ ((ji10) : Int) := of_decide_eq_true (by first | (with_reducible assumption) | assumption)
                      have q12 : (ji10) < (a1.size : Int) := of_decide_eq_true (by first | (with_reducible assumption) | assumption)
                      have hx12 := bt_at a1 (ji10)
                      replace p12 := eq_true p12
                      replace q12 := eq_true q12
                      go_wp2
                      repeat (go_quiet (fail); try go_wp2)
                      go_roundg k2
                      case measure => have := HK1.out; have := HK2.out; omega
                      case rel => exact ⟨(wrap64 (x11_2 + 1)), (by first | rfl | (simp; done) | (simp [*]; done)), H', ⟨by have := HK1.out; have := HK2.out; omega⟩, by repeat (first | exact Drawn0.refl _ | apply Drawn0.step)⟩
                    · rw [if_neg c13] at H
                      have c13b0 : ((bt a0 (ji7)) == (bt a1 (ji10))) = false := beq_eq_false_iff_ne.mpr c13
                      have c13b1 : ((bt a0 (ji7)) != (bt a1 (ji10))) = true := bne_iff_ne.mpr c13
                      by_cases c14 : x11_2 > x9_1
                      · rw [if_pos c14] at H
                        have c14b0 : decide (x9_1 < x11_2) = true := decide_eq_true c14
                        clear c14
                        have H' := Aside0.mk H
                        clear H
                        have p9 : 0 ≤ ((ji7) : Int) := of_decide_eq_true (by first | (with_reducible assumption) | assumption)
                        have q9 : (ji7) < (a0.size : Int) := of_decide_eq_true (by first | (with_reducible assumption) | assumption)
                        have hx9 := bt_at a0 (ji7)
                        replace p9 := eq_true p9
                        replace q9 := eq_true q9
                        have p12 : 0 ≤ ((ji10) : Int) := of_decide_eq_true (by first | (with_reducible assumption) | assumption)
                        have q12 : (ji10) < (a1.size : Int) := of_decide_eq_true (by first | (with_reducible assumption) | assumption)
                        have hx12 := bt_at a1 (ji10)
                        replace p12 := eq_true p12
                        replace q12 := eq_true q12
                        go_wp2
                        repeat (go_quiet (fail); try go_wp2)
                        go_roundg k2
                        case measure => have := HK1.out; have := HK2.out; omega
                        case rel => exact ⟨(x10_1), (x11_2), (wrap64 (x10_1 + 1)), (by first | rfl | (simp; done) | (simp [*]; done)), (by first | rfl | (simp; done) | (simp [*]; done)), (by first | rfl | (simp; done) | (simp [*]; done)), H', ⟨by have := HK1.out; have := HK2.out; omega⟩, by repeat (first | exact Drawn0.refl _ | apply Drawn0.step)⟩
                      · rw [if_neg c14] at H
                        have c14b0 : decide (x9_1 < x11_2) = false := decide_eq_false c14
                        clear c14
                        have H' := Aside0.mk H
                        clear H
                        have p9 : 0 ≤ ((ji7) : Int) := of_decide_eq_true (by first | (with_reducible assumption) | assumption)
                        have q9 : (ji7) < (a0.size : Int) := of_decide_eq_true (by first | (with_reducible assumption) | assumption)
                        have hx9 := bt_at a0 (ji7)
                        replace p9 := eq_true p9
                        replace q9 := eq_true q9
                        have p12 : 0 ≤ ((ji10) : Int) := of_decide_eq_true (by first | (with_reducible assumption) | assumption)
                        have q12 : (ji10) < (a1.size : Int) := of_decide_eq_true (by first | (with_reducible assumption) | assumption)
                        have hx12 := bt_at a1 (ji10)
                        replace p12 := eq_true p12
                        replace q12 := eq_true q12
                        go_wp2
                        repeat (go_quiet (fail); try go_wp2)
                        go_roundg k2
                        case measure => have := HK1.out; have := HK2.out; omega
                        case rel => exact ⟨(x8_1), (x9_1), (wrap64 (x10_1 + 1)), (by first | rfl | (simp; done) | (simp [*]; done)), (by first | rfl | (simp; done) | (simp [*]; done)), (by first | rfl | (simp; done) | (simp [*]; done)), H', ⟨by have := HK1.out; have := HK2.out; omega⟩, by repeat (first | exact Drawn0.refl _ | apply Drawn0.step)⟩
                  · rw [if_neg c11] at H
                    exact absurd H (by simp)
                · rw [if_neg c8] at H
                  exact absurd H (by simp)
              · rw [if_neg c6] at H
                have c6b0 : decide ((wrap64 (a2 + x11_2)) < (a1.size : Int)) = false := decide_eq_false c6
                clear c6
                by_cases c15 : x11_2 > x9_1
                · rw [if_pos c15] at H
                  have c15b0 : decide (x9_1 < x11_2) = true := decide_eq_true c15
                  clear c15
                  have H' := Aside0.mk H
                  clear H
                  go_wp2
                  repeat (go_quiet (fail); try go_wp2)
                  go_roundg k2
                  case measure => have := HK1.out; have := HK2.out; omega
                  case rel => exact ⟨(x10_1), (x11_2), (wrap64 (x10_1 + 1)), (by first | rfl | (simp; done) | (simp [*]; done)), (by first | rfl | (simp; done) | (simp [*]; done)), (by first | rfl | (simp; done) | (simp [*]; done)), H', ⟨by have := HK1.out; have := HK2.out; omega⟩, by repeat (first | exact Drawn0.refl _ | apply Drawn0.step)⟩
                · rw [if_neg c15] at H
                  have c15b0 : decide (x9_1 < x11_2) = false := decide_eq_false c15
                  clear c15
                  have H' := Aside0.mk H
                  clear H
                  go_wp2
                  repeat (go_quiet (fail); try go_wp2)
                  go_roundg k2
                  case measure => have := HK1.out; have := HK2.out; omega
                  case rel => exact ⟨(x8_1), (x9_1), (wrap64 (x10_1 + 1)), (by first | rfl | (simp; done) | (simp [*]; done)), (by first | rfl | (simp; done) | (simp [*]; done)), (by first | rfl | (simp; done) | (simp [*]; done)), H', ⟨by have := HK1.out; have := HK2.out; omega⟩, by repeat (first | exact Drawn0.refl _ | apply Drawn0.step)⟩
            · rw [if_neg c5] at H
              have c5b0 : decide ((wrap64 (x10_1 + x11_2)) < (a0.size : Int)) = false := decide_eq_false c5
              clear c5
              by_cases c16 : x11_2 > x9_1
              · rw [if_pos c16] at H
                have c16b0 : decide (x9_1 < x11_2) = true := decide_eq_true c16
                clear c16
                have H' := Aside0.mk H
                clear H
                go_wp2
                repeat (go_quiet (fail); try go_wp2)
                go_roundg k2
                case measure => have := HK1.out; have := HK2.out; omega
                case rel => exact ⟨(x10_1), (x11_2), (wrap64 (x10_1 + 1)), (by first | rfl | (simp; done) | (simp [*]; done)), (by first | rfl | (simp; done) | (simp [*]; done)), (by first | rfl | (simp; done) | (simp [*]; done)), H', ⟨by have := HK1.out; have := HK2.out; omega⟩, by repeat (first | exact Drawn0.refl _ | apply Drawn0.step)⟩
              · rw [if_neg c16] at H
                have c16b0 : decide (x9_1 < x11_2) = false := decide_eq_false c16
                clear c16
                have H' := Aside0.mk H
                clear H
                go_wp2
                repeat (go_quiet (fail); try go_wp2)
                go_roundg k2
                case measure => have := HK1.out; have := HK2.out; omega
                case rel => exact ⟨(x8_1), (x9_1), (wrap64 (x10_1 + 1)), (by first | rfl | (simp; done) | (simp [*]; done)), (by first | rfl | (simp; done) | (simp [*]; done)), (by first | rfl | (simp; done) | (simp [*]; done)), H', ⟨by have := HK1.out; have := HK2.out; omega⟩, by repeat (first | exact Drawn0.refl _ | apply Drawn0.step)⟩
      · rw [if_neg c4] at H
        have c4b0 : decide (x10_1 < (a0.size : Int)) = false := decide_eq_false c4
        clear c4
        simp only [Option.some.injEq, Prod.mk.injEq] at H
        obtain ⟨rfl, rfl⟩ := H
        go_wp2
        repeat (go_quiet (fail); try go_wp2)
        go_ret2
        exact ⟨by first | rfl | (simp; done) | (simp [*]; done), by repeat (first | exact Drawn0.refl _ | apply Drawn0.step)⟩

/-! ### abugidaref24_Pieces: function 31 -/
def abugidaref24_Pieces.l0 : Nat → ByteArray → ByteArray → List Int → List ByteArray → Int → Option (List Int × List ByteArray)
  | 0, _, _, _, _, _ => none
  | k + 1, x0, x1, x6, x7, x8 => if x8 < (x1.size : Int) then ((abugidaref24_longest.f k x0 x1 x8).bind fun bt209 => (if bt209.2 ≥ 4 then ((some (([bt209.1, bt209.2] : List Int) : List Int)).bind fun y211 => (if x6.length + y211.length < 17592186044416 then (if x7.length < 8796093022208 then (abugidaref24_Pieces.l0 k x0 x1 (x6 ++ y211) (x7 ++ [(⟨#[]⟩ : ByteArray)]) (wrap64 (x8 + bt209.2))) else (none)) else (none))) else (if 0 ≤ (wrap64 ((x7.length : Int) - 1)) then (if (wrap64 ((x7.length : Int) - 1)) < (x7.length : Int) then (if 0 ≤ x8 then (if x8 ≤ (wrap64 (x8 + 1)) then (if (wrap64 (x8 + 1)) ≤ (x1.size : Int) then (if (rdOf ByteArray.empty x7 (wrap64 ((x7.length : Int) - 1))).size + (x1.extract (x8 : Int).toNat ((wrap64 (x8 + 1)) : Int).toNat).size ≤ 9223372036854775807 then (abugidaref24_Pieces.l0 k x0 x1 x6 (x7.set ((wrap64 ((x7.length : Int) - 1)) : Int).toNat ((rdOf ByteArray.empty x7 (wrap64 ((x7.length : Int) - 1))) ++ (x1.extract (x8 : Int).toNat ((wrap64 (x8 + 1)) : Int).toNat))) (wrap64 (x8 + 1))) else (none)) else (none)) else (none)) else (none)) else (none)) else (none)))) else (some (x6, x7))
def abugidaref24_Pieces.f (k : Nat) (a0 : ByteArray) (a1 : ByteArray) : Option (List Int × List ByteArray) := abugidaref24_Pieces.l0 k a0 a1 ([] : List Int) (([(⟨#[]⟩ : ByteArray)] : List ByteArray)) 0
def abugidaref24_Pieces.T10 : Bool × List (List Nat × List Nat) := (true, [([], []), ([], []), ([1], [1]), ([2], [2]), ([], []), ([], []), ([5], [5]), ([6], [6]), ([4, 7], [4, 7]), ([8], [8]), ([], []), ([], []), ([], []), ([12], [12]), ([10, 11, 13], [10, 11, 13]), ([9, 14], [9, 14]), ([0, 3, 0, 1, 2, 3, 4, 5, 6, 7, 8, 9, 10, 11, 12, 13, 14, 15], [0, 3]), ([16, 15, 0, 1, 2, 3, 4, 5, 6, 7, 8, 9, 10, 11, 12, 13, 14, 15], [15, 16])])
def abugidaref24_Pieces.B10 : List Nat := [0, 0, 2, 6, 0, 0, 32, 96, 240, 496, 0, 0, 0, 4096, 15360, 32752, 65535, 131071]
theorem abugidaref24_Pieces.tab10 : rtab .any (opsOf Try.f31 10) = abugidaref24_Pieces.T10 := by kernel_rfl
theorem abugidaref24_Pieces.bits10 : waitsOk abugidaref24_Pieces.T10.2 abugidaref24_Pieces.B10 = true := by kernel_rfl
set_option maxHeartbeats 8000000 in
set_option maxRecDepth 100000 in
theorem abugidaref24_Pieces.calls (k : Nat) (a0 : ByteArray) (a1 : ByteArray) (r1 : List Int) (r2 : List ByteArray) (w : World) (h : abugidaref24_Pieces.f k a0 a1 = some (r1, r2)) :
    Calls Try.prog 31 #[.string a0, .string a1] w fun e w' => ∃ v0_ v1_ : Value, e = .returned (.tuple #[v0_, v1_]) ∧ Kd.R (Kd.int .i64) 3 w' w.heap.size (fun _ => True) v0_ r1 ∧ Kd.R Kd.string 9 w' w.heap.size (fun _ => True) v1_ r2 ∧ Below w.heap.size w w' := by
  have HB := Aside0.mk (Below.refl w.heap.size w)
  have H : (abugidaref24_Pieces.l0 k a0 a1 ([] : List Int) (([(⟨#[]⟩ : ByteArray)] : List ByteArray)) 0) = some (r1, r2) := h
  clear h
  obtain ⟨y206, hy206⟩ : ∃ y_ : List ByteArray, y_ = (([(⟨#[]⟩ : ByteArray)] : List ByteArray)) := ⟨_, rfl⟩
  replace H : (abugidaref24_Pieces.l0 k a0 a1 ([] : List Int) y206 0) = some (r1, r2) := by first | (rw [hy206]; with_reducible exact H) | (have H2_ := (Option.bind_some _ _).symm.trans H; rw [hy206]; with_reducible exact H2_) | (have H2_ := (Option.bind_some _ _).symm.trans H; with_reducible exact H2_) | with_reducible exact H | (rw [hy206]; exact H) | exact H
  have Ny206 := Aside0.mk hy206
  clear hy206
  have H' := Aside0.mk H
  clear H
  go_enter Try.func31, Try.ntmps31
  go_wp2_with (first | ((with_reducible refine gate_dst (N := 11) rfl ?_); refine Kd.R_lit Kd.string _ 9 ?hg (N := 11) ?hd (xs := ([(⟨#[]⟩ : ByteArray)] : List ByteArray)) (inner := [.string (⟨#[]⟩ : ByteArray)]) (ok := fun _ => True) (okp := fun _ => True) ?hr ?hp (fun _ hk => hk) trivial (Below.refl _ _) (Nat.le_refl _) (by simp) ?_; (case hd => rfl); (case hg => rfl); (case hr => first | (go_simp; done) | (go_simp; rfl)); (case hp => exact (Reps.one (show Kd.M Kd.string _ _ _ (⟨#[]⟩ : ByteArray) [.string (⟨#[]⟩ : ByteArray)] from rfl) (Reps.none _ _))); intro v207 w3 ho4 hb hg_ hnew_; clear hg_ hnew_; (first | rw [← Ny206.out] at ho4 | (simp only [Int.reduceToNat] at ho4; rw [← Ny206.out] at ho4)); have n0_ := Aside0.mk (Kd.R_lower ho4 (below_size (by repeat (with_reducible first | exact HB.out | apply below_alloc | apply pw_below_drewN | apply below_drew1)))); have n1_ := Aside0.mk (below_step (by repeat (with_reducible first | exact HB.out | apply below_alloc | apply pw_below_drewN | apply below_drew1)) hb); clear HB; have HO208 := n0_; have HB := n1_; clear n0_ n1_; clear hb ho4))
  go_loopg [6, 7, 8] k (fun kq v6 v7 v8 w' => ∃ (x6_1 : List Int) (x7_1 : List ByteArray) (x8_1 : Int), v8 = .int .i64 x8_1 ∧ Aside0 (abugidaref24_Pieces.l0 kq a0 a1 x6_1 x7_1 x8_1 = some (r1, r2)) ∧ Aside0 (kq ≤ k) ∧ Aside0 (Kd.R (Kd.int .i64) 3 w' w.heap.size (fun _ => True) v6 x6_1) ∧ Aside0 (Kd.R Kd.string 9 w' w.heap.size (fun _ => True) v7 x7_1) ∧ Aside0 (Below w.heap.size w w'))
  case atStart => exact ⟨(([] : List Int)), (y206), (0), (by first | rfl | (simp; done) | (simp [*]; done)), H', ⟨Nat.le_refl _⟩, ⟨by first | exact Kd.R_nil _ _ _ _ _ | exact Kd.N_nil _ _ _ _ _ | exact Kd.V_nil _ _ _ _ _ | exact Kd.Q_nil _ _ _ _ _ | exact Kd.S_nil _ _ _ _ _⟩, ⟨by (with_reducible repeat (first | apply Kd.R_alloc | apply Kd.R_drewN | apply Kd.R_drew)); exact HO208.out⟩, ⟨by repeat (with_reducible first | exact HB.out | apply below_alloc | apply pw_below_drewN | apply below_drew1)⟩⟩
  case round =>
    clear H'
    try clear p2
    try clear c3
    obtain ⟨x6_1, x7_1, x8_1, rfl, HA, HK1, HO_6, HO_7, HB⟩ := hrel
    cases gk with
    | zero => exact absurd HA.out (by simp [abugidaref24_Pieces.l0])
    | succ k1 =>
      have H := HA.out
      clear HA
      simp only [abugidaref24_Pieces.l0] at H
      by_cases c5 : x8_1 < (a1.size : Int)
      · rw [if_pos c5] at H
        have c5b0 : decide (x8_1 < (a1.size : Int)) = true := decide_eq_true c5
        clear c5
        replace H := Option.bind_eq_some_iff.mp H
        obtain ⟨⟨t209, t210⟩, A60, H⟩ := H
        try dsimp only at H
        have A6 := Aside0.mk A60
        clear A60
        by_cases c7 : t210 ≥ 4
        · rw [if_pos c7] at H
          have c7b0 : decide (4 ≤ t210) = true := decide_eq_true c7
          clear c7
          obtain ⟨y211, hy211⟩ : ∃ y_ : List Int, y_ = (([t209, t210] : List Int)) := ⟨_, rfl⟩
          replace H : (if x6_1.length + y211.length < 17592186044416 then (if x7_1.length < 8796093022208 then (abugidaref24_Pieces.l0 k1 a0 a1 (x6_1 ++ y211) (x7_1 ++ [(⟨#[]⟩ : ByteArray)]) (wrap64 (x8_1 + t210))) else (none)) else (none)) = some (r1, r2) := by first | (rw [hy211]; with_reducible exact H) | (have H2_ := (Option.bind_some _ _).symm.trans H; rw [hy211]; with_reducible exact H2_) | (have H2_ := (Option.bind_some _ _).symm.trans H; with_reducible exact H2_) | with_reducible exact H | (rw [hy211]; exact H) | exact H
          have Ny211 := Aside0.mk hy211
          clear hy211
          by_cases c8 : x6_1.length + y211.length < 17592186044416
          · rw [if_pos c8] at H
            have LMc8 := Aside0.mk c8
            clear c8
            obtain ⟨y214, hy214⟩ : ∃ y_ : List Int, y_ = (x6_1 ++ y211) := ⟨_, rfl⟩
            replace H : (if x7_1.length < 8796093022208 then (abugidaref24_Pieces.l0 k1 a0 a1 y214 (x7_1 ++ [(⟨#[]⟩ : ByteArray)]) (wrap64 (x8_1 + t210))) else (none)) = some (r1, r2) := by first | (rw [hy214]; with_reducible exact H) | (have H2_ := (Option.bind_some _ _).symm.trans H; rw [hy214]; with_reducible exact H2_) | (have H2_ := (Option.bind_some _ _).symm.trans H; with_reducible exact H2_) | with_reducible exact H | (rw [hy214]; exact H) | exact H
            have Ny214 := Aside0.mk hy214
            clear hy214
            by_cases c9 : x7_1.length < 8796093022208
            · rw [if_pos c9] at H
              have LMc9 := Aside0.mk c9
              clear c9
              obtain ⟨y217, hy217⟩ : ∃ y_ : List ByteArray, y_ = (x7_1 ++ [(⟨#[]⟩ : ByteArray)]) := ⟨_, rfl⟩
              replace H : (abugidaref24_Pieces.l0 k1 a0 a1 y214 y217 (wrap64 (x8_1 + t210))) = some (r1, r2) := by first | (rw [hy217]; with_reducible exact H) | (have H2_ := (Option.bind_some _ _).symm.trans H; rw [hy217]; with_reducible exact H2_) | (have H2_ := (Option.bind_some _ _).symm.trans H; with_reducible exact H2_) | with_reducible exact H | (rw [hy217]; exact H) | exact H
              have Ny217 := Aside0.mk hy217
              clear hy217
              have H' := Aside0.mk H
              clear H
              go_wp2_with (first | ((with_reducible refine gate_callee (f := 48) rfl ?_); refine goesL_ (some 20) rfl rfl Try.func48 (by kernel_rfl) rfl #[.string a0, .string a1, .int .i64 x8_1] rfl (by (try simp only [List.map_toArray, List.map_cons, List.map_nil]); first | done | rfl | (simp only [List.length_drop, List.length_take]; rfl)) ?_; (with_reducible refine (abugidaref24_longest.calls k1 a0 a1 x8_1 t209 t210 _ A6.out).mono ?_); rintro e w' ⟨rfl, ⟨nd, rfl⟩⟩; refine ⟨_, rfl, ?_⟩) | ((with_reducible refine gate_dst (N := 28) rfl ?_); refine Kd.R_lit (Kd.int .i64) _ 3 ?hg (N := 28) ?hd (xs := ([t209, t210] : List Int)) (inner := [.int .i64 t209, .int .i64 t210]) (ok := fun _ => True) (okp := fun _ => True) ?hr ?hp (fun _ hk => hk) trivial (Below.refl _ _) (Nat.le_refl _) (by simp) ?_; (case hd => rfl); (case hg => rfl); (case hr => first | (go_simp; done) | (go_simp; rfl)); (case hp => exact (Reps.one (show Kd.M (Kd.int .i64) _ _ _ t209 [.int .i64 t209] from rfl) (Reps.one (show Kd.M (Kd.int .i64) _ _ _ t210 [.int .i64 t210] from rfl) (Reps.none _ _)))); intro v212 w10 ho11 hb hg_ hnew_; clear hg_ hnew_; (first | rw [← Ny211.out] at ho11 | (simp only [Int.reduceToNat] at ho11; rw [← Ny211.out] at ho11)); have n0_ := Aside0.mk (Kd.R_elder' (by (with_reducible repeat (first | apply Kd.R_alloc | apply Kd.R_drewN | apply Kd.R_drew)); exact HO_6.out) (Kd.R_base ho11) hb); have n1_ := Aside0.mk (Kd.R_below (by (with_reducible repeat (first | apply Kd.R_alloc | apply Kd.R_drewN | apply Kd.R_drew)); exact HO_7.out) hb); have n2_ := Aside0.mk (Kd.R_lower (Kd.R_new' ho11 (Kd.R_lt (by (with_reducible repeat (first | apply Kd.R_alloc | apply Kd.R_drewN | apply Kd.R_drew)); exact HO_6.out))) (below_size (by repeat (with_reducible first | exact HB.out | apply below_alloc | apply pw_below_drewN | apply below_drew1)))); have n3_ := Aside0.mk (below_step (by repeat (with_reducible first | exact HB.out | apply below_alloc | apply pw_below_drewN | apply below_drew1)) hb); clear HO_6; clear HO_7; clear HB; have HO_6 := n0_; have HO_7 := n1_; have HO213 := n2_; have HB := n3_; clear n0_ n1_ n2_ n3_; clear hb ho11; obtain ⟨Ao13, co13, eo13⟩ := Kd.R_slice HO213.out; subst eo13) | ((with_reducible refine gate_builtin (b := .append) (xs := #[.tmp 25, .tmp 28]) rfl ?_); at_builtin; refine Kd.R_append_rows (Kd.int .i64) (w0 := w) w.heap.size rfl (.tmp 25) (.tmp 28) 22 3 (.int .i64 0) 8 rfl Try.underlying22 info3 rfl (by decide) (by omega) u6 x6_1 y211 _ _ _ (fun k_ => some k_ ≠ (.slice Ao13 y211.length co13 : Value).ownBlock) (fun _ => False) rfl rfl ?aO ?aR (fun _ _ h => h) (fun _ h => h.elim) ?aF ?aB ?aS ?aL ?_; (case aR => repeat (first | exact (Kd.R_reads' HO213.out).2.2 | (with_reducible refine Kd.C_alloc ?_ _) | (with_reducible refine Kd.C_drewN ?_ _) | (with_reducible refine Kd.C_drew ?_))); (case aB => exact (by repeat (with_reducible first | exact HB.out | apply below_alloc | apply pw_below_drewN | apply below_drew1))); (case aF => exact (fun k_ hk => Kd.fresh' (Kd.R_lt (by (with_reducible repeat (first | apply Kd.R_alloc | apply Kd.R_drewN | apply Kd.R_drew)); exact HO213.out)) k_ hk)); (case aO => exact (by (with_reducible repeat (first | apply Kd.R_alloc | apply Kd.R_drewN | apply Kd.R_drew)); exact Kd.R_mono HO_6.out (fun _ hk => hk.2))); (case aS => exact (below_size (by repeat (with_reducible first | exact HB.out | apply below_alloc | apply pw_below_drewN | apply below_drew1)))); (case aL => have := LMc8.out; omega); intro v215 w12 ho hb hg hat; rw [← Ny214.out] at ho; have n0_ := Aside0.mk (Kd.R_over' (by (with_reducible repeat (first | apply Kd.R_alloc | apply Kd.R_drewN | apply Kd.R_drew)); exact HO_7.out) (Kd.R_typed (by (with_reducible repeat (first | apply Kd.R_alloc | apply Kd.R_drewN | apply Kd.R_drew)); exact HO_6.out)) (by decide) hg); have n1_ := Aside0.mk (Kd.R_after (ok := (fun _ => True)) (by (with_reducible repeat (first | apply Kd.R_alloc | apply Kd.R_drewN | apply Kd.R_drew)); exact HO213.out) hg hat); have n2_ := Aside0.mk (hb); have n3_ := Aside0.mk (ho); clear HO_7; clear HO213; clear HB; clear HO_6; have HO_7 := n0_; have HO213 := n1_; have HB := n2_; have HO216 := n3_; clear n0_ n1_ n2_ n3_; clear ho hb hg hat) | ((with_reducible refine gate_builtin (b := .append) (xs := #[.tmp 30, .tmp 31]) rfl ?_); at_builtin; refine Kd.R_append Kd.string (w0 := w) w.heap.size rfl (.tmp 30) (.tmp 31) 32 9 (.string ⟨#[]⟩) 16 rfl Try.underlying32 info9 rfl (by decide) (by omega) u7 x7_1 (⟨#[]⟩ : ByteArray) [.string (⟨#[]⟩ : ByteArray)] (fun _ => True) (fun _ => False) rfl rfl ?aP (fun _ hk => hk.elim) ?aF ?aO ?aB ?aS ?aL ?_; (case aP => exact rfl); (case aB => exact (by repeat (with_reducible first | exact HB.out | apply below_alloc | apply pw_below_drewN | apply below_drew1))); (case aF => exact (fun _ _ => trivial)); (case aO => exact (by (with_reducible repeat (first | apply Kd.R_alloc | apply Kd.R_drewN | apply Kd.R_drew)); exact HO_7.out)); (case aS => exact (below_size (by repeat (with_reducible first | exact HB.out | apply below_alloc | apply pw_below_drewN | apply below_drew1)))); (case aL => have := LMc9.out; omega); intro v218 w14 ho hb hg hat; rw [← Ny217.out] at ho; have n0_ := Aside0.mk (Kd.R_over' (by (with_reducible repeat (first | apply Kd.R_alloc | apply Kd.R_drewN | apply Kd.R_drew)); exact HO213.out) (Kd.R_typed (by (with_reducible repeat (first | apply Kd.R_alloc | apply Kd.R_drewN | apply Kd.R_drew)); exact HO_7.out)) (by decide) hg); have n1_ := Aside0.mk (Kd.R_over' (by (with_reducible repeat (first | apply Kd.R_alloc | apply Kd.R_drewN | apply Kd.R_drew)); exact HO216.out) (Kd.R_typed (by (with_reducible repeat (first | apply Kd.R_alloc | apply Kd.R_drewN | apply Kd.R_drew)); exact HO_7.out)) (by decide) hg); have n2_ := Aside0.mk (hb); have n3_ := Aside0.mk (ho); clear HO213; clear HO216; clear HB; clear HO_7; have HO213 := n0_; have HO216 := n1_; have HB := n2_; have HO219 := n3_; clear n0_ n1_ n2_ n3_; clear ho hb hg hat))
              go_roundg k1
              case measure => have := HK1.out; omega
              case rel => exact ⟨(y214), (y217), (wrap64 (x8_1 + t210)), (by first | rfl | (simp; done) | (simp [*]; done)), H', ⟨by have := HK1.out; omega⟩, ⟨by (with_reducible repeat (first | apply Kd.R_alloc | apply Kd.R_drewN | apply Kd.R_drew)); exact Kd.R_mono HO216.out (fun _ hk => trivial)⟩, ⟨by (with_reducible repeat (first | apply Kd.R_alloc | apply Kd.R_drewN | apply Kd.R_drew)); exact HO219.out⟩, ⟨by repeat (with_reducible first | exact HB.out | apply below_alloc | apply pw_below_drewN | apply below_drew1)⟩⟩
            · rw [if_neg c9] at H
              exact absurd H (by simp)
          · rw [if_neg c8] at H
            exact absurd H (by simp)
        · rw [if_neg c7] at H
          have c7b0 : decide (4 ≤ t210) = false := decide_eq_false c7
          clear c7
          obtain ⟨ji15, hji15⟩ : ∃ j_ : Int, (wrap64 ((x7_1.length : Int) - 1)) = j_ := ⟨_, rfl⟩
          replace H : (if 0 ≤ (ji15) then (if (ji15) < (x7_1.length : Int) then (if 0 ≤ x8_1 then (if x8_1 ≤ (wrap64 (x8_1 + 1)) then (if (wrap64 (x8_1 + 1)) ≤ (a1.size : Int) then (if (rdOf ByteArray.empty x7_1 (ji15)).size + (a1.extract (x8_1 : Int).toNat ((wrap64 (x8_1 + 1)) : Int).toNat).size ≤ 9223372036854775807 then (abugidaref24_Pieces.l0 k1 a0 a1 x6_1 (x7_1.set ((ji15) : Int).toNat ((rdOf ByteArray.empty x7_1 (ji15)) ++ (a1.extract (x8_1 : Int).toNat ((wrap64 (x8_1 + 1)) : Int).toNat))) (wrap64 (x8_1 + 1))) else (none)) else (none)) else (none)) else (none)) else (none)) else (none)) = some (r1, r2) := by first | (rw [hji15] at H; exact H) | (simp only [hji15] at H ⊢; exact H)
          (try rw [hji15] at A6)
          have hji15w : (IntKind.i64.wrap ((x7_1.length : Int) - 1)) = ji15 := (i64_w _).trans hji15
          by_cases c16 : 0 ≤ (ji15)
          · rw [if_pos c16] at H
            have c16b0 : decide (0 ≤ (ji15)) = true := decide_eq_true c16
            clear c16
            by_cases c17 : (ji15) < (x7_1.length : Int)
            · rw [if_pos c17] at H
              have c17b0 : decide ((ji15) < (x7_1.length : Int)) = true := decide_eq_true c17
              clear c17
              by_cases c18 : 0 ≤ x8_1
              · rw [if_pos c18] at H
                have c18b0 := eq_true c18
                have c18b1 : decide (0 ≤ x8_1) = true := decide_eq_true c18
                clear c18
                by_cases c19 : x8_1 ≤ (wrap64 (x8_1 + 1))
                · rw [if_pos c19] at H
                  have c19b0 := eq_true c19
                  have c19b1 : decide (x8_1 ≤ (wrap64 (x8_1 + 1))) = true := decide_eq_true c19
                  by_cases c20 : (wrap64 (x8_1 + 1)) ≤ (a1.size : Int)
                  · rw [if_pos c20] at H
                    have c20b0 := eq_true c20
                    have c20b1 : decide ((wrap64 (x8_1 + 1)) ≤ (a1.size : Int)) = true := decide_eq_true c20
                    by_cases c21 : (rdOf ByteArray.empty x7_1 (ji15)).size + (a1.extract (x8_1 : Int).toNat ((wrap64 (x8_1 + 1)) : Int).toNat).size ≤ 9223372036854775807
                    · rw [if_pos c21] at H
                      have c21b0 := eq_true c21
                      have c21b1 : decide ((rdOf ByteArray.empty x7_1 (ji15)).size + (a1.extract (x8_1 : Int).toNat ((wrap64 (x8_1 + 1)) : Int).toNat).size ≤ 9223372036854775807) = true := decide_eq_true c21
                      try have c21b2 : (9223372036854775807 < (rdOf ByteArray.empty x7_1 (ji15)).size + (a1.extract (x8_1 : Int).toNat ((wrap64 (x8_1 + 1)) : Int).toNat).size) = False := eq_false (Nat.not_lt.2 c21)
                      try (have c21x : (rdOf ByteArray.empty x7_1 (ji15)).size + (((wrap64 (x8_1 + 1)) : Int).toNat - (x8_1 : Int).toNat) ≤ 9223372036854775807 := (by have h_ := c21; simp only [ByteArray.size_extract] at h_; omega); have c21x1 := eq_true c21x; have c21x2 := eq_false (Nat.not_lt.2 c21x); clear c21x)
                      obtain ⟨y221, hy221⟩ : ∃ y_ : List ByteArray, y_ = (x7_1.set ((ji15) : Int).toNat ((rdOf ByteArray.empty x7_1 (ji15)) ++ (a1.extract (x8_1 : Int).toNat ((wrap64 (x8_1 + 1)) : Int).toNat))) := ⟨_, rfl⟩
                      replace H : (abugidaref24_Pieces.l0 k1 a0 a1 x6_1 y221 (wrap64 (x8_1 + 1))) = some (r1, r2) := by first | (rw [hy221]; with_reducible exact H) | (have H2_ := (Option.bind_some _ _).symm.trans H; rw [hy221]; with_reducible exact H2_) | (have H2_ := (Option.bind_some _ _).symm.trans H; with_reducible exact H2_) | with_reducible exact H | (rw [hy221]; exact H) | exact H
                      have Ny221 := Aside0.mk hy221
                      clear hy221
                      have H' := Aside0.mk H
                      clear H
                      try go_wp2_with (first | ((with_reducible refine gate_callee (f := 48) rfl ?_); refine goesL_ (some 20) rfl rfl Try.func48 (by kernel_rfl) rfl #[.string a0, .string a1, .int .i64 x8_1] rfl (by (try simp only [List.map_toArray, List.map_cons, List.map_nil]); first | done | rfl | (simp only [List.length_drop, List.length_take]; rfl)) ?_; (with_reducible refine (abugidaref24_longest.calls k1 a0 a1 x8_1 t209 t210 _ A6.out).mono ?_); rintro e w' ⟨rfl, ⟨nd, rfl⟩⟩; refine ⟨_, rfl, ?_⟩; (try (rw [drewN_self wr]; generalize hq_ : World.drewN wr _ = wr; have n0_ : Aside0 (Kd.R (Kd.int .i64) 3 wr w.heap.size (fun _ => True) u6 x6_1) := ⟨by rw [← hq_]; exact (by (with_reducible repeat (first | apply Kd.R_alloc | apply Kd.R_drewN | apply Kd.R_drew)); exact HO_6.out)⟩; have n1_ : Aside0 (Kd.R Kd.string 9 wr w.heap.size (fun _ => True) u7 x7_1) := ⟨by rw [← hq_]; exact (by (with_reducible repeat (first | apply Kd.R_alloc | apply Kd.R_drewN | apply Kd.R_drew)); exact HO_7.out)⟩; have n2_ : Aside0 (Below w.heap.size w wr) := ⟨by rw [← hq_]; exact (by repeat (with_reducible first | exact HB.out | apply below_alloc | apply pw_below_drewN | apply below_drew1))⟩; clear HO_6 HO_7 HB hq_; have HO_6 := n0_; have HO_7 := n1_; have HB := n2_; clear n0_ n1_ n2_))))
                      have n0_ := Aside0.mk (Kd.R_drew HO_6.out)
                      have n1_ := Aside0.mk (Kd.R_drew HO_7.out)
                      have n2_ := Aside0.mk (below_drew1 HB.out)
                      clear HO_6
                      clear HO_7
                      clear HB
                      have HO_6 := n0_
                      have HO_7 := n1_
                      have HB := n2_
                      clear n0_ n1_ n2_
                      obtain ⟨Ao24, co24, eo24⟩ := Kd.R_slice HO_7.out
                      (first | subst eo24 | (injection eo24 with f1_ f2_ f3_; have f4_ := f1_.symm; have f5_ := f3_.symm; clear f1_ f2_ f3_; subst f4_; subst f5_))
                      have p220 : 0 ≤ ((ji15) : Int) := of_decide_eq_true (by first | (with_reducible assumption) | assumption)
                      have q220 : (ji15) < (x7_1.length : Int) := of_decide_eq_true (by first | (with_reducible assumption) | assumption)
                      obtain ⟨ad220, e220, hx220_0⟩ := Kd.at_string (Kd.R_reads' HO_7.out).2.2 (ji15) p220 q220
                      cases e220
                      replace p220 := eq_true p220
                      replace q220 := eq_true q220
                      have p22 : 0 ≤ ((ji15) : Int) := of_decide_eq_true (by first | (with_reducible assumption) | assumption)
                      have q22 : ((ji15) : Int) < ((x7_1.length : Int) : Int) := of_decide_eq_true (by first | (with_reducible assumption) | assumption)
                      obtain ⟨go22, co22, eo22, gb22, gl22, cl22, HG22⟩ := Kd.R_form HO_7.out (by omega)
                      (first | cases eo22 | (injection eo22 with ea_ en_ ec_; (first | subst ea_ | (injection ea_ with ea_; subst ea_)); subst ec_; clear en_))
                      have GB22 := Aside0.mk gb22
                      have GG22 := Aside0.mk HG22
                      clear gb22 gl22 HG22
                      (first | simp only [add_plain] at hx220_0 | skip)
                      obtain ⟨hx22_0, hf22_0⟩ := Kd.R_celln (⟨#[]⟩ : ByteArray) HO_7.out ((ji15) : Int) p22 q22
                      replace p22 := eq_true p22
                      replace q22 := eq_true q22
                      have HP25 := Kd.R_putn HO_7.out ((ji15) : Int) ((rdOf ByteArray.empty x7_1 (ji15)) ++ (a1.extract (x8_1 : Int).toNat ((wrap64 (x8_1 + 1)) : Int).toNat))
                      rw [← Ny221.out] at HP25
                      have HQ25 := Aside0.mk HP25
                      clear HP25
                      refine start_ (n := 18) (S := fun w' => w'.cell? ⟨go22, ((ji15)).toNat, none⟩ = some (.string (rdOf ByteArray.empty x7_1 (ji15)))) (ds := [17]) #[false, false, false, false, false, false, false, false, false, false, false, false, false, false, false, false, false, false] (by kernel_rfl) rfl rfl (hx220_0) (fun hHeld => ?_); refine with_tabW abugidaref24_Pieces.tab10 abugidaref24_Pieces.bits10 (fun HT_ HW_ => ?_)
                      generalize wr.drew = w23 at HO_6 HO_7 HB GG22 HQ25 hf22_0 hx220_0 hx22_0 hHeld ⊢
                      refine pure_ (i := 0) (N := some 36) (v := ?_) (a' := ?_) #[true, false, false, false, false, false, false, false, false, false, false, false, false, false, false, false, false, false] rfl rfl (any_of HT_.out (by kernel_rfl)) (fun _ _ _ h => h) (Or.inl ⟨by rfl, ?_⟩) ?_ ?_
                      rotate_left
                      · intro w'
                        go_simp
                        with_reducible rfl
                      rotate_left
                      · simp only [Act.put, List.setIfInBounds_toArray, List.set_cons_zero, List.set_cons_succ, i64_w, i32_w]
                        rfl
                      refine pure_ (i := 1) (N := some 37) (v := ?_) (a' := ?_) #[true, true, false, false, false, false, false, false, false, false, false, false, false, false, false, false, false, false] rfl rfl (any_of HT_.out (by kernel_rfl)) (fun _ _ _ h => h) (Or.inl ⟨by rfl, ?_⟩) ?_ ?_
                      rotate_left
                      · intro w'
                        go_simp
                        with_reducible rfl
                      rotate_left
                      · simp only [Act.put, List.setIfInBounds_toArray, List.set_cons_zero, List.set_cons_succ, i64_w, i32_w]
                        rfl
                      refine pure_ (i := 2) (N := some 38) (v := ?_) (a' := ?_) #[true, true, true, false, false, false, false, false, false, false, false, false, false, false, false, false, false, false] rfl rfl (any_of HT_.out (by kernel_rfl)) (fun _ _ _ h => h) (Or.inl ⟨by rfl, ?_⟩) ?_ ?_
                      rotate_left
                      · intro w'
                        go_simp
                        with_reducible rfl
                      rotate_left
                      · simp only [Act.put, List.setIfInBounds_toArray, List.set_cons_zero, List.set_cons_succ, i64_w, i32_w]
                        rfl
                      refine pure_ (i := 3) (N := some 39) (v := ?_) (a' := ?_) #[true, true, true, true, false, false, false, false, false, false, false, false, false, false, false, false, false, false] rfl rfl (any_of HT_.out (by kernel_rfl)) (fun _ _ _ h => h) (Or.inl ⟨by rfl, ?_⟩) ?_ ?_
                      rotate_left
                      · intro w'
                        go_simp
                        with_reducible rfl
                      rotate_left
                      · simp only [Act.put, List.setIfInBounds_toArray, List.set_cons_zero, List.set_cons_succ, i64_w, i32_w]
                        rfl
                      refine pure_ (i := 4) (N := some 40) (v := ?_) (a' := ?_) #[true, true, true, true, true, false, false, false, false, false, false, false, false, false, false, false, false, false] rfl rfl (any_of HT_.out (by kernel_rfl)) (fun _ _ _ h => h) (Or.inl ⟨by rfl, ?_⟩) ?_ ?_
                      rotate_left
                      · intro w'
                        go_simp
                        with_reducible rfl
                      rotate_left
                      · simp only [Act.put, List.setIfInBounds_toArray, List.set_cons_zero, List.set_cons_succ, i64_w, i32_w]
                        rfl
                      refine pure_ (i := 5) (N := some 41) (v := ?_) (a' := ?_) #[true, true, true, true, true, true, false, false, false, false, false, false, false, false, false, false, false, false] rfl rfl (any_of HT_.out (by kernel_rfl)) (fun _ _ _ h => h) (Or.inl ⟨by rfl, ?_⟩) ?_ ?_
                      rotate_left
                      · intro w'
                        go_simp
                        with_reducible rfl
                      rotate_left
                      · simp only [Act.put, List.setIfInBounds_toArray, List.set_cons_zero, List.set_cons_succ, i64_w, i32_w]
                        rfl
                      refine pure_ (i := 6) (N := some 42) (v := ?_) (a' := ?_) #[true, true, true, true, true, true, true, false, false, false, false, false, false, false, false, false, false, false] rfl rfl (any_of HT_.out (by kernel_rfl)) (fun _ _ _ h => h) (Or.inl ⟨by rfl, ?_⟩) ?_ ?_
                      rotate_left
                      · intro w'
                        go_simp
                        with_reducible rfl
                      rotate_left
                      · simp only [Act.put, List.setIfInBounds_toArray, List.set_cons_zero, List.set_cons_succ, i64_w, i32_w]
                        rfl
                      refine pure_ (i := 7) (N := some 43) (v := ?_) (a' := ?_) #[true, true, true, true, true, true, true, true, false, false, false, false, false, false, false, false, false, false] rfl rfl (any_of HT_.out (by kernel_rfl)) (fun _ _ _ h => h) (Or.inl ⟨by rfl, ?_⟩) ?_ ?_
                      rotate_left
                      · intro w'
                        go_simp
                        with_reducible rfl
                      rotate_left
                      · simp only [Act.put, List.setIfInBounds_toArray, List.set_cons_zero, List.set_cons_succ, i64_w, i32_w]
                        rfl
                      refine pure_ (i := 8) (N := some 44) (v := ?_) (a' := ?_) #[true, true, true, true, true, true, true, true, true, false, false, false, false, false, false, false, false, false] rfl rfl (any_of HT_.out (by kernel_rfl)) (fun _ _ _ h => h) (Or.inl ⟨by rfl, ?_⟩) ?_ ?_
                      rotate_left
                      · intro w'
                        go_simp
                        with_reducible rfl
                      rotate_left
                      · simp only [Act.put, List.setIfInBounds_toArray, List.set_cons_zero, List.set_cons_succ, i64_w, i32_w]
                        rfl
                      refine pure_ (i := 10) (N := some 46) (v := ?_) (a' := ?_) #[true, true, true, true, true, true, true, true, true, false, true, false, false, false, false, false, false, false] rfl rfl (any_of HT_.out (by kernel_rfl)) (fun _ _ _ h => h) (Or.inl ⟨by rfl, ?_⟩) ?_ ?_
                      rotate_left
                      · intro w'
                        go_simp
                        with_reducible rfl
                      rotate_left
                      · simp only [Act.put, List.setIfInBounds_toArray, List.set_cons_zero, List.set_cons_succ, i64_w, i32_w]
                        rfl
                      refine pure_ (i := 11) (N := some 47) (v := ?_) (a' := ?_) #[true, true, true, true, true, true, true, true, true, false, true, true, false, false, false, false, false, false] rfl rfl (any_of HT_.out (by kernel_rfl)) (fun _ _ _ h => h) (Or.inl ⟨by rfl, ?_⟩) ?_ ?_
                      rotate_left
                      · intro w'
                        go_simp
                        with_reducible rfl
                      rotate_left
                      · simp only [Act.put, List.setIfInBounds_toArray, List.set_cons_zero, List.set_cons_succ, i64_w, i32_w]
                        rfl
                      refine pure_ (i := 12) (N := some 48) (v := ?_) (a' := ?_) #[true, true, true, true, true, true, true, true, true, false, true, true, true, false, false, false, false, false] rfl rfl (any_of HT_.out (by kernel_rfl)) (fun _ _ _ h => h) (Or.inl ⟨by rfl, ?_⟩) ?_ ?_
                      rotate_left
                      · intro w'
                        go_simp
                        with_reducible rfl
                      rotate_left
                      · simp only [Act.put, List.setIfInBounds_toArray, List.set_cons_zero, List.set_cons_succ, i64_w, i32_w]
                        rfl
                      refine pure_ (i := 13) (N := some 49) (v := ?_) (a' := ?_) #[true, true, true, true, true, true, true, true, true, false, true, true, true, true, false, false, false, false] rfl rfl (any_of HT_.out (by kernel_rfl)) (fun _ _ _ h => h) (Or.inl ⟨by rfl, ?_⟩) ?_ ?_
                      rotate_left
                      · intro w'
                        go_simp
                        with_reducible rfl
                      rotate_left
                      · simp only [Act.put, List.setIfInBounds_toArray, List.set_cons_zero, List.set_cons_succ, i64_w, i32_w]
                        rfl
                      refine pure_ (i := 14) (N := some 50) (v := ?_) (a' := ?_) #[true, true, true, true, true, true, true, true, true, false, true, true, true, true, true, false, false, false] rfl rfl (any_of HT_.out (by kernel_rfl)) (fun _ _ _ h => h) (Or.inl ⟨by rfl, ?_⟩) ?_ ?_
                      rotate_left
                      · intro w'
                        go_simp
                        with_reducible rfl
                      rotate_left
                      · simp only [Act.put, List.setIfInBounds_toArray, List.set_cons_zero, List.set_cons_succ, i64_w, i32_w]
                        rfl
                      refine take_ (i := 9) (N := some 45) (v := ?_) (a' := ?_) #[true, true, true, true, true, true, true, true, true, true, true, true, true, true, true, false, false, false] rfl rfl (take_ofW HT_.out HW_.out (by kernel_rfl)) (fun _ _ _ h => h) (Or.inl ⟨by rfl, ?_⟩) hHeld ?_ ?_
                      rotate_left
                      · intro w' s0
                        go_simp
                        with_reducible rfl
                      rotate_left
                      · simp only [Act.put, List.setIfInBounds_toArray, List.set_cons_zero, List.set_cons_succ, i64_w, i32_w]
                        rfl
                      refine pure_ (i := 15) (N := some 51) (v := ?_) (a' := ?_) #[true, true, true, true, true, true, true, true, true, true, true, true, true, true, true, true, false, false] rfl rfl (any_of HT_.out (by kernel_rfl)) (fun _ _ _ h => h) (Or.inl ⟨by rfl, ?_⟩) ?_ ?_
                      rotate_left
                      · intro w'
                        go_simp
                        with_reducible rfl
                      rotate_left
                      · simp only [Act.put, List.setIfInBounds_toArray, List.set_cons_zero, List.set_cons_succ, i64_w, i32_w]
                        rfl
                      refine pure_ (i := 16) (N := some 52) (v := ?_) (a' := ?_) #[true, true, true, true, true, true, true, true, true, true, true, true, true, true, true, true, true, false] rfl rfl (any_of HT_.out (by kernel_rfl)) (fun _ _ _ h => h) (Or.inl ⟨by rfl, ?_⟩) ?_ ?_
                      rotate_left
                      · intro w'
                        go_simp
                        with_reducible rfl
                      rotate_left
                      · simp only [Act.put, List.setIfInBounds_toArray, List.set_cons_zero, List.set_cons_succ, i64_w, i32_w]
                        rfl
                      refine last_ (i := 17) (N := none) #[true, true, true, true, true, true, true, true, true, true, true, true, true, true, true, true, true, true] rfl rfl (one_of HT_.out (by kernel_rfl)) (by decide) (fun K hK => ?_)
                      refine skip_ (w1 := ?_) (by rfl) rfl ?_ ?_
                      rotate_left
                      · go_simp
                        rfl
                      refine hK.out _ _ ?_
                      clear hK K
                      refine done_ (done_of HT_.out (by kernel_rfl)) ?_
                      try go_wp2
                      go_roundg k1
                      case measure => have := HK1.out; omega
                      case rel => exact ⟨(x6_1), (y221), (wrap64 (x8_1 + 1)), (by first | rfl | (simp; done) | (simp [*]; done)), H', ⟨by have := HK1.out; omega⟩, ⟨by (with_reducible repeat (first | apply Kd.R_alloc | apply Kd.R_drewN | apply Kd.R_drew)); exact Kd.R_mono (Kd.R_far (p := ⟨go22, ((ji15) : Int).toNat, none⟩) (Kd.R_types HO_6.out GG22.out (by decide)) (fun _ hk => hk.2) (.string ((rdOf ByteArray.empty x7_1 (ji15)) ++ (a1.extract (x8_1 : Int).toNat ((wrap64 (x8_1 + 1)) : Int).toNat)))) (fun _ hk => trivial)⟩, ⟨by (with_reducible repeat (first | apply Kd.R_alloc | apply Kd.R_drewN | apply Kd.R_drew)); exact HQ25.out⟩, ⟨by repeat (first | (with_reducible first | exact HB.out | apply below_alloc | apply pw_below_drewN | apply below_drew1 | refine below_set ?_ GB22.out) | exact HB.out)⟩⟩
                    · rw [if_neg c21] at H
                      exact absurd H (by simp)
                  · rw [if_neg c20] at H
                    exact absurd H (by simp)
                · rw [if_neg c19] at H
                  exact absurd H (by simp)
              · rw [if_neg c18] at H
                exact absurd H (by simp)
            · rw [if_neg c17] at H
              exact absurd H (by simp)
          · rw [if_neg c16] at H
            exact absurd H (by simp)
      · rw [if_neg c5] at H
        have c5b0 : decide (x8_1 < (a1.size : Int)) = false := decide_eq_false c5
        clear c5
        simp only [Option.some.injEq, Prod.mk.injEq] at H
        obtain ⟨rfl, rfl⟩ := H
        go_wp2
        go_ret2
        exact ⟨_, _, by first | rfl | (simp [errW_none, errW_some] <;> rfl) | (simp [*, errW_none, errW_some] <;> rfl), by (with_reducible repeat (first | apply Kd.R_alloc | apply Kd.R_drewN | apply Kd.R_drew)); exact HO_6.out, by (with_reducible repeat (first | apply Kd.R_alloc | apply Kd.R_drewN | apply Kd.R_drew)); exact HO_7.out, by repeat (with_reducible first | exact HB.out | apply below_alloc | apply pw_below_drewN | apply below_drew1)⟩

/-! ### abugidaref24_Make: function 13 -/
def abugidaref24_Make.f (k : Nat) (a0 : ByteArray) (a1 : ByteArray) : Option (ByteArray) := if (a1.size : Int) > 65536 then (some (⟨#[]⟩ : ByteArray)) else (if (a0.size : Int) > 65536 then ((abugidaref24_Pieces.f k (⟨#[]⟩ : ByteArray) a1).bind fun bt222 => ((abugidaref02_Ints.f k bt222.1).bind fun t228 => ((abugidaref02_Texts.f k bt222.2).bind fun t229 => (if t228.size + t229.size ≤ 9223372036854775807 then (some (t228 ++ t229)) else (none))))) else ((abugidaref24_Pieces.f k a0 a1).bind fun bt230 => ((abugidaref02_Ints.f k bt230.1).bind fun t236 => ((abugidaref02_Texts.f k bt230.2).bind fun t237 => (if t236.size + t237.size ≤ 9223372036854775807 then (some (t236 ++ t237)) else (none))))))
set_option maxHeartbeats 8000000 in
set_option maxRecDepth 100000 in
theorem abugidaref24_Make.calls (k : Nat) (a0 : ByteArray) (a1 : ByteArray) (r : ByteArray) (w : World) (h : abugidaref24_Make.f k a0 a1 = some r) :
    Calls Try.prog 13 #[.string a0, .string a1] w fun e w' => e = .returned (.string r) ∧ Below w.heap.size w w' := by
  have HB := Aside0.mk (Below.refl w.heap.size w)
  have H : (if (a1.size : Int) > 65536 then (some (⟨#[]⟩ : ByteArray)) else (if (a0.size : Int) > 65536 then ((abugidaref24_Pieces.f k (⟨#[]⟩ : ByteArray) a1).bind fun bt222 => ((abugidaref02_Ints.f k bt222.1).bind fun t228 => ((abugidaref02_Texts.f k bt222.2).bind fun t229 => (if t228.size + t229.size ≤ 9223372036854775807 then (some (t228 ++ t229)) else (none))))) else ((abugidaref24_Pieces.f k a0 a1).bind fun bt230 => ((abugidaref02_Ints.f k bt230.1).bind fun t236 => ((abugidaref02_Texts.f k bt230.2).bind fun t237 => (if t236.size + t237.size ≤ 9223372036854775807 then (some (t236 ++ t237)) else (none))))))) = some r := h
  clear h
  by_cases c3 : (a1.size : Int) > 65536
  · rw [if_pos c3] at H
    have c3b0 : decide (65536 < (a1.size : Int)) = true := decide_eq_true c3
    have c3b1 : decide (65536 < a1.size) = true := decide_eq_true (by omega)
    clear c3
    obtain rfl := Option.some.inj H
    go_enter Try.func13, Try.ntmps13
    go_wp2
    go_ret
    exact ⟨by first | rfl | (simp [errW_none, errW_some] <;> rfl) | (simp [*, errW_none, errW_some] <;> rfl), by repeat (with_reducible first | exact HB.out | apply below_alloc | apply pw_below_drewN | apply below_drew1)⟩
  · rw [if_neg c3] at H
    have c3b0 : decide (65536 < (a1.size : Int)) = false := decide_eq_false c3
    have c3b1 : decide (65536 < a1.size) = false := decide_eq_false (by omega)
    clear c3
    by_cases c4 : (a0.size : Int) > 65536
    · rw [if_pos c4] at H
      have c4b0 : decide (65536 < (a0.size : Int)) = true := decide_eq_true c4
      have c4b1 : decide (65536 < a0.size) = true := decide_eq_true (by omega)
      clear c4
      replace H := Option.bind_eq_some_iff.mp H
      obtain ⟨⟨t222, t223⟩, A50, H⟩ := H
      try dsimp only at H
      have A5 := Aside0.mk A50
      clear A50
      replace H := Option.bind_eq_some_iff.mp H
      obtain ⟨t228, A60, H⟩ := H
      try dsimp only at H
      have A6 := Aside0.mk A60
      clear A60
      replace H := Option.bind_eq_some_iff.mp H
      obtain ⟨t229, A70, H⟩ := H
      try dsimp only at H
      have A7 := Aside0.mk A70
      clear A70
      by_cases c8 : t228.size + t229.size ≤ 9223372036854775807
      · rw [if_pos c8] at H
        have c8b0 := eq_true c8
        have c8b1 : decide (t228.size + t229.size ≤ 9223372036854775807) = true := decide_eq_true c8
        try have c8b2 : (9223372036854775807 < t228.size + t229.size) = False := eq_false (Nat.not_lt.2 c8)
        obtain rfl := Option.some.inj H
        go_enter Try.func13, Try.ntmps13
        go_wp2_with (first | ((with_reducible refine gate_callee (f := 31) rfl ?_); refine goesL_ (some 16) rfl rfl Try.func31 (by kernel_rfl) rfl #[.string (⟨#[]⟩ : ByteArray), .string a1] rfl (by (try simp only [List.map_toArray, List.map_cons, List.map_nil]); first | done | rfl | (simp only [List.length_drop, List.length_take]; rfl)) ?_; (with_reducible refine (abugidaref24_Pieces.calls k (⟨#[]⟩ : ByteArray) a1 t222 t223 _ A5.out).mono ?_); rintro e w9 ⟨v224, v226, rfl, ho0, ho1, hb⟩; refine ⟨_, rfl, ?_⟩; have n0_ := Aside0.mk (Kd.R_lower ho0 (below_size (by repeat (with_reducible first | exact HB.out | apply below_alloc | apply pw_below_drewN | apply below_drew1)))); have n1_ := Aside0.mk (Kd.R_lower ho1 (below_size (by repeat (with_reducible first | exact HB.out | apply below_alloc | apply pw_below_drewN | apply below_drew1)))); have n2_ := Aside0.mk (below_step (by repeat (with_reducible first | exact HB.out | apply below_alloc | apply pw_below_drewN | apply below_drew1)) hb); clear HB; have HO225 := n0_; have HO227 := n1_; have HB := n2_; clear n0_ n1_ n2_; (try clear hb); (try clear hb2); (try clear hk); (try clear hi); (try clear ho0); (try clear ho1); obtain ⟨Ao10, co10, eo10⟩ := Kd.R_slice HO225.out; subst eo10) | ((with_reducible refine gate_callee (f := 32) rfl ?_); refine goesL_ (some 20) rfl rfl Try.func32 (by kernel_rfl) rfl #[.slice Ao10 t222.length co10] rfl (by (try simp only [List.map_toArray, List.map_cons, List.map_nil]); first | done | rfl | (simp only [List.length_drop, List.length_take]; rfl)) ?_; (with_reducible refine (abugidaref02_Ints.calls k _ _ t222 t228 _ ?side1 ?side2 A6.out).mono ?_); (case side1 => repeat (first | exact (Kd.R_reads' HO225.out).2.2 | (with_reducible refine Kd.C_alloc ?_ _) | (with_reducible refine Kd.C_drewN ?_ _) | (with_reducible refine Kd.C_drew ?_))); (case side2 => exact (Kd.R_reads' HO225.out).2.1); rintro e w11 ⟨rfl, hb⟩; refine ⟨_, rfl, ?_⟩; have n0_ := Aside0.mk (Kd.R_below (by (with_reducible repeat (first | apply Kd.R_alloc | apply Kd.R_drewN | apply Kd.R_drew)); exact HO225.out) hb); have n1_ := Aside0.mk (Kd.R_below (by (with_reducible repeat (first | apply Kd.R_alloc | apply Kd.R_drewN | apply Kd.R_drew)); exact HO227.out) hb); have n2_ := Aside0.mk (below_step (by repeat (with_reducible first | exact HB.out | apply below_alloc | apply pw_below_drewN | apply below_drew1)) hb); clear HO225; clear HO227; clear HB; have HO225 := n0_; have HO227 := n1_; have HB := n2_; clear n0_ n1_ n2_; (try clear hb); (try clear hb2); (try clear hk); (try clear hi); obtain ⟨Ao12, co12, eo12⟩ := Kd.R_slice HO227.out; subst eo12) | ((with_reducible refine gate_callee (f := 33) rfl ?_); refine goesL_ (some 22) rfl rfl Try.func33 (by kernel_rfl) rfl #[.slice Ao12 t223.length co12] rfl (by (try simp only [List.map_toArray, List.map_cons, List.map_nil]); first | done | rfl | (simp only [List.length_drop, List.length_take]; rfl)) ?_; (with_reducible refine (abugidaref02_Texts.calls k _ _ t223 t229 _ ?side1 ?side2 A7.out).mono ?_); (case side1 => repeat (first | exact (Kd.R_reads' HO227.out).2.2 | (with_reducible refine Kd.C_alloc ?_ _) | (with_reducible refine Kd.C_drewN ?_ _) | (with_reducible refine Kd.C_drew ?_))); (case side2 => exact (Kd.R_reads' HO227.out).2.1); rintro e w13 ⟨rfl, hb⟩; refine ⟨_, rfl, ?_⟩; have n0_ := Aside0.mk (Kd.R_below (by (with_reducible repeat (first | apply Kd.R_alloc | apply Kd.R_drewN | apply Kd.R_drew)); exact HO225.out) hb); have n1_ := Aside0.mk (Kd.R_below (by (with_reducible repeat (first | apply Kd.R_alloc | apply Kd.R_drewN | apply Kd.R_drew)); exact HO227.out) hb); have n2_ := Aside0.mk (below_step (by repeat (with_reducible first | exact HB.out | apply below_alloc | apply pw_below_drewN | apply below_drew1)) hb); clear HO225; clear HO227; clear HB; have HO225 := n0_; have HO227 := n1_; have HB := n2_; clear n0_ n1_ n2_; (try clear hb); (try clear hb2); (try clear hk); (try clear hi)))
        go_ret
        exact ⟨by first | rfl | (simp [errW_none, errW_some] <;> rfl) | (simp [*, errW_none, errW_some] <;> rfl), by repeat (with_reducible first | exact HB.out | apply below_alloc | apply pw_below_drewN | apply below_drew1)⟩
      · rw [if_neg c8] at H
        exact absurd H (by simp)
    · rw [if_neg c4] at H
      have c4b0 : decide (65536 < (a0.size : Int)) = false := decide_eq_false c4
      have c4b1 : decide (65536 < a0.size) = false := decide_eq_false (by omega)
      clear c4
      replace H := Option.bind_eq_some_iff.mp H
      obtain ⟨⟨t230, t231⟩, A140, H⟩ := H
      try dsimp only at H
      have A14 := Aside0.mk A140
      clear A140
      replace H := Option.bind_eq_some_iff.mp H
      obtain ⟨t236, A150, H⟩ := H
      try dsimp only at H
      have A15 := Aside0.mk A150
      clear A150
      replace H := Option.bind_eq_some_iff.mp H
      obtain ⟨t237, A160, H⟩ := H
      try dsimp only at H
      have A16 := Aside0.mk A160
      clear A160
      by_cases c17 : t236.size + t237.size ≤ 9223372036854775807
      · rw [if_pos c17] at H
        have c17b0 := eq_true c17
        have c17b1 : decide (t236.size + t237.size ≤ 9223372036854775807) = true := decide_eq_true c17
        try have c17b2 : (9223372036854775807 < t236.size + t237.size) = False := eq_false (Nat.not_lt.2 c17)
        obtain rfl := Option.some.inj H
        go_enter Try.func13, Try.ntmps13
        go_wp2_with (first | ((with_reducible refine gate_callee (f := 31) rfl ?_); refine goesL_ (some 16) rfl rfl Try.func31 (by kernel_rfl) rfl #[.string a0, .string a1] rfl (by (try simp only [List.map_toArray, List.map_cons, List.map_nil]); first | done | rfl | (simp only [List.length_drop, List.length_take]; rfl)) ?_; (with_reducible refine (abugidaref24_Pieces.calls k a0 a1 t230 t231 _ A14.out).mono ?_); rintro e w18 ⟨v232, v234, rfl, ho0, ho1, hb⟩; refine ⟨_, rfl, ?_⟩; have n0_ := Aside0.mk (Kd.R_lower ho0 (below_size (by repeat (with_reducible first | exact HB.out | apply below_alloc | apply pw_below_drewN | apply below_drew1)))); have n1_ := Aside0.mk (Kd.R_lower ho1 (below_size (by repeat (with_reducible first | exact HB.out | apply below_alloc | apply pw_below_drewN | apply below_drew1)))); have n2_ := Aside0.mk (below_step (by repeat (with_reducible first | exact HB.out | apply below_alloc | apply pw_below_drewN | apply below_drew1)) hb); clear HB; have HO233 := n0_; have HO235 := n1_; have HB := n2_; clear n0_ n1_ n2_; (try clear hb); (try clear hb2); (try clear hk); (try clear hi); (try clear ho0); (try clear ho1); obtain ⟨Ao19, co19, eo19⟩ := Kd.R_slice HO233.out; subst eo19) | ((with_reducible refine gate_callee (f := 32) rfl ?_); refine goesL_ (some 20) rfl rfl Try.func32 (by kernel_rfl) rfl #[.slice Ao19 t230.length co19] rfl (by (try simp only [List.map_toArray, List.map_cons, List.map_nil]); first | done | rfl | (simp only [List.length_drop, List.length_take]; rfl)) ?_; (with_reducible refine (abugidaref02_Ints.calls k _ _ t230 t236 _ ?side1 ?side2 A15.out).mono ?_); (case side1 => repeat (first | exact (Kd.R_reads' HO233.out).2.2 | (with_reducible refine Kd.C_alloc ?_ _) | (with_reducible refine Kd.C_drewN ?_ _) | (with_reducible refine Kd.C_drew ?_))); (case side2 => exact (Kd.R_reads' HO233.out).2.1); rintro e w20 ⟨rfl, hb⟩; refine ⟨_, rfl, ?_⟩; have n0_ := Aside0.mk (Kd.R_below (by (with_reducible repeat (first | apply Kd.R_alloc | apply Kd.R_drewN | apply Kd.R_drew)); exact HO233.out) hb); have n1_ := Aside0.mk (Kd.R_below (by (with_reducible repeat (first | apply Kd.R_alloc | apply Kd.R_drewN | apply Kd.R_drew)); exact HO235.out) hb); have n2_ := Aside0.mk (below_step (by repeat (with_reducible first | exact HB.out | apply below_alloc | apply pw_below_drewN | apply below_drew1)) hb); clear HO233; clear HO235; clear HB; have HO233 := n0_; have HO235 := n1_; have HB := n2_; clear n0_ n1_ n2_; (try clear hb); (try clear hb2); (try clear hk); (try clear hi); obtain ⟨Ao21, co21, eo21⟩ := Kd.R_slice HO235.out; subst eo21) | ((with_reducible refine gate_callee (f := 33) rfl ?_); refine goesL_ (some 22) rfl rfl Try.func33 (by kernel_rfl) rfl #[.slice Ao21 t231.length co21] rfl (by (try simp only [List.map_toArray, List.map_cons, List.map_nil]); first | done | rfl | (simp only [List.length_drop, List.length_take]; rfl)) ?_; (with_reducible refine (abugidaref02_Texts.calls k _ _ t231 t237 _ ?side1 ?side2 A16.out).mono ?_); (case side1 => repeat (first | exact (Kd.R_reads' HO235.out).2.2 | (with_reducible refine Kd.C_alloc ?_ _) | (with_reducible refine Kd.C_drewN ?_ _) | (with_reducible refine Kd.C_drew ?_))); (case side2 => exact (Kd.R_reads' HO235.out).2.1); rintro e w22 ⟨rfl, hb⟩; refine ⟨_, rfl, ?_⟩; have n0_ := Aside0.mk (Kd.R_below (by (with_reducible repeat (first | apply Kd.R_alloc | apply Kd.R_drewN | apply Kd.R_drew)); exact HO233.out) hb); have n1_ := Aside0.mk (Kd.R_below (by (with_reducible repeat (first | apply Kd.R_alloc | apply Kd.R_drewN | apply Kd.R_drew)); exact HO235.out) hb); have n2_ := Aside0.mk (below_step (by repeat (with_reducible first | exact HB.out | apply below_alloc | apply pw_below_drewN | apply below_drew1)) hb); clear HO233; clear HO235; clear HB; have HO233 := n0_; have HO235 := n1_; have HB := n2_; clear n0_ n1_ n2_; (try clear hb); (try clear hb2); (try clear hk); (try clear hi)))
        go_ret
        exact ⟨by first | rfl | (simp [errW_none, errW_some] <;> rfl) | (simp [*, errW_none, errW_some] <;> rfl), by repeat (with_reducible first | exact HB.out | apply below_alloc | apply pw_below_drewN | apply below_drew1)⟩
      · rw [if_neg c17] at H
        exact absurd H (by simp)

/-! ### abugidaref24_Apply: function 17 -/
mutual
def abugidaref24_Apply.j0 : Nat → ByteArray → List Int → List ByteArray → Bool → Option (ByteArray × Int)
  | 0, _, _, _, _ => none
  | k + 1, x0, x7, x8, x46 => if x46 = true then (some ((⟨#[]⟩ : ByteArray), 4)) else (if 0 < (x8.length : Int) then (abugidaref24_Apply.l0 k x0 x7 x8 ((rdOf ByteArray.empty x8 0).size : Int) 0) else (none))
def abugidaref24_Apply.l0 : Nat → ByteArray → List Int → List ByteArray → Int → Int → Option (ByteArray × Int)
  | 0, _, _, _, _, _ => none
  | k + 1, x0, x7, x8, x11, x12 => if (wrap64 (x12 + 1)) < (x7.length : Int) then (if 0 ≤ x12 then (if x12 < (x7.length : Int) then (if 0 ≤ (wrap64 (x12 + 1)) then (if (rd x7 x12) < 0 then (some ((⟨#[]⟩ : ByteArray), 3)) else (if (rd x7 (wrap64 (x12 + 1))) < 1 then (some ((⟨#[]⟩ : ByteArray), 3)) else (if (rd x7 x12) > (x0.size : Int) then (some ((⟨#[]⟩ : ByteArray), 3)) else (if (rd x7 (wrap64 (x12 + 1))) > (wrap64 ((x0.size : Int) - (rd x7 x12))) then (some ((⟨#[]⟩ : ByteArray), 3)) else (if 0 ≤ (wrap64 ((wrap64 (Int.tdiv x12 2)) + 1)) then (if (wrap64 ((wrap64 (Int.tdiv x12 2)) + 1)) < (x8.length : Int) then (abugidaref24_Apply.l0 k x0 x7 x8 (mn (wrap64 ((wrap64 (x11 + (rd x7 (wrap64 (x12 + 1))))) + ((rdOf ByteArray.empty x8 (wrap64 ((wrap64 (Int.tdiv x12 2)) + 1))).size : Int))) 65537) (wrap64 (x12 + 2))) else (none)) else (none)))))) else (none)) else (none)) else (none)) else (if x11 > 65536 then (some ((⟨#[]⟩ : ByteArray), 2)) else (if 0 < (x8.length : Int) then (abugidaref24_Apply.l1 k x0 x7 x8 (rdOf ByteArray.empty x8 0) 0) else (none)))
def abugidaref24_Apply.l1 : Nat → ByteArray → List Int → List ByteArray → ByteArray → Int → Option (ByteArray × Int)
  | 0, _, _, _, _, _ => none
  | k + 1, x0, x7, x8, x15, x16 => if (wrap64 (x16 + 1)) < (x7.length : Int) then (if 0 ≤ x16 then (if x16 < (x7.length : Int) then (if 0 ≤ (wrap64 (x16 + 1)) then (if 0 ≤ (rd x7 x16) then (if (rd x7 x16) ≤ (wrap64 ((rd x7 x16) + (rd x7 (wrap64 (x16 + 1))))) then (if (wrap64 ((rd x7 x16) + (rd x7 (wrap64 (x16 + 1))))) ≤ (x0.size : Int) then (if x15.size + (x0.extract ((rd x7 x16) : Int).toNat ((wrap64 ((rd x7 x16) + (rd x7 (wrap64 (x16 + 1))))) : Int).toNat).size ≤ 9223372036854775807 then (if 0 ≤ (wrap64 ((wrap64 (Int.tdiv x16 2)) + 1)) then (if (wrap64 ((wrap64 (Int.tdiv x16 2)) + 1)) < (x8.length : Int) then (if (x15 ++ (x0.extract ((rd x7 x16) : Int).toNat ((wrap64 ((rd x7 x16) + (rd x7 (wrap64 (x16 + 1))))) : Int).toNat)).size + (rdOf ByteArray.empty x8 (wrap64 ((wrap64 (Int.tdiv x16 2)) + 1))).size ≤ 9223372036854775807 then (abugidaref24_Apply.l1 k x0 x7 x8 ((x15 ++ (x0.extract ((rd x7 x16) : Int).toNat ((wrap64 ((rd x7 x16) + (rd x7 (wrap64 (x16 + 1))))) : Int).toNat)) ++ (rdOf ByteArray.empty x8 (wrap64 ((wrap64 (Int.tdiv x16 2)) + 1)))) (wrap64 (x16 + 2))) else (none)) else (none)) else (none)) else (none)) else (none)) else (none)) else (none)) else (none)) else (none)) else (none)) else (some (x15, 0))
end
def abugidaref24_Apply.f (k : Nat) (a0 : ByteArray) (a1 : ByteArray) : Option (ByteArray × Int) := (abugidaref02_New.f a1).bind fun bt238 => ((abugidaref02_Reader_Ints.f k bt238.1 bt238.2.1 bt238.2.2).bind fun bt242 => ((abugidaref02_Reader_Texts.f k bt242.2.1 bt242.2.2.1 bt242.2.2.2).bind fun bt248 => ((abugidaref02_Reader_Bad.f bt248.2.1 bt248.2.2.1 bt248.2.2.2).bind fun bt254 => ((abugidaref02_Reader_Left.f bt254.2.1 bt254.2.2.1 bt254.2.2.2).bind fun bt258 => (if bt254.1 = true then (abugidaref24_Apply.j0 k a0 bt242.1 bt248.1 true) else (if bt258.1 > 0 then (abugidaref24_Apply.j0 k a0 bt242.1 bt248.1 true) else (if ((bt242.1.length : Int) % 2) = 1 then (abugidaref24_Apply.j0 k a0 bt242.1 bt248.1 true) else (abugidaref24_Apply.j0 k a0 bt242.1 bt248.1 ((bt248.1.length : Int) != (wrap64 ((wrap64 ((bt242.1.length : Int) / 2)) + 1)))))))))))
set_option maxHeartbeats 8000000 in
set_option maxRecDepth 100000 in
theorem abugidaref24_Apply.calls (k : Nat) (a0 : ByteArray) (a1 : ByteArray) (r1 : ByteArray) (r2 : Int) (w : World) (h : abugidaref24_Apply.f k a0 a1 = some (r1, r2)) :
    Calls Try.prog 17 #[.string a0, .string a1] w fun e w' => e = .returned (.tuple #[.string r1, .int .i64 r2]) ∧ Below w.heap.size w w' := by
  have HB := Aside0.mk (Below.refl w.heap.size w)
  have H : ((abugidaref02_New.f a1).bind fun bt238 => ((abugidaref02_Reader_Ints.f k bt238.1 bt238.2.1 bt238.2.2).bind fun bt242 => ((abugidaref02_Reader_Texts.f k bt242.2.1 bt242.2.2.1 bt242.2.2.2).bind fun bt248 => ((abugidaref02_Reader_Bad.f bt248.2.1 bt248.2.2.1 bt248.2.2.2).bind fun bt254 => ((abugidaref02_Reader_Left.f bt254.2.1 bt254.2.2.1 bt254.2.2.2).bind fun bt258 => (if bt254.1 = true then (abugidaref24_Apply.j0 k a0 bt242.1 bt248.1 true) else (if bt258.1 > 0 then (abugidaref24_Apply.j0 k a0 bt242.1 bt248.1 true) else (if ((bt242.1.length : Int) % 2) = 1 then (abugidaref24_Apply.j0 k a0 bt242.1 bt248.1 true) else (abugidaref24_Apply.j0 k a0 bt242.1 bt248.1 ((bt248.1.length : Int) != (wrap64 ((wrap64 ((bt242.1.length : Int) / 2)) + 1)))))))))))) = some (r1, r2) := h
  clear h
  replace H := Option.bind_eq_some_iff.mp H
  obtain ⟨⟨t238, t239, t240⟩, A30, H⟩ := H
  try dsimp only at H
  have A3 := Aside0.mk A30
  clear A30
  replace H := Option.bind_eq_some_iff.mp H
  obtain ⟨⟨t242, t245, t246, t247⟩, A40, H⟩ := H
  try dsimp only at H
  have A4 := Aside0.mk A40
  clear A40
  replace H := Option.bind_eq_some_iff.mp H
  obtain ⟨⟨t248, t251, t252, t253⟩, A50, H⟩ := H
  try dsimp only at H
  have A5 := Aside0.mk A50
  clear A50
  replace H := Option.bind_eq_some_iff.mp H
  obtain ⟨⟨t254, t255, t256, t257⟩, A60, H⟩ := H
  try dsimp only at H
  have A6 := Aside0.mk A60
  clear A60
  replace H := Option.bind_eq_some_iff.mp H
  obtain ⟨⟨t258, t259, t260, t261⟩, A70, H⟩ := H
  try dsimp only at H
  have A7 := Aside0.mk A70
  clear A70
  have HC8 := Aside0.mk H
  clear H
  go_enter Try.func17, Try.ntmps17
  go_upto_region 6 with (first | (go_at_call 35; (with_reducible refine (abugidaref02_New.calls a1 t238 t239 t240 w _ ?side1 A3.out).mono ?_); (case side1 => repeat (with_reducible first | exact HB.out | apply below_alloc | apply pw_below_drewN | apply below_drew1)); rintro e w9 ⟨g241, rfl, hi, hb, hb2⟩; have n0_ := Aside0.mk (hb); have n1_ := Aside0.mk (hi); clear HB; have HB := n0_; have HI241 := n1_; clear n0_ n1_; (try clear hb); (try clear hb2); (try clear hk); (try clear hi)) | (go_at_call 36; (with_reducible refine (abugidaref02_Reader_Ints.calls k g241 t238 t239 t240 t242 t245 t246 t247 w _ ?side1 ?side2 A4.out).mono ?_); (case side1 => repeat (first | (with_reducible first | exact HI241.out | apply IsS77.alloc | apply IsS77.drewN | apply IsS77.drew | apply IsS77.set_0 | apply IsS77.set_1 | apply IsS77.set_2) | exact HI241.out)); (case side2 => repeat (first | (with_reducible first | exact HB.out | apply below_alloc | apply pw_below_drewN | apply below_drew1 | refine below_set ?_ (IsS77.ge HI241.out)) | exact HB.out)); rintro e w10 ⟨v243, rfl, ho0, hi, hb, hk⟩; have n0_ := Aside0.mk (Kd.R_lower ho0 (below_size (by repeat (first | (with_reducible first | exact HB.out | apply below_alloc | apply pw_below_drewN | apply below_drew1 | refine below_set ?_ (IsS77.ge HI241.out)) | exact HB.out)))); have n1_ := Aside0.mk (hb); have n2_ := Aside0.mk (hi); clear HB; clear HI241; have HO244 := n0_; have HB := n1_; have HI241 := n2_; clear n0_ n1_ n2_; (try clear hb); (try clear hb2); (try clear hk); (try clear hi); (try clear ho0)) | (go_at_call 37; (with_reducible refine (abugidaref02_Reader_Texts.calls k g241 t245 t246 t247 t248 t251 t252 t253 w _ ?side1 ?side2 A5.out).mono ?_); (case side1 => repeat (first | (with_reducible first | exact HI241.out | apply IsS77.alloc | apply IsS77.drewN | apply IsS77.drew | apply IsS77.set_0 | apply IsS77.set_1 | apply IsS77.set_2) | exact HI241.out)); (case side2 => repeat (first | (with_reducible first | exact HB.out | apply below_alloc | apply pw_below_drewN | apply below_drew1 | refine below_set ?_ (IsS77.ge HI241.out)) | exact HB.out)); rintro e w11 ⟨v249, rfl, ho0, hi, hb, hk⟩; have n0_ := Aside0.mk (Kd.R_mono (Kd.R_keep (IsS77.apart (show IsS77 w _ g241 t245 t246 t247 from by repeat (first | (with_reducible first | exact HI241.out | apply IsS77.alloc | apply IsS77.drewN | apply IsS77.drew | apply IsS77.set_0 | apply IsS77.set_1 | apply IsS77.set_2) | exact HI241.out)) (by (with_reducible repeat (first | apply Kd.R_alloc | apply Kd.R_drewN | apply Kd.R_drew)); exact HO244.out) (by decide)) hk (fun _ h => h.2)) (fun _ h => h.1)); have n1_ := Aside0.mk (Kd.R_lower ho0 (below_size (by repeat (first | (with_reducible first | exact HB.out | apply below_alloc | apply pw_below_drewN | apply below_drew1 | refine below_set ?_ (IsS77.ge HI241.out)) | exact HB.out)))); have n2_ := Aside0.mk (hb); have n3_ := Aside0.mk (hi); clear HO244; clear HB; clear HI241; have HO244 := n0_; have HO250 := n1_; have HB := n2_; have HI241 := n3_; clear n0_ n1_ n2_ n3_; (try clear hb); (try clear hb2); (try clear hk); (try clear hi); (try clear ho0)) | (go_at_call 38; (with_reducible refine (abugidaref02_Reader_Bad.calls g241 t251 t252 t253 t254 t255 t256 t257 w _ ?side1 ?side2 A6.out).mono ?_); (case side1 => repeat (first | (with_reducible first | exact HI241.out | apply IsS77.alloc | apply IsS77.drewN | apply IsS77.drew | apply IsS77.set_0 | apply IsS77.set_1 | apply IsS77.set_2) | exact HI241.out)); (case side2 => repeat (first | (with_reducible first | exact HB.out | apply below_alloc | apply pw_below_drewN | apply below_drew1 | refine below_set ?_ (IsS77.ge HI241.out)) | exact HB.out)); rintro e w12 ⟨rfl, hi, hb, hk⟩; have n0_ := Aside0.mk (Kd.R_mono (Kd.R_keep (IsS77.apart (show IsS77 w _ g241 t251 t252 t253 from by repeat (first | (with_reducible first | exact HI241.out | apply IsS77.alloc | apply IsS77.drewN | apply IsS77.drew | apply IsS77.set_0 | apply IsS77.set_1 | apply IsS77.set_2) | exact HI241.out)) (by (with_reducible repeat (first | apply Kd.R_alloc | apply Kd.R_drewN | apply Kd.R_drew)); exact HO244.out) (by decide)) hk (fun _ h => h.2)) (fun _ h => h.1)); have n1_ := Aside0.mk (Kd.R_mono (Kd.R_keep (IsS77.apart (show IsS77 w _ g241 t251 t252 t253 from by repeat (first | (with_reducible first | exact HI241.out | apply IsS77.alloc | apply IsS77.drewN | apply IsS77.drew | apply IsS77.set_0 | apply IsS77.set_1 | apply IsS77.set_2) | exact HI241.out)) (by (with_reducible repeat (first | apply Kd.R_alloc | apply Kd.R_drewN | apply Kd.R_drew)); exact HO250.out) (by decide)) hk (fun _ h => h.2)) (fun _ h => h.1)); have n2_ := Aside0.mk (hb); have n3_ := Aside0.mk (hi); clear HO244; clear HO250; clear HB; clear HI241; have HO244 := n0_; have HO250 := n1_; have HB := n2_; have HI241 := n3_; clear n0_ n1_ n2_ n3_; (try clear hb); (try clear hb2); (try clear hk); (try clear hi)) | (go_at_call 39; (with_reducible refine (abugidaref02_Reader_Left.calls g241 t255 t256 t257 t258 t259 t260 t261 w _ ?side1 ?side2 A7.out).mono ?_); (case side1 => repeat (first | (with_reducible first | exact HI241.out | apply IsS77.alloc | apply IsS77.drewN | apply IsS77.drew | apply IsS77.set_0 | apply IsS77.set_1 | apply IsS77.set_2) | exact HI241.out)); (case side2 => repeat (first | (with_reducible first | exact HB.out | apply below_alloc | apply pw_below_drewN | apply below_drew1 | refine below_set ?_ (IsS77.ge HI241.out)) | exact HB.out)); rintro e w13 ⟨rfl, hi, hb, hk⟩; have n0_ := Aside0.mk (Kd.R_mono (Kd.R_keep (IsS77.apart (show IsS77 w _ g241 t255 t256 t257 from by repeat (first | (with_reducible first | exact HI241.out | apply IsS77.alloc | apply IsS77.drewN | apply IsS77.drew | apply IsS77.set_0 | apply IsS77.set_1 | apply IsS77.set_2) | exact HI241.out)) (by (with_reducible repeat (first | apply Kd.R_alloc | apply Kd.R_drewN | apply Kd.R_drew)); exact HO244.out) (by decide)) hk (fun _ h => h.2)) (fun _ h => h.1)); have n1_ := Aside0.mk (Kd.R_mono (Kd.R_keep (IsS77.apart (show IsS77 w _ g241 t255 t256 t257 from by repeat (first | (with_reducible first | exact HI241.out | apply IsS77.alloc | apply IsS77.drewN | apply IsS77.drew | apply IsS77.set_0 | apply IsS77.set_1 | apply IsS77.set_2) | exact HI241.out)) (by (with_reducible repeat (first | apply Kd.R_alloc | apply Kd.R_drewN | apply Kd.R_drew)); exact HO250.out) (by decide)) hk (fun _ h => h.2)) (fun _ h => h.1)); have n2_ := Aside0.mk (hb); have n3_ := Aside0.mk (hi); clear HO244; clear HO250; clear HB; clear HI241; have HO244 := n0_; have HO250 := n1_; have HB := n2_; have HI241 := n3_; clear n0_ n1_ n2_ n3_; (try clear hb); (try clear hb2); (try clear hk); (try clear hi)))
  repeat (go_quiet (first | (go_at_call 35; (with_reducible refine (abugidaref02_New.calls a1 t238 t239 t240 w _ ?side1 A3.out).mono ?_); (case side1 => repeat (with_reducible first | exact HB.out | apply below_alloc | apply pw_below_drewN | apply below_drew1)); rintro e w9 ⟨g241, rfl, hi, hb, hb2⟩; have n0_ := Aside0.mk (hb); have n1_ := Aside0.mk (hi); clear HB; have HB := n0_; have HI241 := n1_; clear n0_ n1_; (try clear hb); (try clear hb2); (try clear hk); (try clear hi)) | (go_at_call 36; (with_reducible refine (abugidaref02_Reader_Ints.calls k g241 t238 t239 t240 t242 t245 t246 t247 w _ ?side1 ?side2 A4.out).mono ?_); (case side1 => repeat (first | (with_reducible first | exact HI241.out | apply IsS77.alloc | apply IsS77.drewN | apply IsS77.drew | apply IsS77.set_0 | apply IsS77.set_1 | apply IsS77.set_2) | exact HI241.out)); (case side2 => repeat (first | (with_reducible first | exact HB.out | apply below_alloc | apply pw_below_drewN | apply below_drew1 | refine below_set ?_ (IsS77.ge HI241.out)) | exact HB.out)); rintro e w10 ⟨v243, rfl, ho0, hi, hb, hk⟩; have n0_ := Aside0.mk (Kd.R_lower ho0 (below_size (by repeat (first | (with_reducible first | exact HB.out | apply below_alloc | apply pw_below_drewN | apply below_drew1 | refine below_set ?_ (IsS77.ge HI241.out)) | exact HB.out)))); have n1_ := Aside0.mk (hb); have n2_ := Aside0.mk (hi); clear HB; clear HI241; have HO244 := n0_; have HB := n1_; have HI241 := n2_; clear n0_ n1_ n2_; (try clear hb); (try clear hb2); (try clear hk); (try clear hi); (try clear ho0)) | (go_at_call 37; (with_reducible refine (abugidaref02_Reader_Texts.calls k g241 t245 t246 t247 t248 t251 t252 t253 w _ ?side1 ?side2 A5.out).mono ?_); (case side1 => repeat (first | (with_reducible first | exact HI241.out | apply IsS77.alloc | apply IsS77.drewN | apply IsS77.drew | apply IsS77.set_0 | apply IsS77.set_1 | apply IsS77.set_2) | exact HI241.out)); (case side2 => repeat (first | (with_reducible first | exact HB.out | apply below_alloc | apply pw_below_drewN | apply below_drew1 | refine below_set ?_ (IsS77.ge HI241.out)) | exact HB.out)); rintro e w11 ⟨v249, rfl, ho0, hi, hb, hk⟩; have n0_ := Aside0.mk (Kd.R_mono (Kd.R_keep (IsS77.apart (show IsS77 w _ g241 t245 t246 t247 from by repeat (first | (with_reducible first | exact HI241.out | apply IsS77.alloc | apply IsS77.drewN | apply IsS77.drew | apply IsS77.set_0 | apply IsS77.set_1 | apply IsS77.set_2) | exact HI241.out)) (by (with_reducible repeat (first | apply Kd.R_alloc | apply Kd.R_drewN | apply Kd.R_drew)); exact HO244.out) (by decide)) hk (fun _ h => h.2)) (fun _ h => h.1)); have n1_ := Aside0.mk (Kd.R_lower ho0 (below_size (by repeat (first | (with_reducible first | exact HB.out | apply below_alloc | apply pw_below_drewN | apply below_drew1 | refine below_set ?_ (IsS77.ge HI241.out)) | exact HB.out)))); have n2_ := Aside0.mk (hb); have n3_ := Aside0.mk (hi); clear HO244; clear HB; clear HI241; have HO244 := n0_; have HO250 := n1_; have HB := n2_; have HI241 := n3_; clear n0_ n1_ n2_ n3_; (try clear hb); (try clear hb2); (try clear hk); (try clear hi); (try clear ho0)) | (go_at_call 38; (with_reducible refine (abugidaref02_Reader_Bad.calls g241 t251 t252 t253 t254 t255 t256 t257 w _ ?side1 ?side2 A6.out).mono ?_); (case side1 => repeat (first | (with_reducible first | exact HI241.out | apply IsS77.alloc | apply IsS77.drewN | apply IsS77.drew | apply IsS77.set_0 | apply IsS77.set_1 | apply IsS77.set_2) | exact HI241.out)); (case side2 => repeat (first | (with_reducible first | exact HB.out | apply below_alloc | apply pw_below_drewN | apply below_drew1 | refine below_set ?_ (IsS77.ge HI241.out)) | exact HB.out)); rintro e w12 ⟨rfl, hi, hb, hk⟩; have n0_ := Aside0.mk (Kd.R_mono (Kd.R_keep (IsS77.apart (show IsS77 w _ g241 t251 t252 t253 from by repeat (first | (with_reducible first | exact HI241.out | apply IsS77.alloc | apply IsS77.drewN | apply IsS77.drew | apply IsS77.set_0 | apply IsS77.set_1 | apply IsS77.set_2) | exact HI241.out)) (by (with_reducible repeat (first | apply Kd.R_alloc | apply Kd.R_drewN | apply Kd.R_drew)); exact HO244.out) (by decide)) hk (fun _ h => h.2)) (fun _ h => h.1)); have n1_ := Aside0.mk (Kd.R_mono (Kd.R_keep (IsS77.apart (show IsS77 w _ g241 t251 t252 t253 from by repeat (first | (with_reducible first | exact HI241.out | apply IsS77.alloc | apply IsS77.drewN | apply IsS77.drew | apply IsS77.set_0 | apply IsS77.set_1 | apply IsS77.set_2) | exact HI241.out)) (by (with_reducible repeat (first | apply Kd.R_alloc | apply Kd.R_drewN | apply Kd.R_drew)); exact HO250.out) (by decide)) hk (fun _ h => h.2)) (fun _ h => h.1)); have n2_ := Aside0.mk (hb); have n3_ := Aside0.mk (hi); clear HO244; clear HO250; clear HB; clear HI241; have HO244 := n0_; have HO250 := n1_; have HB := n2_; have HI241 := n3_; clear n0_ n1_ n2_ n3_; (try clear hb); (try clear hb2); (try clear hk); (try clear hi)) | (go_at_call 39; (with_reducible refine (abugidaref02_Reader_Left.calls g241 t255 t256 t257 t258 t259 t260 t261 w _ ?side1 ?side2 A7.out).mono ?_); (case side1 => repeat (first | (with_reducible first | exact HI241.out | apply IsS77.alloc | apply IsS77.drewN | apply IsS77.drew | apply IsS77.set_0 | apply IsS77.set_1 | apply IsS77.set_2) | exact HI241.out)); (case side2 => repeat (first | (with_reducible first | exact HB.out | apply below_alloc | apply pw_below_drewN | apply below_drew1 | refine below_set ?_ (IsS77.ge HI241.out)) | exact HB.out)); rintro e w13 ⟨rfl, hi, hb, hk⟩; have n0_ := Aside0.mk (Kd.R_mono (Kd.R_keep (IsS77.apart (show IsS77 w _ g241 t255 t256 t257 from by repeat (first | (with_reducible first | exact HI241.out | apply IsS77.alloc | apply IsS77.drewN | apply IsS77.drew | apply IsS77.set_0 | apply IsS77.set_1 | apply IsS77.set_2) | exact HI241.out)) (by (with_reducible repeat (first | apply Kd.R_alloc | apply Kd.R_drewN | apply Kd.R_drew)); exact HO244.out) (by decide)) hk (fun _ h => h.2)) (fun _ h => h.1)); have n1_ := Aside0.mk (Kd.R_mono (Kd.R_keep (IsS77.apart (show IsS77 w _ g241 t255 t256 t257 from by repeat (first | (with_reducible first | exact HI241.out | apply IsS77.alloc | apply IsS77.drewN | apply IsS77.drew | apply IsS77.set_0 | apply IsS77.set_1 | apply IsS77.set_2) | exact HI241.out)) (by (with_reducible repeat (first | apply Kd.R_alloc | apply Kd.R_drewN | apply Kd.R_drew)); exact HO250.out) (by decide)) hk (fun _ h => h.2)) (fun _ h => h.1)); have n2_ := Aside0.mk (hb); have n3_ := Aside0.mk (hi); clear HO244; clear HO250; clear HB; clear HI241; have HO244 := n0_; have HO250 := n1_; have HB := n2_; have HI241 := n3_; clear n0_ n1_ n2_ n3_; (try clear hb); (try clear hb2); (try clear hk); (try clear hi))); go_upto_region 6 with (first | (go_at_call 35; (with_reducible refine (abugidaref02_New.calls a1 t238 t239 t240 w _ ?side1 A3.out).mono ?_); (case side1 => repeat (with_reducible first | exact HB.out | apply below_alloc | apply pw_below_drewN | apply below_drew1)); rintro e w9 ⟨g241, rfl, hi, hb, hb2⟩; have n0_ := Aside0.mk (hb); have n1_ := Aside0.mk (hi); clear HB; have HB := n0_; have HI241 := n1_; clear n0_ n1_; (try clear hb); (try clear hb2); (try clear hk); (try clear hi)) | (go_at_call 36; (with_reducible refine (abugidaref02_Reader_Ints.calls k g241 t238 t239 t240 t242 t245 t246 t247 w _ ?side1 ?side2 A4.out).mono ?_); (case side1 => repeat (first | (with_reducible first | exact HI241.out | apply IsS77.alloc | apply IsS77.drewN | apply IsS77.drew | apply IsS77.set_0 | apply IsS77.set_1 | apply IsS77.set_2) | exact HI241.out)); (case side2 => repeat (first | (with_reducible first | exact HB.out | apply below_alloc | apply pw_below_drewN | apply below_drew1 | refine below_set ?_ (IsS77.ge HI241.out)) | exact HB.out)); rintro e w10 ⟨v243, rfl, ho0, hi, hb, hk⟩; have n0_ := Aside0.mk (Kd.R_lower ho0 (below_size (by repeat (first | (with_reducible first | exact HB.out | apply below_alloc | apply pw_below_drewN | apply below_drew1 | refine below_set ?_ (IsS77.ge HI241.out)) | exact HB.out)))); have n1_ := Aside0.mk (hb); have n2_ := Aside0.mk (hi); clear HB; clear HI241; have HO244 := n0_; have HB := n1_; have HI241 := n2_; clear n0_ n1_ n2_; (try clear hb); (try clear hb2); (try clear hk); (try clear hi); (try clear ho0)) | (go_at_call 37; (with_reducible refine (abugidaref02_Reader_Texts.calls k g241 t245 t246 t247 t248 t251 t252 t253 w _ ?side1 ?side2 A5.out).mono ?_); (case side1 => repeat (first | (with_reducible first | exact HI241.out | apply IsS77.alloc | apply IsS77.drewN | apply IsS77.drew | apply IsS77.set_0 | apply IsS77.set_1 | apply IsS77.set_2) | exact HI241.out)); (case side2 => repeat (first | (with_reducible first | exact HB.out | apply below_alloc | apply pw_below_drewN | apply below_drew1 | refine below_set ?_ (IsS77.ge HI241.out)) | exact HB.out)); rintro e w11 ⟨v249, rfl, ho0, hi, hb, hk⟩; have n0_ := Aside0.mk (Kd.R_mono (Kd.R_keep (IsS77.apart (show IsS77 w _ g241 t245 t246 t247 from by repeat (first | (with_reducible first | exact HI241.out | apply IsS77.alloc | apply IsS77.drewN | apply IsS77.drew | apply IsS77.set_0 | apply IsS77.set_1 | apply IsS77.set_2) | exact HI241.out)) (by (with_reducible repeat (first | apply Kd.R_alloc | apply Kd.R_drewN | apply Kd.R_drew)); exact HO244.out) (by decide)) hk (fun _ h => h.2)) (fun _ h => h.1)); have n1_ := Aside0.mk (Kd.R_lower ho0 (below_size (by repeat (first | (with_reducible first | exact HB.out | apply below_alloc | apply pw_below_drewN | apply below_drew1 | refine below_set ?_ (IsS77.ge HI241.out)) | exact HB.out)))); have n2_ := Aside0.mk (hb); have n3_ := Aside0.mk (hi); clear HO244; clear HB; clear HI241; have HO244 := n0_; have HO250 := n1_; have HB := n2_; have HI241 := n3_; clear n0_ n1_ n2_ n3_; (try clear hb); (try clear hb2); (try clear hk); (try clear hi); (try clear ho0)) | (go_at_call 38; (with_reducible refine (abugidaref02_Reader_Bad.calls g241 t251 t252 t253 t254 t255 t256 t257 w _ ?side1 ?side2 A6.out).mono ?_); (case side1 => repeat (first | (with_reducible first | exact HI241.out | apply IsS77.alloc | apply IsS77.drewN | apply IsS77.drew | apply IsS77.set_0 | apply IsS77.set_1 | apply IsS77.set_2) | exact HI241.out)); (case side2 => repeat (first | (with_reducible first | exact HB.out | apply below_alloc | apply pw_below_drewN | apply below_drew1 | refine below_set ?_ (IsS77.ge HI241.out)) | exact HB.out)); rintro e w12 ⟨rfl, hi, hb, hk⟩; have n0_ := Aside0.mk (Kd.R_mono (Kd.R_keep (IsS77.apart (show IsS77 w _ g241 t251 t252 t253 from by repeat (first | (with_reducible first | exact HI241.out | apply IsS77.alloc | apply IsS77.drewN | apply IsS77.drew | apply IsS77.set_0 | apply IsS77.set_1 | apply IsS77.set_2) | exact HI241.out)) (by (with_reducible repeat (first | apply Kd.R_alloc | apply Kd.R_drewN | apply Kd.R_drew)); exact HO244.out) (by decide)) hk (fun _ h => h.2)) (fun _ h => h.1)); have n1_ := Aside0.mk (Kd.R_mono (Kd.R_keep (IsS77.apart (show IsS77 w _ g241 t251 t252 t253 from by repeat (first | (with_reducible first | exact HI241.out | apply IsS77.alloc | apply IsS77.drewN | apply IsS77.drew | apply IsS77.set_0 | apply IsS77.set_1 | apply IsS77.set_2) | exact HI241.out)) (by (with_reducible repeat (first | apply Kd.R_alloc | apply Kd.R_drewN | apply Kd.R_drew)); exact HO250.out) (by decide)) hk (fun _ h => h.2)) (fun _ h => h.1)); have n2_ := Aside0.mk (hb); have n3_ := Aside0.mk (hi); clear HO244; clear HO250; clear HB; clear HI241; have HO244 := n0_; have HO250 := n1_; have HB := n2_; have HI241 := n3_; clear n0_ n1_ n2_ n3_; (try clear hb); (try clear hb2); (try clear hk); (try clear hi)) | (go_at_call 39; (with_reducible refine (abugidaref02_Reader_Left.calls g241 t255 t256 t257 t258 t259 t260 t261 w _ ?side1 ?side2 A7.out).mono ?_); (case side1 => repeat (first | (with_reducible first | exact HI241.out | apply IsS77.alloc | apply IsS77.drewN | apply IsS77.drew | apply IsS77.set_0 | apply IsS77.set_1 | apply IsS77.set_2) | exact HI241.out)); (case side2 => repeat (first | (with_reducible first | exact HB.out | apply below_alloc | apply pw_below_drewN | apply below_drew1 | refine below_set ?_ (IsS77.ge HI241.out)) | exact HB.out)); rintro e w13 ⟨rfl, hi, hb, hk⟩; have n0_ := Aside0.mk (Kd.R_mono (Kd.R_keep (IsS77.apart (show IsS77 w _ g241 t255 t256 t257 from by repeat (first | (with_reducible first | exact HI241.out | apply IsS77.alloc | apply IsS77.drewN | apply IsS77.drew | apply IsS77.set_0 | apply IsS77.set_1 | apply IsS77.set_2) | exact HI241.out)) (by (with_reducible repeat (first | apply Kd.R_alloc | apply Kd.R_drewN | apply Kd.R_drew)); exact HO244.out) (by decide)) hk (fun _ h => h.2)) (fun _ h => h.1)); have n1_ := Aside0.mk (Kd.R_mono (Kd.R_keep (IsS77.apart (show IsS77 w _ g241 t255 t256 t257 from by repeat (first | (with_reducible first | exact HI241.out | apply IsS77.alloc | apply IsS77.drewN | apply IsS77.drew | apply IsS77.set_0 | apply IsS77.set_1 | apply IsS77.set_2) | exact HI241.out)) (by (with_reducible repeat (first | apply Kd.R_alloc | apply Kd.R_drewN | apply Kd.R_drew)); exact HO250.out) (by decide)) hk (fun _ h => h.2)) (fun _ h => h.1)); have n2_ := Aside0.mk (hb); have n3_ := Aside0.mk (hi); clear HO244; clear HO250; clear HB; clear HI241; have HO244 := n0_; have HO250 := n1_; have HB := n2_; have HI241 := n3_; clear n0_ n1_ n2_ n3_; (try clear hb); (try clear hb2); (try clear hk); (try clear hi))))
  (try simp only [Act.put, List.setIfInBounds_toArray, List.set_cons_zero, List.set_cons_succ])
  go_cut [46] (fun v46 wc => ∃ (kq : Nat) (x46_7 : Bool), v46 = .bool x46_7 ∧ Aside0 (abugidaref24_Apply.j0 kq a0 t242 t248 x46_7 = some (r1, r2)) ∧ Aside0 (kq ≤ k) ∧ Aside0 (Kd.R (Kd.int .i64) 3 wc w.heap.size (fun _ => True) v243 t242) ∧ Aside0 (Kd.R Kd.string 9 wc w.heap.size (fun _ => True) v249 t248) ∧ Aside0 (Below w.heap.size w wc))
  case first =>
    have H := HC8.out
    clear HC8
    by_cases c14 : t254 = true
    · subst c14
      rw [if_pos rfl] at H
      have H' := Aside0.mk H
      clear H
      go_wp2
      repeat (go_quiet (fail); try go_wp2)
      go_meet
      case rel => exact ⟨_, (true), (by first | rfl | (simp; done) | (simp [*]; done)), H', ⟨by first | omega | exact Nat.le_refl _⟩, ⟨by (with_reducible repeat (first | apply Kd.R_alloc | apply Kd.R_drewN | apply Kd.R_drew)); exact HO244.out⟩, ⟨by (with_reducible repeat (first | apply Kd.R_alloc | apply Kd.R_drewN | apply Kd.R_drew)); exact HO250.out⟩, ⟨by repeat (first | (with_reducible first | exact HB.out | apply below_alloc | apply pw_below_drewN | apply below_drew1 | refine below_set ?_ (IsS77.ge HI241.out)) | exact HB.out)⟩⟩
    · replace c14 := Bool.eq_false_iff.mpr c14
      subst c14
      rw [if_neg (show ¬ (false = true) by decide)] at H
      by_cases c15 : t258 > 0
      · rw [if_pos c15] at H
        have c15b0 : decide (0 < t258) = true := decide_eq_true c15
        clear c15
        (first | rw [c15b0] | (simp only [i64_w, i32_w]; rw [c15b0]) | skip)
        have H' := Aside0.mk H
        clear H
        go_wp2
        repeat (go_quiet (fail); try go_wp2)
        go_meet
        case rel => exact ⟨_, (true), (by first | rfl | (simp; done) | (simp [*]; done)), H', ⟨by first | omega | exact Nat.le_refl _⟩, ⟨by (with_reducible repeat (first | apply Kd.R_alloc | apply Kd.R_drewN | apply Kd.R_drew)); exact HO244.out⟩, ⟨by (with_reducible repeat (first | apply Kd.R_alloc | apply Kd.R_drewN | apply Kd.R_drew)); exact HO250.out⟩, ⟨by repeat (first | (with_reducible first | exact HB.out | apply below_alloc | apply pw_below_drewN | apply below_drew1 | refine below_set ?_ (IsS77.ge HI241.out)) | exact HB.out)⟩⟩
      · rw [if_neg c15] at H
        have c15b0 : decide (0 < t258) = false := decide_eq_false c15
        clear c15
        (first | rw [c15b0] | (simp only [i64_w, i32_w]; rw [c15b0]) | skip)
        by_cases c16 : ((t242.length : Int) % 2) = 1
        · rw [if_pos c16] at H
          have c16b0 : (((t242.length : Int) % 2) == 1) = true := beq_iff_eq.mpr c16
          have c16b1 : (((t242.length : Int) % 2) != 1) = false := bne_eq_false_iff_eq.mpr c16
          clear c16
          have H' := Aside0.mk H
          clear H
          obtain ⟨Ao17, co17, eo17⟩ := Kd.R_slice HO244.out
          subst eo17
          go_wp2
          repeat (go_quiet (fail); try go_wp2)
          go_meet
          case rel => exact ⟨_, (true), (by first | rfl | (simp; done) | (simp [*]; done)), H', ⟨by first | omega | exact Nat.le_refl _⟩, ⟨by (with_reducible repeat (first | apply Kd.R_alloc | apply Kd.R_drewN | apply Kd.R_drew)); exact HO244.out⟩, ⟨by (with_reducible repeat (first | apply Kd.R_alloc | apply Kd.R_drewN | apply Kd.R_drew)); exact HO250.out⟩, ⟨by repeat (first | (with_reducible first | exact HB.out | apply below_alloc | apply pw_below_drewN | apply below_drew1 | refine below_set ?_ (IsS77.ge HI241.out)) | exact HB.out)⟩⟩
        · rw [if_neg c16] at H
          have c16b0 : (((t242.length : Int) % 2) == 1) = false := beq_eq_false_iff_ne.mpr c16
          have c16b1 : (((t242.length : Int) % 2) != 1) = true := bne_iff_ne.mpr c16
          have H' := Aside0.mk H
          clear H
          obtain ⟨Ao18, co18, eo18⟩ := Kd.R_slice HO244.out
          subst eo18
          obtain ⟨Ao19, co19, eo19⟩ := Kd.R_slice HO250.out
          subst eo19
          go_wp2
          repeat (go_quiet (fail); try go_wp2)
          go_meet
          case rel => exact ⟨_, (((t248.length : Int) != (wrap64 ((wrap64 ((t242.length : Int) / 2)) + 1)))), (by first | rfl | (simp; done) | (simp [*]; done)), H', ⟨by first | omega | exact Nat.le_refl _⟩, ⟨by (with_reducible repeat (first | apply Kd.R_alloc | apply Kd.R_drewN | apply Kd.R_drew)); exact HO244.out⟩, ⟨by (with_reducible repeat (first | apply Kd.R_alloc | apply Kd.R_drewN | apply Kd.R_drew)); exact HO250.out⟩, ⟨by repeat (first | (with_reducible first | exact HB.out | apply below_alloc | apply pw_below_drewN | apply below_drew1 | refine below_set ?_ (IsS77.ge HI241.out)) | exact HB.out)⟩⟩
  case rest =>
    clear HC8
    try clear c1
    try clear p2
    try clear p6
    try clear c14
    try clear c15
    try clear c15b0
    try clear c16
    try clear c16b0
    try clear c16b1
    try clear c17
    obtain ⟨kq, x46_7, rfl, HA, HJ7, HO_7, HO_8, HB⟩ := hcut
    cases kq with
    | zero => exact absurd HA.out (by simp [abugidaref24_Apply.j0])
    | succ kj7 =>
      have H := HA.out
      clear HA
      simp only [abugidaref24_Apply.j0] at H
      by_cases c20 : x46_7 = true
      · subst c20
        rw [if_pos rfl] at H
        simp only [Option.some.injEq, Prod.mk.injEq] at H
        obtain ⟨rfl, rfl⟩ := H
        go_wp2
        repeat (go_quiet (fail); try go_wp2)
        go_ret2
        exact ⟨by first | rfl | (simp [errW_none, errW_some] <;> rfl) | (simp [*, errW_none, errW_some] <;> rfl), by repeat (with_reducible first | exact HB.out | apply below_alloc | apply pw_below_drewN | apply below_drew1)⟩
      · replace c20 := Bool.eq_false_iff.mpr c20
        subst c20
        rw [if_neg (show ¬ (false = true) by decide)] at H
        by_cases c21 : 0 < (t248.length : Int)
        · rw [if_pos c21] at H
          have c21b0 : decide (0 < (t248.length : Int)) = true := decide_eq_true c21
          have c21b1 : decide (0 < t248.length) = true := decide_eq_true (by omega)
          clear c21
          have H' := Aside0.mk H
          clear H
          obtain ⟨Ao22, co22, eo22⟩ := Kd.R_slice HO_8.out
          subst eo22
          have p262 : 0 ≤ (0 : Int) := (by omega)
          have q262 : 0 < (t248.length : Int) := of_decide_eq_true (by first | (with_reducible assumption) | assumption)
          obtain ⟨ad262, e262, hx262_0⟩ := Kd.at_string (Kd.R_reads' HO_8.out).2.2 0 p262 q262
          cases e262
          have qi262 : (0 < t248.length) = True := eq_true (by omega)
          (try rw [show ((0 : Int)).toNat = 0 from rfl] at hx262_0)
          (try rw [Addr.add_zero'] at hx262_0)
          replace p262 := eq_true p262
          replace q262 := eq_true q262
          go_wp2
          repeat (go_quiet (fail); try go_wp2)
          go_loopg [11, 12] kj7 (fun kq v11 v12 w' => ∃ (x11_2 : Int) (x12_2 : Int), v11 = .int .i64 x11_2 ∧ v12 = .int .i64 x12_2 ∧ Aside0 (abugidaref24_Apply.l0 kq a0 t242 t248 x11_2 x12_2 = some (r1, r2)) ∧ Aside0 (kq ≤ kj7) ∧ Aside0 (Kd.R (Kd.int .i64) 3 w' w.heap.size (fun _ => True) v243 t242) ∧ Aside0 (Kd.R Kd.string 9 w' w.heap.size (fun _ => True) (.slice (some ad262) t248.length co22) t248) ∧ Aside0 (Below w.heap.size w w'))
          case atStart => exact ⟨(((rdOf ByteArray.empty t248 0).size : Int)), (0), (by first | rfl | (simp; done) | (simp [*]; done)), (by first | rfl | (simp; done) | (simp [*]; done)), H', ⟨Nat.le_refl _⟩, ⟨by (with_reducible repeat (first | apply Kd.R_alloc | apply Kd.R_drewN | apply Kd.R_drew)); exact HO_7.out⟩, ⟨by (with_reducible repeat (first | apply Kd.R_alloc | apply Kd.R_drewN | apply Kd.R_drew)); exact HO_8.out⟩, ⟨by repeat (with_reducible first | exact HB.out | apply below_alloc | apply pw_below_drewN | apply below_drew1)⟩⟩
          case round =>
            clear H'
            try clear c1
            try clear c2
            try clear p2
            try clear q2
            try clear hx2
            try clear qi2
            try clear p6
            try clear c14
            try clear c15
            try clear c15b0
            try clear c16
            try clear c16b0
            try clear c16b1
            try clear c17
            try clear c20
            try clear c21
            try clear c21b0
            try clear c21b1
            try clear hx262_0
            try clear p2
            try clear p262
            try clear p6
            try clear q262
            obtain ⟨x11_2, x12_2, rfl, rfl, HA, HK2, HO_7, HO_8, HB⟩ := hrel
            cases gk with
            | zero => exact absurd HA.out (by simp [abugidaref24_Apply.l0])
            | succ k2 =>
              have H := HA.out
              clear HA
              simp only [abugidaref24_Apply.l0] at H
              by_cases c23 : (wrap64 (x12_2 + 1)) < (t242.length : Int)
              · rw [if_pos c23] at H
                have c23b0 : decide ((wrap64 (x12_2 + 1)) < (t242.length : Int)) = true := decide_eq_true c23
                clear c23
                by_cases c24 : 0 ≤ x12_2
                · rw [if_pos c24] at H
                  have c24b0 : decide (0 ≤ x12_2) = true := decide_eq_true c24
                  clear c24
                  by_cases c25 : x12_2 < (t242.length : Int)
                  · rw [if_pos c25] at H
                    have c25b0 : decide (x12_2 < (t242.length : Int)) = true := decide_eq_true c25
                    clear c25
                    obtain ⟨ji26, hji26⟩ : ∃ j_ : Int, (wrap64 (x12_2 + 1)) = j_ := ⟨_, rfl⟩
                    replace H : (if 0 ≤ (ji26) then (if (rd t242 x12_2) < 0 then (some ((⟨#[]⟩ : ByteArray), 3)) else (if (rd t242 (ji26)) < 1 then (some ((⟨#[]⟩ : ByteArray), 3)) else (if (rd t242 x12_2) > (a0.size : Int) then (some ((⟨#[]⟩ : ByteArray), 3)) else (if (rd t242 (ji26)) > (wrap64 ((a0.size : Int) - (rd t242 x12_2))) then (some ((⟨#[]⟩ : ByteArray), 3)) else (if 0 ≤ (wrap64 ((wrap64 (Int.tdiv x12_2 2)) + 1)) then (if (wrap64 ((wrap64 (Int.tdiv x12_2 2)) + 1)) < (t248.length : Int) then (abugidaref24_Apply.l0 k2 a0 t242 t248 (mn (wrap64 ((wrap64 (x11_2 + (rd t242 (ji26)))) + ((rdOf ByteArray.empty t248 (wrap64 ((wrap64 (Int.tdiv x12_2 2)) + 1))).size : Int))) 65537) (wrap64 (x12_2 + 2))) else (none)) else (none)))))) else (none)) = some (r1, r2) := by first | (rw [hji26] at H; exact H) | (simp only [hji26] at H ⊢; exact H)
                    (try rw [hji26] at c23b0)
                    have hji26w : (IntKind.i64.wrap (x12_2 + 1)) = ji26 := (i64_w _).trans hji26
                    by_cases c27 : 0 ≤ (ji26)
                    · rw [if_pos c27] at H
                      have c27b0 : decide (0 ≤ (ji26)) = true := decide_eq_true c27
                      clear c27
                      by_cases c28 : (rd t242 x12_2) < 0
                      · rw [if_pos c28] at H
                        have c28b0 : decide ((rd t242 x12_2) < 0) = true := decide_eq_true c28
                        clear c28
                        simp only [Option.some.injEq, Prod.mk.injEq] at H
                        obtain ⟨rfl, rfl⟩ := H
                        obtain ⟨Ao29, co29, eo29⟩ := Kd.R_slice HO_7.out
                        subst eo29
                        have p263 : 0 ≤ (x12_2 : Int) := of_decide_eq_true (by first | (with_reducible assumption) | assumption)
                        have q263 : x12_2 < (t242.length : Int) := of_decide_eq_true (by first | (with_reducible assumption) | assumption)
                        obtain ⟨ad263, e263, hx263_0⟩ := Kd.at_int (Kd.R_reads' HO_7.out).2.2 x12_2 p263 q263
                        cases e263
                        replace p263 := eq_true p263
                        replace q263 := eq_true q263
                        have p264 : 0 ≤ ((ji26) : Int) := of_decide_eq_true (by first | (with_reducible assumption) | assumption)
                        have q264 : (ji26) < (t242.length : Int) := of_decide_eq_true (by first | (with_reducible assumption) | assumption)
                        obtain ⟨ad264, e264, hx264_0⟩ := Kd.at_int (Kd.R_reads' HO_7.out).2.2 (ji26) p264 q264
                        obtain rfl : ad263 = ad264 := (by injection e264)
                        replace p264 := eq_true p264
                        replace q264 := eq_true q264
                        go_wp2
                        repeat (go_quiet (fail); try go_wp2)
                        go_ret2
                        exact ⟨by first | rfl | (simp [errW_none, errW_some] <;> rfl) | (simp only [← hji26]; first | rfl | (simp [errW_none, errW_some] <;> rfl)) | (simp [*, errW_none, errW_some] <;> rfl), by repeat (with_reducible first | exact HB.out | apply below_alloc | apply pw_below_drewN | apply below_drew1)⟩
                      · rw [if_neg c28] at H
                        have c28b0 : decide ((rd t242 x12_2) < 0) = false := decide_eq_false c28
                        clear c28
                        by_cases c30 : (rd t242 (ji26)) < 1
                        · rw [if_pos c30] at H
                          have c30b0 : decide ((rd t242 (ji26)) < 1) = true := decide_eq_true c30
                          clear c30
                          simp only [Option.some.injEq, Prod.mk.injEq] at H
                          obtain ⟨rfl, rfl⟩ := H
                          obtain ⟨Ao31, co31, eo31⟩ := Kd.R_slice HO_7.out
                          subst eo31
                          have p263 : 0 ≤ (x12_2 : Int) := of_decide_eq_true (by first | (with_reducible assumption) | assumption)
                          have q263 : x12_2 < (t242.length : Int) := of_decide_eq_true (by first | (with_reducible assumption) | assumption)
                          obtain ⟨ad263, e263, hx263_0⟩ := Kd.at_int (Kd.R_reads' HO_7.out).2.2 x12_2 p263 q263
                          cases e263
                          replace p263 := eq_true p263
                          replace q263 := eq_true q263
                          have p264 : 0 ≤ ((ji26) : Int) := of_decide_eq_true (by first | (with_reducible assumption) | assumption)
                          have q264 : (ji26) < (t242.length : Int) := of_decide_eq_true (by first | (with_reducible assumption) | assumption)
                          obtain ⟨ad264, e264, hx264_0⟩ := Kd.at_int (Kd.R_reads' HO_7.out).2.2 (ji26) p264 q264
                          obtain rfl : ad263 = ad264 := (by injection e264)
                          replace p264 := eq_true p264
                          replace q264 := eq_true q264
                          go_wp2
                          repeat (go_quiet (fail); try go_wp2)
                          go_ret2
                          exact ⟨by first | rfl | (simp [errW_none, errW_some] <;> rfl) | (simp only [← hji26]; first | rfl | (simp [errW_none, errW_some] <;> rfl)) | (simp [*, errW_none, errW_some] <;> rfl), by repeat (with_reducible first | exact HB.out | apply below_alloc | apply pw_below_drewN | apply below_drew1)⟩
                        · rw [if_neg c30] at H
                          have c30b0 : decide ((rd t242 (ji26)) < 1) = false := decide_eq_false c30
                          clear c30
                          by_cases c32 : (rd t242 x12_2) > (a0.size : Int)
                          · rw [if_pos c32] at H
                            have c32b0 : decide ((a0.size : Int) < (rd t242 x12_2)) = true := decide_eq_true c32
                            clear c32
                            simp only [Option.some.injEq, Prod.mk.injEq] at H
                            obtain ⟨rfl, rfl⟩ := H
                            obtain ⟨Ao33, co33, eo33⟩ := Kd.R_slice HO_7.out
                            subst eo33
                            have p263 : 0 ≤ (x12_2 : Int) := of_decide_eq_true (by first | (with_reducible assumption) | assumption)
                            have q263 : x12_2 < (t242.length : Int) := of_decide_eq_true (by first | (with_reducible assumption) | assumption)
                            obtain ⟨ad263, e263, hx263_0⟩ := Kd.at_int (Kd.R_reads' HO_7.out).2.2 x12_2 p263 q263
                            cases e263
                            replace p263 := eq_true p263
                            replace q263 := eq_true q263
                            have p264 : 0 ≤ ((ji26) : Int) := of_decide_eq_true (by first | (with_reducible assumption) | assumption)
                            have q264 : (ji26) < (t242.length : Int) := of_decide_eq_true (by first | (with_reducible assumption) | assumption)
                            obtain ⟨ad264, e264, hx264_0⟩ := Kd.at_int (Kd.R_reads' HO_7.out).2.2 (ji26) p264 q264
                            obtain rfl : ad263 = ad264 := (by injection e264)
                            replace p264 := eq_true p264
                            replace q264 := eq_true q264
                            go_wp2
                            repeat (go_quiet (fail); try go_wp2)
                            go_ret2
                            exact ⟨by first | rfl | (simp [errW_none, errW_some] <;> rfl) | (simp only [← hji26]; first | rfl | (simp [errW_none, errW_some] <;> rfl)) | (simp [*, errW_none, errW_some] <;> rfl), by repeat (with_reducible first | exact HB.out | apply below_alloc | apply pw_below_drewN | apply below_drew1)⟩
                          · rw [if_neg c32] at H
                            have c32b0 : decide ((a0.size : Int) < (rd t242 x12_2)) = false := decide_eq_false c32
                            clear c32
                            by_cases c34 : (rd t242 (ji26)) > (wrap64 ((a0.size : Int) - (rd t242 x12_2)))
                            · rw [if_pos c34] at H
                              have c34b0 : decide ((wrap64 ((a0.size : Int) - (rd t242 x12_2))) < (rd t242 (ji26))) = true := decide_eq_true c34
                              clear c34
                              simp only [Option.some.injEq, Prod.mk.injEq] at H
                              obtain ⟨rfl, rfl⟩ := H
                              obtain ⟨Ao35, co35, eo35⟩ := Kd.R_slice HO_7.out
                              subst eo35
                              have p263 : 0 ≤ (x12_2 : Int) := of_decide_eq_true (by first | (with_reducible assumption) | assumption)
                              have q263 : x12_2 < (t242.length : Int) := of_decide_eq_true (by first | (with_reducible assumption) | assumption)
                              obtain ⟨ad263, e263, hx263_0⟩ := Kd.at_int (Kd.R_reads' HO_7.out).2.2 x12_2 p263 q263
                              cases e263
                              replace p263 := eq_true p263
                              replace q263 := eq_true q263
                              have p264 : 0 ≤ ((ji26) : Int) := of_decide_eq_true (by first | (with_reducible assumption) | assumption)
                              have q264 : (ji26) < (t242.length : Int) := of_decide_eq_true (by first | (with_reducible assumption) | assumption)
                              obtain ⟨ad264, e264, hx264_0⟩ := Kd.at_int (Kd.R_reads' HO_7.out).2.2 (ji26) p264 q264
                              obtain rfl : ad263 = ad264 := (by injection e264)
                              replace p264 := eq_true p264
                              replace q264 := eq_true q264
                              go_wp2
                              repeat (go_quiet (fail); try go_wp2)
                              go_ret2
                              exact ⟨by first | rfl | (simp [errW_none, errW_some] <;> rfl) | (simp only [← hji26]; first | rfl | (simp [errW_none, errW_some] <;> rfl)) | (simp [*, errW_none, errW_some] <;> rfl), by repeat (with_reducible first | exact HB.out | apply below_alloc | apply pw_below_drewN | apply below_drew1)⟩
                            · rw [if_neg c34] at H
                              have c34b0 : decide ((wrap64 ((a0.size : Int) - (rd t242 x12_2))) < (rd t242 (ji26))) = false := decide_eq_false c34
                              clear c34
                              obtain ⟨ji36, hji36⟩ : ∃ j_ : Int, (wrap64 ((wrap64 (Int.tdiv x12_2 2)) + 1)) = j_ := ⟨_, rfl⟩
                              replace H : (if 0 ≤ (ji36) then (if (ji36) < (t248.length : Int) then (abugidaref24_Apply.l0 k2 a0 t242 t248 (mn (wrap64 ((wrap64 (x11_2 + (rd t242 (ji26)))) + ((rdOf ByteArray.empty t248 (ji36)).size : Int))) 65537) (wrap64 (x12_2 + 2))) else (none)) else (none)) = some (r1, r2) := by first | (rw [hji36] at H; exact H) | (simp only [hji36] at H ⊢; exact H)
                              have hji36w : (IntKind.i64.wrap ((wrap64 (Int.tdiv x12_2 2)) + 1)) = ji36 := (i64_w _).trans hji36
                              by_cases c37 : 0 ≤ (ji36)
                              · rw [if_pos c37] at H
                                have c37b0 : decide (0 ≤ (ji36)) = true := decide_eq_true c37
                                clear c37
                                by_cases c38 : (ji36) < (t248.length : Int)
                                · rw [if_pos c38] at H
                                  have c38b0 : decide ((ji36) < (t248.length : Int)) = true := decide_eq_true c38
                                  clear c38
                                  obtain ⟨ji39, hji39⟩ : ∃ j_ : Int, (mn (wrap64 ((wrap64 (x11_2 + (rd t242 (ji26)))) + ((rdOf ByteArray.empty t248 (ji36)).size : Int))) 65537) = j_ := ⟨_, rfl⟩
                                  replace H : (abugidaref24_Apply.l0 k2 a0 t242 t248 ji39 (wrap64 (x12_2 + 2))) = some (r1, r2) := by first | (rw [hji39] at H; exact H) | (simp only [hji39] at H ⊢; exact H)
                                  have hji39_ : (if 65537 < (wrap64 ((wrap64 (x11_2 + (rd t242 (ji26)))) + ((rdOf ByteArray.empty t248 (ji36)).size : Int))) then 65537 else (wrap64 ((wrap64 (x11_2 + (rd t242 (ji26)))) + ((rdOf ByteArray.empty t248 (ji36)).size : Int)))) = ji39 := hji39
                                  have H' := Aside0.mk H
                                  clear H
                                  obtain ⟨Ao40, co40, eo40⟩ := Kd.R_slice HO_7.out
                                  subst eo40
                                  have p263 : 0 ≤ (x12_2 : Int) := of_decide_eq_true (by first | (with_reducible assumption) | assumption)
                                  have q263 : x12_2 < (t242.length : Int) := of_decide_eq_true (by first | (with_reducible assumption) | assumption)
                                  obtain ⟨ad263, e263, hx263_0⟩ := Kd.at_int (Kd.R_reads' HO_7.out).2.2 x12_2 p263 q263
                                  cases e263
                                  replace p263 := eq_true p263
                                  replace q263 := eq_true q263
                                  have p264 : 0 ≤ ((ji26) : Int) := of_decide_eq_true (by first | (with_reducible assumption) | assumption)
                                  have q264 : (ji26) < (t242.length : Int) := of_decide_eq_true (by first | (with_reducible assumption) | assumption)
                                  obtain ⟨ad264, e264, hx264_0⟩ := Kd.at_int (Kd.R_reads' HO_7.out).2.2 (ji26) p264 q264
                                  obtain rfl : ad263 = ad264 := (by injection e264)
                                  replace p264 := eq_true p264
                                  replace q264 := eq_true q264
                                  have p265 : 0 ≤ ((ji36) : Int) := of_decide_eq_true (by first | (with_reducible assumption) | assumption)
                                  have q265 : (ji36) < (t248.length : Int) := of_decide_eq_true (by first | (with_reducible assumption) | assumption)
                                  obtain ⟨ad265, e265, hx265_0⟩ := Kd.at_string (Kd.R_reads' HO_8.out).2.2 (ji36) p265 q265
                                  obtain rfl : ad262 = ad265 := (by injection e265)
                                  replace p265 := eq_true p265
                                  replace q265 := eq_true q265
                                  go_wp2
                                  repeat (go_quiet (fail); try go_wp2)
                                  go_roundg k2
                                  case measure => have := HJ7.out; have := HK2.out; omega
                                  case rel => exact ⟨(ji39), (wrap64 (x12_2 + 2)), (by first | rfl | (simp; done) | (simp only [← hji39] <;> (first | rfl | simp)) | (simp [*]; done)), (by first | rfl | (simp; done) | (simp [*]; done)), H', ⟨by have := HJ7.out; have := HK2.out; omega⟩, ⟨by (with_reducible repeat (first | apply Kd.R_alloc | apply Kd.R_drewN | apply Kd.R_drew)); exact HO_7.out⟩, ⟨by (with_reducible repeat (first | apply Kd.R_alloc | apply Kd.R_drewN | apply Kd.R_drew)); exact HO_8.out⟩, ⟨by repeat (with_reducible first | exact HB.out | apply below_alloc | apply pw_below_drewN | apply below_drew1)⟩⟩
                                · rw [if_neg c38] at H
                                  exact absurd H (by simp)
                              · rw [if_neg c37] at H
                                exact absurd H (by simp)
                    · rw [if_neg c27] at H
                      exact absurd H (by simp)
                  · rw [if_neg c25] at H
                    exact absurd H (by simp)
                · rw [if_neg c24] at H
                  exact absurd H (by simp)
              · rw [if_neg c23] at H
                have c23b0 : decide ((wrap64 (x12_2 + 1)) < (t242.length : Int)) = false := decide_eq_false c23
                clear c23
                by_cases c41 : x11_2 > 65536
                · rw [if_pos c41] at H
                  have c41b0 : decide (65536 < x11_2) = true := decide_eq_true c41
                  clear c41
                  simp only [Option.some.injEq, Prod.mk.injEq] at H
                  obtain ⟨rfl, rfl⟩ := H
                  obtain ⟨Ao42, co42, eo42⟩ := Kd.R_slice HO_7.out
                  subst eo42
                  go_wp2
                  repeat (go_quiet (fail); try go_wp2)
                  go_ret2
                  exact ⟨by first | rfl | (simp [errW_none, errW_some] <;> rfl) | (simp [*, errW_none, errW_some] <;> rfl), by repeat (with_reducible first | exact HB.out | apply below_alloc | apply pw_below_drewN | apply below_drew1)⟩
                · rw [if_neg c41] at H
                  have c41b0 : decide (65536 < x11_2) = false := decide_eq_false c41
                  clear c41
                  by_cases c43 : 0 < (t248.length : Int)
                  · rw [if_pos c43] at H
                    have c43b0 : decide (0 < (t248.length : Int)) = true := decide_eq_true c43
                    have c43b1 : decide (0 < t248.length) = true := decide_eq_true (by omega)
                    clear c43
                    have H' := Aside0.mk H
                    clear H
                    obtain ⟨Ao44, co44, eo44⟩ := Kd.R_slice HO_7.out
                    subst eo44
                    have p266 : 0 ≤ (0 : Int) := (by omega)
                    have q266 : 0 < (t248.length : Int) := of_decide_eq_true (by first | (with_reducible assumption) | assumption)
                    obtain ⟨ad266, e266, hx266_0⟩ := Kd.at_string (Kd.R_reads' HO_8.out).2.2 0 p266 q266
                    obtain rfl : ad262 = ad266 := (by injection e266)
                    have qi266 : (0 < t248.length) = True := eq_true (by omega)
                    (try rw [show ((0 : Int)).toNat = 0 from rfl] at hx266_0)
                    (try rw [Addr.add_zero'] at hx266_0)
                    replace p266 := eq_true p266
                    replace q266 := eq_true q266
                    go_wp2
                    repeat (go_quiet (fail); try go_wp2)
                    go_loopg [15, 16] k2 (fun kq v15 v16 w' => ∃ (x15_3 : ByteArray) (x16_3 : Int), v15 = .string x15_3 ∧ v16 = .int .i64 x16_3 ∧ Aside0 (abugidaref24_Apply.l1 kq a0 t242 t248 x15_3 x16_3 = some (r1, r2)) ∧ Aside0 (kq ≤ k2) ∧ Aside0 (Kd.R (Kd.int .i64) 3 w' w.heap.size (fun _ => True) (.slice Ao44 t242.length co44) t242) ∧ Aside0 (Kd.R Kd.string 9 w' w.heap.size (fun _ => True) (.slice (some ad262) t248.length co22) t248) ∧ Aside0 (Below w.heap.size w w'))
                    case atStart => exact ⟨(rdOf ByteArray.empty t248 0), (0), (by first | rfl | (simp; done) | (simp [*]; done)), (by first | rfl | (simp; done) | (simp [*]; done)), H', ⟨Nat.le_refl _⟩, ⟨by (with_reducible repeat (first | apply Kd.R_alloc | apply Kd.R_drewN | apply Kd.R_drew)); exact HO_7.out⟩, ⟨by (with_reducible repeat (first | apply Kd.R_alloc | apply Kd.R_drewN | apply Kd.R_drew)); exact HO_8.out⟩, ⟨by repeat (with_reducible first | exact HB.out | apply below_alloc | apply pw_below_drewN | apply below_drew1)⟩⟩
                    case round =>
                      clear H'
                      try clear c1
                      try clear c2
                      try clear p2
                      try clear q2
                      try clear hx2
                      try clear qi2
                      try clear c3
                      try clear c4
                      try clear p6
                      try clear c14
                      try clear c15
                      try clear c15b0
                      try clear c16
                      try clear c16b0
                      try clear c16b1
                      try clear c17
                      try clear c20
                      try clear c21
                      try clear c21b0
                      try clear c21b1
                      try clear c23
                      try clear c23b0
                      try clear c24
                      try clear c24b0
                      try clear c25
                      try clear c25b0
                      try clear p26
                      try clear q26
                      try clear hx26
                      try clear qi26
                      try clear c27
                      try clear c27b0
                      try clear c28
                      try clear c28b0
                      try clear c30
                      try clear c30b0
                      try clear c32
                      try clear c32b0
                      try clear c34
                      try clear c34b0
                      try clear c37
                      try clear c37b0
                      try clear c38
                      try clear c38b0
                      try clear c41
                      try clear c41b0
                      try clear c43
                      try clear c43b0
                      try clear c43b1
                      try clear hx262_0
                      try clear hx263_0
                      try clear hx264_0
                      try clear hx265_0
                      try clear hx266_0
                      try clear p2
                      try clear p262
                      try clear p263
                      try clear p264
                      try clear p265
                      try clear p266
                      try clear p6
                      try clear q2
                      try clear q262
                      try clear q263
                      try clear q264
                      try clear q265
                      try clear q266
                      obtain ⟨x15_3, x16_3, rfl, rfl, HA, HK3, HO_7, HO_8, HB⟩ := hrel
                      cases gk with
                      | zero => exact absurd HA.out (by simp [abugidaref24_Apply.l1])
                      | succ k3 =>
                        have H := HA.out
                        clear HA
                        simp only [abugidaref24_Apply.l1] at H
                        by_cases c45 : (wrap64 (x16_3 + 1)) < (t242.length : Int)
                        · rw [if_pos c45] at H
                          have c45b0 : decide ((wrap64 (x16_3 + 1)) < (t242.length : Int)) = true := decide_eq_true c45
                          clear c45
                          by_cases c46 : 0 ≤ x16_3
                          · rw [if_pos c46] at H
                            have c46b0 : decide (0 ≤ x16_3) = true := decide_eq_true c46
                            clear c46
                            by_cases c47 : x16_3 < (t242.length : Int)
                            · rw [if_pos c47] at H
                              have c47b0 : decide (x16_3 < (t242.length : Int)) = true := decide_eq_true c47
                              clear c47
                              obtain ⟨ji48, hji48⟩ : ∃ j_ : Int, (wrap64 (x16_3 + 1)) = j_ := ⟨_, rfl⟩
                              replace H : (if 0 ≤ (ji48) then (if 0 ≤ (rd t242 x16_3) then (if (rd t242 x16_3) ≤ (wrap64 ((rd t242 x16_3) + (rd t242 (ji48)))) then (if (wrap64 ((rd t242 x16_3) + (rd t242 (ji48)))) ≤ (a0.size : Int) then (if x15_3.size + (a0.extract ((rd t242 x16_3) : Int).toNat ((wrap64 ((rd t242 x16_3) + (rd t242 (ji48)))) : Int).toNat).size ≤ 9223372036854775807 then (if 0 ≤ (wrap64 ((wrap64 (Int.tdiv x16_3 2)) + 1)) then (if (wrap64 ((wrap64 (Int.tdiv x16_3 2)) + 1)) < (t248.length : Int) then (if (x15_3 ++ (a0.extract ((rd t242 x16_3) : Int).toNat ((wrap64 ((rd t242 x16_3) + (rd t242 (ji48)))) : Int).toNat)).size + (rdOf ByteArray.empty t248 (wrap64 ((wrap64 (Int.tdiv x16_3 2)) + 1))).size ≤ 9223372036854775807 then (abugidaref24_Apply.l1 k3 a0 t242 t248 ((x15_3 ++ (a0.extract ((rd t242 x16_3) : Int).toNat ((wrap64 ((rd t242 x16_3) + (rd t242 (ji48)))) : Int).toNat)) ++ (rdOf ByteArray.empty t248 (wrap64 ((wrap64 (Int.tdiv x16_3 2)) + 1)))) (wrap64 (x16_3 + 2))) else (none)) else (none)) else (none)) else (none)) else (none)) else (none)) else (none)) else (none)) = some (r1, r2) := by first | (rw [hji48] at H; exact H) | (simp only [hji48] at H ⊢; exact H)
                              try rw [hji48] at hji39_
                              (try rw [hji48] at c45b0)
                              have hji48w : (IntKind.i64.wrap (x16_3 + 1)) = ji48 := (i64_w _).trans hji48
                              by_cases c49 : 0 ≤ (ji48)
                              · rw [if_pos c49] at H
                                have c49b0 : decide (0 ≤ (ji48)) = true := decide_eq_true c49
                                clear c49
                                by_cases c50 : 0 ≤ (rd t242 x16_3)
                                · rw [if_pos c50] at H
                                  have c50b0 := eq_true c50
                                  have c50b1 : decide (0 ≤ (rd t242 x16_3)) = true := decide_eq_true c50
                                  clear c50
                                  by_cases c51 : (rd t242 x16_3) ≤ (wrap64 ((rd t242 x16_3) + (rd t242 (ji48))))
                                  · rw [if_pos c51] at H
                                    have c51b0 := eq_true c51
                                    have c51b1 : decide ((rd t242 x16_3) ≤ (wrap64 ((rd t242 x16_3) + (rd t242 (ji48))))) = true := decide_eq_true c51
                                    by_cases c52 : (wrap64 ((rd t242 x16_3) + (rd t242 (ji48)))) ≤ (a0.size : Int)
                                    · rw [if_pos c52] at H
                                      have c52b0 := eq_true c52
                                      have c52b1 : decide ((wrap64 ((rd t242 x16_3) + (rd t242 (ji48)))) ≤ (a0.size : Int)) = true := decide_eq_true c52
                                      by_cases c53 : x15_3.size + (a0.extract ((rd t242 x16_3) : Int).toNat ((wrap64 ((rd t242 x16_3) + (rd t242 (ji48)))) : Int).toNat).size ≤ 9223372036854775807
                                      · rw [if_pos c53] at H
                                        have c53b0 := eq_true c53
                                        have c53b1 : decide (x15_3.size + (a0.extract ((rd t242 x16_3) : Int).toNat ((wrap64 ((rd t242 x16_3) + (rd t242 (ji48)))) : Int).toNat).size ≤ 9223372036854775807) = true := decide_eq_true c53
                                        try have c53b2 : (9223372036854775807 < x15_3.size + (a0.extract ((rd t242 x16_3) : Int).toNat ((wrap64 ((rd t242 x16_3) + (rd t242 (ji48)))) : Int).toNat).size) = False := eq_false (Nat.not_lt.2 c53)
                                        try (have c53x : x15_3.size + (((wrap64 ((rd t242 x16_3) + (rd t242 (ji48)))) : Int).toNat - ((rd t242 x16_3) : Int).toNat) ≤ 9223372036854775807 := (by have h_ := c53; simp only [ByteArray.size_extract] at h_; omega); have c53x1 := eq_true c53x; have c53x2 := eq_false (Nat.not_lt.2 c53x); clear c53x)
                                        obtain ⟨ji54, hji54⟩ : ∃ j_ : Int, (wrap64 ((wrap64 (Int.tdiv x16_3 2)) + 1)) = j_ := ⟨_, rfl⟩
                                        replace H : (if 0 ≤ (ji54) then (if (ji54) < (t248.length : Int) then (if (x15_3 ++ (a0.extract ((rd t242 x16_3) : Int).toNat ((wrap64 ((rd t242 x16_3) + (rd t242 (ji48)))) : Int).toNat)).size + (rdOf ByteArray.empty t248 (ji54)).size ≤ 9223372036854775807 then (abugidaref24_Apply.l1 k3 a0 t242 t248 ((x15_3 ++ (a0.extract ((rd t242 x16_3) : Int).toNat ((wrap64 ((rd t242 x16_3) + (rd t242 (ji48)))) : Int).toNat)) ++ (rdOf ByteArray.empty t248 (ji54))) (wrap64 (x16_3 + 2))) else (none)) else (none)) else (none)) = some (r1, r2) := by first | (rw [hji54] at H; exact H) | (simp only [hji54] at H ⊢; exact H)
                                        try rw [hji54] at hji39_
                                        have hji54w : (IntKind.i64.wrap ((wrap64 (Int.tdiv x16_3 2)) + 1)) = ji54 := (i64_w _).trans hji54
                                        by_cases c55 : 0 ≤ (ji54)
                                        · rw [if_pos c55] at H
                                          have c55b0 : decide (0 ≤ (ji54)) = true := decide_eq_true c55
                                          clear c55
                                          by_cases c56 : (ji54) < (t248.length : Int)
                                          · rw [if_pos c56] at H
                                            have c56b0 : decide ((ji54) < (t248.length : Int)) = true := decide_eq_true c56
                                            clear c56
                                            by_cases c57 : (x15_3 ++ (a0.extract ((rd t242 x16_3) : Int).toNat ((wrap64 ((rd t242 x16_3) + (rd t242 (ji48)))) : Int).toNat)).size + (rdOf ByteArray.empty t248 (ji54)).size ≤ 9223372036854775807
                                            · rw [if_pos c57] at H
                                              have c57b0 := eq_true c57
                                              have c57b1 : decide ((x15_3 ++ (a0.extract ((rd t242 x16_3) : Int).toNat ((wrap64 ((rd t242 x16_3) + (rd t242 (ji48)))) : Int).toNat)).size + (rdOf ByteArray.empty t248 (ji54)).size ≤ 9223372036854775807) = true := decide_eq_true c57
                                              try have c57b2 : (9223372036854775807 < (x15_3 ++ (a0.extract ((rd t242 x16_3) : Int).toNat ((wrap64 ((rd t242 x16_3) + (rd t242 (ji48)))) : Int).toNat)).size + (rdOf ByteArray.empty t248 (ji54)).size) = False := eq_false (Nat.not_lt.2 c57)
                                              try (have c57e := c57; simp only [ByteArray.size_append] at c57e; have c57e1 := eq_true c57e; have c57e2 := eq_false (Nat.not_lt.2 c57e); clear c57e)
                                              have H' := Aside0.mk H
                                              clear H
                                              have p267 : 0 ≤ (x16_3 : Int) := of_decide_eq_true (by first | (with_reducible assumption) | assumption)
                                              have q267 : x16_3 < (t242.length : Int) := of_decide_eq_true (by first | (with_reducible assumption) | assumption)
                                              obtain ⟨ad267, e267, hx267_0⟩ := Kd.at_int (Kd.R_reads' HO_7.out).2.2 x16_3 p267 q267
                                              cases e267
                                              replace p267 := eq_true p267
                                              replace q267 := eq_true q267
                                              have p268 : 0 ≤ (x16_3 : Int) := of_decide_eq_true (by first | (with_reducible assumption) | assumption)
                                              have q268 : x16_3 < (t242.length : Int) := of_decide_eq_true (by first | (with_reducible assumption) | assumption)
                                              obtain ⟨ad268, e268, hx268_0⟩ := Kd.at_int (Kd.R_reads' HO_7.out).2.2 x16_3 p268 q268
                                              obtain rfl : ad267 = ad268 := (by injection e268)
                                              replace p268 := eq_true p268
                                              replace q268 := eq_true q268
                                              have p269 : 0 ≤ ((ji48) : Int) := of_decide_eq_true (by first | (with_reducible assumption) | assumption)
                                              have q269 : (ji48) < (t242.length : Int) := of_decide_eq_true (by first | (with_reducible assumption) | assumption)
                                              obtain ⟨ad269, e269, hx269_0⟩ := Kd.at_int (Kd.R_reads' HO_7.out).2.2 (ji48) p269 q269
                                              obtain rfl : ad267 = ad269 := (by injection e269)
                                              replace p269 := eq_true p269
                                              replace q269 := eq_true q269
                                              have p270 : 0 ≤ ((ji54) : Int) := of_decide_eq_true (by first | (with_reducible assumption) | assumption)
                                              have q270 : (ji54) < (t248.length : Int) := of_decide_eq_true (by first | (with_reducible assumption) | assumption)
                                              obtain ⟨ad270, e270, hx270_0⟩ := Kd.at_string (Kd.R_reads' HO_8.out).2.2 (ji54) p270 q270
                                              obtain rfl : ad262 = ad270 := (by injection e270)
                                              replace p270 := eq_true p270
                                              replace q270 := eq_true q270
                                              go_wp2
                                              repeat (go_quiet (fail); try go_wp2)
                                              go_roundg k3
                                              case measure => have := HJ7.out; have := HK2.out; have := HK3.out; omega
                                              case rel => exact ⟨((x15_3 ++ (a0.extract ((rd t242 x16_3) : Int).toNat ((wrap64 ((rd t242 x16_3) + (rd t242 (ji48)))) : Int).toNat)) ++ (rdOf ByteArray.empty t248 (ji54))), (wrap64 (x16_3 + 2)), (by first | rfl | (simp; done) | (simp only [← hji48, ← hji54] <;> (first | rfl | simp)) | (simp [*]; done)), (by first | rfl | (simp; done) | (simp [*]; done)), H', ⟨by have := HJ7.out; have := HK2.out; have := HK3.out; omega⟩, ⟨by (with_reducible repeat (first | apply Kd.R_alloc | apply Kd.R_drewN | apply Kd.R_drew)); exact HO_7.out⟩, ⟨by (with_reducible repeat (first | apply Kd.R_alloc | apply Kd.R_drewN | apply Kd.R_drew)); exact HO_8.out⟩, ⟨by repeat (with_reducible first | exact HB.out | apply below_alloc | apply pw_below_drewN | apply below_drew1)⟩⟩
                                            · rw [if_neg c57] at H
                                              exact absurd H (by simp)
                                          · rw [if_neg c56] at H
                                            exact absurd H (by simp)
                                        · rw [if_neg c55] at H
                                          exact absurd H (by simp)
                                      · rw [if_neg c53] at H
                                        exact absurd H (by simp)
                                    · rw [if_neg c52] at H
                                      exact absurd H (by simp)
                                  · rw [if_neg c51] at H
                                    exact absurd H (by simp)
                                · rw [if_neg c50] at H
                                  exact absurd H (by simp)
                              · rw [if_neg c49] at H
                                exact absurd H (by simp)
                            · rw [if_neg c47] at H
                              exact absurd H (by simp)
                          · rw [if_neg c46] at H
                            exact absurd H (by simp)
                        · rw [if_neg c45] at H
                          have c45b0 : decide ((wrap64 (x16_3 + 1)) < (t242.length : Int)) = false := decide_eq_false c45
                          clear c45
                          simp only [Option.some.injEq, Prod.mk.injEq] at H
                          obtain ⟨rfl, rfl⟩ := H
                          go_wp2
                          repeat (go_quiet (fail); try go_wp2)
                          go_ret2
                          exact ⟨by first | rfl | (simp [errW_none, errW_some] <;> rfl) | (simp [*, errW_none, errW_some] <;> rfl), by repeat (with_reducible first | exact HB.out | apply below_alloc | apply pw_below_drewN | apply below_drew1)⟩
                  · rw [if_neg c43] at H
                    exact absurd H (by simp)
        · rw [if_neg c21] at H
          exact absurd H (by simp)

/-! ### abugidaref24_Made: function 34 -/
mutual
def abugidaref24_Made.l0 : Nat → ByteArray → List Int → ByteArray → Int → Option (ByteArray)
  | 0, _, _, _, _ => none
  | k + 1, x0, x1, x5, x6 => if x6 < (x1.length : Int) then (abugidaref24_Made.j1 k x0 x1 x5 x6 (decide (x6 < 12))) else (abugidaref24_Made.j1 k x0 x1 x5 x6 false)
def abugidaref24_Made.j1 : Nat → ByteArray → List Int → ByteArray → Int → Bool → Option (ByteArray)
  | 0, _, _, _, _, _ => none
  | k + 1, x0, x1, x5, x6, x16 => if x16 = true then (if 0 ≤ x6 then (if x6 < (x1.length : Int) then (if (Int.tmod (Go.bits .and .i64 (rd x1 x6) 1048575) 3) = 0 then (if 0 ≤ (Int.tmod (wrap64 (Int.tdiv (Go.bits .and .i64 (rd x1 x6) 1048575) 3)) 9) then (if (Int.tmod (wrap64 (Int.tdiv (Go.bits .and .i64 (rd x1 x6) 1048575) 3)) 9) ≤ 8 then (if x5.size + ((⟨#[97, 98, 99, 100, 101, 102, 103, 104]⟩ : ByteArray).extract 0 ((Int.tmod (wrap64 (Int.tdiv (Go.bits .and .i64 (rd x1 x6) 1048575) 3)) 9) : Int).toNat).size ≤ 9223372036854775807 then (abugidaref24_Made.l0 k x0 x1 (x5 ++ ((⟨#[97, 98, 99, 100, 101, 102, 103, 104]⟩ : ByteArray).extract 0 ((Int.tmod (wrap64 (Int.tdiv (Go.bits .and .i64 (rd x1 x6) 1048575) 3)) 9) : Int).toNat)) (wrap64 (x6 + 1))) else (none)) else (none)) else (none)) else (if (x0.size : Int) = 0 then (if 0 ≤ (Int.tmod (wrap64 (Int.tdiv (Go.bits .and .i64 (rd x1 x6) 1048575) 3)) 9) then (if (Int.tmod (wrap64 (Int.tdiv (Go.bits .and .i64 (rd x1 x6) 1048575) 3)) 9) ≤ 8 then (if x5.size + ((⟨#[97, 98, 99, 100, 101, 102, 103, 104]⟩ : ByteArray).extract 0 ((Int.tmod (wrap64 (Int.tdiv (Go.bits .and .i64 (rd x1 x6) 1048575) 3)) 9) : Int).toNat).size ≤ 9223372036854775807 then (abugidaref24_Made.l0 k x0 x1 (x5 ++ ((⟨#[97, 98, 99, 100, 101, 102, 103, 104]⟩ : ByteArray).extract 0 ((Int.tmod (wrap64 (Int.tdiv (Go.bits .and .i64 (rd x1 x6) 1048575) 3)) 9) : Int).toNat)) (wrap64 (x6 + 1))) else (none)) else (none)) else (none)) else (if 0 ≤ (Int.tmod (wrap64 (Int.tdiv (Go.bits .and .i64 (rd x1 x6) 1048575) 3)) (x0.size : Int)) then (if (Int.tmod (wrap64 (Int.tdiv (Go.bits .and .i64 (rd x1 x6) 1048575) 3)) (x0.size : Int)) ≤ (mn (x0.size : Int) (wrap64 ((wrap64 ((Int.tmod (wrap64 (Int.tdiv (Go.bits .and .i64 (rd x1 x6) 1048575) 3)) (x0.size : Int)) + 1)) + (Int.tmod (wrap64 (Int.tdiv (Go.bits .and .i64 (rd x1 x6) 1048575) 999)) 30)))) then (if (mn (x0.size : Int) (wrap64 ((wrap64 ((Int.tmod (wrap64 (Int.tdiv (Go.bits .and .i64 (rd x1 x6) 1048575) 3)) (x0.size : Int)) + 1)) + (Int.tmod (wrap64 (Int.tdiv (Go.bits .and .i64 (rd x1 x6) 1048575) 999)) 30)))) ≤ (x0.size : Int) then (if x5.size + (x0.extract ((Int.tmod (wrap64 (Int.tdiv (Go.bits .and .i64 (rd x1 x6) 1048575) 3)) (x0.size : Int)) : Int).toNat ((mn (x0.size : Int) (wrap64 ((wrap64 ((Int.tmod (wrap64 (Int.tdiv (Go.bits .and .i64 (rd x1 x6) 1048575) 3)) (x0.size : Int)) + 1)) + (Int.tmod (wrap64 (Int.tdiv (Go.bits .and .i64 (rd x1 x6) 1048575) 999)) 30)))) : Int).toNat).size ≤ 9223372036854775807 then (abugidaref24_Made.l0 k x0 x1 (x5 ++ (x0.extract ((Int.tmod (wrap64 (Int.tdiv (Go.bits .and .i64 (rd x1 x6) 1048575) 3)) (x0.size : Int)) : Int).toNat ((mn (x0.size : Int) (wrap64 ((wrap64 ((Int.tmod (wrap64 (Int.tdiv (Go.bits .and .i64 (rd x1 x6) 1048575) 3)) (x0.size : Int)) + 1)) + (Int.tmod (wrap64 (Int.tdiv (Go.bits .and .i64 (rd x1 x6) 1048575) 999)) 30)))) : Int).toNat)) (wrap64 (x6 + 1))) else (none)) else (none)) else (none)) else (none)))) else (none)) else (none)) else (some x5)
end
def abugidaref24_Made.f (k : Nat) (a0 : ByteArray) (l1 : List Int) : Option (ByteArray) := abugidaref24_Made.l0 k a0 l1 (⟨#[]⟩ : ByteArray) 0
set_option maxHeartbeats 8000000 in
set_option maxRecDepth 100000 in
theorem abugidaref24_Made.calls (k : Nat) (a0 : ByteArray) (A1 : Option Addr) (c1 : Nat) (l1 : List Int) (r : ByteArray) (w : World) (hr1 : Kd.C (Kd.int .i64) w A1 l1.length l1) (hc1 : l1.length ≤ c1) (h : abugidaref24_Made.f k a0 l1 = some r) :
    Calls Try.prog 34 #[.string a0, .slice A1 l1.length c1] w fun e w' => e = .returned (.string r) ∧ Below w.heap.size w w' := by
  have HR1 := Aside0.mk hr1
  have HC1 := Aside0.mk hc1
  clear hr1 hc1
  have HB := Aside0.mk (Below.refl w.heap.size w)
  have H : (abugidaref24_Made.l0 k a0 l1 (⟨#[]⟩ : ByteArray) 0) = some r := h
  clear h
  have H' := Aside0.mk H
  clear H
  go_enter Try.func34, Try.ntmps34
  go_wp2
  go_loopg [5, 6] k (fun kq v5 v6 w' => ∃ (x5_1 : ByteArray) (x6_1 : Int), v5 = .string x5_1 ∧ v6 = .int .i64 x6_1 ∧ Aside0 (abugidaref24_Made.l0 kq a0 l1 x5_1 x6_1 = some r) ∧ Aside0 (kq ≤ k) ∧ Aside0 (Below w.heap.size w w'))
  case atStart => exact ⟨((⟨#[]⟩ : ByteArray)), (0), (by first | rfl | (simp; done) | (simp [*]; done)), (by first | rfl | (simp; done) | (simp [*]; done)), H', ⟨Nat.le_refl _⟩, ⟨by repeat (with_reducible first | exact HB.out | apply below_alloc | apply pw_below_drewN | apply below_drew1)⟩⟩
  case round =>
    clear H'
    try clear c1
    try clear p2
    obtain ⟨x5_1, x6_1, rfl, rfl, HA, HK1, HB⟩ := hrel
    cases gk with
    | zero => exact absurd HA.out (by simp [abugidaref24_Made.l0])
    | succ k1 =>
      have H := HA.out
      clear HA
      simp only [abugidaref24_Made.l0] at H
      have HC3 := Aside0.mk H
      clear H
      go_upto_region 3 with (fail)
      go_cut [16] (fun v16 wc => ∃ (kq : Nat) (x16_2 : Bool), v16 = .bool x16_2 ∧ Aside0 (abugidaref24_Made.j1 kq a0 l1 x5_1 x6_1 x16_2 = some r) ∧ Aside0 (kq ≤ k1) ∧ Aside0 (Below w.heap.size w wc))
      case first =>
        have H := HC3.out
        clear HC3
        by_cases c4 : x6_1 < (l1.length : Int)
        · rw [if_pos c4] at H
          have c4b0 : decide (x6_1 < (l1.length : Int)) = true := decide_eq_true c4
          clear c4
          (first | rw [c4b0] | (simp only [i64_w, i32_w]; rw [c4b0]) | skip)
          have H' := Aside0.mk H
          clear H
          go_wp2
          go_meet
          case rel => exact ⟨_, (decide (x6_1 < 12)), (by first | rfl | (simp; done) | (simp [*]; done)), H', ⟨by have := HK1.out; first | omega | exact Nat.le_refl _⟩, ⟨by repeat (with_reducible first | exact HB.out | apply below_alloc | apply pw_below_drewN | apply below_drew1)⟩⟩
        · rw [if_neg c4] at H
          have c4b0 : decide (x6_1 < (l1.length : Int)) = false := decide_eq_false c4
          clear c4
          (first | rw [c4b0] | (simp only [i64_w, i32_w]; rw [c4b0]) | skip)
          have H' := Aside0.mk H
          clear H
          go_wp2
          go_meet
          case rel => exact ⟨_, (false), (by first | rfl | (simp; done) | (simp [*]; done)), H', ⟨by have := HK1.out; first | omega | exact Nat.le_refl _⟩, ⟨by repeat (with_reducible first | exact HB.out | apply below_alloc | apply pw_below_drewN | apply below_drew1)⟩⟩
      case rest =>
        clear HC3
        try clear c1
        try clear p2
        try clear c3
        try clear c4
        try clear c4b0
        try clear p2
        obtain ⟨kq, x16_2, rfl, HA, HJ2, HB⟩ := hcut
        cases kq with
        | zero => exact absurd HA.out (by simp [abugidaref24_Made.j1])
        | succ kj2 =>
          have H := HA.out
          clear HA
          simp only [abugidaref24_Made.j1] at H
          by_cases c5 : x16_2 = true
          · subst c5
            rw [if_pos rfl] at H
            by_cases c6 : 0 ≤ x6_1
            · rw [if_pos c6] at H
              have c6b0 : decide (0 ≤ x6_1) = true := decide_eq_true c6
              clear c6
              by_cases c7 : x6_1 < (l1.length : Int)
              · rw [if_pos c7] at H
                have c7b0 : decide (x6_1 < (l1.length : Int)) = true := decide_eq_true c7
                clear c7
                by_cases c8 : (Int.tmod (Go.bits .and .i64 (rd l1 x6_1) 1048575) 3) = 0
                · rw [if_pos c8] at H
                  have c8b0 : ((Int.tmod (Go.bits .and .i64 (rd l1 x6_1) 1048575) 3) == 0) = true := beq_iff_eq.mpr c8
                  have c8b1 : ((Int.tmod (Go.bits .and .i64 (rd l1 x6_1) 1048575) 3) != 0) = false := bne_eq_false_iff_eq.mpr c8
                  clear c8
                  obtain ⟨ji9, hji9⟩ : ∃ j_ : Int, (Int.tmod (wrap64 (Int.tdiv (Go.bits .and .i64 (rd l1 x6_1) 1048575) 3)) 9) = j_ := ⟨_, rfl⟩
                  replace H : (if 0 ≤ (ji9) then (if (ji9) ≤ 8 then (if x5_1.size + ((⟨#[97, 98, 99, 100, 101, 102, 103, 104]⟩ : ByteArray).extract 0 ((ji9) : Int).toNat).size ≤ 9223372036854775807 then (abugidaref24_Made.l0 kj2 a0 l1 (x5_1 ++ ((⟨#[97, 98, 99, 100, 101, 102, 103, 104]⟩ : ByteArray).extract 0 ((ji9) : Int).toNat)) (wrap64 (x6_1 + 1))) else (none)) else (none)) else (none)) = some r := by first | (rw [hji9] at H; exact H) | (simp only [hji9] at H ⊢; exact H)
                  by_cases c10 : 0 ≤ (ji9)
                  · rw [if_pos c10] at H
                    have c10b0 := eq_true c10
                    have c10b1 : decide (0 ≤ (ji9)) = true := decide_eq_true c10
                    clear c10
                    by_cases c11 : (ji9) ≤ 8
                    · rw [if_pos c11] at H
                      have c11b0 := eq_true c11
                      have c11b1 : decide ((ji9) ≤ 8) = true := decide_eq_true c11
                      clear c11
                      by_cases c12 : x5_1.size + ((⟨#[97, 98, 99, 100, 101, 102, 103, 104]⟩ : ByteArray).extract 0 ((ji9) : Int).toNat).size ≤ 9223372036854775807
                      · rw [if_pos c12] at H
                        have c12b0 := eq_true c12
                        have c12b1 : decide (x5_1.size + ((⟨#[97, 98, 99, 100, 101, 102, 103, 104]⟩ : ByteArray).extract 0 ((ji9) : Int).toNat).size ≤ 9223372036854775807) = true := decide_eq_true c12
                        try have c12b2 : (9223372036854775807 < x5_1.size + ((⟨#[97, 98, 99, 100, 101, 102, 103, 104]⟩ : ByteArray).extract 0 ((ji9) : Int).toNat).size) = False := eq_false (Nat.not_lt.2 c12)
                        try (have c12x : x5_1.size + (((ji9) : Int).toNat - 0) ≤ 9223372036854775807 := (by have h_ := c12; simp only [ByteArray.size_extract] at h_; omega); have c12x1 := eq_true c12x; have c12x2 := eq_false (Nat.not_lt.2 c12x); clear c12x)
                        have H' := Aside0.mk H
                        clear H
                        have p271 : 0 ≤ (x6_1 : Int) := of_decide_eq_true (by first | (with_reducible assumption) | assumption)
                        have q271 : x6_1 < (l1.length : Int) := of_decide_eq_true (by first | (with_reducible assumption) | assumption)
                        obtain ⟨ad271, e271, hx271_0⟩ := Kd.at_int HR1.out x6_1 p271 q271
                        cases e271
                        replace hx271_0 := (HB.out.cell (World.block_lt_of_cell? w _ hx271_0)).trans hx271_0
                        replace p271 := eq_true p271
                        replace q271 := eq_true q271
                        go_wp2
                        go_roundg kj2
                        case measure => have := HK1.out; have := HJ2.out; omega
                        case rel => exact ⟨(x5_1 ++ ((⟨#[97, 98, 99, 100, 101, 102, 103, 104]⟩ : ByteArray).extract 0 ((ji9) : Int).toNat)), (wrap64 (x6_1 + 1)), (by first | rfl | (simp; done) | (simp only [← hji9] <;> (first | rfl | simp)) | (simp [*]; done)), (by first | rfl | (simp; done) | (simp [*]; done)), H', ⟨by have := HK1.out; have := HJ2.out; omega⟩, ⟨by repeat (with_reducible first | exact HB.out | apply below_alloc | apply pw_below_drewN | apply below_drew1)⟩⟩
                      · rw [if_neg c12] at H
                        exact absurd H (by simp)
                    · rw [if_neg c11] at H
                      exact absurd H (by simp)
                  · rw [if_neg c10] at H
                    exact absurd H (by simp)
                · rw [if_neg c8] at H
                  have c8b0 : ((Int.tmod (Go.bits .and .i64 (rd l1 x6_1) 1048575) 3) == 0) = false := beq_eq_false_iff_ne.mpr c8
                  have c8b1 : ((Int.tmod (Go.bits .and .i64 (rd l1 x6_1) 1048575) 3) != 0) = true := bne_iff_ne.mpr c8
                  by_cases c13 : (a0.size : Int) = 0
                  · rw [if_pos c13] at H
                    have c13b0 : ((a0.size : Int) == 0) = true := beq_iff_eq.mpr c13
                    have c13b1 : ((a0.size : Int) != 0) = false := bne_eq_false_iff_eq.mpr c13
                    clear c13
                    obtain ⟨ji14, hji14⟩ : ∃ j_ : Int, (Int.tmod (wrap64 (Int.tdiv (Go.bits .and .i64 (rd l1 x6_1) 1048575) 3)) 9) = j_ := ⟨_, rfl⟩
                    replace H : (if 0 ≤ (ji14) then (if (ji14) ≤ 8 then (if x5_1.size + ((⟨#[97, 98, 99, 100, 101, 102, 103, 104]⟩ : ByteArray).extract 0 ((ji14) : Int).toNat).size ≤ 9223372036854775807 then (abugidaref24_Made.l0 kj2 a0 l1 (x5_1 ++ ((⟨#[97, 98, 99, 100, 101, 102, 103, 104]⟩ : ByteArray).extract 0 ((ji14) : Int).toNat)) (wrap64 (x6_1 + 1))) else (none)) else (none)) else (none)) = some r := by first | (rw [hji14] at H; exact H) | (simp only [hji14] at H ⊢; exact H)
                    by_cases c15 : 0 ≤ (ji14)
                    · rw [if_pos c15] at H
                      have c15b0 := eq_true c15
                      have c15b1 : decide (0 ≤ (ji14)) = true := decide_eq_true c15
                      clear c15
                      by_cases c16 : (ji14) ≤ 8
                      · rw [if_pos c16] at H
                        have c16b0 := eq_true c16
                        have c16b1 : decide ((ji14) ≤ 8) = true := decide_eq_true c16
                        clear c16
                        by_cases c17 : x5_1.size + ((⟨#[97, 98, 99, 100, 101, 102, 103, 104]⟩ : ByteArray).extract 0 ((ji14) : Int).toNat).size ≤ 9223372036854775807
                        · rw [if_pos c17] at H
                          have c17b0 := eq_true c17
                          have c17b1 : decide (x5_1.size + ((⟨#[97, 98, 99, 100, 101, 102, 103, 104]⟩ : ByteArray).extract 0 ((ji14) : Int).toNat).size ≤ 9223372036854775807) = true := decide_eq_true c17
                          try have c17b2 : (9223372036854775807 < x5_1.size + ((⟨#[97, 98, 99, 100, 101, 102, 103, 104]⟩ : ByteArray).extract 0 ((ji14) : Int).toNat).size) = False := eq_false (Nat.not_lt.2 c17)
                          try (have c17x : x5_1.size + (((ji14) : Int).toNat - 0) ≤ 9223372036854775807 := (by have h_ := c17; simp only [ByteArray.size_extract] at h_; omega); have c17x1 := eq_true c17x; have c17x2 := eq_false (Nat.not_lt.2 c17x); clear c17x)
                          have H' := Aside0.mk H
                          clear H
                          have p271 : 0 ≤ (x6_1 : Int) := of_decide_eq_true (by first | (with_reducible assumption) | assumption)
                          have q271 : x6_1 < (l1.length : Int) := of_decide_eq_true (by first | (with_reducible assumption) | assumption)
                          obtain ⟨ad271, e271, hx271_0⟩ := Kd.at_int HR1.out x6_1 p271 q271
                          cases e271
                          replace hx271_0 := (HB.out.cell (World.block_lt_of_cell? w _ hx271_0)).trans hx271_0
                          replace p271 := eq_true p271
                          replace q271 := eq_true q271
                          go_wp2
                          go_roundg kj2
                          case measure => have := HK1.out; have := HJ2.out; omega
                          case rel => exact ⟨(x5_1 ++ ((⟨#[97, 98, 99, 100, 101, 102, 103, 104]⟩ : ByteArray).extract 0 ((ji14) : Int).toNat)), (wrap64 (x6_1 + 1)), (by first | rfl | (simp; done) | (simp only [← hji14] <;> (first | rfl | simp)) | (simp [*]; done)), (by first | rfl | (simp; done) | (simp [*]; done)), H', ⟨by have := HK1.out; have := HJ2.out; omega⟩, ⟨by repeat (with_reducible first | exact HB.out | apply below_alloc | apply pw_below_drewN | apply below_drew1)⟩⟩
                        · rw [if_neg c17] at H
                          exact absurd H (by simp)
                      · rw [if_neg c16] at H
                        exact absurd H (by simp)
                    · rw [if_neg c15] at H
                      exact absurd H (by simp)
                  · rw [if_neg c13] at H
                    have c13b0 : ((a0.size : Int) == 0) = false := beq_eq_false_iff_ne.mpr c13
                    have c13b1 : ((a0.size : Int) != 0) = true := bne_iff_ne.mpr c13
                    obtain ⟨ji18, hji18⟩ : ∃ j_ : Int, (mn (a0.size : Int) (wrap64 ((wrap64 ((Int.tmod (wrap64 (Int.tdiv (Go.bits .and .i64 (rd l1 x6_1) 1048575) 3)) (a0.size : Int)) + 1)) + (Int.tmod (wrap64 (Int.tdiv (Go.bits .and .i64 (rd l1 x6_1) 1048575) 999)) 30)))) = j_ := ⟨_, rfl⟩
                    replace H : (if 0 ≤ (Int.tmod (wrap64 (Int.tdiv (Go.bits .and .i64 (rd l1 x6_1) 1048575) 3)) (a0.size : Int)) then (if (Int.tmod (wrap64 (Int.tdiv (Go.bits .and .i64 (rd l1 x6_1) 1048575) 3)) (a0.size : Int)) ≤ (ji18) then (if (ji18) ≤ (a0.size : Int) then (if x5_1.size + (a0.extract ((Int.tmod (wrap64 (Int.tdiv (Go.bits .and .i64 (rd l1 x6_1) 1048575) 3)) (a0.size : Int)) : Int).toNat ((ji18) : Int).toNat).size ≤ 9223372036854775807 then (abugidaref24_Made.l0 kj2 a0 l1 (x5_1 ++ (a0.extract ((Int.tmod (wrap64 (Int.tdiv (Go.bits .and .i64 (rd l1 x6_1) 1048575) 3)) (a0.size : Int)) : Int).toNat ((ji18) : Int).toNat)) (wrap64 (x6_1 + 1))) else (none)) else (none)) else (none)) else (none)) = some r := by first | (rw [hji18] at H; exact H) | (simp only [hji18] at H ⊢; exact H)
                    have hji18_ : (if (wrap64 ((wrap64 ((Int.tmod (wrap64 (Int.tdiv (Go.bits .and .i64 (rd l1 x6_1) 1048575) 3)) (a0.size : Int)) + 1)) + (Int.tmod (wrap64 (Int.tdiv (Go.bits .and .i64 (rd l1 x6_1) 1048575) 999)) 30))) < (a0.size : Int) then (wrap64 ((wrap64 ((Int.tmod (wrap64 (Int.tdiv (Go.bits .and .i64 (rd l1 x6_1) 1048575) 3)) (a0.size : Int)) + 1)) + (Int.tmod (wrap64 (Int.tdiv (Go.bits .and .i64 (rd l1 x6_1) 1048575) 999)) 30))) else (a0.size : Int)) = ji18 := hji18
                    obtain ⟨ji19, hji19⟩ : ∃ j_ : Int, (Int.tmod (wrap64 (Int.tdiv (Go.bits .and .i64 (rd l1 x6_1) 1048575) 3)) (a0.size : Int)) = j_ := ⟨_, rfl⟩
                    replace H : (if 0 ≤ (ji19) then (if (ji19) ≤ (ji18) then (if (ji18) ≤ (a0.size : Int) then (if x5_1.size + (a0.extract ((ji19) : Int).toNat ((ji18) : Int).toNat).size ≤ 9223372036854775807 then (abugidaref24_Made.l0 kj2 a0 l1 (x5_1 ++ (a0.extract ((ji19) : Int).toNat ((ji18) : Int).toNat)) (wrap64 (x6_1 + 1))) else (none)) else (none)) else (none)) else (none)) = some r := by first | (rw [hji19] at H; exact H) | (simp only [hji19] at H ⊢; exact H)
                    try rw [hji19] at hji18_
                    by_cases c20 : 0 ≤ (ji19)
                    · rw [if_pos c20] at H
                      have c20b0 := eq_true c20
                      have c20b1 : decide (0 ≤ (ji19)) = true := decide_eq_true c20
                      clear c20
                      by_cases c21 : (ji19) ≤ (ji18)
                      · rw [if_pos c21] at H
                        have c21b0 := eq_true c21
                        have c21b1 : decide ((ji19) ≤ (ji18)) = true := decide_eq_true c21
                        clear c21
                        by_cases c22 : (ji18) ≤ (a0.size : Int)
                        · rw [if_pos c22] at H
                          have c22b0 := eq_true c22
                          have c22b1 : decide ((ji18) ≤ (a0.size : Int)) = true := decide_eq_true c22
                          clear c22
                          by_cases c23 : x5_1.size + (a0.extract ((ji19) : Int).toNat ((ji18) : Int).toNat).size ≤ 9223372036854775807
                          · rw [if_pos c23] at H
                            have c23b0 := eq_true c23
                            have c23b1 : decide (x5_1.size + (a0.extract ((ji19) : Int).toNat ((ji18) : Int).toNat).size ≤ 9223372036854775807) = true := decide_eq_true c23
                            try have c23b2 : (9223372036854775807 < x5_1.size + (a0.extract ((ji19) : Int).toNat ((ji18) : Int).toNat).size) = False := eq_false (Nat.not_lt.2 c23)
                            try (have c23x : x5_1.size + (((ji18) : Int).toNat - ((ji19) : Int).toNat) ≤ 9223372036854775807 := (by have h_ := c23; simp only [ByteArray.size_extract] at h_; omega); have c23x1 := eq_true c23x; have c23x2 := eq_false (Nat.not_lt.2 c23x); clear c23x)
                            have H' := Aside0.mk H
                            clear H
                            have p271 : 0 ≤ (x6_1 : Int) := of_decide_eq_true (by first | (with_reducible assumption) | assumption)
                            have q271 : x6_1 < (l1.length : Int) := of_decide_eq_true (by first | (with_reducible assumption) | assumption)
                            obtain ⟨ad271, e271, hx271_0⟩ := Kd.at_int HR1.out x6_1 p271 q271
                            cases e271
                            replace hx271_0 := (HB.out.cell (World.block_lt_of_cell? w _ hx271_0)).trans hx271_0
                            replace p271 := eq_true p271
                            replace q271 := eq_true q271
                            go_wp2
                            go_roundg kj2
                            case measure => have := HK1.out; have := HJ2.out; omega
                            case rel => exact ⟨(x5_1 ++ (a0.extract ((ji19) : Int).toNat ((ji18) : Int).toNat)), (wrap64 (x6_1 + 1)), (by first | rfl | (simp; done) | (simp only [← hji18, ← hji19] <;> (first | rfl | simp)) | (simp [*]; done)), (by first | rfl | (simp; done) | (simp [*]; done)), H', ⟨by have := HK1.out; have := HJ2.out; omega⟩, ⟨by repeat (with_reducible first | exact HB.out | apply below_alloc | apply pw_below_drewN | apply below_drew1)⟩⟩
                          · rw [if_neg c23] at H
                            exact absurd H (by simp)
                        · rw [if_neg c22] at H
                          exact absurd H (by simp)
                      · rw [if_neg c21] at H
                        exact absurd H (by simp)
                    · rw [if_neg c20] at H
                      exact absurd H (by simp)
              · rw [if_neg c7] at H
                exact absurd H (by simp)
            · rw [if_neg c6] at H
              exact absurd H (by simp)
          · replace c5 := Bool.eq_false_iff.mpr c5
            subst c5
            rw [if_neg (show ¬ (false = true) by decide)] at H
            obtain rfl := Option.some.inj H
            go_wp2
            go_ret
            exact ⟨by first | rfl | (simp [errW_none, errW_some] <;> rfl) | (simp [*, errW_none, errW_some] <;> rfl), by repeat (with_reducible first | exact HB.out | apply below_alloc | apply pw_below_drewN | apply below_drew1)⟩

/-! ### abugidalaw24_code: function 18 -/
def abugidalaw24_code.f (k : Nat) (l0 : List Int) (l1 : List ByteArray) : Option (ByteArray) := (abugidaref02_Ints.f k l0).bind fun t272 => ((abugidaref02_Texts.f k l1).bind fun t273 => (if t272.size + t273.size ≤ 9223372036854775807 then (some (t272 ++ t273)) else (none)))
set_option maxHeartbeats 8000000 in
set_option maxRecDepth 100000 in
theorem abugidalaw24_code.calls (k : Nat) (A0 : Option Addr) (c0 : Nat) (l0 : List Int) (A1 : Option Addr) (c1 : Nat) (l1 : List ByteArray) (r : ByteArray) (w : World) (hr0 : Kd.C (Kd.int .i64) w A0 l0.length l0) (hc0 : l0.length ≤ c0) (hr1 : Kd.C Kd.string w A1 l1.length l1) (hc1 : l1.length ≤ c1) (h : abugidalaw24_code.f k l0 l1 = some r) :
    Calls Try.prog 18 #[.slice A0 l0.length c0, .slice A1 l1.length c1] w fun e w' => e = .returned (.string r) ∧ Below w.heap.size w w' := by
  have HR0 := Aside0.mk hr0
  have HC0 := Aside0.mk hc0
  clear hr0 hc0
  have HR1 := Aside0.mk hr1
  have HC1 := Aside0.mk hc1
  clear hr1 hc1
  have HB := Aside0.mk (Below.refl w.heap.size w)
  have H : ((abugidaref02_Ints.f k l0).bind fun t272 => ((abugidaref02_Texts.f k l1).bind fun t273 => (if t272.size + t273.size ≤ 9223372036854775807 then (some (t272 ++ t273)) else (none)))) = some r := h
  clear h
  replace H := Option.bind_eq_some_iff.mp H
  obtain ⟨t272, A30, H⟩ := H
  try dsimp only at H
  have A3 := Aside0.mk A30
  clear A30
  replace H := Option.bind_eq_some_iff.mp H
  obtain ⟨t273, A40, H⟩ := H
  try dsimp only at H
  have A4 := Aside0.mk A40
  clear A40
  by_cases c5 : t272.size + t273.size ≤ 9223372036854775807
  · rw [if_pos c5] at H
    have c5b0 := eq_true c5
    have c5b1 : decide (t272.size + t273.size ≤ 9223372036854775807) = true := decide_eq_true c5
    try have c5b2 : (9223372036854775807 < t272.size + t273.size) = False := eq_false (Nat.not_lt.2 c5)
    obtain rfl := Option.some.inj H
    go_enter Try.func18, Try.ntmps18
    go_wp2_with (first | ((with_reducible refine gate_callee (f := 32) rfl ?_); refine goesL_ (some 6) rfl rfl Try.func32 (by kernel_rfl) rfl #[.slice A0 l0.length c0] rfl (by (try simp only [List.map_toArray, List.map_cons, List.map_nil]); first | done | rfl | (simp only [List.length_drop, List.length_take]; rfl)) ?_; (with_reducible refine (abugidaref02_Ints.calls k _ _ l0 t272 _ ?side1 ?side2 A3.out).mono ?_); (case side1 => repeat (first | exact HR0.out | (with_reducible refine Kd.C_alloc ?_ _) | (with_reducible refine Kd.C_drewN ?_ _) | (with_reducible refine Kd.C_drew ?_))); (case side2 => exact HC0.out); rintro e w6 ⟨rfl, hb⟩; refine ⟨_, rfl, ?_⟩; have n0_ := Aside0.mk (below_step (by repeat (with_reducible first | exact HB.out | apply below_alloc | apply pw_below_drewN | apply below_drew1)) hb); clear HB; have HB := n0_; clear n0_; (try clear hb); (try clear hb2); (try clear hk); (try clear hi)) | ((with_reducible refine gate_callee (f := 33) rfl ?_); refine goesL_ (some 8) rfl rfl Try.func33 (by kernel_rfl) rfl #[.slice A1 l1.length c1] rfl (by (try simp only [List.map_toArray, List.map_cons, List.map_nil]); first | done | rfl | (simp only [List.length_drop, List.length_take]; rfl)) ?_; (with_reducible refine (abugidaref02_Texts.calls k _ _ l1 t273 _ ?side1 ?side2 A4.out).mono ?_); (case side1 => repeat (first | exact (Kd.C_below HR1.out HB.out) | (with_reducible refine Kd.C_alloc ?_ _) | (with_reducible refine Kd.C_drewN ?_ _) | (with_reducible refine Kd.C_drew ?_))); (case side2 => exact HC1.out); rintro e w7 ⟨rfl, hb⟩; refine ⟨_, rfl, ?_⟩; have n0_ := Aside0.mk (below_step (by repeat (with_reducible first | exact HB.out | apply below_alloc | apply pw_below_drewN | apply below_drew1)) hb); clear HB; have HB := n0_; clear n0_; (try clear hb); (try clear hb2); (try clear hk); (try clear hi)))
    go_ret
    exact ⟨by first | rfl | (simp [errW_none, errW_some] <;> rfl) | (simp [*, errW_none, errW_some] <;> rfl), by repeat (with_reducible first | exact HB.out | apply below_alloc | apply pw_below_drewN | apply below_drew1)⟩
  · rw [if_neg c5] at H
    exact absurd H (by simp)

/-! ### abugidalaw24_cut: function 11 -/
def abugidalaw24_cut.f (a0 : ByteArray) : Option (ByteArray) := if 0 ≤ (mn (a0.size : Int) 200) then (if (mn (a0.size : Int) 200) ≤ (a0.size : Int) then (some (a0.extract 0 ((mn (a0.size : Int) 200) : Int).toNat)) else (none)) else (none)
set_option maxHeartbeats 8000000 in
set_option maxRecDepth 100000 in
theorem abugidalaw24_cut.calls (a0 : ByteArray) (r : ByteArray) (w : World) (h : abugidalaw24_cut.f a0 = some r) :
    Calls Try.prog 11 #[.string a0] w fun e w' => e = .returned (.string r) ∧ Below w.heap.size w w' := by
  have HB := Aside0.mk (Below.refl w.heap.size w)
  have H : (if 0 ≤ (mn (a0.size : Int) 200) then (if (mn (a0.size : Int) 200) ≤ (a0.size : Int) then (some (a0.extract 0 ((mn (a0.size : Int) 200) : Int).toNat)) else (none)) else (none)) = some r := h
  clear h
  obtain ⟨ji2, hji2⟩ : ∃ j_ : Int, (mn (a0.size : Int) 200) = j_ := ⟨_, rfl⟩
  replace H : (if 0 ≤ (ji2) then (if (ji2) ≤ (a0.size : Int) then (some (a0.extract 0 ((ji2) : Int).toNat)) else (none)) else (none)) = some r := by first | (rw [hji2] at H; exact H) | (simp only [hji2] at H ⊢; exact H)
  (try (have hji2h : ji2 ≤ 200 := by (rw [← hji2]; unfold mn; (repeat' split) <;> omega)))
  (try (have hji2g : ji2 ≤ 64 := by omega))
  (try (have hji2l : 0 ≤ ji2 := by (rw [← hji2]; unfold mn; (repeat' split) <;> omega)))
  (try (have hji2m : 0 ≤ ji2 := by omega))
  have hji2_ : (if 200 < (a0.size : Int) then 200 else (a0.size : Int)) = ji2 := hji2
  by_cases c3 : 0 ≤ (ji2)
  · rw [if_pos c3] at H
    have c3b0 := eq_true c3
    have c3b1 : decide (0 ≤ (ji2)) = true := decide_eq_true c3
    clear c3
    by_cases c4 : (ji2) ≤ (a0.size : Int)
    · rw [if_pos c4] at H
      have c4b0 := eq_true c4
      have c4b1 : decide ((ji2) ≤ (a0.size : Int)) = true := decide_eq_true c4
      clear c4
      obtain rfl := Option.some.inj H
      go_enter Try.func11, Try.ntmps11
      go_wp2
      go_ret
      exact ⟨by first | rfl | (simp [errW_none, errW_some] <;> rfl) | (simp only [← hji2]; first | rfl | (simp [errW_none, errW_some] <;> rfl)) | (simp [*, errW_none, errW_some] <;> rfl), by repeat (with_reducible first | exact HB.out | apply below_alloc | apply pw_below_drewN | apply below_drew1)⟩
    · rw [if_neg c4] at H
      exact absurd H (by simp)
  · rw [if_neg c3] at H
    exact absurd H (by simp)

/-! ### abugidalaw24_find: function 24 -/
/-! ### abugidalaw24_Case_base: function 14 -/
def abugidalaw24_Case_base.f (a0_0 : ByteArray) (l0_1 : List Int) : Option (ByteArray) := (abugidalaw24_cut.f a0_0).bind fun t275 => (some t275)
set_option maxHeartbeats 8000000 in
set_option maxRecDepth 100000 in
theorem abugidalaw24_Case_base.calls (a0_0 : ByteArray) (A0_1 : Option Addr) (c0_1 : Nat) (l0_1 : List Int) (r : ByteArray) (w : World) (hr0_1 : Kd.C (Kd.int .i64) w A0_1 l0_1.length l0_1) (hc0_1 : l0_1.length ≤ c0_1) (h : abugidalaw24_Case_base.f a0_0 l0_1 = some r) :
    Calls Try.prog 14 #[.agg #[.string a0_0, .slice A0_1 l0_1.length c0_1]] w fun e w' => e = .returned (.string r) ∧ Below w.heap.size w w' := by
  have hu24 := Try.underlying24
  have HR0_1 := Aside0.mk hr0_1
  have HC0_1 := Aside0.mk hc0_1
  clear hr0_1 hc0_1
  have HB := Aside0.mk (Below.refl w.heap.size w)
  have H : ((abugidalaw24_cut.f a0_0).bind fun t275 => (some t275)) = some r := h
  clear h
  replace H := Option.bind_eq_some_iff.mp H
  obtain ⟨t275, A20, H⟩ := H
  try dsimp only at H
  have A2 := Aside0.mk A20
  clear A20
  obtain rfl := Option.some.inj H
  go_enter Try.func14, Try.ntmps14
  go_wp2_with (first | ((with_reducible refine gate_dst (N := 1) rfl ?_); refine box_event ?hg (N := 1) ?hd (cs := #[.string a0_0, .slice A0_1 l0_1.length c0_1]) (t := 24) ?hr ?_; (case hd => rfl); (case hg => rfl); (case hr => first | (go_simp; done) | (go_simp; rfl)); intro gb274 hg w3 hbox hb; have n0_ := Aside0.mk (below_step (by repeat (with_reducible first | exact HB.out | apply below_alloc | apply pw_below_drewN | apply below_drew1)) hb); have n1_ := Aside0.mk (hbox); have n2_ := Aside0.mk ((by rw [hg]; exact (below_size (by repeat (with_reducible first | exact HB.out | apply below_alloc | apply pw_below_drewN | apply below_drew1))) : w.heap.size ≤ gb274)); have n3_ := Aside0.mk ((by rw [hg]; exact (below_size (by repeat (with_reducible first | exact HB.out | apply below_alloc | apply pw_below_drewN | apply below_drew1))) : w.heap.size ≤ gb274)); clear HB; have HB := n0_; have BK274 := n1_; have GW274 := n2_; have GE274 := n3_; clear n0_ n1_ n2_ n3_; clear hb hbox hg; have hcz4_0 : w3.cell? ⟨gb274, 0, none⟩ = some (.string a0_0) := (blk_cell BK274.out 0).trans rfl; have hcz4_1 : w3.cell? ⟨gb274, 1, none⟩ = some (.slice A0_1 l0_1.length c0_1) := (blk_cell BK274.out 1).trans rfl; have hfz4_0 := blk_frozen BK274.out 0; have hfz4_1 := blk_frozen BK274.out 1) | ((with_reducible refine gate_callee (f := 11) rfl ?_); refine goesL_ (some 5) rfl rfl Try.func11 (by kernel_rfl) rfl #[.string a0_0] rfl (by (try simp only [List.map_toArray, List.map_cons, List.map_nil]); first | done | rfl | (simp only [List.length_drop, List.length_take]; rfl)) ?_; (with_reducible refine (abugidalaw24_cut.calls a0_0 t275 _ A2.out).mono ?_); rintro e w5 ⟨rfl, hb⟩; refine ⟨_, rfl, ?_⟩; have n0_ := Aside0.mk (blk_below (g := gb274) (o := .cells #[.string a0_0, .slice A0_1 l0_1.length c0_1] 24 (0, 0)) (by (with_reducible repeat (first | refine blk_drewN ?_ _ | refine blk_drew ?_ | refine blk_alloc ?_ _)); exact BK274.out) hb); have n1_ := Aside0.mk (below_step (by repeat (first | (with_reducible first | exact HB.out | apply below_alloc | apply pw_below_drewN | apply below_drew1 | refine below_set ?_ GE274.out) | exact HB.out)) hb); clear BK274; clear HB; have BK274 := n0_; have HB := n1_; clear n0_ n1_; (try clear hb); (try clear hb2); (try clear hk); (try clear hi)))
  go_ret
  exact ⟨by first | rfl | (simp [errW_none, errW_some] <;> rfl) | (simp [*, errW_none, errW_some] <;> rfl), by repeat (first | (with_reducible first | exact HB.out | apply below_alloc | apply pw_below_drewN | apply below_drew1 | refine below_set ?_ GE274.out) | exact HB.out)⟩

/-! ### abugidalaw24_Case_target: function 15 -/
def abugidalaw24_Case_target.f (k : Nat) (a0_0 : ByteArray) (l0_1 : List Int) : Option (ByteArray) := (abugidalaw24_Case_base.f a0_0 l0_1).bind fun t277 => ((abugidaref24_Made.f k t277 l0_1).bind fun t278 => (some t278))
set_option maxHeartbeats 8000000 in
set_option maxRecDepth 100000 in
theorem abugidalaw24_Case_target.calls (k : Nat) (a0_0 : ByteArray) (A0_1 : Option Addr) (c0_1 : Nat) (l0_1 : List Int) (r : ByteArray) (w : World) (hr0_1 : Kd.C (Kd.int .i64) w A0_1 l0_1.length l0_1) (hc0_1 : l0_1.length ≤ c0_1) (h : abugidalaw24_Case_target.f k a0_0 l0_1 = some r) :
    Calls Try.prog 15 #[.agg #[.string a0_0, .slice A0_1 l0_1.length c0_1]] w fun e w' => e = .returned (.string r) ∧ Below w.heap.size w w' := by
  have hu24 := Try.underlying24
  have HR0_1 := Aside0.mk hr0_1
  have HC0_1 := Aside0.mk hc0_1
  clear hr0_1 hc0_1
  have HB := Aside0.mk (Below.refl w.heap.size w)
  have H : ((abugidalaw24_Case_base.f a0_0 l0_1).bind fun t277 => ((abugidaref24_Made.f k t277 l0_1).bind fun t278 => (some t278))) = some r := h
  clear h
  replace H := Option.bind_eq_some_iff.mp H
  obtain ⟨t277, A20, H⟩ := H
  try dsimp only at H
  have A2 := Aside0.mk A20
  clear A20
  replace H := Option.bind_eq_some_iff.mp H
  obtain ⟨t278, A30, H⟩ := H
  try dsimp only at H
  have A3 := Aside0.mk A30
  clear A30
  obtain rfl := Option.some.inj H
  go_enter Try.func15, Try.ntmps15
  try go_wp2_with (first | ((with_reducible refine gate_dst (N := 1) rfl ?_); refine box_event ?hg (N := 1) ?hd (cs := #[.string a0_0, .slice A0_1 l0_1.length c0_1]) (t := 24) ?hr ?_; (case hd => rfl); (case hg => rfl); (case hr => first | (go_simp; done) | (go_simp; rfl)); intro gb276 hg w4 hbox hb; have n0_ := Aside0.mk (below_step (by repeat (with_reducible first | exact HB.out | apply below_alloc | apply pw_below_drewN | apply below_drew1)) hb); have n1_ := Aside0.mk (hbox); have n2_ := Aside0.mk ((by rw [hg]; exact (below_size (by repeat (with_reducible first | exact HB.out | apply below_alloc | apply pw_below_drewN | apply below_drew1))) : w.heap.size ≤ gb276)); have n3_ := Aside0.mk ((by rw [hg]; exact (below_size (by repeat (with_reducible first | exact HB.out | apply below_alloc | apply pw_below_drewN | apply below_drew1))) : w.heap.size ≤ gb276)); clear HB; have HB := n0_; have BK276 := n1_; have GW276 := n2_; have GE276 := n3_; clear n0_ n1_ n2_ n3_; clear hb hbox hg))
  have n0_ := Aside0.mk (blk_drew BK276.out)
  have n1_ := Aside0.mk (below_drew1 HB.out)
  clear BK276
  clear HB
  have BK276 := n0_
  have HB := n1_
  clear n0_ n1_
  refine start_ (n := 6) (S := fun w' => w'.cell? ⟨gb276, 0, none⟩ = some (.string a0_0) ∧ w'.cell? ⟨gb276, 1, none⟩ = some (.slice A0_1 l0_1.length c0_1)) (ds := []) #[false, false, false, false, false, false] (by kernel_rfl) rfl rfl ⟨(blk_cell BK276.out 0).trans rfl, (blk_cell BK276.out 1).trans rfl⟩ (fun hHeld => ?_)
  generalize w4.drew = w5 at BK276 HB hHeld ⊢
  refine pure_ (i := 2) (N := some 5) (v := ?_) (a' := ?_) #[false, false, true, false, false, false] rfl rfl (by kernel_rfl) (fun _ _ _ h => h) (Or.inl ⟨by rfl, ?_⟩) ?_ ?_
  rotate_left
  · intro w'
    go_simp
    with_reducible rfl
  rotate_left
  · simp only [Act.put, List.setIfInBounds_toArray, List.set_cons_zero, List.set_cons_succ, i64_w, i32_w]
    rfl
  refine take_ (i := 0) (N := some 3) (v := ?_) (a' := ?_) #[true, false, true, false, false, false] rfl rfl (by kernel_rfl) (fun _ _ _ h => h) (Or.inl ⟨by rfl, ?_⟩) hHeld ?_ ?_
  rotate_left
  · rintro w' ⟨s0, s1⟩
    go_simp
    with_reducible rfl
  rotate_left
  · simp only [Act.put, List.setIfInBounds_toArray, List.set_cons_zero, List.set_cons_succ, i64_w, i32_w]
    rfl
  refine take_ (i := 3) (N := some 6) (v := ?_) (a' := ?_) #[true, false, true, true, false, false] rfl rfl (by kernel_rfl) (fun _ _ _ h => h) (Or.inl ⟨by rfl, ?_⟩) hHeld ?_ ?_
  rotate_left
  · rintro w' ⟨s0, s1⟩
    go_simp
    with_reducible rfl
  rotate_left
  · simp only [Act.put, List.setIfInBounds_toArray, List.set_cons_zero, List.set_cons_succ, i64_w, i32_w]
    rfl
  refine one_ (i := 1) (N := some 4) #[true, true, true, true, false, false] rfl rfl (by kernel_rfl) (by decide) (fun K hK => ?_)
  refine goes_ Try.func14 (by kernel_rfl) rfl #[.agg #[.string a0_0, .slice A0_1 l0_1.length c0_1]] (by rfl) rfl rfl (by (try simp only [List.map_toArray, List.map_cons, List.map_nil]); first | done | rfl | (simp only [List.length_drop, List.length_take]; rfl)) ?_
  with_reducible refine (abugidalaw24_Case_base.calls a0_0 _ _ l0_1 t277 _ ?side1 ?side2 A2.out).mono ?_
  (case side1 => repeat (first | exact (Kd.C_below HR0_1.out HB.out) | (with_reducible refine Kd.C_alloc ?_ _) | (with_reducible refine Kd.C_drewN ?_ _) | (with_reducible refine Kd.C_drew ?_)))
  (case side2 => exact HC0_1.out)
  rintro e w6 ⟨rfl, hb⟩
  refine ⟨_, rfl, ?_⟩
  have n0_ := Aside0.mk (blk_below (g := gb276) (o := .cells #[.string a0_0, .slice A0_1 l0_1.length c0_1] 24 (0, 0)) (by (with_reducible repeat (first | refine blk_drewN ?_ _ | refine blk_drew ?_ | refine blk_alloc ?_ _)); exact BK276.out) hb)
  have n1_ := Aside0.mk (below_step (by repeat (first | (with_reducible first | exact HB.out | apply below_alloc | apply pw_below_drewN | apply below_drew1 | refine below_set ?_ GE276.out) | exact HB.out)) hb)
  clear BK276
  clear HB
  have BK276 := n0_
  have HB := n1_
  clear n0_ n1_
  (try clear hb)
  (try clear hb2)
  (try clear hk)
  (try clear hi)
  refine hK.out _ _ ⟨(blk_cell BK276.out 0).trans rfl, (blk_cell BK276.out 1).trans rfl⟩ (fun hHeld => ?_)
  clear hK K
  refine norm_ (a' := ?_) ?_ ?_
  rotate_left
  · show Act.put _ (some 4) _ = _
    simp only [Act.put, List.setIfInBounds_toArray, List.set_cons_zero, List.set_cons_succ, i64_w, i32_w]
    rfl
  refine one_ (i := 4) (N := some 7) #[true, true, true, true, true, false] rfl rfl (by kernel_rfl) (by decide) (fun K hK => ?_)
  refine goes_ Try.func34 (by kernel_rfl) rfl #[.string t277, .slice A0_1 l0_1.length c0_1] (by rfl) rfl rfl (by (try simp only [List.map_toArray, List.map_cons, List.map_nil]); first | done | rfl | (simp only [List.length_drop, List.length_take]; rfl)) ?_
  with_reducible refine (abugidaref24_Made.calls k t277 _ _ l0_1 t278 _ ?side1 ?side2 A3.out).mono ?_
  (case side1 => repeat (first | exact (Kd.C_below HR0_1.out HB.out) | (with_reducible refine Kd.C_alloc ?_ _) | (with_reducible refine Kd.C_drewN ?_ _) | (with_reducible refine Kd.C_drew ?_)))
  (case side2 => exact HC0_1.out)
  rintro e w7 ⟨rfl, hb⟩
  refine ⟨_, rfl, ?_⟩
  have n0_ := Aside0.mk (blk_below (g := gb276) (o := .cells #[.string a0_0, .slice A0_1 l0_1.length c0_1] 24 (0, 0)) (by (with_reducible repeat (first | refine blk_drewN ?_ _ | refine blk_drew ?_ | refine blk_alloc ?_ _)); exact BK276.out) hb)
  have n1_ := Aside0.mk (below_step (by repeat (first | (with_reducible first | exact HB.out | apply below_alloc | apply pw_below_drewN | apply below_drew1 | refine below_set ?_ GE276.out) | exact HB.out)) hb)
  clear BK276
  clear HB
  have BK276 := n0_
  have HB := n1_
  clear n0_ n1_
  (try clear hb)
  (try clear hb2)
  (try clear hk)
  (try clear hi)
  refine hK.out _ _ ⟨(blk_cell BK276.out 0).trans rfl, (blk_cell BK276.out 1).trans rfl⟩ (fun hHeld => ?_)
  clear hK K
  refine norm_ (a' := ?_) ?_ ?_
  rotate_left
  · show Act.put _ (some 7) _ = _
    simp only [Act.put, List.setIfInBounds_toArray, List.set_cons_zero, List.set_cons_succ, i64_w, i32_w]
    rfl
  refine pure_ (i := 5) (N := some 2) (v := ?_) (a' := ?_) #[true, true, true, true, true, true] rfl rfl (by kernel_rfl) (fun _ _ _ h => h) (Or.inl ⟨by rfl, ?_⟩) ?_ ?_
  rotate_left
  · intro w'
    go_simp
    with_reducible rfl
  rotate_left
  · simp only [Act.put, List.setIfInBounds_toArray, List.set_cons_zero, List.set_cons_succ, i64_w, i32_w]
    rfl
  refine done_ (by kernel_rfl) ?_
  try go_wp2
  go_ret
  exact ⟨by first | rfl | (simp [errW_none, errW_some] <;> rfl) | (simp [*, errW_none, errW_some] <;> rfl), by repeat (first | (with_reducible first | exact HB.out | apply below_alloc | apply pw_below_drewN | apply below_drew1 | refine below_set ?_ GE276.out) | exact HB.out)⟩

end Go.Proofs.Ytjjpiedcdcdejaa.Pb
