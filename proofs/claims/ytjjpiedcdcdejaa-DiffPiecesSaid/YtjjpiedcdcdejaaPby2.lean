-- Printed for this claim by its own gprint.py, over contracts proved by hand; not trusted: Lean checks it.
import Derived.Test.YtjjpiedcdcdejaaMgY
namespace Go.Proofs.Ytjjpiedcdcdejaa.Pb
open Go.RowKit Go.Proofs.Ytjjpiedcdcdejaa.Gw Go.Proofs.YtjjpiedcdcdejaaW.PrintWords Go.Proofs.YtjjpiedcdcdejaaW.PrintLast Go.Proofs.YtjjpiedcdcdejaaW.PrintMore
open Go.Proofs.Ytjjpiedcdcdejaa.Gw
attribute [local go_sem] max2_int min2_int max_two min_two max_three min_three max_four min_four   -- for this text's walks alone
set_option linter.unusedVariables false
set_option linter.unusedSimpArgs false

/-! ### abugidaref24_longest: function 48 -/

/-! ### abugidaref24_Pieces: function 31 -/
/-! ### abugidaref24_Make: function 13 -/
/-! ### abugidaref24_Apply: function 17 -/

/-! ### abugidaref24_Made: function 34 -/
mutual
def abugidaref24_Made.l0 : Nat → ByteArray → List Int → ByteArray → Int → Option (ByteArray)
  | 0, _, _, _, _ => none
  | k + 1, x0, x1, x5, x6 => if x6 < (x1.length : Int) then (abugidaref24_Made.j1 k x0 x1 x5 x6 (decide (x6 < 12))) else (abugidaref24_Made.j1 k x0 x1 x5 x6 false)
def abugidaref24_Made.j1 : Nat → ByteArray → List Int → ByteArray → Int → Bool → Option (ByteArray)
  | 0, _, _, _, _, _ => none
  | k + 1, x0, x1, x5, x6, x16 => if x16 = true then (if 0 ≤ x6 then (if x6 < (x1.length : Int) then (if (Int.tmod (Go.bits .and .i64 (rd x1 x6) 1048575) 3) = 0 then (if 0 ≤ (Int.tmod (wrap64 (Int.tdiv (Go.bits .and .i64 (rd x1 x6) 1048575) 3)) 9) then (if (Int.tmod (wrap64 (Int.tdiv (Go.bits .and .i64 (rd x1 x6) 1048575) 3)) 9) ≤ 8 then (if x5.size + ((⟨#[97, 98, 99, 100, 101, 102, 103, 104]⟩ : ByteArray).extract 0 ((Int.tmod (wrap64 (Int.tdiv (Go.bits .and .i64 (rd x1 x6) 1048575) 3)) 9) : Int).toNat).size ≤ 9223372036854775807 then (abugidaref24_Made.l0 k x0 x1 (x5 ++ ((⟨#[97, 98, 99, 100, 101, 102, 103, 104]⟩ : ByteArray).extract 0 ((Int.tmod (wrap64 (Int.tdiv (Go.bits .and .i64 (rd x1 x6) 1048575) 3)) 9) : Int).toNat)) (wrap64 (x6 + 1))) else (none)) else (none)) else (none)) else (if (x0.size : Int) = 0 then (if 0 ≤ (Int.tmod (wrap64 (Int.tdiv (Go.bits .and .i64 (rd x1 x6) 1048575) 3)) 9) then (if (Int.tmod (wrap64 (Int.tdiv (Go.bits .and .i64 (rd x1 x6) 1048575) 3)) 9) ≤ 8 then (if x5.size + ((⟨#[97, 98, 99, 100, 101, 102, 103, 104]⟩ : ByteArray).extract 0 ((Int.tmod (wrap64 (Int.tdiv (Go.bits .and .i64 (rd x1 x6) 1048575) 3)) 9) : Int).toNat).size ≤ 9223372036854775807 then (abugidaref24_Made.l0 k x0 x1 (x5 ++ ((⟨#[97, 98, 99, 100, 101, 102, 103, 104]⟩ : ByteArray).extract 0 ((Int.tmod (wrap64 (Int.tdiv (Go.bits .and .i64 (rd x1 x6) 1048575) 3)) 9) : Int).toNat)) (wrap64 (x6 + 1))) else (none)) else (none)) else (none)) else (if 0 ≤ (Int.tmod (wrap64 (Int.tdiv (Go.bits .and .i64 (rd x1 x6) 1048575) 3)) (x0.size : Int)) then (if (Int.tmod (wrap64 (Int.tdiv (Go.bits .and .i64 (rd x1 x6) 1048575) 3)) (x0.size : Int)) ≤ (mn (x0.size : Int) (wrap64 ((wrap64 ((Int.tmod (wrap64 (Int.tdiv (Go.bits .and .i64 (rd x1 x6) 1048575) 3)) (x0.size : Int)) + 1)) + (Int.tmod (wrap64 (Int.tdiv (Go.bits .and .i64 (rd x1 x6) 1048575) 999)) 30)))) then (if (mn (x0.size : Int) (wrap64 ((wrap64 ((Int.tmod (wrap64 (Int.tdiv (Go.bits .and .i64 (rd x1 x6) 1048575) 3)) (x0.size : Int)) + 1)) + (Int.tmod (wrap64 (Int.tdiv (Go.bits .and .i64 (rd x1 x6) 1048575) 999)) 30)))) ≤ (x0.size : Int) then (if x5.size + (x0.extract ((Int.tmod (wrap64 (Int.tdiv (Go.bits .and .i64 (rd x1 x6) 1048575) 3)) (x0.size : Int)) : Int).toNat ((mn (x0.size : Int) (wrap64 ((wrap64 ((Int.tmod (wrap64 (Int.tdiv (Go.bits .and .i64 (rd x1 x6) 1048575) 3)) (x0.size : Int)) + 1)) + (Int.tmod (wrap64 (Int.tdiv (Go.bits .and .i64 (rd x1 x6) 1048575) 999)) 30)))) : Int).toNat).size ≤ 9223372036854775807 then (abugidaref24_Made.l0 k x0 x1 (x5 ++ (x0.extract ((Int.tmod (wrap64 (Int.tdiv (Go.bits .and .i64 (rd x1 x6) 1048575) 3)) (x0.size : Int)) : Int).toNat ((mn (x0.size : Int) (wrap64 ((wrap64 ((Int.tmod (wrap64 (Int.tdiv (Go.bits .and .i64 (rd x1 x6) 1048575) 3)) (x0.size : Int)) + 1)) + (Int.tmod (wrap64 (Int.tdiv (Go.bits .and .i64 (rd x1 x6) 1048575) 999)) 30)))) : Int).toNat)) (wrap64 (x6 + 1))) else (none)) else (none)) else (none)) else (none)))) else (none)) else (none)) else (some x5)
end
def abugidaref24_Made.f (k : Nat) (a0 : ByteArray) (l1 : List Int) : Option (ByteArray) := abugidaref24_Made.l0 k a0 l1 (⟨#[]⟩ : ByteArray) 0
set_option maxHeartbeats 8000000 in
set_option maxRecDepth 100000 in
theorem abugidaref24_Made.calls (k : Nat) (a0 : ByteArray) (A1 : Option Addr) (c1 : Nat) (l1 : List Int) (r : ByteArray) (w : World) (hr1 : Kd.C (Kd.int .i64) w A1 l1.length l1) (hc1 : l1.length ≤ c1) (h : abugidaref24_Made.f k a0 l1 = some r) :
    Calls Try.prog 34 #[.string a0, .slice A1 l1.length c1] w fun e w' => e = .returned (.string r) ∧ Below w.heap.size w w' := by
  have HR1 := Aside0.mk hr1
  have HC1 := Aside0.mk hc1
  clear hr1 hc1
  have HB := Aside0.mk (Below.refl w.heap.size w)
  have H : (abugidaref24_Made.l0 k a0 l1 (⟨#[]⟩ : ByteArray) 0) = some r := h
  clear h
  have H' := Aside0.mk H
  clear H
  go_enter Try.func34, Try.ntmps34
  go_wp2
  go_loopg [5, 6] k (fun kq v5 v6 w' => ∃ (x5_1 : ByteArray) (x6_1 : Int), v5 = .string x5_1 ∧ v6 = .int .i64 x6_1 ∧ Aside0 (abugidaref24_Made.l0 kq a0 l1 x5_1 x6_1 = some r) ∧ Aside0 (kq ≤ k) ∧ Aside0 (Below w.heap.size w w'))
  case atStart => exact ⟨((⟨#[]⟩ : ByteArray)), (0), (by first | rfl | (simp; done) | (simp [*]; done)), (by first | rfl | (simp; done) | (simp [*]; done)), H', ⟨Nat.le_refl _⟩, ⟨by repeat (with_reducible first | exact HB.out | apply below_alloc | apply pw_below_drewN | apply below_drew1)⟩⟩
  case round =>
    clear H'
    try clear c1
    try clear p2
    obtain ⟨x5_1, x6_1, rfl, rfl, HA, HK1, HB⟩ := hrel
    cases gk with
    | zero => exact absurd HA.out (by simp [abugidaref24_Made.l0])
    | succ k1 =>
      have H := HA.out
      clear HA
      simp only [abugidaref24_Made.l0] at H
      have HC3 := Aside0.mk H
      clear H
      go_upto_region 3 with (fail)
      go_cut [16] (fun v16 wc => ∃ (kq : Nat) (x16_2 : Bool), v16 = .bool x16_2 ∧ Aside0 (abugidaref24_Made.j1 kq a0 l1 x5_1 x6_1 x16_2 = some r) ∧ Aside0 (kq ≤ k1) ∧ Aside0 (Below w.heap.size w wc))
      case first =>
        have H := HC3.out
        clear HC3
        by_cases c4 : x6_1 < (l1.length : Int)
        · rw [if_pos c4] at H
          have c4b0 : decide (x6_1 < (l1.length : Int)) = true := decide_eq_true c4
          clear c4
          (first | rw [c4b0] | (simp only [i64_w, i32_w]; rw [c4b0]) | skip)
          have H' := Aside0.mk H
          clear H
          go_wp2
          go_meet
          case rel => exact ⟨_, (decide (x6_1 < 12)), (by first | rfl | (simp; done) | (simp [*]; done)), H', ⟨by have := HK1.out; first | omega | exact Nat.le_refl _⟩, ⟨by repeat (with_reducible first | exact HB.out | apply below_alloc | apply pw_below_drewN | apply below_drew1)⟩⟩
        · rw [if_neg c4] at H
          have c4b0 : decide (x6_1 < (l1.length : Int)) = false := decide_eq_false c4
          clear c4
          (first | rw [c4b0] | (simp only [i64_w, i32_w]; rw [c4b0]) | skip)
          have H' := Aside0.mk H
          clear H
          go_wp2
          go_meet
          case rel => exact ⟨_, (false), (by first | rfl | (simp; done) | (simp [*]; done)), H', ⟨by have := HK1.out; first | omega | exact Nat.le_refl _⟩, ⟨by repeat (with_reducible first | exact HB.out | apply below_alloc | apply pw_below_drewN | apply below_drew1)⟩⟩
      case rest =>
        clear HC3
        try clear c1
        try clear p2
        try clear c3
        try clear c4
        try clear c4b0
        try clear p2
        obtain ⟨kq, x16_2, rfl, HA, HJ2, HB⟩ := hcut
        cases kq with
        | zero => exact absurd HA.out (by simp [abugidaref24_Made.j1])
        | succ kj2 =>
          have H := HA.out
          clear HA
          simp only [abugidaref24_Made.j1] at H
          by_cases c5 : x16_2 = true
          · subst c5
            rw [if_pos rfl] at H
            by_cases c6 : 0 ≤ x6_1
            · rw [if_pos c6] at H
              have c6b0 : decide (0 ≤ x6_1) = true := decide_eq_true c6
              clear c6
              by_cases c7 : x6_1 < (l1.length : Int)
              · rw [if_pos c7] at H
                have c7b0 : decide (x6_1 < (l1.length : Int)) = true := decide_eq_true c7
                clear c7
                by_cases c8 : (Int.tmod (Go.bits .and .i64 (rd l1 x6_1) 1048575) 3) = 0
                · rw [if_pos c8] at H
                  have c8b0 : ((Int.tmod (Go.bits .and .i64 (rd l1 x6_1) 1048575) 3) == 0) = true := beq_iff_eq.mpr c8
                  have c8b1 : ((Int.tmod (Go.bits .and .i64 (rd l1 x6_1) 1048575) 3) != 0) = false := bne_eq_false_iff_eq.mpr c8
                  clear c8
                  obtain ⟨ji9, hji9⟩ : ∃ j_ : Int, (Int.tmod (wrap64 (Int.tdiv (Go.bits .and .i64 (rd l1 x6_1) 1048575) 3)) 9) = j_ := ⟨_, rfl⟩
                  replace H : (if 0 ≤ (ji9) then (if (ji9) ≤ 8 then (if x5_1.size + ((⟨#[97, 98, 99, 100, 101, 102, 103, 104]⟩ : ByteArray).extract 0 ((ji9) : Int).toNat).size ≤ 9223372036854775807 then (abugidaref24_Made.l0 kj2 a0 l1 (x5_1 ++ ((⟨#[97, 98, 99, 100, 101, 102, 103, 104]⟩ : ByteArray).extract 0 ((ji9) : Int).toNat)) (wrap64 (x6_1 + 1))) else (none)) else (none)) else (none)) = some r := by first | (rw [hji9] at H; exact H) | (simp only [hji9] at H ⊢; exact H)
                  by_cases c10 : 0 ≤ (ji9)
                  · rw [if_pos c10] at H
                    have c10b0 := eq_true c10
                    have c10b1 : decide (0 ≤ (ji9)) = true := decide_eq_true c10
                    clear c10
                    by_cases c11 : (ji9) ≤ 8
                    · rw [if_pos c11] at H
                      have c11b0 := eq_true c11
                      have c11b1 : decide ((ji9) ≤ 8) = true := decide_eq_true c11
                      clear c11
                      by_cases c12 : x5_1.size + ((⟨#[97, 98, 99, 100, 101, 102, 103, 104]⟩ : ByteArray).extract 0 ((ji9) : Int).toNat).size ≤ 9223372036854775807
                      · rw [if_pos c12] at H
                        have c12b0 := eq_true c12
                        have c12b1 : decide (x5_1.size + ((⟨#[97, 98, 99, 100, 101, 102, 103, 104]⟩ : ByteArray).extract 0 ((ji9) : Int).toNat).size ≤ 9223372036854775807) = true := decide_eq_true c12
                        try have c12b2 : (9223372036854775807 < x5_1.size + ((⟨#[97, 98, 99, 100, 101, 102, 103, 104]⟩ : ByteArray).extract 0 ((ji9) : Int).toNat).size) = False := eq_false (Nat.not_lt.2 c12)
                        try (have c12x : x5_1.size + (((ji9) : Int).toNat - 0) ≤ 9223372036854775807 := (by have h_ := c12; simp only [ByteArray.size_extract] at h_; omega); have c12x1 := eq_true c12x; have c12x2 := eq_false (Nat.not_lt.2 c12x); clear c12x)
                        have H' := Aside0.mk H
                        clear H
                        have p271 : 0 ≤ (x6_1 : Int) := of_decide_eq_true (by first | (with_reducible assumption) | assumption)
                        have q271 : x6_1 < (l1.length : Int) := of_decide_eq_true (by first | (with_reducible assumption) | assumption)
                        obtain ⟨ad271, e271, hx271_0⟩ := Kd.at_int HR1.out x6_1 p271 q271
                        cases e271
                        replace hx271_0 := (HB.out.cell (World.block_lt_of_cell? w _ hx271_0)).trans hx271_0
                        replace p271 := eq_true p271
                        replace q271 := eq_true q271
                        go_wp2
                        go_roundg kj2
                        case measure => have := HK1.out; have := HJ2.out; omega
                        case rel => exact ⟨(x5_1 ++ ((⟨#[97, 98, 99, 100, 101, 102, 103, 104]⟩ : ByteArray).extract 0 ((ji9) : Int).toNat)), (wrap64 (x6_1 + 1)), (by first | rfl | (simp; done) | (simp only [← hji9] <;> (first | rfl | simp)) | (simp [*]; done)), (by first | rfl | (simp; done) | (simp [*]; done)), H', ⟨by have := HK1.out; have := HJ2.out; omega⟩, ⟨by repeat (with_reducible first | exact HB.out | apply below_alloc | apply pw_below_drewN | apply below_drew1)⟩⟩
                      · rw [if_neg c12] at H
                        exact absurd H (by simp)
                    · rw [if_neg c11] at H
                      exact absurd H (by simp)
                  · rw [if_neg c10] at H
                    exact absurd H (by simp)
                · rw [if_neg c8] at H
                  have c8b0 : ((Int.tmod (Go.bits .and .i64 (rd l1 x6_1) 1048575) 3) == 0) = false := beq_eq_false_iff_ne.mpr c8
                  have c8b1 : ((Int.tmod (Go.bits .and .i64 (rd l1 x6_1) 1048575) 3) != 0) = true := bne_iff_ne.mpr c8
                  by_cases c13 : (a0.size : Int) = 0
                  · rw [if_pos c13] at H
                    have c13b0 : ((a0.size : Int) == 0) = true := beq_iff_eq.mpr c13
                    have c13b1 : ((a0.size : Int) != 0) = false := bne_eq_false_iff_eq.mpr c13
                    clear c13
                    obtain ⟨ji14, hji14⟩ : ∃ j_ : Int, (Int.tmod (wrap64 (Int.tdiv (Go.bits .and .i64 (rd l1 x6_1) 1048575) 3)) 9) = j_ := ⟨_, rfl⟩
                    replace H : (if 0 ≤ (ji14) then (if (ji14) ≤ 8 then (if x5_1.size + ((⟨#[97, 98, 99, 100, 101, 102, 103, 104]⟩ : ByteArray).extract 0 ((ji14) : Int).toNat).size ≤ 9223372036854775807 then (abugidaref24_Made.l0 kj2 a0 l1 (x5_1 ++ ((⟨#[97, 98, 99, 100, 101, 102, 103, 104]⟩ : ByteArray).extract 0 ((ji14) : Int).toNat)) (wrap64 (x6_1 + 1))) else (none)) else (none)) else (none)) = some r := by first | (rw [hji14] at H; exact H) | (simp only [hji14] at H ⊢; exact H)
                    by_cases c15 : 0 ≤ (ji14)
                    · rw [if_pos c15] at H
                      have c15b0 := eq_true c15
                      have c15b1 : decide (0 ≤ (ji14)) = true := decide_eq_true c15
                      clear c15
                      by_cases c16 : (ji14) ≤ 8
                      · rw [if_pos c16] at H
                        have c16b0 := eq_true c16
                        have c16b1 : decide ((ji14) ≤ 8) = true := decide_eq_true c16
                        clear c16
                        by_cases c17 : x5_1.size + ((⟨#[97, 98, 99, 100, 101, 102, 103, 104]⟩ : ByteArray).extract 0 ((ji14) : Int).toNat).size ≤ 9223372036854775807
                        · rw [if_pos c17] at H
                          have c17b0 := eq_true c17
                          have c17b1 : decide (x5_1.size + ((⟨#[97, 98, 99, 100, 101, 102, 103, 104]⟩ : ByteArray).extract 0 ((ji14) : Int).toNat).size ≤ 9223372036854775807) = true := decide_eq_true c17
                          try have c17b2 : (9223372036854775807 < x5_1.size + ((⟨#[97, 98, 99, 100, 101, 102, 103, 104]⟩ : ByteArray).extract 0 ((ji14) : Int).toNat).size) = False := eq_false (Nat.not_lt.2 c17)
                          try (have c17x : x5_1.size + (((ji14) : Int).toNat - 0) ≤ 9223372036854775807 := (by have h_ := c17; simp only [ByteArray.size_extract] at h_; omega); have c17x1 := eq_true c17x; have c17x2 := eq_false (Nat.not_lt.2 c17x); clear c17x)
                          have H' := Aside0.mk H
                          clear H
                          have p271 : 0 ≤ (x6_1 : Int) := of_decide_eq_true (by first | (with_reducible assumption) | assumption)
                          have q271 : x6_1 < (l1.length : Int) := of_decide_eq_true (by first | (with_reducible assumption) | assumption)
                          obtain ⟨ad271, e271, hx271_0⟩ := Kd.at_int HR1.out x6_1 p271 q271
                          cases e271
                          replace hx271_0 := (HB.out.cell (World.block_lt_of_cell? w _ hx271_0)).trans hx271_0
                          replace p271 := eq_true p271
                          replace q271 := eq_true q271
                          go_wp2
                          go_roundg kj2
                          case measure => have := HK1.out; have := HJ2.out; omega
                          case rel => exact ⟨(x5_1 ++ ((⟨#[97, 98, 99, 100, 101, 102, 103, 104]⟩ : ByteArray).extract 0 ((ji14) : Int).toNat)), (wrap64 (x6_1 + 1)), (by first | rfl | (simp; done) | (simp only [← hji14] <;> (first | rfl | simp)) | (simp [*]; done)), (by first | rfl | (simp; done) | (simp [*]; done)), H', ⟨by have := HK1.out; have := HJ2.out; omega⟩, ⟨by repeat (with_reducible first | exact HB.out | apply below_alloc | apply pw_below_drewN | apply below_drew1)⟩⟩
                        · rw [if_neg c17] at H
                          exact absurd H (by simp)
                      · rw [if_neg c16] at H
                        exact absurd H (by simp)
                    · rw [if_neg c15] at H
                      exact absurd H (by simp)
                  · rw [if_neg c13] at H
                    have c13b0 : ((a0.size : Int) == 0) = false := beq_eq_false_iff_ne.mpr c13
                    have c13b1 : ((a0.size : Int) != 0) = true := bne_iff_ne.mpr c13
                    obtain ⟨ji18, hji18⟩ : ∃ j_ : Int, (mn (a0.size : Int) (wrap64 ((wrap64 ((Int.tmod (wrap64 (Int.tdiv (Go.bits .and .i64 (rd l1 x6_1) 1048575) 3)) (a0.size : Int)) + 1)) + (Int.tmod (wrap64 (Int.tdiv (Go.bits .and .i64 (rd l1 x6_1) 1048575) 999)) 30)))) = j_ := ⟨_, rfl⟩
                    replace H : (if 0 ≤ (Int.tmod (wrap64 (Int.tdiv (Go.bits .and .i64 (rd l1 x6_1) 1048575) 3)) (a0.size : Int)) then (if (Int.tmod (wrap64 (Int.tdiv (Go.bits .and .i64 (rd l1 x6_1) 1048575) 3)) (a0.size : Int)) ≤ (ji18) then (if (ji18) ≤ (a0.size : Int) then (if x5_1.size + (a0.extract ((Int.tmod (wrap64 (Int.tdiv (Go.bits .and .i64 (rd l1 x6_1) 1048575) 3)) (a0.size : Int)) : Int).toNat ((ji18) : Int).toNat).size ≤ 9223372036854775807 then (abugidaref24_Made.l0 kj2 a0 l1 (x5_1 ++ (a0.extract ((Int.tmod (wrap64 (Int.tdiv (Go.bits .and .i64 (rd l1 x6_1) 1048575) 3)) (a0.size : Int)) : Int).toNat ((ji18) : Int).toNat)) (wrap64 (x6_1 + 1))) else (none)) else (none)) else (none)) else (none)) = some r := by first | (rw [hji18] at H; exact H) | (simp only [hji18] at H ⊢; exact H)
                    have hji18_ : (if (wrap64 ((wrap64 ((Int.tmod (wrap64 (Int.tdiv (Go.bits .and .i64 (rd l1 x6_1) 1048575) 3)) (a0.size : Int)) + 1)) + (Int.tmod (wrap64 (Int.tdiv (Go.bits .and .i64 (rd l1 x6_1) 1048575) 999)) 30))) < (a0.size : Int) then (wrap64 ((wrap64 ((Int.tmod (wrap64 (Int.tdiv (Go.bits .and .i64 (rd l1 x6_1) 1048575) 3)) (a0.size : Int)) + 1)) + (Int.tmod (wrap64 (Int.tdiv (Go.bits .and .i64 (rd l1 x6_1) 1048575) 999)) 30))) else (a0.size : Int)) = ji18 := hji18
                    obtain ⟨ji19, hji19⟩ : ∃ j_ : Int, (Int.tmod (wrap64 (Int.tdiv (Go.bits .and .i64 (rd l1 x6_1) 1048575) 3)) (a0.size : Int)) = j_ := ⟨_, rfl⟩
                    replace H : (if 0 ≤ (ji19) then (if (ji19) ≤ (ji18) then (if (ji18) ≤ (a0.size : Int) then (if x5_1.size + (a0.extract ((ji19) : Int).toNat ((ji18) : Int).toNat).size ≤ 9223372036854775807 then (abugidaref24_Made.l0 kj2 a0 l1 (x5_1 ++ (a0.extract ((ji19) : Int).toNat ((ji18) : Int).toNat)) (wrap64 (x6_1 + 1))) else (none)) else (none)) else (none)) else (none)) = some r := by first | (rw [hji19] at H; exact H) | (simp only [hji19] at H ⊢; exact H)
                    try rw [hji19] at hji18_
                    by_cases c20 : 0 ≤ (ji19)
                    · rw [if_pos c20] at H
                      have c20b0 := eq_true c20
                      have c20b1 : decide (0 ≤ (ji19)) = true := decide_eq_true c20
                      clear c20
                      by_cases c21 : (ji19) ≤ (ji18)
                      · rw [if_pos c21] at H
                        have c21b0 := eq_true c21
                        have c21b1 : decide ((ji19) ≤ (ji18)) = true := decide_eq_true c21
                        clear c21
                        by_cases c22 : (ji18) ≤ (a0.size : Int)
                        · rw [if_pos c22] at H
                          have c22b0 := eq_true c22
                          have c22b1 : decide ((ji18) ≤ (a0.size : Int)) = true := decide_eq_true c22
                          clear c22
                          by_cases c23 : x5_1.size + (a0.extract ((ji19) : Int).toNat ((ji18) : Int).toNat).size ≤ 9223372036854775807
                          · rw [if_pos c23] at H
                            have c23b0 := eq_true c23
                            have c23b1 : decide (x5_1.size + (a0.extract ((ji19) : Int).toNat ((ji18) : Int).toNat).size ≤ 9223372036854775807) = true := decide_eq_true c23
                            try have c23b2 : (9223372036854775807 < x5_1.size + (a0.extract ((ji19) : Int).toNat ((ji18) : Int).toNat).size) = False := eq_false (Nat.not_lt.2 c23)
                            try (have c23x : x5_1.size + (((ji18) : Int).toNat - ((ji19) : Int).toNat) ≤ 9223372036854775807 := (by have h_ := c23; simp only [ByteArray.size_extract] at h_; omega); have c23x1 := eq_true c23x; have c23x2 := eq_false (Nat.not_lt.2 c23x); clear c23x)
                            have H' := Aside0.mk H
                            clear H
                            have p271 : 0 ≤ (x6_1 : Int) := of_decide_eq_true (by first | (with_reducible assumption) | assumption)
                            have q271 : x6_1 < (l1.length : Int) := of_decide_eq_true (by first | (with_reducible assumption) | assumption)
                            obtain ⟨ad271, e271, hx271_0⟩ := Kd.at_int HR1.out x6_1 p271 q271
                            cases e271
                            replace hx271_0 := (HB.out.cell (World.block_lt_of_cell? w _ hx271_0)).trans hx271_0
                            replace p271 := eq_true p271
                            replace q271 := eq_true q271
                            go_wp2
                            go_roundg kj2
                            case measure => have := HK1.out; have := HJ2.out; omega
                            case rel => exact ⟨(x5_1 ++ (a0.extract ((ji19) : Int).toNat ((ji18) : Int).toNat)), (wrap64 (x6_1 + 1)), (by first | rfl | (simp; done) | (simp only [← hji18, ← hji19] <;> (first | rfl | simp)) | (simp [*]; done)), (by first | rfl | (simp; done) | (simp [*]; done)), H', ⟨by have := HK1.out; have := HJ2.out; omega⟩, ⟨by repeat (with_reducible first | exact HB.out | apply below_alloc | apply pw_below_drewN | apply below_drew1)⟩⟩
                          · rw [if_neg c23] at H
                            exact absurd H (by simp)
                        · rw [if_neg c22] at H
                          exact absurd H (by simp)
                      · rw [if_neg c21] at H
                        exact absurd H (by simp)
                    · rw [if_neg c20] at H
                      exact absurd H (by simp)
              · rw [if_neg c7] at H
                exact absurd H (by simp)
            · rw [if_neg c6] at H
              exact absurd H (by simp)
          · replace c5 := Bool.eq_false_iff.mpr c5
            subst c5
            rw [if_neg (show ¬ (false = true) by decide)] at H
            obtain rfl := Option.some.inj H
            go_wp2
            go_ret
            exact ⟨by first | rfl | (simp [errW_none, errW_some] <;> rfl) | (simp [*, errW_none, errW_some] <;> rfl), by repeat (with_reducible first | exact HB.out | apply below_alloc | apply pw_below_drewN | apply below_drew1)⟩

/-! ### abugidalaw24_code: function 18 -/
def abugidalaw24_code.f (k : Nat) (l0 : List Int) (l1 : List ByteArray) : Option (ByteArray) := (abugidaref02_Ints.f k l0).bind fun t272 => ((abugidaref02_Texts.f k l1).bind fun t273 => (if t272.size + t273.size ≤ 9223372036854775807 then (some (t272 ++ t273)) else (none)))
set_option maxHeartbeats 8000000 in
set_option maxRecDepth 100000 in
theorem abugidalaw24_code.calls (k : Nat) (A0 : Option Addr) (c0 : Nat) (l0 : List Int) (A1 : Option Addr) (c1 : Nat) (l1 : List ByteArray) (r : ByteArray) (w : World) (hr0 : Kd.C (Kd.int .i64) w A0 l0.length l0) (hc0 : l0.length ≤ c0) (hr1 : Kd.C Kd.string w A1 l1.length l1) (hc1 : l1.length ≤ c1) (h : abugidalaw24_code.f k l0 l1 = some r) :
    Calls Try.prog 18 #[.slice A0 l0.length c0, .slice A1 l1.length c1] w fun e w' => e = .returned (.string r) ∧ Below w.heap.size w w' := by
  have HR0 := Aside0.mk hr0
  have HC0 := Aside0.mk hc0
  clear hr0 hc0
  have HR1 := Aside0.mk hr1
  have HC1 := Aside0.mk hc1
  clear hr1 hc1
  have HB := Aside0.mk (Below.refl w.heap.size w)
  have H : ((abugidaref02_Ints.f k l0).bind fun t272 => ((abugidaref02_Texts.f k l1).bind fun t273 => (if t272.size + t273.size ≤ 9223372036854775807 then (some (t272 ++ t273)) else (none)))) = some r := h
  clear h
  replace H := Option.bind_eq_some_iff.mp H
  obtain ⟨t272, A30, H⟩ := H
  try dsimp only at H
  have A3 := Aside0.mk A30
  clear A30
  replace H := Option.bind_eq_some_iff.mp H
  obtain ⟨t273, A40, H⟩ := H
  try dsimp only at H
  have A4 := Aside0.mk A40
  clear A40
  by_cases c5 : t272.size + t273.size ≤ 9223372036854775807
  · rw [if_pos c5] at H
    have c5b0 := eq_true c5
    have c5b1 : decide (t272.size + t273.size ≤ 9223372036854775807) = true := decide_eq_true c5
    try have c5b2 : (9223372036854775807 < t272.size + t273.size) = False := eq_false (Nat.not_lt.2 c5)
    obtain rfl := Option.some.inj H
    go_enter Try.func18, Try.ntmps18
    go_wp2_with (first | ((with_reducible refine gate_callee (f := 32) rfl ?_); refine goesL_ (some 6) rfl rfl Try.func32 (by kernel_rfl) rfl #[.slice A0 l0.length c0] rfl (by (try simp only [List.map_toArray, List.map_cons, List.map_nil]); first | done | rfl | (simp only [List.length_drop, List.length_take]; rfl)) ?_; (with_reducible refine (abugidaref02_Ints.calls k _ _ l0 t272 _ ?side1 ?side2 A3.out).mono ?_); (case side1 => repeat (first | exact HR0.out | (with_reducible refine Kd.C_alloc ?_ _) | (with_reducible refine Kd.C_drewN ?_ _) | (with_reducible refine Kd.C_drew ?_))); (case side2 => exact HC0.out); rintro e w6 ⟨rfl, hb⟩; refine ⟨_, rfl, ?_⟩; have n0_ := Aside0.mk (below_step (by repeat (with_reducible first | exact HB.out | apply below_alloc | apply pw_below_drewN | apply below_drew1)) hb); clear HB; have HB := n0_; clear n0_; (try clear hb); (try clear hb2); (try clear hk); (try clear hi)) | ((with_reducible refine gate_callee (f := 33) rfl ?_); refine goesL_ (some 8) rfl rfl Try.func33 (by kernel_rfl) rfl #[.slice A1 l1.length c1] rfl (by (try simp only [List.map_toArray, List.map_cons, List.map_nil]); first | done | rfl | (simp only [List.length_drop, List.length_take]; rfl)) ?_; (with_reducible refine (abugidaref02_Texts.calls k _ _ l1 t273 _ ?side1 ?side2 A4.out).mono ?_); (case side1 => repeat (first | exact (Kd.C_below HR1.out HB.out) | (with_reducible refine Kd.C_alloc ?_ _) | (with_reducible refine Kd.C_drewN ?_ _) | (with_reducible refine Kd.C_drew ?_))); (case side2 => exact HC1.out); rintro e w7 ⟨rfl, hb⟩; refine ⟨_, rfl, ?_⟩; have n0_ := Aside0.mk (below_step (by repeat (with_reducible first | exact HB.out | apply below_alloc | apply pw_below_drewN | apply below_drew1)) hb); clear HB; have HB := n0_; clear n0_; (try clear hb); (try clear hb2); (try clear hk); (try clear hi)))
    go_ret
    exact ⟨by first | rfl | (simp [errW_none, errW_some] <;> rfl) | (simp [*, errW_none, errW_some] <;> rfl), by repeat (with_reducible first | exact HB.out | apply below_alloc | apply pw_below_drewN | apply below_drew1)⟩
  · rw [if_neg c5] at H
    exact absurd H (by simp)

/-! ### abugidalaw24_cut: function 11 -/
def abugidalaw24_cut.f (a0 : ByteArray) : Option (ByteArray) := if 0 ≤ (mn (a0.size : Int) 200) then (if (mn (a0.size : Int) 200) ≤ (a0.size : Int) then (some (a0.extract 0 ((mn (a0.size : Int) 200) : Int).toNat)) else (none)) else (none)
set_option maxHeartbeats 8000000 in
set_option maxRecDepth 100000 in
theorem abugidalaw24_cut.calls (a0 : ByteArray) (r : ByteArray) (w : World) (h : abugidalaw24_cut.f a0 = some r) :
    Calls Try.prog 11 #[.string a0] w fun e w' => e = .returned (.string r) ∧ Below w.heap.size w w' := by
  have HB := Aside0.mk (Below.refl w.heap.size w)
  have H : (if 0 ≤ (mn (a0.size : Int) 200) then (if (mn (a0.size : Int) 200) ≤ (a0.size : Int) then (some (a0.extract 0 ((mn (a0.size : Int) 200) : Int).toNat)) else (none)) else (none)) = some r := h
  clear h
  obtain ⟨ji2, hji2⟩ : ∃ j_ : Int, (mn (a0.size : Int) 200) = j_ := ⟨_, rfl⟩
  replace H : (if 0 ≤ (ji2) then (if (ji2) ≤ (a0.size : Int) then (some (a0.extract 0 ((ji2) : Int).toNat)) else (none)) else (none)) = some r := by first | (rw [hji2] at H; exact H) | (simp only [hji2] at H ⊢; exact H)
  (try (have hji2h : ji2 ≤ 200 := by (rw [← hji2]; unfold mn; (repeat' split) <;> omega)))
  (try (have hji2g : ji2 ≤ 64 := by omega))
  (try (have hji2l : 0 ≤ ji2 := by (rw [← hji2]; unfold mn; (repeat' split) <;> omega)))
  (try (have hji2m : 0 ≤ ji2 := by omega))
  have hji2_ : (if 200 < (a0.size : Int) then 200 else (a0.size : Int)) = ji2 := hji2
  by_cases c3 : 0 ≤ (ji2)
  · rw [if_pos c3] at H
    have c3b0 := eq_true c3
    have c3b1 : decide (0 ≤ (ji2)) = true := decide_eq_true c3
    clear c3
    by_cases c4 : (ji2) ≤ (a0.size : Int)
    · rw [if_pos c4] at H
      have c4b0 := eq_true c4
      have c4b1 : decide ((ji2) ≤ (a0.size : Int)) = true := decide_eq_true c4
      clear c4
      obtain rfl := Option.some.inj H
      go_enter Try.func11, Try.ntmps11
      go_wp2
      go_ret
      exact ⟨by first | rfl | (simp [errW_none, errW_some] <;> rfl) | (simp only [← hji2]; first | rfl | (simp [errW_none, errW_some] <;> rfl)) | (simp [*, errW_none, errW_some] <;> rfl), by repeat (with_reducible first | exact HB.out | apply below_alloc | apply pw_below_drewN | apply below_drew1)⟩
    · rw [if_neg c4] at H
      exact absurd H (by simp)
  · rw [if_neg c3] at H
    exact absurd H (by simp)

/-! ### abugidalaw24_find: function 24 -/
def abugidalaw24_find.l0 : Nat → ByteArray → ByteArray → Int → Option (Int)
  | 0, _, _, _ => none
  | k + 1, x0, x1, x5 => if (wrap64 (x5 + (x1.size : Int))) ≤ (x0.size : Int) then (if 0 ≤ x5 then (if x5 ≤ (wrap64 (x5 + (x1.size : Int))) then (if (x0.extract (x5 : Int).toNat ((wrap64 (x5 + (x1.size : Int))) : Int).toNat).toList = x1.toList then (some x5) else (abugidalaw24_find.l0 k x0 x1 (wrap64 (x5 + 1)))) else (none)) else (none)) else (some (-1))
def abugidalaw24_find.f (k : Nat) (a0 : ByteArray) (a1 : ByteArray) : Option (Int) := abugidalaw24_find.l0 k a0 a1 0
set_option maxHeartbeats 8000000 in
set_option maxRecDepth 100000 in
theorem abugidalaw24_find.calls (k : Nat) (a0 : ByteArray) (a1 : ByteArray) (r : Int) (w : World) (h : abugidalaw24_find.f k a0 a1 = some r) :
    Calls Try.prog 24 #[.string a0, .string a1] w fun e w' => e = .returned (.int .i64 r) ∧ Drawn0 w w' := by
  have H : (abugidalaw24_find.l0 k a0 a1 0) = some r := h
  clear h
  have H' := Aside0.mk H
  clear H
  go_enter Try.func24, Try.ntmps24
  go_wp2
  go_loopg [5] k (fun kq v5 w' => ∃ (x5_1 : Int), v5 = .int .i64 x5_1 ∧ Aside0 (abugidalaw24_find.l0 kq a0 a1 x5_1 = some r) ∧ Aside0 (kq ≤ k) ∧ Drawn0 w w')
  case atStart => exact ⟨(0), (by first | rfl | (simp; done) | (simp [*]; done)), H', ⟨Nat.le_refl _⟩, by repeat (first | exact Drawn0.refl _ | apply Drawn0.step)⟩
  case round =>
    clear H'
    try clear c2
    try clear p2
    obtain ⟨x5_1, rfl, HA, HK1, ⟨m1, rfl⟩⟩ := hrel
    cases gk with
    | zero => exact absurd HA.out (by simp [abugidalaw24_find.l0])
    | succ k1 =>
      have H := HA.out
      clear HA
      simp only [abugidalaw24_find.l0] at H
      by_cases c3 : (wrap64 (x5_1 + (a1.size : Int))) ≤ (a0.size : Int)
      · rw [if_pos c3] at H
        have c3b0 : decide ((wrap64 (x5_1 + (a1.size : Int))) ≤ (a0.size : Int)) = true := decide_eq_true c3
        clear c3
        by_cases c4 : 0 ≤ x5_1
        · rw [if_pos c4] at H
          have c4b0 := eq_true c4
          have c4b1 : decide (0 ≤ x5_1) = true := decide_eq_true c4
          clear c4
          by_cases c5 : x5_1 ≤ (wrap64 (x5_1 + (a1.size : Int)))
          · rw [if_pos c5] at H
            have c5b0 := eq_true c5
            have c5b1 : decide (x5_1 ≤ (wrap64 (x5_1 + (a1.size : Int)))) = true := decide_eq_true c5
            have c6b0 := eq_true (of_decide_eq_true (by first | (with_reducible assumption) | assumption) : (wrap64 (x5_1 + (a1.size : Int))) ≤ (a0.size : Int))
            by_cases c7 : (a0.extract (x5_1 : Int).toNat ((wrap64 (x5_1 + (a1.size : Int))) : Int).toNat).toList = a1.toList
            · rw [if_pos c7] at H
              have c7b0 : ((a0.extract (x5_1 : Int).toNat ((wrap64 (x5_1 + (a1.size : Int))) : Int).toNat).toList == a1.toList) = true := beq_iff_eq.mpr c7
              have c7b1 : ((a0.extract (x5_1 : Int).toNat ((wrap64 (x5_1 + (a1.size : Int))) : Int).toNat).toList != a1.toList) = false := bne_eq_false_iff_eq.mpr c7
              clear c7
              obtain rfl := Option.some.inj H
              go_wp2
              go_ret
              exact ⟨by first | rfl | (simp; done) | (simp [*]; done), by repeat (first | exact Drawn0.refl _ | apply Drawn0.step)⟩
            · rw [if_neg c7] at H
              have c7b0 : ((a0.extract (x5_1 : Int).toNat ((wrap64 (x5_1 + (a1.size : Int))) : Int).toNat).toList == a1.toList) = false := beq_eq_false_iff_ne.mpr c7
              have c7b1 : ((a0.extract (x5_1 : Int).toNat ((wrap64 (x5_1 + (a1.size : Int))) : Int).toNat).toList != a1.toList) = true := bne_iff_ne.mpr c7
              have H' := Aside0.mk H
              clear H
              go_wp2
              go_roundg k1
              case measure => have := HK1.out; omega
              case rel => exact ⟨(wrap64 (x5_1 + 1)), (by first | rfl | (simp; done) | (simp [*]; done)), H', ⟨by have := HK1.out; omega⟩, by repeat (first | exact Drawn0.refl _ | apply Drawn0.step)⟩
          · rw [if_neg c5] at H
            exact absurd H (by simp)
        · rw [if_neg c4] at H
          exact absurd H (by simp)
      · rw [if_neg c3] at H
        have c3b0 : decide ((wrap64 (x5_1 + (a1.size : Int))) ≤ (a0.size : Int)) = false := decide_eq_false c3
        clear c3
        obtain rfl := Option.some.inj H
        go_wp2
        go_ret
        exact ⟨by first | rfl | (simp; done) | (simp [*]; done), by repeat (first | exact Drawn0.refl _ | apply Drawn0.step)⟩

/-! ### abugidalaw24_Case_base: function 14 -/
def abugidalaw24_Case_base.f (a0_0 : ByteArray) (l0_1 : List Int) : Option (ByteArray) := (abugidalaw24_cut.f a0_0).bind fun t275 => (some t275)
set_option maxHeartbeats 8000000 in
set_option maxRecDepth 100000 in
theorem abugidalaw24_Case_base.calls (a0_0 : ByteArray) (A0_1 : Option Addr) (c0_1 : Nat) (l0_1 : List Int) (r : ByteArray) (w : World) (hr0_1 : Kd.C (Kd.int .i64) w A0_1 l0_1.length l0_1) (hc0_1 : l0_1.length ≤ c0_1) (h : abugidalaw24_Case_base.f a0_0 l0_1 = some r) :
    Calls Try.prog 14 #[.agg #[.string a0_0, .slice A0_1 l0_1.length c0_1]] w fun e w' => e = .returned (.string r) ∧ Below w.heap.size w w' := by
  have hu24 := Try.underlying24
  have HR0_1 := Aside0.mk hr0_1
  have HC0_1 := Aside0.mk hc0_1
  clear hr0_1 hc0_1
  have HB := Aside0.mk (Below.refl w.heap.size w)
  have H : ((abugidalaw24_cut.f a0_0).bind fun t275 => (some t275)) = some r := h
  clear h
  replace H := Option.bind_eq_some_iff.mp H
  obtain ⟨t275, A20, H⟩ := H
  try dsimp only at H
  have A2 := Aside0.mk A20
  clear A20
  obtain rfl := Option.some.inj H
  go_enter Try.func14, Try.ntmps14
  go_wp2_with (first | ((with_reducible refine gate_dst (N := 1) rfl ?_); refine box_event ?hg (N := 1) ?hd (cs := #[.string a0_0, .slice A0_1 l0_1.length c0_1]) (t := 24) ?hr ?_; (case hd => rfl); (case hg => rfl); (case hr => first | (go_simp; done) | (go_simp; rfl)); intro gb274 hg w3 hbox hb; have n0_ := Aside0.mk (below_step (by repeat (with_reducible first | exact HB.out | apply below_alloc | apply pw_below_drewN | apply below_drew1)) hb); have n1_ := Aside0.mk (hbox); have n2_ := Aside0.mk ((by rw [hg]; exact (below_size (by repeat (with_reducible first | exact HB.out | apply below_alloc | apply pw_below_drewN | apply below_drew1))) : w.heap.size ≤ gb274)); have n3_ := Aside0.mk ((by rw [hg]; exact (below_size (by repeat (with_reducible first | exact HB.out | apply below_alloc | apply pw_below_drewN | apply below_drew1))) : w.heap.size ≤ gb274)); clear HB; have HB := n0_; have BK274 := n1_; have GW274 := n2_; have GE274 := n3_; clear n0_ n1_ n2_ n3_; clear hb hbox hg; have hcz4_0 : w3.cell? ⟨gb274, 0, none⟩ = some (.string a0_0) := (blk_cell BK274.out 0).trans rfl; have hcz4_1 : w3.cell? ⟨gb274, 1, none⟩ = some (.slice A0_1 l0_1.length c0_1) := (blk_cell BK274.out 1).trans rfl; have hfz4_0 := blk_frozen BK274.out 0; have hfz4_1 := blk_frozen BK274.out 1) | ((with_reducible refine gate_callee (f := 11) rfl ?_); refine goesL_ (some 5) rfl rfl Try.func11 (by kernel_rfl) rfl #[.string a0_0] rfl (by (try simp only [List.map_toArray, List.map_cons, List.map_nil]); first | done | rfl | (simp only [List.length_drop, List.length_take]; rfl)) ?_; (with_reducible refine (abugidalaw24_cut.calls a0_0 t275 _ A2.out).mono ?_); rintro e w5 ⟨rfl, hb⟩; refine ⟨_, rfl, ?_⟩; have n0_ := Aside0.mk (blk_below (g := gb274) (o := .cells #[.string a0_0, .slice A0_1 l0_1.length c0_1] 24 (0, 0)) (by (with_reducible repeat (first | refine blk_drewN ?_ _ | refine blk_drew ?_ | refine blk_alloc ?_ _)); exact BK274.out) hb); have n1_ := Aside0.mk (below_step (by repeat (first | (with_reducible first | exact HB.out | apply below_alloc | apply pw_below_drewN | apply below_drew1 | refine below_set ?_ GE274.out) | exact HB.out)) hb); clear BK274; clear HB; have BK274 := n0_; have HB := n1_; clear n0_ n1_; (try clear hb); (try clear hb2); (try clear hk); (try clear hi)))
  go_ret
  exact ⟨by first | rfl | (simp [errW_none, errW_some] <;> rfl) | (simp [*, errW_none, errW_some] <;> rfl), by repeat (first | (with_reducible first | exact HB.out | apply below_alloc | apply pw_below_drewN | apply below_drew1 | refine below_set ?_ GE274.out) | exact HB.out)⟩

/-! ### abugidalaw24_Case_target: function 15 -/
def abugidalaw24_Case_target.f (k : Nat) (a0_0 : ByteArray) (l0_1 : List Int) : Option (ByteArray) := (abugidalaw24_Case_base.f a0_0 l0_1).bind fun t277 => ((abugidaref24_Made.f k t277 l0_1).bind fun t278 => (some t278))
set_option maxHeartbeats 8000000 in
set_option maxRecDepth 100000 in
theorem abugidalaw24_Case_target.calls (k : Nat) (a0_0 : ByteArray) (A0_1 : Option Addr) (c0_1 : Nat) (l0_1 : List Int) (r : ByteArray) (w : World) (hr0_1 : Kd.C (Kd.int .i64) w A0_1 l0_1.length l0_1) (hc0_1 : l0_1.length ≤ c0_1) (h : abugidalaw24_Case_target.f k a0_0 l0_1 = some r) :
    Calls Try.prog 15 #[.agg #[.string a0_0, .slice A0_1 l0_1.length c0_1]] w fun e w' => e = .returned (.string r) ∧ Below w.heap.size w w' := by
  have hu24 := Try.underlying24
  have HR0_1 := Aside0.mk hr0_1
  have HC0_1 := Aside0.mk hc0_1
  clear hr0_1 hc0_1
  have HB := Aside0.mk (Below.refl w.heap.size w)
  have H : ((abugidalaw24_Case_base.f a0_0 l0_1).bind fun t277 => ((abugidaref24_Made.f k t277 l0_1).bind fun t278 => (some t278))) = some r := h
  clear h
  replace H := Option.bind_eq_some_iff.mp H
  obtain ⟨t277, A20, H⟩ := H
  try dsimp only at H
  have A2 := Aside0.mk A20
  clear A20
  replace H := Option.bind_eq_some_iff.mp H
  obtain ⟨t278, A30, H⟩ := H
  try dsimp only at H
  have A3 := Aside0.mk A30
  clear A30
  obtain rfl := Option.some.inj H
  go_enter Try.func15, Try.ntmps15
  try go_wp2_with (first | ((with_reducible refine gate_dst (N := 1) rfl ?_); refine box_event ?hg (N := 1) ?hd (cs := #[.string a0_0, .slice A0_1 l0_1.length c0_1]) (t := 24) ?hr ?_; (case hd => rfl); (case hg => rfl); (case hr => first | (go_simp; done) | (go_simp; rfl)); intro gb276 hg w4 hbox hb; have n0_ := Aside0.mk (below_step (by repeat (with_reducible first | exact HB.out | apply below_alloc | apply pw_below_drewN | apply below_drew1)) hb); have n1_ := Aside0.mk (hbox); have n2_ := Aside0.mk ((by rw [hg]; exact (below_size (by repeat (with_reducible first | exact HB.out | apply below_alloc | apply pw_below_drewN | apply below_drew1))) : w.heap.size ≤ gb276)); have n3_ := Aside0.mk ((by rw [hg]; exact (below_size (by repeat (with_reducible first | exact HB.out | apply below_alloc | apply pw_below_drewN | apply below_drew1))) : w.heap.size ≤ gb276)); clear HB; have HB := n0_; have BK276 := n1_; have GW276 := n2_; have GE276 := n3_; clear n0_ n1_ n2_ n3_; clear hb hbox hg))
  have n0_ := Aside0.mk (blk_drew BK276.out)
  have n1_ := Aside0.mk (below_drew1 HB.out)
  clear BK276
  clear HB
  have BK276 := n0_
  have HB := n1_
  clear n0_ n1_
  refine start_ (n := 6) (S := fun w' => w'.cell? ⟨gb276, 0, none⟩ = some (.string a0_0) ∧ w'.cell? ⟨gb276, 1, none⟩ = some (.slice A0_1 l0_1.length c0_1)) (ds := []) #[false, false, false, false, false, false] (by kernel_rfl) rfl rfl ⟨(blk_cell BK276.out 0).trans rfl, (blk_cell BK276.out 1).trans rfl⟩ (fun hHeld => ?_)
  generalize w4.drew = w5 at BK276 HB hHeld ⊢
  refine pure_ (i := 2) (N := some 5) (v := ?_) (a' := ?_) #[false, false, true, false, false, false] rfl rfl (by kernel_rfl) (fun _ _ _ h => h) (Or.inl ⟨by rfl, ?_⟩) ?_ ?_
  rotate_left
  · intro w'
    go_simp
    with_reducible rfl
  rotate_left
  · simp only [Act.put, List.setIfInBounds_toArray, List.set_cons_zero, List.set_cons_succ, i64_w, i32_w]
    rfl
  refine take_ (i := 0) (N := some 3) (v := ?_) (a' := ?_) #[true, false, true, false, false, false] rfl rfl (by kernel_rfl) (fun _ _ _ h => h) (Or.inl ⟨by rfl, ?_⟩) hHeld ?_ ?_
  rotate_left
  · rintro w' ⟨s0, s1⟩
    go_simp
    with_reducible rfl
  rotate_left
  · simp only [Act.put, List.setIfInBounds_toArray, List.set_cons_zero, List.set_cons_succ, i64_w, i32_w]
    rfl
  refine take_ (i := 3) (N := some 6) (v := ?_) (a' := ?_) #[true, false, true, true, false, false] rfl rfl (by kernel_rfl) (fun _ _ _ h => h) (Or.inl ⟨by rfl, ?_⟩) hHeld ?_ ?_
  rotate_left
  · rintro w' ⟨s0, s1⟩
    go_simp
    with_reducible rfl
  rotate_left
  · simp only [Act.put, List.setIfInBounds_toArray, List.set_cons_zero, List.set_cons_succ, i64_w, i32_w]
    rfl
  refine one_ (i := 1) (N := some 4) #[true, true, true, true, false, false] rfl rfl (by kernel_rfl) (by decide) (fun K hK => ?_)
  refine goes_ Try.func14 (by kernel_rfl) rfl #[.agg #[.string a0_0, .slice A0_1 l0_1.length c0_1]] (by rfl) rfl rfl (by (try simp only [List.map_toArray, List.map_cons, List.map_nil]); first | done | rfl | (simp only [List.length_drop, List.length_take]; rfl)) ?_
  with_reducible refine (abugidalaw24_Case_base.calls a0_0 _ _ l0_1 t277 _ ?side1 ?side2 A2.out).mono ?_
  (case side1 => repeat (first | exact (Kd.C_below HR0_1.out HB.out) | (with_reducible refine Kd.C_alloc ?_ _) | (with_reducible refine Kd.C_drewN ?_ _) | (with_reducible refine Kd.C_drew ?_)))
  (case side2 => exact HC0_1.out)
  rintro e w6 ⟨rfl, hb⟩
  refine ⟨_, rfl, ?_⟩
  have n0_ := Aside0.mk (blk_below (g := gb276) (o := .cells #[.string a0_0, .slice A0_1 l0_1.length c0_1] 24 (0, 0)) (by (with_reducible repeat (first | refine blk_drewN ?_ _ | refine blk_drew ?_ | refine blk_alloc ?_ _)); exact BK276.out) hb)
  have n1_ := Aside0.mk (below_step (by repeat (first | (with_reducible first | exact HB.out | apply below_alloc | apply pw_below_drewN | apply below_drew1 | refine below_set ?_ GE276.out) | exact HB.out)) hb)
  clear BK276
  clear HB
  have BK276 := n0_
  have HB := n1_
  clear n0_ n1_
  (try clear hb)
  (try clear hb2)
  (try clear hk)
  (try clear hi)
  refine hK.out _ _ ⟨(blk_cell BK276.out 0).trans rfl, (blk_cell BK276.out 1).trans rfl⟩ (fun hHeld => ?_)
  clear hK K
  refine norm_ (a' := ?_) ?_ ?_
  rotate_left
  · show Act.put _ (some 4) _ = _
    simp only [Act.put, List.setIfInBounds_toArray, List.set_cons_zero, List.set_cons_succ, i64_w, i32_w]
    rfl
  refine one_ (i := 4) (N := some 7) #[true, true, true, true, true, false] rfl rfl (by kernel_rfl) (by decide) (fun K hK => ?_)
  refine goes_ Try.func34 (by kernel_rfl) rfl #[.string t277, .slice A0_1 l0_1.length c0_1] (by rfl) rfl rfl (by (try simp only [List.map_toArray, List.map_cons, List.map_nil]); first | done | rfl | (simp only [List.length_drop, List.length_take]; rfl)) ?_
  with_reducible refine (abugidaref24_Made.calls k t277 _ _ l0_1 t278 _ ?side1 ?side2 A3.out).mono ?_
  (case side1 => repeat (first | exact (Kd.C_below HR0_1.out HB.out) | (with_reducible refine Kd.C_alloc ?_ _) | (with_reducible refine Kd.C_drewN ?_ _) | (with_reducible refine Kd.C_drew ?_)))
  (case side2 => exact HC0_1.out)
  rintro e w7 ⟨rfl, hb⟩
  refine ⟨_, rfl, ?_⟩
  have n0_ := Aside0.mk (blk_below (g := gb276) (o := .cells #[.string a0_0, .slice A0_1 l0_1.length c0_1] 24 (0, 0)) (by (with_reducible repeat (first | refine blk_drewN ?_ _ | refine blk_drew ?_ | refine blk_alloc ?_ _)); exact BK276.out) hb)
  have n1_ := Aside0.mk (below_step (by repeat (first | (with_reducible first | exact HB.out | apply below_alloc | apply pw_below_drewN | apply below_drew1 | refine below_set ?_ GE276.out) | exact HB.out)) hb)
  clear BK276
  clear HB
  have BK276 := n0_
  have HB := n1_
  clear n0_ n1_
  (try clear hb)
  (try clear hb2)
  (try clear hk)
  (try clear hi)
  refine hK.out _ _ ⟨(blk_cell BK276.out 0).trans rfl, (blk_cell BK276.out 1).trans rfl⟩ (fun hHeld => ?_)
  clear hK K
  refine norm_ (a' := ?_) ?_ ?_
  rotate_left
  · show Act.put _ (some 7) _ = _
    simp only [Act.put, List.setIfInBounds_toArray, List.set_cons_zero, List.set_cons_succ, i64_w, i32_w]
    rfl
  refine pure_ (i := 5) (N := some 2) (v := ?_) (a' := ?_) #[true, true, true, true, true, true] rfl rfl (by kernel_rfl) (fun _ _ _ h => h) (Or.inl ⟨by rfl, ?_⟩) ?_ ?_
  rotate_left
  · intro w'
    go_simp
    with_reducible rfl
  rotate_left
  · simp only [Act.put, List.setIfInBounds_toArray, List.set_cons_zero, List.set_cons_succ, i64_w, i32_w]
    rfl
  refine done_ (by kernel_rfl) ?_
  try go_wp2
  go_ret
  exact ⟨by first | rfl | (simp [errW_none, errW_some] <;> rfl) | (simp [*, errW_none, errW_some] <;> rfl), by repeat (first | (with_reducible first | exact HB.out | apply below_alloc | apply pw_below_drewN | apply below_drew1 | refine below_set ?_ GE276.out) | exact HB.out)⟩

end Go.Proofs.Ytjjpiedcdcdejaa.Pb
