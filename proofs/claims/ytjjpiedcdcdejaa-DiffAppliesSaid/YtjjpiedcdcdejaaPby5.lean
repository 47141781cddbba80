-- Printed for this claim by its own gprint.py, over contracts proved by hand; not trusted: Lean checks it.
import Derived.Test.YtjjpiedcdcdejaaDfS
namespace Go.Proofs.Ytjjpiedcdcdejaa.Pb
open Go.Proofs.Ytjjpiedcdcdejaa.Df (diff_Make.f abugidalaw24_sanity.f abugidalaw24_sanity.calls diff_Make.calls diff_Apply.f diff_Apply.calls)
open Go.RowKit Go.Proofs.Ytjjpiedcdcdejaa.Gw Go.Proofs.YtjjpiedcdcdejaaW.PrintWords Go.Proofs.YtjjpiedcdcdejaaW.PrintLast Go.Proofs.YtjjpiedcdcdejaaW.PrintMore
open Go.Proofs.Ytjjpiedcdcdejaa.Gw
attribute [local go_sem] max2_int min2_int max_two min_two max_three min_three max_four min_four   -- for this text's walks alone
set_option linter.unusedVariables false
set_option linter.unusedSimpArgs false

/-! ### abugidalaw24_DiffApplies: function 4 -/
mutual
def abugidalaw24_DiffApplies.l0 : Nat → ByteArray → Bool → List ByteArray → Int → Int → ByteArray → List Int → Option (Bool)
  | 0, _, _, _, _, _, _, _ => none
  | k + 1, x0, x7, x62, x63, x64, x260000, x260001 => if x64 < x63 then (if 0 ≤ x64 then (if x64 < (x62.length : Int) then ((abugidalaw24_Case_base.f x260000 x260001).bind fun t270 => ((abugidalaw24_Case_base.f x260000 x260001).bind fun t271 => ((abugidalaw24_Case_base.f x260000 x260001).bind fun t272 => (if 0 ≤ (wrap64 ((t272.size : Int) / 2)) then (if (wrap64 ((t272.size : Int) / 2)) ≤ (t271.size : Int) then ((some (([t270, x0, t271.extract 0 ((wrap64 ((t272.size : Int) / 2)) : Int).toNat] : List ByteArray) : List ByteArray)).bind fun y273 => (abugidalaw24_DiffApplies.l1 k x0 x7 (rdOf ByteArray.empty x62 x64) x62 x63 x64 y273 (y273.length : Int) 0 x260000 x260001)) else (none)) else (none))))) else (none)) else (none)) else (some x7)
def abugidalaw24_DiffApplies.l1 : Nat → ByteArray → Bool → ByteArray → List ByteArray → Int → Int → List ByteArray → Int → Int → ByteArray → List Int → Option (Bool)
  | 0, _, _, _, _, _, _, _, _, _, _, _ => none
  | k + 1, x0, x7, x13, x62, x63, x64, x78, x79, x80, x260000, x260001 => if x80 < x79 then (if 0 ≤ x80 then (if x80 < (x78.length : Int) then ((diff_Apply.f k (rdOf ByteArray.empty x78 x80) x13).bind fun bt277 => ((abugidaref24_Apply.f k (rdOf ByteArray.empty x78 x80) x13).bind fun bt279 => (if bt277.1.toList = bt279.1.toList then (if bt277.2 = bt279.2 then (abugidalaw24_DiffApplies.l1 k x0 x7 x13 x62 x63 x64 x78 x79 (wrap64 (x80 + 1)) x260000 x260001) else (some false)) else (some false)))) else (none)) else (none)) else (abugidalaw24_DiffApplies.l0 k x0 x7 x62 x63 (wrap64 (x64 + 1)) x260000 x260001)
end
def abugidalaw24_DiffApplies.f (k : Nat) (a0 : ByteArray) (a1_0 : ByteArray) (l1_1 : List Int) (a2_0 : Int) (a2_1 : Int) (a2_2 : ByteArray) : Option (Bool) := (abugidalaw24_sanity.f).bind fun t261 => ((abugidalaw24_cut.f a0).bind fun t262 => ((abugidalaw24_Case_base.f a1_0 l1_1).bind fun t263 => ((abugidalaw24_Case_target.f k a1_0 l1_1).bind fun t264 => ((abugidaref24_Make.f k t263 t264).bind fun t265 => (if (wrap64 ((t265.size : Int) + 1)) = 0 then (none) else (if 0 ≤ (Int.tmod (wrap64 (a2_0)) (wrap64 ((t265.size : Int) + 1))) then (if (Int.tmod (wrap64 (a2_0)) (wrap64 ((t265.size : Int) + 1))) ≤ (t265.size : Int) then (if 0 ≤ (mn (a2_2.size : Int) 8) then (if (mn (a2_2.size : Int) 8) ≤ (a2_2.size : Int) then (if (t265.extract 0 ((Int.tmod (wrap64 (a2_0)) (wrap64 ((t265.size : Int) + 1))) : Int).toNat).size + (a2_2.extract 0 ((mn (a2_2.size : Int) 8) : Int).toNat).size ≤ 9223372036854775807 then (if 0 ≤ (mn (t265.size : Int) (wrap64 ((Int.tmod (wrap64 (a2_0)) (wrap64 ((t265.size : Int) + 1))) + (Int.tmod (wrap64 (a2_1)) 4)))) then (if (mn (t265.size : Int) (wrap64 ((Int.tmod (wrap64 (a2_0)) (wrap64 ((t265.size : Int) + 1))) + (Int.tmod (wrap64 (a2_1)) 4)))) ≤ (t265.size : Int) then (if ((t265.extract 0 ((Int.tmod (wrap64 (a2_0)) (wrap64 ((t265.size : Int) + 1))) : Int).toNat) ++ (a2_2.extract 0 ((mn (a2_2.size : Int) 8) : Int).toNat)).size + (t265.extract ((mn (t265.size : Int) (wrap64 ((Int.tmod (wrap64 (a2_0)) (wrap64 ((t265.size : Int) + 1))) + (Int.tmod (wrap64 (a2_1)) 4)))) : Int).toNat t265.size).size ≤ 9223372036854775807 then ((some (([t262, t265, ((t265.extract 0 ((Int.tmod (wrap64 (a2_0)) (wrap64 ((t265.size : Int) + 1))) : Int).toNat) ++ (a2_2.extract 0 ((mn (a2_2.size : Int) 8) : Int).toNat)) ++ (t265.extract ((mn (t265.size : Int) (wrap64 ((Int.tmod (wrap64 (a2_0)) (wrap64 ((t265.size : Int) + 1))) + (Int.tmod (wrap64 (a2_1)) 4)))) : Int).toNat t265.size)] : List ByteArray) : List ByteArray)).bind fun y266 => (abugidalaw24_DiffApplies.l0 k t262 t261 y266 (y266.length : Int) 0 a1_0 l1_1)) else (none)) else (none)) else (none)) else (none)) else (none)) else (none)) else (none)) else (none)))))))
def abugidalaw24_DiffApplies.T6 : Bool × List (List Nat × List Nat) := (true, [([], []), ([], []), ([0, 1], [0, 1]), ([], []), ([3], [3]), ([], []), ([5], [5]), ([6], [6]), ([7], [7]), ([4, 8], [4, 8]), ([2, 9], [2, 9]), ([], []), ([], []), ([11, 12], [11, 12]), ([10, 13], [10, 13]), ([14, 0, 1, 2, 3, 4, 5, 6, 7, 8, 9, 10, 11, 12, 13, 14], [14])])
def abugidalaw24_DiffApplies.B6 : List Nat := [0, 0, 3, 0, 8, 0, 32, 96, 224, 504, 1023, 0, 0, 6144, 16383, 32767]
theorem abugidalaw24_DiffApplies.tab6 : rtab .any (opsOf Try.f4 6) = abugidalaw24_DiffApplies.T6 := by kernel_rfl
theorem abugidalaw24_DiffApplies.bits6 : waitsOk abugidalaw24_DiffApplies.T6.2 abugidalaw24_DiffApplies.B6 = true := by kernel_rfl
def abugidalaw24_DiffApplies.T10 : Bool × List (List Nat × List Nat) := (true, [([], []), ([0], [0]), ([], []), ([], []), ([3, 1], [3]), ([], []), ([5, 4], [5]), ([6], [6]), ([7], [7]), ([4, 8], [4, 8]), ([1, 2, 9], [1, 2, 9]), ([10], [10]), ([], [])])
def abugidalaw24_DiffApplies.B10 : List Nat := [0, 1, 0, 0, 11, 0, 59, 123, 251, 507, 1023, 2047, 0]
theorem abugidalaw24_DiffApplies.tab10 : rtab .any (opsOf Try.f4 10) = abugidalaw24_DiffApplies.T10 := by kernel_rfl
theorem abugidalaw24_DiffApplies.bits10 : waitsOk abugidalaw24_DiffApplies.T10.2 abugidalaw24_DiffApplies.B10 = true := by kernel_rfl
set_option maxHeartbeats 8000000 in
set_option maxRecDepth 100000 in
theorem abugidalaw24_DiffApplies.calls (k : Nat) (a0 : ByteArray) (a1_0 : ByteArray) (A1_1 : Option Addr) (c1_1 : Nat) (l1_1 : List Int) (a2_0 : Int) (a2_1 : Int) (a2_2 : ByteArray) (r : Bool) (w : World) (hr1_1 : Kd.C (Kd.int .i64) w A1_1 l1_1.length l1_1) (hc1_1 : l1_1.length ≤ c1_1) (h : abugidalaw24_DiffApplies.f k a0 a1_0 l1_1 a2_0 a2_1 a2_2 = some r) :
    Calls Try.prog 4 #[.string a0, .agg #[.string a1_0, .slice A1_1 l1_1.length c1_1], .agg #[.int .u8 a2_0, .int .u8 a2_1, .string a2_2]] w fun e w' => e = .returned (.bool r) ∧ Below w.heap.size w w' := by
  have hu24 := Try.underlying24
  have hu31 := Try.underlying31
  have HR1_1 := Aside0.mk hr1_1
  have HC1_1 := Aside0.mk hc1_1
  clear hr1_1 hc1_1
  have HB := Aside0.mk (Below.refl w.heap.size w)
  have H : ((abugidalaw24_sanity.f).bind fun t261 => ((abugidalaw24_cut.f a0).bind fun t262 => ((abugidalaw24_Case_base.f a1_0 l1_1).bind fun t263 => ((abugidalaw24_Case_target.f k a1_0 l1_1).bind fun t264 => ((abugidaref24_Make.f k t263 t264).bind fun t265 => (if (wrap64 ((t265.size : Int) + 1)) = 0 then (none) else (if 0 ≤ (Int.tmod (wrap64 (a2_0)) (wrap64 ((t265.size : Int) + 1))) then (if (Int.tmod (wrap64 (a2_0)) (wrap64 ((t265.size : Int) + 1))) ≤ (t265.size : Int) then (if 0 ≤ (mn (a2_2.size : Int) 8) then (if (mn (a2_2.size : Int) 8) ≤ (a2_2.size : Int) then (if (t265.extract 0 ((Int.tmod (wrap64 (a2_0)) (wrap64 ((t265.size : Int) + 1))) : Int).toNat).size + (a2_2.extract 0 ((mn (a2_2.size : Int) 8) : Int).toNat).size ≤ 9223372036854775807 then (if 0 ≤ (mn (t265.size : Int) (wrap64 ((Int.tmod (wrap64 (a2_0)) (wrap64 ((t265.size : Int) + 1))) + (Int.tmod (wrap64 (a2_1)) 4)))) then (if (mn (t265.size : Int) (wrap64 ((Int.tmod (wrap64 (a2_0)) (wrap64 ((t265.size : Int) + 1))) + (Int.tmod (wrap64 (a2_1)) 4)))) ≤ (t265.size : Int) then (if ((t265.extract 0 ((Int.tmod (wrap64 (a2_0)) (wrap64 ((t265.size : Int) + 1))) : Int).toNat) ++ (a2_2.extract 0 ((mn (a2_2.size : Int) 8) : Int).toNat)).size + (t265.extract ((mn (t265.size : Int) (wrap64 ((Int.tmod (wrap64 (a2_0)) (wrap64 ((t265.size : Int) + 1))) + (Int.tmod (wrap64 (a2_1)) 4)))) : Int).toNat t265.size).size ≤ 9223372036854775807 then ((some (([t262, t265, ((t265.extract 0 ((Int.tmod (wrap64 (a2_0)) (wrap64 ((t265.size : Int) + 1))) : Int).toNat) ++ (a2_2.extract 0 ((mn (a2_2.size : Int) 8) : Int).toNat)) ++ (t265.extract ((mn (t265.size : Int) (wrap64 ((Int.tmod (wrap64 (a2_0)) (wrap64 ((t265.size : Int) + 1))) + (Int.tmod (wrap64 (a2_1)) 4)))) : Int).toNat t265.size)] : List ByteArray) : List ByteArray)).bind fun y266 => (abugidalaw24_DiffApplies.l0 k t262 t261 y266 (y266.length : Int) 0 a1_0 l1_1)) else (none)) else (none)) else (none)) else (none)) else (none)) else (none)) else (none)) else (none)))))))) = some r := h
  clear h
  replace H := Option.bind_eq_some_iff.mp H
  obtain ⟨t261, A40, H⟩ := H
  try dsimp only at H
  have A4 := Aside0.mk A40
  clear A40
  replace H := Option.bind_eq_some_iff.mp H
  obtain ⟨t262, A50, H⟩ := H
  try dsimp only at H
  have A5 := Aside0.mk A50
  clear A50
  replace H := Option.bind_eq_some_iff.mp H
  obtain ⟨t263, A60, H⟩ := H
  try dsimp only at H
  have A6 := Aside0.mk A60
  clear A60
  replace H := Option.bind_eq_some_iff.mp H
  obtain ⟨t264, A70, H⟩ := H
  try dsimp only at H
  have A7 := Aside0.mk A70
  clear A70
  replace H := Option.bind_eq_some_iff.mp H
  obtain ⟨t265, A80, H⟩ := H
  try dsimp only at H
  have A8 := Aside0.mk A80
  clear A80
  by_cases c9 : (wrap64 ((t265.size : Int) + 1)) = 0
  · rw [if_pos c9] at H
    exact absurd H (by simp)
  · rw [if_neg c9] at H
    have c9b0 : ((wrap64 ((t265.size : Int) + 1)) == 0) = false := beq_eq_false_iff_ne.mpr c9
    have c9b1 : ((wrap64 ((t265.size : Int) + 1)) != 0) = true := bne_iff_ne.mpr c9
    obtain ⟨ji10, hji10⟩ : ∃ j_ : Int, (mn (t265.size : Int) (wrap64 ((Int.tmod (wrap64 (a2_0)) (wrap64 ((t265.size : Int) + 1))) + (Int.tmod (wrap64 (a2_1)) 4)))) = j_ := ⟨_, rfl⟩
    replace H : (if 0 ≤ (Int.tmod (wrap64 (a2_0)) (wrap64 ((t265.size : Int) + 1))) then (if (Int.tmod (wrap64 (a2_0)) (wrap64 ((t265.size : Int) + 1))) ≤ (t265.size : Int) then (if 0 ≤ (mn (a2_2.size : Int) 8) then (if (mn (a2_2.size : Int) 8) ≤ (a2_2.size : Int) then (if (t265.extract 0 ((Int.tmod (wrap64 (a2_0)) (wrap64 ((t265.size : Int) + 1))) : Int).toNat).size + (a2_2.extract 0 ((mn (a2_2.size : Int) 8) : Int).toNat).size ≤ 9223372036854775807 then (if 0 ≤ (ji10) then (if (ji10) ≤ (t265.size : Int) then (if ((t265.extract 0 ((Int.tmod (wrap64 (a2_0)) (wrap64 ((t265.size : Int) + 1))) : Int).toNat) ++ (a2_2.extract 0 ((mn (a2_2.size : Int) 8) : Int).toNat)).size + (t265.extract ((ji10) : Int).toNat t265.size).size ≤ 9223372036854775807 then ((some (([t262, t265, ((t265.extract 0 ((Int.tmod (wrap64 (a2_0)) (wrap64 ((t265.size : Int) + 1))) : Int).toNat) ++ (a2_2.extract 0 ((mn (a2_2.size : Int) 8) : Int).toNat)) ++ (t265.extract ((ji10) : Int).toNat t265.size)] : List ByteArray) : List ByteArray)).bind fun y266 => (abugidalaw24_DiffApplies.l0 k t262 t261 y266 (y266.length : Int) 0 a1_0 l1_1)) else (none)) else (none)) else (none)) else (none)) else (none)) else (none)) else (none)) else (none)) = some r := by first | (rw [hji10] at H; exact H) | (simp only [hji10] at H ⊢; exact H)
    try rw [hji10] at c9b0
    try rw [hji10] at c9b1
    (try rw [hji10] at A4)
    (try rw [hji10] at A5)
    (try rw [hji10] at A6)
    (try rw [hji10] at A7)
    (try rw [hji10] at A8)
    have hji10_ : (if (wrap64 ((Int.tmod (wrap64 (a2_0)) (wrap64 ((t265.size : Int) + 1))) + (Int.tmod (wrap64 (a2_1)) 4))) < (t265.size : Int) then (wrap64 ((Int.tmod (wrap64 (a2_0)) (wrap64 ((t265.size : Int) + 1))) + (Int.tmod (wrap64 (a2_1)) 4))) else (t265.size : Int)) = ji10 := hji10
    obtain ⟨ji11, hji11⟩ : ∃ j_ : Int, (Int.tmod (wrap64 (a2_0)) (wrap64 ((t265.size : Int) + 1))) = j_ := ⟨_, rfl⟩
    replace H : (if 0 ≤ (ji11) then (if (ji11) ≤ (t265.size : Int) then (if 0 ≤ (mn (a2_2.size : Int) 8) then (if (mn (a2_2.size : Int) 8) ≤ (a2_2.size : Int) then (if (t265.extract 0 ((ji11) : Int).toNat).size + (a2_2.extract 0 ((mn (a2_2.size : Int) 8) : Int).toNat).size ≤ 9223372036854775807 then (if 0 ≤ (ji10) then (if (ji10) ≤ (t265.size : Int) then (if ((t265.extract 0 ((ji11) : Int).toNat) ++ (a2_2.extract 0 ((mn (a2_2.size : Int) 8) : Int).toNat)).size + (t265.extract ((ji10) : Int).toNat t265.size).size ≤ 9223372036854775807 then ((some (([t262, t265, ((t265.extract 0 ((ji11) : Int).toNat) ++ (a2_2.extract 0 ((mn (a2_2.size : Int) 8) : Int).toNat)) ++ (t265.extract ((ji10) : Int).toNat t265.size)] : List ByteArray) : List ByteArray)).bind fun y266 => (abugidalaw24_DiffApplies.l0 k t262 t261 y266 (y266.length : Int) 0 a1_0 l1_1)) else (none)) else (none)) else (none)) else (none)) else (none)) else (none)) else (none)) else (none)) = some r := by first | (rw [hji11] at H; exact H) | (simp only [hji11] at H ⊢; exact H)
    try rw [hji11] at c9b0
    try rw [hji11] at c9b1
    try rw [hji11] at hji10_
    (try rw [hji11] at A4)
    (try rw [hji11] at A5)
    (try rw [hji11] at A6)
    (try rw [hji11] at A7)
    (try rw [hji11] at A8)
    by_cases c12 : 0 ≤ (ji11)
    · rw [if_pos c12] at H
      have c12b0 := eq_true c12
      have c12b1 : decide (0 ≤ (ji11)) = true := decide_eq_true c12
      clear c12
      by_cases c13 : (ji11) ≤ (t265.size : Int)
      · rw [if_pos c13] at H
        have c13b0 := eq_true c13
        have c13b1 : decide ((ji11) ≤ (t265.size : Int)) = true := decide_eq_true c13
        clear c13
        obtain ⟨ji14, hji14⟩ : ∃ j_ : Int, (mn (a2_2.size : Int) 8) = j_ := ⟨_, rfl⟩
        replace H : (if 0 ≤ (ji14) then (if (ji14) ≤ (a2_2.size : Int) then (if (t265.extract 0 ((ji11) : Int).toNat).size + (a2_2.extract 0 ((ji14) : Int).toNat).size ≤ 9223372036854775807 then (if 0 ≤ (ji10) then (if (ji10) ≤ (t265.size : Int) then (if ((t265.extract 0 ((ji11) : Int).toNat) ++ (a2_2.extract 0 ((ji14) : Int).toNat)).size + (t265.extract ((ji10) : Int).toNat t265.size).size ≤ 9223372036854775807 then ((some (([t262, t265, ((t265.extract 0 ((ji11) : Int).toNat) ++ (a2_2.extract 0 ((ji14) : Int).toNat)) ++ (t265.extract ((ji10) : Int).toNat t265.size)] : List ByteArray) : List ByteArray)).bind fun y266 => (abugidalaw24_DiffApplies.l0 k t262 t261 y266 (y266.length : Int) 0 a1_0 l1_1)) else (none)) else (none)) else (none)) else (none)) else (none)) else (none)) = some r := by first | (rw [hji14] at H; exact H) | (simp only [hji14] at H ⊢; exact H)
        try rw [hji14] at c9b0
        try rw [hji14] at c9b1
        try rw [hji14] at hji10_
        (try rw [hji14] at A4)
        (try rw [hji14] at A5)
        (try rw [hji14] at A6)
        (try rw [hji14] at A7)
        (try rw [hji14] at A8)
        (try (have hji14h : ji14 ≤ 8 := by (rw [← hji14]; unfold mn; (repeat' split) <;> omega)))
        (try (have hji14g : ji14 ≤ 64 := by omega))
        (try (have hji14l : 0 ≤ ji14 := by (rw [← hji14]; unfold mn; (repeat' split) <;> omega)))
        (try (have hji14m : 0 ≤ ji14 := by omega))
        have hji14_ : (if 8 < (a2_2.size : Int) then 8 else (a2_2.size : Int)) = ji14 := hji14
        by_cases c15 : 0 ≤ (ji14)
        · rw [if_pos c15] at H
          have c15b0 := eq_true c15
          have c15b1 : decide (0 ≤ (ji14)) = true := decide_eq_true c15
          clear c15
          by_cases c16 : (ji14) ≤ (a2_2.size : Int)
          · rw [if_pos c16] at H
            have c16b0 := eq_true c16
            have c16b1 : decide ((ji14) ≤ (a2_2.size : Int)) = true := decide_eq_true c16
            clear c16
            by_cases c17 : (t265.extract 0 ((ji11) : Int).toNat).size + (a2_2.extract 0 ((ji14) : Int).toNat).size ≤ 9223372036854775807
            · rw [if_pos c17] at H
              have c17b0 := eq_true c17
              have c17b1 : decide ((t265.extract 0 ((ji11) : Int).toNat).size + (a2_2.extract 0 ((ji14) : Int).toNat).size ≤ 9223372036854775807) = true := decide_eq_true c17
              try have c17b2 : (9223372036854775807 < (t265.extract 0 ((ji11) : Int).toNat).size + (a2_2.extract 0 ((ji14) : Int).toNat).size) = False := eq_false (Nat.not_lt.2 c17)
              try (have c17x : (((ji11) : Int).toNat) + (((ji14) : Int).toNat) ≤ 9223372036854775807 := (by have h_ := c17; (try simp only [ByteArray.size_append] at h_); simp only [ByteArray.size_extract] at h_; (try have := of_eq_true c12b0); (try have := of_eq_true c13b0); (try have := of_eq_true c15b0); (try have := of_eq_true c16b0); (try have := of_eq_true c17b0); omega); have c17x1 := eq_true c17x; have c17x2 := eq_false (Nat.not_lt.2 c17x); clear c17x)
              by_cases c18 : 0 ≤ (ji10)
              · rw [if_pos c18] at H
                have c18b0 := eq_true c18
                have c18b1 : decide (0 ≤ (ji10)) = true := decide_eq_true c18
                clear c18
                by_cases c19 : (ji10) ≤ (t265.size : Int)
                · rw [if_pos c19] at H
                  have c19b0 := eq_true c19
                  have c19b1 : decide ((ji10) ≤ (t265.size : Int)) = true := decide_eq_true c19
                  clear c19
                  by_cases c20 : ((t265.extract 0 ((ji11) : Int).toNat) ++ (a2_2.extract 0 ((ji14) : Int).toNat)).size + (t265.extract ((ji10) : Int).toNat t265.size).size ≤ 9223372036854775807
                  · rw [if_pos c20] at H
                    have c20b0 := eq_true c20
                    have c20b1 : decide (((t265.extract 0 ((ji11) : Int).toNat) ++ (a2_2.extract 0 ((ji14) : Int).toNat)).size + (t265.extract ((ji10) : Int).toNat t265.size).size ≤ 9223372036854775807) = true := decide_eq_true c20
                    try have c20b2 : (9223372036854775807 < ((t265.extract 0 ((ji11) : Int).toNat) ++ (a2_2.extract 0 ((ji14) : Int).toNat)).size + (t265.extract ((ji10) : Int).toNat t265.size).size) = False := eq_false (Nat.not_lt.2 c20)
                    try (have c20e := c20; simp only [ByteArray.size_append] at c20e; have c20e1 := eq_true c20e; have c20e2 := eq_false (Nat.not_lt.2 c20e); clear c20e)
                    try (have c20x : ((((ji11) : Int).toNat) + (((ji14) : Int).toNat)) + (t265.size - ((ji10) : Int).toNat) ≤ 9223372036854775807 := (by have h_ := c20; (try simp only [ByteArray.size_append] at h_); simp only [ByteArray.size_extract] at h_; (try have := of_eq_true c12b0); (try have := of_eq_true c13b0); (try have := of_eq_true c15b0); (try have := of_eq_true c16b0); (try have := of_eq_true c17b0); (try have := of_eq_true c18b0); (try have := of_eq_true c19b0); (try have := of_eq_true c20b0); omega); have c20x1 := eq_true c20x; have c20x2 := eq_false (Nat.not_lt.2 c20x); clear c20x)
                    obtain ⟨y266, hy266⟩ : ∃ y_ : List ByteArray, y_ = (([t262, t265, ((t265.extract 0 ((ji11) : Int).toNat) ++ (a2_2.extract 0 ((ji14) : Int).toNat)) ++ (t265.extract ((ji10) : Int).toNat t265.size)] : List ByteArray)) := ⟨_, rfl⟩
                    replace H : (abugidalaw24_DiffApplies.l0 k t262 t261 y266 (y266.length : Int) 0 a1_0 l1_1) = some r := by first | (rw [hy266]; with_reducible exact H) | (have H2_ := (Option.bind_some _ _).symm.trans H; rw [hy266]; with_reducible exact H2_) | (have H2_ := (Option.bind_some _ _).symm.trans H; with_reducible exact H2_) | with_reducible exact H | (rw [hy266]; exact H) | exact H
                    have Ny266 := Aside0.mk hy266
                    clear hy266
                    have H' := Aside0.mk H
                    clear H
                    go_enter Try.func4, Try.ntmps4
                    try go_wp2_with (first | ((with_reducible refine gate_dst (N := 4) rfl ?_); refine box_event ?hg (N := 4) ?hd (cs := #[.string a1_0, .slice A1_1 l1_1.length c1_1]) (t := 24) ?hr ?_; (case hd => rfl); (case hg => rfl); (case hr => first | (go_simp; done) | (go_simp; rfl)); intro gb259 hg w21 hbox hb; have n0_ := Aside0.mk (below_step (by repeat (with_reducible first | exact HB.out | apply below_alloc | apply pw_below_drewN | apply below_drew1)) hb); have n1_ := Aside0.mk (hbox); have n2_ := Aside0.mk ((by rw [hg]; exact (below_size (by repeat (with_reducible first | exact HB.out | apply below_alloc | apply pw_below_drewN | apply below_drew1))) : w.heap.size ≤ gb259)); have n3_ := Aside0.mk ((by rw [hg]; exact (below_size (by repeat (with_reducible first | exact HB.out | apply below_alloc | apply pw_below_drewN | apply below_drew1))) : w.heap.size ≤ gb259)); clear HB; have HB := n0_; have BK259 := n1_; have GW259 := n2_; have GE259 := n3_; clear n0_ n1_ n2_ n3_; clear hb hbox hg) | ((with_reducible refine gate_dst (N := 5) rfl ?_); refine box_event ?hg (N := 5) ?hd (cs := #[.int .u8 a2_0, .int .u8 a2_1, .string a2_2]) (t := 31) ?hr ?_; (case hd => rfl); (case hg => rfl); (case hr => first | (go_simp; done) | (go_simp; rfl)); intro gb260 hg w22 hbox hb; have n0_ := Aside0.mk (blk_below (g := gb259) (o := .cells #[.string a1_0, .slice A1_1 l1_1.length c1_1] 24 (0, 0)) (by (with_reducible repeat (first | refine blk_drewN ?_ _ | refine blk_drew ?_ | refine blk_alloc ?_ _)); exact BK259.out) hb); have n1_ := Aside0.mk (below_step (by repeat (first | (with_reducible first | exact HB.out | apply below_alloc | apply pw_below_drewN | apply below_drew1 | refine below_set ?_ GE259.out) | exact HB.out)) hb); have n2_ := Aside0.mk (hbox); have n3_ := Aside0.mk ((by rw [hg]; exact (below_size (by repeat (first | (with_reducible first | exact HB.out | apply below_alloc | apply pw_below_drewN | apply below_drew1 | refine below_set ?_ GE259.out) | exact HB.out))) : w.heap.size ≤ gb260)); have n4_ := Aside0.mk ((by rw [hg]; exact (below_size (by repeat (first | (with_reducible first | exact HB.out | apply below_alloc | apply pw_below_drewN | apply below_drew1 | refine below_set ?_ GE259.out) | exact HB.out))) : w.heap.size ≤ gb260)); have n5_ := Aside0.mk ((by rw [hg]; exact Nat.ne_of_lt (blk_lt (g := gb259) (o := .cells #[.string a1_0, .slice A1_1 l1_1.length c1_1] 24 (0, 0)) (by (with_reducible repeat (first | refine blk_drewN ?_ _ | refine blk_drew ?_ | refine blk_alloc ?_ _)); exact BK259.out)) : gb259 ≠ gb260)); have n6_ := Aside0.mk ((by rw [hg]; exact Nat.ne_of_gt (blk_lt (g := gb259) (o := .cells #[.string a1_0, .slice A1_1 l1_1.length c1_1] 24 (0, 0)) (by (with_reducible repeat (first | refine blk_drewN ?_ _ | refine blk_drew ?_ | refine blk_alloc ?_ _)); exact BK259.out)) : gb260 ≠ gb259)); clear BK259; clear HB; have BK259 := n0_; have HB := n1_; have BK260 := n2_; have GW260 := n3_; have GE260 := n4_; have NB259_260 := n5_; have NB260_259 := n6_; clear n0_ n1_ n2_ n3_ n4_ n5_ n6_; clear hb hbox hg) | ((with_reducible refine gate_callee (f := 10) rfl ?_); refine goesL_ (some 20) rfl rfl Try.func10 (by kernel_rfl) rfl #[] rfl (by (try simp only [List.map_toArray, List.map_cons, List.map_nil]); first | done | rfl | (simp only [List.length_drop, List.length_take]; rfl)) ?_; (with_reducible refine (abugidalaw24_sanity.calls  t261 _ A4.out).mono ?_); rintro e w23 ⟨rfl, hb⟩; refine ⟨_, rfl, ?_⟩; have n0_ := Aside0.mk (blk_below (g := gb259) (o := .cells #[.string a1_0, .slice A1_1 l1_1.length c1_1] 24 (0, 0)) (by (with_reducible repeat (first | refine blk_drewN ?_ _ | refine blk_drew ?_ | refine blk_alloc ?_ _)); exact BK259.out) hb); have n1_ := Aside0.mk (blk_below (g := gb260) (o := .cells #[.int .u8 a2_0, .int .u8 a2_1, .string a2_2] 31 (0, 0)) (by (with_reducible repeat (first | refine blk_drewN ?_ _ | refine blk_drew ?_ | refine blk_alloc ?_ _)); exact BK260.out) hb); have n2_ := Aside0.mk (below_step (by repeat (first | (with_reducible first | exact HB.out | apply below_alloc | apply pw_below_drewN | apply below_drew1 | refine below_set ?_ GE259.out | refine below_set ?_ GE260.out) | exact HB.out)) hb); clear BK259; clear BK260; clear HB; have BK259 := n0_; have BK260 := n1_; have HB := n2_; clear n0_ n1_ n2_; (try clear hb); (try clear hb2); (try clear hk); (try clear hi)) | ((with_reducible refine gate_callee (f := 11) rfl ?_); refine goesL_ (some 22) rfl rfl Try.func11 (by kernel_rfl) rfl #[.string a0] rfl (by (try simp only [List.map_toArray, List.map_cons, List.map_nil]); first | done | rfl | (simp only [List.length_drop, List.length_take]; rfl)) ?_; (with_reducible refine (abugidalaw24_cut.calls a0 t262 _ A5.out).mono ?_); rintro e w24 ⟨rfl, hb⟩; refine ⟨_, rfl, ?_⟩; have n0_ := Aside0.mk (blk_below (g := gb259) (o := .cells #[.string a1_0, .slice A1_1 l1_1.length c1_1] 24 (0, 0)) (by (with_reducible repeat (first | refine blk_drewN ?_ _ | refine blk_drew ?_ | refine blk_alloc ?_ _)); exact BK259.out) hb); have n1_ := Aside0.mk (blk_below (g := gb260) (o := .cells #[.int .u8 a2_0, .int .u8 a2_1, .string a2_2] 31 (0, 0)) (by (with_reducible repeat (first | refine blk_drewN ?_ _ | refine blk_drew ?_ | refine blk_alloc ?_ _)); exact BK260.out) hb); have n2_ := Aside0.mk (below_step (by repeat (first | (with_reducible first | exact HB.out | apply below_alloc | apply pw_below_drewN | apply below_drew1 | refine below_set ?_ GE259.out | refine below_set ?_ GE260.out) | exact HB.out)) hb); clear BK259; clear BK260; clear HB; have BK259 := n0_; have BK260 := n1_; have HB := n2_; clear n0_ n1_ n2_; (try clear hb); (try clear hb2); (try clear hk); (try clear hi)))
                    have n0_ := Aside0.mk (blk_drew BK259.out)
                    have n1_ := Aside0.mk (blk_drew BK260.out)
                    have n2_ := Aside0.mk (below_drew1 HB.out)
                    clear BK259
                    clear BK260
                    clear HB
                    have BK259 := n0_
                    have BK260 := n1_
                    have HB := n2_
                    clear n0_ n1_ n2_
                    refine start_ (n := 6) (S := fun w' => w'.cell? ⟨gb259, 0, none⟩ = some (.string a1_0) ∧ w'.cell? ⟨gb259, 1, none⟩ = some (.slice A1_1 l1_1.length c1_1)) (ds := []) #[false, false, false, false, false, false] (by kernel_rfl) rfl rfl ⟨(blk_cell BK259.out 0).trans rfl, (blk_cell BK259.out 1).trans rfl⟩ (fun hHeld => ?_)
                    generalize w24.drew = w25 at BK259 BK260 HB hHeld ⊢
                    refine take_ (i := 0) (N := some 23) (v := ?_) (a' := ?_) #[true, false, false, false, false, false] rfl rfl (by kernel_rfl) (fun _ _ _ h => h) (Or.inl ⟨by rfl, ?_⟩) hHeld ?_ ?_
                    rotate_left
                    · rintro w' ⟨s0, s1⟩
                      go_simp
                      with_reducible rfl
                    rotate_left
                    · simp only [Act.put, List.setIfInBounds_toArray, List.set_cons_zero, List.set_cons_succ, i64_w, i32_w]
                      rfl
                    refine take_ (i := 2) (N := some 25) (v := ?_) (a' := ?_) #[true, false, true, false, false, false] rfl rfl (by kernel_rfl) (fun _ _ _ h => h) (Or.inl ⟨by rfl, ?_⟩) hHeld ?_ ?_
                    rotate_left
                    · rintro w' ⟨s0, s1⟩
                      go_simp
                      with_reducible rfl
                    rotate_left
                    · simp only [Act.put, List.setIfInBounds_toArray, List.set_cons_zero, List.set_cons_succ, i64_w, i32_w]
                      rfl
                    refine one_ (i := 1) (N := some 24) #[true, true, true, false, false, false] rfl rfl (by kernel_rfl) (by decide) (fun K hK => ?_)
                    refine goes_ Try.func14 (by kernel_rfl) rfl #[.agg #[.string a1_0, .slice A1_1 l1_1.length c1_1]] (by rfl) rfl rfl (by (try simp only [List.map_toArray, List.map_cons, List.map_nil]); first | done | rfl | (simp only [List.length_drop, List.length_take]; rfl)) ?_
                    with_reducible refine (abugidalaw24_Case_base.calls a1_0 _ _ l1_1 t263 _ ?side1 ?side2 A6.out).mono ?_
                    (case side1 => repeat (first | exact (Kd.C_below HR1_1.out HB.out) | (with_reducible refine Kd.C_alloc ?_ _) | (with_reducible refine Kd.C_drewN ?_ _) | (with_reducible refine Kd.C_drew ?_)))
                    (case side2 => exact HC1_1.out)
                    rintro e w26 ⟨rfl, hb⟩
                    refine ⟨_, rfl, ?_⟩
                    have n0_ := Aside0.mk (blk_below (g := gb259) (o := .cells #[.string a1_0, .slice A1_1 l1_1.length c1_1] 24 (0, 0)) (by (with_reducible repeat (first | refine blk_drewN ?_ _ | refine blk_drew ?_ | refine blk_alloc ?_ _)); exact BK259.out) hb)
                    have n1_ := Aside0.mk (blk_below (g := gb260) (o := .cells #[.int .u8 a2_0, .int .u8 a2_1, .string a2_2] 31 (0, 0)) (by (with_reducible repeat (first | refine blk_drewN ?_ _ | refine blk_drew ?_ | refine blk_alloc ?_ _)); exact BK260.out) hb)
                    have n2_ := Aside0.mk (below_step (by repeat (first | (with_reducible first | exact HB.out | apply below_alloc | apply pw_below_drewN | apply below_drew1 | refine below_set ?_ GE259.out | refine below_set ?_ GE260.out) | exact HB.out)) hb)
                    clear BK259
                    clear BK260
                    clear HB
                    have BK259 := n0_
                    have BK260 := n1_
                    have HB := n2_
                    clear n0_ n1_ n2_
                    (try clear hb)
                    (try clear hb2)
                    (try clear hk)
                    (try clear hi)
                    refine hK.out _ _ ⟨(blk_cell BK259.out 0).trans rfl, (blk_cell BK259.out 1).trans rfl⟩ (fun hHeld => ?_)
                    clear hK K
                    refine norm_ (a' := ?_) ?_ ?_
                    rotate_left
                    · show Act.put _ (some 24) _ = _
                      simp only [Act.put, List.setIfInBounds_toArray, List.set_cons_zero, List.set_cons_succ, i64_w, i32_w]
                      rfl
                    refine one_ (i := 3) (N := some 26) #[true, true, true, true, false, false] rfl rfl (by kernel_rfl) (by decide) (fun K hK => ?_)
                    refine goes_ Try.func15 (by kernel_rfl) rfl #[.agg #[.string a1_0, .slice A1_1 l1_1.length c1_1]] (by rfl) rfl rfl (by (try simp only [List.map_toArray, List.map_cons, List.map_nil]); first | done | rfl | (simp only [List.length_drop, List.length_take]; rfl)) ?_
                    with_reducible refine (abugidalaw24_Case_target.calls k a1_0 _ _ l1_1 t264 _ ?side1 ?side2 A7.out).mono ?_
                    (case side1 => repeat (first | exact (Kd.C_below HR1_1.out HB.out) | (with_reducible refine Kd.C_alloc ?_ _) | (with_reducible refine Kd.C_drewN ?_ _) | (with_reducible refine Kd.C_drew ?_)))
                    (case side2 => exact HC1_1.out)
                    rintro e w27 ⟨rfl, hb⟩
                    refine ⟨_, rfl, ?_⟩
                    have n0_ := Aside0.mk (blk_below (g := gb259) (o := .cells #[.string a1_0, .slice A1_1 l1_1.length c1_1] 24 (0, 0)) (by (with_reducible repeat (first | refine blk_drewN ?_ _ | refine blk_drew ?_ | refine blk_alloc ?_ _)); exact BK259.out) hb)
                    have n1_ := Aside0.mk (blk_below (g := gb260) (o := .cells #[.int .u8 a2_0, .int .u8 a2_1, .string a2_2] 31 (0, 0)) (by (with_reducible repeat (first | refine blk_drewN ?_ _ | refine blk_drew ?_ | refine blk_alloc ?_ _)); exact BK260.out) hb)
                    have n2_ := Aside0.mk (below_step (by repeat (first | (with_reducible first | exact HB.out | apply below_alloc | apply pw_below_drewN | apply below_drew1 | refine below_set ?_ GE259.out | refine below_set ?_ GE260.out) | exact HB.out)) hb)
                    clear BK259
                    clear BK260
                    clear HB
                    have BK259 := n0_
                    have BK260 := n1_
                    have HB := n2_
                    clear n0_ n1_ n2_
                    (try clear hb)
                    (try clear hb2)
                    (try clear hk)
                    (try clear hi)
                    refine hK.out _ _ ⟨(blk_cell BK259.out 0).trans rfl, (blk_cell BK259.out 1).trans rfl⟩ (fun hHeld => ?_)
                    clear hK K
                    refine norm_ (a' := ?_) ?_ ?_
                    rotate_left
                    · show Act.put _ (some 26) _ = _
                      simp only [Act.put, List.setIfInBounds_toArray, List.set_cons_zero, List.set_cons_succ, i64_w, i32_w]
                      rfl
                    refine one_ (i := 4) (N := some 27) #[true, true, true, true, true, false] rfl rfl (by kernel_rfl) (by decide) (fun K hK => ?_)
                    refine goes_ Try.func13 (by kernel_rfl) rfl #[.string t263, .string t264] (by rfl) rfl rfl (by (try simp only [List.map_toArray, List.map_cons, List.map_nil]); first | done | rfl | (simp only [List.length_drop, List.length_take]; rfl)) ?_
                    with_reducible refine (abugidaref24_Make.calls k t263 t264 t265 _ A8.out).mono ?_
                    rintro e w28 ⟨rfl, hb⟩
                    refine ⟨_, rfl, ?_⟩
                    have n0_ := Aside0.mk (blk_below (g := gb259) (o := .cells #[.string a1_0, .slice A1_1 l1_1.length c1_1] 24 (0, 0)) (by (with_reducible repeat (first | refine blk_drewN ?_ _ | refine blk_drew ?_ | refine blk_alloc ?_ _)); exact BK259.out) hb)
                    have n1_ := Aside0.mk (blk_below (g := gb260) (o := .cells #[.int .u8 a2_0, .int .u8 a2_1, .string a2_2] 31 (0, 0)) (by (with_reducible repeat (first | refine blk_drewN ?_ _ | refine blk_drew ?_ | refine blk_alloc ?_ _)); exact BK260.out) hb)
                    have n2_ := Aside0.mk (below_step (by repeat (first | (with_reducible first | exact HB.out | apply below_alloc | apply pw_below_drewN | apply below_drew1 | refine below_set ?_ GE259.out | refine below_set ?_ GE260.out) | exact HB.out)) hb)
                    clear BK259
                    clear BK260
                    clear HB
                    have BK259 := n0_
                    have BK260 := n1_
                    have HB := n2_
                    clear n0_ n1_ n2_
                    (try clear hb)
                    (try clear hb2)
                    (try clear hk)
                    (try clear hi)
                    refine hK.out _ _ ⟨(blk_cell BK259.out 0).trans rfl, (blk_cell BK259.out 1).trans rfl⟩ (fun hHeld => ?_)
                    clear hK K
                    refine norm_ (a' := ?_) ?_ ?_
                    rotate_left
                    · show Act.put _ (some 27) _ = _
                      simp only [Act.put, List.setIfInBounds_toArray, List.set_cons_zero, List.set_cons_succ, i64_w, i32_w]
                      rfl
                    refine pure_ (i := 5) (N := some 8) (v := ?_) (a' := ?_) #[true, true, true, true, true, true] rfl rfl (by kernel_rfl) (fun _ _ _ h => h) (Or.inl ⟨by rfl, ?_⟩) ?_ ?_
                    rotate_left
                    · intro w'
                      go_simp
                      with_reducible rfl
                    rotate_left
                    · simp only [Act.put, List.setIfInBounds_toArray, List.set_cons_zero, List.set_cons_succ, i64_w, i32_w]
                      rfl
                    refine done_ (by kernel_rfl) ?_
                    have hnb29 := NB260_259.out
                    have hnc29 := NB259_260.out
                    have hcz30_0 : w28.cell? ⟨gb260, 0, none⟩ = some (.int .u8 a2_0) := (blk_cell BK260.out 0).trans rfl
                    have hcz30_1 : w28.cell? ⟨gb260, 1, none⟩ = some (.int .u8 a2_1) := (blk_cell BK260.out 1).trans rfl
                    have hcz30_2 : w28.cell? ⟨gb260, 2, none⟩ = some (.string a2_2) := (blk_cell BK260.out 2).trans rfl
                    have hfz30_0 := blk_frozen BK260.out 0
                    have hfz30_1 := blk_frozen BK260.out 1
                    have hfz30_2 := blk_frozen BK260.out 2
                    try go_wp2
                    have n0_ := Aside0.mk (blk_drew BK259.out)
                    have n1_ := Aside0.mk (blk_drew BK260.out)
                    have n2_ := Aside0.mk (below_drew1 HB.out)
                    clear BK259
                    clear BK260
                    clear HB
                    have BK259 := n0_
                    have BK260 := n1_
                    have HB := n2_
                    clear n0_ n1_ n2_
                    refine start_ (n := 16) (S := fun w' => w'.cell? ⟨gb260, 0, none⟩ = some (.int .u8 a2_0) ∧ w'.cell? ⟨gb260, 1, none⟩ = some (.int .u8 a2_1) ∧ w'.cell? ⟨gb260, 2, none⟩ = some (.string a2_2)) (ds := []) #[false, false, false, false, false, false, false, false, false, false, false, false, false, false, false, false] (by kernel_rfl) rfl rfl ⟨(blk_cell BK260.out 0).trans rfl, (blk_cell BK260.out 1).trans rfl, (blk_cell BK260.out 2).trans rfl⟩ (fun hHeld => ?_); refine with_tabW abugidalaw24_DiffApplies.tab6 abugidalaw24_DiffApplies.bits6 (fun HT_ HW_ => ?_)
                    generalize w28.drew = w31 at BK259 BK260 HB hHeld ⊢
                    refine pure_ (i := 0) (N := some 44) (v := ?_) (a' := ?_) #[true, false, false, false, false, false, false, false, false, false, false, false, false, false, false, false] rfl rfl (any_of HT_.out (by kernel_rfl)) (fun _ _ _ h => h) (Or.inl ⟨by rfl, ?_⟩) ?_ ?_
                    rotate_left
                    · intro w'
                      go_simp
                      with_reducible rfl
                    rotate_left
                    · simp only [Act.put, List.setIfInBounds_toArray, List.set_cons_zero, List.set_cons_succ, i64_w, i32_w]
                      rfl
                    refine pure_ (i := 1) (N := some 45) (v := ?_) (a' := ?_) #[true, true, false, false, false, false, false, false, false, false, false, false, false, false, false, false] rfl rfl (any_of HT_.out (by kernel_rfl)) (fun _ _ _ h => h) (Or.inl ⟨by rfl, ?_⟩) ?_ ?_
                    rotate_left
                    · intro w'
                      go_simp
                      with_reducible rfl
                    rotate_left
                    · simp only [Act.put, List.setIfInBounds_toArray, List.set_cons_zero, List.set_cons_succ, i64_w, i32_w]
                      rfl
                    refine pure_ (i := 2) (N := some 46) (v := ?_) (a' := ?_) #[true, true, true, false, false, false, false, false, false, false, false, false, false, false, false, false] rfl rfl (any_of HT_.out (by kernel_rfl)) (fun _ _ _ h => h) (Or.inl ⟨by rfl, ?_⟩) ?_ ?_
                    rotate_left
                    · intro w'
                      go_simp
                      with_reducible rfl
                    rotate_left
                    · simp only [Act.put, List.setIfInBounds_toArray, List.set_cons_zero, List.set_cons_succ, i64_w, i32_w]
                      rfl
                    refine pure_ (i := 3) (N := some 47) (v := ?_) (a' := ?_) #[true, true, true, true, false, false, false, false, false, false, false, false, false, false, false, false] rfl rfl (any_of HT_.out (by kernel_rfl)) (fun _ _ _ h => h) (Or.inl ⟨by rfl, ?_⟩) ?_ ?_
                    rotate_left
                    · intro w'
                      go_simp
                      with_reducible rfl
                    rotate_left
                    · simp only [Act.put, List.setIfInBounds_toArray, List.set_cons_zero, List.set_cons_succ, i64_w, i32_w]
                      rfl
                    refine pure_ (i := 5) (N := some 49) (v := ?_) (a' := ?_) #[true, true, true, true, false, true, false, false, false, false, false, false, false, false, false, false] rfl rfl (any_of HT_.out (by kernel_rfl)) (fun _ _ _ h => h) (Or.inl ⟨by rfl, ?_⟩) ?_ ?_
                    rotate_left
                    · intro w'
                      go_simp
                      with_reducible rfl
                    rotate_left
                    · simp only [Act.put, List.setIfInBounds_toArray, List.set_cons_zero, List.set_cons_succ, i64_w, i32_w]
                      rfl
                    refine pure_ (i := 11) (N := some 55) (v := ?_) (a' := ?_) #[true, true, true, true, false, true, false, false, false, false, false, true, false, false, false, false] rfl rfl (any_of HT_.out (by kernel_rfl)) (fun _ _ _ h => h) (Or.inl ⟨by rfl, ?_⟩) ?_ ?_
                    rotate_left
                    · intro w'
                      go_simp
                      with_reducible rfl
                    rotate_left
                    · simp only [Act.put, List.setIfInBounds_toArray, List.set_cons_zero, List.set_cons_succ, i64_w, i32_w]
                      rfl
                    refine pure_ (i := 12) (N := some 56) (v := ?_) (a' := ?_) #[true, true, true, true, false, true, false, false, false, false, false, true, true, false, false, false] rfl rfl (any_of HT_.out (by kernel_rfl)) (fun _ _ _ h => h) (Or.inl ⟨by rfl, ?_⟩) ?_ ?_
                    rotate_left
                    · intro w'
                      go_simp
                      with_reducible rfl
                    rotate_left
                    · simp only [Act.put, List.setIfInBounds_toArray, List.set_cons_zero, List.set_cons_succ, i64_w, i32_w]
                      rfl
                    refine pure_ (i := 13) (N := some 57) (v := ?_) (a' := ?_) #[true, true, true, true, false, true, false, false, false, false, false, true, true, true, false, false] rfl rfl (any_of HT_.out (by kernel_rfl)) (fun _ _ _ h => h) (Or.inl ⟨by rfl, ?_⟩) ?_ ?_
                    rotate_left
                    · intro w'
                      go_simp
                      with_reducible rfl
                    rotate_left
                    · simp only [Act.put, List.setIfInBounds_toArray, List.set_cons_zero, List.set_cons_succ, i64_w, i32_w]
                      rfl
                    refine take_ (i := 4) (N := some 48) (v := ?_) (a' := ?_) #[true, true, true, true, true, true, false, false, false, false, false, true, true, true, false, false] rfl rfl (take_ofW HT_.out HW_.out (by kernel_rfl)) (fun _ _ _ h => h) (Or.inl ⟨by rfl, ?_⟩) hHeld ?_ ?_
                    rotate_left
                    · rintro w' ⟨s0, s1, s2⟩
                      go_simp
                      with_reducible rfl
                    rotate_left
                    · simp only [Act.put, List.setIfInBounds_toArray, List.set_cons_zero, List.set_cons_succ, i64_w, i32_w]
                      rfl
                    refine take_ (i := 6) (N := some 50) (v := ?_) (a' := ?_) #[true, true, true, true, true, true, true, false, false, false, false, true, true, true, false, false] rfl rfl (take_ofW HT_.out HW_.out (by kernel_rfl)) (fun _ _ _ h => h) (Or.inl ⟨by rfl, ?_⟩) hHeld ?_ ?_
                    rotate_left
                    · rintro w' ⟨s0, s1, s2⟩
                      go_simp
                      with_reducible rfl
                    rotate_left
                    · simp only [Act.put, List.setIfInBounds_toArray, List.set_cons_zero, List.set_cons_succ, i64_w, i32_w]
                      rfl
                    refine pure_ (i := 7) (N := some 51) (v := ?_) (a' := ?_) #[true, true, true, true, true, true, true, true, false, false, false, true, true, true, false, false] rfl rfl (any_of HT_.out (by kernel_rfl)) (fun _ _ _ h => h) (Or.inl ⟨by rfl, ?_⟩) ?_ ?_
                    rotate_left
                    · intro w'
                      go_simp
                      with_reducible rfl
                    rotate_left
                    · simp only [Act.put, List.setIfInBounds_toArray, List.set_cons_zero, List.set_cons_succ, i64_w, i32_w]
                      rfl
                    refine pure_ (i := 8) (N := some 52) (v := ?_) (a' := ?_) #[true, true, true, true, true, true, true, true, true, false, false, true, true, true, false, false] rfl rfl (any_of HT_.out (by kernel_rfl)) (fun _ _ _ h => h) (Or.inl ⟨by rfl, ?_⟩) ?_ ?_
                    rotate_left
                    · intro w'
                      go_simp
                      with_reducible rfl
                    rotate_left
                    · simp only [Act.put, List.setIfInBounds_toArray, List.set_cons_zero, List.set_cons_succ, i64_w, i32_w]
                      rfl
                    refine pure_ (i := 9) (N := some 53) (v := ?_) (a' := ?_) #[true, true, true, true, true, true, true, true, true, true, false, true, true, true, false, false] rfl rfl (any_of HT_.out (by kernel_rfl)) (fun _ _ _ h => h) (Or.inl ⟨by rfl, ?_⟩) ?_ ?_
                    rotate_left
                    · intro w'
                      go_simp
                      with_reducible rfl
                    rotate_left
                    · simp only [Act.put, List.setIfInBounds_toArray, List.set_cons_zero, List.set_cons_succ, i64_w, i32_w]
                      rfl
                    refine pure_ (i := 10) (N := some 54) (v := ?_) (a' := ?_) #[true, true, true, true, true, true, true, true, true, true, true, true, true, true, false, false] rfl rfl (any_of HT_.out (by kernel_rfl)) (fun _ _ _ h => h) (Or.inl ⟨by rfl, ?_⟩) ?_ ?_
                    rotate_left
                    · intro w'
                      go_simp
                      with_reducible rfl
                    rotate_left
                    · simp only [Act.put, List.setIfInBounds_toArray, List.set_cons_zero, List.set_cons_succ, i64_w, i32_w]
                      rfl
                    refine pure_ (i := 14) (N := some 58) (v := ?_) (a' := ?_) #[true, true, true, true, true, true, true, true, true, true, true, true, true, true, true, false] rfl rfl (any_of HT_.out (by kernel_rfl)) (fun _ _ _ h => h) (Or.inl ⟨by rfl, ?_⟩) ?_ ?_
                    rotate_left
                    · intro w'
                      go_simp
                      with_reducible rfl
                    rotate_left
                    · simp only [Act.put, List.setIfInBounds_toArray, List.set_cons_zero, List.set_cons_succ, i64_w, i32_w]
                      rfl
                    refine pure_ (i := 15) (N := some 11) (v := ?_) (a' := ?_) #[true, true, true, true, true, true, true, true, true, true, true, true, true, true, true, true] rfl rfl (any_of HT_.out (by kernel_rfl)) (fun _ _ _ h => h) (Or.inl ⟨by rfl, ?_⟩) ?_ ?_
                    rotate_left
                    · intro w'
                      go_simp
                      with_reducible rfl
                    rotate_left
                    · simp only [Act.put, List.setIfInBounds_toArray, List.set_cons_zero, List.set_cons_succ, i64_w, i32_w]
                      rfl
                    refine done_ (done_of HT_.out (by kernel_rfl)) ?_
                    try go_wp2_with (first | ((with_reducible refine gate_dst (N := 62) rfl ?_); refine Kd.R_lit Kd.string _ 9 ?hg (N := 62) ?hd (xs := ([t262, t265, ((t265.extract 0 ((ji11) : Int).toNat) ++ (a2_2.extract 0 ((ji14) : Int).toNat)) ++ (t265.extract ((ji10) : Int).toNat t265.size)] : List ByteArray)) (inner := [.string t262, .string t265, .string (((t265.extract 0 ((ji11) : Int).toNat) ++ (a2_2.extract 0 ((ji14) : Int).toNat)) ++ (t265.extract ((ji10) : Int).toNat t265.size))]) (ok := fun _ => True) (okp := fun _ => True) ?hr ?hp (fun _ hk => hk) trivial (Below.refl _ _) (Nat.le_refl _) (by simp) ?_; (case hd => rfl); (case hg => rfl); (case hr => first | (go_simp; done) | (go_simp; rfl)); (case hp => exact (Reps.one (show Kd.M Kd.string _ _ _ t262 [.string t262] from rfl) (Reps.one (show Kd.M Kd.string _ _ _ t265 [.string t265] from rfl) (Reps.one (show Kd.M Kd.string _ _ _ (((t265.extract 0 ((ji11) : Int).toNat) ++ (a2_2.extract 0 ((ji14) : Int).toNat)) ++ (t265.extract ((ji10) : Int).toNat t265.size)) [.string (((t265.extract 0 ((ji11) : Int).toNat) ++ (a2_2.extract 0 ((ji14) : Int).toNat)) ++ (t265.extract ((ji10) : Int).toNat t265.size))] from rfl) (Reps.none _ _))))); intro v267 w32 ho33 hb hg_ hnew_; clear hg_ hnew_; (first | rw [← Ny266.out] at ho33 | (simp only [Int.reduceToNat] at ho33; rw [← Ny266.out] at ho33)); have n0_ := Aside0.mk (Kd.R_lower ho33 (below_size (by repeat (first | (with_reducible first | exact HB.out | apply below_alloc | apply pw_below_drewN | apply below_drew1 | refine below_set ?_ GE259.out | refine below_set ?_ GE260.out) | exact HB.out)))); have n1_ := Aside0.mk (blk_below (g := gb259) (o := .cells #[.string a1_0, .slice A1_1 l1_1.length c1_1] 24 (0, 0)) (by (with_reducible repeat (first | refine blk_drewN ?_ _ | refine blk_drew ?_ | refine blk_alloc ?_ _)); exact BK259.out) hb); have n2_ := Aside0.mk (blk_below (g := gb260) (o := .cells #[.int .u8 a2_0, .int .u8 a2_1, .string a2_2] 31 (0, 0)) (by (with_reducible repeat (first | refine blk_drewN ?_ _ | refine blk_drew ?_ | refine blk_alloc ?_ _)); exact BK260.out) hb); have n3_ := Aside0.mk (below_step (by repeat (first | (with_reducible first | exact HB.out | apply below_alloc | apply pw_below_drewN | apply below_drew1 | refine below_set ?_ GE259.out | refine below_set ?_ GE260.out) | exact HB.out)) hb); clear BK259; clear BK260; clear HB; have HO268 := n0_; have BK259 := n1_; have BK260 := n2_; have HB := n3_; clear n0_ n1_ n2_ n3_; clear hb ho33; obtain ⟨Ao34, co34, eo34⟩ := Kd.R_slice HO268.out; subst eo34))
                    go_loopg [64] k (fun kq v64 w' => ∃ (x64_1 : Int), v64 = .int .i64 x64_1 ∧ Aside0 (abugidalaw24_DiffApplies.l0 kq t262 t261 y266 (y266.length : Int) x64_1 a1_0 l1_1 = some r) ∧ Aside0 (kq ≤ k) ∧ Aside0 (Kd.R Kd.string 9 w' w.heap.size (fun _ => True) (.slice Ao34 y266.length co34) y266) ∧ Aside0 (w'.heap[gb259]? = some (.cells #[.string a1_0, (.slice A1_1 l1_1.length c1_1)] 24 (0, 0))) ∧ Aside0 (w'.heap[gb260]? = some (.cells #[.int .u8 a2_0, .int .u8 a2_1, .string a2_2] 31 (0, 0))) ∧ Aside0 (Below w.heap.size w w'))
                    case atStart => exact ⟨(0), (by first | rfl | (simp; done) | (simp [*]; done)), H', ⟨Nat.le_refl _⟩, ⟨by (with_reducible repeat (first | apply Kd.R_alloc | apply Kd.R_drewN | apply Kd.R_drew)); exact HO268.out⟩, ⟨by (with_reducible repeat (first | refine blk_drewN ?_ _ | refine blk_drew ?_ | refine blk_alloc ?_ _)); exact BK259.out⟩, ⟨by (with_reducible repeat (first | refine blk_drewN ?_ _ | refine blk_drew ?_ | refine blk_alloc ?_ _)); exact BK260.out⟩, ⟨by repeat (first | (with_reducible first | exact HB.out | apply below_alloc | apply pw_below_drewN | apply below_drew1 | refine below_set ?_ GE259.out | refine below_set ?_ GE260.out) | exact HB.out)⟩⟩
                    case round =>
                      clear H'
                      try clear c1
                      try clear c2
                      try clear p2
                      try clear c4
                      try clear p6
                      try clear c9
                      try clear c9b0
                      try clear c9b1
                      try clear c10
                      try clear c11
                      try clear c12
                      try clear c12b0
                      try clear c12b1
                      try clear c13
                      try clear c13b0
                      try clear c13b1
                      try clear c14
                      try clear c15
                      try clear c15b0
                      try clear c15b1
                      try clear c16
                      try clear c16b0
                      try clear c16b1
                      try clear c17
                      try clear c17b0
                      try clear c17b1
                      try clear c17b2
                      try clear c18
                      try clear c18b0
                      try clear c18b1
                      try clear c19
                      try clear c19b0
                      try clear c19b1
                      try clear c20
                      try clear c20b0
                      try clear c20b1
                      try clear c20b2
                      try clear c29
                      try clear hcz30_0
                      try clear hcz30_1
                      try clear hcz30_2
                      try clear hfz30_0
                      try clear hfz30_1
                      try clear hfz30_2
                      obtain ⟨x64_1, rfl, HA, HK1, HO_62, BK259, BK260, HB⟩ := hrel
                      cases gk with
                      | zero => exact absurd HA.out (by simp [abugidalaw24_DiffApplies.l0])
                      | succ k1 =>
                        have H := HA.out
                        clear HA
                        simp only [abugidalaw24_DiffApplies.l0] at H
                        by_cases c35 : x64_1 < (y266.length : Int)
                        · rw [if_pos c35] at H
                          have c35b0 : decide (x64_1 < (y266.length : Int)) = true := decide_eq_true c35
                          clear c35
                          by_cases c36 : 0 ≤ x64_1
                          · rw [if_pos c36] at H
                            have c36b0 : decide (0 ≤ x64_1) = true := decide_eq_true c36
                            clear c36
                            by_cases c37 : x64_1 < (y266.length : Int)
                            · rw [if_pos c37] at H
                              have c37b0 : decide (x64_1 < (y266.length : Int)) = true := decide_eq_true c37
                              clear c37
                              replace H := Option.bind_eq_some_iff.mp H
                              obtain ⟨t270, A380, H⟩ := H
                              try dsimp only at H
                              have A38 := Aside0.mk A380
                              clear A380
                              replace H := Option.bind_eq_some_iff.mp H
                              obtain ⟨t271, A390, H⟩ := H
                              try dsimp only at H
                              have A39 := Aside0.mk A390
                              clear A390
                              replace H := Option.bind_eq_some_iff.mp H
                              obtain ⟨t272, A400, H⟩ := H
                              try dsimp only at H
                              have A40 := Aside0.mk A400
                              clear A400
                              obtain ⟨ji41, hji41⟩ : ∃ j_ : Int, (wrap64 ((t272.size : Int) / 2)) = j_ := ⟨_, rfl⟩
                              replace H : (if 0 ≤ (ji41) then (if (ji41) ≤ (t271.size : Int) then ((some (([t270, t262, t271.extract 0 ((ji41) : Int).toNat] : List ByteArray) : List ByteArray)).bind fun y273 => (abugidalaw24_DiffApplies.l1 k1 t262 t261 (rdOf ByteArray.empty y266 x64_1) y266 (y266.length : Int) x64_1 y273 (y273.length : Int) 0 a1_0 l1_1)) else (none)) else (none)) = some r := by first | (rw [hji41] at H; exact H) | (simp only [hji41] at H ⊢; exact H)
                              try rw [hji41] at c9b0
                              try rw [hji41] at c9b1
                              try rw [hji41] at hji10_
                              try rw [hji41] at hji14_
                              (try rw [hji41] at A38)
                              (try rw [hji41] at A39)
                              (try rw [hji41] at A40)
                              have hji41w : (IntKind.i64.wrap ((t272.size : Int) / 2)) = ji41 := (i64_w _).trans hji41
                              by_cases c42 : 0 ≤ (ji41)
                              · rw [if_pos c42] at H
                                have c42b0 := eq_true c42
                                have c42b1 : decide (0 ≤ (ji41)) = true := decide_eq_true c42
                                clear c42
                                by_cases c43 : (ji41) ≤ (t271.size : Int)
                                · rw [if_pos c43] at H
                                  have c43b0 := eq_true c43
                                  have c43b1 : decide ((ji41) ≤ (t271.size : Int)) = true := decide_eq_true c43
                                  clear c43
                                  obtain ⟨y273, hy273⟩ : ∃ y_ : List ByteArray, y_ = (([t270, t262, t271.extract 0 ((ji41) : Int).toNat] : List ByteArray)) := ⟨_, rfl⟩
                                  replace H : (abugidalaw24_DiffApplies.l1 k1 t262 t261 (rdOf ByteArray.empty y266 x64_1) y266 (y266.length : Int) x64_1 y273 (y273.length : Int) 0 a1_0 l1_1) = some r := by first | (rw [hy273]; with_reducible exact H) | (have H2_ := (Option.bind_some _ _).symm.trans H; rw [hy273]; with_reducible exact H2_) | (have H2_ := (Option.bind_some _ _).symm.trans H; with_reducible exact H2_) | with_reducible exact H | (rw [hy273]; exact H) | exact H
                                  have Ny273 := Aside0.mk hy273
                                  clear hy273
                                  have H' := Aside0.mk H
                                  clear H
                                  have p269 : 0 ≤ (x64_1 : Int) := of_decide_eq_true (by first | (with_reducible assumption) | assumption)
                                  have q269 : x64_1 < (y266.length : Int) := of_decide_eq_true (by first | (with_reducible assumption) | assumption)
                                  obtain ⟨ad269, e269, hx269_0⟩ := Kd.at_string (Kd.R_reads' HO_62.out).2.2 x64_1 p269 q269
                                  cases e269
                                  replace p269 := eq_true p269
                                  replace q269 := eq_true q269
                                  try go_wp2
                                  have n0_ := Aside0.mk (Kd.R_drew HO_62.out)
                                  have n1_ := Aside0.mk (blk_drew BK259.out)
                                  have n2_ := Aside0.mk (blk_drew BK260.out)
                                  have n3_ := Aside0.mk (below_drew1 HB.out)
                                  clear HO_62
                                  clear BK259
                                  clear BK260
                                  clear HB
                                  have HO_62 := n0_
                                  have BK259 := n1_
                                  have BK260 := n2_
                                  have HB := n3_
                                  clear n0_ n1_ n2_ n3_
                                  refine start_ (n := 13) (S := fun w' => w'.cell? ⟨gb259, 0, none⟩ = some (.string a1_0) ∧ w'.cell? ⟨gb259, 1, none⟩ = some (.slice A1_1 l1_1.length c1_1)) (ds := []) #[false, false, false, false, false, false, false, false, false, false, false, false, false] (by kernel_rfl) rfl rfl ⟨(blk_cell BK259.out 0).trans rfl, (blk_cell BK259.out 1).trans rfl⟩ (fun hHeld => ?_); refine with_tabW abugidalaw24_DiffApplies.tab10 abugidalaw24_DiffApplies.bits10 (fun HT_ HW_ => ?_)
                                  generalize wr.drew = w44 at HO_62 BK259 BK260 HB hHeld ⊢
                                  refine pure_ (i := 2) (N := some 70) (v := ?_) (a' := ?_) #[false, false, true, false, false, false, false, false, false, false, false, false, false] rfl rfl (any_of HT_.out (by kernel_rfl)) (fun _ _ _ h => h) (Or.inl ⟨by rfl, ?_⟩) ?_ ?_
                                  rotate_left
                                  · intro w'
                                    go_simp
                                    with_reducible rfl
                                  rotate_left
                                  · simp only [Act.put, List.setIfInBounds_toArray, List.set_cons_zero, List.set_cons_succ, i64_w, i32_w]
                                    rfl
                                  refine pure_ (i := 12) (N := some 80) (v := ?_) (a' := ?_) #[false, false, true, false, false, false, false, false, false, false, false, false, true] rfl rfl (any_of HT_.out (by kernel_rfl)) (fun _ _ _ h => h) (Or.inl ⟨by rfl, ?_⟩) ?_ ?_
                                  rotate_left
                                  · intro w'
                                    go_simp
                                    with_reducible rfl
                                  rotate_left
                                  · simp only [Act.put, List.setIfInBounds_toArray, List.set_cons_zero, List.set_cons_succ, i64_w, i32_w]
                                    rfl
                                  refine take_ (i := 0) (N := some 68) (v := ?_) (a' := ?_) #[true, false, true, false, false, false, false, false, false, false, false, false, true] rfl rfl (take_ofW HT_.out HW_.out (by kernel_rfl)) (fun _ _ _ h => h) (Or.inl ⟨by rfl, ?_⟩) hHeld ?_ ?_
                                  rotate_left
                                  · rintro w' ⟨s0, s1⟩
                                    go_simp
                                    with_reducible rfl
                                  rotate_left
                                  · simp only [Act.put, List.setIfInBounds_toArray, List.set_cons_zero, List.set_cons_succ, i64_w, i32_w]
                                    rfl
                                  refine take_ (i := 3) (N := some 71) (v := ?_) (a' := ?_) #[true, false, true, true, false, false, false, false, false, false, false, false, true] rfl rfl (take_ofW HT_.out HW_.out (by kernel_rfl)) (fun _ _ _ h => h) (Or.inl ⟨by rfl, ?_⟩) hHeld ?_ ?_
                                  rotate_left
                                  · rintro w' ⟨s0, s1⟩
                                    go_simp
                                    with_reducible rfl
                                  rotate_left
                                  · simp only [Act.put, List.setIfInBounds_toArray, List.set_cons_zero, List.set_cons_succ, i64_w, i32_w]
                                    rfl
                                  refine take_ (i := 5) (N := some 73) (v := ?_) (a' := ?_) #[true, false, true, true, false, true, false, false, false, false, false, false, true] rfl rfl (take_ofW HT_.out HW_.out (by kernel_rfl)) (fun _ _ _ h => h) (Or.inl ⟨by rfl, ?_⟩) hHeld ?_ ?_
                                  rotate_left
                                  · rintro w' ⟨s0, s1⟩
                                    go_simp
                                    with_reducible rfl
                                  rotate_left
                                  · simp only [Act.put, List.setIfInBounds_toArray, List.set_cons_zero, List.set_cons_succ, i64_w, i32_w]
                                    rfl
                                  refine one_ (i := 1) (N := some 69) #[true, true, true, true, false, true, false, false, false, false, false, false, true] rfl rfl (one_of HT_.out (by kernel_rfl)) (by decide) (fun K hK => ?_)
                                  refine goes_ Try.func14 (by kernel_rfl) rfl #[.agg #[.string a1_0, .slice A1_1 l1_1.length c1_1]] (by rfl) rfl rfl (by (try simp only [List.map_toArray, List.map_cons, List.map_nil]); first | done | rfl | (simp only [List.length_drop, List.length_take]; rfl)) ?_
                                  with_reducible refine (abugidalaw24_Case_base.calls a1_0 _ _ l1_1 t270 _ ?side1 ?side2 A38.out).mono ?_
                                  (case side1 => repeat (first | exact (Kd.C_below HR1_1.out HB.out) | (with_reducible refine Kd.C_alloc ?_ _) | (with_reducible refine Kd.C_drewN ?_ _) | (with_reducible refine Kd.C_drew ?_)))
                                  (case side2 => exact HC1_1.out)
                                  rintro e w45 ⟨rfl, hb⟩
                                  refine ⟨_, rfl, ?_⟩
                                  have n0_ := Aside0.mk (Kd.R_below (by (with_reducible repeat (first | apply Kd.R_alloc | apply Kd.R_drewN | apply Kd.R_drew)); exact HO_62.out) hb)
                                  have n1_ := Aside0.mk (blk_below (g := gb259) (o := .cells #[.string a1_0, .slice A1_1 l1_1.length c1_1] 24 (0, 0)) (by (with_reducible repeat (first | refine blk_drewN ?_ _ | refine blk_drew ?_ | refine blk_alloc ?_ _)); exact BK259.out) hb)
                                  have n2_ := Aside0.mk (blk_below (g := gb260) (o := .cells #[.int .u8 a2_0, .int .u8 a2_1, .string a2_2] 31 (0, 0)) (by (with_reducible repeat (first | refine blk_drewN ?_ _ | refine blk_drew ?_ | refine blk_alloc ?_ _)); exact BK260.out) hb)
                                  have n3_ := Aside0.mk (below_step (by repeat (first | (with_reducible first | exact HB.out | apply below_alloc | apply pw_below_drewN | apply below_drew1 | refine below_set ?_ GE259.out | refine below_set ?_ GE260.out) | exact HB.out)) hb)
                                  clear HO_62
                                  clear BK259
                                  clear BK260
                                  clear HB
                                  have HO_62 := n0_
                                  have BK259 := n1_
                                  have BK260 := n2_
                                  have HB := n3_
                                  clear n0_ n1_ n2_ n3_
                                  (try clear hb)
                                  (try clear hb2)
                                  (try clear hk)
                                  (try clear hi)
                                  refine hK.out _ _ ⟨(blk_cell BK259.out 0).trans rfl, (blk_cell BK259.out 1).trans rfl⟩ (fun hHeld => ?_)
                                  clear hK K
                                  refine norm_ (a' := ?_) ?_ ?_
                                  rotate_left
                                  · show Act.put _ (some 69) _ = _
                                    simp only [Act.put, List.setIfInBounds_toArray, List.set_cons_zero, List.set_cons_succ, i64_w, i32_w]
                                    rfl
                                  refine one_ (i := 4) (N := some 72) #[true, true, true, true, true, true, false, false, false, false, false, false, true] rfl rfl (one_of HT_.out (by kernel_rfl)) (by decide) (fun K hK => ?_)
                                  refine goes_ Try.func14 (by kernel_rfl) rfl #[.agg #[.string a1_0, .slice A1_1 l1_1.length c1_1]] (by rfl) rfl rfl (by (try simp only [List.map_toArray, List.map_cons, List.map_nil]); first | done | rfl | (simp only [List.length_drop, List.length_take]; rfl)) ?_
                                  with_reducible refine (abugidalaw24_Case_base.calls a1_0 _ _ l1_1 t271 _ ?side1 ?side2 A39.out).mono ?_
                                  (case side1 => repeat (first | exact (Kd.C_below HR1_1.out HB.out) | (with_reducible refine Kd.C_alloc ?_ _) | (with_reducible refine Kd.C_drewN ?_ _) | (with_reducible refine Kd.C_drew ?_)))
                                  (case side2 => exact HC1_1.out)
                                  rintro e w46 ⟨rfl, hb⟩
                                  refine ⟨_, rfl, ?_⟩
                                  have n0_ := Aside0.mk (Kd.R_below (by (with_reducible repeat (first | apply Kd.R_alloc | apply Kd.R_drewN | apply Kd.R_drew)); exact HO_62.out) hb)
                                  have n1_ := Aside0.mk (blk_below (g := gb259) (o := .cells #[.string a1_0, .slice A1_1 l1_1.length c1_1] 24 (0, 0)) (by (with_reducible repeat (first | refine blk_drewN ?_ _ | refine blk_drew ?_ | refine blk_alloc ?_ _)); exact BK259.out) hb)
                                  have n2_ := Aside0.mk (blk_below (g := gb260) (o := .cells #[.int .u8 a2_0, .int .u8 a2_1, .string a2_2] 31 (0, 0)) (by (with_reducible repeat (first | refine blk_drewN ?_ _ | refine blk_drew ?_ | refine blk_alloc ?_ _)); exact BK260.out) hb)
                                  have n3_ := Aside0.mk (below_step (by repeat (first | (with_reducible first | exact HB.out | apply below_alloc | apply pw_below_drewN | apply below_drew1 | refine below_set ?_ GE259.out | refine below_set ?_ GE260.out) | exact HB.out)) hb)
                                  clear HO_62
                                  clear BK259
                                  clear BK260
                                  clear HB
                                  have HO_62 := n0_
                                  have BK259 := n1_
                                  have BK260 := n2_
                                  have HB := n3_
                                  clear n0_ n1_ n2_ n3_
                                  (try clear hb)
                                  (try clear hb2)
                                  (try clear hk)
                                  (try clear hi)
                                  refine hK.out _ _ ⟨(blk_cell BK259.out 0).trans rfl, (blk_cell BK259.out 1).trans rfl⟩ (fun hHeld => ?_)
                                  clear hK K
                                  refine norm_ (a' := ?_) ?_ ?_
                                  rotate_left
                                  · show Act.put _ (some 72) _ = _
                                    simp only [Act.put, List.setIfInBounds_toArray, List.set_cons_zero, List.set_cons_succ, i64_w, i32_w]
                                    rfl
                                  refine one_ (i := 6) (N := some 74) #[true, true, true, true, true, true, true, false, false, false, false, false, true] rfl rfl (one_of HT_.out (by kernel_rfl)) (by decide) (fun K hK => ?_)
                                  refine goes_ Try.func14 (by kernel_rfl) rfl #[.agg #[.string a1_0, .slice A1_1 l1_1.length c1_1]] (by rfl) rfl rfl (by (try simp only [List.map_toArray, List.map_cons, List.map_nil]); first | done | rfl | (simp only [List.length_drop, List.length_take]; rfl)) ?_
                                  with_reducible refine (abugidalaw24_Case_base.calls a1_0 _ _ l1_1 t272 _ ?side1 ?side2 A40.out).mono ?_
                                  (case side1 => repeat (first | exact (Kd.C_below HR1_1.out HB.out) | (with_reducible refine Kd.C_alloc ?_ _) | (with_reducible refine Kd.C_drewN ?_ _) | (with_reducible refine Kd.C_drew ?_)))
                                  (case side2 => exact HC1_1.out)
                                  rintro e w47 ⟨rfl, hb⟩
                                  refine ⟨_, rfl, ?_⟩
                                  have n0_ := Aside0.mk (Kd.R_below (by (with_reducible repeat (first | apply Kd.R_alloc | apply Kd.R_drewN | apply Kd.R_drew)); exact HO_62.out) hb)
                                  have n1_ := Aside0.mk (blk_below (g := gb259) (o := .cells #[.string a1_0, .slice A1_1 l1_1.length c1_1] 24 (0, 0)) (by (with_reducible repeat (first | refine blk_drewN ?_ _ | refine blk_drew ?_ | refine blk_alloc ?_ _)); exact BK259.out) hb)
                                  have n2_ := Aside0.mk (blk_below (g := gb260) (o := .cells #[.int .u8 a2_0, .int .u8 a2_1, .string a2_2] 31 (0, 0)) (by (with_reducible repeat (first | refine blk_drewN ?_ _ | refine blk_drew ?_ | refine blk_alloc ?_ _)); exact BK260.out) hb)
                                  have n3_ := Aside0.mk (below_step (by repeat (first | (with_reducible first | exact HB.out | apply below_alloc | apply pw_below_drewN | apply below_drew1 | refine below_set ?_ GE259.out | refine below_set ?_ GE260.out) | exact HB.out)) hb)
                                  clear HO_62
                                  clear BK259
                                  clear BK260
                                  clear HB
                                  have HO_62 := n0_
                                  have BK259 := n1_
                                  have BK260 := n2_
                                  have HB := n3_
                                  clear n0_ n1_ n2_ n3_
                                  (try clear hb)
                                  (try clear hb2)
                                  (try clear hk)
                                  (try clear hi)
                                  refine hK.out _ _ ⟨(blk_cell BK259.out 0).trans rfl, (blk_cell BK259.out 1).trans rfl⟩ (fun hHeld => ?_)
                                  clear hK K
                                  refine norm_ (a' := ?_) ?_ ?_
                                  rotate_left
                                  · show Act.put _ (some 74) _ = _
                                    simp only [Act.put, List.setIfInBounds_toArray, List.set_cons_zero, List.set_cons_succ, i64_w, i32_w]
                                    rfl
                                  refine pure_ (i := 7) (N := some 75) (v := ?_) (a' := ?_) #[true, true, true, true, true, true, true, true, false, false, false, false, true] rfl rfl (any_of HT_.out (by kernel_rfl)) (fun _ _ _ h => h) (Or.inl ⟨by rfl, ?_⟩) ?_ ?_
                                  rotate_left
                                  · intro w'
                                    go_simp
                                    with_reducible rfl
                                  rotate_left
                                  · simp only [Act.put, List.setIfInBounds_toArray, List.set_cons_zero, List.set_cons_succ, i64_w, i32_w]
                                    rfl
                                  refine pure_ (i := 8) (N := some 76) (v := ?_) (a' := ?_) #[true, true, true, true, true, true, true, true, true, false, false, false, true] rfl rfl (any_of HT_.out (by kernel_rfl)) (fun _ _ _ h => h) (Or.inl ⟨by rfl, ?_⟩) ?_ ?_
                                  rotate_left
                                  · intro w'
                                    go_simp
                                    with_reducible rfl
                                  rotate_left
                                  · simp only [Act.put, List.setIfInBounds_toArray, List.set_cons_zero, List.set_cons_succ, i64_w, i32_w]
                                    rfl
                                  refine pure_ (i := 9) (N := some 77) (v := ?_) (a' := ?_) #[true, true, true, true, true, true, true, true, true, true, false, false, true] rfl rfl (any_of HT_.out (by kernel_rfl)) (fun _ _ _ h => h) (Or.inl ⟨by rfl, ?_⟩) ?_ ?_
                                  rotate_left
                                  · intro w'
                                    go_simp
                                    with_reducible rfl
                                  rotate_left
                                  · simp only [Act.put, List.setIfInBounds_toArray, List.set_cons_zero, List.set_cons_succ, i64_w, i32_w]
                                    rfl
                                  refine one_ (i := 10) (N := some 78) #[true, true, true, true, true, true, true, true, true, true, true, false, true] rfl rfl (one_of HT_.out (by kernel_rfl)) (by decide) (fun K hK => ?_)
                                  refine Kd.R_lit_step Kd.string _ 9 ?hg (N := 78) ?hd (xs := ([t270, t262, t271.extract 0 ((ji41) : Int).toNat] : List ByteArray)) (inner := [.string t270, .string t262, .string (t271.extract 0 ((ji41) : Int).toNat)]) (ok := fun _ => True) (okp := fun _ => True) ?hr ?hp (fun _ hk => hk) trivial (Below.refl _ _) (Nat.le_refl _) (by simp) ?_; (case hd => rfl); (case hg => rfl); (case hr => first | (go_simp; done) | (go_simp; rfl)); (case hp => exact (Reps.one (show Kd.M Kd.string _ _ _ t270 [.string t270] from rfl) (Reps.one (show Kd.M Kd.string _ _ _ t262 [.string t262] from rfl) (Reps.one (show Kd.M Kd.string _ _ _ (t271.extract 0 ((ji41) : Int).toNat) [.string (t271.extract 0 ((ji41) : Int).toNat)] from rfl) (Reps.none _ _)))))
                                  intro v274 w48 ho49 hb hg_ hnew_
                                  clear hg_ hnew_
                                  (first | rw [← Ny273.out] at ho49 | (simp only [Int.reduceToNat] at ho49; rw [← Ny273.out] at ho49))
                                  have n0_ := Aside0.mk (Kd.R_elder' (by (with_reducible repeat (first | apply Kd.R_alloc | apply Kd.R_drewN | apply Kd.R_drew)); exact HO_62.out) (Kd.R_base ho49) hb)
                                  have n1_ := Aside0.mk (Kd.R_lower (Kd.R_new' ho49 (Kd.R_lt (by (with_reducible repeat (first | apply Kd.R_alloc | apply Kd.R_drewN | apply Kd.R_drew)); exact HO_62.out))) (below_size (by repeat (first | (with_reducible first | exact HB.out | apply below_alloc | apply pw_below_drewN | apply below_drew1 | refine below_set ?_ GE259.out | refine below_set ?_ GE260.out) | exact HB.out))))
                                  have n2_ := Aside0.mk (blk_below (g := gb259) (o := .cells #[.string a1_0, .slice A1_1 l1_1.length c1_1] 24 (0, 0)) (by (with_reducible repeat (first | refine blk_drewN ?_ _ | refine blk_drew ?_ | refine blk_alloc ?_ _)); exact BK259.out) hb)
                                  have n3_ := Aside0.mk (blk_below (g := gb260) (o := .cells #[.int .u8 a2_0, .int .u8 a2_1, .string a2_2] 31 (0, 0)) (by (with_reducible repeat (first | refine blk_drewN ?_ _ | refine blk_drew ?_ | refine blk_alloc ?_ _)); exact BK260.out) hb)
                                  have n4_ := Aside0.mk (below_step (by repeat (first | (with_reducible first | exact HB.out | apply below_alloc | apply pw_below_drewN | apply below_drew1 | refine below_set ?_ GE259.out | refine below_set ?_ GE260.out) | exact HB.out)) hb)
                                  clear HO_62
                                  clear BK259
                                  clear BK260
                                  clear HB
                                  have HO_62 := n0_
                                  have HO275 := n1_
                                  have BK259 := n2_
                                  have BK260 := n3_
                                  have HB := n4_
                                  clear n0_ n1_ n2_ n3_ n4_
                                  clear hb ho49
                                  obtain ⟨Ao50, co50, eo50⟩ := Kd.R_slice HO275.out
                                  (first | subst eo50 | (injection eo50 with f1_ f2_ f3_; have f4_ := f1_.symm; have f5_ := f3_.symm; clear f1_ f2_ f3_; subst f4_; subst f5_))
                                  refine hK.out _ _ ⟨(blk_cell BK259.out 0).trans rfl, (blk_cell BK259.out 1).trans rfl⟩ (fun hHeld => ?_)
                                  clear hK K
                                  refine norm_ (a' := ?_) ?_ ?_
                                  rotate_left
                                  · show Act.put _ (some 78) _ = _
                                    simp only [Act.put, List.setIfInBounds_toArray, List.set_cons_zero, List.set_cons_succ, i64_w, i32_w]
                                    rfl
                                  refine pure_ (i := 11) (N := some 79) (v := ?_) (a' := ?_) #[true, true, true, true, true, true, true, true, true, true, true, true, true] rfl rfl (any_of HT_.out (by kernel_rfl)) (fun _ _ _ h => h) (Or.inl ⟨by rfl, ?_⟩) ?_ ?_
                                  rotate_left
                                  · intro w'
                                    go_simp
                                    with_reducible rfl
                                  rotate_left
                                  · simp only [Act.put, List.setIfInBounds_toArray, List.set_cons_zero, List.set_cons_succ, i64_w, i32_w]
                                    rfl
                                  refine done_ (done_of HT_.out (by kernel_rfl)) ?_
                                  try go_wp2
                                  go_loopg [80] k1 (fun kq v80 w' => ∃ (x80_2 : Int), v80 = .int .i64 x80_2 ∧ Aside0 (abugidalaw24_DiffApplies.l1 kq t262 t261 (rdOf ByteArray.empty y266 x64_1) y266 (y266.length : Int) x64_1 y273 (y273.length : Int) x80_2 a1_0 l1_1 = some r) ∧ Aside0 (kq ≤ k1) ∧ Aside0 (Kd.R Kd.string 9 w' w.heap.size (fun k_ => some k_ ≠ ((.slice Ao50 y273.length co50) : Value).ownBlock) (.slice (some ad269) y266.length co34) y266) ∧ Aside0 (Kd.R Kd.string 9 w' w.heap.size (fun k_ => some k_ ≠ ((.slice (some ad269) y266.length co34) : Value).ownBlock) (.slice Ao50 y273.length co50) y273) ∧ Aside0 (w'.heap[gb259]? = some (.cells #[.string a1_0, (.slice A1_1 l1_1.length c1_1)] 24 (0, 0))) ∧ Aside0 (w'.heap[gb260]? = some (.cells #[.int .u8 a2_0, .int .u8 a2_1, .string a2_2] 31 (0, 0))) ∧ Aside0 (Below w.heap.size w w'))
                                  case atStart => exact ⟨(0), (by first | rfl | (simp; done) | (simp [*]; done)), H', ⟨Nat.le_refl _⟩, ⟨by (with_reducible repeat (first | apply Kd.R_alloc | apply Kd.R_drewN | apply Kd.R_drew)); exact Kd.R_mono HO_62.out (fun _ hk => hk.2)⟩, ⟨by (with_reducible repeat (first | apply Kd.R_alloc | apply Kd.R_drewN | apply Kd.R_drew)); exact Kd.R_mono HO275.out (fun _ hk => hk.2)⟩, ⟨by (with_reducible repeat (first | refine blk_drewN ?_ _ | refine blk_drew ?_ | refine blk_alloc ?_ _)); exact BK259.out⟩, ⟨by (with_reducible repeat (first | refine blk_drewN ?_ _ | refine blk_drew ?_ | refine blk_alloc ?_ _)); exact BK260.out⟩, ⟨by repeat (first | (with_reducible first | exact HB.out | apply below_alloc | apply pw_below_drewN | apply below_drew1 | refine below_set ?_ GE259.out | refine below_set ?_ GE260.out) | exact HB.out)⟩⟩
                                  case round =>
                                    clear H'
                                    try clear c1
                                    try clear c2
                                    try clear p2
                                    try clear q2
                                    try clear hx2
                                    try clear c3
                                    try clear c4
                                    try clear p6
                                    try clear c9
                                    try clear c9b0
                                    try clear c9b1
                                    try clear c10
                                    try clear c11
                                    try clear c12
                                    try clear c12b0
                                    try clear c12b1
                                    try clear c13
                                    try clear c13b0
                                    try clear c13b1
                                    try clear c14
                                    try clear c15
                                    try clear c15b0
                                    try clear c15b1
                                    try clear c16
                                    try clear c16b0
                                    try clear c16b1
                                    try clear c17
                                    try clear c17b0
                                    try clear c17b1
                                    try clear c17b2
                                    try clear c18
                                    try clear c18b0
                                    try clear c18b1
                                    try clear c19
                                    try clear c19b0
                                    try clear c19b1
                                    try clear c20
                                    try clear c20b0
                                    try clear c20b1
                                    try clear c20b2
                                    try clear p26
                                    try clear q26
                                    try clear hx26
                                    try clear c29
                                    try clear c35
                                    try clear c35b0
                                    try clear c36
                                    try clear c36b0
                                    try clear c37
                                    try clear c37b0
                                    try clear c42
                                    try clear c42b0
                                    try clear c42b1
                                    try clear c43
                                    try clear c43b0
                                    try clear c43b1
                                    try clear hcz30_0
                                    try clear hcz30_1
                                    try clear hcz30_2
                                    try clear hfz30_0
                                    try clear hfz30_1
                                    try clear hfz30_2
                                    try clear hx269_0
                                    try clear p2
                                    try clear p269
                                    try clear p6
                                    try clear q269
                                    obtain ⟨x80_2, rfl, HA, HK2, HO_62, HO_78, BK259, BK260, HB⟩ := hrel
                                    cases gk with
                                    | zero => exact absurd HA.out (by simp [abugidalaw24_DiffApplies.l1])
                                    | succ k2 =>
                                      have H := HA.out
                                      clear HA
                                      simp only [abugidalaw24_DiffApplies.l1] at H
                                      by_cases c51 : x80_2 < (y273.length : Int)
                                      · rw [if_pos c51] at H
                                        have c51b0 : decide (x80_2 < (y273.length : Int)) = true := decide_eq_true c51
                                        clear c51
                                        by_cases c52 : 0 ≤ x80_2
                                        · rw [if_pos c52] at H
                                          have c52b0 : decide (0 ≤ x80_2) = true := decide_eq_true c52
                                          clear c52
                                          by_cases c53 : x80_2 < (y273.length : Int)
                                          · rw [if_pos c53] at H
                                            have c53b0 : decide (x80_2 < (y273.length : Int)) = true := decide_eq_true c53
                                            clear c53
                                            replace H := Option.bind_eq_some_iff.mp H
                                            obtain ⟨⟨t277, t278⟩, A540, H⟩ := H
                                            try dsimp only at H
                                            have A54 := Aside0.mk A540
                                            clear A540
                                            replace H := Option.bind_eq_some_iff.mp H
                                            obtain ⟨⟨t279, t280⟩, A550, H⟩ := H
                                            try dsimp only at H
                                            have A55 := Aside0.mk A550
                                            clear A550
                                            by_cases c56 : t277.toList = t279.toList
                                            · rw [if_pos c56] at H
                                              have c56b0 : (t277.toList == t279.toList) = true := beq_iff_eq.mpr c56
                                              have c56b1 : (t277.toList != t279.toList) = false := bne_eq_false_iff_eq.mpr c56
                                              clear c56
                                              by_cases c57 : t278 = t280
                                              · rw [if_pos c57] at H
                                                have c57b0 : (t278 == t280) = true := beq_iff_eq.mpr c57
                                                have c57b1 : (t278 != t280) = false := bne_eq_false_iff_eq.mpr c57
                                                clear c57
                                                have H' := Aside0.mk H
                                                clear H
                                                have p276 : 0 ≤ (x80_2 : Int) := of_decide_eq_true (by first | (with_reducible assumption) | assumption)
                                                have q276 : x80_2 < (y273.length : Int) := of_decide_eq_true (by first | (with_reducible assumption) | assumption)
                                                obtain ⟨ad276, e276, hx276_0⟩ := Kd.at_string (Kd.R_reads' HO_78.out).2.2 x80_2 p276 q276
                                                cases e276
                                                replace p276 := eq_true p276
                                                replace q276 := eq_true q276
                                                go_wp2_with (first | ((with_reducible refine gate_callee (f := 16) rfl ?_); refine goesL_ (some 87) rfl rfl Try.func16 (by kernel_rfl) rfl #[.string (rdOf ByteArray.empty y273 x80_2), .string (rdOf ByteArray.empty y266 x64_1)] rfl (by (try simp only [List.map_toArray, List.map_cons, List.map_nil]); first | done | rfl | (simp only [List.length_drop, List.length_take]; rfl)) ?_; (with_reducible refine (diff_Apply.calls k2 (rdOf ByteArray.empty y273 x80_2) (rdOf ByteArray.empty y266 x64_1) t277 t278 _ A54.out).mono ?_); rintro e w58 ⟨rfl, hb⟩; refine ⟨_, rfl, ?_⟩; have n0_ := Aside0.mk (Kd.R_below (by (with_reducible repeat (first | apply Kd.R_alloc | apply Kd.R_drewN | apply Kd.R_drew)); exact HO_62.out) hb); have n1_ := Aside0.mk (Kd.R_below (by (with_reducible repeat (first | apply Kd.R_alloc | apply Kd.R_drewN | apply Kd.R_drew)); exact HO_78.out) hb); have n2_ := Aside0.mk (blk_below (g := gb259) (o := .cells #[.string a1_0, .slice A1_1 l1_1.length c1_1] 24 (0, 0)) (by (with_reducible repeat (first | refine blk_drewN ?_ _ | refine blk_drew ?_ | refine blk_alloc ?_ _)); exact BK259.out) hb); have n3_ := Aside0.mk (blk_below (g := gb260) (o := .cells #[.int .u8 a2_0, .int .u8 a2_1, .string a2_2] 31 (0, 0)) (by (with_reducible repeat (first | refine blk_drewN ?_ _ | refine blk_drew ?_ | refine blk_alloc ?_ _)); exact BK260.out) hb); have n4_ := Aside0.mk (below_step (by repeat (first | (with_reducible first | exact HB.out | apply below_alloc | apply pw_below_drewN | apply below_drew1 | refine below_set ?_ GE259.out | refine below_set ?_ GE260.out) | exact HB.out)) hb); clear HO_62; clear HO_78; clear BK259; clear BK260; clear HB; have HO_62 := n0_; have HO_78 := n1_; have BK259 := n2_; have BK260 := n3_; have HB := n4_; clear n0_ n1_ n2_ n3_ n4_; (try clear hb); (try clear hb2); (try clear hk); (try clear hi)) | ((with_reducible refine gate_callee (f := 17) rfl ?_); refine goesL_ (some 93) rfl rfl Try.func17 (by kernel_rfl) rfl #[.string (rdOf ByteArray.empty y273 x80_2), .string (rdOf ByteArray.empty y266 x64_1)] rfl (by (try simp only [List.map_toArray, List.map_cons, List.map_nil]); first | done | rfl | (simp only [List.length_drop, List.length_take]; rfl)) ?_; (with_reducible refine (abugidaref24_Apply.calls k2 (rdOf ByteArray.empty y273 x80_2) (rdOf ByteArray.empty y266 x64_1) t279 t280 _ A55.out).mono ?_); rintro e w59 ⟨rfl, hb⟩; refine ⟨_, rfl, ?_⟩; have n0_ := Aside0.mk (Kd.R_below (by (with_reducible repeat (first | apply Kd.R_alloc | apply Kd.R_drewN | apply Kd.R_drew)); exact HO_62.out) hb); have n1_ := Aside0.mk (Kd.R_below (by (with_reducible repeat (first | apply Kd.R_alloc | apply Kd.R_drewN | apply Kd.R_drew)); exact HO_78.out) hb); have n2_ := Aside0.mk (blk_below (g := gb259) (o := .cells #[.string a1_0, .slice A1_1 l1_1.length c1_1] 24 (0, 0)) (by (with_reducible repeat (first | refine blk_drewN ?_ _ | refine blk_drew ?_ | refine blk_alloc ?_ _)); exact BK259.out) hb); have n3_ := Aside0.mk (blk_below (g := gb260) (o := .cells #[.int .u8 a2_0, .int .u8 a2_1, .string a2_2] 31 (0, 0)) (by (with_reducible repeat (first | refine blk_drewN ?_ _ | refine blk_drew ?_ | refine blk_alloc ?_ _)); exact BK260.out) hb); have n4_ := Aside0.mk (below_step (by repeat (first | (with_reducible first | exact HB.out | apply below_alloc | apply pw_below_drewN | apply below_drew1 | refine below_set ?_ GE259.out | refine below_set ?_ GE260.out) | exact HB.out)) hb); clear HO_62; clear HO_78; clear BK259; clear BK260; clear HB; have HO_62 := n0_; have HO_78 := n1_; have BK259 := n2_; have BK260 := n3_; have HB := n4_; clear n0_ n1_ n2_ n3_ n4_; (try clear hb); (try clear hb2); (try clear hk); (try clear hi)))
                                                go_roundg k2
                                                case measure => have := HK1.out; have := HK2.out; omega
                                                case rel => exact ⟨(wrap64 (x80_2 + 1)), (by first | rfl | (simp; done) | (simp [*]; done)), H', ⟨by have := HK1.out; have := HK2.out; omega⟩, ⟨by (with_reducible repeat (first | apply Kd.R_alloc | apply Kd.R_drewN | apply Kd.R_drew)); exact HO_62.out⟩, ⟨by (with_reducible repeat (first | apply Kd.R_alloc | apply Kd.R_drewN | apply Kd.R_drew)); exact HO_78.out⟩, ⟨by (with_reducible repeat (first | refine blk_drewN ?_ _ | refine blk_drew ?_ | refine blk_alloc ?_ _)); exact BK259.out⟩, ⟨by (with_reducible repeat (first | refine blk_drewN ?_ _ | refine blk_drew ?_ | refine blk_alloc ?_ _)); exact BK260.out⟩, ⟨by repeat (first | (with_reducible first | exact HB.out | apply below_alloc | apply pw_below_drewN | apply below_drew1 | refine below_set ?_ GE259.out | refine below_set ?_ GE260.out) | exact HB.out)⟩⟩
                                              · rw [if_neg c57] at H
                                                have c57b0 : (t278 == t280) = false := beq_eq_false_iff_ne.mpr c57
                                                have c57b1 : (t278 != t280) = true := bne_iff_ne.mpr c57
                                                obtain rfl := Option.some.inj H
                                                have p276 : 0 ≤ (x80_2 : Int) := of_decide_eq_true (by first | (with_reducible assumption) | assumption)
                                                have q276 : x80_2 < (y273.length : Int) := of_decide_eq_true (by first | (with_reducible assumption) | assumption)
                                                obtain ⟨ad276, e276, hx276_0⟩ := Kd.at_string (Kd.R_reads' HO_78.out).2.2 x80_2 p276 q276
                                                cases e276
                                                replace p276 := eq_true p276
                                                replace q276 := eq_true q276
                                                go_wp2_with (first | ((with_reducible refine gate_callee (f := 16) rfl ?_); refine goesL_ (some 87) rfl rfl Try.func16 (by kernel_rfl) rfl #[.string (rdOf ByteArray.empty y273 x80_2), .string (rdOf ByteArray.empty y266 x64_1)] rfl (by (try simp only [List.map_toArray, List.map_cons, List.map_nil]); first | done | rfl | (simp only [List.length_drop, List.length_take]; rfl)) ?_; (with_reducible refine (diff_Apply.calls k2 (rdOf ByteArray.empty y273 x80_2) (rdOf ByteArray.empty y266 x64_1) t277 t278 _ A54.out).mono ?_); rintro e w60 ⟨rfl, hb⟩; refine ⟨_, rfl, ?_⟩; have n0_ := Aside0.mk (Kd.R_below (by (with_reducible repeat (first | apply Kd.R_alloc | apply Kd.R_drewN | apply Kd.R_drew)); exact HO_62.out) hb); have n1_ := Aside0.mk (Kd.R_below (by (with_reducible repeat (first | apply Kd.R_alloc | apply Kd.R_drewN | apply Kd.R_drew)); exact HO_78.out) hb); have n2_ := Aside0.mk (blk_below (g := gb259) (o := .cells #[.string a1_0, .slice A1_1 l1_1.length c1_1] 24 (0, 0)) (by (with_reducible repeat (first | refine blk_drewN ?_ _ | refine blk_drew ?_ | refine blk_alloc ?_ _)); exact BK259.out) hb); have n3_ := Aside0.mk (blk_below (g := gb260) (o := .cells #[.int .u8 a2_0, .int .u8 a2_1, .string a2_2] 31 (0, 0)) (by (with_reducible repeat (first | refine blk_drewN ?_ _ | refine blk_drew ?_ | refine blk_alloc ?_ _)); exact BK260.out) hb); have n4_ := Aside0.mk (below_step (by repeat (first | (with_reducible first | exact HB.out | apply below_alloc | apply pw_below_drewN | apply below_drew1 | refine below_set ?_ GE259.out | refine below_set ?_ GE260.out) | exact HB.out)) hb); clear HO_62; clear HO_78; clear BK259; clear BK260; clear HB; have HO_62 := n0_; have HO_78 := n1_; have BK259 := n2_; have BK260 := n3_; have HB := n4_; clear n0_ n1_ n2_ n3_ n4_; (try clear hb); (try clear hb2); (try clear hk); (try clear hi)) | ((with_reducible refine gate_callee (f := 17) rfl ?_); refine goesL_ (some 93) rfl rfl Try.func17 (by kernel_rfl) rfl #[.string (rdOf ByteArray.empty y273 x80_2), .string (rdOf ByteArray.empty y266 x64_1)] rfl (by (try simp only [List.map_toArray, List.map_cons, List.map_nil]); first | done | rfl | (simp only [List.length_drop, List.length_take]; rfl)) ?_; (with_reducible refine (abugidaref24_Apply.calls k2 (rdOf ByteArray.empty y273 x80_2) (rdOf ByteArray.empty y266 x64_1) t279 t280 _ A55.out).mono ?_); rintro e w61 ⟨rfl, hb⟩; refine ⟨_, rfl, ?_⟩; have n0_ := Aside0.mk (Kd.R_below (by (with_reducible repeat (first | apply Kd.R_alloc | apply Kd.R_drewN | apply Kd.R_drew)); exact HO_62.out) hb); have n1_ := Aside0.mk (Kd.R_below (by (with_reducible repeat (first | apply Kd.R_alloc | apply Kd.R_drewN | apply Kd.R_drew)); exact HO_78.out) hb); have n2_ := Aside0.mk (blk_below (g := gb259) (o := .cells #[.string a1_0, .slice A1_1 l1_1.length c1_1] 24 (0, 0)) (by (with_reducible repeat (first | refine blk_drewN ?_ _ | refine blk_drew ?_ | refine blk_alloc ?_ _)); exact BK259.out) hb); have n3_ := Aside0.mk (blk_below (g := gb260) (o := .cells #[.int .u8 a2_0, .int .u8 a2_1, .string a2_2] 31 (0, 0)) (by (with_reducible repeat (first | refine blk_drewN ?_ _ | refine blk_drew ?_ | refine blk_alloc ?_ _)); exact BK260.out) hb); have n4_ := Aside0.mk (below_step (by repeat (first | (with_reducible first | exact HB.out | apply below_alloc | apply pw_below_drewN | apply below_drew1 | refine below_set ?_ GE259.out | refine below_set ?_ GE260.out) | exact HB.out)) hb); clear HO_62; clear HO_78; clear BK259; clear BK260; clear HB; have HO_62 := n0_; have HO_78 := n1_; have BK259 := n2_; have BK260 := n3_; have HB := n4_; clear n0_ n1_ n2_ n3_ n4_; (try clear hb); (try clear hb2); (try clear hk); (try clear hi)))
                                                go_ret
                                                exact ⟨by first | rfl | (simp [errW_none, errW_some] <;> rfl) | (simp only [← hji10, ← hji11, ← hji14, ← hji41]; first | rfl | (simp [errW_none, errW_some] <;> rfl)) | (simp [*, errW_none, errW_some] <;> rfl), by repeat (first | (with_reducible first | exact HB.out | apply below_alloc | apply pw_below_drewN | apply below_drew1 | refine below_set ?_ GE259.out | refine below_set ?_ GE260.out) | exact HB.out)⟩
                                            · rw [if_neg c56] at H
                                              have c56b0 : (t277.toList == t279.toList) = false := beq_eq_false_iff_ne.mpr c56
                                              have c56b1 : (t277.toList != t279.toList) = true := bne_iff_ne.mpr c56
                                              obtain rfl := Option.some.inj H
                                              have p276 : 0 ≤ (x80_2 : Int) := of_decide_eq_true (by first | (with_reducible assumption) | assumption)
                                              have q276 : x80_2 < (y273.length : Int) := of_decide_eq_true (by first | (with_reducible assumption) | assumption)
                                              obtain ⟨ad276, e276, hx276_0⟩ := Kd.at_string (Kd.R_reads' HO_78.out).2.2 x80_2 p276 q276
                                              cases e276
                                              replace p276 := eq_true p276
                                              replace q276 := eq_true q276
                                              go_wp2_with (first | ((with_reducible refine gate_callee (f := 16) rfl ?_); refine goesL_ (some 87) rfl rfl Try.func16 (by kernel_rfl) rfl #[.string (rdOf ByteArray.empty y273 x80_2), .string (rdOf ByteArray.empty y266 x64_1)] rfl (by (try simp only [List.map_toArray, List.map_cons, List.map_nil]); first | done | rfl | (simp only [List.length_drop, List.length_take]; rfl)) ?_; (with_reducible refine (diff_Apply.calls k2 (rdOf ByteArray.empty y273 x80_2) (rdOf ByteArray.empty y266 x64_1) t277 t278 _ A54.out).mono ?_); rintro e w62 ⟨rfl, hb⟩; refine ⟨_, rfl, ?_⟩; have n0_ := Aside0.mk (Kd.R_below (by (with_reducible repeat (first | apply Kd.R_alloc | apply Kd.R_drewN | apply Kd.R_drew)); exact HO_62.out) hb); have n1_ := Aside0.mk (Kd.R_below (by (with_reducible repeat (first | apply Kd.R_alloc | apply Kd.R_drewN | apply Kd.R_drew)); exact HO_78.out) hb); have n2_ := Aside0.mk (blk_below (g := gb259) (o := .cells #[.string a1_0, .slice A1_1 l1_1.length c1_1] 24 (0, 0)) (by (with_reducible repeat (first | refine blk_drewN ?_ _ | refine blk_drew ?_ | refine blk_alloc ?_ _)); exact BK259.out) hb); have n3_ := Aside0.mk (blk_below (g := gb260) (o := .cells #[.int .u8 a2_0, .int .u8 a2_1, .string a2_2] 31 (0, 0)) (by (with_reducible repeat (first | refine blk_drewN ?_ _ | refine blk_drew ?_ | refine blk_alloc ?_ _)); exact BK260.out) hb); have n4_ := Aside0.mk (below_step (by repeat (first | (with_reducible first | exact HB.out | apply below_alloc | apply pw_below_drewN | apply below_drew1 | refine below_set ?_ GE259.out | refine below_set ?_ GE260.out) | exact HB.out)) hb); clear HO_62; clear HO_78; clear BK259; clear BK260; clear HB; have HO_62 := n0_; have HO_78 := n1_; have BK259 := n2_; have BK260 := n3_; have HB := n4_; clear n0_ n1_ n2_ n3_ n4_; (try clear hb); (try clear hb2); (try clear hk); (try clear hi)) | ((with_reducible refine gate_callee (f := 17) rfl ?_); refine goesL_ (some 93) rfl rfl Try.func17 (by kernel_rfl) rfl #[.string (rdOf ByteArray.empty y273 x80_2), .string (rdOf ByteArray.empty y266 x64_1)] rfl (by (try simp only [List.map_toArray, List.map_cons, List.map_nil]); first | done | rfl | (simp only [List.length_drop, List.length_take]; rfl)) ?_; (with_reducible refine (abugidaref24_Apply.calls k2 (rdOf ByteArray.empty y273 x80_2) (rdOf ByteArray.empty y266 x64_1) t279 t280 _ A55.out).mono ?_); rintro e w63 ⟨rfl, hb⟩; refine ⟨_, rfl, ?_⟩; have n0_ := Aside0.mk (Kd.R_below (by (with_reducible repeat (first | apply Kd.R_alloc | apply Kd.R_drewN | apply Kd.R_drew)); exact HO_62.out) hb); have n1_ := Aside0.mk (Kd.R_below (by (with_reducible repeat (first | apply Kd.R_alloc | apply Kd.R_drewN | apply Kd.R_drew)); exact HO_78.out) hb); have n2_ := Aside0.mk (blk_below (g := gb259) (o := .cells #[.string a1_0, .slice A1_1 l1_1.length c1_1] 24 (0, 0)) (by (with_reducible repeat (first | refine blk_drewN ?_ _ | refine blk_drew ?_ | refine blk_alloc ?_ _)); exact BK259.out) hb); have n3_ := Aside0.mk (blk_below (g := gb260) (o := .cells #[.int .u8 a2_0, .int .u8 a2_1, .string a2_2] 31 (0, 0)) (by (with_reducible repeat (first | refine blk_drewN ?_ _ | refine blk_drew ?_ | refine blk_alloc ?_ _)); exact BK260.out) hb); have n4_ := Aside0.mk (below_step (by repeat (first | (with_reducible first | exact HB.out | apply below_alloc | apply pw_below_drewN | apply below_drew1 | refine below_set ?_ GE259.out | refine below_set ?_ GE260.out) | exact HB.out)) hb); clear HO_62; clear HO_78; clear BK259; clear BK260; clear HB; have HO_62 := n0_; have HO_78 := n1_; have BK259 := n2_; have BK260 := n3_; have HB := n4_; clear n0_ n1_ n2_ n3_ n4_; (try clear hb); (try clear hb2); (try clear hk); (try clear hi)))
                                              go_ret
                                              exact ⟨by first | rfl | (simp [errW_none, errW_some] <;> rfl) | (simp only [← hji10, ← hji11, ← hji14, ← hji41]; first | rfl | (simp [errW_none, errW_some] <;> rfl)) | (simp [*, errW_none, errW_some] <;> rfl), by repeat (first | (with_reducible first | exact HB.out | apply below_alloc | apply pw_below_drewN | apply below_drew1 | refine below_set ?_ GE259.out | refine below_set ?_ GE260.out) | exact HB.out)⟩
                                          · rw [if_neg c53] at H
                                            exact absurd H (by simp)
                                        · rw [if_neg c52] at H
                                          exact absurd H (by simp)
                                      · rw [if_neg c51] at H
                                        have c51b0 : decide (x80_2 < (y273.length : Int)) = false := decide_eq_false c51
                                        clear c51
                                        have H' := Aside0.mk H
                                        clear H
                                        go_wp2
                                        go_roundg k2
                                        case measure => have := HK1.out; have := HK2.out; omega
                                        case rel => exact ⟨(wrap64 (x64_1 + 1)), (by first | rfl | (simp; done) | (simp [*]; done)), H', ⟨by have := HK1.out; have := HK2.out; omega⟩, ⟨by (with_reducible repeat (first | apply Kd.R_alloc | apply Kd.R_drewN | apply Kd.R_drew)); exact Kd.R_mono HO_62.out (fun _ hk => trivial)⟩, ⟨by (with_reducible repeat (first | refine blk_drewN ?_ _ | refine blk_drew ?_ | refine blk_alloc ?_ _)); exact BK259.out⟩, ⟨by (with_reducible repeat (first | refine blk_drewN ?_ _ | refine blk_drew ?_ | refine blk_alloc ?_ _)); exact BK260.out⟩, ⟨by repeat (first | (with_reducible first | exact HB.out | apply below_alloc | apply pw_below_drewN | apply below_drew1 | refine below_set ?_ GE259.out | refine below_set ?_ GE260.out) | exact HB.out)⟩⟩
                                · rw [if_neg c43] at H
                                  exact absurd H (by simp)
                              · rw [if_neg c42] at H
                                exact absurd H (by simp)
                            · rw [if_neg c37] at H
                              exact absurd H (by simp)
                          · rw [if_neg c36] at H
                            exact absurd H (by simp)
                        · rw [if_neg c35] at H
                          have c35b0 : decide (x64_1 < (y266.length : Int)) = false := decide_eq_false c35
                          clear c35
                          obtain rfl := Option.some.inj H
                          go_wp2
                          go_ret
                          exact ⟨by first | rfl | (simp [errW_none, errW_some] <;> rfl) | (simp only [← hji10, ← hji11, ← hji14]; first | rfl | (simp [errW_none, errW_some] <;> rfl)) | (simp [*, errW_none, errW_some] <;> rfl), by repeat (first | (with_reducible first | exact HB.out | apply below_alloc | apply pw_below_drewN | apply below_drew1 | refine below_set ?_ GE259.out | refine below_set ?_ GE260.out) | exact HB.out)⟩
                  · rw [if_neg c20] at H
                    exact absurd H (by simp)
                · rw [if_neg c19] at H
                  exact absurd H (by simp)
              · rw [if_neg c18] at H
                exact absurd H (by simp)
            · rw [if_neg c17] at H
              exact absurd H (by simp)
          · rw [if_neg c16] at H
            exact absurd H (by simp)
        · rw [if_neg c15] at H
          exact absurd H (by simp)
      · rw [if_neg c13] at H
        exact absurd H (by simp)
    · rw [if_neg c12] at H
      exact absurd H (by simp)

end Go.Proofs.Ytjjpiedcdcdejaa.Pb
