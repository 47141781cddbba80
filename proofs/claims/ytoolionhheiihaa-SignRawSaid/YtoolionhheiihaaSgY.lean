/- What the laws of Sign share. -/
import Derived.Test.YtoolionhheiihaaSgS
set_option linter.unusedVariables false
set_option linter.unusedSimpArgs false
namespace Go.Proofs.Ytoolionhheiihaa.Sg
open Go.RowKit Go.Proofs.YtoolionhheiihaaW.PrintWords Go.Proofs.YtoolionhheiihaaW.PrintLast Go.Proofs.YtoolionhheiihaaW.PrintMore Go.Proofs.Ytoolionhheiihaa.Dg Go.Proofs.Ytoolionhheiihaa.Gv Go.Proofs.Ytoolionhheiihaa.Pb Go.Proofs.Ytoolionhheiihaa.Gw Go.Proofs.Ytoolionhheiihaa.Pure
attribute [local go_sem] max2_int min2_int max_two min_two
theorem Check_pair (pub msg sig : ByteArray) (hs : sig.size ≤ 1000) (hm : msg.size ≤ 9000) : ∃ r : Bool, (∀ w : World, Calls Try.prog 18 #[.string pub, .string msg, .string sig] w fun e w' => e = .returned (.bool r) ∧ Below w.heap.size w w') ∧
    (∀ w : World, Calls Try.prog 33 #[.string pub, .string msg, .string sig] w fun e w' => e = .returned (.bool r) ∧ Below w.heap.size w w') := by
  obtain ⟨r, h1, h2⟩ := Check_calls pub msg sig hs hm
  obtain ⟨k, hk⟩ := h2.rounds
  exact ⟨r, h1, fun w => abugidaref04_Check.calls k pub msg sig r w hk⟩
/-- The first 200 bytes. -/
def c200 (a : ByteArray) : ByteArray := a.extract 0 (min a.size 200)
theorem c200_size (a : ByteArray) : (c200 a).size ≤ 200 := by simp [c200, ByteArray.size_extract]; omega
theorem short_calls (a : ByteArray) (w : World) : Calls Try.prog 11 #[.string a] w fun e w' => e = .returned (.string (c200 a)) ∧ Below w.heap.size w w' := by
  refine abugidalaw04_short.calls a (c200 a) w ?_
  unfold abugidalaw04_short.f
  have hm : mn (a.size : Int) 200 = ((min a.size 200 : Nat) : Int) := by unfold mn; split <;> omega
  rw [hm, if_pos (by omega), if_pos (by omega)]
  rfl
theorem mod_calls (a : Int) (m : Nat) (h0 : -9223372036854775808 ≤ a) (h1 : a ≤ 9223372036854775807) (hm : 0 < m) (hm2 : m ≤ 1000) (w : World) : Calls Try.prog 12 #[.int .i64 a, .int .i64 m] w fun e w' => e = .returned (.int .i64 (a % m)) ∧ Drawn0 w w' := by
  refine abugidaref01_Mod.calls a m _ w ?_
  unfold abugidaref01_Mod.f
  rw [if_neg (by omega)]
  have e : Int.tmod a m = if 0 ≤ a then a % m else -((-a) % m) := by
    split
    · exact Int.tmod_eq_emod_of_nonneg ‹_›
    · have := Int.neg_tmod (-a) m
      rw [Int.neg_neg] at this
      rw [this, Int.tmod_eq_emod_of_nonneg (by omega)]
  have b1 := Int.emod_nonneg a (b := (m : Int)) (by omega)
  have b2 := Int.emod_lt_of_pos a (b := (m : Int)) (by omega)
  have b3 := Int.emod_nonneg (-a) (b := (m : Int)) (by omega)
  have b4 := Int.emod_lt_of_pos (-a) (b := (m : Int)) (by omega)
  rw [w64 (by rw [e]; split <;> omega) (by rw [e]; split <;> omega), Int.tmod_eq_emod_of_nonneg (by rw [e]; split <;> omega), Int.add_emod_right, e]
  congr 1
  split
  · exact Int.emod_emod_of_dvd a (Int.dvd_refl _)
  · have h := Int.emod_add_mul_ediv (-a) m
    have e2 : -((-a) % (m : Int)) = a + m * ((-a) / m) := by
      generalize (m : Int) * ((-a) / m) = y at *
      omega
    rw [e2, Int.add_mul_emod_self_left]
theorem some_calls (a b : Int) (ha : 0 ≤ a ∧ a ≤ 255) (hb : 0 ≤ b ∧ b ≤ 255) (w : World) : ∃ n i : Nat, 1 ≤ n ∧ n ≤ 5 ∧ i < n ∧ (∀ w : World, Calls Try.prog 17 #[.int .u8 a, .int .u8 b] w fun e w' => e = .returned (.tuple #[.int .i64 n, .int .i64 i]) ∧ Drawn0 w w') := by
  obtain ⟨a, rfl⟩ : ∃ m : Nat, a = m := ⟨a.toNat, by omega⟩
  obtain ⟨b, rfl⟩ : ∃ m : Nat, b = m := ⟨b.toNat, by omega⟩
  refine ⟨1 + a % 5, b % (1 + a % 5), by omega, by omega, Nat.mod_lt _ (by omega), fun w => abugidalaw04_some.calls a b _ _ w ?_⟩
  unfold abugidalaw04_some.f
  have e1 : wrap64 (1 + Int.tmod (wrap64 (a : Int)) 5) = ((1 + a % 5 : Nat) : Int) := by
    rw [w64 (x := (a : Int)) (by omega) (by omega), Int.tmod_eq_emod_of_nonneg (by omega), w64 (by omega) (by omega)]
    omega
  rw [e1, w64 (x := (b : Int)) (by omega) (by omega), if_neg (by omega), Int.tmod_eq_emod_of_nonneg (by omega)]
  rfl
/-- A string beside itself. -/
theorem same_toList (a : ByteArray) : (a.toList == a.toList) = true := beq_self_eq_true _
theorem drawn_below {W W' : World} (h : Drawn0 W W') : Below W.heap.size W W' := by
  obtain ⟨m, h⟩ := h
  rw [h]
  exact pw_below_drewN (Below.refl _ _) m
theorem i64_of {a : Int} (h : (Lit.int .i64 a).wf = true) : -9223372036854775808 ≤ a ∧ a ≤ 9223372036854775807 := by simp [Lit.wf, IntKind.min, IntKind.max, IntKind.signed, IntKind.bits] at h; omega
theorem u8_of {a : Int} (h : (Lit.int .u8 a).wf = true) : 0 ≤ a ∧ a ≤ 255 := by simp [Lit.wf, IntKind.min, IntKind.max, IntKind.signed, IntKind.bits] at h; omega
theorem R_reader {α : Type} {d : Kd α} {e base : Nat} {w W W' : World} {g : Nat} {s : ByteArray} {b : Bool} {v : Value} {xs : List α} (hI : IsS73 w W g s b) (hO : d.R e W base (fun _ => True) v xs) (ht : ∀ q, q ∈ e :: d.E → q ≠ 73) (hK : KeepBut W W' g none) : d.R e W' base (fun _ => True) v xs :=
  Kd.R_mono (Kd.R_keep (hI.apart hO ht) hK (fun _ h => h.2)) (fun _ _ => trivial)
end Go.Proofs.Ytoolionhheiihaa.Sg

