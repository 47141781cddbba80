/- The contracts of package digest, in the printer's form. -/
import Derived.Test.YtgepeapfninmeaaDgP
import Derived.Test.YtgepeapfninmeaaDgV
set_option linter.unusedVariables false
set_option linter.unusedSimpArgs false
namespace Go.Proofs.Ytgepeapfninmeaa.Gv
open Go.RowKit Go.Proofs.YtgepeapfninmeaaW.PrintWords Go.Proofs.Ytgepeapfninmeaa.Dg
/-- The height of the tree of n elements. -/
def hof (n : Nat) : Nat := if n ≤ 1 then 0 else Nat.log2 (n - 1) + 1
theorem up_hof (n : Nat) : Up n (2 ^ hof n) := by
  unfold hof
  by_cases h : n ≤ 1
  · rw [if_pos h]; exact ⟨⟨0, rfl⟩, by simpa using h, .inl rfl⟩
  · rw [if_neg h]
    have h1 : n - 1 < 2 ^ (Nat.log2 (n - 1) + 1) := Nat.lt_log2_self
    have h2 : 2 ^ Nat.log2 (n - 1) ≤ n - 1 := Nat.log2_self_le (by omega)
    refine ⟨⟨_, rfl⟩, by omega, .inr ?_⟩
    rw [Nat.pow_succ]
    omega
theorem up_unique {n a b : Nat} (ha : Up n (2 ^ a)) (hb : Up n (2 ^ b)) : a = b := by
  have key : ∀ a b : Nat, Up n (2 ^ a) → Up n (2 ^ b) → ¬ a < b := by
    intro a b ha hb hlt
    have h1 : 2 ^ (a + 1) ≤ 2 ^ b := Nat.pow_le_pow_right (by omega) hlt
    rw [Nat.pow_succ] at h1
    have h0 : 0 < 2 ^ a := Nat.pow_pos (by omega)
    rcases hb.2.2 with h | h
    · omega
    · have := ha.2.1; omega
  rcases Nat.lt_trichotomy a b with h | h | h
  · exact (key a b ha hb h).elim
  · exact h
  · exact (key b a hb ha h).elim
def small (l : List ByteArray) : Bool := l.all fun s => decide (s.size ≤ 9223372036854775807)
theorem small_mem {l : List ByteArray} (h : small l = true) : ∀ s ∈ l, s.size ≤ 9223372036854775807 := fun s hs => by simpa using List.all_eq_true.1 h s hs
def digest_Of.f (a0 : ByteArray) : Option ByteArray := if a0.size ≤ 9223372036854775807 then some (OfB a0) else none
theorem digest_Of.calls (a0 : ByteArray) (r : ByteArray) (w : World) (h : digest_Of.f a0 = some r) :
    Calls Try.prog 13 #[.string a0] w fun e w' => e = .returned (.string r) ∧ Below w.heap.size w w' := by
  unfold digest_Of.f at h
  by_cases c : a0.size ≤ 9223372036854775807
  · rw [if_pos c] at h
    injection h with h
    subst h
    exact Of_any a0 c w
  · rw [if_neg c] at h; cases h
def digest_Pair.f (a0 a1 : ByteArray) : Option ByteArray := if a0.size ≤ 9223372036854775807 ∧ a1.size ≤ 9223372036854775807 then some (PairB a0 a1) else none
theorem digest_Pair.calls (a0 a1 : ByteArray) (r : ByteArray) (w : World) (h : digest_Pair.f a0 a1 = some r) :
    Calls Try.prog 15 #[.string a0, .string a1] w fun e w' => e = .returned (.string r) ∧ Below w.heap.size w w' := by
  unfold digest_Pair.f at h
  by_cases c : a0.size ≤ 9223372036854775807 ∧ a1.size ≤ 9223372036854775807
  · rw [if_pos c] at h
    injection h with h
    subst h
    exact Pair_any a0 a1 c.1 c.2 w
  · rw [if_neg c] at h; cases h
/-- The root of a list. -/
def RootF (l : List ByteArray) : ByteArray := RootB (hof l.length) ((lev (fill l (2 ^ hof l.length)) (hof l.length)).getD 0 ⟨#[]⟩)
def digest_Root.f (l0 : List ByteArray) : Option ByteArray := if l0.length ≤ 1099511627776 ∧ small l0 = true then some (RootF l0) else none
theorem digest_Root.calls (A0 : Option Addr) (c0 : Nat) (l0 : List ByteArray) (r : ByteArray) (w : World) (hr0 : Kd.C Kd.string w A0 l0.length l0) (hc0 : l0.length ≤ c0) (h : digest_Root.f l0 = some r) :
    Calls Try.prog 21 #[.slice A0 l0.length c0] w fun e w' => e = .returned (.string r) ∧ Below w.heap.size w w' := by
  unfold digest_Root.f at h
  by_cases c : l0.length ≤ 1099511627776 ∧ small l0 = true
  · rw [if_pos c] at h
    injection h with h
    subst h
    refine (Root_any A0 c0 l0 w c.1 (small_mem c.2) hr0).mono ?_
    rintro e w' ⟨hh, hup, rfl, hb⟩
    obtain rfl := up_unique hup (up_hof _)
    exact ⟨rfl, hb⟩
  · rw [if_neg c] at h; cases h
/-- The proof of an element. -/
def ProofF (l : List ByteArray) (i : Int) : List ByteArray := if i < 0 ∨ (l.length : Int) ≤ i then [] else ProofL l (hof l.length) i.toNat
def digest_Proof.f (l0 : List ByteArray) (a1 : Int) : Option (List ByteArray) := if l0.length ≤ 1099511627776 ∧ small l0 = true then some (ProofF l0 a1) else none
theorem digest_Proof.calls (A0 : Option Addr) (c0 : Nat) (l0 : List ByteArray) (a1 : Int) (r : List ByteArray) (w : World) (hr0 : Kd.C Kd.string w A0 l0.length l0) (hc0 : l0.length ≤ c0) (h : digest_Proof.f l0 a1 = some r) :
    Calls Try.prog 19 #[.slice A0 l0.length c0, .int .i64 a1] w fun e w' => ∃ v0_ : Value, e = .returned (v0_) ∧ Kd.R Kd.string 9 w' w.heap.size (fun _ => True) v0_ r ∧ Below w.heap.size w w' := by
  unfold digest_Proof.f at h
  by_cases c : l0.length ≤ 1099511627776 ∧ small l0 = true
  · rw [if_pos c] at h
    injection h with h
    subst h
    unfold ProofF
    by_cases hi : a1 < 0 ∨ (l0.length : Int) ≤ a1
    · rw [if_pos hi]
      refine (Proof_no A0 c0 l0 a1 w (by omega) hi).mono ?_
      rintro e w' ⟨rfl, hb⟩
      exact ⟨_, rfl, Kd.R_nil _ _ _ _ _, hb⟩
    · rw [if_neg hi]
      obtain ⟨i, rfl⟩ : ∃ i : Nat, a1 = i := ⟨a1.toNat, by omega⟩
      refine (Proof_yes A0 c0 l0 i w c.1 (by omega) (small_mem c.2) hr0).mono ?_
      rintro e w' ⟨hh, v, hup, rfl, hR, hb⟩
      obtain rfl := up_unique hup (up_hof _)
      exact ⟨v, rfl, hR, hb⟩
  · rw [if_neg c] at h; cases h
/-- Is a proof right? -/
def VerifyF (root leaf : ByteArray) (i : Int) (l : List ByteArray) : Bool :=
  if root.size = 8 ∧ l.length ≤ 20 ∧ 0 ≤ i ∧ i / 2 ^ l.length = 0 then decide (root = RootB l.length (vf leaf i l).1) else false
def digest_Verify.f (a0 a1 : ByteArray) (a2 : Int) (l3 : List ByteArray) : Option Bool := if a1.size ≤ 9223372036854775807 ∧ a2 ≤ 9223372036854775807 ∧ small l3 = true then some (VerifyF a0 a1 a2 l3) else none
theorem digest_Verify.calls (a0 a1 : ByteArray) (a2 : Int) (A3 : Option Addr) (c3 : Nat) (l3 : List ByteArray) (r : Bool) (w : World) (hr3 : Kd.C Kd.string w A3 l3.length l3) (hc3 : l3.length ≤ c3) (h : digest_Verify.f a0 a1 a2 l3 = some r) :
    Calls Try.prog 23 #[.string a0, .string a1, .int .i64 a2, .slice A3 l3.length c3] w fun e w' => e = .returned (.bool r) ∧ Below w.heap.size w w' := by
  unfold digest_Verify.f at h
  by_cases c : a1.size ≤ 9223372036854775807 ∧ a2 ≤ 9223372036854775807 ∧ small l3 = true
  · rw [if_pos c] at h
    injection h with h
    subst h
    unfold VerifyF
    by_cases hv : a0.size = 8 ∧ l3.length ≤ 20 ∧ 0 ≤ a2 ∧ a2 / 2 ^ l3.length = 0
    · rw [if_pos hv]
      exact Verify_yes a0 a1 a2 A3 c3 l3 w hv.1 hv.2.1 hv.2.2.1 c.2.1 hv.2.2.2 c.1 hr3 (small_mem c.2.2)
    · rw [if_neg hv]
      refine (Verify_no a0 a1 a2 A3 c3 l3 w hr3.2.1 (by omega)).mono ?_
      rintro e w' ⟨rfl, rfl⟩
      exact ⟨rfl, Below.refl _ _⟩
  · rw [if_neg c] at h; cases h
end Go.Proofs.Ytgepeapfninmeaa.Gv
