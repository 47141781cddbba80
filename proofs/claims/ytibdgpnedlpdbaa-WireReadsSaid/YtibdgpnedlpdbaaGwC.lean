/- The bytes of a number: what is written, and read again. Plain law. -/
import Derived.Test.YtibdgpnedlpdbaaPbx4
set_option linter.unusedVariables false
set_option linter.unusedSimpArgs false
namespace Go.Proofs.Ytibdgpnedlpdbaa.Pure
open Go.RowKit Go.Proofs.Ytibdgpnedlpdbaa.Pb Go.Proofs.YtibdgpnedlpdbaaW.PrintWords Go.Proofs.YtibdgpnedlpdbaaW.PrintLast Go.Proofs.YtibdgpnedlpdbaaW.PrintMore Go.Proofs.Ytibdgpnedlpdbaa.Gw
theorem evI {α : Type} {c : Prop} [Decidable c] {A B : Nat → Option α} {r : α} (h : c) (k : Ev A r) : Ev (fun n => if c then A n else B n) r := Ev.congr (fun _ => if_pos h) k
theorem evN {α : Type} {c : Prop} [Decidable c] {A B : Nat → Option α} {r : α} (h : ¬ c) (k : Ev B r) : Ev (fun n => if c then A n else B n) r := Ev.congr (fun _ => if_neg h) k
theorem w64 {x : Int} (h0 : -9223372036854775808 ≤ x) (h1 : x < 9223372036854775808) : wrap64 x = x := by unfold wrap64; omega
theorem wu64 {x : Int} (h0 : 0 ≤ x) (h1 : x < 18446744073709551616) : IntKind.u64.wrap x = x := by rw [IntKind.wrap_u64]; omega
/-- The bytes of a code. -/
def vb (c : Nat) : List Nat := if h : c < 128 then [c] else (c % 128 + 128) :: vb (c / 128)
  termination_by c
  decreasing_by omega
theorem vb_lo {c : Nat} (h : c < 128) : vb c = [c] := by rw [vb]; exact dif_pos h
theorem vb_hi {c : Nat} (h : ¬ c < 128) : vb c = (c % 128 + 128) :: vb (c / 128) := by rw [vb]; exact dif_neg h
/-- The code of a number. -/
def zig (n : Int) : Nat := if 0 ≤ n then (2 * n).toNat else (-2 * n - 1).toNat
theorem zig_lt {n : Int} (h0 : -9223372036854775808 ≤ n) (h1 : n ≤ 9223372036854775807) : zig n < 18446744073709551616 := by unfold zig; split <;> omega
theorem zig_inj {a b : Int} (h : zig a = zig b) : a = b := by unfold zig at h; split at h <;> split at h <;> omega
def nums (l : List Nat) : ByteArray := strOfNums (l.map Int.ofNat)
def IntB (n : Int) : ByteArray := nums (vb (zig n))
theorem strOfNums_append (a b : List Int) : strOfNums (a ++ b) = strOfNums a ++ strOfNums b := by
  apply ByteArray.ext
  simp [strOfNums]
theorem nums_append (a b : List Nat) : nums (a ++ b) = nums a ++ nums b := by rw [nums, List.map_append, strOfNums_append]; rfl
theorem nums_size (l : List Nat) : (nums l).size = l.length := by unfold nums; rw [strOfNums_size, List.length_map]
theorem or128 (m : Nat) (h : m < 256) : Go.bits .or .u8 (m : Int) 128 = ((m % 128 + 128 : Nat) : Int) := by
  have : ∀ m : Nat, m < 256 → Go.bits .or .u8 (m : Int) 128 = ((m % 128 + 128 : Nat) : Int) := by decide +kernel
  exact this m h
theorem and127 (m : Nat) (h : m < 256) : Go.bits .and .u8 (m : Int) 127 = ((m % 128 : Nat) : Int) := by
  have : ∀ m : Nat, m < 256 → Go.bits .and .u8 (m : Int) 127 = ((m % 128 : Nat) : Int) := by decide +kernel
  exact this m h
theorem not64 (x : Nat) (h : x < 18446744073709551616) : 18446744073709551615 ^^^ x = 18446744073709551615 - x := by
  have h1 : (BitVec.allOnes 64 ^^^ BitVec.ofNat 64 x) = ~~~ (BitVec.ofNat 64 x) := BitVec.allOnes_xor
  have h2 := congrArg BitVec.toNat h1
  rw [BitVec.toNat_xor, BitVec.toNat_not, BitVec.toNat_ofNat, BitVec.toNat_allOnes, Nat.mod_eq_of_lt (by simpa using h)] at h2
  simpa using h2
theorem xorU (x : Nat) (h : x < 18446744073709551616) : Go.bits .xor .u64 18446744073709551615 (x : Int) = ((18446744073709551615 - x : Nat) : Int) := by
  have e2 : IntKind.u64.wrap ((18446744073709551615 - x : Nat) : Int) = ((18446744073709551615 - x : Nat) : Int) := wu64 (by omega) (by omega)
  simp [Go.bits]
  rw [show x % 2 ^ IntKind.u64.bits = x from Nat.mod_eq_of_lt h, show 18446744073709551615 % 2 ^ IntKind.u64.bits = 18446744073709551615 from rfl, not64 x h]
  exact e2
theorem xorI (x : Nat) (h : x < 9223372036854775808) : Go.bits .xor .i64 (-1) (x : Int) = -1 - (x : Int) := by
  have e2 : IntKind.i64.wrap ((18446744073709551615 - x : Nat) : Int) = -1 - (x : Int) := by rw [IntKind.wrap_i64]; omega
  simp [Go.bits]
  rw [show x % 2 ^ IntKind.i64.bits = x from Nat.mod_eq_of_lt (by have : (2 : Nat) ^ IntKind.i64.bits = 18446744073709551616 := rfl; omega), show (-1 % 2 ^ IntKind.i64.bits : Int).toNat = 18446744073709551615 from rfl, not64 x (by omega)]
  exact e2
theorem orU (a b i : Nat) (ha : a < 2 ^ i) (hlt : a + b * 2 ^ i < 18446744073709551616) : Go.bits .or .u64 (a : Int) ((b * 2 ^ i : Nat) : Int) = ((a + b * 2 ^ i : Nat) : Int) := by
  have e : a ||| (b * 2 ^ i) = a + b * 2 ^ i := by
    rw [Nat.or_comm, Nat.mul_comm, ← Nat.two_pow_add_eq_or_of_lt ha b]; omega
  have e2 : IntKind.u64.wrap ((a + b * 2 ^ i : Nat) : Int) = ((a + b * 2 ^ i : Nat) : Int) := wu64 (by omega) (by omega)
  generalize b * 2 ^ i = B at *
  simp [Go.bits]
  rw [show a % 2 ^ IntKind.u64.bits = a from Nat.mod_eq_of_lt (by have : (2 : Nat) ^ IntKind.u64.bits = 18446744073709551616 := rfl; omega), show B % 2 ^ IntKind.u64.bits = B from Nat.mod_eq_of_lt (by have : (2 : Nat) ^ IntKind.u64.bits = 18446744073709551616 := rfl; omega), e]
  exact e2
theorem and1u (x : Int) (h0 : 0 ≤ x) (h1 : x < 18446744073709551616) : Go.bits .and .u64 x 1 = x % 2 := bits_mask .u64 64 (by decide) (fun n h0 h1 => by rw [IntKind.wrap_u64]; omega) 1 (by decide) x h0 (by omega)
theorem Int_loop (c : Nat) : ∀ acc : List Nat, acc.length + (vb c).length ≤ 1000 → Ev (fun k => wire_Int.l0 k (c : Int) (acc.map Int.ofNat)) (nums (acc ++ vb c)) := by
  induction c using Nat.strongRecOn with
  | _ c ih =>
    intro acc hl
    refine Ev.step (fun k => wire_Int.l0.eq_2 ..) ?_
    by_cases h : c < 128
    · refine evN (by omega) ?_
      refine evI (by simp; omega) ?_
      rw [show (c : Int) % 256 = c by omega, vb_lo h]
      unfold nums
      rw [List.map_append]
      exact Ev.now _
    · rw [vb_hi h] at hl ⊢
      simp only [List.length_cons] at hl
      refine evI (by omega) ?_
      refine evI (by simp; omega) ?_
      rw [show (c : Int) % 256 = ((c % 256 : Nat) : Int) by omega, or128 _ (Nat.mod_lt _ (by decide)), show c % 256 % 128 + 128 = c % 128 + 128 by omega, show (c : Int) / 128 = ((c / 128 : Nat) : Int) by omega]
      have := ih (c / 128) (by omega) (acc ++ [c % 128 + 128]) (by simp; omega)
      rw [List.map_append, List.append_assoc] at this
      exact this
theorem vb_len (i : Nat) : ∀ c, c < 2 ^ (7 * i) → (vb c).length ≤ max i 1 := by
  induction i with
  | zero => intro c h; rw [vb_lo (by omega)]; simp
  | succ i ih =>
    intro c h
    by_cases hc : c < 128
    · rw [vb_lo hc]; simp
    · rw [vb_hi hc]
      have h2 : c / 128 < 2 ^ (7 * i) := by
        rw [Nat.div_lt_iff_lt_mul (by decide)]
        rw [show 7 * (i + 1) = 7 * i + 7 by omega, Nat.pow_add] at h
        exact h
      have := ih _ h2
      simp only [List.length_cons]
      rcases i with _ | i
      · simp at h2; omega
      · omega
theorem vb_len10 {c : Nat} (h : c < 18446744073709551616) : (vb c).length ≤ 10 := by
  have := vb_len 10 c (by omega)
  omega
theorem vb_pos (c : Nat) : 0 < (vb c).length := by rw [vb]; split <;> simp
theorem wire_Int_ev (n : Int) (h0 : -9223372036854775808 ≤ n) (h1 : n ≤ 9223372036854775807) : Ev (fun k => wire_Int.f k n) (IntB n) := by
  have hz := zig_lt h0 h1
  have hl := vb_len10 hz
  have key := Int_loop (zig n) [] (by simp; omega)
  unfold wire_Int.f
  by_cases h : n < 0
  · refine evI h ?_
    refine Ev.step (fun k => wire_Int.j0.eq_2 ..) ?_
    have e : IntKind.u64.wrap (IntKind.u64.wrap n * 2) = (((2 * n + 18446744073709551616).toNat : Nat) : Int) := by rw [IntKind.wrap_u64, IntKind.wrap_u64]; omega
    rw [e, xorU _ (by omega), show (18446744073709551615 - (2 * n + 18446744073709551616).toNat : Nat) = zig n by unfold zig; rw [if_neg (by omega)]; omega]
    exact key
  · refine evN h ?_
    refine Ev.step (fun k => wire_Int.j0.eq_2 ..) ?_
    have e : IntKind.u64.wrap (IntKind.u64.wrap n * 2) = ((zig n : Nat) : Int) := by rw [IntKind.wrap_u64, IntKind.wrap_u64]; unfold zig; rw [if_pos (by omega)]; omega
    rw [e]
    exact key
/-- The reference's bytes of a number are the same. -/
theorem ref_Int_loop (c : Nat) (hc : c < 18446744073709551616) : ∀ acc : List Nat, acc.length + (vb c).length ≤ 1000 → Ev (fun k => abugidaref02_Int.l0 k (c : Int) (nums acc)) (nums (acc ++ vb c)) := by
  induction c using Nat.strongRecOn with
  | _ c ih =>
    intro acc hl
    refine Ev.step (fun k => abugidaref02_Int.l0.eq_2 ..) ?_
    have one : ∀ m : Nat, strOfNums [(m : Int)] = nums [m] := fun m => rfl
    by_cases h : c < 128
    · refine evN (by omega) ?_
      refine Ev.bind (Ev.now _) ?_
      rw [show (c : Int) % 256 = (c : Nat) by omega, one, vb_lo h] at *
      refine evI (by rw [nums_size, nums_size]; simp; omega) ?_
      rw [nums_append]
      exact Ev.now _
    · rw [vb_hi h] at hl ⊢
      simp only [List.length_cons] at hl
      refine evI (by omega) ?_
      refine Ev.bind (Ev.now _) ?_
      have e1 : IntKind.u64.wrap (Int.tmod (c : Int) 128 + 128) % 256 = ((c % 128 + 128 : Nat) : Int) := by
        rw [show Int.tmod (c : Int) 128 = ((c % 128 : Nat) : Int) from rfl, wu64 (by omega) (by omega)]; omega
      have e2 : IntKind.u64.wrap (Int.tdiv (c : Int) 128) = ((c / 128 : Nat) : Int) := by
        rw [show Int.tdiv (c : Int) 128 = ((c / 128 : Nat) : Int) from rfl, wu64 (by omega) (by omega)]
      rw [e1, e2, one]
      refine evI (by rw [nums_size, nums_size]; simp; omega) ?_
      have := ih (c / 128) (by omega) (by omega) (acc ++ [c % 128 + 128]) (by simp; omega)
      rw [List.append_assoc, nums_append] at this
      exact this
theorem ref_Int_ev (n : Int) (h0 : -9223372036854775808 ≤ n) (h1 : n ≤ 9223372036854775807) : Ev (fun k => abugidaref02_Int.f k n) (IntB n) := by
  have hz := zig_lt h0 h1
  have hl := vb_len10 hz
  have key := ref_Int_loop (zig n) hz [] (by simp; omega)
  have e : abugidaref02_code.f n = some ((zig n : Nat) : Int) := by
    unfold abugidaref02_code.f
    by_cases h : n ≥ 0
    · rw [if_pos h, IntKind.wrap_u64, IntKind.wrap_u64]
      unfold zig
      rw [if_pos h]
      congr 1
      omega
    · rw [if_neg h, show wrap64 (n + 1) = n + 1 from w64 (by omega) (by omega), show wrap64 (-(n + 1)) = -(n + 1) from w64 (by omega) (by omega), IntKind.wrap_u64, IntKind.wrap_u64, IntKind.wrap_u64]
      unfold zig
      rw [if_neg h]
      congr 1
      omega
  unfold abugidaref02_Int.f
  rw [e]
  exact Ev.bind (Ev.now _) key
end Go.Proofs.Ytibdgpnedlpdbaa.Pure
