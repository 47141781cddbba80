/- WireShort: how long the bytes of a number are; no number's bytes begin another's. No condition beside the row's own. -/
import Derived.Test.YtibdgpnedlpdbaaGwD
import Derived.Test.YtibdgpnedlpdbaaGwS
set_option linter.unusedVariables false
set_option linter.unusedSimpArgs false
namespace Go.Proofs.Ytibdgpnedlpdbaa.Pure
open Go.RowKit Go.Proofs.Ytibdgpnedlpdbaa.Pb Go.Proofs.YtibdgpnedlpdbaaW.PrintWords Go.Proofs.YtibdgpnedlpdbaaW.PrintLast Go.Proofs.YtibdgpnedlpdbaaW.PrintMore Go.Proofs.Ytibdgpnedlpdbaa.Gw
theorem vb_prefix (a : Nat) : ∀ b, vb a <+: vb b → a = b := by
  induction a using Nat.strongRecOn with
  | _ a ih =>
    intro b h
    by_cases ha : a < 128
    · rw [vb_lo ha] at h
      by_cases hb : b < 128
      · rw [vb_lo hb] at h
        simpa using h
      · rw [vb_hi hb] at h
        have := (List.cons_prefix_cons.1 h).1
        omega
    · rw [vb_hi ha] at h
      by_cases hb : b < 128
      · rw [vb_lo hb] at h
        have := (List.cons_prefix_cons.1 h).1
        omega
      · rw [vb_hi hb] at h
        obtain ⟨h1, h2⟩ := List.cons_prefix_cons.1 h
        have := ih (a / 128) (by omega) (b / 128) h2
        omega
theorem nums_data (l : List Nat) : (nums l).data.toList = l.map fun m => UInt8.ofNat m := by
  simp [nums, strOfNums]
theorem take_inj (a b : List Nat) (ha : ∀ m ∈ a, m < 256) (hb : ∀ m ∈ b, m < 256) (h : a.map (fun m => UInt8.ofNat m) = b.map fun m => UInt8.ofNat m) : a = b := by
  have := congrArg (List.map UInt8.toNat) h
  rw [List.map_map, List.map_map] at this
  have key : ∀ l : List Nat, (∀ m ∈ l, m < 256) → l.map (UInt8.toNat ∘ fun m => UInt8.ofNat m) = l := by
    intro l hl
    conv => rhs; rw [← List.map_id l]
    apply List.map_congr_left
    intro m hm
    have := hl m hm
    simp only [Function.comp, UInt8.toNat_ofNat', id]
    omega
  rwa [key a ha, key b hb] at this
theorem toList_loop (a : ByteArray) (d : Nat) : ∀ (i : Nat) (r : List UInt8), a.size - i = d → ByteArray.toList.loop a i r = r.reverse ++ a.data.toList.drop i := by
  induction d with
  | zero =>
    intro i r hd
    rw [ByteArray.toList.loop, if_neg (by omega), List.drop_of_length_le (by simp only [Array.length_toList]; exact Nat.sub_eq_zero_iff_le.1 hd)]
    simp
  | succ d ih =>
    intro i r hd
    have hi : i < a.data.size := by have : a.data.size = a.size := rfl; omega
    have e : a.data.toList.drop i = a.data[i] :: a.data.toList.drop (i + 1) := by rw [List.drop_eq_getElem_cons (by simpa using hi)]; rfl
    rw [ByteArray.toList.loop, if_pos (by omega), ih _ _ (by omega), e]
    simp [ByteArray.get!, getElem!_pos a.data i hi]
theorem toList_data (a : ByteArray) : a.toList = a.data.toList := by
  unfold ByteArray.toList
  rw [toList_loop a _ 0 [] rfl]
  simp
theorem part_eq (a b : Int) (n : Nat) (ha0 : -9223372036854775808 ≤ a) (ha1 : a ≤ 9223372036854775807) (hb0 : -9223372036854775808 ≤ b) (hb1 : b ≤ 9223372036854775807) (hn : n = (vb (zig a)).length ∧ n ≤ (vb (zig b)).length ∨ n = (vb (zig b)).length ∧ n ≤ (vb (zig a)).length) :
    (((IntB a).extract 0 n).toList == ((IntB b).extract 0 n).toList) = (a == b) := by
  rw [toList_data, toList_data, Bool.eq_iff_iff, beq_iff_eq, beq_iff_eq]
  have e : ∀ x : Int, ((IntB x).extract 0 n).data.toList = ((vb (zig x)).take n).map fun m => UInt8.ofNat m := by
    intro x
    have := nums_data (vb (zig x))
    simp only [ByteArray.data_extract, Array.toList_extract, List.extract, Nat.sub_zero, List.drop_zero]
    rw [show (IntB x).data.toList = _ from this, List.map_take]
  rw [e, e]
  constructor
  · intro h
    have h2 := take_inj _ _ (fun m hm => vb_lt _ m (List.mem_of_mem_take hm)) (fun m hm => vb_lt _ m (List.mem_of_mem_take hm)) h
    rcases hn with ⟨rfl, hn⟩ | ⟨rfl, hn⟩
    · rw [List.take_length] at h2
      exact zig_inj (vb_prefix _ _ (by rw [h2]; exact List.take_prefix _ _))
    · rw [List.take_length] at h2
      exact (zig_inj (vb_prefix _ _ (by rw [← h2]; exact List.take_prefix _ _))).symm
  · rintro rfl; rfl
theorem len_one (a : Int) : (((IntB a).size : Int) == 1) = (decide (-64 ≤ a) && decide (a ≤ 63)) := by
  rw [IntB_size, Bool.eq_iff_iff, beq_iff_eq, Bool.and_eq_true, decide_eq_true_eq, decide_eq_true_eq]
  by_cases h : zig a < 128
  · rw [vb_lo h]
    unfold zig at h
    constructor
    · intro _; split at h <;> omega
    · intro _; rfl
  · rw [vb_hi h]
    have := vb_pos (zig a / 128)
    unfold zig at h
    constructor
    · intro h2; simp only [List.length_cons] at h2; omega
    · intro h2; split at h <;> omega
/-- The walk, with nothing asked. -/
theorem short_any (a b : Int) (w : World) (ha : (Lit.int .i64 a).wf = true) (hb : (Lit.int .i64 b).wf = true) : Calls Try.prog 5 #[.int .i64 a, .int .i64 b] w fun e w' => e = .returned (.bool true) ∧ Below w.heap.size w w' := by
  obtain ⟨a0, a1⟩ := i64_range ha
  obtain ⟨b0, b1⟩ := i64_range hb
  obtain ⟨K1, h1⟩ := wire_Int_ev a a0 a1
  obtain ⟨K2, h2⟩ := wire_Int_ev b b0 b1
  obtain ⟨K3, h3⟩ := sanity_ev
  have za : (IntB a).size ≤ 10 := by rw [IntB_size]; exact vb_len10 (zig_lt a0 a1)
  have pa : 0 < (IntB a).size := by rw [IntB_size]; exact vb_pos _
  have pb : 0 < (IntB b).size := by rw [IntB_size]; exact vb_pos _
  have sa := IntB_size a
  have sb := IntB_size b
  have g1 := h1 (K1 + K2 + K3) (by omega)
  have g2 := h2 (K1 + K2 + K3) (by omega)
  have g3 := h3 (K1 + K2 + K3) (by omega)
  by_cases q : (IntB b).size < (IntB a).size
  · exact short_walk_t (K1 + K2 + K3) a b _ _ w g3 g1 g2 (len_one a) za q pb (part_eq a b _ a0 a1 b0 b1 (by omega))
  · exact short_walk_s (K1 + K2 + K3) a b _ _ w g3 g1 g2 (len_one a) za q pa (part_eq a b _ a0 a1 b0 b1 (by omega))
end Go.Proofs.Ytibdgpnedlpdbaa.Pure
