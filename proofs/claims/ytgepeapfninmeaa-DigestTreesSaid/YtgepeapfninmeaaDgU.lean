/- The reference's check of a proof is that of the contract. -/
import Derived.Test.YtgepeapfninmeaaDgT
import Derived.Test.YtgepeapfninmeaaPax4
set_option linter.unusedVariables false
set_option linter.unusedSimpArgs false
namespace Go.Proofs.Ytgepeapfninmeaa.Pure
open Go.RowKit Go.Proofs.Ytgepeapfninmeaa.Pa Go.Proofs.YtgepeapfninmeaaW.PrintWords Go.Proofs.YtgepeapfninmeaaW.PrintLast Go.Proofs.YtgepeapfninmeaaW.PrintMore Go.Proofs.Ytgepeapfninmeaa.Gv Go.Proofs.Ytgepeapfninmeaa.Dg
theorem toList_loop (a : ByteArray) (d : Nat) : ∀ (i : Nat) (r : List UInt8), a.size - i = d → ByteArray.toList.loop a i r = r.reverse ++ a.data.toList.drop i := by
  induction d with
  | zero =>
    intro i r hd
    rw [ByteArray.toList.loop, if_neg (by omega), List.drop_of_length_le (by simp only [Array.length_toList]; exact Nat.sub_eq_zero_iff_le.1 hd)]
    simp
  | succ d ih =>
    intro i r hd
    have hi : i < a.data.size := by have : a.data.size = a.size := rfl; omega
    have e : a.data.toList.drop i = a.data[i] :: a.data.toList.drop (i + 1) := by rw [List.drop_eq_getElem_cons (by simpa using hi)]; rfl
    rw [ByteArray.toList.loop, if_pos (by omega), ih _ _ (by omega), e]
    simp [ByteArray.get!, getElem!_pos a.data i hi]
theorem toList_data (a : ByteArray) : a.toList = a.data.toList := by
  unfold ByteArray.toList
  rw [toList_loop a _ 0 [] rfl]
  simp
theorem bytes_ext {a b : ByteArray} (h : a.toList = b.toList) : a = b := by
  rw [toList_data, toList_data] at h
  apply ByteArray.ext
  exact Array.toList_inj.1 h
theorem Verify_loop (root : ByteArray) (l : List ByteArray) (hl : l.length ≤ 20) (hs : ∀ s ∈ l, s.size ≤ 9000) (leaf : ByteArray) (i : Int) (hi : 0 ≤ i) (hi2 : i ≤ 9223372036854775807) (hlf : leaf.size ≤ 9000) (d : Nat) :
    ∀ j : Nat, l.length - j = d → j ≤ l.length → (vf leaf i (l.take j)).1.size ≤ 9000 → 0 ≤ (vf leaf i (l.take j)).2 → (vf leaf i (l.take j)).2 ≤ 9223372036854775807 →
    Ev (fun k => abugidaref03_Verify.l0 k root (vf leaf i (l.take j)).2 l (vf leaf i (l.take j)).1 (j : Int)) (decide (root = RootB l.length (vf leaf i l).1)) := by
  induction d with
  | zero =>
    intro j hd hj hz h0 h1
    obtain rfl : j = l.length := by omega
    rw [List.take_length] at *
    refine Ev.step (fun k => abugidaref03_Verify.l0.eq_2 ..) ?_
    refine evN (by omega) ?_
    refine Ev.bind (top_ev _ _ (by omega)) ?_
    have e : (root.toList == (RootB l.length (vf leaf i l).1).toList) = decide (root = RootB l.length (vf leaf i l).1) := by
      rw [Bool.eq_iff_iff]
      simp only [beq_iff_eq, decide_eq_true_eq]
      constructor
      · intro h; exact bytes_ext h
      · intro h; rw [h]
    rw [e]
    exact Ev.now _
  | succ d ih =>
    intro j hd hj hz h0 h1
    obtain ⟨s, hs'⟩ := get_some (l := l) (i := j) (by omega)
    have hsz := hs s (List.mem_of_getElem? hs')
    have ih' := ih (j + 1) (by omega) (by omega)
    rw [vf_snoc leaf i l j s hs'] at ih'
    generalize vf leaf i (l.take j) = st at *
    refine Ev.step (fun k => abugidaref03_Verify.l0.eq_2 ..) ?_
    obtain ⟨x, n⟩ := st
    simp only at hz h0 h1
    obtain ⟨m, rfl⟩ : ∃ m : Nat, n = m := ⟨n.toNat, by omega⟩
    rw [tdiv2, tmod2, rd_some hs', show wrap64 (((j : Nat) : Int) + 1) = ((j + 1 : Nat) : Int) from w64 (by omega) (by omega), w64n _ (by omega)]
    refine evI (by omega) ?_
    by_cases he : (m : Int) % 2 = 0
    · simp only [vstep, if_pos he, PairB_len] at ih'
      refine evI (by omega) ?_
      refine evI (by omega) ?_
      refine Ev.bind (Pair_ev x s (by omega) (by omega)) ?_
      exact ih' (by omega) (by omega) (by omega)
    · simp only [vstep, if_neg he, PairB_len] at ih'
      refine evN (by omega) ?_
      refine evI (by omega) ?_
      refine Ev.bind (Pair_ev s x (by omega) (by omega)) ?_
      exact ih' (by omega) (by omega) (by omega)
theorem Verify_j0_t (a b : ByteArray) (i : Int) (l : List ByteArray) : Ev (fun k => abugidaref03_Verify.j0 k a b i l true) false :=
  Ev.step (fun k => abugidaref03_Verify.j0.eq_2 ..) (evI rfl (Ev.now _))
theorem RootB_size (h : Int) (t : ByteArray) : (RootB h t).size = 8 := by simp [RootB, OfB, dg, strOfNums_size]
theorem shl1 (n : Nat) (h : n ≤ 20) : shl .i64 1 (n : Int) = ((2 ^ n : Nat) : Int) := by
  have : ∀ m : Nat, m < 21 → shl .i64 1 (m : Int) = ((2 ^ m : Nat) : Int) := by decide +kernel
  exact this n (by omega)
theorem Verify_ev (root leaf : ByteArray) (i : Int) (l : List ByteArray) (hi : i ≤ 9223372036854775807) (hlf : leaf.size ≤ 9000) (hs : ∀ s ∈ l, s.size ≤ 9000) : Ev (fun k => abugidaref03_Verify.f k root leaf i l) (VerifyF root leaf i l) := by
  unfold abugidaref03_Verify.f VerifyF
  by_cases h0 : (l.length : Int) > 20
  · refine evI h0 ?_
    rw [if_neg (by omega)]
    exact Verify_j0_t _ _ _ _
  · refine evN h0 ?_
    by_cases h1 : i < 0
    · refine evI h1 ?_
      rw [if_neg (by omega)]
      exact Verify_j0_t _ _ _ _
    · refine evN h1 ?_
      rw [shl1 _ (by omega)]
      have hiff : i / 2 ^ l.length = 0 ↔ i < ((2 ^ l.length : Nat) : Int) := by
        have hp : (0 : Int) < ((2 ^ l.length : Nat) : Int) := by have := Nat.pow_pos (n := l.length) (show 0 < 2 by omega); omega
        rw [show (2 : Int) ^ l.length = ((2 ^ l.length : Nat) : Int) by simp]
        generalize ((2 ^ l.length : Nat) : Int) = P at *
        constructor
        · intro h
          have := Int.emod_add_mul_ediv i P
          have h2 := Int.emod_lt_of_pos i hp
          rw [h] at this
          omega
        · intro h; exact Int.ediv_eq_zero_of_lt (by omega) h
      by_cases h2 : i ≥ ((2 ^ l.length : Nat) : Int)
      · rw [if_neg (by rw [hiff]; omega), show decide (i ≥ ((2 ^ l.length : Nat) : Int)) = true from decide_eq_true h2]
        exact Verify_j0_t _ _ _ _
      · rw [show decide (i ≥ ((2 ^ l.length : Nat) : Int)) = false from decide_eq_false h2]
        refine Ev.step (fun k => abugidaref03_Verify.j0.eq_2 ..) ?_
        refine evN (by decide) ?_
        have key := Verify_loop root l (by omega) hs leaf i (by omega) hi hlf _ 0 rfl (by omega) hlf (by show 0 ≤ i; omega) hi
        have e : (if root.size = 8 ∧ l.length ≤ 20 ∧ 0 ≤ i ∧ i / 2 ^ l.length = 0 then decide (root = RootB l.length (vf leaf i l).1) else false) = decide (root = RootB l.length (vf leaf i l).1) := by
          by_cases hr : root.size = 8
          · rw [if_pos ⟨hr, by omega, by omega, by rw [hiff]; omega⟩]
          · rw [if_neg (fun h => hr h.1)]
            refine (decide_eq_false ?_).symm
            intro h
            exact hr (by rw [h, RootB_size])
        rw [e]
        exact key
theorem verify_some (a b : ByteArray) (i : Int) (l : List ByteArray) (hb : b.size ≤ 9000) (hi : i ≤ 9223372036854775807) (hs : ∀ s ∈ l, s.size ≤ 9000) : digest_Verify.f a b i l = some (VerifyF a b i l) := if_pos ⟨by omega, hi, small_of hs⟩
end Go.Proofs.Ytgepeapfninmeaa.Pure
