/- The reference's digests and nodes are those of the package; the examples of the chapter. -/
import Derived.Test.YtgepeapfninmeaaPax1
import Derived.Test.YtgepeapfninmeaaDgG
set_option linter.unusedVariables false
set_option linter.unusedSimpArgs false
namespace Go.Proofs.Ytgepeapfninmeaa.Pure
open Go.RowKit Go.Proofs.Ytgepeapfninmeaa.Pa Go.Proofs.YtgepeapfninmeaaW.PrintWords Go.Proofs.YtgepeapfninmeaaW.PrintLast Go.Proofs.Ytgepeapfninmeaa.Gv Go.Proofs.Ytgepeapfninmeaa.Dg
theorem sanity_ok : abugidalaw03_sanity.f 10 = some true := by decide +kernel
theorem sanity_more : ∀ k, abugidalaw03_sanity.f (10 + k) = some true
  | 0 => sanity_ok
  | k + 1 => abugidalaw03_sanity.mono (10 + k) true (sanity_more k)
theorem ref_bytes4 (n : Int) : abugidaref03_bytes4.f n = some (strOfNums [bb n 16777216, bb n 65536, bb n 256, bb n 1]) := by
  simp [abugidaref03_bytes4.f, bb]
theorem two_halves (x y : Int) : strOfNums [bb x 16777216, bb x 65536, bb x 256, bb x 1] ++ strOfNums [bb y 16777216, bb y 65536, bb y 256, bb y 1] = dg x y := by
  apply ByteArray.ext
  simp [strOfNums, dg]
theorem bt_get (s : ByteArray) (i : Nat) (h : i < s.size) : bt s (i : Int) = (s[i].toNat : Int) := by
  simp [bt, h]
theorem ref_Of_loop (a : ByteArray) (ha : a.size ≤ 9223372036854775807) (d : Nat) : ∀ (k i : Nat), i ≤ a.size → a.size - i = d → d < k →
    abugidaref03_Of.l0 k a (fx 7 (a.data.toList.take i)) (fy 11 (a.data.toList.take i)) i = some (OfB a) := by
  induction d with
  | zero =>
    intro k i hi hd hk
    obtain ⟨k, rfl⟩ : ∃ m, k = m + 1 := ⟨k - 1, by omega⟩
    simp only [abugidaref03_Of.l0]
    rw [if_neg (by omega), List.take_of_length_le (by simp; omega), ref_bytes4, ref_bytes4]
    simp only [Option.bind_some]
    rw [if_pos (by simp [strOfNums_size]), two_halves]
    rfl
  | succ d ih =>
    intro k i hi hd hk
    obtain ⟨k, rfl⟩ : ∃ m, k = m + 1 := ⟨k - 1, by omega⟩
    have hlt : i < a.size := by omega
    obtain ⟨r1, r2⟩ := fx_range (a.data.toList.take i) 7 (by omega) (by omega)
    obtain ⟨r3, r4⟩ := fy_range (a.data.toList.take i) 11 (by omega) (by omega)
    have e1 := fx_snoc a i hlt 7
    have e2 := fy_snoc a i hlt 11
    have ih' := ih k (i + 1) (by omega) (by omega) (by omega)
    rw [e1, e2] at ih'
    simp only [abugidaref03_Of.l0]
    rw [if_pos (by omega), if_pos (by omega), bt_get a i hlt]
    have hc := (a[i]).toNat_lt
    generalize fx 7 (a.data.toList.take i) = x at *
    generalize fy 11 (a.data.toList.take i) = y at *
    generalize a[i] = c at *
    have w1 : wrap64 (x * 1000003) = x * 1000003 := by unfold wrap64; omega
    have w2 : wrap64 (y * 69069) = y * 69069 := by unfold wrap64; omega
    rw [w1, w2, stepx x c r1 r2, stepy y c r3 r4, show wrap64 ((i : Int) + 1) = ((i + 1 : Nat) : Int) by unfold wrap64; omega]
    exact ih'
theorem ref_Of (a : ByteArray) (ha : a.size ≤ 9223372036854775807) (k : Nat) (hk : a.size < k) : abugidaref03_Of.f k a = some (OfB a) :=
  ref_Of_loop a ha a.size k 0 (by omega) (by omega) hk
theorem ref_Pair (a b : ByteArray) (ha : a.size ≤ 4611686018427387904) (hb : b.size ≤ 4611686018427387000) (k : Nat) (hk : a.size + b.size + 5 < k) : abugidaref03_Pair.f k a b = some (PairB a b) := by
  have hz : (n4 a.size).size = 4 := n4_size _
  have h1 : ((⟨#[1]⟩ : ByteArray) ++ n4 a.size).size = 5 := by rw [ByteArray.size_append, hz]; rfl
  have h2 : (((⟨#[1]⟩ : ByteArray) ++ n4 a.size) ++ a).size = 5 + a.size := by rw [ByteArray.size_append, h1]
  have h3 : ((((⟨#[1]⟩ : ByteArray) ++ n4 a.size) ++ a) ++ b).size = 5 + a.size + b.size := by rw [ByteArray.size_append, h2]
  unfold abugidaref03_Pair.f
  rw [ref_bytes4]
  simp only [Option.bind_some]
  rw [if_pos (by rw [strOfNums_size]; simp)]
  change (if ((⟨#[1]⟩ : ByteArray) ++ n4 a.size).size + a.size ≤ 9223372036854775807 then _ else _) = _
  rw [if_pos (by rw [h1]; omega)]
  change (if (((⟨#[1]⟩ : ByteArray) ++ n4 a.size) ++ a).size + b.size ≤ 9223372036854775807 then _ else _) = _
  rw [if_pos (by rw [h2]; omega)]
  change (abugidaref03_Of.f k ((((⟨#[1]⟩ : ByteArray) ++ n4 a.size) ++ a) ++ b)).bind _ = _
  rw [ref_Of _ (by rw [h3]; omega) k (by rw [h3]; omega)]
  rfl
theorem cut_some (a : ByteArray) : ∃ c, abugidalaw03_cut.f a = some c ∧ c.size ≤ 300 := by
  unfold abugidalaw03_cut.f
  have hm : mn (a.size : Int) 300 = ((min a.size 300 : Nat) : Int) := by unfold mn; split <;> omega
  rw [hm, if_pos (by omega), if_pos (by omega)]
  exact ⟨_, rfl, by simp [ByteArray.size_extract]; omega⟩
theorem of_some (a : ByteArray) (h : a.size ≤ 9223372036854775807) : digest_Of.f a = some (OfB a) := if_pos h
theorem pair_some (a b : ByteArray) (h : a.size ≤ 9223372036854775807) (h2 : b.size ≤ 9223372036854775807) : digest_Pair.f a b = some (PairB a b) := if_pos ⟨h, h2⟩
end Go.Proofs.Ytgepeapfninmeaa.Pure
