/- DigestOne: a string in which one byte is another one has another digest. No condition beside the row's own. -/
import Derived.Test.YtgepeapfninmeaaDgW
import Derived.Test.YtgepeapfninmeaaPax6
set_option linter.unusedVariables false
set_option linter.unusedSimpArgs false
namespace Go.Proofs.Ytgepeapfninmeaa.Pure
open Go.RowKit Go.Proofs.Ytgepeapfninmeaa.Pa Go.Proofs.YtgepeapfninmeaaW.PrintWords Go.Proofs.YtgepeapfninmeaaW.PrintLast Go.Proofs.YtgepeapfninmeaaW.PrintMore Go.Proofs.Ytgepeapfninmeaa.Gv Go.Proofs.Ytgepeapfninmeaa.Dg
theorem xor8 (x m : Nat) (hx : x < 256) (hm : m < 256) : bits .xor .u8 (x : Int) (m : Int) = ((x ^^^ m : Nat) : Int) := by
  have h : x ^^^ m < 2 ^ 8 := Nat.xor_lt_two_pow (by omega) (by omega)
  have e2 : IntKind.u8.wrap ((x ^^^ m : Nat) : Int) = ((x ^^^ m : Nat) : Int) := by rw [IntKind.wrap_u8]; omega
  simp [bits]
  rw [show x % 2 ^ IntKind.u8.bits = x from Nat.mod_eq_of_lt hx, show m % 2 ^ IntKind.u8.bits = m from Nat.mod_eq_of_lt hm]
  exact e2
theorem xor_ne (x m : Nat) (hm : m ≠ 0) : x ^^^ m ≠ x := by
  intro h
  apply hm
  have : x ^^^ (x ^^^ m) = x ^^^ x := by rw [h]
  rw [← Nat.xor_assoc, Nat.xor_self, Nat.zero_xor] at this
  exact this
theorem OfB_size (a : ByteArray) : (OfB a).size = 8 := by simp [OfB, dg, strOfNums_size]
theorem cut_is (a : ByteArray) : ∃ c, abugidalaw03_cut.f a = some c ∧ c.size ≤ 300 ∧ abugidalaw03_cut.f c = some c := by
  have key : ∀ a : ByteArray, abugidalaw03_cut.f a = some (a.extract 0 (min a.size 300)) := by
    intro a
    have hm : mn (a.size : Int) 300 = ((min a.size 300 : Nat) : Int) := by unfold mn; split <;> omega
    unfold abugidalaw03_cut.f
    rw [hm, if_pos (by omega), if_pos (by omega)]
    rfl
  refine ⟨a.extract 0 (min a.size 300), key a, ?_, ?_⟩
  · rw [ByteArray.size_extract, Nat.sub_zero]; exact Nat.le_trans (Nat.min_le_left _ _) (Nat.min_le_right _ _)
  rw [key]
  refine congrArg some ?_
  apply ByteArray.ext
  simp [ByteArray.data_extract, ByteArray.size_extract]
theorem DigestOne : abugidalaw03_DigestOne.Pure := by
  intro a at' c' _ hat hc'
  obtain ⟨c, hc, hcs, hcc⟩ := cut_is a
  have hat2 : 0 ≤ at' ∧ at' ≤ 65535 := by have h := hat; simp [Lit.wf] at h; exact h
  have hc2 : 0 ≤ c' ∧ c' ≤ 255 := by have h := hc'; simp [Lit.wf] at h; exact h
  refine ⟨10, ?_⟩
  unfold abugidalaw03_DigestOne.f
  rw [sanity_ok, hc]
  simp only [Option.bind_some]
  by_cases h0 : (c.size : Int) = 0
  · rw [if_pos h0, if_pos trivial, of_some c (by omega)]
    simp [OfB_size]
  · rw [if_neg h0]
    obtain ⟨n, rfl⟩ : ∃ n : Nat, at' = n := ⟨at'.toNat, by omega⟩
    obtain ⟨m, hm⟩ : ∃ m : Nat, mx c' 1 = m := ⟨(mx c' 1).toNat, by unfold mx; split <;> omega⟩
    have hm2 : 0 < m ∧ m < 256 := by unfold mx at hm; split at hm <;> omega
    rw [show wrap64 ((n : Nat) : Int) = n from w64 (by omega) (by omega), show Int.tmod (n : Int) (c.size : Int) = ((n % c.size : Nat) : Int) from rfl, hm]
    have hk : n % c.size < c.size := Nat.mod_lt _ (by omega)
    generalize n % c.size = k at *
    rw [bt_get c k hk, xor8 _ _ (c[k]).toNat_lt hm2.2, show wrap64 ((k : Int) + 1) = ((k + 1 : Nat) : Int) from w64 (by omega) (by omega)]
    rw [if_pos (by omega), if_pos (by omega), if_pos (by omega)]
    have hx := xor_ne (c[k]).toNat m (by omega)
    have hxl : (c[k]).toNat ^^^ m < 2 ^ 8 := Nat.xor_lt_two_pow (c[k]).toNat_lt (by omega)
    generalize hX : (c[k]).toNat ^^^ m = X at *
    have z1 : (c.extract 0 ((k : Nat) : Int).toNat).size = k := by simp [ByteArray.size_extract]; omega
    have z2 : (strOfNums [(X : Int)]).size = 1 := strOfNums_one _
    have z3 : (c.extract ((k + 1 : Nat) : Int).toNat c.size).size = c.size - (k + 1) := by simp [ByteArray.size_extract]
    have z4 : ((c.extract 0 ((k : Nat) : Int).toNat) ++ strOfNums [(X : Int)]).size = k + 1 := by rw [ByteArray.size_append, z1, z2]
    rw [if_pos (by rw [z1, z2]; omega), if_pos (by omega), if_pos (by omega), if_pos (by rw [z4, z3]; omega), if_pos trivial]
    have hd : c.data.toList = c.data.toList.take k ++ c[k] :: c.data.toList.drop (k + 1) := by
      have e : c.data.toList.drop k = c[k] :: c.data.toList.drop (k + 1) := by rw [List.drop_eq_getElem_cons (by simpa using hk)]; rfl
      rw [← e, List.take_append_drop]
    have ho : (((c.extract 0 ((k : Nat) : Int).toNat) ++ strOfNums [(X : Int)]) ++ c.extract ((k + 1 : Nat) : Int).toNat c.size).data.toList = c.data.toList.take k ++ UInt8.ofNat X :: c.data.toList.drop (k + 1) := by
      simp [strOfNums, ByteArray.data_extract, Array.toList_extract, List.extract]
      rw [List.take_of_length_le (by simp)]
    generalize hO : (((c.extract 0 ((k : Nat) : Int).toNat) ++ strOfNums [(X : Int)]) ++ c.extract ((k + 1 : Nat) : Int).toNat c.size) = o at *
    have zo : o.size = c.size := by rw [← hO, ByteArray.size_append, z4, z3]; omega
    have hne : OfB c ≠ OfB o := by
      refine OfB_ne _ _ _ _ hd ho ?_
      intro he
      have := congrArg UInt8.toNat he
      rw [UInt8.toNat_ofNat'] at this
      omega
    rw [of_some c (by omega), of_some o (by omega)]
    simp only [Option.bind_some]
    rw [if_neg (fun h => hne (bytes_ext h)), OfB_size, if_pos (by decide), hcc]
    simp only [Option.bind_some]
    rw [of_some c (by omega)]
    simp
end Go.Proofs.Ytgepeapfninmeaa.Pure
