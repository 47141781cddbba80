/- A number is read again as it was written, with what stands behind it. Plain law. -/
import Derived.Test.YtibdgpnedlpdbaaGwC
set_option linter.unusedVariables false
set_option linter.unusedSimpArgs false
namespace Go.Proofs.Ytibdgpnedlpdbaa.Pure
open Go.RowKit Go.Proofs.Ytibdgpnedlpdbaa.Pb Go.Proofs.YtibdgpnedlpdbaaW.PrintWords Go.Proofs.YtibdgpnedlpdbaaW.PrintLast Go.Proofs.YtibdgpnedlpdbaaW.PrintMore Go.Proofs.Ytibdgpnedlpdbaa.Gw
/-- The bytes of s from i on are those of l, and then others. -/
def Has (s : ByteArray) (i : Nat) (l : List Nat) : Prop := ∀ (j m : Nat), l[j]? = some m → bt s ((i + j : Nat) : Int) = (m : Int)
theorem Has.head {s : ByteArray} {i m : Nat} {l : List Nat} (h : Has s i (m :: l)) : bt s (i : Int) = (m : Int) := h 0 m rfl
theorem Has.tail {s : ByteArray} {i m : Nat} {l : List Nat} (h : Has s i (m :: l)) : Has s (i + 1) l := fun j x hx => by
  have := h (j + 1) x hx
  rw [show i + 1 + j = i + (j + 1) by omega]
  exact this
theorem vb_lt (c : Nat) : ∀ m ∈ vb c, m < 256 := by
  induction c using Nat.strongRecOn with
  | _ c ih =>
    intro m hm
    by_cases h : c < 128
    · rw [vb_lo h] at hm
      simp at hm; omega
    · rw [vb_hi h] at hm
      rcases List.mem_cons.1 hm with rfl | hm
      · omega
      · exact ih _ (by omega) m hm
theorem bt_get (s : ByteArray) (i : Nat) (h : i < s.size) : bt s (i : Int) = (s[i].toNat : Int) := by
  simp [bt, h]
theorem nums_get (l : List Nat) (h : ∀ m ∈ l, m < 256) (b : ByteArray) (j m : Nat) (hj : l[j]? = some m) : bt (nums l ++ b) (j : Int) = (m : Int) := by
  have hlt : j < l.length := (List.getElem?_eq_some_iff.1 hj).1
  have hm := h m (List.mem_of_getElem? hj)
  have hget : l[j] = m := (List.getElem?_eq_some_iff.1 hj).2
  have hsz : (nums l ++ b).size = l.length + b.size := by rw [ByteArray.size_append, nums_size]
  rw [bt_get _ j (by omega), ByteArray.getElem_append_left (by rw [nums_size]; exact hlt)]
  have e : (nums l)[j]'(by rw [nums_size]; exact hlt) = UInt8.ofNat m := by
    subst hget
    simp [nums, strOfNums, ByteArray.getElem_eq_getElem_data]
  rw [e, UInt8.toNat_ofNat']
  omega
theorem IntB_size (n : Int) : (IntB n).size = (vb (zig n)).length := nums_size _
/-- The end of a reading: the code is there. -/
theorem Reader_j2 (s : ByteArray) (n : Int) (h0 : -9223372036854775808 ≤ n) (h1 : n ≤ 9223372036854775807) (i : Nat) (hi : i < s.size) (hi2 : i < 1000) :
    Ev (fun k => wire_Reader_Int.j2 k ((zig n : Nat) : Int) (i : Int) false s false) (n, s.extract (i + 1) s.size, false) := by
  have hz := zig_lt h0 h1
  refine Ev.step (fun k => wire_Reader_Int.j2.eq_2 ..) ?_
  refine evN (by decide) ?_
  rw [show wrap64 ((i : Int) + 1) = ((i + 1 : Nat) : Int) from w64 (by omega) (by omega), and1u _ (by omega) (by omega), show ((zig n : Nat) : Int) / 2 = ((zig n / 2 : Nat) : Int) by omega, show wrap64 ((zig n / 2 : Nat) : Int) = ((zig n / 2 : Nat) : Int) from w64 (by omega) (by omega)]
  refine evI (by omega) ?_
  refine evI (by omega) ?_
  by_cases h : 0 ≤ n
  · refine evN (by unfold zig; rw [if_pos h]; omega) ?_
    rw [show ((zig n / 2 : Nat) : Int) = n by unfold zig; rw [if_pos h]; omega]
    exact Ev.now _
  · refine evI (by unfold zig; rw [if_neg h]; omega) ?_
    rw [xorI _ (by omega), show -1 - ((zig n / 2 : Nat) : Int) = n by unfold zig; rw [if_neg h]; omega]
    exact Ev.now _
theorem Reader_loop (s : ByteArray) (n : Int) (h0 : -9223372036854775808 ≤ n) (h1 : n ≤ 9223372036854775807) (d : Nat) : ∀ (i : Nat), (vb (zig n / 2 ^ (7 * i))).length = d →
    (i = 0 ∨ 0 < zig n / 2 ^ (7 * i)) → Has s i (vb (zig n / 2 ^ (7 * i))) → i + d ≤ s.size → i ≤ 9 →
    Ev (fun k => wire_Reader_Int.l0 k ((zig n % 2 ^ (7 * i) : Nat) : Int) (i : Int) s false) (n, s.extract (i + d) s.size, false) := by
  have hz := zig_lt h0 h1
  induction d with
  | zero => intro i hd; have := vb_pos (zig n / 2 ^ (7 * i)); omega
  | succ d ih =>
    intro i hd hne hh hsz h10
    have hmod : zig n % 2 ^ (7 * (i + 1)) = zig n % 2 ^ (7 * i) + (zig n / 2 ^ (7 * i) % 128) * 2 ^ (7 * i) := by
      rw [show 7 * (i + 1) = 7 * i + 7 by omega, Nat.pow_add, Nat.mod_mul, Nat.mul_comm (2 ^ (7 * i))]
    have hdiv : zig n / 2 ^ (7 * i) / 128 = zig n / 2 ^ (7 * (i + 1)) := by
      rw [Nat.div_div_eq_div_mul, show 7 * (i + 1) = 7 * i + 7 by omega, Nat.pow_add]
    have hle : zig n % 2 ^ (7 * (i + 1)) ≤ zig n := Nat.mod_le _ _
    have hlo : zig n % 2 ^ (7 * i) < 2 ^ (7 * i) := Nat.mod_lt _ (Nat.pow_pos (by omega))
    have hor := orU (zig n % 2 ^ (7 * i)) (zig n / 2 ^ (7 * i) % 128) (7 * i) hlo (by omega)
    rw [← hmod] at hor
    have hB : (zig n / 2 ^ (7 * i) % 128) * 2 ^ (7 * i) < 18446744073709551616 := by omega
    have hsh : ∀ v : Nat, v < 256 → v * 2 ^ (7 * i) < 18446744073709551616 → shl .u64 (IntKind.u64.wrap (v : Int)) (wrap64 (7 * (i : Int))) = ((v * 2 ^ (7 * i) : Nat) : Int) := by
      intro v hv hvb
      rw [wu64 (by omega) (by omega), show wrap64 (7 * (i : Int)) = ((7 * i : Nat) : Int) from (w64 (by omega) (by omega)).trans (by omega)]
      show IntKind.u64.wrap ((v : Int) * 2 ^ min ((7 * i : Nat) : Int).toNat 64) = _
      rw [show min ((7 * i : Nat) : Int).toNat 64 = 7 * i by omega, show (v : Int) * 2 ^ (7 * i) = ((v * 2 ^ (7 * i) : Nat) : Int) by simp]
      exact wu64 (by omega) (by omega)
    refine Ev.step (fun k => wire_Reader_Int.l0.eq_2 ..) ?_
    refine Ev.bind (a := ((s.size : Int), s, false)) (Ev.now _) ?_
    refine evI (by show (i : Int) < (s.size : Int); omega) ?_
    rw [show decide ((i : Int) < 10) = true from decide_eq_true (by omega)]
    refine Ev.step (fun k => wire_Reader_Int.j1.eq_2 ..) ?_
    refine evI rfl ?_
    refine evI (by omega) ?_
    refine evI (by show (i : Int) < (s.size : Int); omega) ?_
    refine evI (by rw [show wrap64 (7 * (i : Int)) = 7 * (i : Int) from w64 (by omega) (by omega)]; omega) ?_
    show Ev (fun k => if bt s (i : Int) ≥ 128 then _ else _) _
    by_cases h : zig n / 2 ^ (7 * i) < 128
    · rw [vb_lo h] at hh hd
      simp only [List.length_cons, List.length_nil] at hd
      obtain rfl : d = 0 := by omega
      have hb := hh.head
      have hfull : zig n % 2 ^ (7 * (i + 1)) = zig n := by
        apply Nat.mod_eq_of_lt
        have := (Nat.div_lt_iff_lt_mul (Nat.pow_pos (n := 7 * i) (show 0 < 2 by omega))).1 h
        rw [show 7 * (i + 1) = 7 * i + 7 by omega, Nat.pow_add]
        omega
      rw [hb, and127 _ (by omega), hsh _ (by omega) hB, hor, hfull]
      have hj2 := Reader_j2 s n h0 h1 i (by omega) (by omega)
      refine evN (by omega) ?_
      by_cases hi0 : (i : Int) > 0
      · refine evI hi0 ?_
        refine evN (by omega) ?_
        by_cases hi9 : (i : Int) = 9
        · refine evI hi9 ?_
          obtain rfl : i = 9 := by omega
          rw [show decide (((zig n / 2 ^ (7 * 9) : Nat) : Int) > 1) = false from decide_eq_false (by
            have : zig n / 2 ^ (7 * 9) < 2 := (Nat.div_lt_iff_lt_mul (by decide)).2 (by omega)
            omega)]
          exact hj2
        · refine evN hi9 ?_
          exact hj2
      · refine evN hi0 ?_
        refine evN (by omega) ?_
        exact hj2
    · rw [vb_hi h] at hh hd
      simp only [List.length_cons] at hd
      have hb := hh.head
      have ht := hh.tail
      rw [hdiv] at ht hd
      have h9 : i + 1 ≤ 9 := by
        rcases Nat.lt_or_ge i 9 with h' | h'
        · exact h'
        · have hi9 : i = 9 := by omega
          subst hi9
          have : zig n / 2 ^ (7 * 9) < 2 := (Nat.div_lt_iff_lt_mul (by decide)).2 (by omega)
          omega
      have hpos : 0 < zig n / 2 ^ (7 * (i + 1)) := by rw [← hdiv]; omega
      have := ih (i + 1) (by omega) (.inr hpos) ht (by omega) h9
      rw [hb, and127 _ (by omega), show (zig n / 2 ^ (7 * i) % 128 + 128) % 128 = zig n / 2 ^ (7 * i) % 128 by omega, hsh _ (by omega) hB, hor, show wrap64 ((i : Int) + 1) = ((i + 1 : Nat) : Int) from w64 (by omega) (by omega)]
      refine evI (by omega) ?_
      rw [show i + 1 + d = i + (d + 1) by omega] at this
      exact this
theorem extract_app (a b : ByteArray) : (a ++ b).extract a.size (a ++ b).size = b := by
  apply ByteArray.ext
  have h : a.data.extract a.size (a.size + b.size) = #[] := by simp [Array.extract_empty_of_size_le_start, show a.data.size = a.size from rfl]
  have h2 : b.data.extract 0 b.size = b.data := by rw [show b.size = b.data.size from rfl]; simp
  simp [ByteArray.data_extract, ByteArray.size_append, h, h2]
/-- Reading a number. -/
theorem Reader_Int_ev (n : Int) (h0 : -9223372036854775808 ≤ n) (h1 : n ≤ 9223372036854775807) (rest : ByteArray) : Ev (fun k => wire_Reader_Int.f k (IntB n ++ rest) false) (n, rest, false) := by
  have key := Reader_loop (IntB n ++ rest) n h0 h1 _ 0 rfl (.inl rfl) (by
    intro j m hm
    rw [Nat.mul_zero, Nat.pow_zero, Nat.div_one] at hm
    rw [Nat.zero_add]
    exact nums_get _ (vb_lt _) rest j m hm) (by rw [Nat.mul_zero, Nat.pow_zero, Nat.div_one, ByteArray.size_append, IntB_size]; omega) (by omega)
  rw [Nat.mul_zero, Nat.pow_zero, Nat.div_one, Nat.mod_one, Nat.zero_add, ← IntB_size, extract_app] at key
  exact key
theorem sanity_ok : abugidalaw02_sanity.f 12 = some true := by decide +kernel
theorem sanity_more : ∀ k, abugidalaw02_sanity.f (12 + k) = some true
  | 0 => sanity_ok
  | k + 1 => abugidalaw02_sanity.mono (12 + k) true (sanity_more k)
theorem sanity_ev : Ev (fun k => abugidalaw02_sanity.f k) true := ⟨12, fun k hk => by obtain ⟨d, rfl⟩ := Nat.exists_eq_add_of_le hk; exact sanity_more d⟩
theorem i64_range {a : Int} (h : (Lit.int .i64 a).wf = true) : -9223372036854775808 ≤ a ∧ a ≤ 9223372036854775807 := by simp [Lit.wf] at h; exact h
end Go.Proofs.Ytibdgpnedlpdbaa.Pure
