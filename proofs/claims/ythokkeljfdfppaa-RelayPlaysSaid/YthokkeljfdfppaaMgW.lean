/- Several texts of this claim, one behind the other: Pbx4, GwC, GwD, GwE, GwF, PureWireCut, GwU. -/
import Derived.Test.YthokkeljfdfppaaMgG

/- The bytes of a number: what is written, and read again. Plain law. -/
set_option linter.unusedVariables false
set_option linter.unusedSimpArgs false
namespace Go.Proofs.Ythokkeljfdfppaa.Pure
open Go.RowKit Go.Proofs.Ythokkeljfdfppaa.Pb Go.Proofs.YthokkeljfdfppaaW.PrintWords Go.Proofs.YthokkeljfdfppaaW.PrintLast Go.Proofs.YthokkeljfdfppaaW.PrintMore Go.Proofs.Ythokkeljfdfppaa.Gw
theorem zak2 {p : Prop} (h : p := by show (i : Int) < (q.size : Int); omega) : p := h
theorem zak1 {p : Prop} (h : p := by rw [ByteArray.size_append]; omega) : p := h
theorem zak0 {p : Prop} (h : p := by rw [show wrap64 (7 * (i : Int)) = 7 * (i : Int) from w64 (by omega) (by omega)]; omega) : p := h
theorem evI {α : Type} {c : Prop} [Decidable c] {A B : Nat → Option α} {r : α} (h : c) (k : Ev A r) : Ev (fun n => if c then A n else B n) r := Ev.congr (fun _ => if_pos h) k
theorem evN {α : Type} {c : Prop} [Decidable c] {A B : Nat → Option α} {r : α} (h : ¬ c) (k : Ev B r) : Ev (fun n => if c then A n else B n) r := Ev.congr (fun _ => if_neg h) k
theorem w64 {x : Int} (h0 : -9223372036854775808 ≤ x) (h1 : x < 9223372036854775808) : wrap64 x = x := by unfold wrap64; omega
theorem wu64 {x : Int} (h0 : 0 ≤ x) (h1 : x < 18446744073709551616) : IntKind.u64.wrap x = x := by rw [IntKind.wrap_u64]; omega
def vb (c : Nat) : List Nat := if h : c < 128 then [c] else (c % 128 + 128) :: vb (c / 128)
 termination_by c
 decreasing_by omega
theorem vb_lo {c : Nat} (h : c < 128) : vb c = [c] := by rw [vb]; exact dif_pos h
theorem vb_hi {c : Nat} (h : ¬ c < 128) : vb c = (c % 128 + 128) :: vb (c / 128) := by rw [vb]; exact dif_neg h
def zig (n : Int) : Nat := if 0 ≤ n then (2 * n).toNat else (-2 * n - 1).toNat
theorem zig_lt {n : Int} (h0 : -9223372036854775808 ≤ n) (h1 : n ≤ 9223372036854775807) : zig n < 18446744073709551616 := by unfold zig; split <;> omega
def nums (l : List Nat) : ByteArray := strOfNums (l.map Int.ofNat)
def IntB (n : Int) : ByteArray := nums (vb (zig n))
theorem strOfNums_append (a b : List Int) : strOfNums (a ++ b) = strOfNums a ++ strOfNums b := by
 apply ByteArray.ext
 simp [strOfNums]
theorem nums_append (a b : List Nat) : nums (a ++ b) = nums a ++ nums b := by rw [nums, List.map_append, strOfNums_append]; rfl
theorem nums_size (l : List Nat) : (nums l).size = l.length := by unfold nums; rw [strOfNums_size, List.length_map]
theorem or128 (m : Nat) (h : m < 256) : Go.bits .or .u8 (m : Int) 128 = ((m % 128 + 128 : Nat) : Int) := by
 have : ∀ m : Nat, m < 256 → Go.bits .or .u8 (m : Int) 128 = ((m % 128 + 128 : Nat) : Int) := by decide +kernel
 exact this m h
theorem and127 (m : Nat) (h : m < 256) : Go.bits .and .u8 (m : Int) 127 = ((m % 128 : Nat) : Int) := by
 have : ∀ m : Nat, m < 256 → Go.bits .and .u8 (m : Int) 127 = ((m % 128 : Nat) : Int) := by decide +kernel
 exact this m h
theorem not64 (x : Nat) (h : x < 18446744073709551616) : 18446744073709551615 ^^^ x = 18446744073709551615 - x := by
 have h1 : (BitVec.allOnes 64 ^^^ BitVec.ofNat 64 x) = ~~~ (BitVec.ofNat 64 x) := BitVec.allOnes_xor
 have h2 := congrArg BitVec.toNat h1
 rw [BitVec.toNat_xor, BitVec.toNat_not, BitVec.toNat_ofNat, BitVec.toNat_allOnes, Nat.mod_eq_of_lt (by simpa using h)] at h2
 simpa using h2
theorem xorU (x : Nat) (h : x < 18446744073709551616) : Go.bits .xor .u64 18446744073709551615 (x : Int) = ((18446744073709551615 - x : Nat) : Int) := by
 have e2 : IntKind.u64.wrap ((18446744073709551615 - x : Nat) : Int) = ((18446744073709551615 - x : Nat) : Int) := wu64 (by omega) (by omega)
 simp [Go.bits]
 rw [show x % 2 ^ IntKind.u64.bits = x from Nat.mod_eq_of_lt h, show 18446744073709551615 % 2 ^ IntKind.u64.bits = 18446744073709551615 from rfl, not64 x h]
 exact e2
theorem xorI (x : Nat) (h : x < 9223372036854775808) : Go.bits .xor .i64 (-1) (x : Int) = -1 - (x : Int) := by
 have e2 : IntKind.i64.wrap ((18446744073709551615 - x : Nat) : Int) = -1 - (x : Int) := by rw [IntKind.wrap_i64]; omega
 simp [Go.bits]
 rw [show x % 2 ^ IntKind.i64.bits = x from Nat.mod_eq_of_lt (by have : (2 : Nat) ^ IntKind.i64.bits = 18446744073709551616 := rfl; omega), show (-1 % 2 ^ IntKind.i64.bits : Int).toNat = 18446744073709551615 from rfl, not64 x (by omega)]
 exact e2
theorem orU (a b i : Nat) (ha : a < 2 ^ i) (hlt : a + b * 2 ^ i < 18446744073709551616) : Go.bits .or .u64 (a : Int) ((b * 2 ^ i : Nat) : Int) = ((a + b * 2 ^ i : Nat) : Int) := by
 have e : a ||| (b * 2 ^ i) = a + b * 2 ^ i := by
  rw [Nat.or_comm, Nat.mul_comm, ← Nat.two_pow_add_eq_or_of_lt ha b]; omega
 have e2 : IntKind.u64.wrap ((a + b * 2 ^ i : Nat) : Int) = ((a + b * 2 ^ i : Nat) : Int) := wu64 (by omega) (by omega)
 generalize b * 2 ^ i = B at *
 simp [Go.bits]
 rw [show a % 2 ^ IntKind.u64.bits = a from Nat.mod_eq_of_lt (by have : (2 : Nat) ^ IntKind.u64.bits = 18446744073709551616 := rfl; omega), show B % 2 ^ IntKind.u64.bits = B from Nat.mod_eq_of_lt (by have : (2 : Nat) ^ IntKind.u64.bits = 18446744073709551616 := rfl; omega), e]
 exact e2
theorem and1u (x : Int) (h0 : 0 ≤ x) (h1 : x < 18446744073709551616) : Go.bits .and .u64 x 1 = x % 2 := bits_mask .u64 64 (by decide) (fun n h0 h1 => by rw [IntKind.wrap_u64]; omega) 1 (by decide) x h0 (by omega)
theorem Int_loop (c : Nat) : ∀ acc : List Nat, acc.length + (vb c).length ≤ 1000 → Ev (fun k => wire_Int.l0 k (c : Int) (acc.map Int.ofNat)) (nums (acc ++ vb c)) := by
 induction c using Nat.strongRecOn with
 | _ c ih =>
   intro acc hl
   refine Ev.step (fun k => wire_Int.l0.eq_2 ..) ?_
   by_cases h : c < 128
   · refine evN (by omega) ?_
     refine evI (by simp; omega) ?_
     rw [show (c : Int) % 256 = c by omega, vb_lo h]
     unfold nums
     rw [List.map_append]
     exact Ev.now _
   · rw [vb_hi h] at hl ⊢
     simp only [List.length_cons] at hl
     refine evI (by omega) ?_
     refine evI (by simp; omega) ?_
     rw [show (c : Int) % 256 = ((c % 256 : Nat) : Int) by omega, or128 _ (Nat.mod_lt _ (by decide)), show c % 256 % 128 + 128 = c % 128 + 128 by omega, show (c : Int) / 128 = ((c / 128 : Nat) : Int) by omega]
     have := ih (c / 128) (by omega) (acc ++ [c % 128 + 128]) (by simp; omega)
     rw [List.map_append, List.append_assoc] at this
     exact this
theorem vb_len (i : Nat) : ∀ c, c < 2 ^ (7 * i) → (vb c).length ≤ max i 1 := by
 induction i with
 | zero => intro c h; rw [vb_lo (by omega)]; simp
 | succ i ih =>
   intro c h
   by_cases hc : c < 128
   · rw [vb_lo hc]; simp
   · rw [vb_hi hc]
     have h2 : c / 128 < 2 ^ (7 * i) := by
      rw [Nat.div_lt_iff_lt_mul (by decide)]
      rw [show 7 * (i + 1) = 7 * i + 7 by omega, Nat.pow_add] at h
      exact h
     have := ih _ h2
     simp only [List.length_cons]
     rcases i with _ | i
     · simp at h2; omega
     · omega
theorem vb_len10 {c : Nat} (h : c < 18446744073709551616) : (vb c).length ≤ 10 := by
 have := vb_len 10 c (by omega)
 omega
theorem vb_pos (c : Nat) : 0 < (vb c).length := by rw [vb]; split <;> simp
theorem wire_Int_ev (n : Int) (h0 : -9223372036854775808 ≤ n) (h1 : n ≤ 9223372036854775807) : Ev (fun k => wire_Int.f k n) (IntB n) := by
 have hz := zig_lt h0 h1
 have hl := vb_len10 hz
 have key := Int_loop (zig n) [] (by simp; omega)
 unfold wire_Int.f
 by_cases h : n < 0
 · refine evI h ?_
   refine Ev.step (fun k => wire_Int.j0.eq_2 ..) ?_
   have e : IntKind.u64.wrap (IntKind.u64.wrap n * 2) = (((2 * n + 18446744073709551616).toNat : Nat) : Int) := by rw [IntKind.wrap_u64, IntKind.wrap_u64]; omega
   rw [e, xorU _ (by omega), show (18446744073709551615 - (2 * n + 18446744073709551616).toNat : Nat) = zig n by unfold zig; rw [if_neg (by omega)]; omega]
   exact key
 · refine evN h ?_
   refine Ev.step (fun k => wire_Int.j0.eq_2 ..) ?_
   have e : IntKind.u64.wrap (IntKind.u64.wrap n * 2) = ((zig n : Nat) : Int) := by rw [IntKind.wrap_u64, IntKind.wrap_u64]; unfold zig; rw [if_pos (by omega)]; omega
   rw [e]
   exact key
theorem ref_Int_loop (c : Nat) (hc : c < 18446744073709551616) : ∀ acc : List Nat, acc.length + (vb c).length ≤ 1000 → Ev (fun k => abugidaref02_Int.l0 k (c : Int) (nums acc)) (nums (acc ++ vb c)) := by
 induction c using Nat.strongRecOn with
 | _ c ih =>
   intro acc hl
   refine Ev.step (fun k => abugidaref02_Int.l0.eq_2 ..) ?_
   have one : ∀ m : Nat, strOfNums [(m : Int)] = nums [m] := fun m => rfl
   by_cases h : c < 128
   · refine evN (by omega) ?_
     refine Ev.bind (Ev.now _) ?_
     rw [show (c : Int) % 256 = (c : Nat) by omega, one, vb_lo h] at *
     refine evI (by rw [nums_size, nums_size]; simp; omega) ?_
     rw [nums_append]
     exact Ev.now _
   · rw [vb_hi h] at hl ⊢
     simp only [List.length_cons] at hl
     refine evI (by omega) ?_
     refine Ev.bind (Ev.now _) ?_
     have e1 : IntKind.u64.wrap (Int.tmod (c : Int) 128 + 128) % 256 = ((c % 128 + 128 : Nat) : Int) := by
      rw [show Int.tmod (c : Int) 128 = ((c % 128 : Nat) : Int) from rfl, wu64 (by omega) (by omega)]; omega
     have e2 : IntKind.u64.wrap (Int.tdiv (c : Int) 128) = ((c / 128 : Nat) : Int) := by
      rw [show Int.tdiv (c : Int) 128 = ((c / 128 : Nat) : Int) from rfl, wu64 (by omega) (by omega)]
     rw [e1, e2, one]
     refine evI (by rw [nums_size, nums_size]; simp; omega) ?_
     have := ih (c / 128) (by omega) (by omega) (acc ++ [c % 128 + 128]) (by simp; omega)
     rw [List.append_assoc, nums_append] at this
     exact this
theorem ref_Int_ev (n : Int) (h0 : -9223372036854775808 ≤ n) (h1 : n ≤ 9223372036854775807) : Ev (fun k => abugidaref02_Int.f k n) (IntB n) := by
 have hz := zig_lt h0 h1
 have hl := vb_len10 hz
 have key := ref_Int_loop (zig n) hz [] (by simp; omega)
 have e : abugidaref02_code.f n = some ((zig n : Nat) : Int) := by
  unfold abugidaref02_code.f
  by_cases h : n ≥ 0
  · rw [if_pos h, IntKind.wrap_u64, IntKind.wrap_u64]
    unfold zig
    rw [if_pos h]
    congr 1
    omega
  · rw [if_neg h, show wrap64 (n + 1) = n + 1 from w64 (by omega) (by omega), show wrap64 (-(n + 1)) = -(n + 1) from w64 (by omega) (by omega), IntKind.wrap_u64, IntKind.wrap_u64, IntKind.wrap_u64]
    unfold zig
    rw [if_neg h]
    congr 1
    omega
 unfold abugidaref02_Int.f
 rw [e]
 exact Ev.bind (Ev.now _) key
def Has (s : ByteArray) (i : Nat) (l : List Nat) : Prop := ∀ (j m : Nat), l[j]? = some m → bt s ((i + j : Nat) : Int) = (m : Int)
theorem Has.head {s : ByteArray} {i m : Nat} {l : List Nat} (h : Has s i (m :: l)) : bt s (i : Int) = (m : Int) := h 0 m rfl
theorem Has.tail {s : ByteArray} {i m : Nat} {l : List Nat} (h : Has s i (m :: l)) : Has s (i + 1) l := fun j x hx => by
 have := h (j + 1) x hx
 rw [show i + 1 + j = i + (j + 1) by omega]
 exact this
theorem vb_lt (c : Nat) : ∀ m ∈ vb c, m < 256 := by
 induction c using Nat.strongRecOn with
 | _ c ih =>
   intro m hm
   by_cases h : c < 128
   · rw [vb_lo h] at hm
     simp at hm; omega
   · rw [vb_hi h] at hm
     rcases List.mem_cons.1 hm with rfl | hm
     · omega
     · exact ih _ (by omega) m hm
theorem bt_get (s : ByteArray) (i : Nat) (h : i < s.size) : bt s (i : Int) = (s[i].toNat : Int) := by
 simp [bt, h]
theorem nums_get (l : List Nat) (h : ∀ m ∈ l, m < 256) (b : ByteArray) (j m : Nat) (hj : l[j]? = some m) : bt (nums l ++ b) (j : Int) = (m : Int) := by
 have hlt : j < l.length := (List.getElem?_eq_some_iff.1 hj).1
 have hm := h m (List.mem_of_getElem? hj)
 have hget : l[j] = m := (List.getElem?_eq_some_iff.1 hj).2
 have hsz : (nums l ++ b).size = l.length + b.size := by rw [ByteArray.size_append, nums_size]
 rw [bt_get _ j (by omega), ByteArray.getElem_append_left (by rw [nums_size]; exact hlt)]
 have e : (nums l)[j]'(by rw [nums_size]; exact hlt) = UInt8.ofNat m := by
  subst hget
  simp [nums, strOfNums, ByteArray.getElem_eq_getElem_data]
 rw [e, UInt8.toNat_ofNat']
 omega
theorem IntB_size (n : Int) : (IntB n).size = (vb (zig n)).length := nums_size _
theorem Reader_j2 (s : ByteArray) (n : Int) (h0 : -9223372036854775808 ≤ n) (h1 : n ≤ 9223372036854775807) (i : Nat) (hi : i < s.size) (hi2 : i < 1000) :
 Ev (fun k => wire_Reader_Int.j2 k ((zig n : Nat) : Int) (i : Int) false s false) (n, s.extract (i + 1) s.size, false) := by
 have hz := zig_lt h0 h1
 refine Ev.step (fun k => wire_Reader_Int.j2.eq_2 ..) ?_
 refine evN (by decide) ?_
 rw [show wrap64 ((i : Int) + 1) = ((i + 1 : Nat) : Int) from w64 (by omega) (by omega), and1u _ (by omega) (by omega), show ((zig n : Nat) : Int) / 2 = ((zig n / 2 : Nat) : Int) by omega, show wrap64 ((zig n / 2 : Nat) : Int) = ((zig n / 2 : Nat) : Int) from w64 (by omega) (by omega)]
 refine evI (by omega) ?_
 refine evI (by omega) ?_
 by_cases h : 0 ≤ n
 · refine evN (by unfold zig; rw [if_pos h]; omega) ?_
   rw [show ((zig n / 2 : Nat) : Int) = n by unfold zig; rw [if_pos h]; omega]
   exact Ev.now _
 · refine evI (by unfold zig; rw [if_neg h]; omega) ?_
   rw [xorI _ (by omega), show -1 - ((zig n / 2 : Nat) : Int) = n by unfold zig; rw [if_neg h]; omega]
   exact Ev.now _
theorem Reader_loop (s : ByteArray) (n : Int) (h0 : -9223372036854775808 ≤ n) (h1 : n ≤ 9223372036854775807) (d : Nat) : ∀ (i : Nat), (vb (zig n / 2 ^ (7 * i))).length = d →
 (i = 0 ∨ 0 < zig n / 2 ^ (7 * i)) → Has s i (vb (zig n / 2 ^ (7 * i))) → i + d ≤ s.size → i ≤ 9 →
 Ev (fun k => wire_Reader_Int.l0 k ((zig n % 2 ^ (7 * i) : Nat) : Int) (i : Int) s false) (n, s.extract (i + d) s.size, false) := by
 have hz := zig_lt h0 h1
 induction d with
 | zero => intro i hd; have := vb_pos (zig n / 2 ^ (7 * i)); omega
 | succ d ih =>
   intro i hd hne hh hsz h10
   have hmod : zig n % 2 ^ (7 * (i + 1)) = zig n % 2 ^ (7 * i) + (zig n / 2 ^ (7 * i) % 128) * 2 ^ (7 * i) := by
    rw [show 7 * (i + 1) = 7 * i + 7 by omega, Nat.pow_add, Nat.mod_mul, Nat.mul_comm (2 ^ (7 * i))]
   have hdiv : zig n / 2 ^ (7 * i) / 128 = zig n / 2 ^ (7 * (i + 1)) := by
    rw [Nat.div_div_eq_div_mul, show 7 * (i + 1) = 7 * i + 7 by omega, Nat.pow_add]
   have hle : zig n % 2 ^ (7 * (i + 1)) ≤ zig n := Nat.mod_le _ _
   have hlo : zig n % 2 ^ (7 * i) < 2 ^ (7 * i) := Nat.mod_lt _ (Nat.pow_pos (by omega))
   have hor := orU (zig n % 2 ^ (7 * i)) (zig n / 2 ^ (7 * i) % 128) (7 * i) hlo (by omega)
   rw [← hmod] at hor
   have hB : (zig n / 2 ^ (7 * i) % 128) * 2 ^ (7 * i) < 18446744073709551616 := by omega
   have hsh : ∀ v : Nat, v < 256 → v * 2 ^ (7 * i) < 18446744073709551616 → shl .u64 (IntKind.u64.wrap (v : Int)) (wrap64 (7 * (i : Int))) = ((v * 2 ^ (7 * i) : Nat) : Int) := by
    intro v hv hvb
    rw [wu64 (by omega) (by omega), show wrap64 (7 * (i : Int)) = ((7 * i : Nat) : Int) from (w64 (by omega) (by omega)).trans (by omega)]
    show IntKind.u64.wrap ((v : Int) * 2 ^ min ((7 * i : Nat) : Int).toNat 64) = _
    rw [show min ((7 * i : Nat) : Int).toNat 64 = 7 * i by omega, show (v : Int) * 2 ^ (7 * i) = ((v * 2 ^ (7 * i) : Nat) : Int) by simp]
    exact wu64 (by omega) (by omega)
   refine Ev.step (fun k => wire_Reader_Int.l0.eq_2 ..) ?_
   refine Ev.bind (a := ((s.size : Int), s, false)) (Ev.now _) ?_
   refine evI (by show (i : Int) < (s.size : Int); omega) ?_
   rw [show decide ((i : Int) < 10) = true from decide_eq_true (by omega)]
   refine Ev.step (fun k => wire_Reader_Int.j1.eq_2 ..) ?_
   refine evI rfl ?_
   refine evI (by omega) ?_
   refine evI (by show (i : Int) < (s.size : Int); omega) ?_
   refine evI zak0 ?_
   show Ev (fun k => if bt s (i : Int) ≥ 128 then _ else _) _
   by_cases h : zig n / 2 ^ (7 * i) < 128
   · rw [vb_lo h] at hh hd
     simp only [List.length_cons, List.length_nil] at hd
     obtain rfl : d = 0 := by omega
     have hb := hh.head
     have hfull : zig n % 2 ^ (7 * (i + 1)) = zig n := by
      apply Nat.mod_eq_of_lt
      have := (Nat.div_lt_iff_lt_mul (Nat.pow_pos (n := 7 * i) (show 0 < 2 by omega))).1 h
      rw [show 7 * (i + 1) = 7 * i + 7 by omega, Nat.pow_add]
      omega
     rw [hb, and127 _ (by omega), hsh _ (by omega) hB, hor, hfull]
     have hj2 := Reader_j2 s n h0 h1 i (by omega) (by omega)
     refine evN (by omega) ?_
     by_cases hi0 : (i : Int) > 0
     · refine evI hi0 ?_
       refine evN (by omega) ?_
       by_cases hi9 : (i : Int) = 9
       · refine evI hi9 ?_
         obtain rfl : i = 9 := by omega
         rw [show decide (((zig n / 2 ^ (7 * 9) : Nat) : Int) > 1) = false from decide_eq_false (by
          have : zig n / 2 ^ (7 * 9) < 2 := (Nat.div_lt_iff_lt_mul (by decide)).2 (by omega)
          omega)]
         exact hj2
       · refine evN hi9 ?_
         exact hj2
     · refine evN hi0 ?_
       refine evN (by omega) ?_
       exact hj2
   · rw [vb_hi h] at hh hd
     simp only [List.length_cons] at hd
     have hb := hh.head
     have ht := hh.tail
     rw [hdiv] at ht hd
     have h9 : i + 1 ≤ 9 := by
      rcases Nat.lt_or_ge i 9 with h' | h'
      · exact h'
      · have hi9 : i = 9 := by omega
        subst hi9
        have : zig n / 2 ^ (7 * 9) < 2 := (Nat.div_lt_iff_lt_mul (by decide)).2 (by omega)
        omega
     have hpos : 0 < zig n / 2 ^ (7 * (i + 1)) := by rw [← hdiv]; omega
     have := ih (i + 1) (by omega) (.inr hpos) ht (by omega) h9
     rw [hb, and127 _ (by omega), show (zig n / 2 ^ (7 * i) % 128 + 128) % 128 = zig n / 2 ^ (7 * i) % 128 by omega, hsh _ (by omega) hB, hor, show wrap64 ((i : Int) + 1) = ((i + 1 : Nat) : Int) from w64 (by omega) (by omega)]
     refine evI (by omega) ?_
     rw [show i + 1 + d = i + (d + 1) by omega] at this
     exact this
theorem extract_app (a b : ByteArray) : (a ++ b).extract a.size (a ++ b).size = b := by
 apply ByteArray.ext
 have h : a.data.extract a.size (a.size + b.size) = #[] := by simp [Array.extract_empty_of_size_le_start, show a.data.size = a.size from rfl]
 have h2 : b.data.extract 0 b.size = b.data := by rw [show b.size = b.data.size from rfl]; simp
 simp [ByteArray.data_extract, ByteArray.size_append, h, h2]
theorem Reader_Int_ev (n : Int) (h0 : -9223372036854775808 ≤ n) (h1 : n ≤ 9223372036854775807) (rest : ByteArray) : Ev (fun k => wire_Reader_Int.f k (IntB n ++ rest) false) (n, rest, false) := by
 have key := Reader_loop (IntB n ++ rest) n h0 h1 _ 0 rfl (.inl rfl) (by
  intro j m hm
  rw [Nat.mul_zero, Nat.pow_zero, Nat.div_one] at hm
  rw [Nat.zero_add]
  exact nums_get _ (vb_lt _) rest j m hm) (by rw [Nat.mul_zero, Nat.pow_zero, Nat.div_one, ByteArray.size_append, IntB_size]; omega) (by omega)
 rw [Nat.mul_zero, Nat.pow_zero, Nat.div_one, Nat.mod_one, Nat.zero_add, ← IntB_size, extract_app] at key
 exact key
theorem i64_range {a : Int} (h : (Lit.int .i64 a).wf = true) : -9223372036854775808 ≤ a ∧ a ≤ 9223372036854775807 := by simp [Lit.wf] at h; exact h
theorem rd_some' {l : List ByteArray} {i : Nat} {s : ByteArray} (h : l[i]? = some s) : rdOf ByteArray.empty l (i : Int) = s := by
 simp [rdOf, List.getD_eq_getElem?_getD, h]
theorem rdi_some {l : List Int} {i : Nat} {s : Int} (h : l[i]? = some s) : rd l (i : Int) = s := by
 simp [rd, List.getD_eq_getElem?_getD, h]
theorem get_some {α : Type} {l : List α} {i : Nat} (h : i < l.length) : ∃ s, l[i]? = some s := ⟨l[i], List.getElem?_eq_getElem h⟩
def join {α : Type} (G : α → ByteArray) (l : List α) (acc : ByteArray) : ByteArray := l.foldl (fun a x => a ++ G x) acc
theorem join_size {α : Type} (G : α → ByteArray) (c : Nat) (l : List α) : ∀ acc, (∀ x ∈ l, (G x).size ≤ c) → (join G l acc).size ≤ acc.size + l.length * c := by
 induction l with
 | nil => intro acc _; simp [join]
 | cons x l ih =>
   intro acc h
   have := ih (acc ++ G x) (fun y hy => h y (List.mem_cons_of_mem _ hy))
   have hx := h x (List.mem_cons_self ..)
   rw [ByteArray.size_append] at this
   show (join G l (acc ++ G x)).size ≤ _
   rw [List.length_cons, Nat.succ_mul]
   omega
theorem cat_ev {α : Type} (g : Nat → α → Option ByteArray) (G : α → ByteArray) (c : Nat) (l : List α) : ∀ acc : ByteArray, (∀ x ∈ l, Ev (fun k => g k x) (G x)) → (∀ x ∈ l, (G x).size ≤ c) → acc.size + l.length * c ≤ 140737488355328 →
 Ev (fun k => cat (g k) l acc.data.toList) (join G l acc).data.toList := by
 induction l with
 | nil => intro acc _ _ _; exact Ev.now _
 | cons x l ih =>
   intro acc he hs hz
   have hx := hs x (List.mem_cons_self ..)
   rw [List.length_cons, Nat.succ_mul] at hz
   refine Ev.congr (fun k => by unfold cat; rfl) ?_
   refine Ev.bind (he x (List.mem_cons_self ..)) ?_
   refine evI (by rw [Array.length_toList]; have : acc.data.size = acc.size := rfl; omega) ?_
   have := ih (acc ++ G x) (fun y hy => he y (List.mem_cons_of_mem _ hy)) (fun y hy => hs y (List.mem_cons_of_mem _ hy)) zak1
   rw [ByteArray.data_append, Array.toList_append] at this
   exact this
theorem listF_ev {α : Type} (hd : Nat → Int → Option ByteArray) (g : Nat → α → Option ByteArray) (H : ByteArray) (G : α → ByteArray) (c : Nat) (l : List α) (hh : Ev (fun k => hd k l.length) H) (he : ∀ x ∈ l, Ev (fun k => g k x) (G x)) (hs : ∀ x ∈ l, (G x).size ≤ c) (hz : H.size + l.length * c ≤ 140737488355328) :
 Ev (fun k => listF (hd k) (g k) l) (join G l H) := by
 unfold listF
 refine Ev.bind hh ?_
 refine evI (by omega) ?_
 refine Ev.bind (cat_ev g G c l H he hs hz) ?_
 exact Ev.now _
def TextB (s : ByteArray) : ByteArray := IntB s.size ++ s
theorem IntB_small (n : Int) (h0 : -9223372036854775808 ≤ n) (h1 : n ≤ 9223372036854775807) : (IntB n).size ≤ 10 := by rw [IntB_size]; exact vb_len10 (zig_lt h0 h1)
theorem TextB_size (s : ByteArray) (h : s.size ≤ 70000) : (TextB s).size ≤ 10 + s.size := by
 have := IntB_small (s.size : Int) (by omega) (by omega)
 unfold TextB
 rw [ByteArray.size_append]
 omega
theorem wire_Text_ev (s : ByteArray) (h : s.size ≤ 70000) : Ev (fun k => wire_Text.f k s) (TextB s) := by
 have := IntB_small (s.size : Int) (by omega) (by omega)
 unfold wire_Text.f
 refine Ev.bind (wire_Int_ev s.size (by omega) (by omega)) ?_
 refine evI (by omega) ?_
 exact Ev.now _
theorem ref_Text_ev (s : ByteArray) (h : s.size ≤ 70000) : Ev (fun k => abugidaref02_Text.f k s) (TextB s) := by
 have := IntB_small (s.size : Int) (by omega) (by omega)
 unfold abugidaref02_Text.f
 refine Ev.bind (ref_Int_ev s.size (by omega) (by omega)) ?_
 refine evI (by omega) ?_
 exact Ev.now _
def IntsB (l : List Int) : ByteArray := join IntB l (IntB l.length)
def TextsB (l : List ByteArray) : ByteArray := join TextB l (IntB l.length)
def Ok64 (l : List Int) : Prop := ∀ x ∈ l, -9223372036854775808 ≤ x ∧ x ≤ 9223372036854775807
theorem wire_Ints_ev (l : List Int) (hl : l.length ≤ 9000) (h : Ok64 l) : Ev (fun k => wire_Ints.f k l) (IntsB l) := by
 have := IntB_small (l.length : Int) (by omega) (by omega)
 exact listF_ev (fun k => wire_Int.f k) (fun k => wire_Int.f k) _ IntB 10 l (wire_Int_ev l.length (by omega) (by omega)) (fun x hx => wire_Int_ev x (h x hx).1 (h x hx).2) (fun x hx => IntB_small x (h x hx).1 (h x hx).2) (by omega)
theorem wire_Texts_ev (l : List ByteArray) (hl : l.length ≤ 9000) (h : ∀ s ∈ l, s.size ≤ 70000) : Ev (fun k => wire_Texts.f k l) (TextsB l) := by
 have := IntB_small (l.length : Int) (by omega) (by omega)
 exact listF_ev (fun k => wire_Int.f k) (fun k => wire_Text.f k) _ TextB 70010 l (wire_Int_ev l.length (by omega) (by omega)) (fun x hx => wire_Text_ev x (h x hx)) (fun x hx => Nat.le_trans (TextB_size x (h x hx)) (by have := h x hx; omega)) (by omega)
theorem join_snoc {α : Type} (G : α → ByteArray) (l : List α) (i : Nat) (x : α) (h : l[i]? = some x) (acc : ByteArray) : join G (l.take (i + 1)) acc = join G (l.take i) acc ++ G x := by
 unfold join
 rw [List.take_add_one, h]
 simp
theorem join_take_size {α : Type} (G : α → ByteArray) (c : Nat) (l : List α) (i : Nat) (acc : ByteArray) (h : ∀ x ∈ l, (G x).size ≤ c) (hi : i ≤ l.length) : (join G (l.take i) acc).size ≤ acc.size + i * c := by
 have := join_size G c (l.take i) acc (fun x hx => h x (List.mem_of_mem_take hx))
 rw [List.length_take, Nat.min_eq_left hi] at this
 exact this
theorem ref_Ints_loop (l : List Int) (hl : l.length ≤ 9000) (h : Ok64 l) (H : ByteArray) (hH : H.size ≤ 10) (d : Nat) : ∀ i : Nat, l.length - i = d → i ≤ l.length → Ev (fun k => abugidaref02_Ints.l0 k l (join IntB (l.take i) H) i) (join IntB l H) := by
 induction d with
 | zero =>
   intro i hd hi
   refine Ev.step (fun k => abugidaref02_Ints.l0.eq_2 ..) ?_
   refine evN (by omega) ?_
   rw [List.take_of_length_le (by omega)]
   exact Ev.now _
 | succ d ih =>
   intro i hd hi
   obtain ⟨x, hx⟩ := get_some (l := l) (i := i) (by omega)
   obtain ⟨x0, x1⟩ := h x (List.mem_of_getElem? hx)
   have hz := join_take_size IntB 10 l i H (fun y hy => IntB_small y (h y hy).1 (h y hy).2) hi
   have hs := IntB_small x x0 x1
   refine Ev.step (fun k => abugidaref02_Ints.l0.eq_2 ..) ?_
   refine evI (by omega) ?_
   refine evI (by omega) ?_
   rw [rdi_some hx]
   refine Ev.bind (ref_Int_ev x x0 x1) ?_
   refine evI (by omega) ?_
   rw [show wrap64 ((i : Int) + 1) = ((i + 1 : Nat) : Int) from w64 (by omega) (by omega), ← join_snoc IntB l i x hx H]
   exact ih (i + 1) (by omega) (by omega)
theorem ref_Ints_ev (l : List Int) (hl : l.length ≤ 9000) (h : Ok64 l) : Ev (fun k => abugidaref02_Ints.f k l) (IntsB l) := by
 unfold abugidaref02_Ints.f
 refine Ev.bind (ref_Int_ev l.length (by omega) (by omega)) ?_
 exact ref_Ints_loop l hl h _ (IntB_small (l.length : Int) (by omega) (by omega)) _ 0 rfl (by omega)
theorem ref_Texts_loop (l : List ByteArray) (hl : l.length ≤ 9000) (h : ∀ s ∈ l, s.size ≤ 70000) (H : ByteArray) (hH : H.size ≤ 10) (d : Nat) : ∀ i : Nat, l.length - i = d → i ≤ l.length → Ev (fun k => abugidaref02_Texts.l0 k l (join TextB (l.take i) H) i) (join TextB l H) := by
 induction d with
 | zero =>
   intro i hd hi
   refine Ev.step (fun k => abugidaref02_Texts.l0.eq_2 ..) ?_
   refine evN (by omega) ?_
   rw [List.take_of_length_le (by omega)]
   exact Ev.now _
 | succ d ih =>
   intro i hd hi
   obtain ⟨x, hx⟩ := get_some (l := l) (i := i) (by omega)
   have x0 := h x (List.mem_of_getElem? hx)
   have hz := join_take_size TextB 70010 l i H (fun y hy => Nat.le_trans (TextB_size y (h y hy)) (by have := h y hy; omega)) hi
   have hs := TextB_size x x0
   refine Ev.step (fun k => abugidaref02_Texts.l0.eq_2 ..) ?_
   refine evI (by omega) ?_
   refine evI (by omega) ?_
   rw [rd_some' hx]
   refine Ev.bind (ref_Text_ev x x0) ?_
   refine evI (by omega) ?_
   rw [show wrap64 ((i : Int) + 1) = ((i + 1 : Nat) : Int) from w64 (by omega) (by omega), ← join_snoc TextB l i x hx H]
   exact ih (i + 1) (by omega) (by omega)
theorem ref_Texts_ev (l : List ByteArray) (hl : l.length ≤ 9000) (h : ∀ s ∈ l, s.size ≤ 70000) : Ev (fun k => abugidaref02_Texts.f k l) (TextsB l) := by
 unfold abugidaref02_Texts.f
 refine Ev.bind (ref_Int_ev l.length (by omega) (by omega)) ?_
 exact ref_Texts_loop l hl h _ (IntB_small (l.length : Int) (by omega) (by omega)) _ 0 rfl (by omega)
theorem length_ev (n : Nat) (rest : ByteArray) (h : n ≤ rest.size) (hr : rest.size ≤ 1000000000) : Ev (fun k => wire_Reader_length.f k (IntB n ++ rest) false) ((n : Int), rest, false) := by
 unfold wire_Reader_length.f
 refine Ev.bind (Reader_Int_ev (n : Int) (by omega) (by omega) rest) ?_
 refine evN (by show ¬ (n : Int) < 0; omega) ?_
 refine Ev.bind (a := ((rest.size : Int), rest, false)) (Ev.now _) ?_
 refine evN (by show ¬ (n : Int) > (rest.size : Int); omega) ?_
 exact Ev.now _
theorem extract_left (a b : ByteArray) : (a ++ b).extract 0 a.size = a := by
 apply ByteArray.ext
 have h : a.data.extract 0 a.size = a.data := by rw [show a.size = a.data.size from rfl]; simp
 have h2 : b.data.extract 0 (a.size - a.data.size) = #[] := by rw [show a.size = a.data.size from rfl]; simp
 simp [ByteArray.data_extract, h, h2]
theorem Text_ev (s rest : ByteArray) (hs : s.size ≤ 70000) (hr : rest.size ≤ 100000000) : Ev (fun k => wire_Reader_Text.f k (TextB s ++ rest) false) (s, rest, false) := by
 have e : TextB s ++ rest = IntB s.size ++ (s ++ rest) := by unfold TextB; rw [ByteArray.append_assoc]
 have hz : (s ++ rest).size = s.size + rest.size := ByteArray.size_append
 rw [e]
 unfold wire_Reader_Text.f
 refine Ev.bind (length_ev s.size (s ++ rest) (by omega) (by omega)) ?_
 refine Ev.bind (a := (false, s ++ rest, false)) (Ev.now _) ?_
 refine evN (by simp) ?_
 refine evI (by show 0 ≤ (s.size : Int); omega) ?_
 refine evI (by show (s.size : Int) ≤ ((s ++ rest).size : Int); omega) ?_
 show Ev (fun _ => some ((s ++ rest).extract 0 (s.size : Int).toNat, (s ++ rest).extract (s.size : Int).toNat (s ++ rest).size, false)) _
 rw [Int.toNat_natCast, extract_left, extract_app]
 exact Ev.now _
theorem join_cons {α : Type} (G : α → ByteArray) (l : List α) : ∀ acc, join G l acc = acc ++ join G l ByteArray.empty := by
 induction l with
 | nil => intro acc; simp [join]
 | cons x l ih =>
   intro acc
   show join G l (acc ++ G x) = acc ++ join G l (ByteArray.empty ++ G x)
   rw [ih (acc ++ G x), ih (ByteArray.empty ++ G x), ByteArray.empty_append, ByteArray.append_assoc]
theorem readL_ev {α : Type} (nx : Nat → ByteArray → Bool → Option (α × ByteArray × Bool)) (lim : Nat) (G : α → ByteArray) (c : Nat) (hlim : 20000 ≤ lim) (l : List α) : ∀ (acc : List α) (rest : ByteArray),
 (∀ x ∈ l, ∀ r : ByteArray, r.size ≤ 100000000 → Ev (fun k => nx k (G x ++ r) false) (x, r, false)) → (∀ x ∈ l, (G x).size ≤ c) → l.length * c + rest.size ≤ 100000000 → acc.length + l.length ≤ 1000 →
 Ev (fun k => readL (nx k) lim l.length acc (join G l ByteArray.empty ++ rest) false) (acc ++ l, rest, false) := by
 induction l with
 | nil =>
   intro acc rest _ _ _ _
   rw [List.append_nil, show join G ([] : List α) ByteArray.empty ++ rest = rest from ByteArray.empty_append]
   exact Ev.now _
 | cons x l ih =>
   intro acc rest hx hs hz hl
   have hsz := join_size G c l ByteArray.empty (fun y hy => hs y (List.mem_cons_of_mem _ hy))
   rw [List.length_cons, Nat.succ_mul] at hz
   rw [List.length_cons] at hl
   have e : join G (x :: l) ByteArray.empty ++ rest = G x ++ (join G l ByteArray.empty ++ rest) := by
    show join G l (ByteArray.empty ++ G x) ++ rest = _
    rw [join_cons, ByteArray.empty_append, ByteArray.append_assoc]
   rw [e, List.length_cons]
   refine Ev.congr (fun k => by unfold readL; rfl) ?_
   have h0 : ByteArray.empty.size = 0 := rfl
   refine Ev.bind (hx x (List.mem_cons_self ..) _ zak1) ?_
   refine evN (by simp) ?_
   refine evI (by omega) ?_
   have := ih (acc ++ [x]) rest (fun y hy => hx y (List.mem_cons_of_mem _ hy)) (fun y hy => hs y (List.mem_cons_of_mem _ hy)) (by omega) (by simp; omega)
   rw [List.append_assoc] at this
   exact this
theorem IntB_pos (n : Int) : 1 ≤ (IntB n).size := by rw [IntB_size]; exact vb_pos _
theorem join_ge {α : Type} (G : α → ByteArray) (l : List α) (h : ∀ x ∈ l, 1 ≤ (G x).size) : ∀ acc, acc.size + l.length ≤ (join G l acc).size := by
 induction l with
 | nil => intro acc; simp [join]
 | cons x l ih =>
   intro acc
   have h1 := ih (fun y hy => h y (List.mem_cons_of_mem _ hy)) (acc ++ G x)
   have h2 := h x (List.mem_cons_self ..)
   rw [ByteArray.size_append] at h1
   show _ ≤ (join G l (acc ++ G x)).size
   rw [List.length_cons]
   omega
theorem Ints_ev (l : List Int) (rest : ByteArray) (hl : l.length ≤ 1000) (h : Ok64 l) (hr : rest.size ≤ 90000000) : Ev (fun k => wire_Reader_Ints.f k (IntsB l ++ rest) false) (l, rest, false) := by
 have e : IntsB l ++ rest = IntB l.length ++ (join IntB l ByteArray.empty ++ rest) := by unfold IntsB; rw [join_cons, ByteArray.append_assoc]
 have hz := join_size IntB 10 l ByteArray.empty (fun x hx => IntB_small x (h x hx).1 (h x hx).2)
 have hg := join_ge IntB l (fun x _ => IntB_pos x) ByteArray.empty
 have h0 : ByteArray.empty.size = 0 := rfl
 rw [e]
 unfold wire_Reader_Ints.f
 refine Ev.bind (length_ev l.length _ zak1 zak1) ?_
 refine evI (by show (l.length : Int) ≤ 9223372036854775807; omega) ?_
 show Ev (fun k => readL (wire_Reader_Int.f k) 17592186044416 (l.length : Int).toNat [] _ false) _
 rw [Int.toNat_natCast]
 exact readL_ev (fun k => wire_Reader_Int.f k) 17592186044416 IntB 10 (by decide) l [] rest (fun x hx r _ => Reader_Int_ev x (h x hx).1 (h x hx).2 r) (fun x hx => IntB_small x (h x hx).1 (h x hx).2) (by omega) (by simp; omega)
theorem Texts_ev (l : List ByteArray) (rest : ByteArray) (hl : l.length ≤ 1000) (h : ∀ s ∈ l, s.size ≤ 70000) (hr : rest.size ≤ 10000000) : Ev (fun k => wire_Reader_Texts.f k (TextsB l ++ rest) false) (l, rest, false) := by
 have e : TextsB l ++ rest = IntB l.length ++ (join TextB l ByteArray.empty ++ rest) := by unfold TextsB; rw [join_cons, ByteArray.append_assoc]
 have hc : ∀ x ∈ l, (TextB x).size ≤ 70010 := fun x hx => Nat.le_trans (TextB_size x (h x hx)) (by have := h x hx; omega)
 have hz := join_size TextB 70010 l ByteArray.empty hc
 have hg := join_ge TextB l (fun x _ => by unfold TextB; rw [ByteArray.size_append]; have := IntB_pos x.size; omega) ByteArray.empty
 have h0 : ByteArray.empty.size = 0 := rfl
 rw [e]
 unfold wire_Reader_Texts.f
 refine Ev.bind (length_ev l.length _ zak1 zak1) ?_
 refine evI (by show (l.length : Int) ≤ 9223372036854775807; omega) ?_
 show Ev (fun k => readL (wire_Reader_Text.f k) 8796093022208 (l.length : Int).toNat [] _ false) _
 rw [Int.toNat_natCast]
 exact readL_ev (fun k => wire_Reader_Text.f k) 8796093022208 TextB 70010 (by decide) l [] rest (fun x hx r hr => Text_ev x r (h x hx) (by omega)) hc (by omega) (by simp; omega)
theorem IntsB_size (l : List Int) (hl : l.length ≤ 1000) (h : Ok64 l) : (IntsB l).size ≤ 10 + l.length * 10 := by
 have h1 := IntB_small (l.length : Int) (by omega) (by omega)
 have := join_size IntB 10 l (IntB l.length) (fun x hx => IntB_small x (h x hx).1 (h x hx).2)
 unfold IntsB
 omega
theorem Int_bad (q : ByteArray) : Ev (fun k => wire_Reader_Int.f k q true) (0, q, true) := by
 unfold wire_Reader_Int.f
 refine Ev.step (fun k => wire_Reader_Int.l0.eq_2 ..) ?_
 refine Ev.bind (a := (0, q, true)) (Ev.now _) ?_
 refine evN (by show ¬ (0 : Int) < 0; decide) ?_
 refine Ev.step (fun k => wire_Reader_Int.j1.eq_2 ..) ?_
 refine evN (by decide) ?_
 exact Ev.bind (a := (q, true)) (Ev.now _) (Ev.now _)
theorem length_of_bad (s q : ByteArray) (b : Bool) (h : Ev (fun k => wire_Reader_Int.f k s b) (0, q, true)) : Ev (fun k => wire_Reader_length.f k s b) (0, q, true) := by
 unfold wire_Reader_length.f
 refine Ev.bind h ?_
 refine evN (by show ¬ (0 : Int) < 0; decide) ?_
 refine Ev.bind (a := (0, q, true)) (Ev.now _) ?_
 refine evN (by show ¬ (0 : Int) > 0; decide) ?_
 exact Ev.now _
theorem Text_of_bad (s q : ByteArray) (b : Bool) (h : Ev (fun k => wire_Reader_length.f k s b) (0, q, true)) : Ev (fun k => wire_Reader_Text.f k s b) (⟨#[]⟩, q, true) := by
 unfold wire_Reader_Text.f
 refine Ev.bind h ?_
 refine Ev.bind (a := (true, q, true)) (Ev.now _) ?_
 refine evI rfl ?_
 exact Ev.now _
def bn (s : ByteArray) (j : Nat) : Nat := (bt s (j : Int)).toNat
theorem bt_bn (s : ByteArray) (j : Nat) : bt s (j : Int) = (bn s j : Int) := by
 unfold bn
 have := bt_nonneg s (j : Int)
 omega
theorem bt_lt (s : ByteArray) (j : Int) : bt s j < 256 := by
 unfold bt
 split
 · rename_i h
   have := (s[j.toNat]'h).toNat_lt
   omega
 · omega
theorem bn_lt (s : ByteArray) (j : Nat) : bn s j < 256 := by
 have := bt_lt s (j : Int)
 have := bt_bn s j
 omega
def byL (s : ByteArray) (i : Nat) : Nat → List Nat
 | 0 => []
 | n + 1 => bn s i :: byL s (i + 1) n
theorem byL_len (s : ByteArray) : ∀ n i, (byL s i n).length = n
 | 0, _ => rfl
 | n + 1, i => by simp [byL, byL_len s n (i + 1)]
theorem byL_get (s : ByteArray) : ∀ n i j, j < n → (byL s i n)[j]? = some (bn s (i + j))
 | 0, _, j, h => by omega
 | n + 1, i, 0, _ => rfl
 | n + 1, i, j + 1, h => by
   have := byL_get s n (i + 1) j (by omega)
   simp only [byL, List.getElem?_cons_succ, this]
   rw [show i + 1 + j = i + (j + 1) by omega]
def valL : List Nat → Nat
 | [] => 0
 | b :: l => b % 128 + 128 * valL l
theorem valL_lt : ∀ l : List Nat, valL l < 128 ^ l.length
 | [] => by simp [valL]
 | b :: l => by
   have := valL_lt l
   simp only [valL, List.length_cons, Nat.pow_succ]
   omega
theorem valL_snoc : ∀ (l : List Nat) (b : Nat), valL (l ++ [b]) = valL l + b % 128 * 128 ^ l.length
 | [], b => by simp [valL]
 | a :: l, b => by
   simp only [List.cons_append, valL, valL_snoc l b, List.length_cons, Nat.pow_succ]
   rw [Nat.mul_add, Nat.add_assoc, Nat.mul_comm 128 (b % 128 * 128 ^ l.length), Nat.mul_assoc (b % 128)]
theorem byL_snoc (s : ByteArray) : ∀ n i, byL s i (n + 1) = byL s i n ++ [bn s (i + n)]
 | 0, i => rfl
 | n + 1, i => by
   have := byL_snoc s n (i + 1)
   rw [byL, this, byL, List.cons_append]
   rw [show i + 1 + n = i + (n + 1) by omega]
theorem valL_by (s : ByteArray) (n : Nat) : valL (byL s 0 (n + 1)) = valL (byL s 0 n) + bn s n % 128 * 128 ^ n := by
 rw [byL_snoc, valL_snoc, byL_len, Nat.zero_add]
def Cn : List Nat → Prop
 | [] => False
 | [b] => 0 < b ∧ b < 128
 | b :: c :: l => (128 ≤ b ∧ b < 256) ∧ Cn (c :: l)
theorem vb_val : ∀ L, Cn L → vb (valL L) = L ∧ 0 < valL L
 | [], h => h.elim
 | [b], h => by
   simp only [Cn] at h
   have e : valL [b] = b := by simp [valL]; omega
   rw [e]
   exact ⟨vb_lo h.2, h.1⟩
 | b :: c :: l, h => by
   simp only [Cn] at h
   obtain ⟨h1, h2⟩ := h
   obtain ⟨h3, h4⟩ := vb_val (c :: l) h2
   have e : valL (b :: c :: l) = b % 128 + 128 * valL (c :: l) := rfl
   rw [e]
   refine ⟨?_, by omega⟩
   rw [vb_hi (by omega), show (b % 128 + 128 * valL (c :: l)) / 128 = valL (c :: l) by omega, h3, show (b % 128 + 128 * valL (c :: l)) % 128 + 128 = b by omega]
theorem Cn_by (s : ByteArray) : ∀ n i, (∀ j, j < n → 128 ≤ bn s (i + j)) → 0 < bn s (i + n) → bn s (i + n) < 128 → Cn (byL s i (n + 1))
 | 0, i, _, h1, h2 => ⟨h1, h2⟩
 | n + 1, i, h, h1, h2 => by
   have ih := Cn_by s n (i + 1) (fun j hj => by have := h (j + 1) (by omega); rwa [show i + 1 + j = i + (j + 1) by omega]) (by rwa [show i + 1 + n = i + (n + 1) by omega]) (by rwa [show i + 1 + n = i + (n + 1) by omega])
   exact ⟨⟨h 0 (by omega), bn_lt s _⟩, ih⟩
theorem code_val (s : ByteArray) : ∀ (k c : Nat), c * 128 ^ k + valL (byL s 0 k) < 18446744073709551616 → codeAt s 0 k (c : Int) = ((c * 128 ^ k + valL (byL s 0 k) : Nat) : Int)
 | 0, c, _ => by simp [codeAt, byL, valL]
 | k + 1, c, h => by
   rw [valL_by, Nat.pow_succ] at h ⊢
   have hb := bn_lt s k
   have e1 : (c * 128 + bn s k % 128) * 128 ^ k = c * (128 ^ k * 128) + bn s k % 128 * 128 ^ k := by
    rw [Nat.add_mul, Nat.mul_assoc, Nat.mul_comm 128 (128 ^ k)]
   have hp : 0 < 128 ^ k := Nat.pow_pos (by omega)
   have hle : c * 128 + bn s k % 128 ≤ (c * 128 + bn s k % 128) * 128 ^ k := Nat.le_mul_of_pos_right _ hp
   unfold codeAt
   rw [Nat.zero_add, bt_bn, wu64 (x := (c : Int) * 128) (by omega) (by omega), wu64 (x := (bn s k : Int) % 128) (by omega) (by omega), wu64 (by omega) (by omega),
    show (c : Int) * 128 + (bn s k : Int) % 128 = ((c * 128 + bn s k % 128 : Nat) : Int) by omega, code_val s k (c * 128 + bn s k % 128) (by omega), e1]
   congr 1
   omega
theorem zig_out (c : Nat) (h : c < 18446744073709551616) : zig (outF (c : Int)) = c := by
 unfold outF zig
 split <;> split <;> omega
theorem out_range (c : Int) (h : 0 ≤ c ∧ c < 18446744073709551616) : -9223372036854775808 ≤ outF c ∧ outF c ≤ 9223372036854775807 := by
 unfold outF
 split <;> omega
theorem cnt_spec (s : ByteArray) : ∀ f n, (∀ j, j < n → j < s.size ∧ 128 ≤ bn s j) →
 (∀ j, j < cntF s 0 f n → j < s.size ∧ 128 ≤ bn s j) ∧ (cntF s 0 f n = n + f ∨ s.size ≤ cntF s 0 f n ∨ bn s (cntF s 0 f n) < 128)
 | 0, n, h => ⟨h, .inl rfl⟩
 | f + 1, n, h => by
   unfold cntF
   rw [Nat.sub_zero, Nat.zero_add, bt_bn]
   by_cases c : n < s.size ∧ (128 : Int) ≤ (bn s n : Int)
   · rw [if_pos c]
     have := cnt_spec s f (n + 1) (fun j hj => by
      rcases Nat.lt_or_ge j n with h1 | h1
      · exact h j h1
      · obtain rfl : j = n := by omega
        exact ⟨c.1, by omega⟩)
     rw [show n + 1 + f = n + (f + 1) by omega] at this
     exact this
   · rw [if_neg c]
     exact ⟨h, .inr (by omega)⟩
theorem prog_no (q : ByteArray) (m : Nat) (hm : m ≤ 10) (hms : m ≤ q.size) (hq : q.size ≤ 1000000000) (hb : ∀ j, j < m → 128 ≤ bn q j)
 (he : m = 10 ∨ m = q.size ∨ (bn q m < 128 ∧ (0 < m ∧ bn q m = 0 ∨ m = 9 ∧ 1 < bn q m))) (d : Nat) : ∀ (i : Nat) (x : Int), m - i = d → i ≤ m → Ev (fun k => wire_Reader_Int.l0 k x (i : Int) q false) (0, q, true) := by
 induction d with
 | zero =>
   intro i x hd hi
   obtain rfl : i = m := by omega
   refine Ev.step (fun k => wire_Reader_Int.l0.eq_2 ..) ?_
   refine Ev.bind (a := ((q.size : Int), q, false)) (Ev.now _) ?_
   rcases Nat.lt_or_ge i q.size with hlt | hge
   · refine evI zak2 ?_
     rcases Nat.lt_or_ge i 10 with h10 | h10
     · rw [show decide ((i : Int) < 10) = true from decide_eq_true (by omega)]
       have he' : bn q i < 128 ∧ (0 < i ∧ bn q i = 0 ∨ i = 9 ∧ 1 < bn q i) := by omega
       refine Ev.step (fun k => wire_Reader_Int.j1.eq_2 ..) ?_
       refine evI rfl ?_
       refine evI (by omega) ?_
       refine evI zak2 ?_
       refine evI zak0 ?_
       refine evN (by show ¬ bt q (i : Int) ≥ 128; rw [bt_bn]; omega) ?_
       refine evI (by omega) ?_
       have fin : ∀ (x y : Int), Ev (fun k => wire_Reader_Int.j2 k x y true q false) (0, q, true) := fun x y => by
        refine Ev.step (fun k => wire_Reader_Int.j2.eq_2 ..) ?_
        refine evI rfl ?_
        exact Ev.bind (a := (q, true)) (Ev.now _) (Ev.now _)
       by_cases hz : bn q i = 0
       · refine evI (by show bt q (i : Int) = 0; rw [bt_bn]; omega) ?_
         exact fin _ _
       · refine evN (by show ¬ bt q (i : Int) = 0; rw [bt_bn]; omega) ?_
         refine evI (by omega) ?_
         rw [show decide (bt q (i : Int) > 1) = true from decide_eq_true (by rw [bt_bn]; omega)]
         exact fin _ _
     · rw [show decide ((i : Int) < 10) = false from decide_eq_false (by omega)]
       refine Ev.step (fun k => wire_Reader_Int.j1.eq_2 ..) ?_
       refine evN (by decide) ?_
       exact Ev.bind (a := (q, true)) (Ev.now _) (Ev.now _)
   · refine evN (by show ¬ (i : Int) < (q.size : Int); omega) ?_
     refine Ev.step (fun k => wire_Reader_Int.j1.eq_2 ..) ?_
     refine evN (by decide) ?_
     exact Ev.bind (a := (q, true)) (Ev.now _) (Ev.now _)
 | succ d ih =>
   intro i x hd hi
   refine Ev.step (fun k => wire_Reader_Int.l0.eq_2 ..) ?_
   refine Ev.bind (a := ((q.size : Int), q, false)) (Ev.now _) ?_
   refine evI zak2 ?_
   rw [show decide ((i : Int) < 10) = true from decide_eq_true (by omega)]
   refine Ev.step (fun k => wire_Reader_Int.j1.eq_2 ..) ?_
   refine evI rfl ?_
   refine evI (by omega) ?_
   refine evI zak2 ?_
   refine evI zak0 ?_
   refine evI (by show bt q (i : Int) ≥ 128; rw [bt_bn]; have := hb i (by omega); omega) ?_
   rw [show wrap64 ((i : Int) + 1) = ((i + 1 : Nat) : Int) from w64 (by omega) (by omega)]
   exact ih (i + 1) _ (by omega) (by omega)
theorem toList_loop (a : ByteArray) (d : Nat) : ∀ (i : Nat) (r : List UInt8), a.size - i = d → ByteArray.toList.loop a i r = r.reverse ++ a.data.toList.drop i := by
 induction d with
 | zero =>
   intro i r hd
   rw [ByteArray.toList.loop, if_neg (by omega), List.drop_of_length_le (by simp only [Array.length_toList]; exact Nat.sub_eq_zero_iff_le.1 hd)]
   simp
 | succ d ih =>
   intro i r hd
   have hi : i < a.data.size := by have : a.data.size = a.size := rfl; omega
   have e : a.data.toList.drop i = a.data[i] :: a.data.toList.drop (i + 1) := by rw [List.drop_eq_getElem_cons (by simpa using hi)]; rfl
   rw [ByteArray.toList.loop, if_pos (by omega), ih _ _ (by omega), e]
   simp [ByteArray.get!, getElem!_pos a.data i hi]
theorem toList_data (a : ByteArray) : a.toList = a.data.toList := by
 unfold ByteArray.toList
 rw [toList_loop a _ 0 [] rfl]
 simp
theorem ext_of_toList {a b : ByteArray} (h : a.toList = b.toList) : a = b := by
 rw [toList_data, toList_data] at h
 apply ByteArray.ext
 exact Array.toList_inj.1 h
theorem ext_bt {a b : ByteArray} (hs : a.size = b.size) (h : ∀ j : Nat, j < a.size → bt a (j : Int) = bt b (j : Int)) : a = b := by
 apply ByteArray.ext
 apply Array.ext
 · exact hs
 · intro i h1 h2
   have := h i h1
   rw [bt_get a i h1, bt_get b i h2] at this
   have h3 : (a[i]'h1).toNat = (b[i]'h2).toNat := by omega
   exact UInt8.toNat_inj.1 h3
theorem bt_ext (s : ByteArray) (a b j : Nat) (hj : j < b - a) (hb : b ≤ s.size) : bt (s.extract a b) (j : Int) = bt s ((a + j : Nat) : Int) := by
 have h1 : j < (s.extract a b).size := by rw [ByteArray.size_extract]; omega
 rw [bt_get _ j h1, bt_get s (a + j) (by omega)]
 have h2 : a + j < s.size := by omega
 have : (s.extract a b)[j]'h1 = s[a + j]'h2 := by
  show (s.extract a b).data[j]'h1 = s.data[a + j]'h2
  simp [ByteArray.data_extract]
 rw [this]
theorem size_ext (s : ByteArray) (n : Nat) (h : n ≤ s.size) : (s.extract n s.size).size = s.size - n := by rw [ByteArray.size_extract]; omega
theorem cnt_ext (s : ByteArray) (i : Nat) (hi : i ≤ s.size) : ∀ f n, cntF s i f n = cntF (s.extract i s.size) 0 f n
 | 0, n => rfl
 | f + 1, n => by
   unfold cntF
   rw [size_ext s i hi, Nat.sub_zero, cnt_ext s i hi f (n + 1), Nat.zero_add]
   by_cases h : n < s.size - i
   · rw [bt_ext s i s.size n h (Nat.le_refl _)]
   · rw [if_neg (fun c => h c.1), if_neg (fun c => h c.1)]
theorem code_ext (s : ByteArray) (i : Nat) (hi : i ≤ s.size) : ∀ m c, m ≤ s.size - i → codeAt s i m c = codeAt (s.extract i s.size) 0 m c
 | 0, c, _ => rfl
 | m + 1, c, h => by
   unfold codeAt
   rw [Nat.zero_add, bt_ext s i s.size m (by omega) (Nat.le_refl _)]
   exact code_ext s i hi m _ (by omega)
theorem ext_ext (s : ByteArray) (n k : Nat) (h : n + k ≤ s.size) : s.extract n (n + k) = (s.extract n s.size).extract 0 k := by
 refine ext_bt ?_ fun j hj => ?_
 · rw [ByteArray.size_extract, ByteArray.size_extract, size_ext s n (by omega)]; omega
 · rw [ByteArray.size_extract] at hj
   rw [bt_ext s n (n + k) j (by omega) h, bt_ext _ 0 k j (by omega) (by rw [size_ext s n (by omega)]; omega), Nat.zero_add, bt_ext s n s.size j (by omega) (Nat.le_refl _)]
theorem ext_rest (s : ByteArray) (n k : Nat) (h : n + k ≤ s.size) : (s.extract n s.size).extract k (s.extract n s.size).size = s.extract (n + k) s.size := by
 refine ext_bt ?_ fun j hj => ?_
 · simp only [ByteArray.size_extract]; omega
 · rw [ByteArray.size_extract, size_ext s n (by omega)] at hj
   rw [bt_ext _ k _ j (by rw [size_ext s n (by omega)]; omega) (Nat.le_refl _), bt_ext s n s.size (k + j) (by omega) (Nat.le_refl _), bt_ext s (n + k) s.size j (by omega) (Nat.le_refl _), Nat.add_assoc]
theorem Ev.unique {α : Type} {g : Nat → Option α} {a b : α} (h1 : Ev g a) (h2 : Ev g b) : a = b := by
 obtain ⟨n1, h1⟩ := h1
 obtain ⟨n2, h2⟩ := h2
 have e1 := h1 (max n1 n2) (by omega)
 have e2 := h2 (max n1 n2) (by omega)
 rw [e1] at e2
 injection e2
theorem nums_bt (l : List Nat) (h : ∀ m ∈ l, m < 256) (j m : Nat) (hj : l[j]? = some m) : bt (nums l) (j : Int) = (m : Int) := by
 have := nums_get l h ByteArray.empty j m hj
 rwa [ByteArray.append_empty] at this
def Sim (q : ByteArray) (b : Bool) (s : ByteArray) (i : Int) (b' : Bool) : Prop := b' = b ∧ (b = false → ∃ n : Nat, i = (n : Int) ∧ n ≤ s.size ∧ q = s.extract n s.size)
theorem Int_same (s : ByteArray) (hs : s.size ≤ 9000) (q : ByteArray) (b : Bool) (i : Int) (h : Sim q b s i b) :
 ∃ (x : Int) (q2 : ByteArray) (i2 : Int) (b2 : Bool), Ev (fun k => wire_Reader_Int.f k q b) (x, q2, b2) ∧ Ev (fun k => abugidaref02_Reader_Int.f k s i b) (x, s, i2, b2) ∧ Sim q2 b2 s i2 b2 ∧ (-9223372036854775808 ≤ x ∧ x ≤ 9223372036854775807) ∧ (b = true → b2 = true) ∧ (b2 = true → x = 0) := by
 cases b with
 | true => exact ⟨0, q, i, true, Int_bad q, Ev.congr (fun _ => if_pos rfl) (Ev.now _), ⟨rfl, fun h => by cases h⟩, by omega, fun _ => rfl, fun _ => rfl⟩
 | false =>
   obtain ⟨n, rfl, hn, rfl⟩ := h.2 rfl
   have hsz := size_ext s n hn
   have hce := cnt_ext s n hn 10 0
   have hcl := cntF_le (s.extract n s.size) 0 10 0
   obtain ⟨hb, hend⟩ := cnt_spec (s.extract n s.size) 10 0 (fun j hj => by omega)
   have hxe : ∀ m, m ≤ s.size - n → codeAt s n m 0 = codeAt (s.extract n s.size) 0 m 0 := fun m hm => code_ext s n hn m 0 hm
   have hee : ∀ k, n + k ≤ s.size → s.extract n (n + k) = (s.extract n s.size).extract 0 k := fun k hk => ext_ext s n k hk
   have her : ∀ k, n + k ≤ s.size → (s.extract n s.size).extract k (s.extract n s.size).size = s.extract (n + k) s.size := fun k hk => ext_rest s n k hk
   have hms : cntF (s.extract n s.size) 0 10 0 ≤ (s.extract n s.size).size := by
    rcases Nat.eq_zero_or_pos (cntF (s.extract n s.size) 0 10 0) with h0 | h0
    · omega
    · have := (hb (cntF (s.extract n s.size) 0 10 0 - 1) (by omega)).1; omega
   generalize hm : cntF (s.extract n s.size) 0 10 0 = m at *
   have hno : (m = 10 ∨ m = (s.extract n s.size).size ∨ (bn (s.extract n s.size) m < 128 ∧ (0 < m ∧ bn (s.extract n s.size) m = 0 ∨ m = 9 ∧ 1 < bn (s.extract n s.size) m))) → Ev (fun k => wire_Reader_Int.f k (s.extract n s.size) false) (0, s.extract n s.size, true) := fun he =>
    prog_no _ m (by omega) hms (by omega) (fun j hj => (hb j hj).2) he m 0 0 rfl (by omega)
   have hf : ∀ r, Ev (fun k => (if m = 10 ∨ s.size - n ≤ m then some (0, s, (n : Int), true) else (abugidaref02_Int.f k (outF (codeAt s n (m + 1) 0))).bind fun e => if e.toList = (s.extract n (n + m + 1)).toList then some (outF (codeAt s n (m + 1) 0), s, ((n + m + 1 : Nat) : Int), false) else some (0, s, (n : Int), true))) r → Ev (fun k => abugidaref02_Reader_Int.f k s (n : Int) false) r := fun r hr => by
    unfold abugidaref02_Reader_Int.f
    refine evN (by decide) ?_
    refine evI ⟨by omega, by omega, by omega⟩ ?_
    simp only [Int.toNat_natCast, hce]
    exact hr
   have hsim : Sim (s.extract n s.size) true s (n : Int) true := ⟨rfl, fun h => by cases h⟩
   by_cases r1 : m = 10 ∨ s.size - n ≤ m
   · exact ⟨0, _, (n : Int), true, hno (by omega), hf _ (evI r1 (Ev.now _)), hsim, by omega, fun _ => rfl, fun _ => rfl⟩
   · have hxm := hxe (m + 1) (by omega)
     have hem := hee (m + 1) (by omega)
     rw [show n + (m + 1) = n + m + 1 by omega] at hem
     have hrange := out_range (codeAt s n (m + 1) 0) (codeAt_range s n _ _ (by omega))
     have hre := ref_Int_ev (outF (codeAt s n (m + 1) 0)) hrange.1 hrange.2
     have hbm : bn (s.extract n s.size) m < 128 := by omega
     by_cases r2 : 0 < m ∧ bn (s.extract n s.size) m = 0 ∨ m = 9 ∧ 1 < bn (s.extract n s.size) m
     · have hpn := hno (.inr (.inr ⟨hbm, r2⟩))
       refine ⟨0, _, (n : Int), true, hpn, hf _ (evN r1 (Ev.bind hre (evN (fun he => ?_) (Ev.now _)))), hsim, by omega, fun _ => rfl, fun _ => rfl⟩
       have he2 := ext_of_toList he
       have hlen : (vb (zig (outF (codeAt s n (m + 1) 0)))).length = m + 1 := by
        rw [← IntB_size, he2, ByteArray.size_extract]; omega
       have key := Reader_loop (s.extract n s.size) (outF (codeAt s n (m + 1) 0)) hrange.1 hrange.2 _ 0 rfl (.inl rfl) (by
        intro j x hx
        rw [Nat.mul_zero, Nat.pow_zero, Nat.div_one] at hx
        have hj : j < m + 1 := by rw [← hlen]; exact (List.getElem?_eq_some_iff.1 hx).1
        have h1 := nums_bt _ (vb_lt _) j x hx
        rw [Nat.zero_add, ← h1, show nums (vb (zig (outF (codeAt s n (m + 1) 0)))) = IntB (outF (codeAt s n (m + 1) 0)) from rfl, he2, hem, bt_ext _ 0 (m + 1) j (by omega) (by omega), Nat.zero_add])
        (by rw [Nat.mul_zero, Nat.pow_zero, Nat.div_one, hlen]; omega) (by omega)
       rw [Nat.mul_zero, Nat.pow_zero, Nat.mod_one] at key
       have hu := Ev.unique hpn key
       simp only [Prod.mk.injEq] at hu
       exact absurd hu.2.2 (by decide)
     · have hcn : vb (valL (byL (s.extract n s.size) 0 (m + 1))) = byL (s.extract n s.size) 0 (m + 1) := by
        rcases Nat.eq_zero_or_pos m with h0 | h0
        · subst h0
          have e : byL (s.extract n s.size) 0 (0 + 1) = [bn (s.extract n s.size) 0] := rfl
          rw [e, show valL [bn (s.extract n s.size) 0] = bn (s.extract n s.size) 0 by simp [valL]; omega]
          exact vb_lo hbm
        · exact (vb_val _ (Cn_by _ m 0 (fun j hj => by rw [Nat.zero_add]; exact (hb j hj).2) (by rw [Nat.zero_add]; omega) (by rw [Nat.zero_add]; omega))).1
       have hc64 : valL (byL (s.extract n s.size) 0 (m + 1)) < 18446744073709551616 := by
        have hv := valL_by (s.extract n s.size) m
        have hl := valL_lt (byL (s.extract n s.size) 0 m)
        rw [byL_len] at hl
        rcases Nat.lt_or_ge m 9 with h9 | h9
        · have := valL_lt (byL (s.extract n s.size) 0 (m + 1))
          rw [byL_len] at this
          have hp : 128 ^ (m + 1) ≤ 128 ^ 9 := Nat.pow_le_pow_right (by omega) (by omega)
          omega
        · obtain rfl : m = 9 := by omega
          have : bn (s.extract n s.size) 9 % 128 ≤ 1 := by omega
          have := Nat.mul_le_mul_right (128 ^ 9) this
          omega
       have hcode : codeAt s n (m + 1) 0 = ((valL (byL (s.extract n s.size) 0 (m + 1)) : Nat) : Int) := by
        rw [hxm]
        have := code_val (s.extract n s.size) (m + 1) 0 (by omega)
        simpa using this
       have hz := zig_out _ hc64
       rw [← hcode] at hz
       have hlen : (vb (zig (outF (codeAt s n (m + 1) 0)))).length = m + 1 := by rw [hz, hcn, byL_len]
       have hhas : ∀ (j x : Nat), (vb (zig (outF (codeAt s n (m + 1) 0))))[j]? = some x → bt (s.extract n s.size) (j : Int) = (x : Int) := fun j x hx => by
        rw [hz, hcn] at hx
        have hj : j < m + 1 := by have := (List.getElem?_eq_some_iff.1 hx).1; rwa [byL_len] at this
        rw [byL_get _ (m + 1) 0 j hj] at hx
        injection hx with hx
        rw [bt_bn, ← hx, Nat.zero_add]
       have key := Reader_loop (s.extract n s.size) (outF (codeAt s n (m + 1) 0)) hrange.1 hrange.2 _ 0 rfl (.inl rfl) (by
        intro j x hx
        rw [Nat.mul_zero, Nat.pow_zero, Nat.div_one] at hx
        rw [Nat.zero_add]
        exact hhas j x hx)
        (by rw [Nat.mul_zero, Nat.pow_zero, Nat.div_one, hlen]; omega) (by omega)
       rw [Nat.mul_zero, Nat.pow_zero, Nat.mod_one, Nat.div_one, hlen, Nat.zero_add, her (m + 1) (by omega)] at key
       refine ⟨_, _, ((n + m + 1 : Nat) : Int), false, key, hf _ (evN r1 (Ev.bind hre (evI ?_ (Ev.now _)))), ⟨rfl, fun _ => ⟨n + m + 1, rfl, by omega, rfl⟩⟩, hrange, (fun h => by cases h), (fun h => by cases h)⟩
       congr 1
       rw [hem]
       refine ext_bt ?_ fun j hj => ?_
       · rw [IntB_size, hlen, ByteArray.size_extract]; omega
       · rw [IntB_size, hlen] at hj
         obtain ⟨x, hx⟩ := get_some (l := vb (zig (outF (codeAt s n (m + 1) 0)))) (i := j) (by omega)
         rw [bt_ext _ 0 (m + 1) j (by omega) (by omega), Nat.zero_add, hhas j x hx]
         exact nums_bt _ (vb_lt _) j x hx
end Go.Proofs.Ythokkeljfdfppaa.Pure

