/- Several texts of this claim, one behind the other: DgS, DgT, DgU, DgW. -/
import Derived.Test.YtoolionhheiihaaPby1
import Derived.Test.YtoolionhheiihaaMgD
/- The reference's digests and nodes are those of the package; the examples of the chapter. -/
set_option linter.unusedVariables false
set_option linter.unusedSimpArgs false
namespace Go.Proofs.Ytoolionhheiihaa.PureD
open Go.RowKit Go.Proofs.Ytoolionhheiihaa.Pb Go.Proofs.YtoolionhheiihaaW.PrintWords Go.Proofs.YtoolionhheiihaaW.PrintLast Go.Proofs.Ytoolionhheiihaa.Gv Go.Proofs.Ytoolionhheiihaa.Dg
theorem ref_bytes4 (n : Int) : abugidaref03_bytes4.f n = some (strOfNums [bb n 16777216, bb n 65536, bb n 256, bb n 1]) := by
  simp [abugidaref03_bytes4.f, bb]
theorem two_halves (x y : Int) : strOfNums [bb x 16777216, bb x 65536, bb x 256, bb x 1] ++ strOfNums [bb y 16777216, bb y 65536, bb y 256, bb y 1] = dg x y := by
  apply ByteArray.ext
  simp [strOfNums, dg]
theorem bt_get (s : ByteArray) (i : Nat) (h : i < s.size) : bt s (i : Int) = (s[i].toNat : Int) := by
  simp [bt, h]
theorem ref_Of_loop (a : ByteArray) (ha : a.size ≤ 9223372036854775807) (d : Nat) : ∀ (k i : Nat), i ≤ a.size → a.size - i = d → d < k →
    abugidaref03_Of.l0 k a (fx 7 (a.data.toList.take i)) (fy 11 (a.data.toList.take i)) i = some (OfB a) := by
  induction d with
  | zero =>
    intro k i hi hd hk
    obtain ⟨k, rfl⟩ : ∃ m, k = m + 1 := ⟨k - 1, by omega⟩
    simp only [abugidaref03_Of.l0]
    rw [if_neg (by omega), List.take_of_length_le (by simp; omega), ref_bytes4, ref_bytes4]
    simp only [Option.bind_some]
    rw [if_pos (by simp [strOfNums_size]), two_halves]
    rfl
  | succ d ih =>
    intro k i hi hd hk
    obtain ⟨k, rfl⟩ : ∃ m, k = m + 1 := ⟨k - 1, by omega⟩
    have hlt : i < a.size := by omega
    obtain ⟨r1, r2⟩ := fx_range (a.data.toList.take i) 7 (by omega) (by omega)
    obtain ⟨r3, r4⟩ := fy_range (a.data.toList.take i) 11 (by omega) (by omega)
    have e1 := fx_snoc a i hlt 7
    have e2 := fy_snoc a i hlt 11
    have ih' := ih k (i + 1) (by omega) (by omega) (by omega)
    rw [e1, e2] at ih'
    simp only [abugidaref03_Of.l0]
    rw [if_pos (by omega), if_pos (by omega), bt_get a i hlt]
    have hc := (a[i]).toNat_lt
    generalize fx 7 (a.data.toList.take i) = x at *
    generalize fy 11 (a.data.toList.take i) = y at *
    generalize a[i] = c at *
    have w1 : wrap64 (x * 1000003) = x * 1000003 := by unfold wrap64; omega
    have w2 : wrap64 (y * 69069) = y * 69069 := by unfold wrap64; omega
    rw [w1, w2, stepx x c r1 r2, stepy y c r3 r4, show wrap64 ((i : Int) + 1) = ((i + 1 : Nat) : Int) by unfold wrap64; omega]
    exact ih'
theorem ref_Of (a : ByteArray) (ha : a.size ≤ 9223372036854775807) (k : Nat) (hk : a.size < k) : abugidaref03_Of.f k a = some (OfB a) :=
  ref_Of_loop a ha a.size k 0 (by omega) (by omega) hk
theorem ref_Pair (a b : ByteArray) (ha : a.size ≤ 4611686018427387904) (hb : b.size ≤ 4611686018427387000) (k : Nat) (hk : a.size + b.size + 5 < k) : abugidaref03_Pair.f k a b = some (PairB a b) := by
  have hz : (n4 a.size).size = 4 := n4_size _
  have h1 : ((⟨#[1]⟩ : ByteArray) ++ n4 a.size).size = 5 := by rw [ByteArray.size_append, hz]; rfl
  have h2 : (((⟨#[1]⟩ : ByteArray) ++ n4 a.size) ++ a).size = 5 + a.size := by rw [ByteArray.size_append, h1]
  have h3 : ((((⟨#[1]⟩ : ByteArray) ++ n4 a.size) ++ a) ++ b).size = 5 + a.size + b.size := by rw [ByteArray.size_append, h2]
  unfold abugidaref03_Pair.f
  rw [ref_bytes4]
  simp only [Option.bind_some]
  rw [if_pos (by rw [strOfNums_size]; simp)]
  change (if ((⟨#[1]⟩ : ByteArray) ++ n4 a.size).size + a.size ≤ 9223372036854775807 then _ else _) = _
  rw [if_pos (by rw [h1]; omega)]
  change (if (((⟨#[1]⟩ : ByteArray) ++ n4 a.size) ++ a).size + b.size ≤ 9223372036854775807 then _ else _) = _
  rw [if_pos (by rw [h2]; omega)]
  change (abugidaref03_Of.f k ((((⟨#[1]⟩ : ByteArray) ++ n4 a.size) ++ a) ++ b)).bind _ = _
  rw [ref_Of _ (by rw [h3]; omega) k (by rw [h3]; omega)]
  rfl
end Go.Proofs.Ytoolionhheiihaa.PureD

/- The reference's levels, proofs and roots are those of the contracts; a byte changed changes a digest. -/
set_option linter.unusedVariables false
set_option linter.unusedSimpArgs false
namespace Go.Proofs.Ytoolionhheiihaa.PureD
open Go.RowKit Go.Proofs.Ytoolionhheiihaa.Pb Go.Proofs.YtoolionhheiihaaW.PrintWords Go.Proofs.YtoolionhheiihaaW.PrintLast Go.Proofs.YtoolionhheiihaaW.PrintMore Go.Proofs.Ytoolionhheiihaa.Gv Go.Proofs.Ytoolionhheiihaa.Dg
theorem evI {α : Type} {c : Prop} [Decidable c] {A B : Nat → Option α} {r : α} (h : c) (k : Ev A r) : Ev (fun n => if c then A n else B n) r := Ev.congr (fun _ => if_pos h) k
theorem evN {α : Type} {c : Prop} [Decidable c] {A B : Nat → Option α} {r : α} (h : ¬ c) (k : Ev B r) : Ev (fun n => if c then A n else B n) r := Ev.congr (fun _ => if_neg h) k
theorem w64 {x : Int} (h0 : -9223372036854775808 ≤ x) (h1 : x < 9223372036854775808) : wrap64 x = x := by unfold wrap64; omega
theorem dbl {j : Nat} (h : 2 ^ j < 1000) : wrap64 (2 * ((2 ^ j : Nat) : Int)) = ((2 ^ (j + 1) : Nat) : Int) := by
  rw [Nat.pow_succ]
  generalize 2 ^ j = P at *
  exact (w64 (by omega) (by omega)).trans (by omega)
theorem tdiv2 (m : Nat) : Int.tdiv (m : Int) 2 = ((m / 2 : Nat) : Int) := rfl
theorem tmod2 (m : Nat) : Int.tmod (m : Int) 2 = ((m % 2 : Nat) : Int) := rfl
theorem w64n (x : Nat) (h : x ≤ 9223372036854775807) : wrap64 (x : Int) = (x : Int) := w64 (by omega) (by omega)
theorem rd_some {l : List ByteArray} {i : Nat} {s : ByteArray} (h : l[i]? = some s) : rdOf ByteArray.empty l (i : Int) = s := by
  simp [rdOf, List.getD_eq_getElem?_getD, h]
theorem get_some {α : Type} {l : List α} {i : Nat} (h : i < l.length) : ∃ s, l[i]? = some s := ⟨l[i], List.getElem?_eq_getElem h⟩
/-- The first forty bytes. -/
def cut40 (s : ByteArray) : ByteArray := s.extract 0 (min s.size 40)
def few20 (l : List ByteArray) : List ByteArray := (l.take 20).map cut40
theorem few20_mem (l : List ByteArray) : ∀ s ∈ few20 l, s.size ≤ 40 := by
  intro s hs
  simp only [few20, List.mem_map] at hs
  obtain ⟨t, _, rfl⟩ := hs
  simp [cut40, ByteArray.size_extract]
  omega
theorem Pair_ev (a b : ByteArray) (ha : a.size ≤ 4611686018427387904) (hb : b.size ≤ 4611686018427387000) : Ev (fun k => abugidaref03_Pair.f k a b) (PairB a b) :=
  ⟨a.size + b.size + 6, fun k hk => ref_Pair a b ha hb k (by omega)⟩
theorem level_loop (r : List ByteArray) (hl : r.length ≤ 1099511627776) (hs : ∀ s ∈ r, s.size ≤ 9000) (d : Nat) : ∀ j : Nat, r.length / 2 - j = d → j ≤ r.length / 2 →
    Ev (fun k => abugidaref03_level.l0 k r ((above r).take j) ((2 * j : Nat) : Int)) (above r) := by
  induction d with
  | zero =>
    intro j hd hj
    refine Ev.step (fun k => abugidaref03_level.l0.eq_2 ..) ?_
    rw [show wrap64 (((2 * j : Nat) : Int) + 1) = ((2 * j + 1 : Nat) : Int) from w64 (by omega) (by omega)]
    refine evN (by omega) ?_
    rw [List.take_of_length_le (by rw [above_len]; omega)]
    exact Ev.now _
  | succ d ih =>
    intro j hd hj
    refine Ev.step (fun k => abugidaref03_level.l0.eq_2 ..) ?_
    rw [show wrap64 (((2 * j : Nat) : Int) + 1) = ((2 * j + 1 : Nat) : Int) from w64 (by omega) (by omega)]
    obtain ⟨a, ha⟩ := get_some (l := r) (i := 2 * j) (by omega)
    obtain ⟨b, hb⟩ := get_some (l := r) (i := 2 * j + 1) (by omega)
    refine evI (by omega) ?_
    refine evI (by omega) ?_
    refine evI (by omega) ?_
    refine evI (by omega) ?_
    rw [rd_some ha, rd_some hb]
    refine Ev.bind (Pair_ev a b (Nat.le_trans (hs a (List.mem_of_getElem? ha)) (by omega)) (Nat.le_trans (hs b (List.mem_of_getElem? hb)) (by omega))) ?_
    refine evI (by rw [List.length_take, above_len]; omega) ?_
    rw [show wrap64 (((2 * j : Nat) : Int) + 2) = ((2 * (j + 1) : Nat) : Int) from (w64 (by omega) (by omega)).trans (by omega)]
    have := ih (j + 1) (by omega) (by omega)
    rw [List.take_add_one, above_get r j a b (by omega) ha hb] at this
    exact this
theorem level_ev (r : List ByteArray) (hl : r.length ≤ 1099511627776) (hs : ∀ s ∈ r, s.size ≤ 9000) : Ev (fun k => abugidaref03_level.f k r) (above r) :=
  level_loop r hl hs (r.length / 2) 0 (by omega) (by omega)
/-- The levels of a list. -/
def LevsF (l : List ByteArray) : List (List ByteArray) := (List.range (hof l.length + 1)).map (lev (fill l (2 ^ hof l.length)))
theorem above_mem (r : List ByteArray) : ∀ s ∈ above r, s.size = 8 := by
  intro s hs
  simp only [above, List.mem_map] at hs
  obtain ⟨i, _, rfl⟩ := hs
  exact PairB_len _ _
theorem lev_mem (r : List ByteArray) (h : ∀ s ∈ r, s.size ≤ 9000) : ∀ k, ∀ s ∈ lev r k, s.size ≤ 9000
  | 0 => h
  | k + 1 => fun s hs => by rw [above_mem _ s hs]; omega
theorem fill_mem (l : List ByteArray) (m : Nat) (h : ∀ s ∈ l, s.size ≤ 9000) : ∀ s ∈ fill l m, s.size ≤ 9000 := by
  intro s hs
  simp only [fill, List.mem_append, List.mem_replicate] at hs
  rcases hs with hs | ⟨_, rfl⟩
  · exact h s hs
  · decide
theorem lt_hof {n j : Nat} (hj : j ≤ hof n) : 2 ^ j < n ↔ j < hof n := by
  have hu := up_hof n
  constructor
  · intro h
    rcases Nat.lt_or_ge j (hof n) with h' | h'
    · exact h'
    · have : j = hof n := by omega
      subst this
      have := hu.2.1
      omega
  · intro h
    rcases hu.2.2 with h2 | h2
    · have := Nat.one_lt_two_pow (n := hof n) (by omega)
      omega
    · have := Nat.pow_le_pow_right (n := 2) (by omega) (show j + 1 ≤ hof n by omega)
      rw [Nat.pow_succ] at this
      omega
theorem hof_small {n : Nat} (hn : n ≤ 32) : hof n ≤ 5 := by
  rcases Nat.lt_or_ge 5 (hof n) with h | h
  · have := (lt_hof (n := n) (j := 5) (by omega)).2 h
    omega
  · exact h
theorem lev_len' (l : List ByteArray) {k : Nat} (hk : k ≤ hof l.length) : (lev (fill l (2 ^ hof l.length)) k).length = 2 ^ (hof l.length - k) :=
  lev_len l _ (up_hof _).2.1 k hk
theorem Levels_l2 (l : List ByteArray) (hl : l.length ≤ 32) (hs : ∀ s ∈ l, s.size ≤ 9000) (d : Nat) : ∀ j : Nat, hof l.length - j = d → j ≤ hof l.length →
    Ev (fun k => abugidaref03_Levels.l2 k ((List.range (j + 1)).map (lev (fill l (2 ^ hof l.length))))) (LevsF l) := by
  have h5 := hof_small hl
  have hlast : ∀ j, rd_L2 ((List.range (j + 1)).map (lev (fill l (2 ^ hof l.length)))) (j : Int) = lev (fill l (2 ^ hof l.length)) j := by
    intro j; simp [rd_L2, List.getD_eq_getElem?_getD]
  induction d with
  | zero =>
    intro j hd hj
    obtain rfl : j = hof l.length := by omega
    refine Ev.step (fun k => abugidaref03_Levels.l2.eq_2 ..) ?_
    rw [show wrap64 ((((List.range (hof l.length + 1)).map (lev (fill l (2 ^ hof l.length)))).length : Int) - 1) = ((hof l.length : Nat) : Int) from (w64 (by simp <;> omega) (by simp <;> omega)).trans (by simp)]
    refine evI (by omega) ?_
    refine evI (by simp; omega) ?_
    rw [hlast, lev_len' l hj]
    refine evN (by simp) ?_
    exact Ev.now _
  | succ d ih =>
    intro j hd hj
    refine Ev.step (fun k => abugidaref03_Levels.l2.eq_2 ..) ?_
    rw [show wrap64 ((((List.range (j + 1)).map (lev (fill l (2 ^ hof l.length)))).length : Int) - 1) = ((j : Nat) : Int) from (w64 (by simp <;> omega) (by simp <;> omega)).trans (by simp)]
    have hp : 1 < 2 ^ (hof l.length - j) := Nat.one_lt_two_pow (by omega)
    have hq : 2 ^ (hof l.length - j) ≤ 2 ^ 5 := Nat.pow_le_pow_right (by omega) (by omega)
    refine evI (by omega) ?_
    refine evI (by simp; omega) ?_
    rw [hlast, lev_len' l hj]
    refine evI (by omega) ?_
    refine Ev.bind (level_ev _ (by rw [lev_len' l hj]; omega) (lev_mem _ (fill_mem l _ hs) j)) ?_
    refine evI (by simp; omega) ?_
    have := ih (j + 1) (by omega) (by omega)
    rw [List.range_succ, List.map_append] at this
    exact this
theorem Levels_l1 (l : List ByteArray) (hl : l.length ≤ 32) (hs : ∀ s ∈ l, s.size ≤ 9000) (d : Nat) : ∀ m : Nat, 2 ^ hof l.length - l.length - m = d → l.length + m ≤ 2 ^ hof l.length →
    Ev (fun k => abugidaref03_Levels.l1 k ((2 ^ hof l.length : Nat) : Int) (l ++ List.replicate m ⟨#[]⟩)) (LevsF l) := by
  have h5 := hof_small hl
  have hq : 2 ^ hof l.length ≤ 2 ^ 5 := Nat.pow_le_pow_right (by omega) (by omega)
  induction d with
  | zero =>
    intro m hd hm
    refine Ev.step (fun k => abugidaref03_Levels.l1.eq_2 ..) ?_
    refine evN (by rw [List.length_append, List.length_replicate]; omega) ?_
    have e : l ++ List.replicate m ⟨#[]⟩ = fill l (2 ^ hof l.length) := by unfold fill; rw [show m = 2 ^ hof l.length - l.length by omega]
    rw [e]
    exact Levels_l2 l hl hs (hof l.length) 0 (by omega) (by omega)
  | succ d ih =>
    intro m hd hm
    refine Ev.step (fun k => abugidaref03_Levels.l1.eq_2 ..) ?_
    refine evI (by rw [List.length_append, List.length_replicate]; omega) ?_
    refine evI (by rw [List.length_append, List.length_replicate]; omega) ?_
    have := ih (m + 1) (by omega) (by omega)
    rw [List.replicate_succ', ← List.append_assoc] at this
    exact this
theorem Levels_l0 (l : List ByteArray) (hl : l.length ≤ 32) (hs : ∀ s ∈ l, s.size ≤ 9000) (d : Nat) : ∀ j : Nat, hof l.length - j = d → j ≤ hof l.length →
    Ev (fun k => abugidaref03_Levels.l0 k l ((2 ^ j : Nat) : Int)) (LevsF l) := by
  have h5 := hof_small hl
  induction d with
  | zero =>
    intro j hd hj
    obtain rfl : j = hof l.length := by omega
    have hu := (up_hof l.length).2.1
    have hq : 2 ^ hof l.length ≤ 2 ^ 5 := Nat.pow_le_pow_right (by omega) (by omega)
    refine Ev.step (fun k => abugidaref03_Levels.l0.eq_2 ..) ?_
    refine evN (by omega) ?_
    refine Ev.bind (Ev.now _) ?_
    refine evI (by simp; omega) ?_
    have := Levels_l1 l hl hs _ 0 rfl (by omega)
    simpa using this
  | succ d ih =>
    intro j hd hj
    have hlt := (lt_hof (n := l.length) hj).2 (by omega)
    refine Ev.step (fun k => abugidaref03_Levels.l0.eq_2 ..) ?_
    refine evI (by omega) ?_
    have := ih (j + 1) (by omega) (by omega)
    rw [show wrap64 (2 * ((2 ^ j : Nat) : Int)) = ((2 ^ (j + 1) : Nat) : Int) from dbl (by omega)]
    exact this
theorem Levels_ev (l : List ByteArray) (hl : l.length ≤ 32) (hs : ∀ s ∈ l, s.size ≤ 9000) : Ev (fun k => abugidaref03_Levels.f k l) (LevsF l) :=
  Levels_l0 l hl hs (hof l.length) 0 (by omega) (by omega)
theorem LevsF_get (l : List ByteArray) {j : Nat} (h : j ≤ hof l.length) : rd_L2 (LevsF l) (j : Int) = lev (fill l (2 ^ hof l.length)) j := by
  simp [rd_L2, LevsF, List.getD_eq_getElem?_getD, show j < hof l.length + 1 by omega]
theorem LevsF_len (l : List ByteArray) : (LevsF l).length = hof l.length + 1 := by simp [LevsF]
theorem nb_odd {m : Nat} (h : m % 2 = 1) : nb m = m - 1 := by
  unfold nb
  have e : m ^^^ 1 = 2 * (m / 2) := by
    apply Nat.eq_of_testBit_eq
    intro i
    cases i with
    | zero => simp [Nat.testBit_xor, h]
    | succ i => simp [Nat.testBit_succ, Nat.xor_div_two]
  omega
theorem nb_even {m : Nat} (h : m % 2 = 0) : nb m = m + 1 := by
  unfold nb
  have e : m ^^^ 1 = 2 * (m / 2) + 1 := by
    apply Nat.eq_of_testBit_eq
    intro i
    cases i with
    | zero => simp [Nat.testBit_xor, h]
    | succ i =>
      rw [Nat.testBit_succ, Nat.testBit_succ, Nat.xor_div_two, show (2 * (m / 2) + 1) / 2 = m / 2 by omega]
      simp
  omega
theorem wm1 (M : Nat) (h : M % 2 = 1) (hM : M ≤ 1000) : wrap64 ((M : Int) - 1) = ((nb M : Nat) : Int) := by
  have e := nb_odd h
  exact (w64 (by omega) (by omega)).trans (by omega)
theorem wp1 (M : Nat) (h : M % 2 = 0) (hM : M ≤ 1000) : wrap64 ((M : Int) + 1) = ((nb M : Nat) : Int) := by
  have e := nb_even h
  exact (w64 (by omega) (by omega)).trans (by omega)
theorem Proof_loop (l : List ByteArray) (hl : l.length ≤ 32) (i : Nat) (hi : i < l.length) (d : Nat) : ∀ j : Nat, hof l.length - j = d → j ≤ hof l.length →
    Ev (fun k => abugidaref03_Proof.l0 k ((i / 2 ^ j : Nat) : Int) (LevsF l) ((List.range j).map fun k => (lev (fill l (2 ^ hof l.length)) k).getD (nb (i / 2 ^ k)) ⟨#[]⟩) (j : Int)) (ProofL l (hof l.length) i) := by
  have h5 := hof_small hl
  induction d with
  | zero =>
    intro j hd hj
    obtain rfl : j = hof l.length := by omega
    refine Ev.step (fun k => abugidaref03_Proof.l0.eq_2 ..) ?_
    rw [show wrap64 (((hof l.length : Nat) : Int) + 1) = ((hof l.length + 1 : Nat) : Int) from w64 (by omega) (by omega), LevsF_len]
    refine evN (by omega) ?_
    exact Ev.now _
  | succ d ih =>
    intro j hd hj
    have hdl : i / 2 ^ j ≤ i := Nat.div_le_self _ _
    have hq : 2 ^ (hof l.length - j) ≤ 2 ^ 5 := Nat.pow_le_pow_right (by omega) (by omega)
    have hp : 1 < 2 ^ (hof l.length - j) := Nat.one_lt_two_pow (by omega)
    have hnb := nb_lt (i := i) (k := j) (h := hof l.length) rfl hp (by have := (up_hof l.length).2.1; omega) hj
    have hd2 : i / 2 ^ j / 2 = i / 2 ^ (j + 1) := by rw [Nat.div_div_eq_div_mul, Nat.pow_succ]
    have ih' := ih (j + 1) (by omega) (by omega)
    rw [List.range_succ, List.map_append] at ih'
    have hL := lev_len' l hj
    refine Ev.step (fun k => abugidaref03_Proof.l0.eq_2 ..) ?_
    rw [show wrap64 (((j : Nat) : Int) + 1) = ((j + 1 : Nat) : Int) from w64 (by omega) (by omega), LevsF_len, LevsF_get l hj]
    refine evI (by omega) ?_
    rw [show wrap64 (Int.tdiv ((i / 2 ^ j : Nat) : Int) 2) = ((i / 2 ^ (j + 1) : Nat) : Int) from by rw [tdiv2, hd2]; exact w64n _ (by rw [← hd2]; omega)]
    rw [tmod2]
    by_cases hodd : (i / 2 ^ j) % 2 = 1
    · have e := nb_odd hodd
      rw [show wrap64 (((i / 2 ^ j : Nat) : Int) - 1) = ((nb (i / 2 ^ j) : Nat) : Int) from wm1 _ hodd (by omega)]
      refine evI (by omega) ?_
      refine evI (by omega) ?_
      refine evI (by omega) ?_
      refine evI (by omega) ?_
      refine evI (by omega) ?_
      refine evI (by simp; omega) ?_
      exact ih'
    · have e := nb_even (m := i / 2 ^ j) (by omega)
      rw [show wrap64 (((i / 2 ^ j : Nat) : Int) + 1) = ((nb (i / 2 ^ j) : Nat) : Int) from wp1 _ (by omega) (by omega)]
      refine evN (by omega) ?_
      refine evI (by omega) ?_
      refine evI (by omega) ?_
      refine evI (by omega) ?_
      refine evI (by omega) ?_
      refine evI (by simp; omega) ?_
      exact ih'
theorem Proof_j0_t (l : List ByteArray) (i : Int) : Ev (fun k => abugidaref03_Proof.j0 k l i true) [] :=
  Ev.step (fun k => abugidaref03_Proof.j0.eq_2 ..) (evI rfl (Ev.now _))
theorem Proof_ev (l : List ByteArray) (hl : l.length ≤ 32) (hs : ∀ s ∈ l, s.size ≤ 9000) (i : Int) : Ev (fun k => abugidaref03_Proof.f k l i) (ProofF l i) := by
  unfold abugidaref03_Proof.f ProofF
  by_cases h0 : i < 0
  · rw [if_pos (.inl h0)]
    refine evI h0 ?_
    exact Proof_j0_t l i
  · refine evN h0 ?_
    by_cases h1 : (l.length : Int) ≤ i
    · rw [if_pos (.inr h1), show decide (i ≥ (l.length : Int)) = true from decide_eq_true h1]
      exact Proof_j0_t l i
    · rw [if_neg (by omega), show decide (i ≥ (l.length : Int)) = false from decide_eq_false h1]
      refine Ev.step (fun k => abugidaref03_Proof.j0.eq_2 ..) ?_
      refine evN (by decide) ?_
      refine Ev.bind (Levels_ev l hl hs) ?_
      have := Proof_loop l hl i.toNat (by omega) _ 0 rfl (by omega)
      rw [Nat.pow_zero, Nat.div_one, show ((i.toNat : Nat) : Int) = i by omega] at this
      exact this
theorem strOfNums_one (n : Int) : (strOfNums [n]).size = 1 := by rw [strOfNums_size]; rfl
theorem top_ev (h : Int) (t : ByteArray) (ht : t.size ≤ 4611686018427387904) : Ev (fun k => abugidaref03_top.f k h t) (RootB h t) := by
  unfold abugidaref03_top.f
  have h1 : ((⟨#[2]⟩ : ByteArray) ++ strOfNums [h % 256]).size = 2 := by rw [ByteArray.size_append, strOfNums_one]; rfl
  have h2 : (((⟨#[2]⟩ : ByteArray) ++ strOfNums [h % 256]) ++ t).size = 2 + t.size := by rw [ByteArray.size_append, h1]
  refine Ev.bind (Ev.now _) ?_
  refine evI (by rw [strOfNums_one]; decide) ?_
  refine evI (by rw [h1]; omega) ?_
  refine Ev.bind (a := RootB h t) ⟨t.size + 3, fun k hk => ref_Of _ (by rw [h2]; omega) k (by rw [h2]; omega)⟩ (Ev.now _)
theorem Root_ev (l : List ByteArray) (hl : l.length ≤ 32) (hs : ∀ s ∈ l, s.size ≤ 9000) : Ev (fun k => abugidaref03_Root.f k l) (RootF l) := by
  unfold abugidaref03_Root.f
  have h5 := hof_small hl
  refine Ev.bind (Levels_ev l hl hs) ?_
  have hL := lev_len' l (Nat.le_refl (hof l.length))
  rw [Nat.sub_self] at hL
  rw [LevsF_len, show wrap64 (((hof l.length + 1 : Nat) : Int) - 1) = ((hof l.length : Nat) : Int) from (w64 (by omega) (by omega)).trans (by omega), LevsF_get l (Nat.le_refl _)]
  obtain ⟨t, ht⟩ := get_some (l := lev (fill l (2 ^ hof l.length)) (hof l.length)) (i := 0) (by omega)
  refine evI (by omega) ?_
  refine evI (by omega) ?_
  refine evI (by omega) ?_
  rw [show rdOf ByteArray.empty (lev (fill l (2 ^ hof l.length)) (hof l.length)) 0 = t from rd_some ht]
  have e : RootF l = RootB (hof l.length) t := by unfold RootF; rw [List.getD_eq_getElem?_getD, ht]; rfl
  rw [e]
  exact Ev.bind (top_ev _ t (Nat.le_trans (lev_mem _ (fill_mem l _ hs) _ t (List.mem_of_getElem? ht)) (by omega))) (Ev.now _)
theorem ProofF_len (l : List ByteArray) (hl : l.length ≤ 32) (i : Int) : (ProofF l i).length ≤ 5 := by
  have := hof_small hl
  unfold ProofF
  split
  · simp
  · simp [ProofL]; omega
end Go.Proofs.Ytoolionhheiihaa.PureD

/- The reference's check of a proof is that of the contract. -/
set_option linter.unusedVariables false
set_option linter.unusedSimpArgs false
namespace Go.Proofs.Ytoolionhheiihaa.PureD
open Go.RowKit Go.Proofs.Ytoolionhheiihaa.Pb Go.Proofs.YtoolionhheiihaaW.PrintWords Go.Proofs.YtoolionhheiihaaW.PrintLast Go.Proofs.YtoolionhheiihaaW.PrintMore Go.Proofs.Ytoolionhheiihaa.Gv Go.Proofs.Ytoolionhheiihaa.Dg
theorem toList_loop (a : ByteArray) (d : Nat) : ∀ (i : Nat) (r : List UInt8), a.size - i = d → ByteArray.toList.loop a i r = r.reverse ++ a.data.toList.drop i := by
  induction d with
  | zero =>
    intro i r hd
    rw [ByteArray.toList.loop, if_neg (by omega), List.drop_of_length_le (by simp only [Array.length_toList]; exact Nat.sub_eq_zero_iff_le.1 hd)]
    simp
  | succ d ih =>
    intro i r hd
    have hi : i < a.data.size := by have : a.data.size = a.size := rfl; omega
    have e : a.data.toList.drop i = a.data[i] :: a.data.toList.drop (i + 1) := by rw [List.drop_eq_getElem_cons (by simpa using hi)]; rfl
    rw [ByteArray.toList.loop, if_pos (by omega), ih _ _ (by omega), e]
    simp [ByteArray.get!, getElem!_pos a.data i hi]
theorem toList_data (a : ByteArray) : a.toList = a.data.toList := by
  unfold ByteArray.toList
  rw [toList_loop a _ 0 [] rfl]
  simp
theorem bytes_ext {a b : ByteArray} (h : a.toList = b.toList) : a = b := by
  rw [toList_data, toList_data] at h
  apply ByteArray.ext
  exact Array.toList_inj.1 h
theorem Verify_loop (root : ByteArray) (l : List ByteArray) (hl : l.length ≤ 20) (hs : ∀ s ∈ l, s.size ≤ 9000) (leaf : ByteArray) (i : Int) (hi : 0 ≤ i) (hi2 : i ≤ 9223372036854775807) (hlf : leaf.size ≤ 9000) (d : Nat) :
    ∀ j : Nat, l.length - j = d → j ≤ l.length → (vf leaf i (l.take j)).1.size ≤ 9000 → 0 ≤ (vf leaf i (l.take j)).2 → (vf leaf i (l.take j)).2 ≤ 9223372036854775807 →
    Ev (fun k => abugidaref03_Verify.l0 k root (vf leaf i (l.take j)).2 l (vf leaf i (l.take j)).1 (j : Int)) (decide (root = RootB l.length (vf leaf i l).1)) := by
  induction d with
  | zero =>
    intro j hd hj hz h0 h1
    obtain rfl : j = l.length := by omega
    rw [List.take_length] at *
    refine Ev.step (fun k => abugidaref03_Verify.l0.eq_2 ..) ?_
    refine evN (by omega) ?_
    refine Ev.bind (top_ev _ _ (by omega)) ?_
    have e : (root.toList == (RootB l.length (vf leaf i l).1).toList) = decide (root = RootB l.length (vf leaf i l).1) := by
      rw [Bool.eq_iff_iff]
      simp only [beq_iff_eq, decide_eq_true_eq]
      constructor
      · intro h; exact bytes_ext h
      · intro h; rw [h]
    rw [e]
    exact Ev.now _
  | succ d ih =>
    intro j hd hj hz h0 h1
    obtain ⟨s, hs'⟩ := get_some (l := l) (i := j) (by omega)
    have hsz := hs s (List.mem_of_getElem? hs')
    have ih' := ih (j + 1) (by omega) (by omega)
    rw [vf_snoc leaf i l j s hs'] at ih'
    generalize vf leaf i (l.take j) = st at *
    refine Ev.step (fun k => abugidaref03_Verify.l0.eq_2 ..) ?_
    obtain ⟨x, n⟩ := st
    simp only at hz h0 h1
    obtain ⟨m, rfl⟩ : ∃ m : Nat, n = m := ⟨n.toNat, by omega⟩
    rw [tdiv2, tmod2, rd_some hs', show wrap64 (((j : Nat) : Int) + 1) = ((j + 1 : Nat) : Int) from w64 (by omega) (by omega), w64n _ (by omega)]
    refine evI (by omega) ?_
    by_cases he : (m : Int) % 2 = 0
    · simp only [vstep, if_pos he, PairB_len] at ih'
      refine evI (by omega) ?_
      refine evI (by omega) ?_
      refine Ev.bind (Pair_ev x s (by omega) (by omega)) ?_
      exact ih' (by omega) (by omega) (by omega)
    · simp only [vstep, if_neg he, PairB_len] at ih'
      refine evN (by omega) ?_
      refine evI (by omega) ?_
      refine Ev.bind (Pair_ev s x (by omega) (by omega)) ?_
      exact ih' (by omega) (by omega) (by omega)
theorem Verify_j0_t (a b : ByteArray) (i : Int) (l : List ByteArray) : Ev (fun k => abugidaref03_Verify.j0 k a b i l true) false :=
  Ev.step (fun k => abugidaref03_Verify.j0.eq_2 ..) (evI rfl (Ev.now _))
theorem RootB_size (h : Int) (t : ByteArray) : (RootB h t).size = 8 := by simp [RootB, OfB, dg, strOfNums_size]
theorem shl1 (n : Nat) (h : n ≤ 20) : shl .i64 1 (n : Int) = ((2 ^ n : Nat) : Int) := by
  have : ∀ m : Nat, m < 21 → shl .i64 1 (m : Int) = ((2 ^ m : Nat) : Int) := by decide +kernel
  exact this n (by omega)
theorem Verify_ev (root leaf : ByteArray) (i : Int) (l : List ByteArray) (hi : i ≤ 9223372036854775807) (hlf : leaf.size ≤ 9000) (hs : ∀ s ∈ l, s.size ≤ 9000) : Ev (fun k => abugidaref03_Verify.f k root leaf i l) (VerifyF root leaf i l) := by
  unfold abugidaref03_Verify.f VerifyF
  by_cases h0 : (l.length : Int) > 20
  · refine evI h0 ?_
    rw [if_neg (by omega)]
    exact Verify_j0_t _ _ _ _
  · refine evN h0 ?_
    by_cases h1 : i < 0
    · refine evI h1 ?_
      rw [if_neg (by omega)]
      exact Verify_j0_t _ _ _ _
    · refine evN h1 ?_
      rw [shl1 _ (by omega)]
      have hiff : i / 2 ^ l.length = 0 ↔ i < ((2 ^ l.length : Nat) : Int) := by
        have hp : (0 : Int) < ((2 ^ l.length : Nat) : Int) := by have := Nat.pow_pos (n := l.length) (show 0 < 2 by omega); omega
        rw [show (2 : Int) ^ l.length = ((2 ^ l.length : Nat) : Int) by simp]
        generalize ((2 ^ l.length : Nat) : Int) = P at *
        constructor
        · intro h
          have := Int.emod_add_mul_ediv i P
          have h2 := Int.emod_lt_of_pos i hp
          rw [h] at this
          omega
        · intro h; exact Int.ediv_eq_zero_of_lt (by omega) h
      by_cases h2 : i ≥ ((2 ^ l.length : Nat) : Int)
      · rw [if_neg (by rw [hiff]; omega), show decide (i ≥ ((2 ^ l.length : Nat) : Int)) = true from decide_eq_true h2]
        exact Verify_j0_t _ _ _ _
      · rw [show decide (i ≥ ((2 ^ l.length : Nat) : Int)) = false from decide_eq_false h2]
        refine Ev.step (fun k => abugidaref03_Verify.j0.eq_2 ..) ?_
        refine evN (by decide) ?_
        have key := Verify_loop root l (by omega) hs leaf i (by omega) hi hlf _ 0 rfl (by omega) hlf (by show 0 ≤ i; omega) hi
        have e : (if root.size = 8 ∧ l.length ≤ 20 ∧ 0 ≤ i ∧ i / 2 ^ l.length = 0 then decide (root = RootB l.length (vf leaf i l).1) else false) = decide (root = RootB l.length (vf leaf i l).1) := by
          by_cases hr : root.size = 8
          · rw [if_pos ⟨hr, by omega, by omega, by rw [hiff]; omega⟩]
          · rw [if_neg (fun h => hr h.1)]
            refine (decide_eq_false ?_).symm
            intro h
            exact hr (by rw [h, RootB_size])
        rw [e]
        exact key
end Go.Proofs.Ytoolionhheiihaa.PureD

/- A byte changed changes a digest; the proof of an element leads to the top. -/
set_option linter.unusedVariables false
set_option linter.unusedSimpArgs false
namespace Go.Proofs.Ytoolionhheiihaa.PureD
open Go.RowKit Go.Proofs.Ytoolionhheiihaa.Pb Go.Proofs.YtoolionhheiihaaW.PrintWords Go.Proofs.YtoolionhheiihaaW.PrintLast Go.Proofs.YtoolionhheiihaaW.PrintMore Go.Proofs.Ytoolionhheiihaa.Gv Go.Proofs.Ytoolionhheiihaa.Dg
theorem lev_get (r : List ByteArray) (k m : Nat) (h : m < (lev r (k + 1)).length) : (lev r (k + 1)).getD m ⟨#[]⟩ = PairB ((lev r k).getD (2 * m) ⟨#[]⟩) ((lev r k).getD (2 * m + 1) ⟨#[]⟩) := by
  have h' : m < (lev r k).length / 2 := by rw [← above_len]; exact h
  show (above (lev r k)).getD m ⟨#[]⟩ = _
  unfold above
  rw [List.getD_eq_getElem?_getD, List.getElem?_map, List.getElem?_range h']
  rfl
theorem ProofL_take (l : List ByteArray) (i : Nat) {n : Nat} (h : n < hof l.length) : (ProofL l (hof l.length) i)[n]? = some ((lev (fill l (2 ^ hof l.length)) n).getD (nb (i / 2 ^ n)) ⟨#[]⟩) := by
  simp [ProofL, h]
theorem leaf_fill (l : List ByteArray) (i m : Nat) (s : ByteArray) (h : l[i]? = some s) : (fill l m).getD i ⟨#[]⟩ = s := by
  have hi : i < l.length := (List.getElem?_eq_some_iff.1 h).1
  simp [fill, List.getD_eq_getElem?_getD, List.getElem?_append_left hi, h]
/-- The first steps of a proof lead to a level's element. -/
theorem vf_level (l : List ByteArray) (i : Nat) (s : ByteArray) (h : l[i]? = some s) : ∀ n, n ≤ hof l.length →
    vf s i ((ProofL l (hof l.length) i).take n) = ((lev (fill l (2 ^ hof l.length)) n).getD (i / 2 ^ n) ⟨#[]⟩, ((i / 2 ^ n : Nat) : Int)) := by
  have hi : i < l.length := (List.getElem?_eq_some_iff.1 h).1
  have hu := (up_hof l.length).2.1
  intro n
  induction n with
  | zero => intro _; simp only [List.take_zero, Nat.pow_zero, Nat.div_one]; rw [show lev (fill l (2 ^ hof l.length)) 0 = fill l (2 ^ hof l.length) from rfl, leaf_fill l i _ s h]; rfl
  | succ n ih =>
    intro hn
    rw [vf_snoc s i _ n _ (ProofL_take l i (by omega)), ih (by omega)]
    have hd2 : i / 2 ^ n / 2 = i / 2 ^ (n + 1) := by rw [Nat.div_div_eq_div_mul, Nat.pow_succ]
    have hlt : i / 2 ^ (n + 1) < (lev (fill l (2 ^ hof l.length)) (n + 1)).length := by
      rw [lev_len' l hn, Nat.div_lt_iff_lt_mul (Nat.pow_pos (by omega)), ← Nat.pow_add, show hof l.length - (n + 1) + (n + 1) = hof l.length by omega]
      omega
    rw [lev_get _ _ _ hlt, ← hd2]
    generalize i / 2 ^ n = m
    unfold vstep
    by_cases he : m % 2 = 0
    · rw [if_pos (by simp only; omega), nb_even he, show 2 * (m / 2) = m by omega]
      simp
    · rw [if_neg (by simp only; omega), nb_odd (by omega), show 2 * (m / 2) = m - 1 by omega, show m - 1 + 1 = m by omega]
      simp
theorem ProofL_len (l : List ByteArray) (h i : Nat) : (ProofL l h i).length = h := by simp [ProofL]
theorem vf_top (l : List ByteArray) (i : Nat) (s : ByteArray) (h : l[i]? = some s) : (vf s i (ProofL l (hof l.length) i)).1 = (lev (fill l (2 ^ hof l.length)) (hof l.length)).getD 0 ⟨#[]⟩ := by
  have hi : i < l.length := (List.getElem?_eq_some_iff.1 h).1
  have hu := (up_hof l.length).2.1
  have := vf_level l i s h _ (Nat.le_refl _)
  rw [List.take_of_length_le (by rw [ProofL_len]; omega), Nat.div_eq_of_lt (by omega)] at this
  rw [this]
theorem ProofF_in (l : List ByteArray) (i : Nat) (h : i < l.length) : ProofF l i = ProofL l (hof l.length) i := by
  unfold ProofF
  rw [if_neg (by omega)]
  rfl
end Go.Proofs.Ytoolionhheiihaa.PureD

