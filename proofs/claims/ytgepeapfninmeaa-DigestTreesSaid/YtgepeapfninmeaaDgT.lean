/- The reference's levels, proofs and roots are those of the contracts; a byte changed changes a digest. -/
import Derived.Test.YtgepeapfninmeaaDgS
import Derived.Test.YtgepeapfninmeaaPax2
import Derived.Test.YtgepeapfninmeaaPax3
set_option linter.unusedVariables false
set_option linter.unusedSimpArgs false
namespace Go.Proofs.Ytgepeapfninmeaa.Pure
open Go.RowKit Go.Proofs.Ytgepeapfninmeaa.Pa Go.Proofs.YtgepeapfninmeaaW.PrintWords Go.Proofs.YtgepeapfninmeaaW.PrintLast Go.Proofs.YtgepeapfninmeaaW.PrintMore Go.Proofs.Ytgepeapfninmeaa.Gv Go.Proofs.Ytgepeapfninmeaa.Dg
theorem evI {α : Type} {c : Prop} [Decidable c] {A B : Nat → Option α} {r : α} (h : c) (k : Ev A r) : Ev (fun n => if c then A n else B n) r := Ev.congr (fun _ => if_pos h) k
theorem evN {α : Type} {c : Prop} [Decidable c] {A B : Nat → Option α} {r : α} (h : ¬ c) (k : Ev B r) : Ev (fun n => if c then A n else B n) r := Ev.congr (fun _ => if_neg h) k
theorem w64 {x : Int} (h0 : -9223372036854775808 ≤ x) (h1 : x < 9223372036854775808) : wrap64 x = x := by unfold wrap64; omega
theorem dbl {j : Nat} (h : 2 ^ j < 1000) : wrap64 (2 * ((2 ^ j : Nat) : Int)) = ((2 ^ (j + 1) : Nat) : Int) := by
  rw [Nat.pow_succ]
  generalize 2 ^ j = P at *
  exact (w64 (by omega) (by omega)).trans (by omega)
theorem tdiv2 (m : Nat) : Int.tdiv (m : Int) 2 = ((m / 2 : Nat) : Int) := rfl
theorem tmod2 (m : Nat) : Int.tmod (m : Int) 2 = ((m % 2 : Nat) : Int) := rfl
theorem w64n (x : Nat) (h : x ≤ 9223372036854775807) : wrap64 (x : Int) = (x : Int) := w64 (by omega) (by omega)
theorem rd_some {l : List ByteArray} {i : Nat} {s : ByteArray} (h : l[i]? = some s) : rdOf ByteArray.empty l (i : Int) = s := by
  simp [rdOf, List.getD_eq_getElem?_getD, h]
theorem get_some {α : Type} {l : List α} {i : Nat} (h : i < l.length) : ∃ s, l[i]? = some s := ⟨l[i], List.getElem?_eq_getElem h⟩
/-- The first forty bytes. -/
def cut40 (s : ByteArray) : ByteArray := s.extract 0 (min s.size 40)
def few20 (l : List ByteArray) : List ByteArray := (l.take 20).map cut40
theorem few20_len (l : List ByteArray) : (few20 l).length ≤ 20 := by simp [few20]; omega
theorem few20_mem (l : List ByteArray) : ∀ s ∈ few20 l, s.size ≤ 40 := by
  intro s hs
  simp only [few20, List.mem_map] at hs
  obtain ⟨t, _, rfl⟩ := hs
  simp [cut40, ByteArray.size_extract]
  omega
theorem few_loop (l : List ByteArray) (hl : l.length ≤ 9223372036854775807) (d : Nat) : ∀ i : Nat, 20 - i = d → i ≤ 20 → i ≤ l.length →
    Ev (fun k => abugidalaw03_few.l0 k l ((l.take i).map cut40) i) (few20 l) := by
  induction d with
  | zero =>
    intro i hd h20 hi
    obtain rfl : i = 20 := by omega
    refine Ev.step (fun k => abugidalaw03_few.l0.eq_2 ..) ?_
    by_cases h : ((20 : Nat) : Int) < (l.length : Int)
    · refine evI h ?_
      refine evN (by omega) ?_
      exact Ev.now _
    · refine evN h ?_
      exact Ev.now _
  | succ d ih =>
    intro i hd h20 hi
    refine Ev.step (fun k => abugidalaw03_few.l0.eq_2 ..) ?_
    by_cases h : (i : Int) < (l.length : Int)
    · obtain ⟨s, hs⟩ := get_some (l := l) (i := i) (by omega)
      have hm : mn (s.size : Int) 40 = ((min s.size 40 : Nat) : Int) := by unfold mn; split <;> omega
      have ht : (l.take (i + 1)).map cut40 = (l.take i).map cut40 ++ [cut40 s] := by
        rw [List.take_add_one, hs]; simp
      refine evI h ?_
      refine evI (by omega) ?_
      refine evI (by omega) ?_
      rw [rd_some hs, hm]
      refine evI (by omega) ?_
      refine evI (by omega) ?_
      refine evI (by simp; omega) ?_
      rw [show wrap64 ((i : Int) + 1) = ((i + 1 : Nat) : Int) from w64 (by omega) (by omega)]
      have := ih (i + 1) (by omega) (by omega) (by omega)
      rw [ht] at this
      exact this
    · refine evN h ?_
      have e1 : l.take i = l.take 20 := by rw [List.take_of_length_le (by omega), List.take_of_length_le (by omega)]
      rw [e1]
      exact Ev.now _
theorem few_ev (l : List ByteArray) (hl : l.length ≤ 9223372036854775807) : Ev (fun k => abugidalaw03_few.f k l) (few20 l) := few_loop l hl 20 0 rfl (by omega) (by omega)
theorem Same_loop (a : List ByteArray) (ha : a.length ≤ 9223372036854775807) (d : Nat) : ∀ i : Nat, a.length - i = d → i ≤ a.length → Ev (fun k => abugidaref03_Same.l0 k a a i) true := by
  induction d with
  | zero =>
    intro i hd hi
    refine Ev.step (fun k => abugidaref03_Same.l0.eq_2 ..) ?_
    refine evN (by omega) ?_
    exact Ev.now _
  | succ d ih =>
    intro i hd hi
    refine Ev.step (fun k => abugidaref03_Same.l0.eq_2 ..) ?_
    refine evI (by omega) ?_
    refine evI (by omega) ?_
    refine evI (by omega) ?_
    refine evI rfl ?_
    rw [show wrap64 ((i : Int) + 1) = ((i + 1 : Nat) : Int) from w64 (by omega) (by omega)]
    exact ih (i + 1) (by omega) (by omega)
theorem Same_ev (a : List ByteArray) (ha : a.length ≤ 9223372036854775807) : Ev (fun k => abugidaref03_Same.f k a a) true := by
  refine Ev.congr (fun k => by unfold abugidaref03_Same.f; exact if_pos rfl) ?_
  exact Same_loop a ha a.length 0 (by omega) (by omega)
theorem Pair_ev (a b : ByteArray) (ha : a.size ≤ 4611686018427387904) (hb : b.size ≤ 4611686018427387000) : Ev (fun k => abugidaref03_Pair.f k a b) (PairB a b) :=
  ⟨a.size + b.size + 6, fun k hk => ref_Pair a b ha hb k (by omega)⟩
theorem level_loop (r : List ByteArray) (hl : r.length ≤ 1099511627776) (hs : ∀ s ∈ r, s.size ≤ 9000) (d : Nat) : ∀ j : Nat, r.length / 2 - j = d → j ≤ r.length / 2 →
    Ev (fun k => abugidaref03_level.l0 k r ((above r).take j) ((2 * j : Nat) : Int)) (above r) := by
  induction d with
  | zero =>
    intro j hd hj
    refine Ev.step (fun k => abugidaref03_level.l0.eq_2 ..) ?_
    rw [show wrap64 (((2 * j : Nat) : Int) + 1) = ((2 * j + 1 : Nat) : Int) from w64 (by omega) (by omega)]
    refine evN (by omega) ?_
    rw [List.take_of_length_le (by rw [above_len]; omega)]
    exact Ev.now _
  | succ d ih =>
    intro j hd hj
    refine Ev.step (fun k => abugidaref03_level.l0.eq_2 ..) ?_
    rw [show wrap64 (((2 * j : Nat) : Int) + 1) = ((2 * j + 1 : Nat) : Int) from w64 (by omega) (by omega)]
    obtain ⟨a, ha⟩ := get_some (l := r) (i := 2 * j) (by omega)
    obtain ⟨b, hb⟩ := get_some (l := r) (i := 2 * j + 1) (by omega)
    refine evI (by omega) ?_
    refine evI (by omega) ?_
    refine evI (by omega) ?_
    refine evI (by omega) ?_
    rw [rd_some ha, rd_some hb]
    refine Ev.bind (Pair_ev a b (Nat.le_trans (hs a (List.mem_of_getElem? ha)) (by omega)) (Nat.le_trans (hs b (List.mem_of_getElem? hb)) (by omega))) ?_
    refine evI (by rw [List.length_take, above_len]; omega) ?_
    rw [show wrap64 (((2 * j : Nat) : Int) + 2) = ((2 * (j + 1) : Nat) : Int) from (w64 (by omega) (by omega)).trans (by omega)]
    have := ih (j + 1) (by omega) (by omega)
    rw [List.take_add_one, above_get r j a b (by omega) ha hb] at this
    exact this
theorem level_ev (r : List ByteArray) (hl : r.length ≤ 1099511627776) (hs : ∀ s ∈ r, s.size ≤ 9000) : Ev (fun k => abugidaref03_level.f k r) (above r) :=
  level_loop r hl hs (r.length / 2) 0 (by omega) (by omega)
/-- The levels of a list. -/
def LevsF (l : List ByteArray) : List (List ByteArray) := (List.range (hof l.length + 1)).map (lev (fill l (2 ^ hof l.length)))
theorem above_mem (r : List ByteArray) : ∀ s ∈ above r, s.size = 8 := by
  intro s hs
  simp only [above, List.mem_map] at hs
  obtain ⟨i, _, rfl⟩ := hs
  exact PairB_len _ _
theorem lev_mem (r : List ByteArray) (h : ∀ s ∈ r, s.size ≤ 9000) : ∀ k, ∀ s ∈ lev r k, s.size ≤ 9000
  | 0 => h
  | k + 1 => fun s hs => by rw [above_mem _ s hs]; omega
theorem fill_mem (l : List ByteArray) (m : Nat) (h : ∀ s ∈ l, s.size ≤ 9000) : ∀ s ∈ fill l m, s.size ≤ 9000 := by
  intro s hs
  simp only [fill, List.mem_append, List.mem_replicate] at hs
  rcases hs with hs | ⟨_, rfl⟩
  · exact h s hs
  · decide
theorem lt_hof {n j : Nat} (hj : j ≤ hof n) : 2 ^ j < n ↔ j < hof n := by
  have hu := up_hof n
  constructor
  · intro h
    rcases Nat.lt_or_ge j (hof n) with h' | h'
    · exact h'
    · have : j = hof n := by omega
      subst this
      have := hu.2.1
      omega
  · intro h
    rcases hu.2.2 with h2 | h2
    · have := Nat.one_lt_two_pow (n := hof n) (by omega)
      omega
    · have := Nat.pow_le_pow_right (n := 2) (by omega) (show j + 1 ≤ hof n by omega)
      rw [Nat.pow_succ] at this
      omega
theorem hof_small {n : Nat} (hn : n ≤ 32) : hof n ≤ 5 := by
  rcases Nat.lt_or_ge 5 (hof n) with h | h
  · have := (lt_hof (n := n) (j := 5) (by omega)).2 h
    omega
  · exact h
theorem lev_len' (l : List ByteArray) {k : Nat} (hk : k ≤ hof l.length) : (lev (fill l (2 ^ hof l.length)) k).length = 2 ^ (hof l.length - k) :=
  lev_len l _ (up_hof _).2.1 k hk
theorem Levels_l2 (l : List ByteArray) (hl : l.length ≤ 32) (hs : ∀ s ∈ l, s.size ≤ 9000) (d : Nat) : ∀ j : Nat, hof l.length - j = d → j ≤ hof l.length →
    Ev (fun k => abugidaref03_Levels.l2 k ((List.range (j + 1)).map (lev (fill l (2 ^ hof l.length))))) (LevsF l) := by
  have h5 := hof_small hl
  have hlast : ∀ j, rd_L1 ((List.range (j + 1)).map (lev (fill l (2 ^ hof l.length)))) (j : Int) = lev (fill l (2 ^ hof l.length)) j := by
    intro j; simp [rd_L1, List.getD_eq_getElem?_getD]
  induction d with
  | zero =>
    intro j hd hj
    obtain rfl : j = hof l.length := by omega
    refine Ev.step (fun k => abugidaref03_Levels.l2.eq_2 ..) ?_
    rw [show wrap64 ((((List.range (hof l.length + 1)).map (lev (fill l (2 ^ hof l.length)))).length : Int) - 1) = ((hof l.length : Nat) : Int) from (w64 (by simp <;> omega) (by simp <;> omega)).trans (by simp)]
    refine evI (by omega) ?_
    refine evI (by simp; omega) ?_
    rw [hlast, lev_len' l hj]
    refine evN (by simp) ?_
    exact Ev.now _
  | succ d ih =>
    intro j hd hj
    refine Ev.step (fun k => abugidaref03_Levels.l2.eq_2 ..) ?_
    rw [show wrap64 ((((List.range (j + 1)).map (lev (fill l (2 ^ hof l.length)))).length : Int) - 1) = ((j : Nat) : Int) from (w64 (by simp <;> omega) (by simp <;> omega)).trans (by simp)]
    have hp : 1 < 2 ^ (hof l.length - j) := Nat.one_lt_two_pow (by omega)
    have hq : 2 ^ (hof l.length - j) ≤ 2 ^ 5 := Nat.pow_le_pow_right (by omega) (by omega)
    refine evI (by omega) ?_
    refine evI (by simp; omega) ?_
    rw [hlast, lev_len' l hj]
    refine evI (by omega) ?_
    refine Ev.bind (level_ev _ (by rw [lev_len' l hj]; omega) (lev_mem _ (fill_mem l _ hs) j)) ?_
    refine evI (by simp; omega) ?_
    have := ih (j + 1) (by omega) (by omega)
    rw [List.range_succ, List.map_append] at this
    exact this
theorem Levels_l1 (l : List ByteArray) (hl : l.length ≤ 32) (hs : ∀ s ∈ l, s.size ≤ 9000) (d : Nat) : ∀ m : Nat, 2 ^ hof l.length - l.length - m = d → l.length + m ≤ 2 ^ hof l.length →
    Ev (fun k => abugidaref03_Levels.l1 k ((2 ^ hof l.length : Nat) : Int) (l ++ List.replicate m ⟨#[]⟩)) (LevsF l) := by
  have h5 := hof_small hl
  have hq : 2 ^ hof l.length ≤ 2 ^ 5 := Nat.pow_le_pow_right (by omega) (by omega)
  induction d with
  | zero =>
    intro m hd hm
    refine Ev.step (fun k => abugidaref03_Levels.l1.eq_2 ..) ?_
    refine evN (by rw [List.length_append, List.length_replicate]; omega) ?_
    have e : l ++ List.replicate m ⟨#[]⟩ = fill l (2 ^ hof l.length) := by unfold fill; rw [show m = 2 ^ hof l.length - l.length by omega]
    rw [e]
    exact Levels_l2 l hl hs (hof l.length) 0 (by omega) (by omega)
  | succ d ih =>
    intro m hd hm
    refine Ev.step (fun k => abugidaref03_Levels.l1.eq_2 ..) ?_
    refine evI (by rw [List.length_append, List.length_replicate]; omega) ?_
    refine evI (by rw [List.length_append, List.length_replicate]; omega) ?_
    have := ih (m + 1) (by omega) (by omega)
    rw [List.replicate_succ', ← List.append_assoc] at this
    exact this
theorem Levels_l0 (l : List ByteArray) (hl : l.length ≤ 32) (hs : ∀ s ∈ l, s.size ≤ 9000) (d : Nat) : ∀ j : Nat, hof l.length - j = d → j ≤ hof l.length →
    Ev (fun k => abugidaref03_Levels.l0 k l ((2 ^ j : Nat) : Int)) (LevsF l) := by
  have h5 := hof_small hl
  induction d with
  | zero =>
    intro j hd hj
    obtain rfl : j = hof l.length := by omega
    have hu := (up_hof l.length).2.1
    have hq : 2 ^ hof l.length ≤ 2 ^ 5 := Nat.pow_le_pow_right (by omega) (by omega)
    refine Ev.step (fun k => abugidaref03_Levels.l0.eq_2 ..) ?_
    refine evN (by omega) ?_
    refine Ev.bind (Ev.now _) ?_
    refine evI (by simp; omega) ?_
    have := Levels_l1 l hl hs _ 0 rfl (by omega)
    simpa using this
  | succ d ih =>
    intro j hd hj
    have hlt := (lt_hof (n := l.length) hj).2 (by omega)
    refine Ev.step (fun k => abugidaref03_Levels.l0.eq_2 ..) ?_
    refine evI (by omega) ?_
    have := ih (j + 1) (by omega) (by omega)
    rw [show wrap64 (2 * ((2 ^ j : Nat) : Int)) = ((2 ^ (j + 1) : Nat) : Int) from dbl (by omega)]
    exact this
theorem Levels_ev (l : List ByteArray) (hl : l.length ≤ 32) (hs : ∀ s ∈ l, s.size ≤ 9000) : Ev (fun k => abugidaref03_Levels.f k l) (LevsF l) :=
  Levels_l0 l hl hs (hof l.length) 0 (by omega) (by omega)
theorem LevsF_get (l : List ByteArray) {j : Nat} (h : j ≤ hof l.length) : rd_L1 (LevsF l) (j : Int) = lev (fill l (2 ^ hof l.length)) j := by
  simp [rd_L1, LevsF, List.getD_eq_getElem?_getD, show j < hof l.length + 1 by omega]
theorem LevsF_len (l : List ByteArray) : (LevsF l).length = hof l.length + 1 := by simp [LevsF]
theorem nb_odd {m : Nat} (h : m % 2 = 1) : nb m = m - 1 := by
  unfold nb
  have e : m ^^^ 1 = 2 * (m / 2) := by
    apply Nat.eq_of_testBit_eq
    intro i
    cases i with
    | zero => simp [Nat.testBit_xor, h]
    | succ i => simp [Nat.testBit_succ, Nat.xor_div_two]
  omega
theorem nb_even {m : Nat} (h : m % 2 = 0) : nb m = m + 1 := by
  unfold nb
  have e : m ^^^ 1 = 2 * (m / 2) + 1 := by
    apply Nat.eq_of_testBit_eq
    intro i
    cases i with
    | zero => simp [Nat.testBit_xor, h]
    | succ i =>
      rw [Nat.testBit_succ, Nat.testBit_succ, Nat.xor_div_two, show (2 * (m / 2) + 1) / 2 = m / 2 by omega]
      simp
  omega
theorem wm1 (M : Nat) (h : M % 2 = 1) (hM : M ≤ 1000) : wrap64 ((M : Int) - 1) = ((nb M : Nat) : Int) := by
  have e := nb_odd h
  exact (w64 (by omega) (by omega)).trans (by omega)
theorem wp1 (M : Nat) (h : M % 2 = 0) (hM : M ≤ 1000) : wrap64 ((M : Int) + 1) = ((nb M : Nat) : Int) := by
  have e := nb_even h
  exact (w64 (by omega) (by omega)).trans (by omega)
theorem Proof_loop (l : List ByteArray) (hl : l.length ≤ 32) (i : Nat) (hi : i < l.length) (d : Nat) : ∀ j : Nat, hof l.length - j = d → j ≤ hof l.length →
    Ev (fun k => abugidaref03_Proof.l0 k ((i / 2 ^ j : Nat) : Int) (LevsF l) ((List.range j).map fun k => (lev (fill l (2 ^ hof l.length)) k).getD (nb (i / 2 ^ k)) ⟨#[]⟩) (j : Int)) (ProofL l (hof l.length) i) := by
  have h5 := hof_small hl
  induction d with
  | zero =>
    intro j hd hj
    obtain rfl : j = hof l.length := by omega
    refine Ev.step (fun k => abugidaref03_Proof.l0.eq_2 ..) ?_
    rw [show wrap64 (((hof l.length : Nat) : Int) + 1) = ((hof l.length + 1 : Nat) : Int) from w64 (by omega) (by omega), LevsF_len]
    refine evN (by omega) ?_
    exact Ev.now _
  | succ d ih =>
    intro j hd hj
    have hdl : i / 2 ^ j ≤ i := Nat.div_le_self _ _
    have hq : 2 ^ (hof l.length - j) ≤ 2 ^ 5 := Nat.pow_le_pow_right (by omega) (by omega)
    have hp : 1 < 2 ^ (hof l.length - j) := Nat.one_lt_two_pow (by omega)
    have hnb := nb_lt (i := i) (k := j) (h := hof l.length) rfl hp (by have := (up_hof l.length).2.1; omega) hj
    have hd2 : i / 2 ^ j / 2 = i / 2 ^ (j + 1) := by rw [Nat.div_div_eq_div_mul, Nat.pow_succ]
    have ih' := ih (j + 1) (by omega) (by omega)
    rw [List.range_succ, List.map_append] at ih'
    have hL := lev_len' l hj
    refine Ev.step (fun k => abugidaref03_Proof.l0.eq_2 ..) ?_
    rw [show wrap64 (((j : Nat) : Int) + 1) = ((j + 1 : Nat) : Int) from w64 (by omega) (by omega), LevsF_len, LevsF_get l hj]
    refine evI (by omega) ?_
    rw [show wrap64 (Int.tdiv ((i / 2 ^ j : Nat) : Int) 2) = ((i / 2 ^ (j + 1) : Nat) : Int) from by rw [tdiv2, hd2]; exact w64n _ (by rw [← hd2]; omega)]
    rw [tmod2]
    by_cases hodd : (i / 2 ^ j) % 2 = 1
    · have e := nb_odd hodd
      rw [show wrap64 (((i / 2 ^ j : Nat) : Int) - 1) = ((nb (i / 2 ^ j) : Nat) : Int) from wm1 _ hodd (by omega)]
      refine evI (by omega) ?_
      refine evI (by omega) ?_
      refine evI (by omega) ?_
      refine evI (by omega) ?_
      refine evI (by omega) ?_
      refine evI (by simp; omega) ?_
      exact ih'
    · have e := nb_even (m := i / 2 ^ j) (by omega)
      rw [show wrap64 (((i / 2 ^ j : Nat) : Int) + 1) = ((nb (i / 2 ^ j) : Nat) : Int) from wp1 _ (by omega) (by omega)]
      refine evN (by omega) ?_
      refine evI (by omega) ?_
      refine evI (by omega) ?_
      refine evI (by omega) ?_
      refine evI (by omega) ?_
      refine evI (by simp; omega) ?_
      exact ih'
theorem Proof_j0_t (l : List ByteArray) (i : Int) : Ev (fun k => abugidaref03_Proof.j0 k l i true) [] :=
  Ev.step (fun k => abugidaref03_Proof.j0.eq_2 ..) (evI rfl (Ev.now _))
theorem Proof_ev (l : List ByteArray) (hl : l.length ≤ 32) (hs : ∀ s ∈ l, s.size ≤ 9000) (i : Int) : Ev (fun k => abugidaref03_Proof.f k l i) (ProofF l i) := by
  unfold abugidaref03_Proof.f ProofF
  by_cases h0 : i < 0
  · rw [if_pos (.inl h0)]
    refine evI h0 ?_
    exact Proof_j0_t l i
  · refine evN h0 ?_
    by_cases h1 : (l.length : Int) ≤ i
    · rw [if_pos (.inr h1), show decide (i ≥ (l.length : Int)) = true from decide_eq_true h1]
      exact Proof_j0_t l i
    · rw [if_neg (by omega), show decide (i ≥ (l.length : Int)) = false from decide_eq_false h1]
      refine Ev.step (fun k => abugidaref03_Proof.j0.eq_2 ..) ?_
      refine evN (by decide) ?_
      refine Ev.bind (Levels_ev l hl hs) ?_
      have := Proof_loop l hl i.toNat (by omega) _ 0 rfl (by omega)
      rw [Nat.pow_zero, Nat.div_one, show ((i.toNat : Nat) : Int) = i by omega] at this
      exact this
theorem strOfNums_one (n : Int) : (strOfNums [n]).size = 1 := by rw [strOfNums_size]; rfl
theorem top_ev (h : Int) (t : ByteArray) (ht : t.size ≤ 4611686018427387904) : Ev (fun k => abugidaref03_top.f k h t) (RootB h t) := by
  unfold abugidaref03_top.f
  have h1 : ((⟨#[2]⟩ : ByteArray) ++ strOfNums [h % 256]).size = 2 := by rw [ByteArray.size_append, strOfNums_one]; rfl
  have h2 : (((⟨#[2]⟩ : ByteArray) ++ strOfNums [h % 256]) ++ t).size = 2 + t.size := by rw [ByteArray.size_append, h1]
  refine Ev.bind (Ev.now _) ?_
  refine evI (by rw [strOfNums_one]; decide) ?_
  refine evI (by rw [h1]; omega) ?_
  refine Ev.bind (a := RootB h t) ⟨t.size + 3, fun k hk => ref_Of _ (by rw [h2]; omega) k (by rw [h2]; omega)⟩ (Ev.now _)
theorem Root_ev (l : List ByteArray) (hl : l.length ≤ 32) (hs : ∀ s ∈ l, s.size ≤ 9000) : Ev (fun k => abugidaref03_Root.f k l) (RootF l) := by
  unfold abugidaref03_Root.f
  have h5 := hof_small hl
  refine Ev.bind (Levels_ev l hl hs) ?_
  have hL := lev_len' l (Nat.le_refl (hof l.length))
  rw [Nat.sub_self] at hL
  rw [LevsF_len, show wrap64 (((hof l.length + 1 : Nat) : Int) - 1) = ((hof l.length : Nat) : Int) from (w64 (by omega) (by omega)).trans (by omega), LevsF_get l (Nat.le_refl _)]
  obtain ⟨t, ht⟩ := get_some (l := lev (fill l (2 ^ hof l.length)) (hof l.length)) (i := 0) (by omega)
  refine evI (by omega) ?_
  refine evI (by omega) ?_
  refine evI (by omega) ?_
  rw [show rdOf ByteArray.empty (lev (fill l (2 ^ hof l.length)) (hof l.length)) 0 = t from rd_some ht]
  have e : RootF l = RootB (hof l.length) t := by unfold RootF; rw [List.getD_eq_getElem?_getD, ht]; rfl
  rw [e]
  exact Ev.bind (top_ev _ t (Nat.le_trans (lev_mem _ (fill_mem l _ hs) _ t (List.mem_of_getElem? ht)) (by omega))) (Ev.now _)
theorem small_of {l : List ByteArray} (hs : ∀ s ∈ l, s.size ≤ 9000) : small l = true := List.all_eq_true.2 fun s h => decide_eq_true (Nat.le_trans (hs s h) (by omega))
theorem root_some (l : List ByteArray) (hl : l.length ≤ 32) (hs : ∀ s ∈ l, s.size ≤ 9000) : digest_Root.f l = some (RootF l) := if_pos ⟨by omega, small_of hs⟩
theorem proof_some (l : List ByteArray) (hl : l.length ≤ 32) (hs : ∀ s ∈ l, s.size ≤ 9000) (i : Int) : digest_Proof.f l i = some (ProofF l i) := if_pos ⟨by omega, small_of hs⟩
theorem sanity_ev : Ev (fun k => abugidalaw03_sanity.f k) true := ⟨10, fun k hk => by obtain ⟨d, rfl⟩ := Nat.exists_eq_add_of_le hk; exact sanity_more d⟩
theorem ProofF_len (l : List ByteArray) (hl : l.length ≤ 32) (i : Int) : (ProofF l i).length ≤ 5 := by
  have := hof_small hl
  unfold ProofF
  split
  · simp
  · simp [ProofL]; omega
end Go.Proofs.Ytgepeapfninmeaa.Pure
