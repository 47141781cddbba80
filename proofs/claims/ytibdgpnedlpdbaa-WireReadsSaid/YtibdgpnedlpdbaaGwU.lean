/- Both readers read the same number. -/
import Derived.Test.YtibdgpnedlpdbaaGwT
import Derived.Test.YtibdgpnedlpdbaaPureWireCut
set_option linter.unusedVariables false
set_option linter.unusedSimpArgs false
namespace Go.Proofs.Ytibdgpnedlpdbaa.Pure
open Go.RowKit Go.Proofs.Ytibdgpnedlpdbaa.Pb Go.Proofs.YtibdgpnedlpdbaaW.PrintWords Go.Proofs.YtibdgpnedlpdbaaW.PrintLast Go.Proofs.YtibdgpnedlpdbaaW.PrintMore Go.Proofs.Ytibdgpnedlpdbaa.Gw
/-- A byte, as a number. -/
def bn (s : ByteArray) (j : Nat) : Nat := (bt s (j : Int)).toNat
theorem bt_bn (s : ByteArray) (j : Nat) : bt s (j : Int) = (bn s j : Int) := by
  unfold bn
  have := bt_nonneg s (j : Int)
  omega
theorem bt_lt (s : ByteArray) (j : Int) : bt s j < 256 := by
  unfold bt
  split
  · rename_i h
    have := (s[j.toNat]'h).toNat_lt
    omega
  · omega
theorem bn_lt (s : ByteArray) (j : Nat) : bn s j < 256 := by
  have := bt_lt s (j : Int)
  have := bt_bn s j
  omega
def byL (s : ByteArray) (i : Nat) : Nat → List Nat
  | 0 => []
  | n + 1 => bn s i :: byL s (i + 1) n
theorem byL_len (s : ByteArray) : ∀ n i, (byL s i n).length = n
  | 0, _ => rfl
  | n + 1, i => by simp [byL, byL_len s n (i + 1)]
theorem byL_get (s : ByteArray) : ∀ n i j, j < n → (byL s i n)[j]? = some (bn s (i + j))
  | 0, _, j, h => by omega
  | n + 1, i, 0, _ => rfl
  | n + 1, i, j + 1, h => by
    have := byL_get s n (i + 1) j (by omega)
    simp only [byL, List.getElem?_cons_succ, this]
    rw [show i + 1 + j = i + (j + 1) by omega]
theorem byL_lt (s : ByteArray) (n i : Nat) : ∀ m ∈ byL s i n, m < 256 := by
  intro m hm
  obtain ⟨j, hj, he⟩ := List.mem_iff_getElem.1 hm
  have hj' : j < n := by rw [byL_len] at hj; exact hj
  have := byL_get s n i j hj'
  rw [List.getElem?_eq_getElem hj, he] at this
  injection this with this
  rw [this]
  exact bn_lt s _
/-- What the bytes say. -/
def valL : List Nat → Nat
  | [] => 0
  | b :: l => b % 128 + 128 * valL l
theorem valL_lt : ∀ l : List Nat, valL l < 128 ^ l.length
  | [] => by simp [valL]
  | b :: l => by
    have := valL_lt l
    simp only [valL, List.length_cons, Nat.pow_succ]
    omega
theorem valL_snoc : ∀ (l : List Nat) (b : Nat), valL (l ++ [b]) = valL l + b % 128 * 128 ^ l.length
  | [], b => by simp [valL]
  | a :: l, b => by
    simp only [List.cons_append, valL, valL_snoc l b, List.length_cons, Nat.pow_succ]
    rw [Nat.mul_add, Nat.add_assoc, Nat.mul_comm 128 (b % 128 * 128 ^ l.length), Nat.mul_assoc (b % 128)]
theorem byL_snoc (s : ByteArray) : ∀ n i, byL s i (n + 1) = byL s i n ++ [bn s (i + n)]
  | 0, i => rfl
  | n + 1, i => by
    have := byL_snoc s n (i + 1)
    rw [byL, this, byL, List.cons_append]
    rw [show i + 1 + n = i + (n + 1) by omega]
theorem valL_by (s : ByteArray) (n : Nat) : valL (byL s 0 (n + 1)) = valL (byL s 0 n) + bn s n % 128 * 128 ^ n := by
  rw [byL_snoc, valL_snoc, byL_len, Nat.zero_add]
/-- The bytes, but for the first ones, of a number. -/
def Cn : List Nat → Prop
  | [] => False
  | [b] => 0 < b ∧ b < 128
  | b :: c :: l => (128 ≤ b ∧ b < 256) ∧ Cn (c :: l)
theorem vb_val : ∀ L, Cn L → vb (valL L) = L ∧ 0 < valL L
  | [], h => h.elim
  | [b], h => by
    simp only [Cn] at h
    have e : valL [b] = b := by simp [valL]; omega
    rw [e]
    exact ⟨vb_lo h.2, h.1⟩
  | b :: c :: l, h => by
    simp only [Cn] at h
    obtain ⟨h1, h2⟩ := h
    obtain ⟨h3, h4⟩ := vb_val (c :: l) h2
    have e : valL (b :: c :: l) = b % 128 + 128 * valL (c :: l) := rfl
    rw [e]
    refine ⟨?_, by omega⟩
    rw [vb_hi (by omega), show (b % 128 + 128 * valL (c :: l)) / 128 = valL (c :: l) by omega, h3, show (b % 128 + 128 * valL (c :: l)) % 128 + 128 = b by omega]
theorem Cn_by (s : ByteArray) : ∀ n i, (∀ j, j < n → 128 ≤ bn s (i + j)) → 0 < bn s (i + n) → bn s (i + n) < 128 → Cn (byL s i (n + 1))
  | 0, i, _, h1, h2 => ⟨h1, h2⟩
  | n + 1, i, h, h1, h2 => by
    have ih := Cn_by s n (i + 1) (fun j hj => by have := h (j + 1) (by omega); rwa [show i + 1 + j = i + (j + 1) by omega]) (by rwa [show i + 1 + n = i + (n + 1) by omega]) (by rwa [show i + 1 + n = i + (n + 1) by omega])
    exact ⟨⟨h 0 (by omega), bn_lt s _⟩, ih⟩
theorem code_val (s : ByteArray) : ∀ (k c : Nat), c * 128 ^ k + valL (byL s 0 k) < 18446744073709551616 → codeAt s 0 k (c : Int) = ((c * 128 ^ k + valL (byL s 0 k) : Nat) : Int)
  | 0, c, _ => by simp [codeAt, byL, valL]
  | k + 1, c, h => by
    rw [valL_by, Nat.pow_succ] at h ⊢
    have hb := bn_lt s k
    have e1 : (c * 128 + bn s k % 128) * 128 ^ k = c * (128 ^ k * 128) + bn s k % 128 * 128 ^ k := by
      rw [Nat.add_mul, Nat.mul_assoc, Nat.mul_comm 128 (128 ^ k)]
    have hp : 0 < 128 ^ k := Nat.pow_pos (by omega)
    have hle : c * 128 + bn s k % 128 ≤ (c * 128 + bn s k % 128) * 128 ^ k := Nat.le_mul_of_pos_right _ hp
    unfold codeAt
    rw [Nat.zero_add, bt_bn, wu64 (x := (c : Int) * 128) (by omega) (by omega), wu64 (x := (bn s k : Int) % 128) (by omega) (by omega), wu64 (by omega) (by omega),
      show (c : Int) * 128 + (bn s k : Int) % 128 = ((c * 128 + bn s k % 128 : Nat) : Int) by omega, code_val s k (c * 128 + bn s k % 128) (by omega), e1]
    congr 1
    omega
theorem zig_out (c : Nat) (h : c < 18446744073709551616) : zig (outF (c : Int)) = c := by
  unfold outF zig
  split <;> split <;> omega
theorem out_range (c : Int) (h : 0 ≤ c ∧ c < 18446744073709551616) : -9223372036854775808 ≤ outF c ∧ outF c ≤ 9223372036854775807 := by
  unfold outF
  split <;> omega
theorem cnt_spec (s : ByteArray) : ∀ f n, (∀ j, j < n → j < s.size ∧ 128 ≤ bn s j) →
    (∀ j, j < cntF s 0 f n → j < s.size ∧ 128 ≤ bn s j) ∧ (cntF s 0 f n = n + f ∨ s.size ≤ cntF s 0 f n ∨ bn s (cntF s 0 f n) < 128)
  | 0, n, h => ⟨h, .inl rfl⟩
  | f + 1, n, h => by
    unfold cntF
    rw [Nat.sub_zero, Nat.zero_add, bt_bn]
    by_cases c : n < s.size ∧ (128 : Int) ≤ (bn s n : Int)
    · rw [if_pos c]
      have := cnt_spec s f (n + 1) (fun j hj => by
        rcases Nat.lt_or_ge j n with h1 | h1
        · exact h j h1
        · obtain rfl : j = n := by omega
          exact ⟨c.1, by omega⟩)
      rw [show n + 1 + f = n + (f + 1) by omega] at this
      exact this
    · rw [if_neg c]
      exact ⟨h, .inr (by omega)⟩
/-- The program refuses. -/
theorem prog_no (q : ByteArray) (m : Nat) (hm : m ≤ 10) (hms : m ≤ q.size) (hq : q.size ≤ 1000000000) (hb : ∀ j, j < m → 128 ≤ bn q j)
    (he : m = 10 ∨ m = q.size ∨ (bn q m < 128 ∧ (0 < m ∧ bn q m = 0 ∨ m = 9 ∧ 1 < bn q m))) (d : Nat) : ∀ (i : Nat) (x : Int), m - i = d → i ≤ m → Ev (fun k => wire_Reader_Int.l0 k x (i : Int) q false) (0, q, true) := by
  induction d with
  | zero =>
    intro i x hd hi
    obtain rfl : i = m := by omega
    refine Ev.step (fun k => wire_Reader_Int.l0.eq_2 ..) ?_
    refine Ev.bind (a := ((q.size : Int), q, false)) (Ev.now _) ?_
    rcases Nat.lt_or_ge i q.size with hlt | hge
    · refine evI (by show (i : Int) < (q.size : Int); omega) ?_
      rcases Nat.lt_or_ge i 10 with h10 | h10
      · rw [show decide ((i : Int) < 10) = true from decide_eq_true (by omega)]
        have he' : bn q i < 128 ∧ (0 < i ∧ bn q i = 0 ∨ i = 9 ∧ 1 < bn q i) := by omega
        refine Ev.step (fun k => wire_Reader_Int.j1.eq_2 ..) ?_
        refine evI rfl ?_
        refine evI (by omega) ?_
        refine evI (by show (i : Int) < (q.size : Int); omega) ?_
        refine evI (by rw [show wrap64 (7 * (i : Int)) = 7 * (i : Int) from w64 (by omega) (by omega)]; omega) ?_
        refine evN (by show ¬ bt q (i : Int) ≥ 128; rw [bt_bn]; omega) ?_
        refine evI (by omega) ?_
        have fin : ∀ (x y : Int), Ev (fun k => wire_Reader_Int.j2 k x y true q false) (0, q, true) := fun x y => by
          refine Ev.step (fun k => wire_Reader_Int.j2.eq_2 ..) ?_
          refine evI rfl ?_
          exact Ev.bind (a := (q, true)) (Ev.now _) (Ev.now _)
        by_cases hz : bn q i = 0
        · refine evI (by show bt q (i : Int) = 0; rw [bt_bn]; omega) ?_
          exact fin _ _
        · refine evN (by show ¬ bt q (i : Int) = 0; rw [bt_bn]; omega) ?_
          refine evI (by omega) ?_
          rw [show decide (bt q (i : Int) > 1) = true from decide_eq_true (by rw [bt_bn]; omega)]
          exact fin _ _
      · rw [show decide ((i : Int) < 10) = false from decide_eq_false (by omega)]
        refine Ev.step (fun k => wire_Reader_Int.j1.eq_2 ..) ?_
        refine evN (by decide) ?_
        exact Ev.bind (a := (q, true)) (Ev.now _) (Ev.now _)
    · refine evN (by show ¬ (i : Int) < (q.size : Int); omega) ?_
      refine Ev.step (fun k => wire_Reader_Int.j1.eq_2 ..) ?_
      refine evN (by decide) ?_
      exact Ev.bind (a := (q, true)) (Ev.now _) (Ev.now _)
  | succ d ih =>
    intro i x hd hi
    refine Ev.step (fun k => wire_Reader_Int.l0.eq_2 ..) ?_
    refine Ev.bind (a := ((q.size : Int), q, false)) (Ev.now _) ?_
    refine evI (by show (i : Int) < (q.size : Int); omega) ?_
    rw [show decide ((i : Int) < 10) = true from decide_eq_true (by omega)]
    refine Ev.step (fun k => wire_Reader_Int.j1.eq_2 ..) ?_
    refine evI rfl ?_
    refine evI (by omega) ?_
    refine evI (by show (i : Int) < (q.size : Int); omega) ?_
    refine evI (by rw [show wrap64 (7 * (i : Int)) = 7 * (i : Int) from w64 (by omega) (by omega)]; omega) ?_
    refine evI (by show bt q (i : Int) ≥ 128; rw [bt_bn]; have := hb i (by omega); omega) ?_
    rw [show wrap64 ((i : Int) + 1) = ((i + 1 : Nat) : Int) from w64 (by omega) (by omega)]
    exact ih (i + 1) _ (by omega) (by omega)
theorem toList_loop (a : ByteArray) (d : Nat) : ∀ (i : Nat) (r : List UInt8), a.size - i = d → ByteArray.toList.loop a i r = r.reverse ++ a.data.toList.drop i := by
  induction d with
  | zero =>
    intro i r hd
    rw [ByteArray.toList.loop, if_neg (by omega), List.drop_of_length_le (by simp only [Array.length_toList]; exact Nat.sub_eq_zero_iff_le.1 hd)]
    simp
  | succ d ih =>
    intro i r hd
    have hi : i < a.data.size := by have : a.data.size = a.size := rfl; omega
    have e : a.data.toList.drop i = a.data[i] :: a.data.toList.drop (i + 1) := by rw [List.drop_eq_getElem_cons (by simpa using hi)]; rfl
    rw [ByteArray.toList.loop, if_pos (by omega), ih _ _ (by omega), e]
    simp [ByteArray.get!, getElem!_pos a.data i hi]
theorem toList_data (a : ByteArray) : a.toList = a.data.toList := by
  unfold ByteArray.toList
  rw [toList_loop a _ 0 [] rfl]
  simp
theorem ext_of_toList {a b : ByteArray} (h : a.toList = b.toList) : a = b := by
  rw [toList_data, toList_data] at h
  apply ByteArray.ext
  exact Array.toList_inj.1 h
theorem ext_bt {a b : ByteArray} (hs : a.size = b.size) (h : ∀ j : Nat, j < a.size → bt a (j : Int) = bt b (j : Int)) : a = b := by
  apply ByteArray.ext
  apply Array.ext
  · exact hs
  · intro i h1 h2
    have := h i h1
    rw [bt_get a i h1, bt_get b i h2] at this
    have h3 : (a[i]'h1).toNat = (b[i]'h2).toNat := by omega
    exact UInt8.toNat_inj.1 h3
theorem bt_ext (s : ByteArray) (a b j : Nat) (hj : j < b - a) (hb : b ≤ s.size) : bt (s.extract a b) (j : Int) = bt s ((a + j : Nat) : Int) := by
  have h1 : j < (s.extract a b).size := by rw [ByteArray.size_extract]; omega
  rw [bt_get _ j h1, bt_get s (a + j) (by omega)]
  have h2 : a + j < s.size := by omega
  have : (s.extract a b)[j]'h1 = s[a + j]'h2 := by
    show (s.extract a b).data[j]'h1 = s.data[a + j]'h2
    simp [ByteArray.data_extract]
  rw [this]
theorem size_ext (s : ByteArray) (n : Nat) (h : n ≤ s.size) : (s.extract n s.size).size = s.size - n := by rw [ByteArray.size_extract]; omega
theorem cnt_ext (s : ByteArray) (i : Nat) (hi : i ≤ s.size) : ∀ f n, cntF s i f n = cntF (s.extract i s.size) 0 f n
  | 0, n => rfl
  | f + 1, n => by
    unfold cntF
    rw [size_ext s i hi, Nat.sub_zero, cnt_ext s i hi f (n + 1), Nat.zero_add]
    by_cases h : n < s.size - i
    · rw [bt_ext s i s.size n h (Nat.le_refl _)]
    · rw [if_neg (fun c => h c.1), if_neg (fun c => h c.1)]
theorem code_ext (s : ByteArray) (i : Nat) (hi : i ≤ s.size) : ∀ m c, m ≤ s.size - i → codeAt s i m c = codeAt (s.extract i s.size) 0 m c
  | 0, c, _ => rfl
  | m + 1, c, h => by
    unfold codeAt
    rw [Nat.zero_add, bt_ext s i s.size m (by omega) (Nat.le_refl _)]
    exact code_ext s i hi m _ (by omega)
theorem ext_ext (s : ByteArray) (n k : Nat) (h : n + k ≤ s.size) : s.extract n (n + k) = (s.extract n s.size).extract 0 k := by
  refine ext_bt ?_ fun j hj => ?_
  · rw [ByteArray.size_extract, ByteArray.size_extract, size_ext s n (by omega)]; omega
  · rw [ByteArray.size_extract] at hj
    rw [bt_ext s n (n + k) j (by omega) h, bt_ext _ 0 k j (by omega) (by rw [size_ext s n (by omega)]; omega), Nat.zero_add, bt_ext s n s.size j (by omega) (Nat.le_refl _)]
theorem ext_rest (s : ByteArray) (n k : Nat) (h : n + k ≤ s.size) : (s.extract n s.size).extract k (s.extract n s.size).size = s.extract (n + k) s.size := by
  refine ext_bt ?_ fun j hj => ?_
  · simp only [ByteArray.size_extract]; omega
  · rw [ByteArray.size_extract, size_ext s n (by omega)] at hj
    rw [bt_ext _ k _ j (by rw [size_ext s n (by omega)]; omega) (Nat.le_refl _), bt_ext s n s.size (k + j) (by omega) (Nat.le_refl _), bt_ext s (n + k) s.size j (by omega) (Nat.le_refl _), Nat.add_assoc]
theorem Ev.unique {α : Type} {g : Nat → Option α} {a b : α} (h1 : Ev g a) (h2 : Ev g b) : a = b := by
  obtain ⟨n1, h1⟩ := h1
  obtain ⟨n2, h2⟩ := h2
  have e1 := h1 (max n1 n2) (by omega)
  have e2 := h2 (max n1 n2) (by omega)
  rw [e1] at e2
  injection e2
theorem nums_bt (l : List Nat) (h : ∀ m ∈ l, m < 256) (j m : Nat) (hj : l[j]? = some m) : bt (nums l) (j : Int) = (m : Int) := by
  have := nums_get l h ByteArray.empty j m hj
  rwa [ByteArray.append_empty] at this
/-- Where the program's reader stands beside the reference's. -/
def Sim (q : ByteArray) (b : Bool) (s : ByteArray) (i : Int) (b' : Bool) : Prop := b' = b ∧ (b = false → ∃ n : Nat, i = (n : Int) ∧ n ≤ s.size ∧ q = s.extract n s.size)
theorem Int_same (s : ByteArray) (hs : s.size ≤ 1000) (q : ByteArray) (b : Bool) (i : Int) (h : Sim q b s i b) :
    ∃ (x : Int) (q2 : ByteArray) (i2 : Int) (b2 : Bool), Ev (fun k => wire_Reader_Int.f k q b) (x, q2, b2) ∧ Ev (fun k => abugidaref02_Reader_Int.f k s i b) (x, s, i2, b2) ∧ Sim q2 b2 s i2 b2 ∧ (-9223372036854775808 ≤ x ∧ x ≤ 9223372036854775807) ∧ (b = true → b2 = true) ∧ (b2 = true → x = 0) := by
  cases b with
  | true => exact ⟨0, q, i, true, Int_bad q, Ev.congr (fun _ => if_pos rfl) (Ev.now _), ⟨rfl, fun h => by cases h⟩, by omega, fun _ => rfl, fun _ => rfl⟩
  | false =>
    obtain ⟨n, rfl, hn, rfl⟩ := h.2 rfl
    have hsz := size_ext s n hn
    have hce := cnt_ext s n hn 10 0
    have hcl := cntF_le (s.extract n s.size) 0 10 0
    obtain ⟨hb, hend⟩ := cnt_spec (s.extract n s.size) 10 0 (fun j hj => by omega)
    have hxe : ∀ m, m ≤ s.size - n → codeAt s n m 0 = codeAt (s.extract n s.size) 0 m 0 := fun m hm => code_ext s n hn m 0 hm
    have hee : ∀ k, n + k ≤ s.size → s.extract n (n + k) = (s.extract n s.size).extract 0 k := fun k hk => ext_ext s n k hk
    have her : ∀ k, n + k ≤ s.size → (s.extract n s.size).extract k (s.extract n s.size).size = s.extract (n + k) s.size := fun k hk => ext_rest s n k hk
    have hms : cntF (s.extract n s.size) 0 10 0 ≤ (s.extract n s.size).size := by
      rcases Nat.eq_zero_or_pos (cntF (s.extract n s.size) 0 10 0) with h0 | h0
      · omega
      · have := (hb (cntF (s.extract n s.size) 0 10 0 - 1) (by omega)).1; omega
    generalize hm : cntF (s.extract n s.size) 0 10 0 = m at *
    have hno : (m = 10 ∨ m = (s.extract n s.size).size ∨ (bn (s.extract n s.size) m < 128 ∧ (0 < m ∧ bn (s.extract n s.size) m = 0 ∨ m = 9 ∧ 1 < bn (s.extract n s.size) m))) → Ev (fun k => wire_Reader_Int.f k (s.extract n s.size) false) (0, s.extract n s.size, true) := fun he =>
      prog_no _ m (by omega) hms (by omega) (fun j hj => (hb j hj).2) he m 0 0 rfl (by omega)
    have hf : ∀ r, Ev (fun k => (if m = 10 ∨ s.size - n ≤ m then some (0, s, (n : Int), true) else (abugidaref02_Int.f k (outF (codeAt s n (m + 1) 0))).bind fun e => if e.toList = (s.extract n (n + m + 1)).toList then some (outF (codeAt s n (m + 1) 0), s, ((n + m + 1 : Nat) : Int), false) else some (0, s, (n : Int), true))) r → Ev (fun k => abugidaref02_Reader_Int.f k s (n : Int) false) r := fun r hr => by
      unfold abugidaref02_Reader_Int.f
      refine evN (by decide) ?_
      refine evI ⟨by omega, by omega, by omega⟩ ?_
      simp only [Int.toNat_natCast, hce]
      exact hr
    have hsim : Sim (s.extract n s.size) true s (n : Int) true := ⟨rfl, fun h => by cases h⟩
    by_cases r1 : m = 10 ∨ s.size - n ≤ m
    · exact ⟨0, _, (n : Int), true, hno (by omega), hf _ (evI r1 (Ev.now _)), hsim, by omega, fun _ => rfl, fun _ => rfl⟩
    · have hxm := hxe (m + 1) (by omega)
      have hem := hee (m + 1) (by omega)
      rw [show n + (m + 1) = n + m + 1 by omega] at hem
      have hrange := out_range (codeAt s n (m + 1) 0) (codeAt_range s n _ _ (by omega))
      have hre := ref_Int_ev (outF (codeAt s n (m + 1) 0)) hrange.1 hrange.2
      have hbm : bn (s.extract n s.size) m < 128 := by omega
      by_cases r2 : 0 < m ∧ bn (s.extract n s.size) m = 0 ∨ m = 9 ∧ 1 < bn (s.extract n s.size) m
      · have hpn := hno (.inr (.inr ⟨hbm, r2⟩))
        refine ⟨0, _, (n : Int), true, hpn, hf _ (evN r1 (Ev.bind hre (evN (fun he => ?_) (Ev.now _)))), hsim, by omega, fun _ => rfl, fun _ => rfl⟩
        have he2 := ext_of_toList he
        have hlen : (vb (zig (outF (codeAt s n (m + 1) 0)))).length = m + 1 := by
          rw [← IntB_size, he2, ByteArray.size_extract]; omega
        have key := Reader_loop (s.extract n s.size) (outF (codeAt s n (m + 1) 0)) hrange.1 hrange.2 _ 0 rfl (.inl rfl) (by
          intro j x hx
          rw [Nat.mul_zero, Nat.pow_zero, Nat.div_one] at hx
          have hj : j < m + 1 := by rw [← hlen]; exact (List.getElem?_eq_some_iff.1 hx).1
          have h1 := nums_bt _ (vb_lt _) j x hx
          rw [Nat.zero_add, ← h1, show nums (vb (zig (outF (codeAt s n (m + 1) 0)))) = IntB (outF (codeAt s n (m + 1) 0)) from rfl, he2, hem, bt_ext _ 0 (m + 1) j (by omega) (by omega), Nat.zero_add])
          (by rw [Nat.mul_zero, Nat.pow_zero, Nat.div_one, hlen]; omega) (by omega)
        rw [Nat.mul_zero, Nat.pow_zero, Nat.mod_one] at key
        have hu := Ev.unique hpn key
        simp only [Prod.mk.injEq] at hu
        exact absurd hu.2.2 (by decide)
      · have hcn : vb (valL (byL (s.extract n s.size) 0 (m + 1))) = byL (s.extract n s.size) 0 (m + 1) := by
          rcases Nat.eq_zero_or_pos m with h0 | h0
          · subst h0
            have e : byL (s.extract n s.size) 0 (0 + 1) = [bn (s.extract n s.size) 0] := rfl
            rw [e, show valL [bn (s.extract n s.size) 0] = bn (s.extract n s.size) 0 by simp [valL]; omega]
            exact vb_lo hbm
          · exact (vb_val _ (Cn_by _ m 0 (fun j hj => by rw [Nat.zero_add]; exact (hb j hj).2) (by rw [Nat.zero_add]; omega) (by rw [Nat.zero_add]; omega))).1
        have hc64 : valL (byL (s.extract n s.size) 0 (m + 1)) < 18446744073709551616 := by
          have hv := valL_by (s.extract n s.size) m
          have hl := valL_lt (byL (s.extract n s.size) 0 m)
          rw [byL_len] at hl
          rcases Nat.lt_or_ge m 9 with h9 | h9
          · have := valL_lt (byL (s.extract n s.size) 0 (m + 1))
            rw [byL_len] at this
            have hp : 128 ^ (m + 1) ≤ 128 ^ 9 := Nat.pow_le_pow_right (by omega) (by omega)
            omega
          · obtain rfl : m = 9 := by omega
            have : bn (s.extract n s.size) 9 % 128 ≤ 1 := by omega
            have := Nat.mul_le_mul_right (128 ^ 9) this
            omega
        have hcode : codeAt s n (m + 1) 0 = ((valL (byL (s.extract n s.size) 0 (m + 1)) : Nat) : Int) := by
          rw [hxm]
          have := code_val (s.extract n s.size) (m + 1) 0 (by omega)
          simpa using this
        have hz := zig_out _ hc64
        rw [← hcode] at hz
        have hlen : (vb (zig (outF (codeAt s n (m + 1) 0)))).length = m + 1 := by rw [hz, hcn, byL_len]
        have hhas : ∀ (j x : Nat), (vb (zig (outF (codeAt s n (m + 1) 0))))[j]? = some x → bt (s.extract n s.size) (j : Int) = (x : Int) := fun j x hx => by
          rw [hz, hcn] at hx
          have hj : j < m + 1 := by have := (List.getElem?_eq_some_iff.1 hx).1; rwa [byL_len] at this
          rw [byL_get _ (m + 1) 0 j hj] at hx
          injection hx with hx
          rw [bt_bn, ← hx, Nat.zero_add]
        have key := Reader_loop (s.extract n s.size) (outF (codeAt s n (m + 1) 0)) hrange.1 hrange.2 _ 0 rfl (.inl rfl) (by
          intro j x hx
          rw [Nat.mul_zero, Nat.pow_zero, Nat.div_one] at hx
          rw [Nat.zero_add]
          exact hhas j x hx)
          (by rw [Nat.mul_zero, Nat.pow_zero, Nat.div_one, hlen]; omega) (by omega)
        rw [Nat.mul_zero, Nat.pow_zero, Nat.mod_one, Nat.div_one, hlen, Nat.zero_add, her (m + 1) (by omega)] at key
        refine ⟨_, _, ((n + m + 1 : Nat) : Int), false, key, hf _ (evN r1 (Ev.bind hre (evI ?_ (Ev.now _)))), ⟨rfl, fun _ => ⟨n + m + 1, rfl, by omega, rfl⟩⟩, hrange, (fun h => by cases h), (fun h => by cases h)⟩
        congr 1
        rw [hem]
        refine ext_bt ?_ fun j hj => ?_
        · rw [IntB_size, hlen, ByteArray.size_extract]; omega
        · rw [IntB_size, hlen] at hj
          obtain ⟨x, hx⟩ := get_some (l := vb (zig (outF (codeAt s n (m + 1) 0)))) (i := j) (by omega)
          rw [bt_ext _ 0 (m + 1) j (by omega) (by omega), Nat.zero_add, hhas j x hx]
          exact nums_bt _ (vb_lt _) j x hx
end Go.Proofs.Ytibdgpnedlpdbaa.Pure
