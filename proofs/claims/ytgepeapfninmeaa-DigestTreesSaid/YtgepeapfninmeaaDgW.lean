/- A byte changed changes a digest; the proof of an element leads to the top. -/
import Derived.Test.YtgepeapfninmeaaDgU
set_option linter.unusedVariables false
set_option linter.unusedSimpArgs false
namespace Go.Proofs.Ytgepeapfninmeaa.Pure
open Go.RowKit Go.Proofs.Ytgepeapfninmeaa.Pa Go.Proofs.YtgepeapfninmeaaW.PrintWords Go.Proofs.YtgepeapfninmeaaW.PrintLast Go.Proofs.YtgepeapfninmeaaW.PrintMore Go.Proofs.Ytgepeapfninmeaa.Gv Go.Proofs.Ytgepeapfninmeaa.Dg
theorem mod_ne {p a x y c : Int} (hg : Nat.Coprime p.natAbs a.natAbs) (hp : 0 < p) (hx : 0 ≤ x) (hx2 : x < p) (hy : 0 ≤ y) (hy2 : y < p) (h : (x * a + c + 1) % p = (y * a + c + 1) % p) : x = y := by
  have h1 : p ∣ (x - y) * a := by
    have h2 := Int.emod_eq_emod_iff_emod_sub_eq_zero.1 h
    have h3 := Int.dvd_of_emod_eq_zero h2
    rw [Int.sub_mul]
    rwa [show x * a + c + 1 - (y * a + c + 1) = x * a - y * a by omega] at h3
  have h2 : p ∣ x - y := by
    have h4 := Int.natAbs_dvd_natAbs.2 h1
    rw [Int.natAbs_mul] at h4
    exact Int.natAbs_dvd_natAbs.1 (Nat.Coprime.dvd_of_dvd_mul_right hg h4)
  obtain ⟨t, ht⟩ := h2
  have h3 : t < 1 := by
    rcases Int.lt_or_le t 1 with h | h
    · exact h
    · have := Int.mul_le_mul_of_nonneg_left h (show 0 ≤ p by omega)
      omega
  have h4 : -1 < t := by
    rcases Int.lt_or_le (-1) t with h | h
    · exact h
    · have := Int.mul_le_mul_of_nonneg_left h (show 0 ≤ p by omega)
      omega
  obtain rfl : t = 0 := by omega
  omega
theorem add_ne {p z a b : Int} (ha : 0 ≤ a) (hb : 0 ≤ b) (ha2 : a < 256) (hb2 : b < 256) (hp : 256 < p) (h : (z + a + 1) % p = (z + b + 1) % p) : a = b := by
  have h2 := Int.emod_eq_emod_iff_emod_sub_eq_zero.1 h
  obtain ⟨t, ht⟩ := Int.dvd_of_emod_eq_zero h2
  have h3 : t < 1 := by
    rcases Int.lt_or_le t 1 with h | h
    · exact h
    · have := Int.mul_le_mul_of_nonneg_left h (show 0 ≤ p by omega)
      omega
  have h4 : -1 < t := by
    rcases Int.lt_or_le (-1) t with h | h
    · exact h
    · have := Int.mul_le_mul_of_nonneg_left h (show 0 ≤ p by omega)
      omega
  obtain rfl : t = 0 := by omega
  omega
theorem bb4 {x x' : Int} (hx : 0 ≤ x) (hx2 : x < 4294967296) (hy : 0 ≤ x') (hy2 : x' < 4294967296) (h0 : (x / 16777216) % 256 = (x' / 16777216) % 256) (h1 : (x / 65536) % 256 = (x' / 65536) % 256) (h2 : (x / 256) % 256 = (x' / 256) % 256) (h3 : (x / 1) % 256 = (x' / 1) % 256) : x = x' := by
  have a1 : x / 65536 / 256 = x / 16777216 := by rw [Int.ediv_ediv_of_nonneg (by omega)]; rfl
  have a2 : x / 256 / 256 = x / 65536 := by rw [Int.ediv_ediv_of_nonneg (by omega)]; rfl
  have b1 : x' / 65536 / 256 = x' / 16777216 := by rw [Int.ediv_ediv_of_nonneg (by omega)]; rfl
  have b2 : x' / 256 / 256 = x' / 65536 := by rw [Int.ediv_ediv_of_nonneg (by omega)]; rfl
  have e0 : x / 16777216 = x' / 16777216 := by omega
  have e1 : x / 65536 = x' / 65536 := by omega
  have e2 : x / 256 = x' / 256 := by omega
  omega
theorem sx_inj {x y c : Int} (hx : 0 ≤ x) (hx2 : x < 2147483647) (hy : 0 ≤ y) (hy2 : y < 2147483647) (h : sx x c = sx y c) : x = y :=
  mod_ne (p := 2147483647) (a := 1000003) (by decide +kernel) (by decide) hx hx2 hy hy2 h
theorem fx_inj (l : List UInt8) : ∀ x y : Int, 0 ≤ x → x < 2147483647 → 0 ≤ y → y < 2147483647 → fx x l = fx y l → x = y := by
  induction l with
  | nil => intro x y _ _ _ _ h; exact h
  | cons c l ih =>
    intro x y hx hx2 hy hy2 h
    have := ih (sx x c.toNat) (sx y c.toNat) (by unfold sx; omega) (by unfold sx; omega) (by unfold sx; omega) (by unfold sx; omega) h
    exact sx_inj hx hx2 hy hy2 this
theorem fx_app (a b : List UInt8) (x : Int) : fx x (a ++ b) = fx (fx x a) b := by simp [fx]
theorem fx_ne (pre post : List UInt8) (a b : UInt8) (h : a ≠ b) : fx 7 (pre ++ a :: post) ≠ fx 7 (pre ++ b :: post) := by
  intro he
  rw [fx_app, fx_app] at he
  obtain ⟨h0, h1⟩ := fx_range pre 7 (by omega) (by omega)
  have e : sx (fx 7 pre) a.toNat = sx (fx 7 pre) b.toNat := fx_inj post _ _ (by unfold sx; omega) (by unfold sx; omega) (by unfold sx; omega) (by unfold sx; omega) he
  have ha := a.toNat_lt
  have hb := b.toNat_lt
  unfold sx at e
  have := add_ne (by omega) (by omega) (by omega) (by omega) (by decide) e
  apply h
  apply UInt8.toNat_inj.1
  omega
theorem dg_inj {x y x' y' : Int} (hx : 0 ≤ x) (hx2 : x < 2147483647) (hy : 0 ≤ x') (hy2 : x' < 2147483647) (h : dg x y = dg x' y') : x = x' := by
  simp [dg, strOfNums] at h
  obtain ⟨h0, h1, h2, h3, -⟩ := h
  have k0 := congrArg UInt8.toNat h0
  have k1 := congrArg UInt8.toNat h1
  have k2 := congrArg UInt8.toNat h2
  have k3 := congrArg UInt8.toNat h3
  rw [UInt8.toNat_ofNat', UInt8.toNat_ofNat'] at k0 k1 k2 k3
  have hb : ∀ n p : Int, 0 ≤ bb n p ∧ bb n p < 256 := fun n p => by unfold bb; omega
  have e0 : bb x 16777216 = bb x' 16777216 := by have := hb x 16777216; have := hb x' 16777216; omega
  have e1 : bb x 65536 = bb x' 65536 := by have := hb x 65536; have := hb x' 65536; omega
  have e2 : bb x 256 = bb x' 256 := by have := hb x 256; have := hb x' 256; omega
  have e3 : bb x 1 = bb x' 1 := by have := hb x 1; have := hb x' 1; omega
  exact bb4 hx (by omega) hy (by omega) e0 e1 e2 e3
theorem OfB_ne {s t : ByteArray} (pre post : List UInt8) (a b : UInt8) (hs : s.data.toList = pre ++ a :: post) (ht : t.data.toList = pre ++ b :: post) (h : a ≠ b) : OfB s ≠ OfB t := by
  intro he
  unfold OfB at he
  rw [hs, ht] at he
  obtain ⟨h0, h1⟩ := fx_range (pre ++ a :: post) 7 (by omega) (by omega)
  obtain ⟨h2, h3⟩ := fx_range (pre ++ b :: post) 7 (by omega) (by omega)
  exact fx_ne pre post a b h (dg_inj h0 h1 h2 h3 he)
theorem RootB_ne (a b : Nat) (t : ByteArray) (ha : a < 256) (hb : b < 256) (h : a ≠ b) : RootB a t ≠ RootB b t := by
  unfold RootB
  refine OfB_ne [2] t.data.toList (UInt8.ofNat a) (UInt8.ofNat b) ?_ ?_ ?_
  · simp [strOfNums, show ((a : Int) % 256).toNat = a by omega]
  · simp [strOfNums, show ((b : Int) % 256).toNat = b by omega]
  · intro he
    have := congrArg UInt8.toNat he
    rw [UInt8.toNat_ofNat', UInt8.toNat_ofNat'] at this
    omega
theorem lev_get (r : List ByteArray) (k m : Nat) (h : m < (lev r (k + 1)).length) : (lev r (k + 1)).getD m ⟨#[]⟩ = PairB ((lev r k).getD (2 * m) ⟨#[]⟩) ((lev r k).getD (2 * m + 1) ⟨#[]⟩) := by
  have h' : m < (lev r k).length / 2 := by rw [← above_len]; exact h
  show (above (lev r k)).getD m ⟨#[]⟩ = _
  unfold above
  rw [List.getD_eq_getElem?_getD, List.getElem?_map, List.getElem?_range h']
  rfl
theorem ProofL_take (l : List ByteArray) (i : Nat) {n : Nat} (h : n < hof l.length) : (ProofL l (hof l.length) i)[n]? = some ((lev (fill l (2 ^ hof l.length)) n).getD (nb (i / 2 ^ n)) ⟨#[]⟩) := by
  simp [ProofL, h]
theorem leaf_fill (l : List ByteArray) (i m : Nat) (s : ByteArray) (h : l[i]? = some s) : (fill l m).getD i ⟨#[]⟩ = s := by
  have hi : i < l.length := (List.getElem?_eq_some_iff.1 h).1
  simp [fill, List.getD_eq_getElem?_getD, List.getElem?_append_left hi, h]
/-- The first steps of a proof lead to a level's element. -/
theorem vf_level (l : List ByteArray) (i : Nat) (s : ByteArray) (h : l[i]? = some s) : ∀ n, n ≤ hof l.length →
    vf s i ((ProofL l (hof l.length) i).take n) = ((lev (fill l (2 ^ hof l.length)) n).getD (i / 2 ^ n) ⟨#[]⟩, ((i / 2 ^ n : Nat) : Int)) := by
  have hi : i < l.length := (List.getElem?_eq_some_iff.1 h).1
  have hu := (up_hof l.length).2.1
  intro n
  induction n with
  | zero => intro _; simp only [List.take_zero, Nat.pow_zero, Nat.div_one]; rw [show lev (fill l (2 ^ hof l.length)) 0 = fill l (2 ^ hof l.length) from rfl, leaf_fill l i _ s h]; rfl
  | succ n ih =>
    intro hn
    rw [vf_snoc s i _ n _ (ProofL_take l i (by omega)), ih (by omega)]
    have hd2 : i / 2 ^ n / 2 = i / 2 ^ (n + 1) := by rw [Nat.div_div_eq_div_mul, Nat.pow_succ]
    have hlt : i / 2 ^ (n + 1) < (lev (fill l (2 ^ hof l.length)) (n + 1)).length := by
      rw [lev_len' l hn, Nat.div_lt_iff_lt_mul (Nat.pow_pos (by omega)), ← Nat.pow_add, show hof l.length - (n + 1) + (n + 1) = hof l.length by omega]
      omega
    rw [lev_get _ _ _ hlt, ← hd2]
    generalize i / 2 ^ n = m
    unfold vstep
    by_cases he : m % 2 = 0
    · rw [if_pos (by simp only; omega), nb_even he, show 2 * (m / 2) = m by omega]
      simp
    · rw [if_neg (by simp only; omega), nb_odd (by omega), show 2 * (m / 2) = m - 1 by omega, show m - 1 + 1 = m by omega]
      simp
theorem ProofL_len (l : List ByteArray) (h i : Nat) : (ProofL l h i).length = h := by simp [ProofL]
theorem vf_top (l : List ByteArray) (i : Nat) (s : ByteArray) (h : l[i]? = some s) : (vf s i (ProofL l (hof l.length) i)).1 = (lev (fill l (2 ^ hof l.length)) (hof l.length)).getD 0 ⟨#[]⟩ := by
  have hi : i < l.length := (List.getElem?_eq_some_iff.1 h).1
  have hu := (up_hof l.length).2.1
  have := vf_level l i s h _ (Nat.le_refl _)
  rw [List.take_of_length_le (by rw [ProofL_len]; omega), Nat.div_eq_of_lt (by omega)] at this
  rw [this]
theorem ProofF_in (l : List ByteArray) (i : Nat) (h : i < l.length) : ProofF l i = ProofL l (hof l.length) i := by
  unfold ProofF
  rw [if_neg (by omega)]
  rfl
theorem ProofL_mem (l : List ByteArray) (hs : ∀ s ∈ l, s.size ≤ 9000) (i : Nat) : ∀ s ∈ ProofL l (hof l.length) i, s.size ≤ 9000 := by
  intro s hm
  simp only [ProofL, List.mem_map, List.mem_range] at hm
  obtain ⟨k, _, rfl⟩ := hm
  rw [List.getD_eq_getElem?_getD]
  rcases h : (lev (fill l (2 ^ hof l.length)) k)[nb (i / 2 ^ k)]? with _ | t
  · decide
  · exact lev_mem _ (fill_mem l _ hs) k t (List.mem_of_getElem? h)
theorem vf_append (s : ByteArray) (i : Int) (a b : List ByteArray) : vf s i (a ++ b) = vf (vf s i a).1 (vf s i a).2 b := by simp [vf]
theorem hof_more (n m : Nat) (h : n + m ≤ 2 ^ hof n) : hof (n + m) = hof n := by
  have hu := up_hof n
  exact up_unique (up_hof (n + m)) ⟨⟨_, rfl⟩, h, hu.2.2.imp id (by omega)⟩
theorem fill_more (l : List ByteArray) (m : Nat) (h : l.length + m ≤ 2 ^ hof l.length) : RootF (l ++ List.replicate m ⟨#[]⟩) = RootF l := by
  have hlen : (l ++ List.replicate m (⟨#[]⟩ : ByteArray)).length = l.length + m := by simp
  unfold RootF
  rw [hlen, hof_more _ _ h]
  have e : fill (l ++ List.replicate m ⟨#[]⟩) (2 ^ hof l.length) = fill l (2 ^ hof l.length) := by
    unfold fill
    rw [hlen, List.append_assoc, List.replicate_append_replicate, show m + (2 ^ hof l.length - (l.length + m)) = 2 ^ hof l.length - l.length by omega]
  rw [e]
end Go.Proofs.Ytgepeapfninmeaa.Pure
