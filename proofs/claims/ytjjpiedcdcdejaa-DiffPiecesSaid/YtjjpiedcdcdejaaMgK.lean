/- Several texts of this claim, one behind the other: DfK, DfL, DfM. -/
import Derived.Test.YtjjpiedcdcdejaaMgD
/- What Make computes, plain: the longest pieces, and the reference's ones. -/
set_option linter.unusedVariables false
set_option linter.unusedSimpArgs false
namespace Go.Proofs.Ytjjpiedcdcdejaa.Pure
open Go.RowKit Go.Proofs.Ytjjpiedcdcdejaa.Pb Go.Proofs.YtjjpiedcdcdejaaW.PrintWords Go.Proofs.YtjjpiedcdcdejaaW.PrintLast Go.Proofs.YtjjpiedcdcdejaaW.PrintMore Go.Proofs.Ytjjpiedcdcdejaa.Gw Go.Proofs.Ytjjpiedcdcdejaa.Df
theorem cml_spec (a b : ByteArray) : ∀ (k i : Nat), i ≤ min a.size b.size → min a.size b.size + 1 ≤ i + k →
    (∀ j, i ≤ j → j < i + cml k a b i → bt a (j : Int) = bt b (j : Int)) ∧ (i + cml k a b i < a.size → i + cml k a b i < b.size → bt a ((i + cml k a b i : Nat) : Int) ≠ bt b ((i + cml k a b i : Nat) : Int))
  | 0, i, h, h2 => by omega
  | k + 1, i, h, h2 => by
    unfold cml
    split
    · rename_i hc
      obtain ⟨h3, h4⟩ := cml_spec a b k (i + 1) (by omega) (by omega)
      rw [show i + (cml k a b (i + 1) + 1) = i + 1 + cml k a b (i + 1) by omega]
      refine ⟨fun j hj hj2 => ?_, h4⟩
      by_cases e : j = i
      · subst e; exact hc.2.2
      · exact h3 j (by omega) hj2
    · rename_i hc
      refine ⟨fun j hj hj2 => by omega, fun ha hb e => hc ⟨by omega, by omega, by simpa using e⟩⟩
theorem cm_spec (a b : ByteArray) : (∀ j, j < cm a b → bt a (j : Int) = bt b (j : Int)) ∧ (cm a b < a.size → cm a b < b.size → bt a (cm a b : Int) ≠ bt b (cm a b : Int)) := by
  have h := cml_spec a b (min a.size b.size + 1) 0 (Nat.zero_le _) (by omega)
  simp only [Nat.zero_add] at h
  exact ⟨fun j hj => h.1 j (Nat.zero_le _) hj, h.2⟩
theorem like_spec (s tg : ByteArray) (k a : Nat) (hk : k ≤ s.size) (ha : a ≤ tg.size) :
    k + like s tg k a ≤ s.size ∧ a + like s tg k a ≤ tg.size ∧ (∀ j, j < like s tg k a → bt s ((k + j : Nat) : Int) = bt tg ((a + j : Nat) : Int)) ∧
    (k + like s tg k a < s.size → a + like s tg k a < tg.size → bt s ((k + like s tg k a : Nat) : Int) ≠ bt tg ((a + like s tg k a : Nat) : Int)) := by
  have h1 := cm_le (s.extract k s.size) (tg.extract a tg.size)
  obtain ⟨h2, h3⟩ := cm_spec (s.extract k s.size) (tg.extract a tg.size)
  have e : like s tg k a = cm (s.extract k s.size) (tg.extract a tg.size) := rfl
  rw [e]
  generalize cm (s.extract k s.size) (tg.extract a tg.size) = n at *
  have z1 : (s.extract k s.size).size = s.size - k := by rw [ByteArray.size_extract]; omega
  have z2 : (tg.extract a tg.size).size = tg.size - a := by rw [ByteArray.size_extract]; omega
  rw [z1, z2] at h1
  rw [z1, z2] at h3
  refine ⟨by omega, by omega, fun j hj => ?_, fun hs ht => ?_⟩
  · have := h2 j hj
    rwa [bt_ext s k s.size j (by omega) (Nat.le_refl _), bt_ext tg a tg.size j (by omega) (Nat.le_refl _)] at this
  · have := h3 (by omega) (by omega)
    rwa [bt_ext s k s.size n (by omega) (Nat.le_refl _), bt_ext tg a tg.size n (by omega) (Nat.le_refl _)] at this
/-- A piece that fits is not longer than what is alike. -/
theorem like_ge (s tg : ByteArray) (k a n : Nat) (hs : k + n ≤ s.size) (ha : a + n ≤ tg.size) (h : ∀ j, j < n → bt s ((k + j : Nat) : Int) = bt tg ((a + j : Nat) : Int)) : n ≤ like s tg k a := by
  obtain ⟨h1, h2, h3, h4⟩ := like_spec s tg k a (by omega) (by omega)
  by_cases e : n ≤ like s tg k a
  · exact e
  · exact absurd (h _ (by omega)) (h4 (by omega) (by omega))
theorem ext_eq_iff (s t : ByteArray) (k a n : Nat) (hs : k + n ≤ s.size) (ha : a + n ≤ t.size) : s.extract k (k + n) = t.extract a (a + n) ↔ ∀ j, j < n → bt s ((k + j : Nat) : Int) = bt t ((a + j : Nat) : Int) := by
  have z1 : (s.extract k (k + n)).size = n := by rw [ByteArray.size_extract]; omega
  have z2 : (t.extract a (a + n)).size = n := by rw [ByteArray.size_extract]; omega
  constructor
  · intro h j hj
    rw [← bt_ext s k (k + n) j (by omega) (by omega), ← bt_ext t a (a + n) j (by omega) (by omega), h]
  · intro h
    refine ext_bt (by rw [z1, z2]) fun j hj => ?_
    rw [z1] at hj
    rw [bt_ext s k (k + n) j (by omega) (by omega), bt_ext t a (a + n) j (by omega) (by omega)]
    exact h j hj
theorem ext_like (s t : ByteArray) (k a n : Nat) (hs : k + n ≤ s.size) (ha : a + n ≤ t.size) : s.extract k (k + n) = t.extract a (a + n) ↔ n ≤ like s t k a := by
  rw [ext_eq_iff s t k a n hs ha]
  constructor
  · exact like_ge s t k a n hs ha
  · intro h j hj
    exact (like_spec s t k a (by omega) (by omega)).2.2.1 j (by omega)
/-- The first of the longest ones, among d places from k on. -/
def lg (s tg : ByteArray) (a : Nat) : Nat → Nat → Int → Int → Int × Int
  | 0, _, f, m => (f, m)
  | d + 1, k, f, m => if m < (like s tg k a : Int) then lg s tg a d (k + 1) k (like s tg k a) else lg s tg a d (k + 1) f m
theorem lg_succ (s tg : ByteArray) (a d k : Nat) (f m : Int) : lg s tg a (d + 1) k f m = if m < (like s tg k a : Int) then lg s tg a d (k + 1) k (like s tg k a) else lg s tg a d (k + 1) f m := rfl
theorem lg_add (s tg : ByteArray) (a : Nat) : ∀ (d e k : Nat) (f m : Int), lg s tg a (d + e) k f m = lg s tg a e (k + d) (lg s tg a d k f m).1 (lg s tg a d k f m).2
  | 0, e, k, f, m => by rw [Nat.zero_add]; rfl
  | d + 1, e, k, f, m => by
    rw [show d + 1 + e = (d + e) + 1 by omega, lg_succ, lg_succ]
    split
    · rw [lg_add s tg a d e (k + 1), show k + 1 + d = k + (d + 1) by omega]
    · rw [lg_add s tg a d e (k + 1), show k + 1 + d = k + (d + 1) by omega]
/-- The first of the longest ones of all places ahead of k. -/
def IsB (s tg : ByteArray) (a k : Nat) (f m : Int) : Prop :=
  (m = 0 ∧ f = 0 ∧ ∀ j, j < k → like s tg j a = 0) ∨ ∃ p n : Nat, f = p ∧ m = n ∧ 0 < n ∧ p < k ∧ like s tg p a = n ∧ (∀ j, j < k → like s tg j a ≤ n) ∧ ∀ j, j < p → like s tg j a < n
theorem lg_isB (s tg : ByteArray) (a : Nat) : ∀ (d k : Nat) (f m : Int), IsB s tg a k f m → IsB s tg a (k + d) (lg s tg a d k f m).1 (lg s tg a d k f m).2
  | 0, k, f, m, h => h
  | d + 1, k, f, m, h => by
    unfold lg
    rw [show k + (d + 1) = k + 1 + d by omega]
    split
    · rename_i hlt
      refine lg_isB s tg a d (k + 1) _ _ (.inr ⟨k, _, rfl, rfl, ?_, by omega, rfl, fun j hj => ?_, fun j hj => ?_⟩)
      · rcases h with ⟨rfl, _⟩ | ⟨p, n, _, rfl, h, _⟩ <;> omega
      · by_cases e : j = k
        · subst e; exact Nat.le_refl _
        · rcases h with ⟨rfl, _, h⟩ | ⟨p, n, _, rfl, _, _, _, h, _⟩
          · have := h j (by omega); omega
          · have := h j (by omega); omega
      · rcases h with ⟨rfl, _, h⟩ | ⟨p, n, _, rfl, _, _, _, h, _⟩
        · have := h j (by omega); omega
        · have := h j (by omega); omega
    · rename_i hlt
      refine lg_isB s tg a d (k + 1) _ _ ?_
      rcases h with ⟨rfl, rfl, h⟩ | ⟨p, n, rfl, rfl, h1, h2, h3, h4, h5⟩
      · refine .inl ⟨rfl, rfl, fun j hj => ?_⟩
        by_cases e : j = k
        · subst e; omega
        · exact h j (by omega)
      · refine .inr ⟨p, n, rfl, rfl, h1, by omega, h3, fun j hj => ?_, h5⟩
        by_cases e : j = k
        · subst e; omega
        · exact h4 j (by omega)
def lgAt (s tg : ByteArray) (a : Nat) : Int × Int := lg s tg a s.size 0 0 0
theorem lgAt_isB (s tg : ByteArray) (a : Nat) : IsB s tg a s.size (lgAt s tg a).1 (lgAt s tg a).2 := by
  have := lg_isB s tg a s.size 0 0 0 (.inl ⟨rfl, rfl, fun j hj => by omega⟩)
  rwa [Nat.zero_add] at this
/-- What is taken beside the longest of all. -/
def Rel4 (x y : Int × Int) : Prop := (4 ≤ x.2 ∧ y = x) ∨ (x = (0, 0) ∧ y.2 < 4)
theorem lg_stay (s tg : ByteArray) (a : Nat) : ∀ (d k : Nat) (f m : Int), (∀ j : Nat, j < k + d → (like s tg j a : Int) ≤ m) → lg s tg a d k f m = (f, m)
  | 0, k, f, m, h => rfl
  | d + 1, k, f, m, h => by
    unfold lg
    rw [if_neg (by have := h k (by omega); omega)]
    exact lg_stay s tg a d (k + 1) f m (fun j hj => h j (by omega))
theorem lg_low (s tg : ByteArray) (a : Nat) : ∀ (d k : Nat) (f m : Int), (∀ j : Nat, k ≤ j → j < k + d → like s tg j a < 4) → m < 4 → (lg s tg a d k f m).2 < 4
  | 0, k, f, m, h, hm => hm
  | d + 1, k, f, m, h, hm => by
    have h0 := h k (Nat.le_refl _) (by omega)
    unfold lg
    split
    · exact lg_low s tg a d (k + 1) _ _ (fun j h1 h2 => h j (by omega) (by omega)) (by omega)
    · exact lg_low s tg a d (k + 1) _ _ (fun j h1 h2 => h j (by omega) (by omega)) hm
theorem lg_hi (s tg : ByteArray) (a : Nat) : ∀ (d k : Nat) (f m : Int), (∀ j : Nat, k ≤ j → j < k + d → like s tg j a < 4) → 4 ≤ m → lg s tg a d k f m = (f, m)
  | 0, k, f, m, h, hm => rfl
  | d + 1, k, f, m, h, hm => by
    have h0 := h k (Nat.le_refl _) (by omega)
    unfold lg
    rw [if_neg (by omega)]
    exact lg_hi s tg a d (k + 1) _ _ (fun j h1 h2 => h j (by omega) (by omega)) hm
def occF (s q : ByteArray) (k d : Nat) : List Int := ((List.range' k d).filter (fun j => decide (s.extract j (j + 4) = q))).map (fun j : Nat => (j : Int))
theorem occ_eq (s q : ByteArray) (n : Nat) : occ s q n = occF s q 0 n := by rw [occ, occF, List.range_eq_range']
theorem occF_succ (s q : ByteArray) (k d : Nat) : occF s q k (d + 1) = if s.extract k (k + 4) = q then (k : Int) :: occF s q (k + 1) d else occF s q (k + 1) d := by
  unfold occF
  rw [List.range'_succ, List.filter_cons]
  by_cases h : s.extract k (k + 4) = q <;> simp [h]
theorem best_lg (s tg : ByteArray) (a : Nat) (ha : a + 4 ≤ tg.size) : ∀ (d k : Nat) (f m : Int) (f' m' : Int), k + d + 3 ≤ s.size → Rel4 (f, m) (f', m') → (∀ j : Nat, j < k → (like s tg j a : Int) ≤ m') →
    Rel4 (best s tg a (occF s (tg.extract a (a + 4)) k d) f m) (lg s tg a d k f' m')
  | 0, k, f, m, f', m', hk, hr, hj => hr
  | d + 1, k, f, m, f', m', hk, hr, hj => by
    have hx := ext_like s tg k a 4 (by omega) ha
    rw [occF_succ]
    unfold lg
    by_cases hl : 4 ≤ like s tg k a
    · rw [if_pos (hx.2 hl)]
      rcases hr with ⟨hm, hr⟩ | ⟨hr, hm⟩
      · injection hr with e1 e2; subst e1 e2
        have hm : 4 ≤ m' := hm
        by_cases hlt : m' < (like s tg k a : Int)
        · rw [if_pos hlt]
          by_cases he : (a : Int) + (like s tg k a : Int) = tg.size
          · rw [best_yes_end rfl hlt he, lg_stay s tg a d (k + 1) _ _ (fun j hj2 => by have := like_le s tg j a; omega)]
            exact .inl ⟨by show (4 : Int) ≤ (like s tg k a : Int); omega, rfl⟩
          · rw [best_yes rfl hlt he]
            refine best_lg s tg a ha d (k + 1) _ _ _ _ (by omega) (.inl ⟨by show (4 : Int) ≤ (like s tg k a : Int); omega, rfl⟩) (fun j hj2 => ?_)
            by_cases e : j = k
            · subst e; exact Int.le_refl _
            · have := hj j (by omega); omega
        · rw [if_neg hlt]
          by_cases he : (a : Int) + m' = tg.size
          · rw [best_no_end rfl hlt he, lg_stay s tg a d (k + 1) _ _ (fun j hj2 => by have := like_le s tg j a; omega)]
            exact .inl ⟨hm, rfl⟩
          · rw [best_no rfl hlt he]
            refine best_lg s tg a ha d (k + 1) _ _ _ _ (by omega) (.inl ⟨hm, rfl⟩) (fun j hj2 => ?_)
            by_cases e : j = k
            · subst e; omega
            · exact hj j (by omega)
      · injection hr with e1 e2; subst e1 e2
        have hm : m' < 4 := hm
        rw [if_pos (by omega)]
        by_cases he : (a : Int) + (like s tg k a : Int) = tg.size
        · rw [best_yes_end rfl (by omega) he, lg_stay s tg a d (k + 1) _ _ (fun j hj2 => by have := like_le s tg j a; omega)]
          exact .inl ⟨by show (4 : Int) ≤ (like s tg k a : Int); omega, rfl⟩
        · rw [best_yes rfl (by omega) he]
          refine best_lg s tg a ha d (k + 1) _ _ _ _ (by omega) (.inl ⟨by show (4 : Int) ≤ (like s tg k a : Int); omega, rfl⟩) (fun j hj2 => ?_)
          by_cases e : j = k
          · subst e; exact Int.le_refl _
          · have := hj j (by omega); omega
    · rw [if_neg (fun e => hl (hx.1 e))]
      split
      · rename_i hlt
        rcases hr with ⟨hm, hr⟩ | ⟨hr, hm⟩
        · injection hr with e1 e2; subst e1 e2
          have hm : 4 ≤ m' := hm
          omega
        · refine best_lg s tg a ha d (k + 1) _ _ _ _ (by omega) (.inr ⟨hr, by show (like s tg k a : Int) < 4; omega⟩) (fun j hj2 => ?_)
          by_cases e : j = k
          · subst e; exact Int.le_refl _
          · have := hj j (by omega); omega
      · rename_i hlt
        refine best_lg s tg a ha d (k + 1) _ _ _ _ (by omega) hr (fun j hj2 => ?_)
        by_cases e : j = k
        · subst e; omega
        · exact hj j (by omega)
theorem bestAt_lg (s tg : ByteArray) (a : Nat) (ha : a + 4 ≤ tg.size) : Rel4 (bestAt s tg a) (lgAt s tg a) := by
  unfold bestAt lgAt
  rw [occ_eq]
  by_cases h3 : 3 ≤ s.size
  · have h := best_lg s tg a ha (s.size - 3) 0 0 0 0 0 (by omega) (.inr ⟨rfl, by decide⟩) (fun j hj => by omega)
    have hlow : ∀ j : Nat, s.size - 3 ≤ j → j < s.size - 3 + 3 → like s tg j a < 4 := fun j h1 h2 => by have := (like_spec s tg j a (by omega) (by omega)).1; omega
    rw [show lg s tg a s.size 0 0 0 = lg s tg a ((s.size - 3) + 3) 0 0 0 by rw [Nat.sub_add_cancel h3], lg_add]
    rw [Nat.zero_add]
    rcases h with ⟨hm, hr⟩ | ⟨hr, hm⟩
    · refine .inl ⟨hm, ?_⟩
      rw [lg_hi s tg a 3 _ _ _ hlow (by rw [hr]; exact hm), hr]
    · exact .inr ⟨hr, lg_low s tg a 3 _ _ _ hlow hm⟩
  · rw [show s.size - 3 = 0 by omega]
    refine .inr ⟨rfl, lg_low s tg a _ _ _ _ (fun j _ h2 => ?_) (by decide)⟩
    have := (like_spec s tg j a (by omega) (by omega)).1
    omega
theorem lgAt_short (s tg : ByteArray) (a : Nat) (h : a ≤ tg.size) (ha : ¬ a + 4 ≤ tg.size) : (lgAt s tg a).2 < 4 :=
  lg_low s tg a _ _ _ _ (fun j _ h2 => by have := (like_spec s tg j a (by omega) h).2.1; omega) (by decide)
theorem wadd (k n : Nat) (h : k + n < 4611686018427387904) : wrap64 ((k : Int) + (n : Int)) = ((k + n : Nat) : Int) := by rw [w64 (by omega) (by omega)]; omega
theorem wadd1 (n : Nat) (h : n < 4611686018427387904) : wrap64 ((n : Int) + 1) = ((n + 1 : Nat) : Int) := w64 (by omega) (by omega)
end Go.Proofs.Ytjjpiedcdcdejaa.Pure

/- What Make and the reference's Make are: one difference; and what its pieces are like. -/
set_option linter.unusedVariables false
set_option linter.unusedSimpArgs false
namespace Go.Proofs.Ytjjpiedcdcdejaa.Pure
open Go.RowKit Go.Proofs.Ytjjpiedcdcdejaa.Pb Go.Proofs.YtjjpiedcdcdejaaW.PrintWords Go.Proofs.YtjjpiedcdcdejaaW.PrintLast Go.Proofs.YtjjpiedcdcdejaaW.PrintMore Go.Proofs.Ytjjpiedcdcdejaa.Gw Go.Proofs.Ytjjpiedcdcdejaa.Df
theorem pcs_none {s tg : ByteArray} {a fr : Nat} {cs : List Int} {ts : List ByteArray} (h : ¬ a + 4 ≤ tg.size) : ∀ k, pcs s tg k a fr cs ts = (cs, ts ++ [tg.extract fr tg.size])
  | 0 => rfl
  | k + 1 => pcs_end h
/-- No piece of four bytes begins here. -/
def NoL (s tg : ByteArray) (i : Nat) : Prop := ∀ j, j < s.size → like s tg j i < 4
/-- The pieces of a target from a place on. -/
inductive Seg (s tg : ByteArray) : Nat → List Int → List ByteArray → Prop
  | last (fr : Nat) : fr ≤ tg.size → (∀ i, fr ≤ i → i < tg.size → NoL s tg i) → Seg s tg fr [] [tg.extract fr tg.size]
  | copy (fr p f n : Nat) (cs : List Int) (ts : List ByteArray) : fr ≤ p → (∀ i, fr ≤ i → i < p → NoL s tg i) → 4 ≤ n → f < s.size → like s tg f p = n → (∀ j, j < s.size → like s tg j p ≤ n) → (∀ j, j < f → like s tg j p < n) → p + n ≤ tg.size → Seg s tg (p + n) cs ts →
    Seg s tg fr ((f : Int) :: (n : Int) :: cs) (tg.extract fr p :: ts)
theorem noL_of_rel {s tg : ByteArray} {a : Nat} (h : (lgAt s tg a).2 < 4) : NoL s tg a := by
  intro j hj
  rcases lgAt_isB s tg a with ⟨h1, h2, h3⟩ | ⟨p, n, h1, h2, h3, h4, h5, h6, h7⟩
  · have := h3 j hj; omega
  · have := h6 j hj; omega
theorem noL_short {s tg : ByteArray} {a : Nat} (h : ¬ a + 4 ≤ tg.size) (ha : a ≤ tg.size) : NoL s tg a := noL_of_rel (lgAt_short s tg a ha h)
theorem pcs_seg (s tg : ByteArray) (d : Nat) : ∀ (k a fr : Nat) (cs : List Int) (ts : List ByteArray), tg.size - a ≤ d → a ≤ tg.size → fr ≤ a → tg.size + 1 ≤ a + k → (∀ i, fr ≤ i → i < a → NoL s tg i) →
    ∃ cs' ts', pcs s tg k a fr cs ts = (cs ++ cs', ts ++ ts') ∧ Seg s tg fr cs' ts' := by
  induction d with
  | zero =>
    intro k a fr cs ts hd ha hf hk hN
    obtain rfl : a = tg.size := by omega
    exact ⟨[], _, by rw [pcs_none (by omega), List.append_nil], Seg.last fr hf hN⟩
  | succ d ih =>
    intro k a fr cs ts hd ha hf hk hN
    by_cases c : a + 4 ≤ tg.size
    · obtain ⟨k1, rfl⟩ : ∃ k1, k = k1 + 1 := ⟨k - 1, by omega⟩
      rcases bestAt_lg s tg a c with ⟨h4, he⟩ | ⟨h0, h4⟩
      · have hB := lgAt_isB s tg a
        have hbd := bestAt_bound s tg a ha
        rw [he] at hB
        rw [pcs_take c (by omega)]
        generalize bestAt s tg a = p at h4 hB hbd ⊢
        obtain ⟨f, m⟩ := p
        have h4 : 4 ≤ m := h4
        rcases hB with ⟨h1, _⟩ | ⟨p, n, h1, h2, h3, h5, h6, h7, h8⟩
        · have h1 : m = 0 := h1
          omega
        · have h1 : f = (p : Int) := h1
          have h2 : m = (n : Int) := h2
          subst h1 h2
          have hbd2 : (n : Int) ≤ (tg.size : Int) - a := hbd.2
          obtain ⟨cs', ts', e, hS⟩ := ih k1 (a + n) (a + n) (cs ++ [(p : Int), (n : Int)]) (ts ++ [tg.extract fr a]) (by omega) (by omega) (Nat.le_refl _) (by omega) (fun i h1 h2 => by omega)
          refine ⟨(p : Int) :: (n : Int) :: cs', tg.extract fr a :: ts', ?_, Seg.copy fr a p n cs' ts' hf hN (by omega) h5 h6 h7 h8 (by omega) hS⟩
          refine Eq.trans e ?_
          rw [List.append_assoc, List.append_assoc]
          rfl
      · rw [pcs_skip c (by rw [h0])]
        refine ih k1 (a + 1) fr cs ts (by omega) (by omega) (by omega) (by omega) (fun i h1 h2 => ?_)
        by_cases e : i = a
        · subst e; exact noL_of_rel h4
        · exact hN i h1 (by omega)
    · refine ⟨[], _, by rw [pcs_none c, List.append_nil], Seg.last fr (by omega) (fun i h1 h2 => ?_)⟩
      by_cases e : i < a
      · exact hN i h1 e
      · exact noL_short (by omega) (by omega)
theorem Pcs_seg (s tg : ByteArray) : Seg s tg 0 (Pcs s tg).1 (Pcs s tg).2 := by
  obtain ⟨cs, ts, e, h⟩ := pcs_seg s tg tg.size (tg.size + 1) 0 0 [] [] (by omega) (by omega) (by omega) (by omega) (fun i _ h => by omega)
  rw [List.nil_append, List.nil_append] at e
  unfold Pcs
  rw [e]
  exact h
theorem Seg.lens {s tg : ByteArray} {fr : Nat} {cs : List Int} {ts : List ByteArray} (h : Seg s tg fr cs ts) : 2 * ts.length = cs.length + 2 ∧ 2 * cs.length ≤ tg.size - fr := by
  induction h with
  | last fr h hN => exact ⟨rfl, Nat.zero_le _⟩
  | copy fr p f n cs ts hf hN h4 hfs hl hm hm2 hp hS ih =>
    simp only [List.length_cons]
    omega
theorem Seg.bounds {s tg : ByteArray} {fr : Nat} {cs : List Int} {ts : List ByteArray} (h : Seg s tg fr cs ts) : (∀ x ∈ cs, 0 ≤ x ∧ x ≤ s.size) ∧ ∀ t ∈ ts, t.size ≤ tg.size := by
  induction h with
  | last fr h hN =>
    refine ⟨fun x hx => (List.not_mem_nil hx).elim, fun t ht => ?_⟩
    rw [List.mem_singleton.1 ht, ByteArray.size_extract]
    omega
  | copy fr p f n cs ts hf hN h4 hfs hl hm hm2 hp hS ih =>
    have := (like_spec s tg f p (by omega) (by omega)).1
    refine ⟨fun x hx => ?_, fun t ht => ?_⟩
    · rcases List.mem_cons.1 hx with rfl | hx
      · omega
      · rcases List.mem_cons.1 hx with rfl | hx
        · omega
        · exact ih.1 x hx
    · rcases List.mem_cons.1 ht with rfl | ht
      · rw [ByteArray.size_extract]; omega
      · exact ih.2 t ht
/-- A difference. -/
def codeB (cs : List Int) (ts : List ByteArray) : ByteArray := IntsB cs ++ TextsB ts
def MakeB (s tg : ByteArray) : ByteArray := codeB (Pcs s tg).1 (Pcs s tg).2
theorem ok64_of {cs : List Int} {N : Nat} (h : ∀ x ∈ cs, 0 ≤ x ∧ x ≤ (N : Int)) (hN : N ≤ 1000000) : Ok64 cs := fun x hx => by have := h x hx; omega
theorem codeB_size (cs : List Int) (ts : List ByteArray) (hc : cs.length ≤ 1000) (ht : ts.length ≤ 1000) (h : Ok64 cs) (h2 : ∀ t ∈ ts, t.size ≤ 70000) : (codeB cs ts).size ≤ 100000000 := by
  have h1 := IntsB_size cs hc h
  have h2 := TextsB_size ts ht h2
  rw [codeB, ByteArray.size_append]
  omega
/-- The lists of a difference are small enough. -/
structure Small (cs : List Int) (ts : List ByteArray) : Prop where
  c : cs.length ≤ 1000
  t : ts.length ≤ 1000
  o : Ok64 cs
  z : ∀ t ∈ ts, t.size ≤ 70000
theorem Pcs_small (s tg : ByteArray) (hs : s.size ≤ 1000000) (ht : tg.size ≤ 70000) (hc : (Pcs s tg).1.length ≤ 1000) : Small (Pcs s tg).1 (Pcs s tg).2 := by
  have h := Pcs_seg s tg
  have h1 := h.lens
  have h2 := h.bounds
  exact ⟨hc, by omega, ok64_of h2.1 hs, fun t h => Nat.le_trans (h2.2 t h) ht⟩
theorem Pcs_small' (s tg : ByteArray) (hs : s.size ≤ 1000000) (ht : tg.size ≤ 2000) : Small (Pcs s tg).1 (Pcs s tg).2 :=
  Pcs_small s tg hs (by omega) (by have := (Pcs_seg s tg).lens; omega)
theorem Make_ev (s tg : ByteArray) (hs : s.size ≤ 65536) (ht : tg.size ≤ 65536) (h : Small (Pcs s tg).1 (Pcs s tg).2) : Ev (fun k => diff_Make.f k s tg) (MakeB s tg) := by
  unfold diff_Make.f
  refine evI ht ?_
  have hb : base6 s = s := if_pos hs
  rw [hb]
  refine Ev.bind (wire_Ints_ev _ h.c h.o) ?_
  refine Ev.bind (wire_Texts_ev _ h.t h.z) ?_
  have := codeB_size _ _ h.c h.t h.o h.z
  rw [codeB, ByteArray.size_append] at this
  refine evI (by omega) ?_
  exact Ev.now _
theorem code_ev (cs : List Int) (ts : List ByteArray) (h : Small cs ts) : Ev (fun k => abugidalaw24_code.f k cs ts) (codeB cs ts) := by
  unfold abugidalaw24_code.f
  refine Ev.bind (ref_Ints_ev _ h.c h.o) ?_
  refine Ev.bind (ref_Texts_ev _ h.t h.z) ?_
  have := codeB_size _ _ h.c h.t h.o h.z
  rw [codeB, ByteArray.size_append] at this
  refine evI (by omega) ?_
  exact Ev.now _
end Go.Proofs.Ytjjpiedcdcdejaa.Pure

/- Apply: the code's and the reference's are one; what Apply makes of a difference. -/
set_option linter.unusedVariables false
set_option linter.unusedSimpArgs false
namespace Go.Proofs.Ytjjpiedcdcdejaa.Pure
open Go.RowKit Go.Proofs.Ytjjpiedcdcdejaa.Pb Go.Proofs.YtjjpiedcdcdejaaW.PrintWords Go.Proofs.YtjjpiedcdcdejaaW.PrintLast Go.Proofs.YtjjpiedcdcdejaaW.PrintMore Go.Proofs.Ytjjpiedcdcdejaa.Gw Go.Proofs.Ytjjpiedcdcdejaa.Df
theorem two_k (k : Nat) (h : k ≤ 1000000) : wrap64 (2 * (k : Int) + 1) = 2 * (k : Int) + 1 := w64 (by omega) (by omega)
theorem applyF_bad {s q : ByteArray} {cs : List Int} {ts : List ByteArray} {b : Bool} (h : b = true ∨ 0 < q.size ∨ ¬ 2 * ts.length = cs.length + 2) : applyF s cs ts q b = (⟨#[]⟩, 4) := if_pos h
/-- What Apply makes of a difference, with something behind it. -/
theorem Apply_code (s : ByteArray) (cs : List Int) (ts : List ByteArray) (rest : ByteArray) (h : Small cs ts) (hs : s.size ≤ 1000000) (hr : rest.size ≤ 1000) : Ev (fun k => diff_Apply.f k s (codeB cs ts ++ rest)) (applyF s cs ts rest false) := by
  have hz := TextsB_size ts h.t h.z
  have ht := h.t
  have hc := h.c
  unfold diff_Apply.f codeB
  rw [show IntsB cs ++ TextsB ts ++ rest = IntsB cs ++ (TextsB ts ++ rest) from ByteArray.append_assoc]
  refine Ev.bind (Ints_ev cs (TextsB ts ++ rest) h.c h.o (by rw [ByteArray.size_append]; omega)) ?_
  refine Ev.bind (Texts_ev ts rest h.t h.z (by omega)) ?_
  refine evI ⟨by omega, by show cs.length ≤ _; omega, by show ts.length ≤ _; omega, fun x hx => by have := h.z x hx; omega⟩ ?_
  exact Ev.now _
theorem Apply_code0 (s : ByteArray) (cs : List Int) (ts : List ByteArray) (h : Small cs ts) (hs : s.size ≤ 1000000) : Ev (fun k => diff_Apply.f k s (codeB cs ts)) (applyF s cs ts ⟨#[]⟩ false) := by
  have := Apply_code s cs ts ⟨#[]⟩ h hs (by decide)
  rwa [show codeB cs ts ++ ⟨#[]⟩ = codeB cs ts by apply ByteArray.ext; simp] at this
end Go.Proofs.Ytjjpiedcdcdejaa.Pure

